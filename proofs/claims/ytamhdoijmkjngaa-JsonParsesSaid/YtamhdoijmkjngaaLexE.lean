/- What the lexer answers; wrong, sign, code, put, walked. -/
import Derived.Test.YtamhdoijmkjngaaLexD
import Derived.Test.YtamhdoijmkjngaaUtfP
namespace Go.Proofs.Ytamhdoijmkjngaa
open Go.RowKit
set_option linter.unusedVariables false
set_option linter.unusedSimpArgs false

/-- A token, an error, as the program has them. -/
def tokV : LexR → Value
  | .tok k a s t => .agg #[.int .i64 (k : Nat), .int .i64 (a : Nat), .int .i64 (s : Nat), .string (txt t)]
  | .err _ _ => .agg #[.int .i64 0, .int .i64 0, .int .i64 0, .string ⟨#[]⟩]
def errV : LexR → Value
  | .tok .. => .agg #[.int .i64 0, .int .i64 0, .slice none 0 0]
  | .err e a => .agg #[.int .i64 (e : Nat), .int .i64 (a : Nat), .slice none 0 0]
def LexOut (w : World) (r : LexR) (e : Ending) (w' : World) : Prop := e = .returned (.tuple #[tokV r, errV r]) ∧ Below w.heap.size w w'

theorem ext_txt (s : ByteArray) (p q : Nat) : s.extract p q = txt (((sl s).drop p).take (q - p)) := by
  have e : sl (s.extract p q) = ((sl s).drop p).take (q - p) := by
    unfold sl; rw [ByteArray.data_extract, Array.toList_extract]
  rw [← e, txt_sl]
theorem sl_ext (s : ByteArray) (p q : Nat) : sl (s.extract p q) = ((sl s).drop p).take (q - p) := by rw [ext_txt, sl_txt]

set_option maxRecDepth 100000 in
set_option maxHeartbeats 1000000 in
theorem wrong_calls (x : Int) (p : Int) (w : World) :
    Calls Try.prog 45 #[.int .i64 x, .int .i64 p] w fun e w' => e = .returned (.tuple #[.agg #[.int .i64 0, .int .i64 0, .int .i64 0, .string ⟨#[]⟩], .agg #[.int .i64 x, .int .i64 p, .slice none 0 0]]) ∧ Below w.heap.size w w' := by
  go_enter Try.func45, Try.ntmps45
  go_wp2_with fail
  refine bodyPost_ret (v := .tuple #[.agg #[.int .i64 0, .int .i64 0, .int .i64 0, .string ⟨#[]⟩], .agg #[.int .i64 x, .int .i64 p, .slice none 0 0]]) (by simp [results, Try.results45, go_sem]) rfl ?_
  exact ⟨rfl, ((Below.refl _ _).alloc (Nat.le_refl _) _).alloc (by simp) _⟩

/-- As the program asks for a hexadecimal digit. -/
def hexI (c : Nat) : Int := Lib.indexByte (sl ⟨#[48, 49, 50, 51, 52, 53, 54, 55, 56, 57, 97, 98, 99, 100, 101, 102]⟩) (bits BinOp.or .u8 (c : Nat) 32).toNat.toUInt8
def hexOK (c : Nat) : Bool := match hexD (UInt8.ofNat c) with
  | some d => decide (hexI c = d) && decide (48 ≤ c) && (decide (c ≤ 57) || decide (65 ≤ c)) && decide (d < 16)
  | none => decide (hexI c = -1) || (decide (0 ≤ hexI c ∧ hexI c < 16) && decide (c < 48)) || (decide (0 ≤ hexI c ∧ hexI c < 16) && decide (57 < c) && decide (c < 65))
theorem hex_tab : ∀ c : Fin 256, hexOK c = true := by decide +kernel
theorem hex_some {c : UInt8} {d : Nat} (h : hexD c = some d) : hexI c.toNat = d ∧ 48 ≤ c.toNat ∧ (c.toNat ≤ 57 ∨ 65 ≤ c.toNat) ∧ d < 16 := by
  have := hex_tab ⟨c.toNat, c.toNat_lt⟩
  unfold hexOK at this
  simp only [UInt8.ofNat_toNat, h, Bool.and_eq_true, Bool.or_eq_true, decide_eq_true_eq] at this
  exact ⟨this.1.1.1, this.1.1.2, this.1.2, this.2⟩
theorem hex_none {c : UInt8} (h : hexD c = none) : hexI c.toNat = -1 ∨ (0 ≤ hexI c.toNat ∧ hexI c.toNat < 16) ∧ (c.toNat < 48 ∨ 57 < c.toNat ∧ c.toNat < 65) := by
  have := hex_tab ⟨c.toNat, c.toNat_lt⟩
  unfold hexOK at this
  simp only [UInt8.ofNat_toNat, h, Bool.and_eq_true, Bool.or_eq_true, decide_eq_true_eq] at this
  rcases this with (h1 | ⟨h1, h2⟩) | ⟨⟨h1, h2⟩, h3⟩
  · exact .inl h1
  · exact .inr ⟨h1, .inl h2⟩
  · exact .inr ⟨h1, .inr ⟨h2, h3⟩⟩

/-- Up to k digits: their number, and how many there are. -/
def codeP : Nat → Nat → List UInt8 → Nat × Nat
  | 0, v, _ => (v, 0)
  | _ + 1, v, [] => (v, 0)
  | k + 1, v, c :: r => match hexD c with
    | none => (v, 0)
    | some d => ((codeP k (v * 16 + d) r).1, (codeP k (v * 16 + d) r).2 + 1)

theorem codeP_le : ∀ k v l, (codeP k v l).2 ≤ k ∧ (codeP k v l).2 ≤ l.length
  | 0, v, l => by simp [codeP]
  | _ + 1, v, [] => by simp [codeP]
  | k + 1, v, c :: r => by
    simp only [codeP]
    cases hexD c with
    | none => simp
    | some d => have := codeP_le k (v * 16 + d) r; simp only [List.length_cons]; omega

theorem hexs_code : ∀ k v l, hexs k v l = if (codeP k v l).2 = k then .inl (codeP k v l).1 else if (codeP k v l).2 = l.length then .inr 2 else .inr 3
  | 0, v, l => by simp [codeP, hexs]
  | _ + 1, v, [] => by simp [codeP, hexs]
  | k + 1, v, c :: r => by
    rcases Option.eq_none_or_eq_some (hexD c) with h | ⟨d, h⟩
    · simp [codeP, hexs, h]
    · simp only [codeP, hexs, h, hexs_code k (v * 16 + d) r, List.length_cons, Nat.add_right_cancel_iff]

set_option maxRecDepth 100000 in
set_option maxHeartbeats 2000000 in
theorem code_calls (s : ByteArray) (hs : s.size ≤ 1000000) (p : Nat) (hp : p ≤ s.size) (w : World) :
    Calls Try.prog 72 #[.string s, .int .i64 p] w fun e w' => e = .returned (.tuple #[.int .i64 (((codeP 4 0 ((sl s).drop p)).1 : Nat) : Int), .int .i64 (((codeP 4 0 ((sl s).drop p)).2 : Nat) : Int)]) ∧ w = w' := by
  obtain ⟨R, hR⟩ : ∃ R : Nat, R = (codeP 4 0 ((sl s).drop p)).1 := ⟨_, rfl⟩
  obtain ⟨M, hM⟩ : ∃ M : Nat, M = (codeP 4 0 ((sl s).drop p)).2 := ⟨_, rfl⟩
  rw [← hR, ← hM]
  have HR := Lib.hid hR
  have HM := Lib.hid hM
  clear hR hM
  go_enter Try.func72, Try.ntmps72
  go_wp2_with fail
  go_loop [4, 5, 6] (fun x y z => ∃ v n : Nat, x = .int .i64 v ∧ y = .int .i64 n ∧ n ≤ 4 ∧ p + n ≤ s.size ∧ Hid ((n = 0 ∧ v = 0) ∨ (n = 1 ∧ v < 16) ∨ (n = 2 ∧ v < 256) ∨ (n = 3 ∧ v < 4096) ∨ (n = 4 ∧ v < 65536)) ∧ Hid (R = (codeP (4 - n) v ((sl s).drop (p + n))).1) ∧ Hid (M = n + (codeP (4 - n) v ((sl s).drop (p + n))).2)) (fun _ y _ => 4 - (intOf y).toNat)
  case atStart => exact ⟨0, 0, rfl, rfl, by omega, by omega, Lib.hid (by omega), HR, by show _ = _; rw [HM.out]; simp⟩
  case round =>
    obtain ⟨v, n, rfl, rfl, hn, hpn, hv, hz, hy⟩ := hrel
    have hv6 : v < 65536 := by have := hv.out; omega
    by_cases h4 : n < 4
    · by_cases hlt : p + n < s.size
      · have hd := sl_drop hlt
        obtain ⟨k, hk⟩ : ∃ k, 4 - n = k + 1 := ⟨3 - n, by omega⟩
        have hk2 : 4 - (n + 1) = k := by omega
        have Z := hz.out
        have Y := hy.out
        rw [hd, hk] at Z Y
        have C := Lib.hid (sidx_calls ⟨#[48, 49, 50, 51, 52, 53, 54, 55, 56, 57, 97, 98, 99, 100, 101, 102]⟩ (bits BinOp.or .u8 (((s[p + n]'hlt).toNat : Nat) : Int) 32) w)
        rw [show Lib.indexByte (sl ⟨#[48, 49, 50, 51, 52, 53, 54, 55, 56, 57, 97, 98, 99, 100, 101, 102]⟩) (bits BinOp.or .u8 (((s[p + n]'hlt).toNat : Nat) : Int) 32).toNat.toUInt8 = hexI (s[p + n]'hlt).toNat from rfl] at C
        have ub := u8_lt (s[p + n]'hlt)
        cases hh : hexD (s[p + n]'hlt) with
        | none =>
          simp only [codeP, hh] at Z Y
          have HZ := Lib.hid Z
          have HY := Lib.hid Y
          rcases hex_none hh with h | ⟨h, h2 | ⟨h2, h3⟩⟩
          · rw [h] at C
            clear h hh hd Z Y hk hk2
            go_wp2_with fail
            refine C.out.mono ?_
            rintro e w' ⟨rfl, rfl⟩
            go_wp2_with fail
            go_ret2
            exact ⟨by rw [HZ.out, HY.out]; rfl, rfl⟩
          · obtain ⟨ix, hix⟩ : ∃ ix : Int, ix = hexI (s[p + n]'hlt).toNat := ⟨_, rfl⟩
            rw [← hix] at C h
            clear hh hd Z Y hk hk2 hix
            go_wp2_with fail
            refine C.out.mono ?_
            rintro e w' ⟨rfl, rfl⟩
            go_wp2_with fail
            go_ret2
            exact ⟨by rw [HZ.out, HY.out]; rfl, rfl⟩
          · obtain ⟨ix, hix⟩ : ∃ ix : Int, ix = hexI (s[p + n]'hlt).toNat := ⟨_, rfl⟩
            rw [← hix] at C h
            have d3 : decide (((s[p + n]'hlt).toNat : Int) < 48) = false := by simp; omega
            clear hh hd Z Y hk hk2 hix
            go_wp2_with fail
            refine C.out.mono ?_
            rintro e w' ⟨rfl, rfl⟩
            go_wp2_with fail
            go_ret2
            exact ⟨by rw [HZ.out, HY.out]; rfl, rfl⟩
        | some d =>
          simp only [codeP, hh] at Z Y
          obtain ⟨hi, h48, h57, hd16⟩ := hex_some hh
          rw [hi] at C
          have HV : Hid (((n + 1) = 0 ∧ v * 16 + d = 0) ∨ ((n + 1) = 1 ∧ v * 16 + d < 16) ∨ ((n + 1) = 2 ∧ v * 16 + d < 256) ∨ ((n + 1) = 3 ∧ v * 16 + d < 4096) ∨ ((n + 1) = 4 ∧ v * 16 + d < 65536)) := by
            show _ ∨ _
            have := hv.out; omega
          have HZ : Hid (R = (codeP (4 - (n + 1)) (v * 16 + d) ((sl s).drop (p + (n + 1)))).1) := by show _ = _; rw [hk2]; exact Z
          have HY : Hid (M = (n + 1) + (codeP (4 - (n + 1)) (v * 16 + d) ((sl s).drop (p + (n + 1)))).2) := by show _ = _; rw [hk2]; refine Y.trans ?_; rw [show p + (n + 1) = p + n + 1 from rfl]; omega
          have q1 : IntKind.i64.wrap (16 * (v : Int)) = 16 * (v : Int) := IntWalk.i64_in _ (by omega)
          have q2 : IntKind.i64.wrap (16 * (v : Int) + (d : Int)) = 16 * (v : Int) + (d : Int) := IntWalk.i64_in _ (by omega)
          clear hh hd Z Y hk hk2 hi
          rcases h57 with h57 | h65
          · go_wp2_with fail
            refine C.out.mono ?_
            rintro e w' ⟨rfl, rfl⟩
            go_wp2_with fail
            go_round
            case rel => exact ⟨v * 16 + d, n + 1, by congr 1; omega, by simp, by omega, by omega, HV, HZ, HY⟩
            case measure => simp [intOf]; omega
          · have d5 : decide (57 < ((s[p + n]'hlt).toNat : Int)) = true := by simp; omega
            go_wp2_with fail
            refine C.out.mono ?_
            rintro e w' ⟨rfl, rfl⟩
            go_wp2_with fail
            go_round
            case rel => exact ⟨v * 16 + d, n + 1, by congr 1; omega, by simp, by omega, by omega, HV, HZ, HY⟩
            case measure => simp [intOf]; omega
      · have hz2 := hz.out
        have hy2 := hy.out
        rw [List.drop_of_length_le (by rw [sl_len]; omega)] at hz2 hy2
        obtain ⟨k, hk⟩ : ∃ k, 4 - n = k + 1 := ⟨3 - n, by omega⟩
        rw [hk] at hz2 hy2
        simp only [codeP, Nat.add_zero] at hz2 hy2
        have HZ := Lib.hid hz2
        have HY := Lib.hid hy2
        clear hz2 hy2 hk
        have d7 : decide ((p : Int) + n < s.size) = false := by simp; omega
        go_wp2_with fail
        go_ret2
        exact ⟨by rw [HZ.out, HY.out]; rfl, rfl⟩
    · obtain rfl : n = 4 := by omega
      have hz2 := hz.out
      have hy2 := hy.out
      simp only [codeP, Nat.sub_self, Nat.add_zero] at hz2 hy2
      have HZ := Lib.hid hz2
      have HY := Lib.hid hy2
      clear hz2 hy2
      go_wp2_with fail
      go_ret2
      exact ⟨by rw [HZ.out, HY.out]; rfl, rfl⟩

set_option maxRecDepth 100000 in
set_option maxHeartbeats 1000000 in
theorem lput_calls (n : Nat) (h : isCh (n : Int) = true) (w : World) : Calls Try.prog 73 #[.int .i64 n] w fun e w' => ∃ v, e = .returned v ∧ OwnB w' w.heap.size v (putL n) ∧ Below w.heap.size w w' := by
  have C : Hid (Calls Try.prog 84 #[.int .i64 n] w fun e w' => ∃ v, e = .returned (.tuple #[v, .bool true]) ∧ OwnB w' w.heap.size v (putL n) ∧ Below w.heap.size w w') := by
    refine Lib.hid ((put_calls (n : Int) w).mono ?_)
    intro e w' hp
    unfold PutOut at hp
    rw [if_pos h] at hp
    exact hp
  clear h
  go_enter Try.func73, Try.ntmps73
  go_wp2_with fail
  refine C.out.mono ?_
  rintro e w' ⟨v, rfl, ho, hb⟩
  have HO := Lib.hid ho
  have HB := Lib.hid hb
  clear ho hb
  go_wp2_with fail
  go_ret
  exact ⟨v, rfl, HO.out, HB.out⟩

theorem esc_idx (c : UInt8) (h : escD c = none) : Lib.indexByte (sl ⟨#[34, 92, 47, 98, 102, 110, 114, 116]⟩) (((c.toNat : Nat) : Int).toNat.toUInt8) = -1 := by
  have key : ∀ n : Fin 256, escD (UInt8.ofNat n) = none → Lib.indexByte (sl ⟨#[34, 92, 47, 98, 102, 110, 114, 116]⟩) ((((n : Nat) : Nat) : Int).toNat.toUInt8) = -1 := by decide +kernel
  have := key ⟨c.toNat, c.toNat_lt⟩
  simp only [UInt8.ofNat_toNat] at this
  exact this h

/-- For what a sign stands; 0: for nothing. -/
def escN (c : UInt8) : Nat := match escD c with | some x => x.toNat | none => 0

set_option maxRecDepth 100000 in
set_option maxHeartbeats 4000000 in
theorem sign_calls (c : UInt8) (w : World) : Calls Try.prog 71 #[.int .u8 ((c.toNat : Nat) : Int)] w fun e w' => e = .returned (.int .u8 ((escN c : Nat) : Int)) ∧ w = w' := by
  have C := Lib.hid (sidx_calls ⟨#[34, 92, 47, 98, 102, 110, 114, 116]⟩ ((c.toNat : Nat) : Int) w)
  by_cases h0 : c = 34
  · subst h0
    rw [show Lib.indexByte (sl ⟨#[34, 92, 47, 98, 102, 110, 114, 116]⟩) ((((34 : UInt8).toNat : Nat) : Int).toNat.toUInt8) = 0 by decide +kernel] at C
    rw [show escN 34 = 34 from rfl]
    go_enter Try.func71, Try.ntmps71
    go_wp2_with fail
    refine C.out.mono ?_
    rintro e w' ⟨rfl, rfl⟩
    go_wp2_with fail
    go_ret
    exact ⟨rfl, rfl⟩
  by_cases h1 : c = 92
  · subst h1
    rw [show Lib.indexByte (sl ⟨#[34, 92, 47, 98, 102, 110, 114, 116]⟩) ((((92 : UInt8).toNat : Nat) : Int).toNat.toUInt8) = 1 by decide +kernel] at C
    rw [show escN 92 = 92 from rfl]
    go_enter Try.func71, Try.ntmps71
    go_wp2_with fail
    refine C.out.mono ?_
    rintro e w' ⟨rfl, rfl⟩
    go_wp2_with fail
    go_ret
    exact ⟨rfl, rfl⟩
  by_cases h2 : c = 47
  · subst h2
    rw [show Lib.indexByte (sl ⟨#[34, 92, 47, 98, 102, 110, 114, 116]⟩) ((((47 : UInt8).toNat : Nat) : Int).toNat.toUInt8) = 2 by decide +kernel] at C
    rw [show escN 47 = 47 from rfl]
    go_enter Try.func71, Try.ntmps71
    go_wp2_with fail
    refine C.out.mono ?_
    rintro e w' ⟨rfl, rfl⟩
    go_wp2_with fail
    go_ret
    exact ⟨rfl, rfl⟩
  by_cases h3 : c = 98
  · subst h3
    rw [show Lib.indexByte (sl ⟨#[34, 92, 47, 98, 102, 110, 114, 116]⟩) ((((98 : UInt8).toNat : Nat) : Int).toNat.toUInt8) = 3 by decide +kernel] at C
    rw [show escN 98 = 8 from rfl]
    go_enter Try.func71, Try.ntmps71
    go_wp2_with fail
    refine C.out.mono ?_
    rintro e w' ⟨rfl, rfl⟩
    go_wp2_with fail
    go_ret
    exact ⟨rfl, rfl⟩
  by_cases h4 : c = 102
  · subst h4
    rw [show Lib.indexByte (sl ⟨#[34, 92, 47, 98, 102, 110, 114, 116]⟩) ((((102 : UInt8).toNat : Nat) : Int).toNat.toUInt8) = 4 by decide +kernel] at C
    rw [show escN 102 = 12 from rfl]
    go_enter Try.func71, Try.ntmps71
    go_wp2_with fail
    refine C.out.mono ?_
    rintro e w' ⟨rfl, rfl⟩
    go_wp2_with fail
    go_ret
    exact ⟨rfl, rfl⟩
  by_cases h5 : c = 110
  · subst h5
    rw [show Lib.indexByte (sl ⟨#[34, 92, 47, 98, 102, 110, 114, 116]⟩) ((((110 : UInt8).toNat : Nat) : Int).toNat.toUInt8) = 5 by decide +kernel] at C
    rw [show escN 110 = 10 from rfl]
    go_enter Try.func71, Try.ntmps71
    go_wp2_with fail
    refine C.out.mono ?_
    rintro e w' ⟨rfl, rfl⟩
    go_wp2_with fail
    go_ret
    exact ⟨rfl, rfl⟩
  by_cases h6 : c = 114
  · subst h6
    rw [show Lib.indexByte (sl ⟨#[34, 92, 47, 98, 102, 110, 114, 116]⟩) ((((114 : UInt8).toNat : Nat) : Int).toNat.toUInt8) = 6 by decide +kernel] at C
    rw [show escN 114 = 13 from rfl]
    go_enter Try.func71, Try.ntmps71
    go_wp2_with fail
    refine C.out.mono ?_
    rintro e w' ⟨rfl, rfl⟩
    go_wp2_with fail
    go_ret
    exact ⟨rfl, rfl⟩
  by_cases h7 : c = 116
  · subst h7
    rw [show Lib.indexByte (sl ⟨#[34, 92, 47, 98, 102, 110, 114, 116]⟩) ((((116 : UInt8).toNat : Nat) : Int).toNat.toUInt8) = 7 by decide +kernel] at C
    rw [show escN 116 = 9 from rfl]
    go_enter Try.func71, Try.ntmps71
    go_wp2_with fail
    refine C.out.mono ?_
    rintro e w' ⟨rfl, rfl⟩
    go_wp2_with fail
    go_ret
    exact ⟨rfl, rfl⟩
  have he : escD c = none := by unfold escD; simp [h0, h1, h2, h3, h4, h5, h6, h7]
  rw [esc_idx c he] at C
  rw [show escN c = 0 by unfold escN; rw [he]]
  clear h0 h1 h2 h3 h4 h5 h6 h7 he
  have ub := u8_lt c
  go_enter Try.func71, Try.ntmps71
  go_wp2_with fail
  refine C.out.mono ?_
  rintro e w' ⟨rfl, rfl⟩
  go_wp2_with fail
  go_ret
  exact ⟨rfl, rfl⟩

end Go.Proofs.Ytamhdoijmkjngaa
