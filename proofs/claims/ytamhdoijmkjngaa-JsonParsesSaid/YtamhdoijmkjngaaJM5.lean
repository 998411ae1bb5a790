/- The reference's hexadecimal digits: digit, Unhex of two signs, four; what stands behind a backslash. The reference's escape and str, walked. The reference's blank and number, its signs and words. The reference's Next, walked. -/
import Derived.Test.YtamhdoijmkjngaaQuo
import Derived.Test.YtamhdoijmkjngaaLexH
import Derived.Test.YtamhdoijmkjngaaLexK
import Derived.Test.YtamhdoijmkjngaaUtfC
import Derived.Test.YtamhdoijmkjngaaJM3
import Derived.Test.YtamhdoijmkjngaaLexN
namespace Go.Proofs.Ytamhdoijmkjngaa
open Go.RowKit
set_option linter.unusedVariables false
set_option linter.unusedSimpArgs false

def digI (c : UInt8) : Int := match hexD c with | some d => (d : Int) | none => -1
def digT (n : Nat) : Int := if 48 ≤ n ∧ n ≤ 57 then (n : Int) - 48 else if 97 ≤ n ∧ n ≤ 102 then (n : Int) - 87 else if 65 ≤ n ∧ n ≤ 70 then (n : Int) - 55 else -1
theorem dig_tab : ∀ c : Fin 256, digI (UInt8.ofNat c) = digT c := by decide +kernel
theorem dig_eq (c : UInt8) : digI c = digT c.toNat := by
  have := dig_tab ⟨c.toNat, c.toNat_lt⟩
  simpa only [UInt8.ofNat_toNat] using this

set_option maxRecDepth 100000 in
set_option maxHeartbeats 2000000 in
theorem rdigit_calls (c : UInt8) (w : World) : Calls Try.prog 88 #[.int .u8 ((c.toNat : Nat) : Int)] w fun e w' => e = .returned (.int .i64 (digI c)) ∧ w = w' := by
  rw [dig_eq]
  obtain ⟨n, hn⟩ : ∃ n, n = c.toNat := ⟨_, rfl⟩
  have ub : n < 256 := by rw [hn]; exact c.toNat_lt
  rw [← hn]
  clear hn
  have h7 : n < 48 ∨ (48 ≤ n ∧ n ≤ 57) ∨ (57 < n ∧ n < 65) ∨ (65 ≤ n ∧ n ≤ 70) ∨ (70 < n ∧ n < 97) ∨ (97 ≤ n ∧ n ≤ 102) ∨ 102 < n := by omega
  rcases h7 with h | ⟨h, h'⟩ | ⟨h, h'⟩ | ⟨h, h'⟩ | ⟨h, h'⟩ | ⟨h, h'⟩ | h
  case inr.inl =>
    have q : IntKind.u8.wrap ((n : Int) - 48) = (n : Int) - 48 := IntWalk.u8_in _ (by omega)
    have e : digT n = (n : Int) - 48 := by unfold digT; rw [if_pos ⟨h, h'⟩]
    rw [e]
    clear e
    go_enter Try.func88, Try.ntmps88
    go_wp2_with fail
    go_ret
    exact ⟨rfl, rfl⟩
  case inr.inr.inr.inl =>
    have q : IntKind.u8.wrap ((n : Int) - 65) = (n : Int) - 65 := IntWalk.u8_in _ (by omega)
    have e : digT n = (n : Int) - 65 + 10 := by unfold digT; rw [if_neg (by omega), if_neg (by omega), if_pos ⟨h, h'⟩]; omega
    rw [e]
    clear e
    go_enter Try.func88, Try.ntmps88
    go_wp2_with fail
    go_ret
    exact ⟨rfl, rfl⟩
  case inr.inr.inr.inr.inr.inl =>
    have q : IntKind.u8.wrap ((n : Int) - 97) = (n : Int) - 97 := IntWalk.u8_in _ (by omega)
    have e : digT n = (n : Int) - 97 + 10 := by unfold digT; rw [if_neg (by omega), if_pos ⟨h, h'⟩]; omega
    rw [e]
    clear e
    go_enter Try.func88, Try.ntmps88
    go_wp2_with fail
    go_ret
    exact ⟨rfl, rfl⟩
  all_goals
    have e : digT n = -1 := by unfold digT; rw [if_neg (by omega), if_neg (by omega), if_neg (by omega)]
    rw [e]
    clear e
    go_enter Try.func88, Try.ntmps88
    go_wp2_with fail
    go_ret
    exact ⟨rfl, rfl⟩

theorem hexD_u8 {c : UInt8} {d : Nat} (h : hexD c = some d) : d < 16 := (hex_some h).2.2.2

/-- Unhex of a 0 and a sign. -/
def UhOut (w : World) (c : UInt8) (e : Ending) (w' : World) : Prop := (match hexD c with
  | some d => ∃ v, e = .returned (.tuple #[v, .bool true]) ∧ OwnB w' w.heap.size v [UInt8.ofNat d]
  | none => e = .returned (.tuple #[.slice none 0 0, .bool false])) ∧ Below w.heap.size w w'

set_option maxRecDepth 100000 in
set_option maxHeartbeats 4000000 in
theorem runhex_calls (t : ByteArray) (c : UInt8) (ht : sl t = [48, c]) (w : World) :
    Calls Try.prog 85 #[.string t] w (UhOut w c) := by
  have hs : t.size = 2 := by rw [← sl_len, ht]; rfl
  have h0 : 0 < t.size := by omega
  have h1 : 1 < t.size := by omega
  have b0 : (t[0]'h0) = 48 := by have := sl_at h0; rw [ht] at this; exact this.symm
  have b1 : (t[1]'h1) = c := by have := sl_at h1; rw [ht] at this; exact this.symm
  have c0 : ((t[0]'h0).toNat : Int) = 48 := by rw [b0]; rfl
  have c1 : ((t[1]'h1).toNat : Int) = ((c.toNat : Nat) : Int) := by rw [b1]
  have C0 : ∀ W, Hid (Calls Try.prog 88 #[.int .u8 48] W fun e w' => e = .returned (.int .i64 0) ∧ W = w') := fun W => rdigit_calls 48 W
  have C1 := fun W => Lib.hid (rdigit_calls c W)
  rcases Option.eq_none_or_eq_some (hexD c) with hh | ⟨d, hh⟩
  · have z1 : digI c = -1 := by unfold digI; rw [hh]
    rw [z1] at C1
    have HH := Lib.hid hh
    clear b0 b1 z1 hh ht
    go_enter Try.func85, Try.ntmps85
    go_wp2_with fail
    go_loop [4, 5, 6, 7] (fun v i _ _ => v = .slice none 0 0 ∧ i = .int .i64 0) (fun _ _ _ _ => 0)
    case atStart => exact ⟨rfl, rfl⟩
    case round =>
      obtain ⟨rfl, rfl⟩ := hrel
      go_wp2_with fail
      go_quiet ((go_at_call 88; first | (with_reducible refine Calls.quiet_of_same ((C0 _).out.mono fun e w' h => ⟨h.1, h.2.symm⟩)) | (with_reducible refine Calls.quiet_of_same ((C1 _).out.mono fun e w' h => ⟨h.1, h.2.symm⟩))))
      go_wp2_with fail
      go_ret2
      refine ⟨?_, below_drewN _ _ _⟩
      rw [HH.out]; rfl
  · have hd := hexD_u8 hh
    have z1 : digI c = d := by unfold digI; rw [hh]
    rw [z1] at C1
    have HH := Lib.hid hh
    have hu : (UInt8.ofNat d).toNat = d := by simp; omega
    have q1 : IntKind.u8.wrap ((d : Int)) = (d : Int) := IntWalk.u8_in _ (by omega)
    clear b0 b1 z1 hh ht
    go_enter Try.func85, Try.ntmps85
    go_wp2_with fail
    go_loopw [4, 5, 6, 7] (fun v i _ _ wr => ∃ (u : Value) (k : Nat), u = v ∧ i = .int .i64 k ∧ ((k = 0 ∧ u = .slice none 0 0) ∨ (k = 2 ∧ OwnB wr w.heap.size u [UInt8.ofNat d])) ∧ Below w.heap.size w wr) (fun _ i _ _ _ => 2 - (intOf i).toNat)
    case atStart => exact ⟨_, 0, rfl, rfl, .inl ⟨rfl, rfl⟩, Below.refl _ _⟩
    case round =>
      obtain ⟨u, k, rfl, rfl, h2, hb⟩ := hrel
      have HB := Lib.hid hb
      have hsz := hb.size
      clear hb
      rcases h2 with ⟨rfl, rfl⟩ | ⟨rfl, ho⟩
      · go_wp2_with fail
        go_quiet ((go_at_call 88; first | (with_reducible refine Calls.quiet_of_same ((C0 _).out.mono fun e w' h => ⟨h.1, h.2.symm⟩)) | (with_reducible refine Calls.quiet_of_same ((C1 _).out.mono fun e w' h => ⟨h.1, h.2.symm⟩))))
        go_wp2_with (at_builtin; refine wpList_appB (v := .slice none 0 0) (bs := []) (sv := .slice (some ⟨wr.heap.size, 0, none⟩) 1 1) (l := [UInt8.ofNat d]) (B := w.heap.size) (by rfl) _ _ (by rfl) (by rfl) (World.ownsRow_nil _ _ _ _) (by rfl) (srcB_one _ d (by omega)) ?o3 ?o4 ?_)
        case o3 => simp
        case o4 => have := (below_drewN wr nq wr.heap.size).size; simp; omega
        intro v6 w6 ho6 ha6
        have HO6 := Lib.hid ho6
        have hB0 := HB.out.trans ((below_drewN wr nq wr.heap.size).mono hsz)
        have HB6 := Lib.hid (ha6.below (hB0.alloc hB0.size _) (by have := (below_drewN wr nq wr.heap.size).size; simp; omega) (fun j hj => by simp [Value.ownBlock] at hj))
        clear ho6 ha6 hB0
        go_wp2_with fail
        go_roundw
        case rel => exact ⟨_, 2, rfl, rfl, .inr ⟨rfl, HO6.out⟩, HB6.out⟩
        case measure => simp [intOf]
      · have HO := Lib.hid ho
        clear ho
        go_wp2_with fail
        go_ret2
        refine ⟨?_, HB.out⟩
        rw [HH.out]
        exact ⟨_, rfl, HO.out⟩

/-! ### four digits -/

/-- The number of four digits; -1, -2: none. -/
def fourI (l : List UInt8) : Int := match hexs 4 0 l with | .inl v => (v : Int) | .inr e => if e = 2 then -2 else -1
def fourR (k v : Nat) (l : List UInt8) : Int := match hexs k v l with | .inl v => (v : Int) | .inr e => if e = 2 then -2 else -1

theorem u8_nat (d : Nat) (h : d < 16) : (UInt8.ofNat d).toNat = d := by simp; omega

theorem sl_one (s : ByteArray) (p : Nat) (h : p < s.size) : sl ((⟨#[48]⟩ : ByteArray) ++ s.extract p (p + 1)) = [48, s[p]'h] := by
  have e : ∀ a b : ByteArray, sl (a ++ b) = sl a ++ sl b := fun a b => by unfold sl; simp
  rw [e, sl_ext, sl_drop h, show p + 1 - p = 1 by omega]
  rfl

set_option maxRecDepth 100000 in
set_option maxHeartbeats 4000000 in
theorem four_calls (s : ByteArray) (hs : s.size ≤ 1000000) (p : Nat) (hp : p ≤ s.size) (w : World) :
    Calls Try.prog 75 #[.string s, .int .i64 p] w fun e w' => e = .returned (.int .i64 (fourI ((sl s).drop p))) ∧ Below w.heap.size w w' := by
  obtain ⟨R, hR⟩ : ∃ R : Int, R = fourI ((sl s).drop p) := ⟨_, rfl⟩
  rw [← hR]
  have HR : Hid (R = fourR 4 0 ((sl s).drop (p + 0))) := hR
  clear hR
  go_enter Try.func75, Try.ntmps75
  go_wp2_with fail
  go_loopw [5, 6, 7, 8] (fun x y _ _ wr => ∃ v n : Nat, x = .int .i64 v ∧ y = .int .i64 n ∧ n ≤ 4 ∧ p + n ≤ s.size ∧ Hid ((n = 0 ∧ v = 0) ∨ (n = 1 ∧ v < 16) ∨ (n = 2 ∧ v < 256) ∨ (n = 3 ∧ v < 4096) ∨ (n = 4 ∧ v < 65536)) ∧ Hid (R = fourR (4 - n) v ((sl s).drop (p + n))) ∧ Below w.heap.size w wr) (fun _ y _ _ _ => 4 - (intOf y).toNat)
  case atStart => exact ⟨0, 0, rfl, rfl, by omega, by omega, Lib.hid (by omega), HR, Below.refl _ _⟩
  case round =>
    obtain ⟨v, n, rfl, rfl, hn, hpn, hv, hz, hb⟩ := hrel
    have hv6 : v < 65536 := by have := hv.out; omega
    have HB := Lib.hid hb
    have hsz := hb.size
    clear hb
    by_cases h4 : n < 4
    · by_cases hlt : p + n < s.size
      · have hd := sl_drop hlt
        obtain ⟨k, hk⟩ : ∃ k, 4 - n = k + 1 := ⟨3 - n, by omega⟩
        have hk2 : 4 - (n + 1) = k := by omega
        have Z := hz.out
        rw [hd, hk] at Z
        have C := fun W => Lib.hid (runhex_calls _ _ (sl_one s (p + n) hlt) W)
        cases hh : hexD (s[p + n]'hlt) with
        | none =>
          simp only [fourR, hexs, hh] at Z
          have HZ := Lib.hid Z
          have HH := Lib.hid hh
          clear hh hd Z hk hk2 hz hv
          go_wp2_with fail
          refine (C _).out.mono ?_
          intro e w1 h
          simp only [UhOut, HH.out] at h
          obtain ⟨rfl, hb1⟩ := h
          have HB1 := Lib.hid (HB.out.trans (hb1.mono hsz))
          clear hb1
          go_wp2_with fail
          go_ret
          exact ⟨by rw [HZ.out]; rfl, HB1.out⟩
        | some d =>
          simp only [fourR, hexs, hh] at Z
          have hd16 := hexD_u8 hh
          have HV : Hid (((n + 1) = 0 ∧ v * 16 + d = 0) ∨ ((n + 1) = 1 ∧ v * 16 + d < 16) ∨ ((n + 1) = 2 ∧ v * 16 + d < 256) ∨ ((n + 1) = 3 ∧ v * 16 + d < 4096) ∨ ((n + 1) = 4 ∧ v * 16 + d < 65536)) := by
            show _ ∨ _
            have := hv.out; omega
          have HZ : Hid (R = fourR (4 - (n + 1)) (v * 16 + d) ((sl s).drop (p + (n + 1)))) := by show _ = _; rw [hk2]; exact Z
          have HH := Lib.hid hh
          clear hh hd Z hk hk2 hz hv
          go_wp2_with fail
          refine (C _).out.mono ?_
          intro e w1 h
          simp only [UhOut, HH.out] at h
          obtain ⟨⟨v1, rfl, ho1⟩, hb1⟩ := h
          have HB1 := Lib.hid (HB.out.trans (hb1.mono hsz))
          obtain ⟨a1, c1, rfl, hr1⟩ := ho1.reads
          obtain ⟨b, o, rfl, hc⟩ := hr1.2.2 0 (by simp)
          have hc2 : w1.cell? ⟨b, o, none⟩ = some (.int .u8 (d : Nat)) := by
            have e : bAt [UInt8.ofNat d] 0 = d := u8_nat d hd16
            simp only [Nat.add_zero, e] at hc
            exact hc
          have q1 : IntKind.i64.wrap ((v : Int) * 16) = (v : Int) * 16 := IntWalk.i64_in _ (by omega)
          have q2 : IntKind.i64.wrap ((v : Int) * 16 + (d : Int)) = (v : Int) * 16 + (d : Int) := IntWalk.i64_in _ (by omega)
          clear hb1 ho1 hr1 hc
          go_wp2_with fail
          go_roundw
          case rel => exact ⟨v * 16 + d, n + 1, by simp, by simp, by omega, by omega, HV, HZ, HB1.out⟩
          case measure => simp [intOf]; omega
      · have Z := hz.out
        obtain ⟨k, hk⟩ : ∃ k, 4 - n = k + 1 := ⟨3 - n, by omega⟩
        rw [hk, List.drop_of_length_le (by rw [sl_len]; omega)] at Z
        simp only [fourR, hexs] at Z
        have HZ := Lib.hid Z
        clear Z hk hz hv
        go_wp2_with fail
        go_ret
        exact ⟨by rw [HZ.out]; rfl, HB.out⟩
    · have h5 : n = 4 := by omega
      subst h5
      have Z := hz.out
      simp only [Nat.sub_self, fourR, hexs] at Z
      have HZ := Lib.hid Z
      clear Z hz hv
      go_wp2_with fail
      go_ret
      exact ⟨by rw [HZ.out]; rfl, HB.out⟩

end Go.Proofs.Ytamhdoijmkjngaa

namespace Go.Proofs.Ytamhdoijmkjngaa
open Go.RowKit
set_option linter.unusedVariables false
set_option linter.unusedSimpArgs false

def escI (c : UInt8) : Int := match escD c with | some x => (x.toNat : Nat) | none => -1
def sgN (k : Nat) : Nat := [34, 92, 47, 98, 102, 110, 114, 116].getD k 0
def stN (k : Nat) : Nat := [34, 92, 47, 8, 12, 10, 13, 9].getD k 0
theorem esc_tab : ∀ c : Fin 256, ∀ k : Fin 8, (∀ j : Fin 8, j < k → sgN j ≠ c) → sgN k = c → escI (UInt8.ofNat c) = (stN k : Nat) := by decide +kernel
theorem esc_tab2 : ∀ c : Fin 256, (∀ j : Fin 8, sgN j ≠ c) → escI (UInt8.ofNat c) = -1 := by decide +kernel
theorem esc_at (c : UInt8) (k : Nat) (hk : k < 8) (h1 : ∀ j, j < k → sgN j ≠ c.toNat) (h2 : sgN k = c.toNat) : escI c = (stN k : Nat) := by
  have := esc_tab ⟨c.toNat, c.toNat_lt⟩ ⟨k, hk⟩ (fun j hj => h1 j hj) h2
  simpa only [UInt8.ofNat_toNat] using this
theorem esc_no (c : UInt8) (h1 : ∀ j, j < 8 → sgN j ≠ c.toNat) : escI c = -1 := by
  have := esc_tab2 ⟨c.toNat, c.toNat_lt⟩ (fun j => h1 j j.isLt)
  simpa only [UInt8.ofNat_toNat] using this
theorem sg_at (k : Nat) (h : k < (⟨#[34, 92, 47, 98, 102, 110, 114, 116]⟩ : ByteArray).size) : ((⟨#[34, 92, 47, 98, 102, 110, 114, 116]⟩ : ByteArray)[k]'h).toNat = sgN k := by
  have h8 : k < 8 := h
  rcases (by omega : k = 0 ∨ k = 1 ∨ k = 2 ∨ k = 3 ∨ k = 4 ∨ k = 5 ∨ k = 6 ∨ k = 7) with rfl | rfl | rfl | rfl | rfl | rfl | rfl | rfl <;> rfl
theorem st_at (w : World) (k : Nat) (h : k < 8) : (w.alloc (.cells #[.int .i64 34, .int .i64 92, .int .i64 47, .int .i64 8, .int .i64 12, .int .i64 10, .int .i64 13, .int .i64 9] 3)).cell? ⟨w.heap.size, k, none⟩ = some (.int .i64 (stN k : Nat)) := by
  rcases (by omega : k = 0 ∨ k = 1 ∨ k = 2 ∨ k = 3 ∨ k = 4 ∨ k = 5 ∨ k = 6 ∨ k = 7) with rfl | rfl | rfl | rfl | rfl | rfl | rfl | rfl <;> simp [go_sem, stN]

set_option maxRecDepth 100000 in
set_option maxHeartbeats 2000000 in
theorem escape_calls (c : UInt8) (w : World) : Calls Try.prog 76 #[.int .u8 ((c.toNat : Nat) : Int)] w fun e w' => e = .returned (.int .i64 (escI c)) ∧ Below w.heap.size w w' := by
  obtain ⟨n, hn⟩ : ∃ n, n = c.toNat := ⟨_, rfl⟩
  have ub : n < 256 := by rw [hn]; exact c.toNat_lt
  have HN := Lib.hid hn
  rw [← hn]
  clear hn
  go_enter Try.func76, Try.ntmps76
  go_wp2_with fail
  go_loop [5] (fun i => ∃ k : Nat, i = .int .i64 k ∧ k ≤ 8 ∧ Hid (∀ j, j < k → sgN j ≠ n)) (fun i => 8 - (intOf i).toNat)
  case atStart => exact ⟨0, rfl, by omega, Lib.hid (fun j hj => by omega)⟩
  case round =>
    obtain ⟨k, rfl, hk, hz⟩ := hrel
    by_cases hlt : k < 8
    · have hlt2 : k < (⟨#[34, 92, 47, 98, 102, 110, 114, 116]⟩ : ByteArray).size := hlt
      have hsg := sg_at k hlt2
      have hst := st_at w k hlt
      obtain ⟨x, hx⟩ : ∃ x, x = sgN k := ⟨_, rfl⟩
      rw [← hx] at hsg
      by_cases he : x = n
      · have HE : Hid (escI c = (stN k : Nat)) := by
          show _ = _
          refine esc_at c k hlt (fun j hj => ?_) (by rw [← HN.out, ← he, hx])
          rw [← HN.out]; exact hz.out j hj
        subst he
        obtain ⟨y, hy⟩ : ∃ y, y = stN k := ⟨_, rfl⟩
        rw [← hy] at hst HE
        clear hx hy hz
        go_wp2_with fail
        go_ret
        exact ⟨by rw [HE.out]; rfl, (Below.refl _ _).alloc (Nat.le_refl _) _⟩
      · have HZ : Hid (∀ j, j < k + 1 → sgN j ≠ n) := Lib.hid (fun j hj => by
          by_cases e : j = k
          · subst e; rw [← hx]; exact he
          · exact hz.out j (by omega))
        clear hx hz
        go_wp2_with fail
        go_round
        case rel => exact ⟨k + 1, by simp, by omega, HZ⟩
        case measure => simp [intOf]; omega
    · obtain rfl : k = 8 := by omega
      have HE : Hid (escI c = -1) := by
        show _ = _
        refine esc_no c (fun j hj => ?_)
        rw [← HN.out]; exact hz.out j hj
      clear hz
      go_wp2_with fail
      go_ret
      exact ⟨by rw [HE.out]; rfl, (Below.refl _ _).alloc (Nat.le_refl _) _⟩

/-! ### str -/

/-- With room for a token, an error, and the error at the end. -/
def rsW (w : World) (fr : Nat) : World := ((w.alloc (.cells #[.int .i64 0, .int .i64 0, .int .i64 0, .string { data := #[] }] 39)).alloc (.cells #[.int .i64 0, .int .i64 0, .slice none 0 0] 36)).alloc (.cells #[.int .i64 2, .int .i64 fr, .slice none 0 0] 36)
theorem rsW_size (w : World) (fr : Nat) : (rsW w fr).heap.size = w.heap.size + 3 := by simp [rsW]

structure RsM (w : World) (fr : Nat) (wr : World) : Prop where
  c0 : wr.cell? ⟨w.heap.size, 0, none⟩ = some (.int .i64 0)
  c1 : wr.cell? ⟨w.heap.size, 1, none⟩ = some (.int .i64 0)
  c2 : wr.cell? ⟨w.heap.size, 2, none⟩ = some (.int .i64 0)
  c3 : wr.cell? ⟨w.heap.size, 3, none⟩ = some (.string { data := #[] })
  d0 : wr.cell? ⟨w.heap.size + 1, 0, none⟩ = some (.int .i64 0)
  d1 : wr.cell? ⟨w.heap.size + 1, 1, none⟩ = some (.int .i64 0)
  d2 : wr.cell? ⟨w.heap.size + 1, 2, none⟩ = some (.slice none 0 0)
  e0 : wr.cell? ⟨w.heap.size + 2, 0, none⟩ = some (.int .i64 2)
  e1 : wr.cell? ⟨w.heap.size + 2, 1, none⟩ = some (.int .i64 fr)
  e2 : wr.cell? ⟨w.heap.size + 2, 2, none⟩ = some (.slice none 0 0)
  f0 : wr.frozen? ⟨w.heap.size, 0, none⟩ = false
  f1 : wr.frozen? ⟨w.heap.size, 1, none⟩ = false
  f2 : wr.frozen? ⟨w.heap.size, 2, none⟩ = false
  f3 : wr.frozen? ⟨w.heap.size, 3, none⟩ = false
  g0 : wr.frozen? ⟨w.heap.size + 1, 0, none⟩ = false
  g1 : wr.frozen? ⟨w.heap.size + 1, 1, none⟩ = false
  g2 : wr.frozen? ⟨w.heap.size + 1, 2, none⟩ = false
  sz : w.heap.size + 3 ≤ wr.heap.size

theorem rsM_of {w wr : World} {fr : Nat} (hb : Below (w.heap.size + 3) (rsW w fr) wr) : RsM w fr wr := by
  constructor
  · rw [hb.cell (p := ⟨w.heap.size, 0, none⟩) (by simp)]; simp [rsW, go_sem]
  · rw [hb.cell (p := ⟨w.heap.size, 1, none⟩) (by simp)]; simp [rsW, go_sem]
  · rw [hb.cell (p := ⟨w.heap.size, 2, none⟩) (by simp)]; simp [rsW, go_sem]
  · rw [hb.cell (p := ⟨w.heap.size, 3, none⟩) (by simp)]; simp [rsW, go_sem]
  · rw [hb.cell (p := ⟨w.heap.size + 1, 0, none⟩) (by simp)]; simp [rsW, go_sem]
  · rw [hb.cell (p := ⟨w.heap.size + 1, 1, none⟩) (by simp)]; simp [rsW, go_sem]
  · rw [hb.cell (p := ⟨w.heap.size + 1, 2, none⟩) (by simp)]; simp [rsW, go_sem]
  · rw [hb.cell (p := ⟨w.heap.size + 2, 0, none⟩) (by simp)]; simp [rsW, go_sem]
  · rw [hb.cell (p := ⟨w.heap.size + 2, 1, none⟩) (by simp)]; simp [rsW, go_sem]
  · rw [hb.cell (p := ⟨w.heap.size + 2, 2, none⟩) (by simp)]; simp [rsW, go_sem]
  · rw [hb.frozen (p := ⟨w.heap.size, 0, none⟩) (by simp)]; simp [rsW, go_sem]
  · rw [hb.frozen (p := ⟨w.heap.size, 1, none⟩) (by simp)]; simp [rsW, go_sem]
  · rw [hb.frozen (p := ⟨w.heap.size, 2, none⟩) (by simp)]; simp [rsW, go_sem]
  · rw [hb.frozen (p := ⟨w.heap.size, 3, none⟩) (by simp)]; simp [rsW, go_sem]
  · rw [hb.frozen (p := ⟨w.heap.size + 1, 0, none⟩) (by simp)]; simp [rsW, go_sem]
  · rw [hb.frozen (p := ⟨w.heap.size + 1, 1, none⟩) (by simp)]; simp [rsW, go_sem]
  · rw [hb.frozen (p := ⟨w.heap.size + 1, 2, none⟩) (by simp)]; simp [rsW, go_sem]
  · have := hb.size; rw [rsW_size] at this; exact this

theorem rs_below {w wr : World} {fr : Nat} (hb : Below (w.heap.size + 3) (rsW w fr) wr) : Below w.heap.size w wr :=
  ((((Below.refl _ _).alloc (Nat.le_refl _) _).alloc (by simp) _).alloc (by simp; omega) _ : Below w.heap.size w (rsW w fr)).trans (hb.mono (by omega))

/-- What stands at the head of each round. -/
def RsRel (s : ByteArray) (fr : Nat) (w : World) (R : LexR) (v i : Value) (wr : World) : Prop :=
  ∃ (u : Value) (p : Nat) (out : List UInt8), u = v ∧ i = .int .i64 p ∧ fr < p ∧ p ≤ s.size ∧ out.length ≤ p ∧ TRes s fr p out R ∧ OwnB wr (w.heap.size + 3) u out ∧ Below (w.heap.size + 3) (rsW w fr) wr

theorem rs_next {s : ByteArray} {fr : Nat} {w w' : World} {R : LexR} {p : Nat} {out : List UInt8} {v i : Value} (hi : i = .int .i64 (p : Nat)) (hf : fr < p) (hp : p ≤ s.size) (hl : out.length ≤ p) (hr : TRes s fr p out R) (ho : OwnB w' (w.heap.size + 3) v out) (hb : Below (w.heap.size + 3) (rsW w fr) w') : RsRel s fr w R v i w' :=
  ⟨v, p, out, rfl, hi, hf, hp, hl, hr, ho, hb⟩

theorem four_code (l : List UInt8) : fourI l = if (codeP 4 0 l).2 = 4 then ((codeP 4 0 l).1 : Int) else if (codeP 4 0 l).2 = l.length then -2 else -1 := by
  unfold fourI
  rw [hexs_code]
  by_cases h : (codeP 4 0 l).2 = 4
  · rw [if_pos h, if_pos h]
  · rw [if_neg h, if_neg h]
    by_cases h2 : (codeP 4 0 l).2 = l.length
    · rw [if_pos h2, if_pos h2]; rfl
    · rw [if_neg h2, if_neg h2]; rfl

theorem rput_yes (r : Nat) (h : isCh r = true) (w : World) : Calls Try.prog 30 #[.int .i64 (r : Nat)] w fun e w' => ∃ v, e = .returned (.tuple #[v, .bool true]) ∧ OwnB w' w.heap.size v (putL r) ∧ Below w.heap.size w w' := by
  refine (rput_calls r w).mono fun e w' h2 => ?_
  unfold PutOut at h2
  rw [if_pos h] at h2
  exact h2
theorem rput_no (r : Nat) (h1 : 55296 ≤ r) (h2 : r ≤ 57343) (w : World) : Calls Try.prog 30 #[.int .i64 (r : Nat)] w fun e w' => e = .returned (.tuple #[.slice none 0 0, .bool false]) ∧ w = w' := by
  refine (rput_calls r w).mono fun e w' h3 => ?_
  unfold PutOut at h3
  rw [if_neg (by unfold isCh; simp; omega)] at h3
  exact h3
theorem u8_ne (x : UInt8) (n : Nat) (h : x ≠ UInt8.ofNat n) (hn : n < 256 := by omega) : (((x.toNat : Nat) : Int) == (n : Int)) = false := by
  have : x.toNat ≠ n := fun e => h ((u8_eq x n hn).1 e)
  simp; omega
theorem low_no (a b : UInt8) (r : List UInt8) (h : a ≠ 92 ∨ b ≠ 117) : lowHalf (a :: b :: r) = none := by
  unfold lowHalf
  split
  · rename_i r' e
    simp only [List.cons.injEq] at e
    rcases h with h | h
    · exact absurd e.1 h
    · exact absurd e.2.1 h
  · rfl
theorem low_four (r : List UInt8) : lowHalf (92 :: 117 :: r) = if 56320 ≤ fourI r ∧ fourI r ≤ 57343 then some (fourI r).toNat else none := by
  simp only [lowHalf]
  unfold fourI
  cases h : hexs 4 0 r with
  | inl v =>
    simp only
    by_cases hv : 56320 ≤ v ∧ v ≤ 57343
    · rw [if_pos hv, if_pos (by omega)]; simp
    · rw [if_neg hv, if_neg (by omega)]
  | inr e =>
    simp only
    by_cases he : e = 2
    · rw [if_pos he, if_neg (by omega)]
    · rw [if_neg he, if_neg (by omega)]

set_option maxRecDepth 100000 in
set_option maxHeartbeats 16000000 in
theorem rstr_calls (s : ByteArray) (hs : s.size ≤ 1000000) (fr : Nat) (hf0 : fr < s.size) (w : World) :
    Calls Try.prog 50 #[.string s, .int .i64 fr] w (LexOut w ((textR ((sl s).drop fr)).shift fr)) := by
  obtain ⟨R, hR⟩ : ∃ R, R = (textR ((sl s).drop fr)).shift fr := ⟨_, rfl⟩
  rw [← hR]
  have HT : Hid (TRes s fr (fr + 1) [] R) := by
    refine Lib.hid ⟨((sl s).drop fr).length + 1, by rw [List.length_drop, sl_len]; omega, ?_⟩
    rw [hR]
    unfold textR
    rw [List.drop_drop, show fr + 1 - fr = 1 by omega]
  clear hR
  go_enter Try.func50, Try.ntmps50
  go_wp2_with fail
  go_loopw [7, 8, 9, 10, 11, 12, 13, 14, 15, 16, 17] (fun v i _ _ _ _ _ _ _ _ _ wr => RsRel s fr w R v i wr) (fun _ i _ _ _ _ _ _ _ _ _ _ => s.size - (intOf i).toNat)
  case atStart =>
    exact ⟨_, fr + 1, [], rfl, by simp, by omega, by omega, by simp, HT.out, World.ownsRow_nil _ _ _ _, Below.refl _ _⟩
  case round =>
    obtain ⟨vb, p, out, rfl, rfl, hf, hp, hl, hr, ho, hb⟩ := hrel
    have HR := Lib.hid hr
    have HB := Lib.hid hb
    have HO := Lib.hid ho
    have hsz : w.heap.size + 3 ≤ wr.heap.size := by have := hb.size; rw [rsW_size] at this; exact this
    clear hr hb ho
    by_cases hlt : p < s.size
    case neg =>
      obtain rfl : p = s.size := by omega
      have HRes : Hid (R = .err 2 fr) := HR.out.short (by rw [List.drop_of_length_le (by rw [sl_len]; omega)]; rfl)
      have M := rsM_of HB.out
      obtain ⟨c0, c1, c2, c3, d0, d1, d2, e10, e11, e12, f0, f1, f2, f3, g0, g1, g2, sz⟩ := M
      go_wp2_with fail
      go_region
      all_goals
        go_wp2_with fail
        refine bodyPost_ret (v := .tuple #[tokV (.err 2 fr), errV (.err 2 fr)]) (by simp [tokV, errV, results, Try.results50, go_sem, c0, c1, c2, c3, d0, d1, d2]) rfl ?_
        refine ⟨by rw [HRes.out], ?_⟩
        repeat' (first | with_reducible refine Below.drew ?_ | with_reducible refine Below.setCell ?_ (by simp) _)
        exact rs_below HB.out
    have hd := sl_drop hlt
    have hat := sl_at hlt
    obtain ⟨c, hc⟩ : ∃ c, c = s[p]'hlt := ⟨_, rfl⟩
    rw [← hc] at hd hat
    have ub := u8_lt (s[p]'hlt)
    have hcn : (s[p]'hlt).toNat = c.toNat := by rw [hc]
    by_cases q34 : c.toNat = 34
    · have hcc := (u8_eq c 34 (by omega)).1 q34
      have HRes : Hid (R = .tok 8 fr (p + 1) out) := HR.out.stop hf (by rw [hd, hcc]; simp [strStep])
      have e1 : ((s[p]'hlt).toNat : Int) = 34 := by rw [hcn, q34]; rfl
      obtain ⟨ab, cap, rfl, hrd⟩ := HO.out.reads
      have kc := conv_str hrd cap
      clear hrd hcc q34 hcn hc hd hat ub
      have M := rsM_of HB.out
      obtain ⟨c0, c1, c2, c3, d0, d1, d2, _, _, _, f0, f1, f2, f3, g0, g1, g2, sz⟩ := M
      go_wp2_with fail
      refine bodyPost_ret (v := .tuple #[tokV (.tok 8 fr (p + 1) out), errV (.tok 8 fr (p + 1) out)]) (by simp [tokV, errV, results, Try.results50, go_sem, c0, c1, c2, c3, d0, d1, d2]) rfl ?_
      refine ⟨by rw [HRes.out], ?_⟩
      repeat' (with_reducible refine Below.setCell ?_ (by simp) _)
      exact rs_below HB.out
    have e1 : (((s[p]'hlt).toNat : Int) == 34) = false := by simp; omega
    have n34 : c ≠ 34 := fun e => q34 (by rw [e]; rfl)
    by_cases q32 : c.toNat < 32
    · have HRes : Hid (R = .err 3 p) := HR.out.bad hf (by omega) (by rw [hd]; unfold strStep; simp only; rw [if_neg n34, if_pos (by rw [UInt8.lt_iff_toNat_lt]; exact q32)])
      have e2 : decide (((s[p]'hlt).toNat : Int) < 32) = true := by simp; omega
      clear hc hd hat n34 q34 hcn q32
      have M := rsM_of HB.out
      obtain ⟨c0, c1, c2, c3, d0, d1, d2, _, _, _, f0, f1, f2, f3, g0, g1, g2, sz⟩ := M
      go_wp2_with fail
      refine bodyPost_ret (v := .tuple #[tokV (.err 3 p), errV (.err 3 p)]) (by simp [tokV, errV, results, Try.results50, go_sem, c0, c1, c2, c3, d0, d1, d2]) rfl ?_
      refine ⟨by rw [HRes.out], ?_⟩
      repeat' (with_reducible refine Below.setCell ?_ (by simp) _)
      exact rs_below HB.out
    have e2 : decide (((s[p]'hlt).toNat : Int) < 32) = false := by simp; omega
    have n32 : ¬ c < 32 := by rw [UInt8.lt_iff_toNat_lt]; exact q32
    by_cases q92 : c.toNat = 92
    case neg =>
      have n92 : c ≠ 92 := fun e => q92 (by rw [e]; rfl)
      have e3 : (((s[p]'hlt).toNat : Int) != 92) = true := by simp; omega
      obtain ⟨M, K, hM, hM4⟩ : ∃ M K : Nat, M ≤ s.size ∧ ((p + 4 ≤ s.size ∧ M = p + 4 ∧ K = 4) ∨ (s.size < p + 4 ∧ M = s.size ∧ K = s.size - p)) := by
        by_cases h : p + 4 ≤ s.size
        · exact ⟨p + 4, 4, h, .inl ⟨h, rfl, rfl⟩⟩
        · exact ⟨s.size, s.size - p, Nat.le_refl _, .inr ⟨by omega, rfl, rfl⟩⟩
      have hxl : sl (s.extract p M) = ((sl s).drop p).take 4 := by
        rw [sl_ext]
        rcases hM4 with ⟨_, rfl, _⟩ | ⟨h, rfl, _⟩
        · congr 1; omega
        · rw [List.take_of_length_le (by rw [List.length_drop, sl_len]; omega), List.take_of_length_le (by rw [List.length_drop, sl_len]; omega)]
      have hxs : (s.extract p M).size = K := by rw [← sl_len, sl_ext, List.length_take, List.length_drop, sl_len]; omega
      obtain ⟨cap3, w3, hrun, hb3, hs3, hr3, hz1, hz2⟩ := conv_bytes wr (s.extract p M) (by omega)
      rw [hxs] at hrun hr3
      clear hz1 hz2
      obtain ⟨rv, hrv⟩ : ∃ rv : Nat, (runeAt (((sl s).drop p).take 4) 0).1 = rv := ⟨_, rfl⟩
      obtain ⟨n, hn⟩ : ∃ n : Nat, (runeAt (((sl s).drop p).take 4) 0).2 = n := ⟨_, rfl⟩
      have CR0 := rrune_calls _ _ cap3 0 w3 _ hr3
      rw [hxl, hrv, hn] at CR0
      have CR := Lib.hid CR0
      have HB3 : Hid (Below (w.heap.size + 3) (rsW w fr) w3) := HB.out.trans (hb3.mono hsz)
      have HO3 : Hid (OwnB w3 (w.heap.size + 3) vb out) := HO.out.keep hb3
      have hstep : strStep ((sl s).drop p) = if n = 0 then .bad 4 else .go n (((sl s).drop p).take n) := by
        rw [hd] at hn ⊢
        unfold strStep
        simp only
        rw [if_neg n34, if_neg n32, if_neg n92, hn]
      have hnb : n ≠ 0 → p + n ≤ s.size ∧ n ≤ 4 := by
        intro h0
        have := (runeAt_bd (((sl s).drop p).take 4) 0).2
        rw [hn] at this
        have h2 := this.2 (by omega)
        rw [List.length_take, List.length_drop, sl_len] at h2
        omega
      clear hr3 hrv hn hxl hxs CR0
      by_cases hn0 : n = 0
      · subst hn0
        rw [if_pos rfl] at hstep
        have HRes : Hid (R = .err 4 p) := HR.out.bad hf (by omega) hstep
        clear hc hd n34 n32 n92 hstep hnb hb3
        rcases hM4 with ⟨k4, rfl, rfl⟩ | ⟨k4, rfl, rfl⟩
        all_goals
          go_wp2_with fail
          refine CR.out.mono ?_
          rintro e w4 ⟨rfl, rfl⟩
          have M := rsM_of HB3.out
          obtain ⟨c0, c1, c2, c3, d0, d1, d2, _, _, _, f0, f1, f2, f3, g0, g1, g2, sz⟩ := M
          go_wp2_with fail
          refine bodyPost_ret (v := .tuple #[tokV (.err 4 p), errV (.err 4 p)]) (by simp [tokV, errV, results, Try.results50, go_sem, c0, c1, c2, c3, d0, d1, d2]) rfl ?_
          refine ⟨by rw [HRes.out], ?_⟩
          repeat' (with_reducible refine Below.setCell ?_ (by simp) _)
          exact rs_below HB3.out
      · rw [if_neg hn0] at hstep
        obtain ⟨hpn, hn4⟩ := hnb hn0
        have HRes := Lib.hid (HR.out.go hf hp hstep)
        have hts : (s.extract p (p + n)).size = n := by rw [← sl_len, sl_ext, List.length_take, List.length_drop, sl_len]; omega
        have HTL : Hid (sl (s.extract p (p + n)) = ((sl s).drop p).take n) := by show _ = _; rw [sl_ext]; congr 1; omega
        have en : ((n : Int) == 0) = false := by simp; omega
        have hn1 : 1 ≤ n := by omega
        have HTS := Lib.hid hts
        clear hc hd n34 n32 n92 hstep hnb hb3 hn0 hts
        rcases hM4 with ⟨k4, rfl, rfl⟩ | ⟨k4, rfl, rfl⟩
        all_goals
          go_wp2_with fail
          refine CR.out.mono ?_
          rintro e w4 ⟨rfl, rfl⟩
          go_wp2_with (at_builtin; refine wpList_appS (v := vb) (bs := out) (t := s.extract p (p + n)) (B := w.heap.size + 3) (by rfl) _ _ (by rfl) (by rfl) HO3.out (by rfl) ?o3 ?o4 ?_)
          case o3 => have := HTS.out; omega
          case o4 => omega
          intro v6 w6 ho6 hg6
          rw [HTL.out] at ho6
          have HO6 := Lib.hid ho6
          have HB6 : Hid (Below (w.heap.size + 3) (rsW w fr) w6) := HB3.out.grown hg6 (by omega) fun k hk => (HO3.out.lt k hk).1
          clear ho6 hg6
          go_wp2_with fail
          go_roundw
          case rel => exact rs_next (p := p + n) (by simp) (by omega) (by omega) (by rw [List.length_append, List.length_take]; omega) HRes.out HO6.out HB6.out
          case measure => simp [intOf]; omega
    have hcc : c = (92 : UInt8) := (u8_eq c 92 (by omega)).1 q92
    have e3 : (((s[p]'hlt).toNat : Int) != 92) = false := by simp; omega
    rw [hcc] at hd
    clear hc hat n34 q34 hcn q32 n32 hcc q92
    by_cases hlt2 : p + 1 < s.size
    case neg =>
      obtain hps : p + 1 = s.size := by omega
      have HRes : Hid (R = .err 2 fr) := HR.out.short (by rw [hd, List.drop_of_length_le (by rw [sl_len]; omega)]; rfl)
      have e0 : ((p : Int) + 1 == s.size) = true := by simp; omega
      clear hd hps
      have M := rsM_of HB.out
      obtain ⟨c0, c1, c2, c3, d0, d1, d2, e10, e11, e12, f0, f1, f2, f3, g0, g1, g2, sz⟩ := M
      go_wp2_with fail
      go_region
      all_goals
        go_wp2_with fail
        refine bodyPost_ret (v := .tuple #[tokV (.err 2 fr), errV (.err 2 fr)]) (by simp [tokV, errV, results, Try.results50, go_sem, c0, c1, c2, c3, d0, d1, d2]) rfl ?_
        refine ⟨by rw [HRes.out], ?_⟩
        repeat' (first | with_reducible refine Below.drew ?_ | with_reducible refine Below.setCell ?_ (by simp) _)
        exact rs_below HB.out
    have hd2 := sl_drop hlt2
    have e0 : ((p : Int) + 1 == s.size) = false := by simp; omega
    obtain ⟨d, hdd⟩ : ∃ d, d = s[p + 1]'hlt2 := ⟨_, rfl⟩
    have hdn : (s[p + 1]'hlt2).toNat = d.toNat := by rw [hdd]
    have ub2 := u8_lt (s[p + 1]'hlt2)
    rw [← hdd] at hd2
    by_cases q117 : d.toNat = 117
    case neg =>
      have e4 : (((s[p + 1]'hlt2).toNat : Int) == 117) = false := by simp; omega
      have n117 : d ≠ 117 := fun e => q117 (by rw [e]; rfl)
      have hst := step_esc d ((sl s).drop (p + 1 + 1)) n117
      rw [← hd2, ← hd] at hst
      have SC := fun W => Lib.hid (escape_calls (s[p + 1]'hlt2) W)
      rcases Option.eq_none_or_eq_some (escD d) with h | ⟨x, h⟩
      · have en : escI (s[p + 1]'hlt2) = -1 := by rw [← hdd]; unfold escI; rw [h]
        rw [en] at SC
        rw [h] at hst
        have HRes : Hid (R = .err 3 p) := HR.out.bad hf (by omega) hst
        clear hd2 hdd hdn q117 hd hst h en n117
        go_wp2_with fail
        refine (SC _).out.mono ?_
        rintro e w4 ⟨rfl, hb4⟩
        have HB4 : Hid (Below (w.heap.size + 3) (rsW w fr) w4) := HB.out.trans (hb4.mono hsz)
        clear hb4
        have M := rsM_of HB4.out
        obtain ⟨c0, c1, c2, c3, d0, d1, d2, _, _, _, f0, f1, f2, f3, g0, g1, g2, sz⟩ := M
        go_wp2_with fail
        refine bodyPost_ret (v := .tuple #[tokV (.err 3 p), errV (.err 3 p)]) (by simp [tokV, errV, results, Try.results50, go_sem, c0, c1, c2, c3, d0, d1, d2]) rfl ?_
        refine ⟨by rw [HRes.out], ?_⟩
        repeat' (with_reducible refine Below.setCell ?_ (by simp) _)
        exact rs_below HB4.out
      · obtain ⟨hen, hx0⟩ := esc_ne h
        have en : escI (s[p + 1]'hlt2) = (x.toNat : Nat) := by rw [← hdd]; unfold escI; rw [h]
        rw [en] at SC
        rw [h] at hst
        have HRes := Lib.hid (HR.out.go hf hp hst)
        obtain ⟨y, hy⟩ : ∃ y : Nat, y = x.toNat := ⟨_, rfl⟩
        have hy8 : y < 256 := by rw [hy]; exact x.toNat_lt
        have hxy : x = UInt8.ofNat y := by rw [hy]; simp
        rw [← hy] at SC
        rw [hxy] at HRes
        have ey : IntKind.u8.wrap (y : Int) = (y : Int) := IntWalk.u8_in _ (by omega)
        clear hd2 hdd hdn q117 hd hst h hen hx0 n117 hxy hy en
        go_wp2_with fail
        refine (SC _).out.mono ?_
        rintro e w4 ⟨rfl, hb4⟩
        have HB4 : Hid (Below (w.heap.size + 3) (rsW w fr) w4) := HB.out.trans (hb4.mono hsz)
        have HO4 := Lib.hid (HO.out.keep hb4)
        have hs4 : w.heap.size + 3 ≤ w4.heap.size := by have := hb4.size; omega
        clear hb4
        go_wp2_with (at_builtin; refine wpList_appB (v := vb) (bs := out) (sv := .slice (some ⟨w4.heap.size, 0, none⟩) 1 1) (l := [UInt8.ofNat y]) (B := w.heap.size + 3) (by rfl) _ _ (by rfl) (by rfl) (HO4.out.alloc _) (by rfl) (srcB_one w4 y hy8) ?o3 ?o4 ?_)
        case o3 => simp; omega
        case o4 => simp; omega
        intro v6 w6 ho6 ha6
        have HO6 := Lib.hid ho6
        have HB6 : Hid (Below (w.heap.size + 3) (rsW w fr) w6) := Lib.hid (ha6.below (HB4.out.alloc hs4 _) (by simp; omega) (fun j hj => (owns_lt HO4.out j hj).1))
        clear ho6 ha6
        go_wp2_with fail
        go_roundw
        case rel => exact rs_next (p := p + 2) (by simp) (by omega) (by omega) (by simp; omega) HRes.out HO6.out HB6.out
        case measure => simp [intOf]; omega
    have hcc : d = (117 : UInt8) := (u8_eq d 117 (by omega)).1 q117
    have e4 : ((s[p + 1]'hlt2).toNat : Int) = 117 := by rw [hdn, q117]; rfl
    rw [hcc] at hd2
    rw [hd2] at hd
    clear hd2 hdd hdn q117 hcc
    obtain ⟨v, hv⟩ : ∃ v, (codeP 4 0 ((sl s).drop (p + 2))).1 = v := ⟨_, rfl⟩
    obtain ⟨n, hn⟩ : ∃ n, (codeP 4 0 ((sl s).drop (p + 2))).2 = n := ⟨_, rfl⟩
    have hvb : v < 65536 := by have := codeP_bd 4 0 ((sl s).drop (p + 2)); rw [hv] at this; simpa using this
    have hnb : n ≤ 4 ∧ p + 2 + n ≤ s.size := by
      have := codeP_le 4 0 ((sl s).drop (p + 2)); rw [hn, List.length_drop, sl_len] at this; omega
    obtain ⟨hn4, hnp⟩ := hnb
    have ST := step_uni ((sl s).drop (p + 2)) v n hv hn
    rw [show p + 1 + 1 = p + 2 from rfl] at hd
    rw [← hd, List.length_drop, sl_len, List.drop_drop] at ST
    have CF := fun W => Lib.hid (four_calls s hs (p + 2) (by omega) W)
    have hfc := four_code ((sl s).drop (p + 2))
    rw [hv, hn, List.length_drop, sl_len] at hfc
    rw [hfc] at CF
    obtain ⟨S1, S2, S3, S4, S5⟩ := ST
    clear hd hv hn hfc
    by_cases hn0 : n < 4
    · by_cases hne : n = s.size - (p + 2)
      · have HRes : Hid (R = .err 2 fr) := HR.out.short (S1 hn0 hne)
        rw [if_neg (by omega), if_pos hne] at CF
        clear S1 S2 S3 S4 S5 hne
        go_wp2_with fail
        refine (CF _).out.mono ?_
        rintro e w4 ⟨rfl, hb4⟩
        have HB4 : Hid (Below (w.heap.size + 3) (rsW w fr) w4) := HB.out.trans (hb4.mono hsz)
        have HO4 := Lib.hid (HO.out.keep hb4)
        have hs4 : w.heap.size + 3 ≤ w4.heap.size := by have := hb4.size; omega
        clear hb4
        have M := rsM_of HB4.out
        obtain ⟨c0, c1, c2, c3, d0, d1, d2, e10, e11, e12, f0, f1, f2, f3, g0, g1, g2, sz⟩ := M
        go_wp2_with fail
        go_region
        all_goals
          go_wp2_with fail
          refine bodyPost_ret (v := .tuple #[tokV (.err 2 fr), errV (.err 2 fr)]) (by simp [tokV, errV, results, Try.results50, go_sem, c0, c1, c2, c3, d0, d1, d2]) rfl ?_
          refine ⟨by rw [HRes.out], ?_⟩
          repeat' (first | with_reducible refine Below.drew ?_ | with_reducible refine Below.setCell ?_ (by simp) _)
          exact rs_below HB4.out
      · have HRes : Hid (R = .err 3 p) := HR.out.bad hf (by omega) (S2 hn0 hne)
        rw [if_neg (by omega), if_neg hne] at CF
        clear S1 S2 S3 S4 S5 hne
        go_wp2_with fail
        refine (CF _).out.mono ?_
        rintro e w4 ⟨rfl, hb4⟩
        have HB4 : Hid (Below (w.heap.size + 3) (rsW w fr) w4) := HB.out.trans (hb4.mono hsz)
        have HO4 := Lib.hid (HO.out.keep hb4)
        have hs4 : w.heap.size + 3 ≤ w4.heap.size := by have := hb4.size; omega
        clear hb4
        have M := rsM_of HB4.out
        obtain ⟨c0, c1, c2, c3, d0, d1, d2, _, _, _, f0, f1, f2, f3, g0, g1, g2, sz⟩ := M
        go_wp2_with fail
        refine bodyPost_ret (v := .tuple #[tokV (.err 3 p), errV (.err 3 p)]) (by simp [tokV, errV, results, Try.results50, go_sem, c0, c1, c2, c3, d0, d1, d2]) rfl ?_
        refine ⟨by rw [HRes.out], ?_⟩
        repeat' (with_reducible refine Below.setCell ?_ (by simp) _)
        exact rs_below HB4.out
    obtain rfl : n = 4 := by omega
    rw [if_pos rfl] at CF
    have ev2 : ((v : Int) == -2) = false := by simp
    have ev1 : ((v : Int) == -1) = false := by simp
    by_cases hsur : 55296 ≤ v ∧ v ≤ 57343
    case neg =>
      have hst := S3 rfl hsur
      have HRes := Lib.hid (HR.out.go hf hp hst)
      have CPY := fun W => Lib.hid (rput_yes v (isCh_of (by omega)) W)
      have hbad : v < 55296 ∨ (55296 ≤ v ∧ 57343 < v) := by omega
      clear S1 S2 S3 S4 S5 hst hsur
      rcases hbad with b1 | ⟨b1, b2⟩
      all_goals
        go_wp2_with fail
        refine (CF _).out.mono ?_
        rintro e w4 ⟨rfl, hb4⟩
        have HB4 : Hid (Below (w.heap.size + 3) (rsW w fr) w4) := HB.out.trans (hb4.mono hsz)
        have HO4 := Lib.hid (HO.out.keep hb4)
        have hs4 : w.heap.size + 3 ≤ w4.heap.size := by have := hb4.size; omega
        clear hb4
        go_wp2_with fail
        refine (CPY _).out.mono ?_
        rintro e w5 ⟨v5, rfl, ho5, hb5⟩
        have HO5 : Hid (OwnB w5 (w.heap.size + 3) vb out) := HO4.out.keep hb5
        have HS5 : Hid (SrcB w5 v5 (putL v)) := ho5.srcB
        have hs5 := hb5.size
        have HB5 : Hid (Below (w.heap.size + 3) (rsW w fr) w5) := HB4.out.trans (hb5.mono (by omega))
        have hpl := (putL_len v).2
        clear ho5 hb5
        go_wp2_with (at_builtin; refine wpList_appB (v := vb) (bs := out) (sv := v5) (l := putL v) (B := w.heap.size + 3) (by rfl) _ _ (by rfl) (by rfl) HO5.out (by rfl) HS5.out ?o3 ?o4 ?_)
        case o3 => omega
        case o4 => omega
        intro v6 w6 ho6 ha6
        have HO6 := Lib.hid ho6
        have HB6 : Hid (Below (w.heap.size + 3) (rsW w fr) w6) := Lib.hid (ha6.below HB5.out (by omega) (fun j hj => (owns_lt HO5.out j hj).1))
        clear ho6 ha6
        go_wp2_with fail
        go_roundw
        case rel => exact rs_next (p := p + 6) (by simp) (by omega) (by omega) (by rw [List.length_append]; omega) HRes.out HO6.out HB6.out
        case measure => simp [intOf]; omega
    obtain ⟨k1, k2⟩ := hsur
    have S4' := S4 rfl k1 k2
    have S5' := S5 rfl k1
    rw [show p + 2 + 4 = p + 6 from rfl] at S4' S5'
    have CPN := fun W => Lib.hid (rput_no v k1 k2 W)
    have d5 : decide ((55296 : Int) ≤ v) = true := by simp; omega
    clear S1 S2 S3 S4 S5
    by_cases k3 : v ≤ 56319
    case neg =>
      have HRes : Hid (R = .err 4 p) := HR.out.bad hf (by omega) (S4' (fun h => absurd h k3))
      have d6 : decide ((v : Int) ≤ 56319) = false := by simp; omega
      clear S4' S5' k1 k2 k3
      go_wp2_with fail
      refine (CF _).out.mono ?_
      rintro e w4 ⟨rfl, hb4⟩
      have HB4 : Hid (Below (w.heap.size + 3) (rsW w fr) w4) := HB.out.trans (hb4.mono hsz)
      have HO4 := Lib.hid (HO.out.keep hb4)
      have hs4 : w.heap.size + 3 ≤ w4.heap.size := by have := hb4.size; omega
      clear hb4
      go_wp2_with fail
      refine (CPN _).out.mono ?_
      rintro e w7 ⟨rfl, rfl⟩
      have M := rsM_of HB4.out
      obtain ⟨c0, c1, c2, c3, d0, d1, d2, _, _, _, f0, f1, f2, f3, g0, g1, g2, sz⟩ := M
      go_wp2_with fail
      refine bodyPost_ret (v := .tuple #[tokV (.err 4 p), errV (.err 4 p)]) (by simp [tokV, errV, results, Try.results50, go_sem, c0, c1, c2, c3, d0, d1, d2]) rfl ?_
      refine ⟨by rw [HRes.out], ?_⟩
      repeat' (with_reducible refine Below.setCell ?_ (by simp) _)
      exact rs_below HB4.out
    have d6 : decide ((v : Int) ≤ 56319) = true := by simp; omega
    by_cases k4 : p + 12 ≤ s.size
    case neg =>
      have hlow : lowHalf ((sl s).drop (p + 6)) = none := by
        rcases Option.eq_none_or_eq_some (lowHalf ((sl s).drop (p + 6))) with h | ⟨x, h⟩
        · exact h
        · have := (lowHalf_len _ _ h).1
          rw [List.length_drop, sl_len] at this; omega
      have HRes : Hid (R = .err 4 p) := HR.out.bad hf (by omega) (S4' (fun _ => hlow))
      have d7 : decide ((12 : Int) ≤ (s.size : Int) - p) = false := by simp; omega
      clear S4' S5' k1 k2 k3 hlow
      go_wp2_with fail
      refine (CF _).out.mono ?_
      rintro e w4 ⟨rfl, hb4⟩
      have HB4 : Hid (Below (w.heap.size + 3) (rsW w fr) w4) := HB.out.trans (hb4.mono hsz)
      have HO4 := Lib.hid (HO.out.keep hb4)
      have hs4 : w.heap.size + 3 ≤ w4.heap.size := by have := hb4.size; omega
      clear hb4
      go_wp2_with fail
      refine (CPN _).out.mono ?_
      rintro e w7 ⟨rfl, rfl⟩
      have M := rsM_of HB4.out
      obtain ⟨c0, c1, c2, c3, d0, d1, d2, _, _, _, f0, f1, f2, f3, g0, g1, g2, sz⟩ := M
      go_wp2_with fail
      refine bodyPost_ret (v := .tuple #[tokV (.err 4 p), errV (.err 4 p)]) (by simp [tokV, errV, results, Try.results50, go_sem, c0, c1, c2, c3, d0, d1, d2]) rfl ?_
      refine ⟨by rw [HRes.out], ?_⟩
      repeat' (with_reducible refine Below.setCell ?_ (by simp) _)
      exact rs_below HB4.out
    have d7 : decide ((12 : Int) ≤ (s.size : Int) - p) = true := by simp; omega
    have l6 : p + 6 < s.size := by omega
    have l7 : p + 7 < s.size := by omega
    have x6 : (sl s).drop (p + 6) = (s[p + 6]'l6) :: (s[p + 7]'l7) :: (sl s).drop (p + 8) := by rw [sl_drop l6, sl_drop l7]
    by_cases b6 : (s[p + 6]'l6) = 92
    case neg =>
      have hlow : lowHalf ((sl s).drop (p + 6)) = none := by rw [x6]; exact low_no _ _ _ (.inl b6)
      have HRes : Hid (R = .err 4 p) := HR.out.bad hf (by omega) (S4' (fun _ => hlow))
      have d8 : (((s[p + 6]'l6).toNat : Int) == 92) = false := u8_ne _ 92 b6
      clear S4' S5' k1 k2 k3 hlow x6 b6
      go_wp2_with fail
      refine (CF _).out.mono ?_
      rintro e w4 ⟨rfl, hb4⟩
      have HB4 : Hid (Below (w.heap.size + 3) (rsW w fr) w4) := HB.out.trans (hb4.mono hsz)
      have HO4 := Lib.hid (HO.out.keep hb4)
      have hs4 : w.heap.size + 3 ≤ w4.heap.size := by have := hb4.size; omega
      clear hb4
      go_wp2_with fail
      refine (CPN _).out.mono ?_
      rintro e w7 ⟨rfl, rfl⟩
      have M := rsM_of HB4.out
      obtain ⟨c0, c1, c2, c3, d0, d1, d2, _, _, _, f0, f1, f2, f3, g0, g1, g2, sz⟩ := M
      go_wp2_with fail
      refine bodyPost_ret (v := .tuple #[tokV (.err 4 p), errV (.err 4 p)]) (by simp [tokV, errV, results, Try.results50, go_sem, c0, c1, c2, c3, d0, d1, d2]) rfl ?_
      refine ⟨by rw [HRes.out], ?_⟩
      repeat' (with_reducible refine Below.setCell ?_ (by simp) _)
      exact rs_below HB4.out
    have d8 : ((s[p + 6]'l6).toNat : Int) = 92 := by rw [b6]; rfl
    by_cases b7 : (s[p + 7]'l7) = 117
    case neg =>
      have hlow : lowHalf ((sl s).drop (p + 6)) = none := by rw [x6]; exact low_no _ _ _ (.inr b7)
      have HRes : Hid (R = .err 4 p) := HR.out.bad hf (by omega) (S4' (fun _ => hlow))
      have d9 : (((s[p + 7]'l7).toNat : Int) == 117) = false := u8_ne _ 117 b7
      clear S4' S5' k1 k2 k3 hlow x6 b6 b7
      go_wp2_with fail
      refine (CF _).out.mono ?_
      rintro e w4 ⟨rfl, hb4⟩
      have HB4 : Hid (Below (w.heap.size + 3) (rsW w fr) w4) := HB.out.trans (hb4.mono hsz)
      have HO4 := Lib.hid (HO.out.keep hb4)
      have hs4 : w.heap.size + 3 ≤ w4.heap.size := by have := hb4.size; omega
      clear hb4
      go_wp2_with fail
      refine (CPN _).out.mono ?_
      rintro e w7 ⟨rfl, rfl⟩
      have M := rsM_of HB4.out
      obtain ⟨c0, c1, c2, c3, d0, d1, d2, _, _, _, f0, f1, f2, f3, g0, g1, g2, sz⟩ := M
      go_wp2_with fail
      refine bodyPost_ret (v := .tuple #[tokV (.err 4 p), errV (.err 4 p)]) (by simp [tokV, errV, results, Try.results50, go_sem, c0, c1, c2, c3, d0, d1, d2]) rfl ?_
      refine ⟨by rw [HRes.out], ?_⟩
      repeat' (with_reducible refine Below.setCell ?_ (by simp) _)
      exact rs_below HB4.out
    have d9 : ((s[p + 7]'l7).toNat : Int) = 117 := by rw [b7]; rfl
    rw [x6, b6, b7, low_four] at S4' S5'
    have CG := fun W => Lib.hid (four_calls s hs (p + 8) (by omega) W)
    obtain ⟨x, hx⟩ : ∃ x, x = fourI ((sl s).drop (p + 8)) := ⟨_, rfl⟩
    rw [← hx] at CG S4' S5'
    clear x6 b6 b7 hx
    by_cases hgood : 56320 ≤ x ∧ x ≤ 57343
    · obtain ⟨lo, rfl⟩ : ∃ lo : Nat, x = lo := ⟨x.toNat, by omega⟩
      have hst := S5' k3 lo (by rw [if_pos hgood]; rfl)
      obtain ⟨z, hz⟩ : ∃ z : Nat, z = 65536 + (v - 55296) * 1024 + (lo - 56320) := ⟨_, rfl⟩
      rw [← hz] at hst
      have HRes := Lib.hid (HR.out.go hf hp hst)
      have HZB : Hid (z ≤ 1114111 ∧ 65536 ≤ z) := by show _ ∧ _; omega
      have CPY := fun W => Lib.hid (rput_yes z (isCh_of (by have := HZB.out; omega)) W)
      obtain ⟨y, hy⟩ : ∃ y : Nat, y = v - 55296 := ⟨_, rfl⟩
      have q0 : IntKind.i64.wrap ((v : Int) - 55296) = (y : Int) := by rw [IntWalk.i64_in _ (by omega)]; omega
      have q00 : (v : Int) - 55296 = (y : Int) := by omega
      have w1 : ∀ x : Int, 0 ≤ x → x < 4000000 → wrap64 x = x := fun x h0 h1 => IntWalk.wrap64_in x (by omega)
      have qz : wrap64 (wrap64 (wrap64 (65536 + wrap64 (wrap64 (y : Int) * 1024)) + (lo : Int)) - 56320) = (z : Int) := by
        rw [w1 y (by omega) (by omega), w1 ((y : Int) * 1024) (by omega) (by omega), w1 (65536 + (y : Int) * 1024) (by omega) (by omega), w1 (65536 + (y : Int) * 1024 + lo) (by omega) (by omega), w1 _ (by omega) (by omega)]
        omega
      have HY : Hid (y < 2048) := by show _ < _; omega
      have HLO : Hid (56320 ≤ lo ∧ lo ≤ 57343) := by show _ ∧ _; omega
      have g1 : decide ((56320 : Int) ≤ lo) = true := by simp; omega
      have g2 : decide ((lo : Int) ≤ 57343) = true := by simp; omega
      clear w1 S4' S5' hst hz hy k1 k2 k3 hgood hvb
      go_wp2_with fail
      refine (CF _).out.mono ?_
      rintro e w4 ⟨rfl, hb4⟩
      have HB4 : Hid (Below (w.heap.size + 3) (rsW w fr) w4) := HB.out.trans (hb4.mono hsz)
      have HO4 := Lib.hid (HO.out.keep hb4)
      have hs4 : w.heap.size + 3 ≤ w4.heap.size := by have := hb4.size; omega
      clear hb4
      go_wp2_with fail
      refine (CG _).out.mono ?_
      rintro e w8 ⟨rfl, hb8⟩
      have HB8 : Hid (Below (w.heap.size + 3) (rsW w fr) w8) := HB4.out.trans (hb8.mono hs4)
      have HO8 := Lib.hid (HO4.out.keep hb8)
      have hs8 : w.heap.size + 3 ≤ w8.heap.size := by have := hb8.size; omega
      clear hb8
      go_wp2_with fail
      refine (CPY _).out.mono ?_
      rintro e w5 ⟨v5, rfl, ho5, hb5⟩
      have HO5 : Hid (OwnB w5 (w.heap.size + 3) vb out) := HO8.out.keep hb5
      have HS5 : Hid (SrcB w5 v5 (putL z)) := ho5.srcB
      have hs5 := hb5.size
      have HB5 : Hid (Below (w.heap.size + 3) (rsW w fr) w5) := HB8.out.trans (hb5.mono (by omega))
      have hpl := (putL_len z).2
      clear ho5 hb5
      go_wp2_with (at_builtin; refine wpList_appB (v := vb) (bs := out) (sv := v5) (l := putL z) (B := w.heap.size + 3) (by rfl) _ _ (by rfl) (by rfl) HO5.out (by rfl) HS5.out ?o3 ?o4 ?_)
      case o3 => omega
      case o4 => omega
      intro v6 w6 ho6 ha6
      have HO6 := Lib.hid ho6
      have HB6 : Hid (Below (w.heap.size + 3) (rsW w fr) w6) := Lib.hid (ha6.below HB5.out (by omega) (fun j hj => (owns_lt HO5.out j hj).1))
      clear ho6 ha6
      go_wp2_with fail
      go_roundw
      case rel => exact rs_next (p := p + 12) (by simp) (by omega) (by omega) (by rw [List.length_append]; omega) HRes.out HO6.out HB6.out
      case measure => simp [intOf]; omega
    · have HRes : Hid (R = .err 4 p) := HR.out.bad hf (by omega) (S4' (fun _ => if_neg hgood))
      have hbad : x < 56320 ∨ (56320 ≤ x ∧ 57343 < x) := by omega
      clear S4' S5' k1 k2 k3 hgood
      rcases hbad with b1 | ⟨b1, b2⟩
      all_goals
        go_wp2_with fail
        refine (CF _).out.mono ?_
        rintro e w4 ⟨rfl, hb4⟩
        have HB4 : Hid (Below (w.heap.size + 3) (rsW w fr) w4) := HB.out.trans (hb4.mono hsz)
        have HO4 := Lib.hid (HO.out.keep hb4)
        have hs4 : w.heap.size + 3 ≤ w4.heap.size := by have := hb4.size; omega
        clear hb4
        go_wp2_with fail
        refine (CG _).out.mono ?_
        rintro e w8 ⟨rfl, hb8⟩
        have HB8 : Hid (Below (w.heap.size + 3) (rsW w fr) w8) := HB4.out.trans (hb8.mono hs4)
        clear hb8
        go_wp2_with fail
        refine (CPN _).out.mono ?_
        rintro e w7 ⟨rfl, rfl⟩
        have M := rsM_of HB8.out
        obtain ⟨c0, c1, c2, c3, d0, d1, d2, _, _, _, f0, f1, f2, f3, g0, g1, g2, sz⟩ := M
        go_wp2_with fail
        refine bodyPost_ret (v := .tuple #[tokV (.err 4 p), errV (.err 4 p)]) (by simp [tokV, errV, results, Try.results50, go_sem, c0, c1, c2, c3, d0, d1, d2]) rfl ?_
        refine ⟨by rw [HRes.out], ?_⟩
        repeat' (with_reducible refine Below.setCell ?_ (by simp) _)
        exact rs_below HB8.out

end Go.Proofs.Ytamhdoijmkjngaa

namespace Go.Proofs.Ytamhdoijmkjngaa
open Go.RowKit
set_option linter.unusedVariables false
set_option linter.unusedSimpArgs false

def blankT (n : Nat) : Bool := n == 9 || n == 10 || n == 13 || n == 32
theorem blank_tab : ∀ c : Fin 256, blank (UInt8.ofNat c) = blankT c := by decide +kernel
theorem blank_eq (c : UInt8) : blank c = blankT c.toNat := by
  have := blank_tab ⟨c.toNat, c.toNat_lt⟩
  simpa only [UInt8.ofNat_toNat] using this
def numT (n : Nat) : Bool := (decide (48 ≤ n) && decide (n ≤ 57)) || n == 43 || n == 45 || n == 46 || n == 101 || n == 69
theorem numch_tab : ∀ c : Fin 256, numCh (UInt8.ofNat c) = numT c := by decide +kernel
theorem numch_eq (c : UInt8) : numCh c = numT c.toNat := by
  have := numch_tab ⟨c.toNat, c.toNat_lt⟩
  simpa only [UInt8.ofNat_toNat] using this

set_option maxRecDepth 100000 in
set_option maxHeartbeats 2000000 in
theorem rblank_calls (c : UInt8) (w : World) : Calls Try.prog 49 #[.int .u8 ((c.toNat : Nat) : Int)] w fun e w' => e = .returned (.bool (blank c)) ∧ w = w' := by
  rw [blank_eq]
  obtain ⟨n, hn⟩ : ∃ n, n = c.toNat := ⟨_, rfl⟩
  rw [← hn]
  clear hn
  by_cases h1 : n = 9
  · subst h1
    go_enter Try.func49, Try.ntmps49
    go_wp2_with fail
    go_ret
    exact ⟨rfl, rfl⟩
  by_cases h2 : n = 10
  · subst h2
    go_enter Try.func49, Try.ntmps49
    go_wp2_with fail
    go_ret
    exact ⟨rfl, rfl⟩
  by_cases h3 : n = 13
  · subst h3
    go_enter Try.func49, Try.ntmps49
    go_wp2_with fail
    go_ret
    exact ⟨rfl, rfl⟩
  have b1 : ((n : Int) == 9) = false := by simp; omega
  have b2 : ((n : Int) == 10) = false := by simp; omega
  have b3 : ((n : Int) == 13) = false := by simp; omega
  have e : blankT n = ((n : Int) == 32) := by
    unfold blankT
    have a1 : (n == 9) = false := by simp; omega
    have a2 : (n == 10) = false := by simp; omega
    have a3 : (n == 13) = false := by simp; omega
    rw [a1, a2, a3]
    by_cases h : n = 32
    · subst h; rfl
    · have a4 : (n == 32) = false := by simp; omega
      have a5 : ((n : Int) == 32) = false := by simp; omega
      rw [a4, a5]; rfl
  rw [e]
  clear e
  go_enter Try.func49, Try.ntmps49
  go_wp2_with fail
  go_ret
  exact ⟨rfl, rfl⟩

set_option maxRecDepth 100000 in
set_option maxHeartbeats 2000000 in
theorem rnumber_calls (c : UInt8) (w : World) : Calls Try.prog 51 #[.int .u8 ((c.toNat : Nat) : Int)] w fun e w' => e = .returned (.bool (numCh c)) ∧ w = w' := by
  rw [numch_eq]
  obtain ⟨n, hn⟩ : ∃ n, n = c.toNat := ⟨_, rfl⟩
  rw [← hn]
  clear hn
  have hcase : (48 ≤ n ∧ n ≤ 57) ∨ n = 43 ∨ n = 45 ∨ n = 46 ∨ n = 101 ∨ n = 69 ∨ ((n < 48 ∨ (48 ≤ n ∧ 57 < n)) ∧ n ≠ 43 ∧ n ≠ 45 ∧ n ≠ 46 ∧ n ≠ 101 ∧ n ≠ 69) := by omega
  rcases hcase with ⟨h1, h2⟩ | rfl | rfl | rfl | rfl | rfl | ⟨h1, h2, h3, h4, h5, h6⟩
  · have e : numT n = true := by unfold numT; simp; omega
    have i1 : decide ((48 : Int) ≤ n) = true := by simp; omega
    have i2 : decide ((n : Int) ≤ 57) = true := by simp; omega
    rw [e]
    clear e
    go_enter Try.func51, Try.ntmps51
    go_wp2_with fail
    go_ret
    exact ⟨rfl, rfl⟩
  iterate 5
    · go_enter Try.func51, Try.ntmps51
      go_wp2_with fail
      go_ret
      exact ⟨rfl, rfl⟩
  · have e : numT n = false := by
      unfold numT
      simp only [Bool.or_eq_false_iff, Bool.and_eq_false_iff, decide_eq_false_iff_not, beq_eq_false_iff_ne]
      exact ⟨⟨⟨⟨⟨by omega, h2⟩, h3⟩, h4⟩, h5⟩, h6⟩
    have j1 : ((n : Int) == 43) = false := by simp; omega
    have j2 : ((n : Int) == 45) = false := by simp; omega
    have j3 : ((n : Int) == 46) = false := by simp; omega
    have j4 : ((n : Int) == 101) = false := by simp; omega
    have j5 : ((n : Int) == 69) = false := by simp; omega
    rw [e]
    clear e h2 h3 h4 h5 h6
    rcases h1 with h | ⟨h, h'⟩
    case' inr => have i57 : decide ((n : Int) ≤ 57) = false := by simp; omega
    all_goals
      go_enter Try.func51, Try.ntmps51
      go_wp2_with fail
      go_ret
      exact ⟨rfl, rfl⟩

/-! ### signs and words -/

def sg6 (k : Nat) : Nat := [123, 125, 91, 93, 58, 44].getD k 0
theorem sg6_at (k : Nat) (h : k < (⟨#[123, 125, 91, 93, 58, 44]⟩ : ByteArray).size) : ((⟨#[123, 125, 91, 93, 58, 44]⟩ : ByteArray)[k]'h).toNat = sg6 k := by
  have h6 : k < 6 := h
  rcases (by omega : k = 0 ∨ k = 1 ∨ k = 2 ∨ k = 3 ∨ k = 4 ∨ k = 5) with rfl | rfl | rfl | rfl | rfl | rfl <;> rfl
theorem tok_sgn (c : UInt8) (r : List UInt8) (k : Nat) (hk : k < 6) (h : sg6 k = c.toNat) : tokS (c :: r) = .tok (2 + k) 0 1 [] := by
  rcases (by omega : k = 0 ∨ k = 1 ∨ k = 2 ∨ k = 3 ∨ k = 4 ∨ k = 5) with rfl | rfl | rfl | rfl | rfl | rfl
  · obtain rfl : c = 123 := (u8_eq c 123 (by omega)).1 h.symm
    rfl
  · obtain rfl : c = 125 := (u8_eq c 125 (by omega)).1 h.symm
    rfl
  · obtain rfl : c = 91 := (u8_eq c 91 (by omega)).1 h.symm
    rfl
  · obtain rfl : c = 93 := (u8_eq c 93 (by omega)).1 h.symm
    rfl
  · obtain rfl : c = 58 := (u8_eq c 58 (by omega)).1 h.symm
    rfl
  · obtain rfl : c = 44 := (u8_eq c 44 (by omega)).1 h.symm
    rfl
theorem no_sgn (c : UInt8) (r : List UInt8) (h : ∀ j, j < 6 → sg6 j ≠ c.toNat) : plainN (c :: r) = plainL (words.drop 6) (c :: r) := by
  have n0 : (c == 123) = false := by simp only [beq_eq_false_iff_ne]; intro e; exact h 0 (by omega) (by rw [e]; rfl)
  have n1 : (c == 125) = false := by simp only [beq_eq_false_iff_ne]; intro e; exact h 1 (by omega) (by rw [e]; rfl)
  have n2 : (c == 91) = false := by simp only [beq_eq_false_iff_ne]; intro e; exact h 2 (by omega) (by rw [e]; rfl)
  have n3 : (c == 93) = false := by simp only [beq_eq_false_iff_ne]; intro e; exact h 3 (by omega) (by rw [e]; rfl)
  have n4 : (c == 58) = false := by simp only [beq_eq_false_iff_ne]; intro e; exact h 4 (by omega) (by rw [e]; rfl)
  have n5 : (c == 44) = false := by simp only [beq_eq_false_iff_ne]; intro e; exact h 5 (by omega) (by rw [e]; rfl)
  unfold plainN words
  simp only [plainL, pre_one, n0, n1, n2, n3, n4, n5, List.drop_succ_cons, List.drop_zero, Bool.false_eq_true, if_false]
theorem ext_pre (s : ByteArray) (l : List UInt8) (q n : Nat) (hn : l.length = n) (h : q + n ≤ s.size) : ((s.extract q (q + n)).toList == l) = pre l ((sl s).drop q) := by
  rw [toList_sl, sl_ext, show q + n - q = n by omega]
  unfold pre
  rw [hn]
theorem short_pre (s t : ByteArray) (q : Nat) (h : s.size < q + t.size) (hq : q ≤ s.size) : pre (sl t) ((sl s).drop q) = false := by
  unfold pre
  rw [beq_eq_false_iff_ne]
  intro e
  have := congrArg List.length e
  rw [List.length_take, List.length_drop, sl_len, sl_len] at this
  omega

/-! ### Next -/

/-- With room for a token and an error. -/
def rnW (w : World) : World := (w.alloc (.cells #[.int .i64 0, .int .i64 0, .int .i64 0, .string { data := #[] }] 39)).alloc (.cells #[.int .i64 0, .int .i64 0, .slice none 0 0] 36)
theorem rnW_size (w : World) : (rnW w).heap.size = w.heap.size + 2 := by simp [rnW]
structure RnM (w : World) (wr : World) : Prop where
  c0 : wr.cell? ⟨w.heap.size, 0, none⟩ = some (.int .i64 0)
  c1 : wr.cell? ⟨w.heap.size, 1, none⟩ = some (.int .i64 0)
  c2 : wr.cell? ⟨w.heap.size, 2, none⟩ = some (.int .i64 0)
  c3 : wr.cell? ⟨w.heap.size, 3, none⟩ = some (.string { data := #[] })
  d0 : wr.cell? ⟨w.heap.size + 1, 0, none⟩ = some (.int .i64 0)
  d1 : wr.cell? ⟨w.heap.size + 1, 1, none⟩ = some (.int .i64 0)
  d2 : wr.cell? ⟨w.heap.size + 1, 2, none⟩ = some (.slice none 0 0)
  f0 : wr.frozen? ⟨w.heap.size, 0, none⟩ = false
  f1 : wr.frozen? ⟨w.heap.size, 1, none⟩ = false
  f2 : wr.frozen? ⟨w.heap.size, 2, none⟩ = false
  f3 : wr.frozen? ⟨w.heap.size, 3, none⟩ = false
  g0 : wr.frozen? ⟨w.heap.size + 1, 0, none⟩ = false
  g1 : wr.frozen? ⟨w.heap.size + 1, 1, none⟩ = false
  g2 : wr.frozen? ⟨w.heap.size + 1, 2, none⟩ = false
  sz : w.heap.size + 2 ≤ wr.heap.size
theorem rnM_of {w wr : World} (hb : Below (w.heap.size + 2) (rnW w) wr) : RnM w wr := by
  constructor
  · rw [hb.cell (p := ⟨w.heap.size, 0, none⟩) (by simp)]; simp [rnW, go_sem]
  · rw [hb.cell (p := ⟨w.heap.size, 1, none⟩) (by simp)]; simp [rnW, go_sem]
  · rw [hb.cell (p := ⟨w.heap.size, 2, none⟩) (by simp)]; simp [rnW, go_sem]
  · rw [hb.cell (p := ⟨w.heap.size, 3, none⟩) (by simp)]; simp [rnW, go_sem]
  · rw [hb.cell (p := ⟨w.heap.size + 1, 0, none⟩) (by simp)]; simp [rnW, go_sem]
  · rw [hb.cell (p := ⟨w.heap.size + 1, 1, none⟩) (by simp)]; simp [rnW, go_sem]
  · rw [hb.cell (p := ⟨w.heap.size + 1, 2, none⟩) (by simp)]; simp [rnW, go_sem]
  · rw [hb.frozen (p := ⟨w.heap.size, 0, none⟩) (by simp)]; simp [rnW, go_sem]
  · rw [hb.frozen (p := ⟨w.heap.size, 1, none⟩) (by simp)]; simp [rnW, go_sem]
  · rw [hb.frozen (p := ⟨w.heap.size, 2, none⟩) (by simp)]; simp [rnW, go_sem]
  · rw [hb.frozen (p := ⟨w.heap.size, 3, none⟩) (by simp)]; simp [rnW, go_sem]
  · rw [hb.frozen (p := ⟨w.heap.size + 1, 0, none⟩) (by simp)]; simp [rnW, go_sem]
  · rw [hb.frozen (p := ⟨w.heap.size + 1, 1, none⟩) (by simp)]; simp [rnW, go_sem]
  · rw [hb.frozen (p := ⟨w.heap.size + 1, 2, none⟩) (by simp)]; simp [rnW, go_sem]
  · have := hb.size; rw [rnW_size] at this; exact this
theorem tokV_agg (R : LexR) : ∃ (k a e : Int) (x : ByteArray), tokV R = .agg #[.int .i64 k, .int .i64 a, .int .i64 e, .string x] := by
  cases R <;> exact ⟨_, _, _, _, rfl⟩
theorem errV_agg (R : LexR) : ∃ (k a : Int), errV R = .agg #[.int .i64 k, .int .i64 a, .slice none 0 0] := by
  cases R <;> exact ⟨_, _, rfl⟩
theorem rn_below {w wr : World} (hb : Below (w.heap.size + 2) (rnW w) wr) : Below w.heap.size w wr :=
  (((Below.refl _ _).alloc (Nat.le_refl _) _).alloc (by simp) _ : Below w.heap.size w (rnW w)).trans (hb.mono (by omega))


end Go.Proofs.Ytamhdoijmkjngaa

namespace Go.Proofs.Ytamhdoijmkjngaa
open Go.RowKit
set_option linter.unusedVariables false
set_option linter.unusedSimpArgs false

set_option maxRecDepth 100000 in
set_option maxHeartbeats 16000000 in
theorem rnext_calls (s : ByteArray) (hs : s.size ≤ 1000000) (at' : Int) (hat : -9223372036854775808 ≤ at' ∧ at' ≤ 9223372036854775807) (w : World) :
    Calls Try.prog 27 #[.string s, .int .i64 at'] w (LexOut w (nextI (sl s) at')) := by
  by_cases hout : at' < 0 ∨ (s.size : Int) < at'
  · have HRes : Hid (nextI (sl s) at' = .err 1 0) := by
      show _ = _
      unfold nextI nextAt
      by_cases h : at' < 0
      · rw [if_pos h]
      · rw [if_neg h, if_pos (by rw [sl_len]; omega)]
    have hout2 : at' < 0 ∨ (0 ≤ at' ∧ (s.size : Int) < at') := by omega
    clear hout
    rcases hout2 with h | ⟨h, h'⟩
    all_goals
      go_enter Try.func27, Try.ntmps27
      (repeat (first | go_values | go_skip | go_guarded | go_step | go_upon | (go_simp; go_at_K)))
      refine bodyPost_ret (v := .tuple #[tokV (.err 1 0), errV (.err 1 0)]) (by simp [tokV, errV, results, Try.results27, go_sem]) rfl ?_
      refine ⟨by rw [HRes.out], ?_⟩
      repeat' (with_reducible refine Below.setCell ?_ (by simp) _)
      exact ((Below.refl _ _).alloc (Nat.le_refl _) _).alloc (by simp) _
  obtain ⟨p, rfl⟩ : ∃ p : Nat, at' = p := ⟨at'.toNat, by omega⟩
  have hp : p ≤ s.size := by omega
  obtain ⟨Q, hQ⟩ : ∃ Q, Q = p + blanks ((sl s).drop p) := ⟨_, rfl⟩
  have HRes : Hid (nextI (sl s) (p : Int) = (tokS ((sl s).drop Q)).shift Q) := by
    show _ = _
    unfold nextI nextAt nextS
    rw [if_neg (by omega), Int.toNat_natCast, if_neg (by rw [sl_len]; omega), LexR.shift_shift, List.drop_drop, hQ]
  have HQ := Lib.hid hQ
  clear hQ hout hat
  have i0 : decide ((p : Int) < 0) = false := by simp
  have i1 : decide (s.size < p) = false := by simp; omega
  go_enter Try.func27, Try.ntmps27
  go_wp2_with fail
  go_loop [1] (fun x => ∃ q : Nat, x = .int .i64 q ∧ q ≤ s.size ∧ Hid (Q = q + blanks ((sl s).drop q))) (fun x => s.size - (intOf x).toNat)
  case atStart => exact ⟨p, rfl, hp, HQ⟩
  case round =>
    obtain ⟨q, rfl, hq, hz⟩ := hrel
    by_cases hlt : q < s.size
    case neg =>
      obtain rfl : q = s.size := by omega
      have Z := hz.out
      rw [List.drop_of_length_le (by rw [sl_len]; omega)] at Z
      simp only [blanks, Nat.add_zero] at Z
      rw [Z, List.drop_of_length_le (by rw [sl_len]; omega)] at HRes
      clear Z hz
      (repeat (first | go_values | go_skip | go_guarded | go_step | go_upon | (go_simp; go_at_K)))
      refine bodyPost_ret (v := .tuple #[tokV (.tok 1 s.size s.size []), errV (.tok 1 s.size s.size [])]) (by simp [tokV, errV, results, Try.results27, go_sem, txt]) rfl ?_
      refine ⟨by rw [HRes.out]; simp [tokS, LexR.shift], ?_⟩
      repeat' (with_reducible refine Below.setCell ?_ (by simp) _)
      exact ((Below.refl _ _).alloc (Nat.le_refl _) _).alloc (by simp) _
    have hd := sl_drop hlt
    have Z := hz.out
    rw [hd] at Z
    simp only [blanks] at Z
    have CB := fun W => Lib.hid (rblank_calls (s[q]'hlt) W)
    obtain ⟨c, hc⟩ : ∃ c, c = s[q]'hlt := ⟨_, rfl⟩
    have ub := u8_lt (s[q]'hlt)
    have hcn : (s[q]'hlt).toNat = c.toNat := by rw [hc]
    rw [← hc] at hd Z
    by_cases hbl : blank c = true
    · rw [if_pos hbl] at Z
      have HN : Hid (Q = q + 1 + blanks ((sl s).drop (q + 1))) := by show _ = _; omega
      have hbl2 : blank (s[q]'hlt) = true := by rw [← hc]; exact hbl
      rw [hbl2] at CB
      clear Z hd hc hcn hbl hbl2
      go_wp2_with fail
      refine (CB _).out.mono ?_
      rintro e w1 ⟨rfl, rfl⟩
      go_wp2_with fail
      go_round
      case rel => exact ⟨q + 1, by simp, by omega, HN⟩
      case measure => simp [intOf]; omega
    rw [if_neg hbl] at Z
    have HN : Hid (Q = q) := by show _ = _; omega
    rw [HN.out, hd] at HRes
    have hbl2 : blank (s[q]'hlt) = false := by rw [← hc]; simpa using hbl
    rw [hbl2] at CB
    have b5 : ((q : Int) == s.size) = false := by simp; omega
    obtain ⟨r, hr⟩ : ∃ r, (sl s).drop (q + 1) = r := ⟨_, rfl⟩
    rw [hr] at hd HRes
    have HD := Lib.hid hd
    have HCN := Lib.hid hcn
    clear Z hbl hbl2 hz hd hr hc hcn
    go_wp2_with fail
    refine (CB _).out.mono ?_
    rintro e w1 ⟨rfl, rfl⟩
    go_wp2_with fail
    go_loopw [7] (fun i wr => ∃ k : Nat, i = .int .i64 k ∧ k ≤ 6 ∧ Hid (∀ j, j < k → sg6 j ≠ c.toNat) ∧ Below (w.heap.size + 2) (rnW w) wr) (fun i _ => 6 - (intOf i).toNat)
    case atStart => exact ⟨0, rfl, by omega, Lib.hid (fun j hj => by omega), Below.refl _ _⟩
    case round =>
      obtain ⟨k, rfl, hk, hz, hb⟩ := hrel
      have HB := Lib.hid hb
      clear hb
      by_cases hlt6 : k < 6
      · have hlt2 : k < (⟨#[123, 125, 91, 93, 58, 44]⟩ : ByteArray).size := hlt6
        have hsg := sg6_at k hlt2
        obtain ⟨x, hx⟩ : ∃ x, x = sg6 k := ⟨_, rfl⟩
        rw [← hx] at hsg
        by_cases he : c.toNat = x
        · rw [tok_sgn c r k hlt6 (by rw [← hx, he])] at HRes
          have i6 : (((s[q]'hlt).toNat : Int) == (x : Int)) = true := by rw [HCN.out, he]; simp
          clear hz hx he
          go_wp2_with fail
          go_quiet (fail)
          have HB2 : Hid (Below (w.heap.size + 2) (rnW w) (wr.drewN nq)) := HB.out.trans ((below_drewN wr nq wr.heap.size).mono (by have := HB.out.size; rwa [rnW_size] at this))
          obtain ⟨c0, c1, c2, c3, d0, d1, d2, f0, f1, f2, f3, g0, g1, g2, sz⟩ := rnM_of HB2.out
          (repeat (first | go_values | go_skip | go_guarded | go_step | go_upon | (go_simp; go_at_K)))
          refine bodyPost_ret (v := .tuple #[tokV (.tok (2 + k) q (q + 1) []), errV (.tok (2 + k) q (q + 1) [])]) (by simp [tokV, errV, results, Try.results27, go_sem, c0, c1, c2, c3, d0, d1, d2, txt]) rfl ?_
          refine ⟨by rw [HRes.out]; simp [LexR.shift, Nat.add_comm], ?_⟩
          repeat' (with_reducible refine Below.setCell ?_ (by simp) _)
          exact rn_below HB2.out
        · have i6 : (((s[q]'hlt).toNat : Int) == (x : Int)) = false := by rw [HCN.out]; simp; omega
          have HZ : Hid (∀ j, j < k + 1 → sg6 j ≠ c.toNat) := Lib.hid (fun j hj => by
            by_cases e : j = k
            · subst e; rw [← hx]; exact fun e => he e.symm
            · exact hz.out j (by omega))
          clear hz hx he
          go_wp2_with fail
          go_quiet (fail)
          have HB2 : Hid (Below (w.heap.size + 2) (rnW w) (wr.drewN nq)) := HB.out.trans ((below_drewN wr nq wr.heap.size).mono (by have := HB.out.size; rwa [rnW_size] at this))
          go_wp2_with fail
          go_roundw
          case rel => exact ⟨k + 1, by simp, by omega, HZ, HB2.out⟩
          case measure => simp [intOf]; omega
      obtain rfl : k = 6 := by omega
      rw [show ((6 : Nat) : Int) = 6 from rfl]
      have HP := Lib.hid (no_sgn c r hz.out)
      have hsz2 : w.heap.size + 2 ≤ wr.heap.size := by have := HB.out.size; rwa [rnW_size] at this
      obtain ⟨T1, T2⟩ := tok_plain c r
      have HT1 := Lib.hid T1
      have HT2 := Lib.hid T2
      clear T1 T2 hz
      obtain ⟨wo, rfl⟩ : ∃ wo : World, wo = wr := ⟨_, rfl⟩
      go_wp2_with fail
      go_loopw [9, 10] (fun i _ wr => ∃ k : Nat, i = .int .i64 k ∧ k ≤ 3 ∧ Hid (plainN (c :: r) = plainL (words.drop (6 + k)) (c :: r)) ∧ Below (wo.heap.size + 1) (wo.alloc (.cells #[.string { data := #[116, 114, 117, 101] }, .string { data := #[102, 97, 108, 115, 101] }, .string { data := #[110, 117, 108, 108] }] 9)) wr) (fun i _ _ => 3 - (intOf i).toNat)
      case atStart => exact ⟨0, rfl, by omega, HP, Below.refl _ _⟩
      case round =>
        obtain ⟨k, rfl, hk, hz, hb⟩ := hrel
        have HBq := Lib.hid hb
        have hszq : wo.heap.size + 1 ≤ wr.heap.size := by have := hb.size; simpa using this
        have HBw : Hid (Below (w.heap.size + 2) (rnW w) wr) := (HB.out.alloc hsz2 _).trans (hb.mono (by omega))
        clear hb
        have hcase : k = 0 ∨ k = 1 ∨ k = 2 ∨ k = 3 := by omega
        rcases hcase with rfl | rfl | rfl | rfl
        · have w0 : wr.cell? ⟨wo.heap.size, 0, none⟩ = some (.string { data := #[116, 114, 117, 101] }) := by rw [HBq.out.cell (p := ⟨wo.heap.size, 0, none⟩) (by simp)]; simp [go_sem]
          have Z := hz.out
          simp only [words, Nat.reduceAdd, List.drop_succ_cons, List.drop_zero, plainL] at Z
          have q1 : IntKind.i64.wrap ((s.size : Int) - (q : Int)) = (s.size : Int) - (q : Int) := IntWalk.i64_in _ (by omega)
          by_cases hlen : q + 4 ≤ s.size
          · have e18 : decide ((4 : Int) ≤ (s.size : Int) - (q : Int)) = true := by simp; omega
            have q2 : IntKind.i64.wrap ((q : Int) + 4) = (q : Int) + 4 := IntWalk.i64_in _ (by omega)
            have hx := ext_pre s [116, 114, 117, 101] q 4 rfl hlen
            rw [show (sl s).drop q = c :: r from HD.out] at hx
            rcases Bool.eq_false_or_eq_true (pre [116, 114, 117, 101] (c :: r)) with hb | hb
            · rw [hb] at hx
              rw [if_pos hb] at Z
              have HRes2 : Hid (nextI (sl s) (p : Int) = .tok 10 q (q + 4) []) := by
                show _ = _
                rw [HRes.out, HT1.out (by rw [Z]; simp), Z]; simp [LexR.shift, Nat.add_comm]
              clear Z hz hb HRes
              go_wp2_with fail
              go_quiet (fail)
              have HB2 : Hid (Below (w.heap.size + 2) (rnW w) (wr.drewN nq)) := HBw.out.trans ((below_drewN wr nq wr.heap.size).mono (by omega))
              obtain ⟨c0, c1, c2, c3, d0, d1, d2, f0, f1, f2, f3, g0, g1, g2, sz⟩ := rnM_of HB2.out
              (repeat (first | go_values | go_skip | go_guarded | go_step | go_upon | (go_simp; go_at_K)))
              refine bodyPost_ret (v := .tuple #[tokV (.tok 10 q (q + 4) []), errV (.tok 10 q (q + 4) [])]) (by simp [tokV, errV, results, Try.results27, go_sem, c0, c1, c2, c3, d0, d1, d2, txt]) rfl ?_
              refine ⟨by rw [HRes2.out], ?_⟩
              repeat' (with_reducible refine Below.setCell ?_ (by simp) _)
              exact rn_below HB2.out
            · rw [hb] at hx
              rw [if_neg (by rw [hb]; simp)] at Z
              have HZ : Hid (plainN (c :: r) = plainL (words.drop (6 + 1)) (c :: r)) := Z
              clear Z hz hb
              go_wp2_with fail
              go_quiet (fail)
              have HB2 := Lib.hid (HBq.out.trans ((below_drewN wr nq wr.heap.size).mono hszq))
              go_wp2_with fail
              go_roundw
              case rel => exact ⟨1, by simp, by omega, HZ, HB2.out⟩
              case measure => simp [intOf]
          · have e18 : decide ((4 : Int) ≤ (s.size : Int) - (q : Int)) = false := by simp; omega
            have hx := short_pre s ({ data := #[116, 114, 117, 101] } : ByteArray) q (by show s.size < q + 4; omega) (by omega)
            rw [show (sl s).drop q = c :: r from HD.out] at hx
            rw [if_neg (by rw [show pre [116, 114, 117, 101] (c :: r) = false from hx]; simp)] at Z
            have HZ : Hid (plainN (c :: r) = plainL (words.drop (6 + 1)) (c :: r)) := Z
            clear Z hz hx
            go_wp2_with fail
            go_quiet (fail)
            have HB2 := Lib.hid (HBq.out.trans ((below_drewN wr nq wr.heap.size).mono hszq))
            go_wp2_with fail
            go_roundw
            case rel => exact ⟨1, by simp, by omega, HZ, HB2.out⟩
            case measure => simp [intOf]
        · have w1 : wr.cell? ⟨wo.heap.size, 1, none⟩ = some (.string { data := #[102, 97, 108, 115, 101] }) := by rw [HBq.out.cell (p := ⟨wo.heap.size, 1, none⟩) (by simp)]; simp [go_sem]
          have Z := hz.out
          simp only [words, Nat.reduceAdd, List.drop_succ_cons, List.drop_zero, plainL] at Z
          have q1 : IntKind.i64.wrap ((s.size : Int) - (q : Int)) = (s.size : Int) - (q : Int) := IntWalk.i64_in _ (by omega)
          by_cases hlen : q + 5 ≤ s.size
          · have e18 : decide ((5 : Int) ≤ (s.size : Int) - (q : Int)) = true := by simp; omega
            have q2 : IntKind.i64.wrap ((q : Int) + 5) = (q : Int) + 5 := IntWalk.i64_in _ (by omega)
            have hx := ext_pre s [102, 97, 108, 115, 101] q 5 rfl hlen
            rw [show (sl s).drop q = c :: r from HD.out] at hx
            rcases Bool.eq_false_or_eq_true (pre [102, 97, 108, 115, 101] (c :: r)) with hb | hb
            · rw [hb] at hx
              rw [if_pos hb] at Z
              have HRes2 : Hid (nextI (sl s) (p : Int) = .tok 11 q (q + 5) []) := by
                show _ = _
                rw [HRes.out, HT1.out (by rw [Z]; simp), Z]; simp [LexR.shift, Nat.add_comm]
              clear Z hz hb HRes
              go_wp2_with fail
              go_quiet (fail)
              have HB2 : Hid (Below (w.heap.size + 2) (rnW w) (wr.drewN nq)) := HBw.out.trans ((below_drewN wr nq wr.heap.size).mono (by omega))
              obtain ⟨c0, c1, c2, c3, d0, d1, d2, f0, f1, f2, f3, g0, g1, g2, sz⟩ := rnM_of HB2.out
              (repeat (first | go_values | go_skip | go_guarded | go_step | go_upon | (go_simp; go_at_K)))
              refine bodyPost_ret (v := .tuple #[tokV (.tok 11 q (q + 5) []), errV (.tok 11 q (q + 5) [])]) (by simp [tokV, errV, results, Try.results27, go_sem, c0, c1, c2, c3, d0, d1, d2, txt]) rfl ?_
              refine ⟨by rw [HRes2.out], ?_⟩
              repeat' (with_reducible refine Below.setCell ?_ (by simp) _)
              exact rn_below HB2.out
            · rw [hb] at hx
              rw [if_neg (by rw [hb]; simp)] at Z
              have HZ : Hid (plainN (c :: r) = plainL (words.drop (6 + 2)) (c :: r)) := Z
              clear Z hz hb
              go_wp2_with fail
              go_quiet (fail)
              have HB2 := Lib.hid (HBq.out.trans ((below_drewN wr nq wr.heap.size).mono hszq))
              go_wp2_with fail
              go_roundw
              case rel => exact ⟨2, by simp, by omega, HZ, HB2.out⟩
              case measure => simp [intOf]
          · have e18 : decide ((5 : Int) ≤ (s.size : Int) - (q : Int)) = false := by simp; omega
            have hx := short_pre s ({ data := #[102, 97, 108, 115, 101] } : ByteArray) q (by show s.size < q + 5; omega) (by omega)
            rw [show (sl s).drop q = c :: r from HD.out] at hx
            rw [if_neg (by rw [show pre [102, 97, 108, 115, 101] (c :: r) = false from hx]; simp)] at Z
            have HZ : Hid (plainN (c :: r) = plainL (words.drop (6 + 2)) (c :: r)) := Z
            clear Z hz hx
            go_wp2_with fail
            go_quiet (fail)
            have HB2 := Lib.hid (HBq.out.trans ((below_drewN wr nq wr.heap.size).mono hszq))
            go_wp2_with fail
            go_roundw
            case rel => exact ⟨2, by simp, by omega, HZ, HB2.out⟩
            case measure => simp [intOf]
        · have w2 : wr.cell? ⟨wo.heap.size, 2, none⟩ = some (.string { data := #[110, 117, 108, 108] }) := by rw [HBq.out.cell (p := ⟨wo.heap.size, 2, none⟩) (by simp)]; simp [go_sem]
          have Z := hz.out
          simp only [words, Nat.reduceAdd, List.drop_succ_cons, List.drop_zero, plainL] at Z
          have q1 : IntKind.i64.wrap ((s.size : Int) - (q : Int)) = (s.size : Int) - (q : Int) := IntWalk.i64_in _ (by omega)
          by_cases hlen : q + 4 ≤ s.size
          · have e18 : decide ((4 : Int) ≤ (s.size : Int) - (q : Int)) = true := by simp; omega
            have q2 : IntKind.i64.wrap ((q : Int) + 4) = (q : Int) + 4 := IntWalk.i64_in _ (by omega)
            have hx := ext_pre s [110, 117, 108, 108] q 4 rfl hlen
            rw [show (sl s).drop q = c :: r from HD.out] at hx
            rcases Bool.eq_false_or_eq_true (pre [110, 117, 108, 108] (c :: r)) with hb | hb
            · rw [hb] at hx
              rw [if_pos hb] at Z
              have HRes2 : Hid (nextI (sl s) (p : Int) = .tok 12 q (q + 4) []) := by
                show _ = _
                rw [HRes.out, HT1.out (by rw [Z]; simp), Z]; simp [LexR.shift, Nat.add_comm]
              clear Z hz hb HRes
              go_wp2_with fail
              go_quiet (fail)
              have HB2 : Hid (Below (w.heap.size + 2) (rnW w) (wr.drewN nq)) := HBw.out.trans ((below_drewN wr nq wr.heap.size).mono (by omega))
              obtain ⟨c0, c1, c2, c3, d0, d1, d2, f0, f1, f2, f3, g0, g1, g2, sz⟩ := rnM_of HB2.out
              (repeat (first | go_values | go_skip | go_guarded | go_step | go_upon | (go_simp; go_at_K)))
              refine bodyPost_ret (v := .tuple #[tokV (.tok 12 q (q + 4) []), errV (.tok 12 q (q + 4) [])]) (by simp [tokV, errV, results, Try.results27, go_sem, c0, c1, c2, c3, d0, d1, d2, txt]) rfl ?_
              refine ⟨by rw [HRes2.out], ?_⟩
              repeat' (with_reducible refine Below.setCell ?_ (by simp) _)
              exact rn_below HB2.out
            · rw [hb] at hx
              rw [if_neg (by rw [hb]; simp)] at Z
              have HZ : Hid (plainN (c :: r) = plainL (words.drop (6 + 3)) (c :: r)) := Z
              clear Z hz hb
              go_wp2_with fail
              go_quiet (fail)
              have HB2 := Lib.hid (HBq.out.trans ((below_drewN wr nq wr.heap.size).mono hszq))
              go_wp2_with fail
              go_roundw
              case rel => exact ⟨3, by simp, by omega, HZ, HB2.out⟩
              case measure => simp [intOf]
          · have e18 : decide ((4 : Int) ≤ (s.size : Int) - (q : Int)) = false := by simp; omega
            have hx := short_pre s ({ data := #[110, 117, 108, 108] } : ByteArray) q (by show s.size < q + 4; omega) (by omega)
            rw [show (sl s).drop q = c :: r from HD.out] at hx
            rw [if_neg (by rw [show pre [110, 117, 108, 108] (c :: r) = false from hx]; simp)] at Z
            have HZ : Hid (plainN (c :: r) = plainL (words.drop (6 + 3)) (c :: r)) := Z
            clear Z hz hx
            go_wp2_with fail
            go_quiet (fail)
            have HB2 := Lib.hid (HBq.out.trans ((below_drewN wr nq wr.heap.size).mono hszq))
            go_wp2_with fail
            go_roundw
            case rel => exact ⟨3, by simp, by omega, HZ, HB2.out⟩
            case measure => simp [intOf]
        rw [show ((3 : Nat) : Int) = 3 from rfl]
        have HRes2 : Hid (nextI (sl s) (p : Int) = (if c = 34 then textR (c :: r) else if c = 45 ∨ isDig c = true then numR (c :: r) else .err 3 0).shift q) := by
          show _ = _
          have Z := hz.out
          rw [HRes.out, HT2.out (by rw [Z]; rfl)]
        clear hz HRes
        by_cases q34 : c = 34
        · rw [if_pos q34] at HRes2
          have i34 : ((s[q]'hlt).toNat : Int) = 34 := by rw [HCN.out, q34]; rfl
          have CT := fun W => Lib.hid (rstr_calls s hs q hlt W)
          rw [HD.out] at CT
          obtain ⟨R', hR'⟩ : ∃ R', (textR (c :: r)).shift q = R' := ⟨_, rfl⟩
          rw [hR'] at CT HRes2
          clear q34 hR'
          go_wp2_with fail
          refine (CT _).out.mono ?_
          rintro e w1 ⟨rfl, hb1⟩
          have HB2 : Hid (Below (w.heap.size + 2) (rnW w) w1) := HBw.out.trans (hb1.mono (by omega))
          obtain ⟨c0, c1, c2, c3, d0, d1, d2, f0, f1, f2, f3, g0, g1, g2, sz⟩ := rnM_of HB2.out
          clear hb1
          cases R' with
          | tok k0 a0 s0 t0 =>
            simp only [tokV, errV]
            (repeat (first | go_values | go_skip | go_guarded | go_step | go_upon | (go_simp; go_at_K)))
            refine bodyPost_ret (v := .tuple #[tokV (.tok k0 a0 s0 t0), errV (.tok k0 a0 s0 t0)]) (by simp [tokV, errV, results, Try.results27, go_sem, c0, c1, c2, c3, d0, d1, d2]) rfl ?_
            refine ⟨by rw [HRes2.out], ?_⟩
            repeat' (with_reducible refine Below.setCell ?_ (by simp) _)
            exact rn_below HB2.out
          | err x0 a0 =>
            simp only [tokV, errV]
            (repeat (first | go_values | go_skip | go_guarded | go_step | go_upon | (go_simp; go_at_K)))
            refine bodyPost_ret (v := .tuple #[tokV (.err x0 a0), errV (.err x0 a0)]) (by simp [tokV, errV, results, Try.results27, go_sem, c0, c1, c2, c3, d0, d1, d2]) rfl ?_
            refine ⟨by rw [HRes2.out], ?_⟩
            repeat' (with_reducible refine Below.setCell ?_ (by simp) _)
            exact rn_below HB2.out
        rw [if_neg q34] at HRes2
        have i34 : (((s[q]'hlt).toNat : Int) == 34) = false := by
          simp only [beq_eq_false_iff_ne]; intro e; apply q34; apply (u8_eq c 34 (by omega)).1; rw [← HCN.out]; omega
        by_cases qn : c = 45 ∨ isDig c = true
        case neg =>
          rw [if_neg qn] at HRes2
          have i45 : (((s[q]'hlt).toNat : Int) != 45) = true := by
            simp only [bne_iff_ne, ne_eq]; intro e; apply qn; left; apply (u8_eq c 45 (by omega)).1; rw [← HCN.out]; omega
          have hnd : (s[q]'hlt).toNat < 48 ∨ (48 ≤ (s[q]'hlt).toNat ∧ 57 < (s[q]'hlt).toNat) := by
            rw [HCN.out]
            have : ¬ (48 ≤ c.toNat ∧ c.toNat ≤ 57) := fun e => qn (.inr ((isDig_iff c).2 e))
            omega
          obtain ⟨c0, c1, c2, c3, d0, d1, d2, f0, f1, f2, f3, g0, g1, g2, sz⟩ := rnM_of HBw.out
          clear q34 qn
          rcases hnd with h | ⟨h, h'⟩
          all_goals
            (repeat (first | go_values | go_skip | go_guarded | go_step | go_upon | (go_simp; go_at_K)))
            refine bodyPost_ret (v := .tuple #[tokV (.err 3 q), errV (.err 3 q)]) (by simp [tokV, errV, results, Try.results27, go_sem, c0, c1, c2, c3, d0, d1, d2]) rfl ?_
            refine ⟨by rw [HRes2.out]; simp [LexR.shift], ?_⟩
            repeat' (with_reducible refine Below.setCell ?_ (by simp) _)
            exact rn_below HBw.out
        rw [if_pos qn] at HRes2
        have qn2 : (s[q]'hlt).toNat = 45 ∨ ((s[q]'hlt).toNat ≠ 45 ∧ 48 ≤ (s[q]'hlt).toNat ∧ (s[q]'hlt).toNat ≤ 57) := by
          rw [HCN.out]
          rcases qn with h | h
          · exact .inl (by rw [h]; rfl)
          · have := (isDig_iff c).1 h
            by_cases h45 : c.toNat = 45
            · exact .inl h45
            · exact .inr ⟨h45, this⟩
        have hnl := numLen_le (c :: r)
        have hrl : (c :: r).length = s.size - q := by rw [← HD.out, List.length_drop, sl_len]
        obtain ⟨N, hN⟩ : ∃ N, N = numLen (c :: r) := ⟨_, rfl⟩
        rw [← hN, hrl] at hnl
        have HNm : Hid (N = 0 + numLen ((sl s).drop (q + 0))) := by show _ = _; rw [Nat.add_zero, HD.out, Nat.zero_add, hN]
        unfold numR at HRes2
        rw [← hN] at HRes2
        have hxs : (s.extract q (q + N)).size ≤ 1000000 := by rw [← sl_len, sl_ext, List.length_take, List.length_drop, sl_len]; omega
        have CL := fun W => Lib.hid (rlexeme_calls (s.extract q (q + N)) hxs W)
        have hxl : sl (s.extract q (q + N)) = (c :: r).take N := by rw [sl_ext, HD.out, Nat.add_sub_cancel_left]
        have HXT : Hid (s.extract q (q + N) = txt ((c :: r).take N)) := by show _ = _; rw [← hxl, txt_sl]
        rw [hxl] at CL
        obtain ⟨L, hL⟩ : ∃ L, L = lexeme ((c :: r).take N) := ⟨_, rfl⟩
        rw [← hL] at CL HRes2
        clear q34 qn hrl hxs hxl hL hN
        rcases qn2 with h | ⟨h0, h, h'⟩
        · have i45 : (((s[q]'hlt).toNat : Int) != 45) = false := by rw [h]; rfl
          clear h
          go_wp2_with fail
          go_loop [11] (fun x => ∃ n : Nat, x = .int .i64 ((q + n : Nat) : Int) ∧ q + n ≤ s.size ∧ Hid (N = n + numLen ((sl s).drop (q + n)))) (fun x => s.size - (intOf x).toNat)
          case atStart => exact ⟨0, by simp, by omega, HNm⟩
          case round =>
            obtain ⟨n, rfl, hn, hz⟩ := hrel
            obtain ⟨e, he⟩ : ∃ e, e = q + n := ⟨_, rfl⟩
            rw [← he] at hn hz ⊢
            have HE := Lib.hid he
            have hne : n = e - q := by omega
            clear he
            have STOP : N = n → Hid (e = q + N) := fun h => Lib.hid (by rw [HE.out, h])
            by_cases hlte : e < s.size
            · have hde := sl_drop hlte
              have Z := hz.out
              rw [hde] at Z
              have CN := fun W => Lib.hid (rnumber_calls (s[e]'hlte) W)
              by_cases hnc : numCh (s[e]'hlte) = true
              · rw [show numLen (s[e]'hlte :: (sl s).drop (e + 1)) = numLen ((sl s).drop (e + 1)) + 1 by rw [numLen, if_pos hnc]] at Z
                have HN2 : Hid (N = (n + 1) + numLen ((sl s).drop (q + (n + 1)))) := by show _ = _; rw [show q + (n + 1) = e + 1 by have := HE.out; omega]; omega
                rw [hnc] at CN
                clear Z hz hde hnc STOP
                go_wp2_with fail
                refine (CN _).out.mono ?_
                rintro e1 w2 ⟨rfl, rfl⟩
                go_wp2_with fail
                go_round
                case rel => exact ⟨n + 1, by have := HE.out; simp; omega, by have := HE.out; omega, HN2⟩
                case measure => simp [intOf]; omega
              · have hnc2 : numCh (s[e]'hlte) = false := by simpa using hnc
                rw [show numLen (s[e]'hlte :: (sl s).drop (e + 1)) = 0 by rw [numLen, if_neg hnc]] at Z
                have HE2 := STOP (by omega)
                rw [hnc2] at CN
                clear Z hz hde hnc hnc2 STOP hne
                go_wp2_with fail
                refine (CN _).out.mono ?_
                rintro e1 w2 ⟨rfl, rfl⟩
                have q3 : IntKind.i64.wrap ((e : Int) - (q : Int)) = (N : Int) := by rw [show (e : Int) - (q : Int) = (N : Int) by have := HE2.out; omega]; exact IntWalk.i64_in _ (by omega)
                have hqe : q ≤ e := by have := HE2.out; omega
                rw [← HE2.out] at CL HXT
                by_cases hl0 : L = 0
                · subst hl0
                  rw [if_pos rfl] at HRes2
                  go_wp2_with fail
                  refine (CL _).out.mono ?_
                  rintro e1 w2 ⟨rfl, hb2⟩
                  have HB2 : Hid (Below (w.heap.size + 2) (rnW w) w2) := HBw.out.trans (hb2.mono (by omega))
                  obtain ⟨c0, c1, c2, c3, d0, d1, d2, f0, f1, f2, f3, g0, g1, g2, sz⟩ := rnM_of HB2.out
                  clear hb2
                  (repeat (first | go_values | go_skip | go_guarded | go_step | go_upon | (go_simp; go_at_K)))
                  refine bodyPost_ret (v := .tuple #[tokV (.err 3 q), errV (.err 3 q)]) (by simp [tokV, errV, results, Try.results27, go_sem, c0, c1, c2, c3, d0, d1, d2]) rfl ?_
                  refine ⟨by rw [HRes2.out]; simp [LexR.shift], ?_⟩
                  repeat' (with_reducible refine Below.setCell ?_ (by simp) _)
                  exact rn_below HB2.out
                rw [if_neg hl0] at HRes2
                have iL : ((L : Int) == 0) = false := by simp; omega
                by_cases h300 : 300 < N
                · rw [if_pos h300] at HRes2
                  have j300 : decide ((300 : Int) < (N : Int)) = true := by simp; omega
                  go_wp2_with fail
                  refine (CL _).out.mono ?_
                  rintro e1 w2 ⟨rfl, hb2⟩
                  have HB2 : Hid (Below (w.heap.size + 2) (rnW w) w2) := HBw.out.trans (hb2.mono (by omega))
                  obtain ⟨c0, c1, c2, c3, d0, d1, d2, f0, f1, f2, f3, g0, g1, g2, sz⟩ := rnM_of HB2.out
                  clear hb2
                  (repeat (first | go_values | go_skip | go_guarded | go_step | go_upon | (go_simp; go_at_K)))
                  refine bodyPost_ret (v := .tuple #[tokV (.err 10 q), errV (.err 10 q)]) (by simp [tokV, errV, results, Try.results27, go_sem, c0, c1, c2, c3, d0, d1, d2]) rfl ?_
                  refine ⟨by rw [HRes2.out]; simp [LexR.shift], ?_⟩
                  repeat' (with_reducible refine Below.setCell ?_ (by simp) _)
                  exact rn_below HB2.out
                · rw [if_neg h300] at HRes2
                  have j300 : decide ((300 : Int) < (N : Int)) = false := by simp; omega
                  go_wp2_with fail
                  refine (CL _).out.mono ?_
                  rintro e1 w2 ⟨rfl, hb2⟩
                  have HB2 : Hid (Below (w.heap.size + 2) (rnW w) w2) := HBw.out.trans (hb2.mono (by omega))
                  obtain ⟨c0, c1, c2, c3, d0, d1, d2, f0, f1, f2, f3, g0, g1, g2, sz⟩ := rnM_of HB2.out
                  clear hb2
                  (repeat (first | go_values | go_skip | go_guarded | go_step | go_upon | (go_simp; go_at_K)))
                  refine bodyPost_ret (v := .tuple #[tokV (.tok 9 q e ((c :: r).take N)), errV (.tok 9 q e ((c :: r).take N))]) (by simp [tokV, errV, results, Try.results27, go_sem, c0, c1, c2, c3, d0, d1, d2, HXT.out]) rfl ?_
                  refine ⟨by rw [HRes2.out]; simp [LexR.shift, HE2.out, Nat.add_comm], ?_⟩
                  repeat' (with_reducible refine Below.setCell ?_ (by simp) _)
                  exact rn_below HB2.out
            · have Z := hz.out
              rw [List.drop_of_length_le (by rw [sl_len]; omega)] at Z
              have HE2 := STOP (by simpa [numLen] using Z)
              clear Z hz STOP hne
              have q3 : IntKind.i64.wrap ((e : Int) - (q : Int)) = (N : Int) := by rw [show (e : Int) - (q : Int) = (N : Int) by have := HE2.out; omega]; exact IntWalk.i64_in _ (by omega)
              have hqe : q ≤ e := by have := HE2.out; omega
              rw [← HE2.out] at CL HXT
              by_cases hl0 : L = 0
              · subst hl0
                rw [if_pos rfl] at HRes2
                go_wp2_with fail
                refine (CL _).out.mono ?_
                rintro e1 w2 ⟨rfl, hb2⟩
                have HB2 : Hid (Below (w.heap.size + 2) (rnW w) w2) := HBw.out.trans (hb2.mono (by omega))
                obtain ⟨c0, c1, c2, c3, d0, d1, d2, f0, f1, f2, f3, g0, g1, g2, sz⟩ := rnM_of HB2.out
                clear hb2
                (repeat (first | go_values | go_skip | go_guarded | go_step | go_upon | (go_simp; go_at_K)))
                refine bodyPost_ret (v := .tuple #[tokV (.err 3 q), errV (.err 3 q)]) (by simp [tokV, errV, results, Try.results27, go_sem, c0, c1, c2, c3, d0, d1, d2]) rfl ?_
                refine ⟨by rw [HRes2.out]; simp [LexR.shift], ?_⟩
                repeat' (with_reducible refine Below.setCell ?_ (by simp) _)
                exact rn_below HB2.out
              rw [if_neg hl0] at HRes2
              have iL : ((L : Int) == 0) = false := by simp; omega
              by_cases h300 : 300 < N
              · rw [if_pos h300] at HRes2
                have j300 : decide ((300 : Int) < (N : Int)) = true := by simp; omega
                go_wp2_with fail
                refine (CL _).out.mono ?_
                rintro e1 w2 ⟨rfl, hb2⟩
                have HB2 : Hid (Below (w.heap.size + 2) (rnW w) w2) := HBw.out.trans (hb2.mono (by omega))
                obtain ⟨c0, c1, c2, c3, d0, d1, d2, f0, f1, f2, f3, g0, g1, g2, sz⟩ := rnM_of HB2.out
                clear hb2
                (repeat (first | go_values | go_skip | go_guarded | go_step | go_upon | (go_simp; go_at_K)))
                refine bodyPost_ret (v := .tuple #[tokV (.err 10 q), errV (.err 10 q)]) (by simp [tokV, errV, results, Try.results27, go_sem, c0, c1, c2, c3, d0, d1, d2]) rfl ?_
                refine ⟨by rw [HRes2.out]; simp [LexR.shift], ?_⟩
                repeat' (with_reducible refine Below.setCell ?_ (by simp) _)
                exact rn_below HB2.out
              · rw [if_neg h300] at HRes2
                have j300 : decide ((300 : Int) < (N : Int)) = false := by simp; omega
                go_wp2_with fail
                refine (CL _).out.mono ?_
                rintro e1 w2 ⟨rfl, hb2⟩
                have HB2 : Hid (Below (w.heap.size + 2) (rnW w) w2) := HBw.out.trans (hb2.mono (by omega))
                obtain ⟨c0, c1, c2, c3, d0, d1, d2, f0, f1, f2, f3, g0, g1, g2, sz⟩ := rnM_of HB2.out
                clear hb2
                (repeat (first | go_values | go_skip | go_guarded | go_step | go_upon | (go_simp; go_at_K)))
                refine bodyPost_ret (v := .tuple #[tokV (.tok 9 q e ((c :: r).take N)), errV (.tok 9 q e ((c :: r).take N))]) (by simp [tokV, errV, results, Try.results27, go_sem, c0, c1, c2, c3, d0, d1, d2, HXT.out]) rfl ?_
                refine ⟨by rw [HRes2.out]; simp [LexR.shift, HE2.out, Nat.add_comm], ?_⟩
                repeat' (with_reducible refine Below.setCell ?_ (by simp) _)
                exact rn_below HB2.out
        · have i45 : (((s[q]'hlt).toNat : Int) != 45) = true := by simp; omega
          have i48 : decide (((s[q]'hlt).toNat : Int) < 48) = false := by simp; omega
          have i57 : decide ((57 : Int) < ((s[q]'hlt).toNat : Int)) = false := by simp; omega
          clear h h' h0
          go_wp2_with fail
          go_loop [11] (fun x => ∃ n : Nat, x = .int .i64 ((q + n : Nat) : Int) ∧ q + n ≤ s.size ∧ Hid (N = n + numLen ((sl s).drop (q + n)))) (fun x => s.size - (intOf x).toNat)
          case atStart => exact ⟨0, by simp, by omega, HNm⟩
          case round =>
            obtain ⟨n, rfl, hn, hz⟩ := hrel
            obtain ⟨e, he⟩ : ∃ e, e = q + n := ⟨_, rfl⟩
            rw [← he] at hn hz ⊢
            have HE := Lib.hid he
            have hne : n = e - q := by omega
            clear he
            have STOP : N = n → Hid (e = q + N) := fun h => Lib.hid (by rw [HE.out, h])
            by_cases hlte : e < s.size
            · have hde := sl_drop hlte
              have Z := hz.out
              rw [hde] at Z
              have CN := fun W => Lib.hid (rnumber_calls (s[e]'hlte) W)
              by_cases hnc : numCh (s[e]'hlte) = true
              · rw [show numLen (s[e]'hlte :: (sl s).drop (e + 1)) = numLen ((sl s).drop (e + 1)) + 1 by rw [numLen, if_pos hnc]] at Z
                have HN2 : Hid (N = (n + 1) + numLen ((sl s).drop (q + (n + 1)))) := by show _ = _; rw [show q + (n + 1) = e + 1 by have := HE.out; omega]; omega
                rw [hnc] at CN
                clear Z hz hde hnc STOP
                go_wp2_with fail
                refine (CN _).out.mono ?_
                rintro e1 w2 ⟨rfl, rfl⟩
                go_wp2_with fail
                go_round
                case rel => exact ⟨n + 1, by have := HE.out; simp; omega, by have := HE.out; omega, HN2⟩
                case measure => simp [intOf]; omega
              · have hnc2 : numCh (s[e]'hlte) = false := by simpa using hnc
                rw [show numLen (s[e]'hlte :: (sl s).drop (e + 1)) = 0 by rw [numLen, if_neg hnc]] at Z
                have HE2 := STOP (by omega)
                rw [hnc2] at CN
                clear Z hz hde hnc hnc2 STOP hne
                go_wp2_with fail
                refine (CN _).out.mono ?_
                rintro e1 w2 ⟨rfl, rfl⟩
                have q3 : IntKind.i64.wrap ((e : Int) - (q : Int)) = (N : Int) := by rw [show (e : Int) - (q : Int) = (N : Int) by have := HE2.out; omega]; exact IntWalk.i64_in _ (by omega)
                have hqe : q ≤ e := by have := HE2.out; omega
                rw [← HE2.out] at CL HXT
                by_cases hl0 : L = 0
                · subst hl0
                  rw [if_pos rfl] at HRes2
                  go_wp2_with fail
                  refine (CL _).out.mono ?_
                  rintro e1 w2 ⟨rfl, hb2⟩
                  have HB2 : Hid (Below (w.heap.size + 2) (rnW w) w2) := HBw.out.trans (hb2.mono (by omega))
                  obtain ⟨c0, c1, c2, c3, d0, d1, d2, f0, f1, f2, f3, g0, g1, g2, sz⟩ := rnM_of HB2.out
                  clear hb2
                  (repeat (first | go_values | go_skip | go_guarded | go_step | go_upon | (go_simp; go_at_K)))
                  refine bodyPost_ret (v := .tuple #[tokV (.err 3 q), errV (.err 3 q)]) (by simp [tokV, errV, results, Try.results27, go_sem, c0, c1, c2, c3, d0, d1, d2]) rfl ?_
                  refine ⟨by rw [HRes2.out]; simp [LexR.shift], ?_⟩
                  repeat' (with_reducible refine Below.setCell ?_ (by simp) _)
                  exact rn_below HB2.out
                rw [if_neg hl0] at HRes2
                have iL : ((L : Int) == 0) = false := by simp; omega
                by_cases h300 : 300 < N
                · rw [if_pos h300] at HRes2
                  have j300 : decide ((300 : Int) < (N : Int)) = true := by simp; omega
                  go_wp2_with fail
                  refine (CL _).out.mono ?_
                  rintro e1 w2 ⟨rfl, hb2⟩
                  have HB2 : Hid (Below (w.heap.size + 2) (rnW w) w2) := HBw.out.trans (hb2.mono (by omega))
                  obtain ⟨c0, c1, c2, c3, d0, d1, d2, f0, f1, f2, f3, g0, g1, g2, sz⟩ := rnM_of HB2.out
                  clear hb2
                  (repeat (first | go_values | go_skip | go_guarded | go_step | go_upon | (go_simp; go_at_K)))
                  refine bodyPost_ret (v := .tuple #[tokV (.err 10 q), errV (.err 10 q)]) (by simp [tokV, errV, results, Try.results27, go_sem, c0, c1, c2, c3, d0, d1, d2]) rfl ?_
                  refine ⟨by rw [HRes2.out]; simp [LexR.shift], ?_⟩
                  repeat' (with_reducible refine Below.setCell ?_ (by simp) _)
                  exact rn_below HB2.out
                · rw [if_neg h300] at HRes2
                  have j300 : decide ((300 : Int) < (N : Int)) = false := by simp; omega
                  go_wp2_with fail
                  refine (CL _).out.mono ?_
                  rintro e1 w2 ⟨rfl, hb2⟩
                  have HB2 : Hid (Below (w.heap.size + 2) (rnW w) w2) := HBw.out.trans (hb2.mono (by omega))
                  obtain ⟨c0, c1, c2, c3, d0, d1, d2, f0, f1, f2, f3, g0, g1, g2, sz⟩ := rnM_of HB2.out
                  clear hb2
                  (repeat (first | go_values | go_skip | go_guarded | go_step | go_upon | (go_simp; go_at_K)))
                  refine bodyPost_ret (v := .tuple #[tokV (.tok 9 q e ((c :: r).take N)), errV (.tok 9 q e ((c :: r).take N))]) (by simp [tokV, errV, results, Try.results27, go_sem, c0, c1, c2, c3, d0, d1, d2, HXT.out]) rfl ?_
                  refine ⟨by rw [HRes2.out]; simp [LexR.shift, HE2.out, Nat.add_comm], ?_⟩
                  repeat' (with_reducible refine Below.setCell ?_ (by simp) _)
                  exact rn_below HB2.out
            · have Z := hz.out
              rw [List.drop_of_length_le (by rw [sl_len]; omega)] at Z
              have HE2 := STOP (by simpa [numLen] using Z)
              clear Z hz STOP hne
              have q3 : IntKind.i64.wrap ((e : Int) - (q : Int)) = (N : Int) := by rw [show (e : Int) - (q : Int) = (N : Int) by have := HE2.out; omega]; exact IntWalk.i64_in _ (by omega)
              have hqe : q ≤ e := by have := HE2.out; omega
              rw [← HE2.out] at CL HXT
              by_cases hl0 : L = 0
              · subst hl0
                rw [if_pos rfl] at HRes2
                go_wp2_with fail
                refine (CL _).out.mono ?_
                rintro e1 w2 ⟨rfl, hb2⟩
                have HB2 : Hid (Below (w.heap.size + 2) (rnW w) w2) := HBw.out.trans (hb2.mono (by omega))
                obtain ⟨c0, c1, c2, c3, d0, d1, d2, f0, f1, f2, f3, g0, g1, g2, sz⟩ := rnM_of HB2.out
                clear hb2
                (repeat (first | go_values | go_skip | go_guarded | go_step | go_upon | (go_simp; go_at_K)))
                refine bodyPost_ret (v := .tuple #[tokV (.err 3 q), errV (.err 3 q)]) (by simp [tokV, errV, results, Try.results27, go_sem, c0, c1, c2, c3, d0, d1, d2]) rfl ?_
                refine ⟨by rw [HRes2.out]; simp [LexR.shift], ?_⟩
                repeat' (with_reducible refine Below.setCell ?_ (by simp) _)
                exact rn_below HB2.out
              rw [if_neg hl0] at HRes2
              have iL : ((L : Int) == 0) = false := by simp; omega
              by_cases h300 : 300 < N
              · rw [if_pos h300] at HRes2
                have j300 : decide ((300 : Int) < (N : Int)) = true := by simp; omega
                go_wp2_with fail
                refine (CL _).out.mono ?_
                rintro e1 w2 ⟨rfl, hb2⟩
                have HB2 : Hid (Below (w.heap.size + 2) (rnW w) w2) := HBw.out.trans (hb2.mono (by omega))
                obtain ⟨c0, c1, c2, c3, d0, d1, d2, f0, f1, f2, f3, g0, g1, g2, sz⟩ := rnM_of HB2.out
                clear hb2
                (repeat (first | go_values | go_skip | go_guarded | go_step | go_upon | (go_simp; go_at_K)))
                refine bodyPost_ret (v := .tuple #[tokV (.err 10 q), errV (.err 10 q)]) (by simp [tokV, errV, results, Try.results27, go_sem, c0, c1, c2, c3, d0, d1, d2]) rfl ?_
                refine ⟨by rw [HRes2.out]; simp [LexR.shift], ?_⟩
                repeat' (with_reducible refine Below.setCell ?_ (by simp) _)
                exact rn_below HB2.out
              · rw [if_neg h300] at HRes2
                have j300 : decide ((300 : Int) < (N : Int)) = false := by simp; omega
                go_wp2_with fail
                refine (CL _).out.mono ?_
                rintro e1 w2 ⟨rfl, hb2⟩
                have HB2 : Hid (Below (w.heap.size + 2) (rnW w) w2) := HBw.out.trans (hb2.mono (by omega))
                obtain ⟨c0, c1, c2, c3, d0, d1, d2, f0, f1, f2, f3, g0, g1, g2, sz⟩ := rnM_of HB2.out
                clear hb2
                (repeat (first | go_values | go_skip | go_guarded | go_step | go_upon | (go_simp; go_at_K)))
                refine bodyPost_ret (v := .tuple #[tokV (.tok 9 q e ((c :: r).take N)), errV (.tok 9 q e ((c :: r).take N))]) (by simp [tokV, errV, results, Try.results27, go_sem, c0, c1, c2, c3, d0, d1, d2, HXT.out]) rfl ?_
                refine ⟨by rw [HRes2.out]; simp [LexR.shift, HE2.out, Nat.add_comm], ?_⟩
                repeat' (with_reducible refine Below.setCell ?_ (by simp) _)
                exact rn_below HB2.out

end Go.Proofs.Ytamhdoijmkjngaa
