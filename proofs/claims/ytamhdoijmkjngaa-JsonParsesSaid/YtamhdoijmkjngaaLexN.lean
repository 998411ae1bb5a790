/- The next token: plainly by the program's order; lex.Next, walked. -/
import Derived.Test.YtamhdoijmkjngaaLexK
namespace Go.Proofs.Ytamhdoijmkjngaa
open Go.RowKit
set_option linter.unusedVariables false
set_option linter.unusedSimpArgs false

theorem pre_one (x c : UInt8) (r : List UInt8) : pre [x] (c :: r) = (c == x) := by
  unfold pre; simp only [List.length_cons, List.length_nil, List.take_succ_cons, List.take_zero]
  cases h : c == x with
  | true => rw [eq_of_beq h]; simp
  | false => rw [beq_eq_false_iff_ne] at h ⊢; intro e; simp at e; exact h e

theorem tok_plain (c : UInt8) (r : List UInt8) : (0 < (plainN (c :: r)).1 → tokS (c :: r) = .tok (plainN (c :: r)).1 0 (plainN (c :: r)).2 []) ∧
    ((plainN (c :: r)).1 = 0 → tokS (c :: r) = if c = 34 then textR (c :: r) else if c = 45 ∨ isDig c = true then numR (c :: r) else .err 3 0) := by
  unfold plainN words
  simp only [plainL, pre_one, List.length_cons, List.length_nil, beq_iff_eq]
  rw [tokS]

  by_cases h0 : c = 123
  · simp only [if_pos h0]; exact ⟨fun _ => trivial, fun h => by omega⟩
  simp only [if_neg h0]
  by_cases h1 : c = 125
  · simp only [if_pos h1]; exact ⟨fun _ => trivial, fun h => by omega⟩
  simp only [if_neg h1]
  by_cases h2 : c = 91
  · simp only [if_pos h2]; exact ⟨fun _ => trivial, fun h => by omega⟩
  simp only [if_neg h2]
  by_cases h3 : c = 93
  · simp only [if_pos h3]; exact ⟨fun _ => trivial, fun h => by omega⟩
  simp only [if_neg h3]
  by_cases h4 : c = 58
  · simp only [if_pos h4]; exact ⟨fun _ => trivial, fun h => by omega⟩
  simp only [if_neg h4]
  by_cases h5 : c = 44
  · simp only [if_pos h5]; exact ⟨fun _ => trivial, fun h => by omega⟩
  simp only [if_neg h5]
  by_cases h6 : pre [116, 114, 117, 101] (c :: r) = true
  · simp only [if_pos h6]; exact ⟨fun _ => trivial, fun h => by omega⟩
  simp only [if_neg h6]
  by_cases h7 : pre [102, 97, 108, 115, 101] (c :: r) = true
  · simp only [if_pos h7]; exact ⟨fun _ => trivial, fun h => by omega⟩
  simp only [if_neg h7]
  by_cases h8 : pre [110, 117, 108, 108] (c :: r) = true
  · simp only [if_pos h8]; exact ⟨fun _ => trivial, fun h => by omega⟩
  simp only [if_neg h8]
  exact ⟨fun h => by omega, fun _ => rfl⟩

/-- The next token from any place on. -/
def nextI (l : List UInt8) (p : Int) : LexR := if p < 0 then .err 1 0 else nextAt l p.toNat

set_option maxRecDepth 100000 in
set_option maxHeartbeats 8000000 in
theorem next_calls (s : ByteArray) (hs : s.size ≤ 1000000) (at' : Int) (hat : -9223372036854775808 ≤ at' ∧ at' ≤ 9223372036854775807) (w : World) :
    Calls Try.prog 26 #[.string s, .int .i64 at'] w (LexOut w (nextI (sl s) at')) := by
  by_cases hout : at' < 0 ∨ (s.size : Int) < at'
  · have HRes : Hid (nextI (sl s) at' = .err 1 0) := by
      show _ = _
      unfold nextI nextAt
      by_cases h : at' < 0
      · rw [if_pos h]
      · rw [if_neg h, if_pos (by rw [sl_len]; omega)]
    have CW := fun x y W => Lib.hid (wrong_calls x y W)
    have hout2 : at' < 0 ∨ (0 ≤ at' ∧ (s.size : Int) < at') := by omega
    clear hout
    rcases hout2 with h | ⟨h, h'⟩
    all_goals
      go_enter Try.func26, Try.ntmps26
      go_wp2_with fail
      refine (CW _ _ _).out.mono ?_
      rintro e w1 ⟨rfl, hb1⟩
      have HB1 : Hid (Below (w.heap.size + 2) (lexW w) w1) := by rw [← lexW_size w]; exact hb1
      obtain ⟨c0, c1, c2, c3, d0, d1, d2, f0, f1, f2, f3, g0, g1, g2, sz⟩ := lexM_of HB1.out
      clear hb1
      go_wp2_with fail
      refine bodyPost_ret (v := .tuple #[tokV (.err 1 0), errV (.err 1 0)]) (by simp [tokV, errV, results, Try.results26, go_sem, c0, c1, c2, c3, d0, d1, d2]) rfl ?_
      exact ⟨by rw [HRes.out], lex_close HB1.out _ _ _ _ _ _ _⟩
  obtain ⟨p, rfl⟩ : ∃ p : Nat, at' = p := ⟨at'.toNat, by omega⟩
  have hp : p ≤ s.size := by omega
  obtain ⟨Q, hQ⟩ : ∃ Q, Q = p + blanks ((sl s).drop p) := ⟨_, rfl⟩
  have HRes : Hid (nextI (sl s) (p : Int) = (tokS ((sl s).drop Q)).shift Q) := by
    show _ = _
    unfold nextI nextAt nextS
    rw [if_neg (by omega), Int.toNat_natCast, if_neg (by rw [sl_len]; omega), LexR.shift_shift, List.drop_drop, hQ]
  have HQ := Lib.hid hQ
  clear hQ hout hat
  go_enter Try.func26, Try.ntmps26
  go_wp2_with fail
  go_loop [1] (fun x => ∃ q : Nat, x = .int .i64 q ∧ q ≤ s.size ∧ Hid (Q = q + blanks ((sl s).drop q))) (fun x => s.size - (intOf x).toNat)
  case atStart => exact ⟨p, rfl, hp, HQ⟩
  case round =>
    obtain ⟨q, rfl, hq, hz⟩ := hrel
    by_cases hlt : q < s.size
    · have hd := sl_drop hlt
      have Z := hz.out
      rw [hd] at Z
      simp only [blanks] at Z
      obtain ⟨c, hc⟩ : ∃ c, c = s[q]'hlt := ⟨_, rfl⟩
      have ub := u8_lt (s[q]'hlt)
      have hcn : (s[q]'hlt).toNat = c.toNat := by rw [hc]
      rw [← hc] at hd Z
      by_cases hbl : blank c = true
      · rw [if_pos hbl] at Z
        have HN : Hid (Q = q + 1 + blanks ((sl s).drop (q + 1))) := by show _ = _; omega
        have h4 : c.toNat = 32 ∨ (c.toNat = 9 ∨ c.toNat = 10 ∨ c.toNat = 13) := by
          unfold blank at hbl
          simp only [Bool.or_eq_true, beq_iff_eq] at hbl
          rcases hbl with ((h | h) | h) | h
          · exact .inr (.inl (by rw [h]; rfl))
          · exact .inr (.inr (.inl (by rw [h]; rfl)))
          · exact .inr (.inr (.inr (by rw [h]; rfl)))
          · exact .inl (by rw [h]; rfl)
        rw [← hcn] at h4
        clear Z hd hc hcn hbl
        rcases h4 with h | h | h | h
        · have hI : ((s[q]'hlt).toNat : Int) = 32 := by rw [h]; rfl
          clear h
          go_wp2_with fail
          go_round
          case rel => exact ⟨q + 1, by simp, by omega, HN⟩
          case measure => simp [intOf]; omega
        · have hI : ((s[q]'hlt).toNat : Int) = 9 := by rw [h]; rfl
          clear h
          go_wp2_with fail
          go_round
          case rel => exact ⟨q + 1, by simp, by omega, HN⟩
          case measure => simp [intOf]; omega
        · have hI : ((s[q]'hlt).toNat : Int) = 10 := by rw [h]; rfl
          clear h
          go_wp2_with fail
          go_round
          case rel => exact ⟨q + 1, by simp, by omega, HN⟩
          case measure => simp [intOf]; omega
        · have hI : ((s[q]'hlt).toNat : Int) = 13 := by rw [h]; rfl
          clear h
          go_wp2_with fail
          go_round
          case rel => exact ⟨q + 1, by simp, by omega, HN⟩
          case measure => simp [intOf]; omega
      · rw [if_neg hbl] at Z
        have HN : Hid (Q = q) := by show _ = _; omega
        rw [HN.out, hd] at HRes
        have hne : c.toNat ≠ 32 ∧ c.toNat ≠ 9 ∧ c.toNat ≠ 10 ∧ c.toNat ≠ 13 := by
          refine ⟨fun e => hbl ?_, fun e => hbl ?_, fun e => hbl ?_, fun e => hbl ?_⟩
          · rw [(u8_eq c 32 (by omega)).1 e]; rfl
          · rw [(u8_eq c 9 (by omega)).1 e]; rfl
          · rw [(u8_eq c 10 (by omega)).1 e]; rfl
          · rw [(u8_eq c 13 (by omega)).1 e]; rfl
        rw [← hcn] at hne
        obtain ⟨n1, n2, n3, n4⟩ := hne
        have b1 : (((s[q]'hlt).toNat : Int) == 32) = false := by simp; omega
        have b2 : (((s[q]'hlt).toNat : Int) == 9) = false := by simp; omega
        have b3 : (((s[q]'hlt).toNat : Int) == 10) = false := by simp; omega
        have b4 : (((s[q]'hlt).toNat : Int) == 13) = false := by simp; omega
        have b5 : ((q : Int) == s.size) = false := by simp; omega
        obtain ⟨T1, T2⟩ := tok_plain c ((sl s).drop (q + 1))
        have hext : sl (s.extract q s.size) = c :: (sl s).drop (q + 1) := by rw [sl_ext, List.take_of_length_le (by rw [List.length_drop, sl_len]; omega), hd]
        have CP := fun W => Lib.hid (plain_calls (s.extract q s.size) (by rw [← sl_len, sl_ext, List.length_take, List.length_drop, sl_len]; omega) W)
        rw [hext] at CP
        obtain ⟨k, hk⟩ : ∃ k, (plainN (c :: (sl s).drop (q + 1))).1 = k := ⟨_, rfl⟩
        obtain ⟨n, hn⟩ : ∃ n, (plainN (c :: (sl s).drop (q + 1))).2 = n := ⟨_, rfl⟩
        rw [hk, hn] at CP T1
        rw [hk] at T2
        have hnb : n ≤ 1000 := by
          rw [← hn]
          unfold plainN words
          simp only [plainL]
          (repeat' split) <;> simp
        clear Z hbl hext hk hn n1 n2 n3 n4
        by_cases hk0 : 0 < k
        · rw [T1 hk0] at HRes
          have t1 : decide ((0 : Int) < k) = true := by simp; omega
          clear T1 T2 hd hc hcn hz
          go_wp2_with fail
          refine (CP _).out.mono ?_
          rintro e w' ⟨rfl, rfl⟩
          go_wp2_with fail
          refine bodyPost_ret (v := .tuple #[tokV (.tok k q (q + n) []), errV (.tok k q (q + n) [])]) (by simp [tokV, errV, results, Try.results26, go_sem, txt]) rfl ?_
          exact ⟨by rw [HRes.out]; rfl, ((Below.refl _ _).alloc (Nat.le_refl _) _).alloc (by simp) _⟩
        obtain rfl : k = 0 := by omega
        rw [T2 rfl] at HRes
        clear T1 T2 hk0
        by_cases q34 : c = 34
        · rw [if_pos q34] at HRes
          have i34 : ((s[q]'hlt).toNat : Int) = 34 := by rw [hcn, q34]; rfl
          have CT := fun W => Lib.hid (text_calls s hs q hlt W)
          rw [hd] at CT
          obtain ⟨R', hR'⟩ : ∃ R', (textR (c :: (sl s).drop (q + 1))).shift q = R' := ⟨_, rfl⟩
          rw [hR'] at CT HRes
          clear hd hc hcn hz q34 hR' b1 b2 b3 b4
          cases R' with
          | tok k0 a0 s0 t0 =>
            go_wp2_with fail
            refine (CP _).out.mono ?_
            rintro e w' ⟨rfl, rfl⟩
            go_wp2_with fail
            refine (CT _).out.mono ?_
            rintro e w1 ⟨rfl, hb1⟩
            have HB1 : Hid (Below (w.heap.size + 2) (lexW w) w1) := by rw [← lexW_size w]; exact hb1
            obtain ⟨c0, c1, c2, c3, d0, d1, d2, f0, f1, f2, f3, g0, g1, g2, sz⟩ := lexM_of HB1.out
            clear hb1
            simp only [tokV, errV]
            go_wp2_with fail
            refine bodyPost_ret (v := .tuple #[tokV (.tok k0 a0 s0 t0), errV (.tok k0 a0 s0 t0)]) (by simp [tokV, errV, results, Try.results26, go_sem, c0, c1, c2, c3, d0, d1, d2]) rfl ?_
            exact ⟨by rw [HRes.out], lex_close HB1.out _ _ _ _ _ _ _⟩
          | err x0 a0 =>
            go_wp2_with fail
            refine (CP _).out.mono ?_
            rintro e w' ⟨rfl, rfl⟩
            go_wp2_with fail
            refine (CT _).out.mono ?_
            rintro e w1 ⟨rfl, hb1⟩
            have HB1 : Hid (Below (w.heap.size + 2) (lexW w) w1) := by rw [← lexW_size w]; exact hb1
            obtain ⟨c0, c1, c2, c3, d0, d1, d2, f0, f1, f2, f3, g0, g1, g2, sz⟩ := lexM_of HB1.out
            clear hb1
            simp only [tokV, errV]
            go_wp2_with fail
            refine bodyPost_ret (v := .tuple #[tokV (.err x0 a0), errV (.err x0 a0)]) (by simp [tokV, errV, results, Try.results26, go_sem, c0, c1, c2, c3, d0, d1, d2]) rfl ?_
            exact ⟨by rw [HRes.out], lex_close HB1.out _ _ _ _ _ _ _⟩
        rw [if_neg q34] at HRes
        have i34 : (((s[q]'hlt).toNat : Int) == 34) = false := by
          simp only [beq_eq_false_iff_ne]; intro e; apply q34; apply (u8_eq c 34 (by omega)).1; omega
        by_cases qn : c = 45 ∨ isDig c = true
        · rw [if_pos qn] at HRes
          have CT := fun W => Lib.hid (number_calls s hs q (by omega) W)
          rw [hd] at CT
          obtain ⟨R', hR'⟩ : ∃ R', (numR (c :: (sl s).drop (q + 1))).shift q = R' := ⟨_, rfl⟩
          rw [hR'] at CT HRes
          have qn2 : (s[q]'hlt).toNat = 45 ∨ ((s[q]'hlt).toNat ≠ 45 ∧ 48 ≤ (s[q]'hlt).toNat ∧ (s[q]'hlt).toNat ≤ 57) := by
            rw [hcn]
            rcases qn with h | h
            · exact .inl (by rw [h]; rfl)
            · have := (isDig_iff c).1 h
              by_cases h45 : c.toNat = 45
              · exact .inl h45
              · exact .inr ⟨h45, this⟩
          clear hd hc hcn hz q34 hR' qn
          rcases qn2 with h | ⟨h0, h, h'⟩
          · have i45 : ((s[q]'hlt).toNat : Int) = 45 := by rw [h]; rfl
            clear h
            cases R' with
            | tok k0 a0 s0 t0 =>
              go_wp2_with fail
              refine (CP _).out.mono ?_
              rintro e w' ⟨rfl, rfl⟩
              go_wp2_with fail
              refine (CT _).out.mono ?_
              rintro e w1 ⟨rfl, hb1⟩
              have HB1 : Hid (Below (w.heap.size + 2) (lexW w) w1) := by rw [← lexW_size w]; exact hb1
              obtain ⟨c0, c1, c2, c3, d0, d1, d2, f0, f1, f2, f3, g0, g1, g2, sz⟩ := lexM_of HB1.out
              clear hb1
              simp only [tokV, errV]
              go_wp2_with fail
              refine bodyPost_ret (v := .tuple #[tokV (.tok k0 a0 s0 t0), errV (.tok k0 a0 s0 t0)]) (by simp [tokV, errV, results, Try.results26, go_sem, c0, c1, c2, c3, d0, d1, d2]) rfl ?_
              exact ⟨by rw [HRes.out], lex_close HB1.out _ _ _ _ _ _ _⟩
            | err x0 a0 =>
              go_wp2_with fail
              refine (CP _).out.mono ?_
              rintro e w' ⟨rfl, rfl⟩
              go_wp2_with fail
              refine (CT _).out.mono ?_
              rintro e w1 ⟨rfl, hb1⟩
              have HB1 : Hid (Below (w.heap.size + 2) (lexW w) w1) := by rw [← lexW_size w]; exact hb1
              obtain ⟨c0, c1, c2, c3, d0, d1, d2, f0, f1, f2, f3, g0, g1, g2, sz⟩ := lexM_of HB1.out
              clear hb1
              simp only [tokV, errV]
              go_wp2_with fail
              refine bodyPost_ret (v := .tuple #[tokV (.err x0 a0), errV (.err x0 a0)]) (by simp [tokV, errV, results, Try.results26, go_sem, c0, c1, c2, c3, d0, d1, d2]) rfl ?_
              exact ⟨by rw [HRes.out], lex_close HB1.out _ _ _ _ _ _ _⟩
          · have i45 : (((s[q]'hlt).toNat : Int) == 45) = false := by simp; omega
            have i48 : decide ((48 : Int) ≤ (s[q]'hlt).toNat) = true := by simp; omega
            have i57 : decide (((s[q]'hlt).toNat : Int) ≤ 57) = true := by simp; omega
            clear h h' h0
            cases R' with
            | tok k0 a0 s0 t0 =>
              go_wp2_with fail
              refine (CP _).out.mono ?_
              rintro e w' ⟨rfl, rfl⟩
              go_wp2_with fail
              refine (CT _).out.mono ?_
              rintro e w1 ⟨rfl, hb1⟩
              have HB1 : Hid (Below (w.heap.size + 2) (lexW w) w1) := by rw [← lexW_size w]; exact hb1
              obtain ⟨c0, c1, c2, c3, d0, d1, d2, f0, f1, f2, f3, g0, g1, g2, sz⟩ := lexM_of HB1.out
              clear hb1
              simp only [tokV, errV]
              go_wp2_with fail
              refine bodyPost_ret (v := .tuple #[tokV (.tok k0 a0 s0 t0), errV (.tok k0 a0 s0 t0)]) (by simp [tokV, errV, results, Try.results26, go_sem, c0, c1, c2, c3, d0, d1, d2]) rfl ?_
              exact ⟨by rw [HRes.out], lex_close HB1.out _ _ _ _ _ _ _⟩
            | err x0 a0 =>
              go_wp2_with fail
              refine (CP _).out.mono ?_
              rintro e w' ⟨rfl, rfl⟩
              go_wp2_with fail
              refine (CT _).out.mono ?_
              rintro e w1 ⟨rfl, hb1⟩
              have HB1 : Hid (Below (w.heap.size + 2) (lexW w) w1) := by rw [← lexW_size w]; exact hb1
              obtain ⟨c0, c1, c2, c3, d0, d1, d2, f0, f1, f2, f3, g0, g1, g2, sz⟩ := lexM_of HB1.out
              clear hb1
              simp only [tokV, errV]
              go_wp2_with fail
              refine bodyPost_ret (v := .tuple #[tokV (.err x0 a0), errV (.err x0 a0)]) (by simp [tokV, errV, results, Try.results26, go_sem, c0, c1, c2, c3, d0, d1, d2]) rfl ?_
              exact ⟨by rw [HRes.out], lex_close HB1.out _ _ _ _ _ _ _⟩
        rw [if_neg qn] at HRes
        have i45 : (((s[q]'hlt).toNat : Int) == 45) = false := by
          simp only [beq_eq_false_iff_ne]; intro e; apply qn; left; apply (u8_eq c 45 (by omega)).1; omega
        have hnd : (s[q]'hlt).toNat < 48 ∨ (48 ≤ (s[q]'hlt).toNat ∧ 57 < (s[q]'hlt).toNat) := by
          rw [hcn]
          have : ¬ (48 ≤ c.toNat ∧ c.toNat ≤ 57) := fun e => qn (.inr ((isDig_iff c).2 e))
          omega
        have CW := fun x W => Lib.hid (wrong_calls x q W)
        clear hd hc hcn hz q34 qn
        rcases hnd with h | ⟨h, h'⟩
        all_goals
          go_wp2_with fail
          refine (CP _).out.mono ?_
          rintro e w' ⟨rfl, rfl⟩
          go_wp2_with fail
          refine (CW _ _).out.mono ?_
          rintro e w1 ⟨rfl, hb1⟩
          have HB1 : Hid (Below (w.heap.size + 2) (lexW w) w1) := by rw [← lexW_size w]; exact hb1
          obtain ⟨c0, c1, c2, c3, d0, d1, d2, f0, f1, f2, f3, g0, g1, g2, sz⟩ := lexM_of HB1.out
          clear hb1
          go_wp2_with fail
          refine bodyPost_ret (v := .tuple #[tokV (.err 3 q), errV (.err 3 q)]) (by simp [tokV, errV, results, Try.results26, go_sem, c0, c1, c2, c3, d0, d1, d2]) rfl ?_
          exact ⟨by rw [HRes.out]; rfl, lex_close HB1.out _ _ _ _ _ _ _⟩
    · obtain rfl : q = s.size := by omega
      have Z := hz.out
      rw [List.drop_of_length_le (by rw [sl_len]; omega)] at Z
      simp only [blanks, Nat.add_zero] at Z
      rw [Z, List.drop_of_length_le (by rw [sl_len]; omega)] at HRes
      clear Z hz
      go_wp2_with fail
      refine bodyPost_ret (v := .tuple #[tokV (.tok 1 s.size s.size []), errV (.tok 1 s.size s.size [])]) (by simp [tokV, errV, results, Try.results26, go_sem, txt]) rfl ?_
      exact ⟨by rw [HRes.out]; rfl, ((Below.refl _ _).alloc (Nat.le_refl _) _).alloc (by simp) _⟩

end Go.Proofs.Ytamhdoijmkjngaa
