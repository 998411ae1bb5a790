/- whole.Lexeme, walked by cases. -/
import Derived.Test.YtamhdoijmkjngaaLexeP
namespace Go.Proofs.Ytamhdoijmkjngaa
open Go.RowKit
set_option linter.unusedVariables false
set_option linter.unusedSimpArgs false

theorem is_of (s : ByteArray) (hs : s.size ≤ 1000000) (p c d : Nat) (b : Bool) (hb : atB (sl s) p c d = b) (w : World) :
    Calls Try.prog 64 #[.string s, .int .i64 p, .int .u8 c, .int .u8 d] w fun e w' => e = .returned (.bool b) ∧ w = w' := by
  rw [← hb]; exact wis_calls s hs p c d w
theorem digits_of (s : ByteArray) (hs : s.size ≤ 1000000) (p n : Nat) (hp : p ≤ s.size) (hn : digs ((sl s).drop p) = n) (w : World) :
    Calls Try.prog 65 #[.string s, .int .i64 p] w fun e w' => e = .returned (.int .i64 ((p + n : Nat) : Int)) ∧ w = w' := by
  rw [← hn]; exact digits_calls s hs p hp w
theorem at_lt {s : ByteArray} {p c d : Nat} (h : atB (sl s) p c d = true) : p < s.size := by
  unfold atB at h; rw [sl_len] at h; exact (of_decide_eq_true h).1

set_option maxRecDepth 100000 in
set_option maxHeartbeats 20000000 in
theorem lexeme_calls (s : ByteArray) (hs : s.size ≤ 1000000) (w : World) :
    Calls Try.prog 41 #[.string s] w fun e w' => e = .returned (.int .i64 ((lexeme (sl s) : Nat) : Int)) ∧ w = w' := by
  obtain ⟨R, hR⟩ : ∃ R : Nat, R = lexeme (sl s) := ⟨_, rfl⟩
  rw [← hR]
  rw [← lexemeP_eq] at hR
  have HR := Lib.hid hR
  clear hR
  go_enter Try.func41, Try.ntmps41
  go_wp2_with fail
  rcases Bool.eq_false_or_eq_true (atB (sl s) (0) 45 45) with b1 | b1
  · have C1 := Lib.hid (is_of s hs (0) 45 45 true b1 w)
    have B1 := Lib.hid b1; clear b1
    refine C1.out.mono ?_
    rintro e w' ⟨rfl, rfl⟩
    go_wp2_with fail
    have lt0 : 0 < s.size := at_lt B1.out
    have le2 : 1 ≤ s.size := by omega
    obtain ⟨n2, h2⟩ : ∃ n, digs ((sl s).drop (1)) = n := ⟨_, rfl⟩
    have g2 := digs_le ((sl s).drop (1)); rw [h2, List.length_drop, sl_len] at g2
    obtain rfl | z2 := Nat.eq_zero_or_pos n2
    · have C2 := Lib.hid (digits_of s hs (1) 0 le2 h2 w)
      have H2 := Lib.hid h2; clear h2 g2
      refine C2.out.mono ?_
      rintro e w' ⟨rfl, rfl⟩
      go_wp2_with fail
      have HN : Hid (R = 0) := by
        show _ = _
        rw [HR.out]
        simp only [lexemeP, lexF, lexE, if_true, if_false, Bool.false_eq_true, false_or, or_false, true_or, or_true, true_and, and_true, false_and, and_false, B1.out, H2.out]
      go_ret
      exact ⟨by rw [HN.out]; rfl, rfl⟩
    · obtain ⟨e2, E2⟩ : ∃ e, e = 1 + n2 := ⟨_, rfl⟩
      have C2 := Lib.hid (digits_of s hs (1) n2 le2 h2 w)
      have H2 := Lib.hid h2; clear h2
      rw [← E2] at C2
      have l2 : e2 ≤ s.size := by omega
      have q2 : 1 < e2 := by omega
      have Z2 : Hid (¬ (n2 = 0)) := by show ¬ _; omega
      have G2 := Lib.hid E2; clear E2 z2 g2 le2
      have lp : 1 < s.size := by omega
      have hb : bAt (sl s) (1) = (s[1]'lp).toNat := by unfold bAt; rw [sl_at lp]
      by_cases c8 : (s[1]'lp).toNat = 48
      · have K8 : Hid (bAt (sl s) (1) = 48) := by show _ = _; rw [hb, c8]
        clear hb
        by_cases c1 : 1 + 1 < e2
        · have K1 : Hid (1 < n2) := by show _ < _; have := G2.out; omega
          refine C2.out.mono ?_
          rintro e w' ⟨rfl, rfl⟩
          go_wp2_with fail
          have HN : Hid (R = 0) := by
            show _ = _
            rw [HR.out]
            simp only [lexemeP, lexF, lexE, if_true, if_false, Bool.false_eq_true, false_or, or_false, true_or, or_true, true_and, and_true, false_and, and_false, B1.out, H2.out, ← G2.out, Z2.out, K8.out, K1.out]
          go_ret
          exact ⟨by rw [HN.out]; rfl, rfl⟩
        · have K1 : Hid (¬ (1 < n2)) := by show ¬ _; have := G2.out; omega
          have t1 : ((e2 : Int) == 1) = false := by simp; omega
          have t2 : decide (2 < (e2 : Int)) = false := by simp; omega
          refine C2.out.mono ?_
          rintro e w' ⟨rfl, rfl⟩
          go_wp2_with fail
          rcases Bool.eq_false_or_eq_true (atB (sl s) (e2) 46 46) with b3 | b3
          · have C3 := Lib.hid (is_of s hs (e2) 46 46 true b3 w)
            have B3 := Lib.hid b3; clear b3
            refine C3.out.mono ?_
            rintro e w' ⟨rfl, rfl⟩
            go_wp2_with fail
            have lt : e2 < s.size := at_lt B3.out
            have le4 : e2 + 1 ≤ s.size := by omega
            obtain ⟨n4, h4⟩ : ∃ n, digs ((sl s).drop (e2 + 1)) = n := ⟨_, rfl⟩
            have g4 := digs_le ((sl s).drop (e2 + 1)); rw [h4, List.length_drop, sl_len] at g4
            obtain rfl | z4 := Nat.eq_zero_or_pos n4
            · have C4 := Lib.hid (digits_of s hs (e2 + 1) 0 le4 h4 w)
              have H4 := Lib.hid h4; clear h4 g4
              refine C4.out.mono ?_
              rintro e w' ⟨rfl, rfl⟩
              go_wp2_with fail
              have HN : Hid (R = 0) := by
                show _ = _
                rw [HR.out]
                simp only [lexemeP, lexF, lexE, if_true, if_false, Bool.false_eq_true, false_or, or_false, true_or, or_true, true_and, and_true, false_and, and_false, B1.out, H2.out, ← G2.out, Z2.out, K8.out, K1.out, B3.out, H4.out]
              go_ret
              exact ⟨by rw [HN.out]; rfl, rfl⟩
            · obtain ⟨e4, E4⟩ : ∃ e, e = e2 + 1 + n4 := ⟨_, rfl⟩
              have C4 := Lib.hid (digits_of s hs (e2 + 1) n4 le4 h4 w)
              have H4 := Lib.hid h4; clear h4
              rw [← E4] at C4
              have l4 : e4 ≤ s.size := by omega
              have q4 : e2 + 1 < e4 := by omega
              have Z4 : Hid (¬ (n4 = 0)) := by show ¬ _; omega
              have G4 := Lib.hid E4; clear E4 z4 g4 le4
              refine C4.out.mono ?_
              rintro e w' ⟨rfl, rfl⟩
              go_wp2_with fail
              rcases Bool.eq_false_or_eq_true (atB (sl s) (e4) 101 69) with b5 | b5
              · have C5 := Lib.hid (is_of s hs (e4) 101 69 true b5 w)
                have B5 := Lib.hid b5; clear b5
                refine C5.out.mono ?_
                rintro e w' ⟨rfl, rfl⟩
                go_wp2_with fail
                have lt : e4 < s.size := at_lt B5.out
                rcases Bool.eq_false_or_eq_true (atB (sl s) (e4 + 1) 43 45) with b6 | b6
                · have C6 := Lib.hid (is_of s hs (e4 + 1) 43 45 true b6 w)
                  have B6 := Lib.hid b6; clear b6
                  refine C6.out.mono ?_
                  rintro e w' ⟨rfl, rfl⟩
                  go_wp2_with fail
                  have lt2 : e4 + 1 < s.size := at_lt B6.out
                  have le7 : e4 + 2 ≤ s.size := by omega
                  obtain ⟨n7, h7⟩ : ∃ n, digs ((sl s).drop (e4 + 2)) = n := ⟨_, rfl⟩
                  have g7 := digs_le ((sl s).drop (e4 + 2)); rw [h7, List.length_drop, sl_len] at g7
                  obtain rfl | z7 := Nat.eq_zero_or_pos n7
                  · have C7 := Lib.hid (digits_of s hs (e4 + 2) 0 le7 h7 w)
                    have H7 := Lib.hid h7; clear h7 g7
                    refine C7.out.mono ?_
                    rintro e w' ⟨rfl, rfl⟩
                    go_wp2_with fail
                    have HN : Hid (R = 0) := by
                      show _ = _
                      rw [HR.out]
                      simp only [lexemeP, lexF, lexE, if_true, if_false, Bool.false_eq_true, false_or, or_false, true_or, or_true, true_and, and_true, false_and, and_false, B1.out, H2.out, ← G2.out, Z2.out, K8.out, K1.out, B3.out, H4.out, ← G4.out, Z4.out, B5.out, B6.out, H7.out]
                    go_ret
                    exact ⟨by rw [HN.out]; rfl, rfl⟩
                  · obtain ⟨e7, E7⟩ : ∃ e, e = e4 + 2 + n7 := ⟨_, rfl⟩
                    have C7 := Lib.hid (digits_of s hs (e4 + 2) n7 le7 h7 w)
                    have H7 := Lib.hid h7; clear h7
                    rw [← E7] at C7
                    have l7 : e7 ≤ s.size := by omega
                    have q7 : e4 + 2 < e7 := by omega
                    have Z7 : Hid (¬ (n7 = 0)) := by show ¬ _; omega
                    have G7 := Lib.hid E7; clear E7 z7 g7 le7
                    by_cases y : e7 = s.size
                    · have Y : Hid ((sl s).length = s.size) := by show _ = _; rw [sl_len]
                      subst y
                      refine C7.out.mono ?_
                      rintro e w' ⟨rfl, rfl⟩
                      go_wp2_with fail
                      have HN : Hid (R = 2) := by
                        show _ = _
                        rw [HR.out]
                        simp only [lexemeP, lexF, lexE, if_true, if_false, Bool.false_eq_true, false_or, or_false, true_or, or_true, true_and, and_true, false_and, and_false, B1.out, H2.out, ← G2.out, Z2.out, K8.out, K1.out, B3.out, H4.out, ← G4.out, Z4.out, B5.out, B6.out, H7.out, ← G7.out, Z7.out, Y.out]
                      go_ret
                      exact ⟨by rw [HN.out]; rfl, rfl⟩
                    · have Y : Hid (¬ (e7 = (sl s).length)) := by show ¬ _; rw [sl_len]; exact y
                      have y2 : e7 < s.size := by omega
                      have y3 : ((e7 : Int) == s.size) = false := by simp; omega
                      refine C7.out.mono ?_
                      rintro e w' ⟨rfl, rfl⟩
                      go_wp2_with fail
                      have HN : Hid (R = 0) := by
                        show _ = _
                        rw [HR.out]
                        simp only [lexemeP, lexF, lexE, if_true, if_false, Bool.false_eq_true, false_or, or_false, true_or, or_true, true_and, and_true, false_and, and_false, B1.out, H2.out, ← G2.out, Z2.out, K8.out, K1.out, B3.out, H4.out, ← G4.out, Z4.out, B5.out, B6.out, H7.out, ← G7.out, Z7.out, Y.out]
                      go_ret
                      exact ⟨by rw [HN.out]; rfl, rfl⟩
                · have C6 := Lib.hid (is_of s hs (e4 + 1) 43 45 false b6 w)
                  have B6 := Lib.hid b6; clear b6
                  refine C6.out.mono ?_
                  rintro e w' ⟨rfl, rfl⟩
                  go_wp2_with fail
                  have le8 : e4 + 1 ≤ s.size := by omega
                  obtain ⟨n8, h8⟩ : ∃ n, digs ((sl s).drop (e4 + 1)) = n := ⟨_, rfl⟩
                  have g8 := digs_le ((sl s).drop (e4 + 1)); rw [h8, List.length_drop, sl_len] at g8
                  obtain rfl | z8 := Nat.eq_zero_or_pos n8
                  · have C8 := Lib.hid (digits_of s hs (e4 + 1) 0 le8 h8 w)
                    have H8 := Lib.hid h8; clear h8 g8
                    refine C8.out.mono ?_
                    rintro e w' ⟨rfl, rfl⟩
                    go_wp2_with fail
                    have HN : Hid (R = 0) := by
                      show _ = _
                      rw [HR.out]
                      simp only [lexemeP, lexF, lexE, if_true, if_false, Bool.false_eq_true, false_or, or_false, true_or, or_true, true_and, and_true, false_and, and_false, B1.out, H2.out, ← G2.out, Z2.out, K8.out, K1.out, B3.out, H4.out, ← G4.out, Z4.out, B5.out, B6.out, H8.out]
                    go_ret
                    exact ⟨by rw [HN.out]; rfl, rfl⟩
                  · obtain ⟨e8, E8⟩ : ∃ e, e = e4 + 1 + n8 := ⟨_, rfl⟩
                    have C8 := Lib.hid (digits_of s hs (e4 + 1) n8 le8 h8 w)
                    have H8 := Lib.hid h8; clear h8
                    rw [← E8] at C8
                    have l8 : e8 ≤ s.size := by omega
                    have q8 : e4 + 1 < e8 := by omega
                    have Z8 : Hid (¬ (n8 = 0)) := by show ¬ _; omega
                    have G8 := Lib.hid E8; clear E8 z8 g8 le8
                    by_cases y : e8 = s.size
                    · have Y : Hid ((sl s).length = s.size) := by show _ = _; rw [sl_len]
                      subst y
                      refine C8.out.mono ?_
                      rintro e w' ⟨rfl, rfl⟩
                      go_wp2_with fail
                      have HN : Hid (R = 2) := by
                        show _ = _
                        rw [HR.out]
                        simp only [lexemeP, lexF, lexE, if_true, if_false, Bool.false_eq_true, false_or, or_false, true_or, or_true, true_and, and_true, false_and, and_false, B1.out, H2.out, ← G2.out, Z2.out, K8.out, K1.out, B3.out, H4.out, ← G4.out, Z4.out, B5.out, B6.out, H8.out, ← G8.out, Z8.out, Y.out]
                      go_ret
                      exact ⟨by rw [HN.out]; rfl, rfl⟩
                    · have Y : Hid (¬ (e8 = (sl s).length)) := by show ¬ _; rw [sl_len]; exact y
                      have y2 : e8 < s.size := by omega
                      have y3 : ((e8 : Int) == s.size) = false := by simp; omega
                      refine C8.out.mono ?_
                      rintro e w' ⟨rfl, rfl⟩
                      go_wp2_with fail
                      have HN : Hid (R = 0) := by
                        show _ = _
                        rw [HR.out]
                        simp only [lexemeP, lexF, lexE, if_true, if_false, Bool.false_eq_true, false_or, or_false, true_or, or_true, true_and, and_true, false_and, and_false, B1.out, H2.out, ← G2.out, Z2.out, K8.out, K1.out, B3.out, H4.out, ← G4.out, Z4.out, B5.out, B6.out, H8.out, ← G8.out, Z8.out, Y.out]
                      go_ret
                      exact ⟨by rw [HN.out]; rfl, rfl⟩
              · have C5 := Lib.hid (is_of s hs (e4) 101 69 false b5 w)
                have B5 := Lib.hid b5; clear b5
                by_cases y : e4 = s.size
                · have Y : Hid ((sl s).length = s.size) := by show _ = _; rw [sl_len]
                  subst y
                  refine C5.out.mono ?_
                  rintro e w' ⟨rfl, rfl⟩
                  go_wp2_with fail
                  have HN : Hid (R = 2) := by
                    show _ = _
                    rw [HR.out]
                    simp only [lexemeP, lexF, lexE, if_true, if_false, Bool.false_eq_true, false_or, or_false, true_or, or_true, true_and, and_true, false_and, and_false, B1.out, H2.out, ← G2.out, Z2.out, K8.out, K1.out, B3.out, H4.out, ← G4.out, Z4.out, B5.out, Y.out]
                  go_ret
                  exact ⟨by rw [HN.out]; rfl, rfl⟩
                · have Y : Hid (¬ (e4 = (sl s).length)) := by show ¬ _; rw [sl_len]; exact y
                  have y2 : e4 < s.size := by omega
                  have y3 : ((e4 : Int) == s.size) = false := by simp; omega
                  refine C5.out.mono ?_
                  rintro e w' ⟨rfl, rfl⟩
                  go_wp2_with fail
                  have HN : Hid (R = 0) := by
                    show _ = _
                    rw [HR.out]
                    simp only [lexemeP, lexF, lexE, if_true, if_false, Bool.false_eq_true, false_or, or_false, true_or, or_true, true_and, and_true, false_and, and_false, B1.out, H2.out, ← G2.out, Z2.out, K8.out, K1.out, B3.out, H4.out, ← G4.out, Z4.out, B5.out, Y.out]
                  go_ret
                  exact ⟨by rw [HN.out]; rfl, rfl⟩
          · have C3 := Lib.hid (is_of s hs (e2) 46 46 false b3 w)
            have B3 := Lib.hid b3; clear b3
            refine C3.out.mono ?_
            rintro e w' ⟨rfl, rfl⟩
            go_wp2_with fail
            rcases Bool.eq_false_or_eq_true (atB (sl s) (e2) 101 69) with b9 | b9
            · have C9 := Lib.hid (is_of s hs (e2) 101 69 true b9 w)
              have B9 := Lib.hid b9; clear b9
              refine C9.out.mono ?_
              rintro e w' ⟨rfl, rfl⟩
              go_wp2_with fail
              have lt : e2 < s.size := at_lt B9.out
              rcases Bool.eq_false_or_eq_true (atB (sl s) (e2 + 1) 43 45) with b10 | b10
              · have C10 := Lib.hid (is_of s hs (e2 + 1) 43 45 true b10 w)
                have B10 := Lib.hid b10; clear b10
                refine C10.out.mono ?_
                rintro e w' ⟨rfl, rfl⟩
                go_wp2_with fail
                have lt2 : e2 + 1 < s.size := at_lt B10.out
                have le11 : e2 + 2 ≤ s.size := by omega
                obtain ⟨n11, h11⟩ : ∃ n, digs ((sl s).drop (e2 + 2)) = n := ⟨_, rfl⟩
                have g11 := digs_le ((sl s).drop (e2 + 2)); rw [h11, List.length_drop, sl_len] at g11
                obtain rfl | z11 := Nat.eq_zero_or_pos n11
                · have C11 := Lib.hid (digits_of s hs (e2 + 2) 0 le11 h11 w)
                  have H11 := Lib.hid h11; clear h11 g11
                  refine C11.out.mono ?_
                  rintro e w' ⟨rfl, rfl⟩
                  go_wp2_with fail
                  have HN : Hid (R = 0) := by
                    show _ = _
                    rw [HR.out]
                    simp only [lexemeP, lexF, lexE, if_true, if_false, Bool.false_eq_true, false_or, or_false, true_or, or_true, true_and, and_true, false_and, and_false, B1.out, H2.out, ← G2.out, Z2.out, K8.out, K1.out, B3.out, B9.out, B10.out, H11.out]
                  go_ret
                  exact ⟨by rw [HN.out]; rfl, rfl⟩
                · obtain ⟨e11, E11⟩ : ∃ e, e = e2 + 2 + n11 := ⟨_, rfl⟩
                  have C11 := Lib.hid (digits_of s hs (e2 + 2) n11 le11 h11 w)
                  have H11 := Lib.hid h11; clear h11
                  rw [← E11] at C11
                  have l11 : e11 ≤ s.size := by omega
                  have q11 : e2 + 2 < e11 := by omega
                  have Z11 : Hid (¬ (n11 = 0)) := by show ¬ _; omega
                  have G11 := Lib.hid E11; clear E11 z11 g11 le11
                  by_cases y : e11 = s.size
                  · have Y : Hid ((sl s).length = s.size) := by show _ = _; rw [sl_len]
                    subst y
                    refine C11.out.mono ?_
                    rintro e w' ⟨rfl, rfl⟩
                    go_wp2_with fail
                    have HN : Hid (R = 2) := by
                      show _ = _
                      rw [HR.out]
                      simp only [lexemeP, lexF, lexE, if_true, if_false, Bool.false_eq_true, false_or, or_false, true_or, or_true, true_and, and_true, false_and, and_false, B1.out, H2.out, ← G2.out, Z2.out, K8.out, K1.out, B3.out, B9.out, B10.out, H11.out, ← G11.out, Z11.out, Y.out]
                    go_ret
                    exact ⟨by rw [HN.out]; rfl, rfl⟩
                  · have Y : Hid (¬ (e11 = (sl s).length)) := by show ¬ _; rw [sl_len]; exact y
                    have y2 : e11 < s.size := by omega
                    have y3 : ((e11 : Int) == s.size) = false := by simp; omega
                    refine C11.out.mono ?_
                    rintro e w' ⟨rfl, rfl⟩
                    go_wp2_with fail
                    have HN : Hid (R = 0) := by
                      show _ = _
                      rw [HR.out]
                      simp only [lexemeP, lexF, lexE, if_true, if_false, Bool.false_eq_true, false_or, or_false, true_or, or_true, true_and, and_true, false_and, and_false, B1.out, H2.out, ← G2.out, Z2.out, K8.out, K1.out, B3.out, B9.out, B10.out, H11.out, ← G11.out, Z11.out, Y.out]
                    go_ret
                    exact ⟨by rw [HN.out]; rfl, rfl⟩
              · have C10 := Lib.hid (is_of s hs (e2 + 1) 43 45 false b10 w)
                have B10 := Lib.hid b10; clear b10
                refine C10.out.mono ?_
                rintro e w' ⟨rfl, rfl⟩
                go_wp2_with fail
                have le12 : e2 + 1 ≤ s.size := by omega
                obtain ⟨n12, h12⟩ : ∃ n, digs ((sl s).drop (e2 + 1)) = n := ⟨_, rfl⟩
                have g12 := digs_le ((sl s).drop (e2 + 1)); rw [h12, List.length_drop, sl_len] at g12
                obtain rfl | z12 := Nat.eq_zero_or_pos n12
                · have C12 := Lib.hid (digits_of s hs (e2 + 1) 0 le12 h12 w)
                  have H12 := Lib.hid h12; clear h12 g12
                  refine C12.out.mono ?_
                  rintro e w' ⟨rfl, rfl⟩
                  go_wp2_with fail
                  have HN : Hid (R = 0) := by
                    show _ = _
                    rw [HR.out]
                    simp only [lexemeP, lexF, lexE, if_true, if_false, Bool.false_eq_true, false_or, or_false, true_or, or_true, true_and, and_true, false_and, and_false, B1.out, H2.out, ← G2.out, Z2.out, K8.out, K1.out, B3.out, B9.out, B10.out, H12.out]
                  go_ret
                  exact ⟨by rw [HN.out]; rfl, rfl⟩
                · obtain ⟨e12, E12⟩ : ∃ e, e = e2 + 1 + n12 := ⟨_, rfl⟩
                  have C12 := Lib.hid (digits_of s hs (e2 + 1) n12 le12 h12 w)
                  have H12 := Lib.hid h12; clear h12
                  rw [← E12] at C12
                  have l12 : e12 ≤ s.size := by omega
                  have q12 : e2 + 1 < e12 := by omega
                  have Z12 : Hid (¬ (n12 = 0)) := by show ¬ _; omega
                  have G12 := Lib.hid E12; clear E12 z12 g12 le12
                  by_cases y : e12 = s.size
                  · have Y : Hid ((sl s).length = s.size) := by show _ = _; rw [sl_len]
                    subst y
                    refine C12.out.mono ?_
                    rintro e w' ⟨rfl, rfl⟩
                    go_wp2_with fail
                    have HN : Hid (R = 2) := by
                      show _ = _
                      rw [HR.out]
                      simp only [lexemeP, lexF, lexE, if_true, if_false, Bool.false_eq_true, false_or, or_false, true_or, or_true, true_and, and_true, false_and, and_false, B1.out, H2.out, ← G2.out, Z2.out, K8.out, K1.out, B3.out, B9.out, B10.out, H12.out, ← G12.out, Z12.out, Y.out]
                    go_ret
                    exact ⟨by rw [HN.out]; rfl, rfl⟩
                  · have Y : Hid (¬ (e12 = (sl s).length)) := by show ¬ _; rw [sl_len]; exact y
                    have y2 : e12 < s.size := by omega
                    have y3 : ((e12 : Int) == s.size) = false := by simp; omega
                    refine C12.out.mono ?_
                    rintro e w' ⟨rfl, rfl⟩
                    go_wp2_with fail
                    have HN : Hid (R = 0) := by
                      show _ = _
                      rw [HR.out]
                      simp only [lexemeP, lexF, lexE, if_true, if_false, Bool.false_eq_true, false_or, or_false, true_or, or_true, true_and, and_true, false_and, and_false, B1.out, H2.out, ← G2.out, Z2.out, K8.out, K1.out, B3.out, B9.out, B10.out, H12.out, ← G12.out, Z12.out, Y.out]
                    go_ret
                    exact ⟨by rw [HN.out]; rfl, rfl⟩
            · have C9 := Lib.hid (is_of s hs (e2) 101 69 false b9 w)
              have B9 := Lib.hid b9; clear b9
              by_cases y : e2 = s.size
              · have Y : Hid ((sl s).length = s.size) := by show _ = _; rw [sl_len]
                subst y
                refine C9.out.mono ?_
                rintro e w' ⟨rfl, rfl⟩
                go_wp2_with fail
                have HN : Hid (R = 1) := by
                  show _ = _
                  rw [HR.out]
                  simp only [lexemeP, lexF, lexE, if_true, if_false, Bool.false_eq_true, false_or, or_false, true_or, or_true, true_and, and_true, false_and, and_false, B1.out, H2.out, ← G2.out, Z2.out, K8.out, K1.out, B3.out, B9.out, Y.out]
                go_ret
                exact ⟨by rw [HN.out]; rfl, rfl⟩
              · have Y : Hid (¬ (e2 = (sl s).length)) := by show ¬ _; rw [sl_len]; exact y
                have y2 : e2 < s.size := by omega
                have y3 : ((e2 : Int) == s.size) = false := by simp; omega
                refine C9.out.mono ?_
                rintro e w' ⟨rfl, rfl⟩
                go_wp2_with fail
                have HN : Hid (R = 0) := by
                  show _ = _
                  rw [HR.out]
                  simp only [lexemeP, lexF, lexE, if_true, if_false, Bool.false_eq_true, false_or, or_false, true_or, or_true, true_and, and_true, false_and, and_false, B1.out, H2.out, ← G2.out, Z2.out, K8.out, K1.out, B3.out, B9.out, Y.out]
                go_ret
                exact ⟨by rw [HN.out]; rfl, rfl⟩
      · have K8 : Hid (¬ (bAt (sl s) (1) = 48)) := by show ¬ _; rw [hb]; exact c8
        clear hb
        refine C2.out.mono ?_
        rintro e w' ⟨rfl, rfl⟩
        go_wp2_with fail
        rcases Bool.eq_false_or_eq_true (atB (sl s) (e2) 46 46) with b13 | b13
        · have C13 := Lib.hid (is_of s hs (e2) 46 46 true b13 w)
          have B13 := Lib.hid b13; clear b13
          refine C13.out.mono ?_
          rintro e w' ⟨rfl, rfl⟩
          go_wp2_with fail
          have lt : e2 < s.size := at_lt B13.out
          have le14 : e2 + 1 ≤ s.size := by omega
          obtain ⟨n14, h14⟩ : ∃ n, digs ((sl s).drop (e2 + 1)) = n := ⟨_, rfl⟩
          have g14 := digs_le ((sl s).drop (e2 + 1)); rw [h14, List.length_drop, sl_len] at g14
          obtain rfl | z14 := Nat.eq_zero_or_pos n14
          · have C14 := Lib.hid (digits_of s hs (e2 + 1) 0 le14 h14 w)
            have H14 := Lib.hid h14; clear h14 g14
            refine C14.out.mono ?_
            rintro e w' ⟨rfl, rfl⟩
            go_wp2_with fail
            have HN : Hid (R = 0) := by
              show _ = _
              rw [HR.out]
              simp only [lexemeP, lexF, lexE, if_true, if_false, Bool.false_eq_true, false_or, or_false, true_or, or_true, true_and, and_true, false_and, and_false, B1.out, H2.out, ← G2.out, Z2.out, K8.out, B13.out, H14.out]
            go_ret
            exact ⟨by rw [HN.out]; rfl, rfl⟩
          · obtain ⟨e14, E14⟩ : ∃ e, e = e2 + 1 + n14 := ⟨_, rfl⟩
            have C14 := Lib.hid (digits_of s hs (e2 + 1) n14 le14 h14 w)
            have H14 := Lib.hid h14; clear h14
            rw [← E14] at C14
            have l14 : e14 ≤ s.size := by omega
            have q14 : e2 + 1 < e14 := by omega
            have Z14 : Hid (¬ (n14 = 0)) := by show ¬ _; omega
            have G14 := Lib.hid E14; clear E14 z14 g14 le14
            refine C14.out.mono ?_
            rintro e w' ⟨rfl, rfl⟩
            go_wp2_with fail
            rcases Bool.eq_false_or_eq_true (atB (sl s) (e14) 101 69) with b15 | b15
            · have C15 := Lib.hid (is_of s hs (e14) 101 69 true b15 w)
              have B15 := Lib.hid b15; clear b15
              refine C15.out.mono ?_
              rintro e w' ⟨rfl, rfl⟩
              go_wp2_with fail
              have lt : e14 < s.size := at_lt B15.out
              rcases Bool.eq_false_or_eq_true (atB (sl s) (e14 + 1) 43 45) with b16 | b16
              · have C16 := Lib.hid (is_of s hs (e14 + 1) 43 45 true b16 w)
                have B16 := Lib.hid b16; clear b16
                refine C16.out.mono ?_
                rintro e w' ⟨rfl, rfl⟩
                go_wp2_with fail
                have lt2 : e14 + 1 < s.size := at_lt B16.out
                have le17 : e14 + 2 ≤ s.size := by omega
                obtain ⟨n17, h17⟩ : ∃ n, digs ((sl s).drop (e14 + 2)) = n := ⟨_, rfl⟩
                have g17 := digs_le ((sl s).drop (e14 + 2)); rw [h17, List.length_drop, sl_len] at g17
                obtain rfl | z17 := Nat.eq_zero_or_pos n17
                · have C17 := Lib.hid (digits_of s hs (e14 + 2) 0 le17 h17 w)
                  have H17 := Lib.hid h17; clear h17 g17
                  refine C17.out.mono ?_
                  rintro e w' ⟨rfl, rfl⟩
                  go_wp2_with fail
                  have HN : Hid (R = 0) := by
                    show _ = _
                    rw [HR.out]
                    simp only [lexemeP, lexF, lexE, if_true, if_false, Bool.false_eq_true, false_or, or_false, true_or, or_true, true_and, and_true, false_and, and_false, B1.out, H2.out, ← G2.out, Z2.out, K8.out, B13.out, H14.out, ← G14.out, Z14.out, B15.out, B16.out, H17.out]
                  go_ret
                  exact ⟨by rw [HN.out]; rfl, rfl⟩
                · obtain ⟨e17, E17⟩ : ∃ e, e = e14 + 2 + n17 := ⟨_, rfl⟩
                  have C17 := Lib.hid (digits_of s hs (e14 + 2) n17 le17 h17 w)
                  have H17 := Lib.hid h17; clear h17
                  rw [← E17] at C17
                  have l17 : e17 ≤ s.size := by omega
                  have q17 : e14 + 2 < e17 := by omega
                  have Z17 : Hid (¬ (n17 = 0)) := by show ¬ _; omega
                  have G17 := Lib.hid E17; clear E17 z17 g17 le17
                  by_cases y : e17 = s.size
                  · have Y : Hid ((sl s).length = s.size) := by show _ = _; rw [sl_len]
                    subst y
                    refine C17.out.mono ?_
                    rintro e w' ⟨rfl, rfl⟩
                    go_wp2_with fail
                    have HN : Hid (R = 2) := by
                      show _ = _
                      rw [HR.out]
                      simp only [lexemeP, lexF, lexE, if_true, if_false, Bool.false_eq_true, false_or, or_false, true_or, or_true, true_and, and_true, false_and, and_false, B1.out, H2.out, ← G2.out, Z2.out, K8.out, B13.out, H14.out, ← G14.out, Z14.out, B15.out, B16.out, H17.out, ← G17.out, Z17.out, Y.out]
                    go_ret
                    exact ⟨by rw [HN.out]; rfl, rfl⟩
                  · have Y : Hid (¬ (e17 = (sl s).length)) := by show ¬ _; rw [sl_len]; exact y
                    have y2 : e17 < s.size := by omega
                    have y3 : ((e17 : Int) == s.size) = false := by simp; omega
                    refine C17.out.mono ?_
                    rintro e w' ⟨rfl, rfl⟩
                    go_wp2_with fail
                    have HN : Hid (R = 0) := by
                      show _ = _
                      rw [HR.out]
                      simp only [lexemeP, lexF, lexE, if_true, if_false, Bool.false_eq_true, false_or, or_false, true_or, or_true, true_and, and_true, false_and, and_false, B1.out, H2.out, ← G2.out, Z2.out, K8.out, B13.out, H14.out, ← G14.out, Z14.out, B15.out, B16.out, H17.out, ← G17.out, Z17.out, Y.out]
                    go_ret
                    exact ⟨by rw [HN.out]; rfl, rfl⟩
              · have C16 := Lib.hid (is_of s hs (e14 + 1) 43 45 false b16 w)
                have B16 := Lib.hid b16; clear b16
                refine C16.out.mono ?_
                rintro e w' ⟨rfl, rfl⟩
                go_wp2_with fail
                have le18 : e14 + 1 ≤ s.size := by omega
                obtain ⟨n18, h18⟩ : ∃ n, digs ((sl s).drop (e14 + 1)) = n := ⟨_, rfl⟩
                have g18 := digs_le ((sl s).drop (e14 + 1)); rw [h18, List.length_drop, sl_len] at g18
                obtain rfl | z18 := Nat.eq_zero_or_pos n18
                · have C18 := Lib.hid (digits_of s hs (e14 + 1) 0 le18 h18 w)
                  have H18 := Lib.hid h18; clear h18 g18
                  refine C18.out.mono ?_
                  rintro e w' ⟨rfl, rfl⟩
                  go_wp2_with fail
                  have HN : Hid (R = 0) := by
                    show _ = _
                    rw [HR.out]
                    simp only [lexemeP, lexF, lexE, if_true, if_false, Bool.false_eq_true, false_or, or_false, true_or, or_true, true_and, and_true, false_and, and_false, B1.out, H2.out, ← G2.out, Z2.out, K8.out, B13.out, H14.out, ← G14.out, Z14.out, B15.out, B16.out, H18.out]
                  go_ret
                  exact ⟨by rw [HN.out]; rfl, rfl⟩
                · obtain ⟨e18, E18⟩ : ∃ e, e = e14 + 1 + n18 := ⟨_, rfl⟩
                  have C18 := Lib.hid (digits_of s hs (e14 + 1) n18 le18 h18 w)
                  have H18 := Lib.hid h18; clear h18
                  rw [← E18] at C18
                  have l18 : e18 ≤ s.size := by omega
                  have q18 : e14 + 1 < e18 := by omega
                  have Z18 : Hid (¬ (n18 = 0)) := by show ¬ _; omega
                  have G18 := Lib.hid E18; clear E18 z18 g18 le18
                  by_cases y : e18 = s.size
                  · have Y : Hid ((sl s).length = s.size) := by show _ = _; rw [sl_len]
                    subst y
                    refine C18.out.mono ?_
                    rintro e w' ⟨rfl, rfl⟩
                    go_wp2_with fail
                    have HN : Hid (R = 2) := by
                      show _ = _
                      rw [HR.out]
                      simp only [lexemeP, lexF, lexE, if_true, if_false, Bool.false_eq_true, false_or, or_false, true_or, or_true, true_and, and_true, false_and, and_false, B1.out, H2.out, ← G2.out, Z2.out, K8.out, B13.out, H14.out, ← G14.out, Z14.out, B15.out, B16.out, H18.out, ← G18.out, Z18.out, Y.out]
                    go_ret
                    exact ⟨by rw [HN.out]; rfl, rfl⟩
                  · have Y : Hid (¬ (e18 = (sl s).length)) := by show ¬ _; rw [sl_len]; exact y
                    have y2 : e18 < s.size := by omega
                    have y3 : ((e18 : Int) == s.size) = false := by simp; omega
                    refine C18.out.mono ?_
                    rintro e w' ⟨rfl, rfl⟩
                    go_wp2_with fail
                    have HN : Hid (R = 0) := by
                      show _ = _
                      rw [HR.out]
                      simp only [lexemeP, lexF, lexE, if_true, if_false, Bool.false_eq_true, false_or, or_false, true_or, or_true, true_and, and_true, false_and, and_false, B1.out, H2.out, ← G2.out, Z2.out, K8.out, B13.out, H14.out, ← G14.out, Z14.out, B15.out, B16.out, H18.out, ← G18.out, Z18.out, Y.out]
                    go_ret
                    exact ⟨by rw [HN.out]; rfl, rfl⟩
            · have C15 := Lib.hid (is_of s hs (e14) 101 69 false b15 w)
              have B15 := Lib.hid b15; clear b15
              by_cases y : e14 = s.size
              · have Y : Hid ((sl s).length = s.size) := by show _ = _; rw [sl_len]
                subst y
                refine C15.out.mono ?_
                rintro e w' ⟨rfl, rfl⟩
                go_wp2_with fail
                have HN : Hid (R = 2) := by
                  show _ = _
                  rw [HR.out]
                  simp only [lexemeP, lexF, lexE, if_true, if_false, Bool.false_eq_true, false_or, or_false, true_or, or_true, true_and, and_true, false_and, and_false, B1.out, H2.out, ← G2.out, Z2.out, K8.out, B13.out, H14.out, ← G14.out, Z14.out, B15.out, Y.out]
                go_ret
                exact ⟨by rw [HN.out]; rfl, rfl⟩
              · have Y : Hid (¬ (e14 = (sl s).length)) := by show ¬ _; rw [sl_len]; exact y
                have y2 : e14 < s.size := by omega
                have y3 : ((e14 : Int) == s.size) = false := by simp; omega
                refine C15.out.mono ?_
                rintro e w' ⟨rfl, rfl⟩
                go_wp2_with fail
                have HN : Hid (R = 0) := by
                  show _ = _
                  rw [HR.out]
                  simp only [lexemeP, lexF, lexE, if_true, if_false, Bool.false_eq_true, false_or, or_false, true_or, or_true, true_and, and_true, false_and, and_false, B1.out, H2.out, ← G2.out, Z2.out, K8.out, B13.out, H14.out, ← G14.out, Z14.out, B15.out, Y.out]
                go_ret
                exact ⟨by rw [HN.out]; rfl, rfl⟩
        · have C13 := Lib.hid (is_of s hs (e2) 46 46 false b13 w)
          have B13 := Lib.hid b13; clear b13
          refine C13.out.mono ?_
          rintro e w' ⟨rfl, rfl⟩
          go_wp2_with fail
          rcases Bool.eq_false_or_eq_true (atB (sl s) (e2) 101 69) with b19 | b19
          · have C19 := Lib.hid (is_of s hs (e2) 101 69 true b19 w)
            have B19 := Lib.hid b19; clear b19
            refine C19.out.mono ?_
            rintro e w' ⟨rfl, rfl⟩
            go_wp2_with fail
            have lt : e2 < s.size := at_lt B19.out
            rcases Bool.eq_false_or_eq_true (atB (sl s) (e2 + 1) 43 45) with b20 | b20
            · have C20 := Lib.hid (is_of s hs (e2 + 1) 43 45 true b20 w)
              have B20 := Lib.hid b20; clear b20
              refine C20.out.mono ?_
              rintro e w' ⟨rfl, rfl⟩
              go_wp2_with fail
              have lt2 : e2 + 1 < s.size := at_lt B20.out
              have le21 : e2 + 2 ≤ s.size := by omega
              obtain ⟨n21, h21⟩ : ∃ n, digs ((sl s).drop (e2 + 2)) = n := ⟨_, rfl⟩
              have g21 := digs_le ((sl s).drop (e2 + 2)); rw [h21, List.length_drop, sl_len] at g21
              obtain rfl | z21 := Nat.eq_zero_or_pos n21
              · have C21 := Lib.hid (digits_of s hs (e2 + 2) 0 le21 h21 w)
                have H21 := Lib.hid h21; clear h21 g21
                refine C21.out.mono ?_
                rintro e w' ⟨rfl, rfl⟩
                go_wp2_with fail
                have HN : Hid (R = 0) := by
                  show _ = _
                  rw [HR.out]
                  simp only [lexemeP, lexF, lexE, if_true, if_false, Bool.false_eq_true, false_or, or_false, true_or, or_true, true_and, and_true, false_and, and_false, B1.out, H2.out, ← G2.out, Z2.out, K8.out, B13.out, B19.out, B20.out, H21.out]
                go_ret
                exact ⟨by rw [HN.out]; rfl, rfl⟩
              · obtain ⟨e21, E21⟩ : ∃ e, e = e2 + 2 + n21 := ⟨_, rfl⟩
                have C21 := Lib.hid (digits_of s hs (e2 + 2) n21 le21 h21 w)
                have H21 := Lib.hid h21; clear h21
                rw [← E21] at C21
                have l21 : e21 ≤ s.size := by omega
                have q21 : e2 + 2 < e21 := by omega
                have Z21 : Hid (¬ (n21 = 0)) := by show ¬ _; omega
                have G21 := Lib.hid E21; clear E21 z21 g21 le21
                by_cases y : e21 = s.size
                · have Y : Hid ((sl s).length = s.size) := by show _ = _; rw [sl_len]
                  subst y
                  refine C21.out.mono ?_
                  rintro e w' ⟨rfl, rfl⟩
                  go_wp2_with fail
                  have HN : Hid (R = 2) := by
                    show _ = _
                    rw [HR.out]
                    simp only [lexemeP, lexF, lexE, if_true, if_false, Bool.false_eq_true, false_or, or_false, true_or, or_true, true_and, and_true, false_and, and_false, B1.out, H2.out, ← G2.out, Z2.out, K8.out, B13.out, B19.out, B20.out, H21.out, ← G21.out, Z21.out, Y.out]
                  go_ret
                  exact ⟨by rw [HN.out]; rfl, rfl⟩
                · have Y : Hid (¬ (e21 = (sl s).length)) := by show ¬ _; rw [sl_len]; exact y
                  have y2 : e21 < s.size := by omega
                  have y3 : ((e21 : Int) == s.size) = false := by simp; omega
                  refine C21.out.mono ?_
                  rintro e w' ⟨rfl, rfl⟩
                  go_wp2_with fail
                  have HN : Hid (R = 0) := by
                    show _ = _
                    rw [HR.out]
                    simp only [lexemeP, lexF, lexE, if_true, if_false, Bool.false_eq_true, false_or, or_false, true_or, or_true, true_and, and_true, false_and, and_false, B1.out, H2.out, ← G2.out, Z2.out, K8.out, B13.out, B19.out, B20.out, H21.out, ← G21.out, Z21.out, Y.out]
                  go_ret
                  exact ⟨by rw [HN.out]; rfl, rfl⟩
            · have C20 := Lib.hid (is_of s hs (e2 + 1) 43 45 false b20 w)
              have B20 := Lib.hid b20; clear b20
              refine C20.out.mono ?_
              rintro e w' ⟨rfl, rfl⟩
              go_wp2_with fail
              have le22 : e2 + 1 ≤ s.size := by omega
              obtain ⟨n22, h22⟩ : ∃ n, digs ((sl s).drop (e2 + 1)) = n := ⟨_, rfl⟩
              have g22 := digs_le ((sl s).drop (e2 + 1)); rw [h22, List.length_drop, sl_len] at g22
              obtain rfl | z22 := Nat.eq_zero_or_pos n22
              · have C22 := Lib.hid (digits_of s hs (e2 + 1) 0 le22 h22 w)
                have H22 := Lib.hid h22; clear h22 g22
                refine C22.out.mono ?_
                rintro e w' ⟨rfl, rfl⟩
                go_wp2_with fail
                have HN : Hid (R = 0) := by
                  show _ = _
                  rw [HR.out]
                  simp only [lexemeP, lexF, lexE, if_true, if_false, Bool.false_eq_true, false_or, or_false, true_or, or_true, true_and, and_true, false_and, and_false, B1.out, H2.out, ← G2.out, Z2.out, K8.out, B13.out, B19.out, B20.out, H22.out]
                go_ret
                exact ⟨by rw [HN.out]; rfl, rfl⟩
              · obtain ⟨e22, E22⟩ : ∃ e, e = e2 + 1 + n22 := ⟨_, rfl⟩
                have C22 := Lib.hid (digits_of s hs (e2 + 1) n22 le22 h22 w)
                have H22 := Lib.hid h22; clear h22
                rw [← E22] at C22
                have l22 : e22 ≤ s.size := by omega
                have q22 : e2 + 1 < e22 := by omega
                have Z22 : Hid (¬ (n22 = 0)) := by show ¬ _; omega
                have G22 := Lib.hid E22; clear E22 z22 g22 le22
                by_cases y : e22 = s.size
                · have Y : Hid ((sl s).length = s.size) := by show _ = _; rw [sl_len]
                  subst y
                  refine C22.out.mono ?_
                  rintro e w' ⟨rfl, rfl⟩
                  go_wp2_with fail
                  have HN : Hid (R = 2) := by
                    show _ = _
                    rw [HR.out]
                    simp only [lexemeP, lexF, lexE, if_true, if_false, Bool.false_eq_true, false_or, or_false, true_or, or_true, true_and, and_true, false_and, and_false, B1.out, H2.out, ← G2.out, Z2.out, K8.out, B13.out, B19.out, B20.out, H22.out, ← G22.out, Z22.out, Y.out]
                  go_ret
                  exact ⟨by rw [HN.out]; rfl, rfl⟩
                · have Y : Hid (¬ (e22 = (sl s).length)) := by show ¬ _; rw [sl_len]; exact y
                  have y2 : e22 < s.size := by omega
                  have y3 : ((e22 : Int) == s.size) = false := by simp; omega
                  refine C22.out.mono ?_
                  rintro e w' ⟨rfl, rfl⟩
                  go_wp2_with fail
                  have HN : Hid (R = 0) := by
                    show _ = _
                    rw [HR.out]
                    simp only [lexemeP, lexF, lexE, if_true, if_false, Bool.false_eq_true, false_or, or_false, true_or, or_true, true_and, and_true, false_and, and_false, B1.out, H2.out, ← G2.out, Z2.out, K8.out, B13.out, B19.out, B20.out, H22.out, ← G22.out, Z22.out, Y.out]
                  go_ret
                  exact ⟨by rw [HN.out]; rfl, rfl⟩
          · have C19 := Lib.hid (is_of s hs (e2) 101 69 false b19 w)
            have B19 := Lib.hid b19; clear b19
            by_cases y : e2 = s.size
            · have Y : Hid ((sl s).length = s.size) := by show _ = _; rw [sl_len]
              subst y
              refine C19.out.mono ?_
              rintro e w' ⟨rfl, rfl⟩
              go_wp2_with fail
              have HN : Hid (R = 1) := by
                show _ = _
                rw [HR.out]
                simp only [lexemeP, lexF, lexE, if_true, if_false, Bool.false_eq_true, false_or, or_false, true_or, or_true, true_and, and_true, false_and, and_false, B1.out, H2.out, ← G2.out, Z2.out, K8.out, B13.out, B19.out, Y.out]
              go_ret
              exact ⟨by rw [HN.out]; rfl, rfl⟩
            · have Y : Hid (¬ (e2 = (sl s).length)) := by show ¬ _; rw [sl_len]; exact y
              have y2 : e2 < s.size := by omega
              have y3 : ((e2 : Int) == s.size) = false := by simp; omega
              refine C19.out.mono ?_
              rintro e w' ⟨rfl, rfl⟩
              go_wp2_with fail
              have HN : Hid (R = 0) := by
                show _ = _
                rw [HR.out]
                simp only [lexemeP, lexF, lexE, if_true, if_false, Bool.false_eq_true, false_or, or_false, true_or, or_true, true_and, and_true, false_and, and_false, B1.out, H2.out, ← G2.out, Z2.out, K8.out, B13.out, B19.out, Y.out]
              go_ret
              exact ⟨by rw [HN.out]; rfl, rfl⟩
  · have C1 := Lib.hid (is_of s hs (0) 45 45 false b1 w)
    have B1 := Lib.hid b1; clear b1
    refine C1.out.mono ?_
    rintro e w' ⟨rfl, rfl⟩
    go_wp2_with fail
    have le23 : 0 ≤ s.size := by omega
    obtain ⟨n23, h23⟩ : ∃ n, digs ((sl s).drop (0)) = n := ⟨_, rfl⟩
    have g23 := digs_le ((sl s).drop (0)); rw [h23, List.length_drop, sl_len] at g23
    obtain rfl | z23 := Nat.eq_zero_or_pos n23
    · have C23 := Lib.hid (digits_of s hs (0) 0 le23 h23 w)
      have H23 := Lib.hid h23; clear h23 g23
      refine C23.out.mono ?_
      rintro e w' ⟨rfl, rfl⟩
      go_wp2_with fail
      have HN : Hid (R = 0) := by
        show _ = _
        rw [HR.out]
        simp only [lexemeP, lexF, lexE, if_true, if_false, Bool.false_eq_true, false_or, or_false, true_or, or_true, true_and, and_true, false_and, and_false, B1.out, H23.out]
      go_ret
      exact ⟨by rw [HN.out]; rfl, rfl⟩
    · obtain ⟨e23, E23⟩ : ∃ e, e = 0 + n23 := ⟨_, rfl⟩
      have C23 := Lib.hid (digits_of s hs (0) n23 le23 h23 w)
      have H23 := Lib.hid h23; clear h23
      rw [← E23] at C23
      have l23 : e23 ≤ s.size := by omega
      have q23 : 0 < e23 := by omega
      have Z23 : Hid (¬ (n23 = 0)) := by show ¬ _; omega
      have G23 := Lib.hid E23; clear E23 z23 g23 le23
      have lp : 0 < s.size := by omega
      have hb : bAt (sl s) (0) = (s[0]'lp).toNat := by unfold bAt; rw [sl_at lp]
      by_cases c8 : (s[0]'lp).toNat = 48
      · have K8 : Hid (bAt (sl s) (0) = 48) := by show _ = _; rw [hb, c8]
        clear hb
        by_cases c1 : 0 + 1 < e23
        · have K1 : Hid (1 < n23) := by show _ < _; have := G23.out; omega
          refine C23.out.mono ?_
          rintro e w' ⟨rfl, rfl⟩
          go_wp2_with fail
          have HN : Hid (R = 0) := by
            show _ = _
            rw [HR.out]
            simp only [lexemeP, lexF, lexE, if_true, if_false, Bool.false_eq_true, false_or, or_false, true_or, or_true, true_and, and_true, false_and, and_false, B1.out, H23.out, ← G23.out, Z23.out, K8.out, K1.out]
          go_ret
          exact ⟨by rw [HN.out]; rfl, rfl⟩
        · have K1 : Hid (¬ (1 < n23)) := by show ¬ _; have := G23.out; omega
          have t1 : ((e23 : Int) == 0) = false := by simp; omega
          have t2 : decide (1 < (e23 : Int)) = false := by simp; omega
          refine C23.out.mono ?_
          rintro e w' ⟨rfl, rfl⟩
          go_wp2_with fail
          rcases Bool.eq_false_or_eq_true (atB (sl s) (e23) 46 46) with b24 | b24
          · have C24 := Lib.hid (is_of s hs (e23) 46 46 true b24 w)
            have B24 := Lib.hid b24; clear b24
            refine C24.out.mono ?_
            rintro e w' ⟨rfl, rfl⟩
            go_wp2_with fail
            have lt : e23 < s.size := at_lt B24.out
            have le25 : e23 + 1 ≤ s.size := by omega
            obtain ⟨n25, h25⟩ : ∃ n, digs ((sl s).drop (e23 + 1)) = n := ⟨_, rfl⟩
            have g25 := digs_le ((sl s).drop (e23 + 1)); rw [h25, List.length_drop, sl_len] at g25
            obtain rfl | z25 := Nat.eq_zero_or_pos n25
            · have C25 := Lib.hid (digits_of s hs (e23 + 1) 0 le25 h25 w)
              have H25 := Lib.hid h25; clear h25 g25
              refine C25.out.mono ?_
              rintro e w' ⟨rfl, rfl⟩
              go_wp2_with fail
              have HN : Hid (R = 0) := by
                show _ = _
                rw [HR.out]
                simp only [lexemeP, lexF, lexE, if_true, if_false, Bool.false_eq_true, false_or, or_false, true_or, or_true, true_and, and_true, false_and, and_false, B1.out, H23.out, ← G23.out, Z23.out, K8.out, K1.out, B24.out, H25.out]
              go_ret
              exact ⟨by rw [HN.out]; rfl, rfl⟩
            · obtain ⟨e25, E25⟩ : ∃ e, e = e23 + 1 + n25 := ⟨_, rfl⟩
              have C25 := Lib.hid (digits_of s hs (e23 + 1) n25 le25 h25 w)
              have H25 := Lib.hid h25; clear h25
              rw [← E25] at C25
              have l25 : e25 ≤ s.size := by omega
              have q25 : e23 + 1 < e25 := by omega
              have Z25 : Hid (¬ (n25 = 0)) := by show ¬ _; omega
              have G25 := Lib.hid E25; clear E25 z25 g25 le25
              refine C25.out.mono ?_
              rintro e w' ⟨rfl, rfl⟩
              go_wp2_with fail
              rcases Bool.eq_false_or_eq_true (atB (sl s) (e25) 101 69) with b26 | b26
              · have C26 := Lib.hid (is_of s hs (e25) 101 69 true b26 w)
                have B26 := Lib.hid b26; clear b26
                refine C26.out.mono ?_
                rintro e w' ⟨rfl, rfl⟩
                go_wp2_with fail
                have lt : e25 < s.size := at_lt B26.out
                rcases Bool.eq_false_or_eq_true (atB (sl s) (e25 + 1) 43 45) with b27 | b27
                · have C27 := Lib.hid (is_of s hs (e25 + 1) 43 45 true b27 w)
                  have B27 := Lib.hid b27; clear b27
                  refine C27.out.mono ?_
                  rintro e w' ⟨rfl, rfl⟩
                  go_wp2_with fail
                  have lt2 : e25 + 1 < s.size := at_lt B27.out
                  have le28 : e25 + 2 ≤ s.size := by omega
                  obtain ⟨n28, h28⟩ : ∃ n, digs ((sl s).drop (e25 + 2)) = n := ⟨_, rfl⟩
                  have g28 := digs_le ((sl s).drop (e25 + 2)); rw [h28, List.length_drop, sl_len] at g28
                  obtain rfl | z28 := Nat.eq_zero_or_pos n28
                  · have C28 := Lib.hid (digits_of s hs (e25 + 2) 0 le28 h28 w)
                    have H28 := Lib.hid h28; clear h28 g28
                    refine C28.out.mono ?_
                    rintro e w' ⟨rfl, rfl⟩
                    go_wp2_with fail
                    have HN : Hid (R = 0) := by
                      show _ = _
                      rw [HR.out]
                      simp only [lexemeP, lexF, lexE, if_true, if_false, Bool.false_eq_true, false_or, or_false, true_or, or_true, true_and, and_true, false_and, and_false, B1.out, H23.out, ← G23.out, Z23.out, K8.out, K1.out, B24.out, H25.out, ← G25.out, Z25.out, B26.out, B27.out, H28.out]
                    go_ret
                    exact ⟨by rw [HN.out]; rfl, rfl⟩
                  · obtain ⟨e28, E28⟩ : ∃ e, e = e25 + 2 + n28 := ⟨_, rfl⟩
                    have C28 := Lib.hid (digits_of s hs (e25 + 2) n28 le28 h28 w)
                    have H28 := Lib.hid h28; clear h28
                    rw [← E28] at C28
                    have l28 : e28 ≤ s.size := by omega
                    have q28 : e25 + 2 < e28 := by omega
                    have Z28 : Hid (¬ (n28 = 0)) := by show ¬ _; omega
                    have G28 := Lib.hid E28; clear E28 z28 g28 le28
                    by_cases y : e28 = s.size
                    · have Y : Hid ((sl s).length = s.size) := by show _ = _; rw [sl_len]
                      subst y
                      refine C28.out.mono ?_
                      rintro e w' ⟨rfl, rfl⟩
                      go_wp2_with fail
                      have HN : Hid (R = 2) := by
                        show _ = _
                        rw [HR.out]
                        simp only [lexemeP, lexF, lexE, if_true, if_false, Bool.false_eq_true, false_or, or_false, true_or, or_true, true_and, and_true, false_and, and_false, B1.out, H23.out, ← G23.out, Z23.out, K8.out, K1.out, B24.out, H25.out, ← G25.out, Z25.out, B26.out, B27.out, H28.out, ← G28.out, Z28.out, Y.out]
                      go_ret
                      exact ⟨by rw [HN.out]; rfl, rfl⟩
                    · have Y : Hid (¬ (e28 = (sl s).length)) := by show ¬ _; rw [sl_len]; exact y
                      have y2 : e28 < s.size := by omega
                      have y3 : ((e28 : Int) == s.size) = false := by simp; omega
                      refine C28.out.mono ?_
                      rintro e w' ⟨rfl, rfl⟩
                      go_wp2_with fail
                      have HN : Hid (R = 0) := by
                        show _ = _
                        rw [HR.out]
                        simp only [lexemeP, lexF, lexE, if_true, if_false, Bool.false_eq_true, false_or, or_false, true_or, or_true, true_and, and_true, false_and, and_false, B1.out, H23.out, ← G23.out, Z23.out, K8.out, K1.out, B24.out, H25.out, ← G25.out, Z25.out, B26.out, B27.out, H28.out, ← G28.out, Z28.out, Y.out]
                      go_ret
                      exact ⟨by rw [HN.out]; rfl, rfl⟩
                · have C27 := Lib.hid (is_of s hs (e25 + 1) 43 45 false b27 w)
                  have B27 := Lib.hid b27; clear b27
                  refine C27.out.mono ?_
                  rintro e w' ⟨rfl, rfl⟩
                  go_wp2_with fail
                  have le29 : e25 + 1 ≤ s.size := by omega
                  obtain ⟨n29, h29⟩ : ∃ n, digs ((sl s).drop (e25 + 1)) = n := ⟨_, rfl⟩
                  have g29 := digs_le ((sl s).drop (e25 + 1)); rw [h29, List.length_drop, sl_len] at g29
                  obtain rfl | z29 := Nat.eq_zero_or_pos n29
                  · have C29 := Lib.hid (digits_of s hs (e25 + 1) 0 le29 h29 w)
                    have H29 := Lib.hid h29; clear h29 g29
                    refine C29.out.mono ?_
                    rintro e w' ⟨rfl, rfl⟩
                    go_wp2_with fail
                    have HN : Hid (R = 0) := by
                      show _ = _
                      rw [HR.out]
                      simp only [lexemeP, lexF, lexE, if_true, if_false, Bool.false_eq_true, false_or, or_false, true_or, or_true, true_and, and_true, false_and, and_false, B1.out, H23.out, ← G23.out, Z23.out, K8.out, K1.out, B24.out, H25.out, ← G25.out, Z25.out, B26.out, B27.out, H29.out]
                    go_ret
                    exact ⟨by rw [HN.out]; rfl, rfl⟩
                  · obtain ⟨e29, E29⟩ : ∃ e, e = e25 + 1 + n29 := ⟨_, rfl⟩
                    have C29 := Lib.hid (digits_of s hs (e25 + 1) n29 le29 h29 w)
                    have H29 := Lib.hid h29; clear h29
                    rw [← E29] at C29
                    have l29 : e29 ≤ s.size := by omega
                    have q29 : e25 + 1 < e29 := by omega
                    have Z29 : Hid (¬ (n29 = 0)) := by show ¬ _; omega
                    have G29 := Lib.hid E29; clear E29 z29 g29 le29
                    by_cases y : e29 = s.size
                    · have Y : Hid ((sl s).length = s.size) := by show _ = _; rw [sl_len]
                      subst y
                      refine C29.out.mono ?_
                      rintro e w' ⟨rfl, rfl⟩
                      go_wp2_with fail
                      have HN : Hid (R = 2) := by
                        show _ = _
                        rw [HR.out]
                        simp only [lexemeP, lexF, lexE, if_true, if_false, Bool.false_eq_true, false_or, or_false, true_or, or_true, true_and, and_true, false_and, and_false, B1.out, H23.out, ← G23.out, Z23.out, K8.out, K1.out, B24.out, H25.out, ← G25.out, Z25.out, B26.out, B27.out, H29.out, ← G29.out, Z29.out, Y.out]
                      go_ret
                      exact ⟨by rw [HN.out]; rfl, rfl⟩
                    · have Y : Hid (¬ (e29 = (sl s).length)) := by show ¬ _; rw [sl_len]; exact y
                      have y2 : e29 < s.size := by omega
                      have y3 : ((e29 : Int) == s.size) = false := by simp; omega
                      refine C29.out.mono ?_
                      rintro e w' ⟨rfl, rfl⟩
                      go_wp2_with fail
                      have HN : Hid (R = 0) := by
                        show _ = _
                        rw [HR.out]
                        simp only [lexemeP, lexF, lexE, if_true, if_false, Bool.false_eq_true, false_or, or_false, true_or, or_true, true_and, and_true, false_and, and_false, B1.out, H23.out, ← G23.out, Z23.out, K8.out, K1.out, B24.out, H25.out, ← G25.out, Z25.out, B26.out, B27.out, H29.out, ← G29.out, Z29.out, Y.out]
                      go_ret
                      exact ⟨by rw [HN.out]; rfl, rfl⟩
              · have C26 := Lib.hid (is_of s hs (e25) 101 69 false b26 w)
                have B26 := Lib.hid b26; clear b26
                by_cases y : e25 = s.size
                · have Y : Hid ((sl s).length = s.size) := by show _ = _; rw [sl_len]
                  subst y
                  refine C26.out.mono ?_
                  rintro e w' ⟨rfl, rfl⟩
                  go_wp2_with fail
                  have HN : Hid (R = 2) := by
                    show _ = _
                    rw [HR.out]
                    simp only [lexemeP, lexF, lexE, if_true, if_false, Bool.false_eq_true, false_or, or_false, true_or, or_true, true_and, and_true, false_and, and_false, B1.out, H23.out, ← G23.out, Z23.out, K8.out, K1.out, B24.out, H25.out, ← G25.out, Z25.out, B26.out, Y.out]
                  go_ret
                  exact ⟨by rw [HN.out]; rfl, rfl⟩
                · have Y : Hid (¬ (e25 = (sl s).length)) := by show ¬ _; rw [sl_len]; exact y
                  have y2 : e25 < s.size := by omega
                  have y3 : ((e25 : Int) == s.size) = false := by simp; omega
                  refine C26.out.mono ?_
                  rintro e w' ⟨rfl, rfl⟩
                  go_wp2_with fail
                  have HN : Hid (R = 0) := by
                    show _ = _
                    rw [HR.out]
                    simp only [lexemeP, lexF, lexE, if_true, if_false, Bool.false_eq_true, false_or, or_false, true_or, or_true, true_and, and_true, false_and, and_false, B1.out, H23.out, ← G23.out, Z23.out, K8.out, K1.out, B24.out, H25.out, ← G25.out, Z25.out, B26.out, Y.out]
                  go_ret
                  exact ⟨by rw [HN.out]; rfl, rfl⟩
          · have C24 := Lib.hid (is_of s hs (e23) 46 46 false b24 w)
            have B24 := Lib.hid b24; clear b24
            refine C24.out.mono ?_
            rintro e w' ⟨rfl, rfl⟩
            go_wp2_with fail
            rcases Bool.eq_false_or_eq_true (atB (sl s) (e23) 101 69) with b30 | b30
            · have C30 := Lib.hid (is_of s hs (e23) 101 69 true b30 w)
              have B30 := Lib.hid b30; clear b30
              refine C30.out.mono ?_
              rintro e w' ⟨rfl, rfl⟩
              go_wp2_with fail
              have lt : e23 < s.size := at_lt B30.out
              rcases Bool.eq_false_or_eq_true (atB (sl s) (e23 + 1) 43 45) with b31 | b31
              · have C31 := Lib.hid (is_of s hs (e23 + 1) 43 45 true b31 w)
                have B31 := Lib.hid b31; clear b31
                refine C31.out.mono ?_
                rintro e w' ⟨rfl, rfl⟩
                go_wp2_with fail
                have lt2 : e23 + 1 < s.size := at_lt B31.out
                have le32 : e23 + 2 ≤ s.size := by omega
                obtain ⟨n32, h32⟩ : ∃ n, digs ((sl s).drop (e23 + 2)) = n := ⟨_, rfl⟩
                have g32 := digs_le ((sl s).drop (e23 + 2)); rw [h32, List.length_drop, sl_len] at g32
                obtain rfl | z32 := Nat.eq_zero_or_pos n32
                · have C32 := Lib.hid (digits_of s hs (e23 + 2) 0 le32 h32 w)
                  have H32 := Lib.hid h32; clear h32 g32
                  refine C32.out.mono ?_
                  rintro e w' ⟨rfl, rfl⟩
                  go_wp2_with fail
                  have HN : Hid (R = 0) := by
                    show _ = _
                    rw [HR.out]
                    simp only [lexemeP, lexF, lexE, if_true, if_false, Bool.false_eq_true, false_or, or_false, true_or, or_true, true_and, and_true, false_and, and_false, B1.out, H23.out, ← G23.out, Z23.out, K8.out, K1.out, B24.out, B30.out, B31.out, H32.out]
                  go_ret
                  exact ⟨by rw [HN.out]; rfl, rfl⟩
                · obtain ⟨e32, E32⟩ : ∃ e, e = e23 + 2 + n32 := ⟨_, rfl⟩
                  have C32 := Lib.hid (digits_of s hs (e23 + 2) n32 le32 h32 w)
                  have H32 := Lib.hid h32; clear h32
                  rw [← E32] at C32
                  have l32 : e32 ≤ s.size := by omega
                  have q32 : e23 + 2 < e32 := by omega
                  have Z32 : Hid (¬ (n32 = 0)) := by show ¬ _; omega
                  have G32 := Lib.hid E32; clear E32 z32 g32 le32
                  by_cases y : e32 = s.size
                  · have Y : Hid ((sl s).length = s.size) := by show _ = _; rw [sl_len]
                    subst y
                    refine C32.out.mono ?_
                    rintro e w' ⟨rfl, rfl⟩
                    go_wp2_with fail
                    have HN : Hid (R = 2) := by
                      show _ = _
                      rw [HR.out]
                      simp only [lexemeP, lexF, lexE, if_true, if_false, Bool.false_eq_true, false_or, or_false, true_or, or_true, true_and, and_true, false_and, and_false, B1.out, H23.out, ← G23.out, Z23.out, K8.out, K1.out, B24.out, B30.out, B31.out, H32.out, ← G32.out, Z32.out, Y.out]
                    go_ret
                    exact ⟨by rw [HN.out]; rfl, rfl⟩
                  · have Y : Hid (¬ (e32 = (sl s).length)) := by show ¬ _; rw [sl_len]; exact y
                    have y2 : e32 < s.size := by omega
                    have y3 : ((e32 : Int) == s.size) = false := by simp; omega
                    refine C32.out.mono ?_
                    rintro e w' ⟨rfl, rfl⟩
                    go_wp2_with fail
                    have HN : Hid (R = 0) := by
                      show _ = _
                      rw [HR.out]
                      simp only [lexemeP, lexF, lexE, if_true, if_false, Bool.false_eq_true, false_or, or_false, true_or, or_true, true_and, and_true, false_and, and_false, B1.out, H23.out, ← G23.out, Z23.out, K8.out, K1.out, B24.out, B30.out, B31.out, H32.out, ← G32.out, Z32.out, Y.out]
                    go_ret
                    exact ⟨by rw [HN.out]; rfl, rfl⟩
              · have C31 := Lib.hid (is_of s hs (e23 + 1) 43 45 false b31 w)
                have B31 := Lib.hid b31; clear b31
                refine C31.out.mono ?_
                rintro e w' ⟨rfl, rfl⟩
                go_wp2_with fail
                have le33 : e23 + 1 ≤ s.size := by omega
                obtain ⟨n33, h33⟩ : ∃ n, digs ((sl s).drop (e23 + 1)) = n := ⟨_, rfl⟩
                have g33 := digs_le ((sl s).drop (e23 + 1)); rw [h33, List.length_drop, sl_len] at g33
                obtain rfl | z33 := Nat.eq_zero_or_pos n33
                · have C33 := Lib.hid (digits_of s hs (e23 + 1) 0 le33 h33 w)
                  have H33 := Lib.hid h33; clear h33 g33
                  refine C33.out.mono ?_
                  rintro e w' ⟨rfl, rfl⟩
                  go_wp2_with fail
                  have HN : Hid (R = 0) := by
                    show _ = _
                    rw [HR.out]
                    simp only [lexemeP, lexF, lexE, if_true, if_false, Bool.false_eq_true, false_or, or_false, true_or, or_true, true_and, and_true, false_and, and_false, B1.out, H23.out, ← G23.out, Z23.out, K8.out, K1.out, B24.out, B30.out, B31.out, H33.out]
                  go_ret
                  exact ⟨by rw [HN.out]; rfl, rfl⟩
                · obtain ⟨e33, E33⟩ : ∃ e, e = e23 + 1 + n33 := ⟨_, rfl⟩
                  have C33 := Lib.hid (digits_of s hs (e23 + 1) n33 le33 h33 w)
                  have H33 := Lib.hid h33; clear h33
                  rw [← E33] at C33
                  have l33 : e33 ≤ s.size := by omega
                  have q33 : e23 + 1 < e33 := by omega
                  have Z33 : Hid (¬ (n33 = 0)) := by show ¬ _; omega
                  have G33 := Lib.hid E33; clear E33 z33 g33 le33
                  by_cases y : e33 = s.size
                  · have Y : Hid ((sl s).length = s.size) := by show _ = _; rw [sl_len]
                    subst y
                    refine C33.out.mono ?_
                    rintro e w' ⟨rfl, rfl⟩
                    go_wp2_with fail
                    have HN : Hid (R = 2) := by
                      show _ = _
                      rw [HR.out]
                      simp only [lexemeP, lexF, lexE, if_true, if_false, Bool.false_eq_true, false_or, or_false, true_or, or_true, true_and, and_true, false_and, and_false, B1.out, H23.out, ← G23.out, Z23.out, K8.out, K1.out, B24.out, B30.out, B31.out, H33.out, ← G33.out, Z33.out, Y.out]
                    go_ret
                    exact ⟨by rw [HN.out]; rfl, rfl⟩
                  · have Y : Hid (¬ (e33 = (sl s).length)) := by show ¬ _; rw [sl_len]; exact y
                    have y2 : e33 < s.size := by omega
                    have y3 : ((e33 : Int) == s.size) = false := by simp; omega
                    refine C33.out.mono ?_
                    rintro e w' ⟨rfl, rfl⟩
                    go_wp2_with fail
                    have HN : Hid (R = 0) := by
                      show _ = _
                      rw [HR.out]
                      simp only [lexemeP, lexF, lexE, if_true, if_false, Bool.false_eq_true, false_or, or_false, true_or, or_true, true_and, and_true, false_and, and_false, B1.out, H23.out, ← G23.out, Z23.out, K8.out, K1.out, B24.out, B30.out, B31.out, H33.out, ← G33.out, Z33.out, Y.out]
                    go_ret
                    exact ⟨by rw [HN.out]; rfl, rfl⟩
            · have C30 := Lib.hid (is_of s hs (e23) 101 69 false b30 w)
              have B30 := Lib.hid b30; clear b30
              by_cases y : e23 = s.size
              · have Y : Hid ((sl s).length = s.size) := by show _ = _; rw [sl_len]
                subst y
                refine C30.out.mono ?_
                rintro e w' ⟨rfl, rfl⟩
                go_wp2_with fail
                have HN : Hid (R = 1) := by
                  show _ = _
                  rw [HR.out]
                  simp only [lexemeP, lexF, lexE, if_true, if_false, Bool.false_eq_true, false_or, or_false, true_or, or_true, true_and, and_true, false_and, and_false, B1.out, H23.out, ← G23.out, Z23.out, K8.out, K1.out, B24.out, B30.out, Y.out]
                go_ret
                exact ⟨by rw [HN.out]; rfl, rfl⟩
              · have Y : Hid (¬ (e23 = (sl s).length)) := by show ¬ _; rw [sl_len]; exact y
                have y2 : e23 < s.size := by omega
                have y3 : ((e23 : Int) == s.size) = false := by simp; omega
                refine C30.out.mono ?_
                rintro e w' ⟨rfl, rfl⟩
                go_wp2_with fail
                have HN : Hid (R = 0) := by
                  show _ = _
                  rw [HR.out]
                  simp only [lexemeP, lexF, lexE, if_true, if_false, Bool.false_eq_true, false_or, or_false, true_or, or_true, true_and, and_true, false_and, and_false, B1.out, H23.out, ← G23.out, Z23.out, K8.out, K1.out, B24.out, B30.out, Y.out]
                go_ret
                exact ⟨by rw [HN.out]; rfl, rfl⟩
      · have K8 : Hid (¬ (bAt (sl s) (0) = 48)) := by show ¬ _; rw [hb]; exact c8
        clear hb
        refine C23.out.mono ?_
        rintro e w' ⟨rfl, rfl⟩
        go_wp2_with fail
        rcases Bool.eq_false_or_eq_true (atB (sl s) (e23) 46 46) with b34 | b34
        · have C34 := Lib.hid (is_of s hs (e23) 46 46 true b34 w)
          have B34 := Lib.hid b34; clear b34
          refine C34.out.mono ?_
          rintro e w' ⟨rfl, rfl⟩
          go_wp2_with fail
          have lt : e23 < s.size := at_lt B34.out
          have le35 : e23 + 1 ≤ s.size := by omega
          obtain ⟨n35, h35⟩ : ∃ n, digs ((sl s).drop (e23 + 1)) = n := ⟨_, rfl⟩
          have g35 := digs_le ((sl s).drop (e23 + 1)); rw [h35, List.length_drop, sl_len] at g35
          obtain rfl | z35 := Nat.eq_zero_or_pos n35
          · have C35 := Lib.hid (digits_of s hs (e23 + 1) 0 le35 h35 w)
            have H35 := Lib.hid h35; clear h35 g35
            refine C35.out.mono ?_
            rintro e w' ⟨rfl, rfl⟩
            go_wp2_with fail
            have HN : Hid (R = 0) := by
              show _ = _
              rw [HR.out]
              simp only [lexemeP, lexF, lexE, if_true, if_false, Bool.false_eq_true, false_or, or_false, true_or, or_true, true_and, and_true, false_and, and_false, B1.out, H23.out, ← G23.out, Z23.out, K8.out, B34.out, H35.out]
            go_ret
            exact ⟨by rw [HN.out]; rfl, rfl⟩
          · obtain ⟨e35, E35⟩ : ∃ e, e = e23 + 1 + n35 := ⟨_, rfl⟩
            have C35 := Lib.hid (digits_of s hs (e23 + 1) n35 le35 h35 w)
            have H35 := Lib.hid h35; clear h35
            rw [← E35] at C35
            have l35 : e35 ≤ s.size := by omega
            have q35 : e23 + 1 < e35 := by omega
            have Z35 : Hid (¬ (n35 = 0)) := by show ¬ _; omega
            have G35 := Lib.hid E35; clear E35 z35 g35 le35
            refine C35.out.mono ?_
            rintro e w' ⟨rfl, rfl⟩
            go_wp2_with fail
            rcases Bool.eq_false_or_eq_true (atB (sl s) (e35) 101 69) with b36 | b36
            · have C36 := Lib.hid (is_of s hs (e35) 101 69 true b36 w)
              have B36 := Lib.hid b36; clear b36
              refine C36.out.mono ?_
              rintro e w' ⟨rfl, rfl⟩
              go_wp2_with fail
              have lt : e35 < s.size := at_lt B36.out
              rcases Bool.eq_false_or_eq_true (atB (sl s) (e35 + 1) 43 45) with b37 | b37
              · have C37 := Lib.hid (is_of s hs (e35 + 1) 43 45 true b37 w)
                have B37 := Lib.hid b37; clear b37
                refine C37.out.mono ?_
                rintro e w' ⟨rfl, rfl⟩
                go_wp2_with fail
                have lt2 : e35 + 1 < s.size := at_lt B37.out
                have le38 : e35 + 2 ≤ s.size := by omega
                obtain ⟨n38, h38⟩ : ∃ n, digs ((sl s).drop (e35 + 2)) = n := ⟨_, rfl⟩
                have g38 := digs_le ((sl s).drop (e35 + 2)); rw [h38, List.length_drop, sl_len] at g38
                obtain rfl | z38 := Nat.eq_zero_or_pos n38
                · have C38 := Lib.hid (digits_of s hs (e35 + 2) 0 le38 h38 w)
                  have H38 := Lib.hid h38; clear h38 g38
                  refine C38.out.mono ?_
                  rintro e w' ⟨rfl, rfl⟩
                  go_wp2_with fail
                  have HN : Hid (R = 0) := by
                    show _ = _
                    rw [HR.out]
                    simp only [lexemeP, lexF, lexE, if_true, if_false, Bool.false_eq_true, false_or, or_false, true_or, or_true, true_and, and_true, false_and, and_false, B1.out, H23.out, ← G23.out, Z23.out, K8.out, B34.out, H35.out, ← G35.out, Z35.out, B36.out, B37.out, H38.out]
                  go_ret
                  exact ⟨by rw [HN.out]; rfl, rfl⟩
                · obtain ⟨e38, E38⟩ : ∃ e, e = e35 + 2 + n38 := ⟨_, rfl⟩
                  have C38 := Lib.hid (digits_of s hs (e35 + 2) n38 le38 h38 w)
                  have H38 := Lib.hid h38; clear h38
                  rw [← E38] at C38
                  have l38 : e38 ≤ s.size := by omega
                  have q38 : e35 + 2 < e38 := by omega
                  have Z38 : Hid (¬ (n38 = 0)) := by show ¬ _; omega
                  have G38 := Lib.hid E38; clear E38 z38 g38 le38
                  by_cases y : e38 = s.size
                  · have Y : Hid ((sl s).length = s.size) := by show _ = _; rw [sl_len]
                    subst y
                    refine C38.out.mono ?_
                    rintro e w' ⟨rfl, rfl⟩
                    go_wp2_with fail
                    have HN : Hid (R = 2) := by
                      show _ = _
                      rw [HR.out]
                      simp only [lexemeP, lexF, lexE, if_true, if_false, Bool.false_eq_true, false_or, or_false, true_or, or_true, true_and, and_true, false_and, and_false, B1.out, H23.out, ← G23.out, Z23.out, K8.out, B34.out, H35.out, ← G35.out, Z35.out, B36.out, B37.out, H38.out, ← G38.out, Z38.out, Y.out]
                    go_ret
                    exact ⟨by rw [HN.out]; rfl, rfl⟩
                  · have Y : Hid (¬ (e38 = (sl s).length)) := by show ¬ _; rw [sl_len]; exact y
                    have y2 : e38 < s.size := by omega
                    have y3 : ((e38 : Int) == s.size) = false := by simp; omega
                    refine C38.out.mono ?_
                    rintro e w' ⟨rfl, rfl⟩
                    go_wp2_with fail
                    have HN : Hid (R = 0) := by
                      show _ = _
                      rw [HR.out]
                      simp only [lexemeP, lexF, lexE, if_true, if_false, Bool.false_eq_true, false_or, or_false, true_or, or_true, true_and, and_true, false_and, and_false, B1.out, H23.out, ← G23.out, Z23.out, K8.out, B34.out, H35.out, ← G35.out, Z35.out, B36.out, B37.out, H38.out, ← G38.out, Z38.out, Y.out]
                    go_ret
                    exact ⟨by rw [HN.out]; rfl, rfl⟩
              · have C37 := Lib.hid (is_of s hs (e35 + 1) 43 45 false b37 w)
                have B37 := Lib.hid b37; clear b37
                refine C37.out.mono ?_
                rintro e w' ⟨rfl, rfl⟩
                go_wp2_with fail
                have le39 : e35 + 1 ≤ s.size := by omega
                obtain ⟨n39, h39⟩ : ∃ n, digs ((sl s).drop (e35 + 1)) = n := ⟨_, rfl⟩
                have g39 := digs_le ((sl s).drop (e35 + 1)); rw [h39, List.length_drop, sl_len] at g39
                obtain rfl | z39 := Nat.eq_zero_or_pos n39
                · have C39 := Lib.hid (digits_of s hs (e35 + 1) 0 le39 h39 w)
                  have H39 := Lib.hid h39; clear h39 g39
                  refine C39.out.mono ?_
                  rintro e w' ⟨rfl, rfl⟩
                  go_wp2_with fail
                  have HN : Hid (R = 0) := by
                    show _ = _
                    rw [HR.out]
                    simp only [lexemeP, lexF, lexE, if_true, if_false, Bool.false_eq_true, false_or, or_false, true_or, or_true, true_and, and_true, false_and, and_false, B1.out, H23.out, ← G23.out, Z23.out, K8.out, B34.out, H35.out, ← G35.out, Z35.out, B36.out, B37.out, H39.out]
                  go_ret
                  exact ⟨by rw [HN.out]; rfl, rfl⟩
                · obtain ⟨e39, E39⟩ : ∃ e, e = e35 + 1 + n39 := ⟨_, rfl⟩
                  have C39 := Lib.hid (digits_of s hs (e35 + 1) n39 le39 h39 w)
                  have H39 := Lib.hid h39; clear h39
                  rw [← E39] at C39
                  have l39 : e39 ≤ s.size := by omega
                  have q39 : e35 + 1 < e39 := by omega
                  have Z39 : Hid (¬ (n39 = 0)) := by show ¬ _; omega
                  have G39 := Lib.hid E39; clear E39 z39 g39 le39
                  by_cases y : e39 = s.size
                  · have Y : Hid ((sl s).length = s.size) := by show _ = _; rw [sl_len]
                    subst y
                    refine C39.out.mono ?_
                    rintro e w' ⟨rfl, rfl⟩
                    go_wp2_with fail
                    have HN : Hid (R = 2) := by
                      show _ = _
                      rw [HR.out]
                      simp only [lexemeP, lexF, lexE, if_true, if_false, Bool.false_eq_true, false_or, or_false, true_or, or_true, true_and, and_true, false_and, and_false, B1.out, H23.out, ← G23.out, Z23.out, K8.out, B34.out, H35.out, ← G35.out, Z35.out, B36.out, B37.out, H39.out, ← G39.out, Z39.out, Y.out]
                    go_ret
                    exact ⟨by rw [HN.out]; rfl, rfl⟩
                  · have Y : Hid (¬ (e39 = (sl s).length)) := by show ¬ _; rw [sl_len]; exact y
                    have y2 : e39 < s.size := by omega
                    have y3 : ((e39 : Int) == s.size) = false := by simp; omega
                    refine C39.out.mono ?_
                    rintro e w' ⟨rfl, rfl⟩
                    go_wp2_with fail
                    have HN : Hid (R = 0) := by
                      show _ = _
                      rw [HR.out]
                      simp only [lexemeP, lexF, lexE, if_true, if_false, Bool.false_eq_true, false_or, or_false, true_or, or_true, true_and, and_true, false_and, and_false, B1.out, H23.out, ← G23.out, Z23.out, K8.out, B34.out, H35.out, ← G35.out, Z35.out, B36.out, B37.out, H39.out, ← G39.out, Z39.out, Y.out]
                    go_ret
                    exact ⟨by rw [HN.out]; rfl, rfl⟩
            · have C36 := Lib.hid (is_of s hs (e35) 101 69 false b36 w)
              have B36 := Lib.hid b36; clear b36
              by_cases y : e35 = s.size
              · have Y : Hid ((sl s).length = s.size) := by show _ = _; rw [sl_len]
                subst y
                refine C36.out.mono ?_
                rintro e w' ⟨rfl, rfl⟩
                go_wp2_with fail
                have HN : Hid (R = 2) := by
                  show _ = _
                  rw [HR.out]
                  simp only [lexemeP, lexF, lexE, if_true, if_false, Bool.false_eq_true, false_or, or_false, true_or, or_true, true_and, and_true, false_and, and_false, B1.out, H23.out, ← G23.out, Z23.out, K8.out, B34.out, H35.out, ← G35.out, Z35.out, B36.out, Y.out]
                go_ret
                exact ⟨by rw [HN.out]; rfl, rfl⟩
              · have Y : Hid (¬ (e35 = (sl s).length)) := by show ¬ _; rw [sl_len]; exact y
                have y2 : e35 < s.size := by omega
                have y3 : ((e35 : Int) == s.size) = false := by simp; omega
                refine C36.out.mono ?_
                rintro e w' ⟨rfl, rfl⟩
                go_wp2_with fail
                have HN : Hid (R = 0) := by
                  show _ = _
                  rw [HR.out]
                  simp only [lexemeP, lexF, lexE, if_true, if_false, Bool.false_eq_true, false_or, or_false, true_or, or_true, true_and, and_true, false_and, and_false, B1.out, H23.out, ← G23.out, Z23.out, K8.out, B34.out, H35.out, ← G35.out, Z35.out, B36.out, Y.out]
                go_ret
                exact ⟨by rw [HN.out]; rfl, rfl⟩
        · have C34 := Lib.hid (is_of s hs (e23) 46 46 false b34 w)
          have B34 := Lib.hid b34; clear b34
          refine C34.out.mono ?_
          rintro e w' ⟨rfl, rfl⟩
          go_wp2_with fail
          rcases Bool.eq_false_or_eq_true (atB (sl s) (e23) 101 69) with b40 | b40
          · have C40 := Lib.hid (is_of s hs (e23) 101 69 true b40 w)
            have B40 := Lib.hid b40; clear b40
            refine C40.out.mono ?_
            rintro e w' ⟨rfl, rfl⟩
            go_wp2_with fail
            have lt : e23 < s.size := at_lt B40.out
            rcases Bool.eq_false_or_eq_true (atB (sl s) (e23 + 1) 43 45) with b41 | b41
            · have C41 := Lib.hid (is_of s hs (e23 + 1) 43 45 true b41 w)
              have B41 := Lib.hid b41; clear b41
              refine C41.out.mono ?_
              rintro e w' ⟨rfl, rfl⟩
              go_wp2_with fail
              have lt2 : e23 + 1 < s.size := at_lt B41.out
              have le42 : e23 + 2 ≤ s.size := by omega
              obtain ⟨n42, h42⟩ : ∃ n, digs ((sl s).drop (e23 + 2)) = n := ⟨_, rfl⟩
              have g42 := digs_le ((sl s).drop (e23 + 2)); rw [h42, List.length_drop, sl_len] at g42
              obtain rfl | z42 := Nat.eq_zero_or_pos n42
              · have C42 := Lib.hid (digits_of s hs (e23 + 2) 0 le42 h42 w)
                have H42 := Lib.hid h42; clear h42 g42
                refine C42.out.mono ?_
                rintro e w' ⟨rfl, rfl⟩
                go_wp2_with fail
                have HN : Hid (R = 0) := by
                  show _ = _
                  rw [HR.out]
                  simp only [lexemeP, lexF, lexE, if_true, if_false, Bool.false_eq_true, false_or, or_false, true_or, or_true, true_and, and_true, false_and, and_false, B1.out, H23.out, ← G23.out, Z23.out, K8.out, B34.out, B40.out, B41.out, H42.out]
                go_ret
                exact ⟨by rw [HN.out]; rfl, rfl⟩
              · obtain ⟨e42, E42⟩ : ∃ e, e = e23 + 2 + n42 := ⟨_, rfl⟩
                have C42 := Lib.hid (digits_of s hs (e23 + 2) n42 le42 h42 w)
                have H42 := Lib.hid h42; clear h42
                rw [← E42] at C42
                have l42 : e42 ≤ s.size := by omega
                have q42 : e23 + 2 < e42 := by omega
                have Z42 : Hid (¬ (n42 = 0)) := by show ¬ _; omega
                have G42 := Lib.hid E42; clear E42 z42 g42 le42
                by_cases y : e42 = s.size
                · have Y : Hid ((sl s).length = s.size) := by show _ = _; rw [sl_len]
                  subst y
                  refine C42.out.mono ?_
                  rintro e w' ⟨rfl, rfl⟩
                  go_wp2_with fail
                  have HN : Hid (R = 2) := by
                    show _ = _
                    rw [HR.out]
                    simp only [lexemeP, lexF, lexE, if_true, if_false, Bool.false_eq_true, false_or, or_false, true_or, or_true, true_and, and_true, false_and, and_false, B1.out, H23.out, ← G23.out, Z23.out, K8.out, B34.out, B40.out, B41.out, H42.out, ← G42.out, Z42.out, Y.out]
                  go_ret
                  exact ⟨by rw [HN.out]; rfl, rfl⟩
                · have Y : Hid (¬ (e42 = (sl s).length)) := by show ¬ _; rw [sl_len]; exact y
                  have y2 : e42 < s.size := by omega
                  have y3 : ((e42 : Int) == s.size) = false := by simp; omega
                  refine C42.out.mono ?_
                  rintro e w' ⟨rfl, rfl⟩
                  go_wp2_with fail
                  have HN : Hid (R = 0) := by
                    show _ = _
                    rw [HR.out]
                    simp only [lexemeP, lexF, lexE, if_true, if_false, Bool.false_eq_true, false_or, or_false, true_or, or_true, true_and, and_true, false_and, and_false, B1.out, H23.out, ← G23.out, Z23.out, K8.out, B34.out, B40.out, B41.out, H42.out, ← G42.out, Z42.out, Y.out]
                  go_ret
                  exact ⟨by rw [HN.out]; rfl, rfl⟩
            · have C41 := Lib.hid (is_of s hs (e23 + 1) 43 45 false b41 w)
              have B41 := Lib.hid b41; clear b41
              refine C41.out.mono ?_
              rintro e w' ⟨rfl, rfl⟩
              go_wp2_with fail
              have le43 : e23 + 1 ≤ s.size := by omega
              obtain ⟨n43, h43⟩ : ∃ n, digs ((sl s).drop (e23 + 1)) = n := ⟨_, rfl⟩
              have g43 := digs_le ((sl s).drop (e23 + 1)); rw [h43, List.length_drop, sl_len] at g43
              obtain rfl | z43 := Nat.eq_zero_or_pos n43
              · have C43 := Lib.hid (digits_of s hs (e23 + 1) 0 le43 h43 w)
                have H43 := Lib.hid h43; clear h43 g43
                refine C43.out.mono ?_
                rintro e w' ⟨rfl, rfl⟩
                go_wp2_with fail
                have HN : Hid (R = 0) := by
                  show _ = _
                  rw [HR.out]
                  simp only [lexemeP, lexF, lexE, if_true, if_false, Bool.false_eq_true, false_or, or_false, true_or, or_true, true_and, and_true, false_and, and_false, B1.out, H23.out, ← G23.out, Z23.out, K8.out, B34.out, B40.out, B41.out, H43.out]
                go_ret
                exact ⟨by rw [HN.out]; rfl, rfl⟩
              · obtain ⟨e43, E43⟩ : ∃ e, e = e23 + 1 + n43 := ⟨_, rfl⟩
                have C43 := Lib.hid (digits_of s hs (e23 + 1) n43 le43 h43 w)
                have H43 := Lib.hid h43; clear h43
                rw [← E43] at C43
                have l43 : e43 ≤ s.size := by omega
                have q43 : e23 + 1 < e43 := by omega
                have Z43 : Hid (¬ (n43 = 0)) := by show ¬ _; omega
                have G43 := Lib.hid E43; clear E43 z43 g43 le43
                by_cases y : e43 = s.size
                · have Y : Hid ((sl s).length = s.size) := by show _ = _; rw [sl_len]
                  subst y
                  refine C43.out.mono ?_
                  rintro e w' ⟨rfl, rfl⟩
                  go_wp2_with fail
                  have HN : Hid (R = 2) := by
                    show _ = _
                    rw [HR.out]
                    simp only [lexemeP, lexF, lexE, if_true, if_false, Bool.false_eq_true, false_or, or_false, true_or, or_true, true_and, and_true, false_and, and_false, B1.out, H23.out, ← G23.out, Z23.out, K8.out, B34.out, B40.out, B41.out, H43.out, ← G43.out, Z43.out, Y.out]
                  go_ret
                  exact ⟨by rw [HN.out]; rfl, rfl⟩
                · have Y : Hid (¬ (e43 = (sl s).length)) := by show ¬ _; rw [sl_len]; exact y
                  have y2 : e43 < s.size := by omega
                  have y3 : ((e43 : Int) == s.size) = false := by simp; omega
                  refine C43.out.mono ?_
                  rintro e w' ⟨rfl, rfl⟩
                  go_wp2_with fail
                  have HN : Hid (R = 0) := by
                    show _ = _
                    rw [HR.out]
                    simp only [lexemeP, lexF, lexE, if_true, if_false, Bool.false_eq_true, false_or, or_false, true_or, or_true, true_and, and_true, false_and, and_false, B1.out, H23.out, ← G23.out, Z23.out, K8.out, B34.out, B40.out, B41.out, H43.out, ← G43.out, Z43.out, Y.out]
                  go_ret
                  exact ⟨by rw [HN.out]; rfl, rfl⟩
          · have C40 := Lib.hid (is_of s hs (e23) 101 69 false b40 w)
            have B40 := Lib.hid b40; clear b40
            by_cases y : e23 = s.size
            · have Y : Hid ((sl s).length = s.size) := by show _ = _; rw [sl_len]
              subst y
              refine C40.out.mono ?_
              rintro e w' ⟨rfl, rfl⟩
              go_wp2_with fail
              have HN : Hid (R = 1) := by
                show _ = _
                rw [HR.out]
                simp only [lexemeP, lexF, lexE, if_true, if_false, Bool.false_eq_true, false_or, or_false, true_or, or_true, true_and, and_true, false_and, and_false, B1.out, H23.out, ← G23.out, Z23.out, K8.out, B34.out, B40.out, Y.out]
              go_ret
              exact ⟨by rw [HN.out]; rfl, rfl⟩
            · have Y : Hid (¬ (e23 = (sl s).length)) := by show ¬ _; rw [sl_len]; exact y
              have y2 : e23 < s.size := by omega
              have y3 : ((e23 : Int) == s.size) = false := by simp; omega
              refine C40.out.mono ?_
              rintro e w' ⟨rfl, rfl⟩
              go_wp2_with fail
              have HN : Hid (R = 0) := by
                show _ = _
                rw [HR.out]
                simp only [lexemeP, lexF, lexE, if_true, if_false, Bool.false_eq_true, false_or, or_false, true_or, or_true, true_and, and_true, false_and, and_false, B1.out, H23.out, ← G23.out, Z23.out, K8.out, B34.out, B40.out, Y.out]
              go_ret
              exact ⟨by rw [HN.out]; rfl, rfl⟩

end Go.Proofs.Ytamhdoijmkjngaa
