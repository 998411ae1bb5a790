/- LexStrs: the walk. -/
import Derived.Test.YtamhdoijmkjngaaLexBl
import Derived.Test.YtamhdoijmkjngaaQuo
namespace Go.Proofs.Ytamhdoijmkjngaa
open Go.RowKit
set_option linter.unusedVariables false
set_option linter.unusedSimpArgs false

set_option maxRecDepth 100000 in
set_option maxHeartbeats 8000000 in
theorem LexStrs_walk (w : World) (s : ByteArray) (hs1 : s.size ≤ 1048576) (b : ByteArray) (hb9 : b.size ≤ 1048576) :
    Calls Try.prog 6 #[.string s, .string b] w fun e w' => e = .returned (.bool true) ∧ Below w.heap.size w w' := by
  have CA := fun W => Lib.hid (awake22 W)
  have CQ := fun W => Lib.hid (rquote_calls s (by omega) W)
  by_cases hw : wholeTo (sl s) = s.size
  · have CQ' : ∀ W, Hid (Calls Try.prog 29 #[.string s] W fun e w' => e = .returned (.tuple #[.string (txt (quoteL (sl s))), .bool true]) ∧ Below W.heap.size W w') := fun W => Lib.hid ((CQ W).out.mono (by rintro e w' ⟨h1, _, h3⟩; exact ⟨h1 hw, h3⟩))
    clear CQ
    have hq := tok_quote (sl s) (sl b) (by rw [sl_len]; exact hw)
    have hqn := quoteL_len (sl s)
    have hqm := quoteM_len (sl s)
    rw [sl_len] at hqm
    by_cases h3 : s.size ≤ 300 ∧ b.size ≤ 300
    · obtain ⟨h3, h4⟩ := h3
      obtain ⟨q, hqq⟩ : ∃ q, q = txt (quoteL (sl s)) := ⟨_, rfl⟩
      have hsq : q.size = (quoteL (sl s)).length := by rw [hqq, txt_size]
      have hsl : sl (q ++ b) = quoteL (sl s) ++ sl b := by rw [hqq]; unfold sl txt; simp
      rw [← hqq] at CQ'
      have CN := fun W => Lib.hid (next_calls (q ++ b) (by rw [ByteArray.size_append, hsq]; omega) 0 (by omega) W)
      rw [nextI_zero, hsl, hq, ← hsq] at CN
      have hq8 : q.size ≤ 2000 := by omega
      have htl := toList_txt (sl s)
      have htl2 := toList_sl s
      have d3 : decide ((300 : Int) < (s.size : Int)) = false := by simp; omega
      have d4 : decide ((300 : Int) < (b.size : Int)) = false := by simp; omega
      clear hq hqn hqm hqq hsq hsl hw
      go_enter Try.func6, Try.ntmps6
      go_wp2_with fail
      refine (CA _).out.mono ?_
      rintro e w1 ⟨rfl, hb1⟩
      have HB1 := Lib.hid hb1
      clear hb1
      go_wp2_with fail
      refine (CQ' _).out.mono ?_
      rintro e w2 ⟨rfl, hb2⟩
      have HB2 := Lib.hid (HB1.out.trans (hb2.mono HB1.out.size))
      clear hb2
      go_wp2_with fail
      refine (CN _).out.mono ?_
      rintro e w3 ⟨rfl, hb3⟩
      have HB3 := Lib.hid (HB2.out.trans (hb3.mono HB2.out.size))
      clear hb3
      simp only [tokV, errV]
      go_wp2_with fail
      go_ret
      exact ⟨rfl, (HB3.out.alloc (HB3.out.size) _).alloc (by have := HB3.out.size; simp; omega) _⟩
    · have hcase : 300 < s.size ∨ (s.size ≤ 300 ∧ 300 < b.size) := by omega
      clear hq hqn hqm hw h3
      rcases hcase with h | ⟨h, h'⟩
      all_goals
        go_enter Try.func6, Try.ntmps6
        go_wp2_with fail
        refine (CA _).out.mono ?_
        rintro e w1 ⟨rfl, hb1⟩
        have HB1 := Lib.hid hb1
        clear hb1
        go_wp2_with fail
        refine (CQ' _).out.mono ?_
        rintro e w2 ⟨rfl, hb2⟩
        have HB2 := Lib.hid (HB1.out.trans (hb2.mono HB1.out.size))
        clear hb2
        go_wp2_with fail
        go_ret
        exact ⟨rfl, HB2.out⟩
  · have CQ' : ∀ W, Hid (Calls Try.prog 29 #[.string s] W fun e w' => e = .returned (.tuple #[.string ⟨#[]⟩, .bool false]) ∧ Below W.heap.size W w') := fun W => Lib.hid ((CQ W).out.mono (by rintro e w' ⟨_, h2, h3⟩; exact ⟨h2 hw, h3⟩))
    have hcase : 300 < s.size ∨ (s.size ≤ 300 ∧ 300 < b.size) ∨ (s.size ≤ 300 ∧ b.size ≤ 300) := by omega
    clear CQ hw
    rcases hcase with h | ⟨h, h'⟩ | ⟨h, h'⟩
    all_goals
      go_enter Try.func6, Try.ntmps6
      go_wp2_with fail
      refine (CA _).out.mono ?_
      rintro e w1 ⟨rfl, hb1⟩
      have HB1 := Lib.hid hb1
      clear hb1
      go_wp2_with fail
      refine (CQ' _).out.mono ?_
      rintro e w2 ⟨rfl, hb2⟩
      have HB2 := Lib.hid (HB1.out.trans (hb2.mono HB1.out.size))
      clear hb2
      go_wp2_with fail
      go_ret
      exact ⟨rfl, HB2.out⟩

end Go.Proofs.Ytamhdoijmkjngaa
