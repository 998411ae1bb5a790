/- JoutQuotes: the walk. -/
import Derived.Test.YtamhdoijmkjngaaJPrt
import Derived.Test.YtamhdoijmkjngaaLexBl
namespace Go.Proofs.Ytamhdoijmkjngaa
open Go.RowKit
set_option linter.unusedVariables false
set_option linter.unusedSimpArgs false

set_option maxRecDepth 100000 in
set_option maxHeartbeats 8000000 in
theorem JoutQuotes_walk (w : World) (s : ByteArray) (hs9 : s.size ≤ 9223372036854775807) :
    Calls Try.prog 15 #[.string s] w fun e w' => e = .returned (.bool true) ∧ Below w.heap.size w w' := by
  have CA := fun W => Lib.hid (awake24 W)
  by_cases h3 : 500 < s.size
  · have d3 : decide ((500 : Int) < (s.size : Int)) = true := by simp; omega
    go_enter Try.func15, Try.ntmps15
    go_wp2_with fail
    refine (CA _).out.mono ?_
    rintro e w1 ⟨rfl, hb1⟩
    go_wp2_with fail
    go_ret
    exact ⟨rfl, hb1⟩
  have d3 : decide ((500 : Int) < (s.size : Int)) = false := by simp; omega
  have hs : s.size ≤ 500 := by omega
  have CJ := fun W => Lib.hid (jquote_calls s (by omega) W)
  have CR := fun W => Lib.hid (rquote_calls s (by omega) W)
  by_cases hw : wholeTo (sl s) = s.size
  · obtain ⟨q, hqq⟩ : ∃ q, q = txt (quoteL (sl s)) := ⟨_, rfl⟩
    have CJ' : ∀ W, Hid (Calls Try.prog 37 #[.string s] W fun e w' => e = .returned (.tuple #[.string q, .bool true]) ∧ Below W.heap.size W w') := fun W => Lib.hid ((CJ W).out.mono (by rintro e w' ⟨h1, _, h3⟩; exact ⟨by rw [h1 hw, hqq], h3⟩))
    have CR' : ∀ W, Hid (Calls Try.prog 29 #[.string s] W fun e w' => e = .returned (.tuple #[.string q, .bool true]) ∧ Below W.heap.size W w') := fun W => Lib.hid ((CR W).out.mono (by rintro e w' ⟨h1, _, h3⟩; exact ⟨by rw [h1 hw, hqq], h3⟩))
    have hq := tok_quote (sl s) [] (by rw [sl_len]; exact hw)
    rw [List.append_nil] at hq
    have hqn := quoteL_len (sl s)
    have hqm := quoteM_len (sl s)
    rw [sl_len] at hqm
    have hsq : q.size = (quoteL (sl s)).length := by rw [hqq, txt_size]
    have hsl : sl q = quoteL (sl s) := by rw [hqq, sl_txt]
    have CN := fun W => Lib.hid (next_calls q (by omega) 0 (by omega) W)
    rw [nextI_zero, hsl, hq, ← hsq] at CN
    have htl := toList_txt (sl s)
    have htl2 := toList_sl s
    clear CJ CR hq hqn hqm hqq hsq hsl hw
    go_enter Try.func15, Try.ntmps15
    go_wp2_with fail
    refine (CA _).out.mono ?_
    rintro e w1 ⟨rfl, hb1⟩
    have HB1 := Lib.hid hb1
    clear hb1
    go_wp2_with fail
    refine (CJ' _).out.mono ?_
    rintro e w2 ⟨rfl, hb2⟩
    have HB2 := Lib.hid (HB1.out.trans (hb2.mono HB1.out.size))
    clear hb2
    go_wp2_with fail
    refine (CR' _).out.mono ?_
    rintro e w3 ⟨rfl, hb3⟩
    have HB3 := Lib.hid (HB2.out.trans (hb3.mono HB2.out.size))
    clear hb3
    go_wp2_with fail
    refine (CN _).out.mono ?_
    rintro e w4 ⟨rfl, hb4⟩
    have HB4 := Lib.hid (HB3.out.trans (hb4.mono HB3.out.size))
    clear hb4
    simp only [tokV, errV]
    go_wp2_with fail
    go_ret
    exact ⟨rfl, (HB4.out.alloc (HB4.out.size) _).alloc (by have := HB4.out.size; simp; omega) _⟩
  · have CJ' : ∀ W, Hid (Calls Try.prog 37 #[.string s] W fun e w' => e = .returned (.tuple #[.string ⟨#[]⟩, .bool false]) ∧ Below W.heap.size W w') := fun W => Lib.hid ((CJ W).out.mono (by rintro e w' ⟨_, h1, h3⟩; exact ⟨h1 hw, h3⟩))
    have CR' : ∀ W, Hid (Calls Try.prog 29 #[.string s] W fun e w' => e = .returned (.tuple #[.string ⟨#[]⟩, .bool false]) ∧ Below W.heap.size W w') := fun W => Lib.hid ((CR W).out.mono (by rintro e w' ⟨_, h1, h3⟩; exact ⟨h1 hw, h3⟩))
    have CN := fun W => Lib.hid (next_calls ⟨#[]⟩ (by decide) 0 (by omega) W)
    rw [show nextI (sl ⟨#[]⟩) 0 = .tok 1 0 0 [] from rfl] at CN
    clear CJ CR hw
    go_enter Try.func15, Try.ntmps15
    go_wp2_with fail
    refine (CA _).out.mono ?_
    rintro e w1 ⟨rfl, hb1⟩
    have HB1 := Lib.hid hb1
    clear hb1
    go_wp2_with fail
    refine (CJ' _).out.mono ?_
    rintro e w2 ⟨rfl, hb2⟩
    have HB2 := Lib.hid (HB1.out.trans (hb2.mono HB1.out.size))
    clear hb2
    go_wp2_with fail
    refine (CR' _).out.mono ?_
    rintro e w3 ⟨rfl, hb3⟩
    have HB3 := Lib.hid (HB2.out.trans (hb3.mono HB2.out.size))
    clear hb3
    go_wp2_with fail
    refine (CN _).out.mono ?_
    rintro e w4 ⟨rfl, hb4⟩
    have HB4 := Lib.hid (HB3.out.trans (hb4.mono HB3.out.size))
    clear hb4
    simp only [tokV, errV]
    go_wp2_with fail
    go_ret
    exact ⟨rfl, (HB4.out.alloc (HB4.out.size) _).alloc (by have := HB4.out.size; simp; omega) _⟩

end Go.Proofs.Ytamhdoijmkjngaa
