/- BaseTells: the walk. -/
import Derived.Test.YtolmeimipchndaaBaseE
import Derived.Test.YtolmeimipchndaaBaseW
namespace Go.Proofs.Ytolmeimipchndaa
open Go.RowKit
set_option linter.unusedVariables false
set_option linter.unusedSimpArgs false

set_option maxRecDepth 100000 in
set_option maxHeartbeats 2000000 in
theorem BaseTells_walk (w : World) (a : Option Addr) (len cap : Nat) (l : List UInt8) (h : RdB w a len l) (hnc : a = none → cap = 0) (hcc : len ≤ cap) (s : ByteArray) (hs : s.size ≤ 9223372036854775807) :
    Calls Try.prog 4 #[.slice a len cap, .string s] w fun e w' => e = .returned (.bool true) ∧ Below w.heap.size w w' := by
  have H := Lib.hid h
  have hm := h.2.1
  clear h hnc
  by_cases hl : 600 < len
  · have d0 : decide ((600 : Int) < (len : Int)) = true := by simp; omega
    go_enter Try.func4, Try.ntmps4
    go_wp2_with (go_at_call 23; refine (awake4 _).mono ?_; rintro e w1 ⟨rfl, hb⟩)
    go_ret
    exact ⟨rfl, hb⟩
  have d0 : decide ((600 : Int) < (len : Int)) = false := by simp; omega
  by_cases hl' : 600 < s.size
  · have d1 : decide ((600 : Int) < (s.size : Int)) = true := by simp; omega
    go_enter Try.func4, Try.ntmps4
    go_wp2_with (go_at_call 23; refine (awake4 _).mono ?_; rintro e w1 ⟨rfl, hb⟩)
    go_ret
    exact ⟨rfl, hb⟩
  have d1 : decide ((600 : Int) < (s.size : Int)) = false := by simp; omega
  obtain ⟨ok, t, CX, CY⟩ : ∃ ok t, (∀ W, Hid (Calls Try.prog 24 #[.string s] W (ReadsTo W ok t))) ∧ (∀ W, Hid (Calls Try.prog 25 #[.string s] W (ReadsTo W ok t))) := by
    by_cases ht : ∃ t, b64 t = sl s
    · obtain ⟨t, ht⟩ := ht
      exact ⟨true, t, fun W => bytes_yes s (by omega) t ht W, fun W => unbase_yes s (by omega) t ht W⟩
    · exact ⟨false, [], fun W => bytes_no s (by omega) (fun t h => ht ⟨t, h⟩) W, fun W => unbase_no s (by omega) (fun t h => ht ⟨t, h⟩) W⟩
  have HT := Lib.hid (fun W hW => text_calls a len cap l W hW hcc (by omega))
  have HT' := Lib.hid (fun W hW => rbase_calls a len cap l W hW (by omega))
  generalize txt (b64 l) = t1 at HT HT'
  have hee : (t1.toList == t1.toList) = true := by simp
  have hoo : (ok == ok) = true := by simp
  go_enter Try.func4, Try.ntmps4
  go_wp2_with fail
  refine (awake4 _).mono ?_
  rintro e w1 ⟨rfl, hb1⟩
  have HB1 := Lib.hid hb1
  clear hb1
  go_wp2_with fail
  refine (CX _).out.mono ?_
  rintro e w2 ⟨v2, rfl, ho2, hb2⟩
  have HB2 := Lib.hid (HB1.out.trans (hb2.mono HB1.out.size))
  obtain ⟨a2, c2, rfl, hr2⟩ := ho2.reads
  have HR2 := Lib.hid hr2
  clear ho2 hb2 hr2
  go_wp2_with fail
  refine (CY _).out.mono ?_
  rintro e w3 ⟨v3, rfl, ho3, hb3⟩
  have HB3 := Lib.hid (HB2.out.trans (hb3.mono HB2.out.size))
  obtain ⟨a3, c3, rfl, hr3⟩ := ho3.reads
  have HC2 := Lib.hid (fun W (hW : Below w3.heap.size w3 W) => conv_str ((HR2.out.keep hb3).keep hW) c2)
  have HC3 := Lib.hid (fun W (hW : Below w3.heap.size w3 W) => conv_str (hr3.keep hW) c3)
  have HRA := Lib.hid (fun W (hW : Below w3.heap.size w3 W) => H.out.keep (HB3.out.trans (hW.mono HB3.out.size)))
  clear ho3 hb3 hr3
  generalize t.length = n at HC2 HC3 ⊢
  generalize txt t = t3 at HC2 HC3
  have htt : (t3.toList == t3.toList) = true := by simp
  go_wp2_with fail
  refine (HT.out _ (HRA.out _ (Below.refl _ _))).mono ?_
  rintro e w5 ⟨rfl, hb5⟩
  have HB5 := Lib.hid hb5
  clear hb5
  go_wp2_with fail
  refine (HT'.out _ (HRA.out _ HB5.out)).mono ?_
  rintro e w6 ⟨rfl, hb6⟩
  have HB6 := Lib.hid (HB5.out.trans (hb6.mono HB5.out.size))
  have cv2 := HC2.out _ HB6.out
  have cv3 := HC3.out _ HB6.out
  change (convert 22 9 (.slice a2 n c2)).run Try.prog w6 = _ at cv2
  change (convert 22 9 (.slice a3 n c3)).run Try.prog w6 = _ at cv3
  clear hb6
  go_wp2_with fail
  go_ret
  exact ⟨rfl, HB3.out.trans (HB6.out.mono HB3.out.size)⟩

end Go.Proofs.Ytolmeimipchndaa
