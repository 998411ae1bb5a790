/- BaseJoins: the walk. -/
import Derived.Test.YtolmeimipchndaaBaseE
import Derived.Laws.OwnMore
namespace Go.Proofs.Ytolmeimipchndaa
open Go.RowKit
set_option linter.unusedVariables false
set_option linter.unusedSimpArgs false

theorem txt_append (x y : List UInt8) : txt (x ++ y) = txt x ++ txt y := by
  apply ByteArray.ext
  simp [txt, ByteArray.data_append]

set_option maxRecDepth 100000 in
set_option maxHeartbeats 2000000 in
theorem BaseJoins_walk (w : World) (a : Option Addr) (len cap : Nat) (l : List UInt8) (h : RdB w a len l) (hnc : a = none → cap = 0) (hcc : len ≤ cap) (a' : Option Addr) (len' cap' : Nat) (l' : List UInt8) (h' : RdB w a' len' l') (hnc' : a' = none → cap' = 0) (hcc' : len' ≤ cap') :
    Calls Try.prog 8 #[.slice a len cap, .slice a' len' cap'] w fun e w' => e = .returned (.bool true) ∧ Below w.heap.size w w' := by
  have H := Lib.hid h
  have H' := Lib.hid h'
  have HL := Lib.hid h.1
  have HL' := Lib.hid h'.1
  have HN := Lib.hid hnc
  have HN' := Lib.hid hnc'
  have hm := h.2.1
  have hm' := h'.2.1
  clear h h' hnc hnc'
  by_cases hl : 300 < len
  · have d0 : decide ((300 : Int) < (len : Int)) = true := by simp; omega
    go_enter Try.func8, Try.ntmps8
    go_wp2_with (go_at_call 23; refine (awake4 _).mono ?_; rintro e w1 ⟨rfl, hb⟩)
    go_ret
    exact ⟨rfl, hb⟩
  have d0 : decide ((300 : Int) < (len : Int)) = false := by simp; omega
  by_cases hl' : 300 < len'
  · have d1 : decide ((300 : Int) < (len' : Int)) = true := by simp; omega
    go_enter Try.func8, Try.ntmps8
    go_wp2_with (go_at_call 23; refine (awake4 _).mono ?_; rintro e w1 ⟨rfl, hb⟩)
    go_ret
    exact ⟨rfl, hb⟩
  have d1 : decide ((300 : Int) < (len' : Int)) = false := by simp; omega
  by_cases h3 : len % 3 = 0
  · have d2 : (((len : Int) % 3) != 0) = false := by simp; omega
    have HT := Lib.hid (fun W hW => text_calls a len cap l W hW hcc (by omega))
    have HT' := Lib.hid (fun W hW => text_calls a' len' cap' l' W hW hcc' (by omega))
    have hj : txt (b64 (l ++ l')) = txt (b64 l) ++ txt (b64 l') := by rw [b64_append (len / 3) l l' (by rw [HL.out]; omega), txt_append]
    have HJ := Lib.hid hj
    clear hj h3
    go_enter Try.func8, Try.ntmps8
    go_wp2_with fail
    refine (awake4 _).mono ?_
    rintro e w1 ⟨rfl, hb1⟩
    have H1 := Lib.hid hb1
    clear hb1
    have hlit : Hid (OwnB (w1.alloc (.cells #[] 5)) w1.heap.size (.slice (some ⟨w1.heap.size, 0, none⟩) 0 0) []) := by
      have := World.ownsRow_lit (base := w1.heap.size) (e := 5) (size := 1) w1 #[] 0 (by simp) (by unfold maxLen; omega) rfl
      simpa [Hid, OwnB, byteCells] using this
    have HSA : Hid (∀ W, Below w.heap.size w W → SrcB W (.slice a len cap) l) := fun W hW => ⟨a, len, cap, rfl, H.out.keep hW, HN.out⟩
    have HSB : Hid (∀ W, Below w.heap.size w W → SrcB W (.slice a' len' cap') l') := fun W hW => ⟨a', len', cap', rfl, H'.out.keep hW, HN'.out⟩
    have HB0 := Lib.hid ((Below.refl w1.heap.size w1).alloc (Nat.le_refl _) (.cells #[] 5))
    have hs1 : w.heap.size ≤ w1.heap.size := H1.out.size
    go_wp2_with (at_builtin; refine wpList_appB (v := .slice (some ⟨w1.heap.size, 0, none⟩) 0 0) (bs := []) (sv := .slice a len cap) (l := l) (B := w1.heap.size) (by rfl) _ _ (by rfl) (by rfl) hlit.out (by rfl) (HSA.out _ (H1.out.trans (HB0.out.mono hs1))) ?o3 ?o4 ?_)
    case o3 => rw [HL.out]; simp; omega
    case o4 => simp
    intro v2 w2 ho2 ha2
    have HO2 := Lib.hid ho2
    have HB2 := Lib.hid (ha2.below HB0.out (by simp) (fun j hj => (owns_lt hlit.out j hj).1))
    have hs2 : w1.heap.size ≤ w2.heap.size := HB2.out.size
    clear ho2 ha2 hlit HB0
    go_wp2_with (at_builtin; refine wpList_appB (v := v2) (bs := l) (sv := .slice a' len' cap') (l := l') (B := w1.heap.size) (by rfl) _ _ (by rfl) (by rfl) HO2.out (by rfl) (HSB.out _ (H1.out.trans (HB2.out.mono hs1))) ?o3 ?o4 ?_)
    case o3 => rw [HL.out, HL'.out]; omega
    case o4 => exact hs2
    intro v3 w3 ho3 ha3
    have hb3 := ha3.below HB2.out hs2 (fun j hj => (owns_lt HO2.out j hj).1)
    have HB3 := Lib.hid (H1.out.trans (hb3.mono hs1))
    obtain ⟨a3, c3, hve, hr3⟩ := ho3.reads
    have hle : (l ++ l').length ≤ c3 := by rw [hve] at ho3; exact own_bytes ho3
    have HT3 := Lib.hid (text_calls a3 _ c3 (l ++ l') w3 hr3 hle (by rw [List.length_append, HL.out, HL'.out]; omega))
    rw [HJ.out] at HT3
    generalize (l ++ l').length = n at hve HT3
    rw [hve]
    have z1 : (txt (b64 l)).size ≤ 500 := by rw [txt_size, b64_len, HL.out]; omega
    have z2 : (txt (b64 l')).size ≤ 500 := by rw [txt_size, b64_len, HL'.out]; omega
    generalize txt (b64 l) = t1 at HT HT3 z1
    generalize txt (b64 l') = t2 at HT' HT3 z2
    clear ho3 ha3 hb3 hve hr3 hle HO2
    go_wp2_with fail
    refine HT3.out.mono ?_
    rintro e w4 ⟨rfl, hb4⟩
    have HB4 := Lib.hid (HB3.out.trans (hb4.mono HB3.out.size))
    clear hb4
    go_wp2_with fail
    refine (HT.out _ (H.out.keep HB4.out)).mono ?_
    rintro e w5 ⟨rfl, hb5⟩
    have HB5 := Lib.hid (HB4.out.trans (hb5.mono HB4.out.size))
    clear hb5
    go_wp2_with fail
    refine (HT'.out _ (H'.out.keep HB5.out)).mono ?_
    rintro e w6 ⟨rfl, hb6⟩
    have HB6 := Lib.hid (HB5.out.trans (hb6.mono HB5.out.size))
    clear hb6
    go_wp2_with fail
    go_ret
    exact ⟨rfl, HB6.out⟩
  · have d2 : (((len : Int) % 3) != 0) = true := by simp; omega
    clear h3
    go_enter Try.func8, Try.ntmps8
    go_wp2_with (go_at_call 23; refine (awake4 _).mono ?_; rintro e w1 ⟨rfl, hb⟩)
    go_ret
    exact ⟨rfl, hb⟩

end Go.Proofs.Ytolmeimipchndaa
