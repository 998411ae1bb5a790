/- BoutWrites: the walk. -/
import Derived.Test.YtkcfkdmffbhljaaBoRG
import Derived.Test.YtkcfkdmffbhljaaBoAw
import Derived.Test.YtkcfkdmffbhljaaBoS2
import Derived.Test.YtkcfkdmffbhljaaMB
namespace Go.Proofs.Ytkcfkdmffbhljaa
open Go.RowKit
set_option linter.unusedVariables false
set_option linter.unusedSimpArgs false

theorem wt_small {t : T} (h : smallT t = true) : t.wt ≤ 1200 := by
  have h0 : 0 ≤ bookT 1200 t := by simpa [smallT] using h
  have := bookT_wt _ _ h0
  omega

set_option maxRecDepth 100000 in
set_option maxHeartbeats 4000000 in
theorem BoutWrites_walk (w : World) (c : Array Value) (t : T) (h : RdT w t c) :
    Calls Try.prog 8 #[.agg c] w fun e w' => e = .returned (.bool true) ∧ Below w.heap.size w w' := by
  obtain ⟨k, bits, hi, lo, text, more, sub, ab, nb, cb, ak, nk, ck, rfl⟩ := h.shape
  obtain ⟨wa, hwa⟩ : ∃ W, W = w.alloc (.cells (valCells k bits hi lo text more sub ab nb cb ak nk ck) 26) := ⟨_, rfl⟩
  have hba : Below w.heap.size w wa := by rw [hwa]; exact (Below.refl _ _).alloc (Nat.le_refl _) _
  have hxa : BoxV wa w.heap.size (valCells k bits hi lo text more sub ab nb cb ak nk ck) := by rw [hwa]; exact BoxV.new _ _ _
  have HBX : Hid (∀ W, Below wa.heap.size wa W → BoxV W w.heap.size (valCells k bits hi lo text more sub ab nb cb ak nk ck)) := fun W hW => hxa.keep hW
  have HBA := Lib.hid hba
  have HT : Hid (∀ W, Below wa.heap.size wa W → RdT W t (valCells k bits hi lo text more sub ab nb cb ak nk ck)) := fun W hW => (h.keep hba).keep hW
  have CS := Lib.hid (fun W h => small_calls t W (valCells k bits hi lo text more sub ab nb cb ak nk ck) h)
  obtain ⟨f0, f1, f2, f3, f4, f5, f6, f7, f8, l0⟩ := hxa.nine
  clear hba hxa h
  cases hs : smallT t with
  | false =>
    rw [hs] at CS
    clear hs
    go_enter Try.func8, Try.ntmps8
    go_upto_region 1 with fail
    rw [← hwa]
    clear hwa
    go_wp2_with fail
    refine (awake20 _).mono ?_
    rintro e w1 ⟨rfl, hb1⟩
    have HB1 := Lib.hid hb1
    clear f0 f1 f2 f3 f4 f5 f6 f7 f8 l0
    obtain ⟨f0, f1, f2, f3, f4, f5, f6, f7, f8, l0⟩ := (HBX.out w1 HB1.out).nine
    clear hb1
    go_wp2_with fail
    refine (CS.out _ (HT.out _ HB1.out)).mono ?_
    rintro e w2 ⟨rfl, hb2⟩
    have HB2 : Hid (Below wa.heap.size wa w2) := HB1.out.trans (hb2.mono HB1.out.size)
    clear f0 f1 f2 f3 f4 f5 f6 f7 f8 l0
    obtain ⟨f0, f1, f2, f3, f4, f5, f6, f7, f8, l0⟩ := (HBX.out w2 HB2.out).nine
    clear hb2
    go_wp2_with fail
    go_ret
    exact ⟨rfl, HBA.out.trans (HB2.out.mono HBA.out.size)⟩
  | true =>
    have hwt := wt_small hs
    rw [hs] at CS
    have CE := Lib.hid (fun W (h : RdT W t (valCells k bits hi lo text more sub ab nb cb ak nk ck)) => encode_calls t W _ h (by omega))
    have CR := Lib.hid (fun W (h : RdT W t (valCells k bits hi lo text more sub ab nb cb ak nk ck)) => rencode_calls t W _ h (by omega))
    clear hs hwt
    go_enter Try.func8, Try.ntmps8
    go_upto_region 1 with fail
    rw [← hwa]
    clear hwa
    go_wp2_with fail
    refine (awake20 _).mono ?_
    rintro e w1 ⟨rfl, hb1⟩
    have HB1 := Lib.hid hb1
    clear f0 f1 f2 f3 f4 f5 f6 f7 f8 l0
    obtain ⟨f0, f1, f2, f3, f4, f5, f6, f7, f8, l0⟩ := (HBX.out w1 HB1.out).nine
    clear hb1
    go_wp2_with fail
    refine (CS.out _ (HT.out _ HB1.out)).mono ?_
    rintro e w2 ⟨rfl, hb2⟩
    have HB2 : Hid (Below wa.heap.size wa w2) := HB1.out.trans (hb2.mono HB1.out.size)
    clear f0 f1 f2 f3 f4 f5 f6 f7 f8 l0
    obtain ⟨f0, f1, f2, f3, f4, f5, f6, f7, f8, l0⟩ := (HBX.out w2 HB2.out).nine
    clear hb2
    go_wp2_with fail
    refine (CE.out _ (HT.out _ HB2.out)).mono ?_
    rintro e w3 ⟨a3, n3, c3, aP, nP, cP, rfl, hrd3, hac3, hnP, hmP, hrP, hcP, hb3⟩
    have HB3 : Hid (Below wa.heap.size wa w3) := HB2.out.trans (hb3.mono HB2.out.size)
    obtain ⟨E, hE⟩ : ∃ E, E = encE t := ⟨_, rfl⟩
    obtain ⟨L, hL⟩ : ∃ L, L = encB t := ⟨_, rfl⟩
    rw [← hL] at hrd3
    rw [← hE]
    have HE := Lib.hid hE
    have HL := Lib.hid hL
    have HRD3 := Lib.hid hrd3
    have HRP3 := Lib.hid hrP
    have HNP3 := Lib.hid hnP
    obtain ⟨wb, hwb⟩ : ∃ W, W = w3.alloc (.cells #[.int .i64 (E : Nat), .int .i64 0, .slice aP nP cP] 34) := ⟨_, rfl⟩
    have h3b : Below w3.heap.size w3 wb := by rw [hwb]; exact (Below.refl _ _).alloc (Nat.le_refl _) _
    have HBB : Hid (Below wa.heap.size wa wb) := HB3.out.trans (h3b.mono HB3.out.size)
    have H3B := Lib.hid h3b
    obtain ⟨g1, hg1⟩ : ∃ g, g = w3.heap.size := ⟨_, rfl⟩
    have k0 : wb.cell? ⟨g1, 0, none⟩ = some (.int .i64 (E : Nat)) := by rw [hwb, hg1]; simp [go_sem]
    have k1 : wb.cell? ⟨g1, 1, none⟩ = some (.int .i64 0) := by rw [hwb, hg1]; simp [go_sem]
    have k2 : wb.cell? ⟨g1, 2, none⟩ = some (.slice aP nP cP) := by rw [hwb, hg1]; simp [go_sem]
    have K0 := Lib.hid k0
    have K1 := Lib.hid k1
    have K2 := Lib.hid k2
    clear f0 f1 f2 f3 f4 f5 f6 f7 f8 l0
    obtain ⟨f0, f1, f2, f3, f4, f5, f6, f7, f8, l0⟩ := (HBX.out w3 HB3.out).nine
    clear hb3 hrd3 hrP hnP hE hL h3b k0 k1 k2
    go_upto_region 6 with fail
    rw [← hwb, ← hg1]
    clear hwb hg1
    clear f0 f1 f2 f3 f4 f5 f6 f7 f8 l0
    obtain ⟨f0, f1, f2, f3, f4, f5, f6, f7, f8, l0⟩ := (HBX.out wb HBB.out).nine
    go_wp2_with fail
    refine (CR.out _ (HT.out _ HBB.out)).mono ?_
    rintro e w4 ⟨a4, n4, c4, aQ, nQ, cQ, rfl, hrd4, hac4, hnQ, hmQ, hrQ, hcQ, hb4⟩
    rw [← HE.out]
    rw [← HL.out] at hrd4
    have hk0 := cell_below hb4 K0.out
    have hk1 := cell_below hb4 K1.out
    have hk2 := cell_below hb4 K2.out
    have hg4 : g1 < w4.heap.size := by simpa using cell_block hk0
    obtain ⟨wc, hwc⟩ : ∃ W, W = w4.alloc (.cells #[.int .i64 (E : Nat), .int .i64 0, .slice aQ nQ cQ] 34) := ⟨_, rfl⟩
    have h4c : Below w4.heap.size w4 wc := by rw [hwc]; exact (Below.refl _ _).alloc (Nat.le_refl _) _
    obtain ⟨g2, hg2⟩ : ∃ g, g = w4.heap.size := ⟨_, rfl⟩
    have m0 : wc.cell? ⟨g2, 0, none⟩ = some (.int .i64 (E : Nat)) := by rw [hwc, hg2]; simp [go_sem]
    have m1 : wc.cell? ⟨g2, 1, none⟩ = some (.int .i64 0) := by rw [hwc, hg2]; simp [go_sem]
    have m2 : wc.cell? ⟨g2, 2, none⟩ = some (.slice aQ nQ cQ) := by rw [hwc, hg2]; simp [go_sem]
    have n0 := cell_below h4c hk0
    have n1 := cell_below h4c hk1
    have n2 := cell_below h4c hk2
    have h3c : Below w3.heap.size w3 wc := H3B.out.trans ((hb4.trans (h4c.mono hb4.size)).mono H3B.out.size)
    have HBC : Hid (Below wa.heap.size wa wc) := HBB.out.trans ((hb4.trans (h4c.mono hb4.size)).mono HBB.out.size)
    have CF := Lib.hid (same_fault2 (E : Nat) 0 (errP (chk t)) (fun _ => True) (fun _ => True) aP aQ nP nQ cP cQ wc HNP3.out.symm hnQ.symm hmP (HRP3.out.keep (KeepS.below h3c)) (hrQ.keep (KeepS.below h4c)))
    have HRC3 := Lib.hid (HRD3.out.keep h3c)
    have HRC4 := Lib.hid (hrd4.keep h4c)
    clear f0 f1 f2 f3 f4 f5 f6 f7 f8 l0
    obtain ⟨f0, f1, f2, f3, f4, f5, f6, f7, f8, l0⟩ := (HBX.out w4 (HBB.out.trans (hb4.mono HBB.out.size))).nine
    clear hb4 hrd4 hrQ hnQ h4c h3c hk0 hk1 hk2
    go_upto_region 7 with fail
    rw [← hwc, ← hg2]
    clear hwc hg2
    go_wp2_with fail
    refine CF.out.mono ?_
    rintro e w5 ⟨rfl, hb5⟩
    have hcv1 := conv_str (HRC3.out.keep hb5) c3
    have hcv2 := conv_str (HRC4.out.keep hb5) c4
    have heq : ((txt L).toList == (txt L).toList) = true := by simp
    have HB5 : Hid (Below wa.heap.size wa w5) := HBC.out.trans (hb5.mono HBC.out.size)
    clear f0 f1 f2 f3 f4 f5 f6 f7 f8 l0
    clear hb5 m0 m1 m2 n0 n1 n2
    go_wp2_with fail
    go_ret
    exact ⟨rfl, HBA.out.trans (HB5.out.mono HBA.out.size)⟩

end Go.Proofs.Ytkcfkdmffbhljaa
