/- BinJust: the walk. -/
import Derived.Test.YtkcfkdmffbhljaaBiU
import Derived.Test.YtkcfkdmffbhljaaMP
import Derived.Test.YtkcfkdmffbhljaaFitQ
import Derived.Test.YtkcfkdmffbhljaaMF
import Derived.Test.YtkcfkdmffbhljaaBoG
namespace Go.Proofs.Ytkcfkdmffbhljaa
open Go.RowKit
set_option linter.unusedVariables false
set_option linter.unusedSimpArgs false

set_option maxRecDepth 100000 in
set_option maxHeartbeats 8000000 in
theorem BinJust_walk (w : World) (a : Option Addr) (n c : Nat) (L : List UInt8) (h : RdB w a n L) (hz : a = none → c = 0) (hc : n ≤ c) (d s o : Int) :
    Calls Try.prog 12 #[.slice a n c, .agg (limCells d s o)] w fun e w' => e = .returned (.bool true) ∧ Below w.heap.size w w' := by
  obtain ⟨wa, hwa⟩ : ∃ W, W = w.alloc (.cells #[.int .i64 d, .int .i64 s, .int .i64 o] 28) := ⟨_, rfl⟩
  have hba : Below w.heap.size w wa := by rw [hwa]; exact (Below.refl _ _).alloc (Nat.le_refl _) _
  have hla : LBx wa w.heap.size d s o := by rw [hwa]; exact LBx.new w d s o _
  have HLA : Hid (∀ W, Below wa.heap.size wa W → LBx W w.heap.size d s o) := fun W hW => hla.keep hW
  have HBA := Lib.hid hba
  have HRD : Hid (∀ W, Below wa.heap.size wa W → RdB W a n L) := fun W hW => (h.keep hba).keep hW
  have HL : Hid (L.length = n) := h.1
  have HHC : Hid (n ≤ c) := hc
  obtain ⟨y0, y1, y2, m0⟩ := hla
  clear hba h hz
  go_enter Try.func12, Try.ntmps12
  go_upto_region 1 with fail
  rw [← hwa]
  clear hwa
  go_wp2_with fail
  refine (awake21 _).mono ?_
  rintro e w1 ⟨rfl, hb1⟩
  have HB1 := Lib.hid hb1
  clear hb1 y0 y1 y2 m0
  obtain ⟨y0, y1, y2, m0⟩ := HLA.out w1 HB1.out
  by_cases hlen : 3000 < n
  · have d0 : decide (3000 < (n : Int)) = true := by simp; omega
    clear hlen
    go_wp2_with fail
    go_ret
    exact ⟨rfl, HBA.out.trans (HB1.out.mono HBA.out.size)⟩
  have d0 : decide (3000 < (n : Int)) = false := by simp; omega
  go_wp2_with fail
  refine (decU_calls a n c d s o L w1 (HRD.out _ HB1.out) HHC.out (by omega)).mono ?_
  rintro e w4 ⟨r, k, bits, hi, lo, text, more, sub, ab, nb, cb, ak, nk, ck, hq, rfl, hrd, hb4⟩
  obtain ⟨er, at1, hfo⟩ : ∃ er a, fltOf r = (er, a) := ⟨_, _, rfl⟩
  rw [hfo]
  have HFO := Lib.hid hfo
  have HQ := Lib.hid hq
  obtain ⟨wc, hwc⟩ : ∃ W, W = (w4.alloc (.cells (valCells k bits hi lo text more sub ab nb cb ak nk ck) 26)).alloc (.cells #[.int .i64 (er : Nat), .int .i64 (at1 : Nat), .slice none 0 0] 34) := ⟨_, rfl⟩
  obtain ⟨g3, hg3⟩ : ∃ g, g = w4.heap.size := ⟨_, rfl⟩
  obtain ⟨g4, hg4⟩ : ∃ g, g = w4.heap.size + 1 := ⟨_, rfl⟩
  have hb40 : Below w4.heap.size w4 (w4.alloc (.cells (valCells k bits hi lo text more sub ab nb cb ak nk ck) 26)) := (Below.refl _ _).alloc (Nat.le_refl _) _
  have h4c : Below w4.heap.size w4 wc := by rw [hwc]; exact hb40.alloc hb40.size _
  have hbv : BoxV wc g3 (valCells k bits hi lo text more sub ab nb cb ak nk ck) := by rw [hwc, hg3]; exact (BoxV.new _ _ _).keep ((Below.refl _ _).alloc (Nat.le_refl _) _)
  have hbf : FBx wc g4 er at1 := by
    have := FBx.new (w4.alloc (.cells (valCells k bits hi lo text more sub ab nb cb ak nk ck) 26)) er at1 34
    rw [hwc, hg4]
    simpa using this
  have HBC : Hid (Below wa.heap.size wa wc) := HB1.out.trans ((hb4.trans (h4c.mono hb4.size)).mono HB1.out.size)
  have HBV : Hid (∀ W, Below wc.heap.size wc W → BoxV W g3 (valCells k bits hi lo text more sub ab nb cb ak nk ck)) := fun W hW => hbv.keep hW
  have HBF : Hid (∀ W, Below wc.heap.size wc W → FBx W g4 er at1) := fun W hW => hbf.keep hW
  have HRT : Hid (∀ W, Below wc.heap.size wc W → RdT W (treeOf r) (valCells k bits hi lo text more sub ab nb cb ak nk ck)) := fun W hW => (hrd.keep h4c).keep hW
  have HEND : Hid (∀ W, Below wc.heap.size wc W → Below w.heap.size w W) := fun W hW => HBA.out.trans ((HBC.out.trans (hW.mono HBC.out.size)).mono HBA.out.size)
  clear hb4 hb40 h4c hrd hq hfo
  go_upto_region 6 with fail
  rw [← hwc, ← hg4, ← hg3]
  clear hwc hg3 hg4 y0 y1 y2 m0
  obtain ⟨z0, z1, z2, q0, q1, q2, hz1⟩ := hbf
  obtain ⟨f0, f1, f2, f3, f4, f5, f6, f7, f8, l0⟩ := hbv.nine
  obtain ⟨y0, y1, y2, m0⟩ := HLA.out wc HBC.out
  clear q0 q1 q2 hbv
  cases r with
  | error p =>
    obtain ⟨e0, a0⟩ := p
    obtain ⟨rfl, rfl⟩ : e0 = er ∧ a0 = at1 := by have := HFO.out; simpa [fltOf] using this
    have hbd := HQ.out.bad
    have n0 : ((e0 : Int) != 0) = true := by simp; omega
    have n1 : decide (0 ≤ (a0 : Int)) = true := by simp
    have n2 : decide ((a0 : Int) ≤ (n : Int)) = true := by simp; have := HL.out; omega
    have n3 : a0 ≤ n := by have := HL.out; omega
    have CS := Lib.hid (tsame_all 90000 (.mk 0 0 0 0 nt nt 0 [] .nil) (.mk 0 0 0 0 nt nt 0 [] .nil) (by decide))
    have HSM : Hid (sameT (.mk 0 0 0 0 nt nt 0 [] .nil) (.mk 0 0 0 0 nt nt 0 [] .nil) = true) := (same_eq _ _).2 rfl
    clear hbd
    go_wp2_with fail
    refine (CS.out wc _ _ (HRT.out wc (Below.refl _ _)) (zero_rd wc)).mono ?_
    rintro e w6 ⟨rfl, hb6⟩
    rw [HSM.out]
    have HB6 := Lib.hid hb6
    clear hb6 f0 f1 f2 f3 f4 f5 f6 f7 f8 l0 z0 z1 z2 hz1 CS
    go_wp2_with fail
    go_ret
    exact ⟨rfl, HEND.out _ HB6.out⟩
  | ok f =>
    obtain ⟨rfl, rfl⟩ : er = 0 ∧ at1 = 0 := by have := HFO.out; simp [fltOf] at this; omega
    obtain ⟨j1, j2, j3, j4, j5, j6, j7, j8, j9⟩ := HQ.out.just (by rw [HL.out]; omega)
    have hwt : (docT f).wt ≤ 90000 := by rw [HL.out] at j9; omega
    have CK := Lib.hid (fun W (h : RdT W (docT f) (valCells k bits hi lo text more sub ab nb cb ak nk ck)) => rcheck2_calls (docT f) W _ h (by omega))
    have CE := Lib.hid (fun W (h : RdT W (docT f) (valCells k bits hi lo text more sub ab nb cb ak nk ck)) => encode_calls (docT f) W _ h hwt)
    have CF := Lib.hid (fun W (h : RdT W (docT f) (valCells k bits hi lo text more sub ab nb cb ak nk ck)) => rfits_calls (docT f) hwt W _ h d s o)
    have HF0 : Hid (fitsS (docT f) d s o = 0) := by
      show _ = _
      unfold fitsS fitsN
      rw [if_neg (by rw [j1]; simp), if_neg (by simp [docT, T.kind]), if_neg (by omega), if_neg (by omega)]
    have HJ2 := Lib.hid j2
    have HJ3 := Lib.hid j3
    have HJ4 := Lib.hid j4
    clear j1 j2 j3 j4 j5 j6 j7 j8 j9 hwt
    go_wp2_with fail
    refine (CK.out _ (HRT.out _ (Below.refl _ _))).mono ?_
    rintro e w5 ⟨a5, n5, c5, rfl, -, -, -, -, hb5⟩
    rw [HJ2.out]
    have HB5 := Lib.hid hb5
    clear f0 f1 f2 f3 f4 f5 f6 f7 f8 l0 z0 z1 z2 hz1 y0 y1 y2 m0
    obtain ⟨f0, f1, f2, f3, f4, f5, f6, f7, f8, l0⟩ := (HBV.out w5 HB5.out).nine
    clear hb5
    go_wp2_with fail
    refine (CE.out _ (HRT.out _ HB5.out)).mono ?_
    rintro e w6 ⟨a6, n6, c6, aP, nP, cP, rfl, hrd6, hac, hnP, hmP, hrP, hcP, hb6⟩
    rw [HJ3.out]
    rw [HJ4.out] at hrd6
    obtain ⟨wd, hwd⟩ : ∃ W, W = w6.alloc (.cells #[.int .i64 ((0 : Nat) : Int), .int .i64 0, .slice aP nP cP] 34) := ⟨_, rfl⟩
    obtain ⟨g6, hg6⟩ : ∃ g, g = w6.heap.size := ⟨_, rfl⟩
    have h6d : Below w6.heap.size w6 wd := by rw [hwd]; exact (Below.refl _ _).alloc (Nat.le_refl _) _
    have k6 : wd.cell? ⟨g6, 0, none⟩ = some (.int .i64 0) := by rw [hwd, hg6]; simp [go_sem]
    have HB6 : Hid (Below wc.heap.size wc wd) := HB5.out.trans ((hb6.trans (h6d.mono hb6.size)).mono HB5.out.size)
    have HR6 := Lib.hid (hrd6.keep h6d)
    have K6 := Lib.hid k6
    clear f0 f1 f2 f3 f4 f5 f6 f7 f8 l0 hrd6 hac hnP hmP hrP hcP hb6 h6d
    go_upto_region 10 with fail
    simp only [Int.natCast_zero] at hwd
    rw [← hwd, ← hg6]
    clear hwd hg6
    obtain ⟨f0, f1, f2, f3, f4, f5, f6, f7, f8, l0⟩ := (HBV.out wd HB6.out).nine
    obtain ⟨z0, z1, z2, q0, q1, q2, hz1⟩ := HBF.out wd HB6.out
    obtain ⟨y0, y1, y2, m0⟩ := HLA.out wd (HBC.out.trans (HB6.out.mono HBC.out.size))
    clear q0 q1 q2
    go_wp2_with fail
    refine (CF.out _ (HRT.out _ HB6.out)).mono ?_
    rintro e w7 ⟨rfl, hb7⟩
    rw [HF0.out]
    have HB7 : Hid (Below wc.heap.size wc w7) := HB6.out.trans (hb7.mono HB6.out.size)
    have k7 := cell_below hb7 K6.out
    have hcv1 := conv_str (HR6.out.keep hb7) c6
    have hcv2 := conv_str (HRD.out _ (HBC.out.trans (HB7.out.mono HBC.out.size))) c
    clear f0 f1 f2 f3 f4 f5 f6 f7 f8 l0 z0 z1 z2 hz1 y0 y1 y2 m0 k6 hb7
    go_wp2_with fail
    go_ret
    exact ⟨rfl, HEND.out _ HB7.out⟩

end Go.Proofs.Ytkcfkdmffbhljaa
