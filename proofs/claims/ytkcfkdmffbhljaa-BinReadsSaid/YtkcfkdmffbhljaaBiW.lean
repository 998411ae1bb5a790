/- BinWider: the walk. -/
import Derived.Test.YtkcfkdmffbhljaaBiU
import Derived.Test.YtkcfkdmffbhljaaBoS2
import Derived.Test.YtkcfkdmffbhljaaMP
namespace Go.Proofs.Ytkcfkdmffbhljaa
open Go.RowKit
set_option linter.unusedVariables false
set_option linter.unusedSimpArgs false

theorem rdPS_nil2 (S : Nat → Prop) (w : World) : RdPS S w none [] := ⟨fun i hi => absurd hi (Nat.not_lt_zero i), fun h => absurd h (Nat.not_lt_zero 0)⟩
theorem same_flt (e a : Nat) (w : World) : Calls Try.prog 24 #[fltV e a, fltV e a] w fun r w' => r = .returned (.bool true) ∧ Below w.heap.size w w' :=
  same_fault2 (e : Nat) (a : Nat) [] (fun _ => True) (fun _ => True) none none 0 0 0 0 w rfl rfl (by omega) (rdPS_nil2 _ _) (rdPS_nil2 _ _)

set_option maxRecDepth 100000 in
set_option maxHeartbeats 8000000 in
theorem BinWider_walk (w : World) (a : Option Addr) (n c : Nat) (L : List UInt8) (h : RdB w a n L) (hz : a = none → c = 0) (hc : n ≤ c) (d s o d2 s2 o2 : Int) :
    Calls Try.prog 6 #[.slice a n c, .agg (limCells d s o), .agg (limCells d2 s2 o2)] w fun e w' => e = .returned (.bool true) ∧ Below w.heap.size w w' := by
  obtain ⟨wa, hwa⟩ : ∃ W, W = (w.alloc (.cells #[.int .i64 d, .int .i64 s, .int .i64 o] 28)).alloc (.cells #[.int .i64 d2, .int .i64 s2, .int .i64 o2] 28) := ⟨_, rfl⟩
  have hb0 : Below w.heap.size w (w.alloc (.cells #[.int .i64 d, .int .i64 s, .int .i64 o] 28)) := (Below.refl _ _).alloc (Nat.le_refl _) _
  have hba : Below w.heap.size w wa := by rw [hwa]; exact hb0.alloc hb0.size _
  obtain ⟨g1, hg1⟩ : ∃ g, g = w.heap.size + 1 := ⟨_, rfl⟩
  have hla : LBx wa w.heap.size d s o := by rw [hwa]; exact (LBx.new w d s o _).keep ((Below.refl _ _).alloc (Nat.le_refl _) _)
  have hlb : LBx wa g1 d2 s2 o2 := by
    have := LBx.new (w.alloc (.cells #[.int .i64 d, .int .i64 s, .int .i64 o] 28)) d2 s2 o2 28
    rw [hwa, hg1]
    simpa using this
  have HLA : Hid (∀ W, Below wa.heap.size wa W → LBx W w.heap.size d s o) := fun W hW => hla.keep hW
  have HLB : Hid (∀ W, Below wa.heap.size wa W → LBx W g1 d2 s2 o2) := fun W hW => hlb.keep hW
  have HBA := Lib.hid hba
  have HRD : Hid (∀ W, Below wa.heap.size wa W → RdB W a n L) := fun W hW => (h.keep hba).keep hW
  have HL : Hid (L.length = n) := h.1
  have CM := Lib.hid rmay_calls
  obtain ⟨y0, y1, y2, m0⟩ := hla
  obtain ⟨x0, x1, x2, m1⟩ := hlb
  clear hba hb0 h hz
  go_enter Try.func6, Try.ntmps6
  go_upto_region 1 with fail
  rw [← hwa, ← hg1]
  clear hwa hg1
  go_wp2_with fail
  refine (awake21 _).mono ?_
  rintro e w1 ⟨rfl, hb1⟩
  have HB1 := Lib.hid hb1
  clear hb1
  clear y0 y1 y2 m0 x0 x1 x2 m1
  obtain ⟨y0, y1, y2, m0⟩ := HLA.out w1 HB1.out
  obtain ⟨x0, x1, x2, m1⟩ := HLB.out w1 HB1.out
  by_cases hlen : 3000 < n
  · have d0 : decide (3000 < (n : Int)) = true := by simp; omega
    clear hlen
    go_wp2_with fail
    go_ret
    exact ⟨rfl, HBA.out.trans (HB1.out.mono HBA.out.size)⟩
  have d0 : decide (3000 < (n : Int)) = false := by simp; omega
  go_wp2_with fail
  refine (CM.out _ _ _ _).mono ?_
  rintro e w2 ⟨rfl, hb2⟩
  have HB2 : Hid (Below wa.heap.size wa w2) := HB1.out.trans (hb2.mono HB1.out.size)
  clear hb2
  clear y0 y1 y2 m0 x0 x1 x2 m1
  obtain ⟨y0, y1, y2, m0⟩ := HLA.out w2 HB2.out
  obtain ⟨x0, x1, x2, m1⟩ := HLB.out w2 HB2.out
  cases hm1 : mayS d s o with
  | false =>
    go_wp2_with fail
    go_ret
    exact ⟨rfl, HBA.out.trans (HB2.out.mono HBA.out.size)⟩
  | true =>
  have HM1 := Lib.hid hm1
  clear hm1
  go_wp2_with fail
  refine (CM.out _ _ _ _).mono ?_
  rintro e w3 ⟨rfl, hb3⟩
  have HB3 : Hid (Below wa.heap.size wa w3) := HB2.out.trans (hb3.mono HB2.out.size)
  clear hb3
  clear y0 y1 y2 m0 x0 x1 x2 m1
  obtain ⟨y0, y1, y2, m0⟩ := HLA.out w3 HB3.out
  obtain ⟨x0, x1, x2, m1⟩ := HLB.out w3 HB3.out
  cases hm2 : mayS d2 s2 o2 with
  | false =>
    go_wp2_with fail
    go_ret
    exact ⟨rfl, HBA.out.trans (HB3.out.mono HBA.out.size)⟩
  | true =>
  have HM2 := Lib.hid hm2
  clear hm2
  obtain ⟨dm, hdm⟩ : ∃ x, x = max d d2 := ⟨_, rfl⟩
  obtain ⟨sm, hsm⟩ : ∃ x, x = max s s2 := ⟨_, rfl⟩
  obtain ⟨wb, hwb⟩ : ∃ W, W = w3.alloc (.cells #[.int .i64 dm, .int .i64 sm, .int .i64 0] 28) := ⟨_, rfl⟩
  obtain ⟨g2, hg2⟩ : ∃ g, g = w3.heap.size := ⟨_, rfl⟩
  have h3b : Below w3.heap.size w3 wb := by rw [hwb]; exact (Below.refl _ _).alloc (Nat.le_refl _) _
  have hlc : LBx wb g2 dm sm 0 := by rw [hwb, hg2]; exact LBx.new _ _ _ _ _
  have HLC : Hid (∀ W, Below wb.heap.size wb W → LBx W g2 dm sm 0) := fun W hW => hlc.keep hW
  have HBB : Hid (Below wa.heap.size wa wb) := HB3.out.trans (h3b.mono HB3.out.size)
  have HDM := Lib.hid hdm
  have HSM := Lib.hid hsm
  have HHC : Hid (n ≤ c) := hc
  clear h3b hlc hdm hsm
  go_upto_region 6 with fail
  rw [← HDM.out, ← HSM.out, ← hwb, ← hg2]
  clear hwb hg2
  clear y0 y1 y2 m0 x0 x1 x2 m1
  obtain ⟨y0, y1, y2, m0⟩ := HLA.out wb HBB.out
  obtain ⟨x0, x1, x2, m1⟩ := HLB.out wb HBB.out
  go_wp2_with fail
  refine (decU_calls a n c d s o L wb (HRD.out _ HBB.out) HHC.out (by omega)).mono ?_
  rintro e w4 ⟨r, k, bits, hi, lo, text, more, sub, ab, nb, cb, ak, nk, ck, hq, rfl, hrd, hb4⟩
  obtain ⟨er, at1, hfo⟩ : ∃ er a, fltOf r = (er, a) := ⟨_, _, rfl⟩
  rw [hfo]
  have HFO := Lib.hid hfo
  have HQ := Lib.hid hq
  obtain ⟨wc, hwc⟩ : ∃ W, W = (w4.alloc (.cells (valCells k bits hi lo text more sub ab nb cb ak nk ck) 26)).alloc (.cells #[.int .i64 (er : Nat), .int .i64 (at1 : Nat), .slice none 0 0] 34) := ⟨_, rfl⟩
  obtain ⟨g3, hg3⟩ : ∃ g, g = w4.heap.size := ⟨_, rfl⟩
  obtain ⟨g4, hg4⟩ : ∃ g, g = w4.heap.size + 1 := ⟨_, rfl⟩
  have hb40 : Below w4.heap.size w4 (w4.alloc (.cells (valCells k bits hi lo text more sub ab nb cb ak nk ck) 26)) := (Below.refl _ _).alloc (Nat.le_refl _) _
  have h4c : Below w4.heap.size w4 wc := by rw [hwc]; exact hb40.alloc hb40.size _
  have hbv : BoxV wc g3 (valCells k bits hi lo text more sub ab nb cb ak nk ck) := by rw [hwc, hg3]; exact (BoxV.new _ _ _).keep ((Below.refl _ _).alloc (Nat.le_refl _) _)
  have hbf : FBx wc g4 er at1 := by
    have := FBx.new (w4.alloc (.cells (valCells k bits hi lo text more sub ab nb cb ak nk ck) 26)) er at1 34
    rw [hwc, hg4]
    simpa using this
  have HBC : Hid (Below wb.heap.size wb wc) := hb4.trans (h4c.mono hb4.size)
  have HBV : Hid (∀ W, Below wc.heap.size wc W → BoxV W g3 (valCells k bits hi lo text more sub ab nb cb ak nk ck)) := fun W hW => hbv.keep hW
  have HBF : Hid (∀ W, Below wc.heap.size wc W → FBx W g4 er at1) := fun W hW => hbf.keep hW
  have HRT : Hid (∀ W, Below wc.heap.size wc W → RdT W (treeOf r) (valCells k bits hi lo text more sub ab nb cb ak nk ck)) := fun W hW => (hrd.keep h4c).keep hW
  clear hb4 hb40 h4c hbv hbf hrd hq hfo
  go_upto_region 7 with fail
  rw [← hwc, ← hg4, ← hg3]
  clear hwc hg3 hg4
  clear y0 y1 y2 m0 x0 x1 x2 m1
  obtain ⟨y0, y1, y2, m0⟩ := HLC.out wc HBC.out
  go_wp2_with fail
  refine (decU_calls a n c dm sm 0 L wc (HRD.out _ (HBB.out.trans (HBC.out.mono HBB.out.size))) HHC.out (by omega)).mono ?_
  rintro e w5 ⟨x, k2, bits2, hi2, lo2, text2, more2, sub2, ab2, nb2, cb2, ak2, nk2, ck2, hq, rfl, hrd, hb5⟩
  obtain ⟨er2, at2, hfo⟩ : ∃ er a, fltOf x = (er, a) := ⟨_, _, rfl⟩
  rw [hfo]
  have HFO2 := Lib.hid hfo
  have HQ2 := Lib.hid hq
  obtain ⟨wd, hwd⟩ : ∃ W, W = (w5.alloc (.cells (valCells k2 bits2 hi2 lo2 text2 more2 sub2 ab2 nb2 cb2 ak2 nk2 ck2) 26)).alloc (.cells #[.int .i64 (er2 : Nat), .int .i64 (at2 : Nat), .slice none 0 0] 34) := ⟨_, rfl⟩
  obtain ⟨g5, hg5⟩ : ∃ g, g = w5.heap.size := ⟨_, rfl⟩
  obtain ⟨g6, hg6⟩ : ∃ g, g = w5.heap.size + 1 := ⟨_, rfl⟩
  have hb50 : Below w5.heap.size w5 (w5.alloc (.cells (valCells k2 bits2 hi2 lo2 text2 more2 sub2 ab2 nb2 cb2 ak2 nk2 ck2) 26)) := (Below.refl _ _).alloc (Nat.le_refl _) _
  have h5d : Below w5.heap.size w5 wd := by rw [hwd]; exact hb50.alloc hb50.size _
  have hbv : BoxV wd g5 (valCells k2 bits2 hi2 lo2 text2 more2 sub2 ab2 nb2 cb2 ak2 nk2 ck2) := by rw [hwd, hg5]; exact (BoxV.new _ _ _).keep ((Below.refl _ _).alloc (Nat.le_refl _) _)
  have hbf : FBx wd g6 er2 at2 := by
    have := FBx.new (w5.alloc (.cells (valCells k2 bits2 hi2 lo2 text2 more2 sub2 ab2 nb2 cb2 ak2 nk2 ck2) 26)) er2 at2 34
    rw [hwd, hg6]
    simpa using this
  have HBD : Hid (Below wc.heap.size wc wd) := hb5.trans (h5d.mono hb5.size)
  have hrt2 : RdT wd (treeOf x) (valCells k2 bits2 hi2 lo2 text2 more2 sub2 ab2 nb2 cb2 ak2 nk2 ck2) := hrd.keep h5d
  have HRT2 := Lib.hid hrt2
  have HEND : Hid (Below w.heap.size w wd) := HBA.out.trans ((HBB.out.trans ((HBC.out.trans (HBD.out.mono HBC.out.size)).mono HBB.out.size)).mono HBA.out.size)
  clear hb5 hb50 h5d hrd hq hfo hrt2
  go_upto_region 8 with fail
  rw [← hwd, ← hg6, ← hg5]
  clear hwd hg5 hg6 y0 y1 y2 m0
  have hw := HQ.out.wide HM1.out HM2.out (by rw [← HDM.out, ← HSM.out]; exact HQ2.out)
  obtain ⟨z0, z1, z2, q0, q1, q2, hz1⟩ := HBF.out wd HBD.out
  obtain ⟨u0, u1, u2, p0, p1, p2, hu1⟩ := hbf
  clear q0 q1 q2 p0 p1 p2
  cases r with
  | ok f =>
    obtain rfl := hw.1 f rfl
    have hj := HQ.out.just (by rw [HL.out]; omega)
    have hwt : (docT f).wt ≤ 90000 := by have := hj.2.2.2.2.2.2.2.2; rw [HL.out] at this; omega
    have CS := Lib.hid (tsame_all 90000 (docT f) (docT f) hwt)
    have HSM2 : Hid (sameT (docT f) (docT f) = true) := (same_eq _ _).2 rfl
    obtain ⟨rfl, rfl⟩ : er = 0 ∧ at1 = 0 := by have := HFO.out; simp [fltOf] at this; omega
    obtain ⟨rfl, rfl⟩ : er2 = 0 ∧ at2 = 0 := by have := HFO2.out; simp [fltOf] at this; omega
    clear hj hwt hw
    obtain ⟨f0, f1, f2, f3, f4, f5, f6, f7, f8, l0⟩ := (HBV.out wd HBD.out).nine
    obtain ⟨e0, e1, e2, e3, e4, e5, e6, e7, e8, l1⟩ := hbv.nine
    clear hbv
    go_wp2_with fail
    refine (CS.out wd _ _ (HRT.out wd HBD.out) HRT2.out).mono ?_
    rintro e w6 ⟨rfl, hb6⟩
    rw [HSM2.out]
    have HB6 := Lib.hid hb6
    clear hb6 f0 f1 f2 f3 f4 f5 f6 f7 f8 l0 e0 e1 e2 e3 e4 e5 e6 e7 e8 l1 z0 z1 z2 hz1 u0 u1 u2 hu1 CS
    go_wp2_with fail
    go_ret
    exact ⟨rfl, HEND.out.trans (HB6.out.mono HEND.out.size)⟩
  | error p =>
    obtain ⟨e0, a0⟩ := p
    obtain ⟨rfl, rfl⟩ : e0 = er ∧ a0 = at1 := by have := HFO.out; simpa [fltOf] using this
    have hbd := HQ.out.bad
    have n0 : ((e0 : Int) == 0) = false := by simp; omega
    by_cases h8 : e0 = 8
    · subst h8
      clear hbd hw
      go_wp2_with fail
      go_ret
      exact ⟨rfl, HEND.out⟩
    · have n8 : ((e0 : Int) == 8) = false := by simp; omega
      by_cases h9 : e0 = 9
      · subst h9
        clear hbd hw h8
        go_wp2_with fail
        go_ret
        exact ⟨rfl, HEND.out⟩
      · have n9 : ((e0 : Int) == 9) = false := by simp; omega
        obtain rfl := hw.2 e0 a0 rfl h8 h9
        obtain ⟨rfl, rfl⟩ : e0 = er2 ∧ a0 = at2 := by have := HFO2.out; simpa [fltOf] using this
        clear hbd hw h8 h9
        go_wp2_with fail
        refine (same_flt _ _ _).mono ?_
        rintro e w6 ⟨rfl, hb6⟩
        have HB6 := Lib.hid hb6
        clear hb6
        go_wp2_with fail
        go_ret
        exact ⟨rfl, HEND.out.trans (HB6.out.mono HEND.out.size)⟩

end Go.Proofs.Ytkcfkdmffbhljaa
