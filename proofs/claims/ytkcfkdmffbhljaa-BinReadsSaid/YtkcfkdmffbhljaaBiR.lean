/- BinReads: the walk. -/
import Derived.Test.YtkcfkdmffbhljaaBiW
import Derived.Test.YtkcfkdmffbhljaaRbG
import Derived.Deep.RegionHeld3
namespace Go.Proofs.Ytkcfkdmffbhljaa
open Go.RowKit
set_option linter.unusedVariables false
set_option linter.unusedSimpArgs false

theorem decO_U {d s o : Int} {L : List UInt8} {w w' : World} {e : Ending} (h : DecO d s o L w e w') : DecU d s o L w e w' := by
  obtain ⟨r, hq, hout, hb⟩ := h
  cases r with
  | error p => exact ⟨.error p, 0, 0, 0, 0, ⟨#[]⟩, ⟨#[]⟩, 0, none, 0, 0, none, 0, 0, hq, hout, zero_rd w', hb⟩
  | ok f =>
    obtain ⟨c, rfl, hrd⟩ := hout
    have hrd2 : RdT w' (docT f) c := hrd.rd
    obtain ⟨ab2, nb2, cb2, ak2, nk2, ck2, rfl, -⟩ := hrd
    exact ⟨.ok f, 3, 0, 0, 0, nt, nt, 0, ab2, nb2, cb2, ak2, nk2, ck2, hq, rfl, hrd2, hb⟩
theorem below_then3 {a b c : World} (h : Below a.heap.size a b) (g : Below b.heap.size b c) : Below a.heap.size a c := h.trans (g.mono h.size)
theorem wt_treeOf {d s o : Int} {L : List UInt8} {r : Except (Nat × Nat) F} (h : DecQ d s o L r) (hl : L.length ≤ 3000) : (treeOf r).wt ≤ 90000 := by
  cases r with
  | error p => show T.wt (.mk 0 0 0 0 nt nt 0 [] .nil) ≤ 90000; decide
  | ok f => have := (h.just (by omega)).2.2.2.2.2.2.2.2; show (docT f).wt ≤ _; omega

set_option maxRecDepth 100000 in
set_option maxHeartbeats 16000000 in
theorem BinReads_walk (w : World) (a : Option Addr) (n c : Nat) (L : List UInt8) (h : RdB w a n L) (hz : a = none → c = 0) (hc : n ≤ c) (d s o : Int) :
    Calls Try.prog 7 #[.slice a n c, .agg (limCells d s o)] w fun e w' => e = .returned (.bool true) ∧ Below w.heap.size w w' := by
  obtain ⟨wa, hwa⟩ : ∃ W, W = w.alloc (.cells #[.int .i64 d, .int .i64 s, .int .i64 o] 28) := ⟨_, rfl⟩
  have hba : Below w.heap.size w wa := by rw [hwa]; exact (Below.refl _ _).alloc (Nat.le_refl _) _
  have hla : LBx wa w.heap.size d s o := by rw [hwa]; exact LBx.new w d s o _
  have HLA : Hid (∀ W, Below wa.heap.size wa W → LBx W w.heap.size d s o) := fun W hW => hla.keep hW
  have HBA := Lib.hid hba
  have HRD : Hid (∀ W, Below wa.heap.size wa W → RdB W a n L) := fun W hW => (h.keep hba).keep hW
  have HL : Hid (L.length = n) := h.1
  have HHC : Hid (n ≤ c) := hc
  obtain ⟨y0, y1, y2, m0⟩ := hla
  clear hba h hz
  go_enter Try.func7, Try.ntmps7
  go_upto_region 1 with fail
  rw [← hwa]
  clear hwa
  go_wp2_with fail
  refine (awake21 _).mono ?_
  rintro e w1 ⟨rfl, hb1⟩
  have HB1 := Lib.hid hb1
  clear hb1 y0 y1 y2 m0
  obtain ⟨y0, y1, y2, m0⟩ := HLA.out w1 HB1.out
  by_cases hlen : 3000 < n
  · have d0 : decide (3000 < (n : Int)) = true := by simp; omega
    clear hlen
    go_wp2_with fail
    go_ret
    exact ⟨rfl, HBA.out.trans (HB1.out.mono HBA.out.size)⟩
  have d0 : decide (3000 < (n : Int)) = false := by simp; omega
  go_wp2_with fail
  refine (decU_calls a n c d s o L w1 (HRD.out _ HB1.out) HHC.out (by omega)).mono ?_
  rintro e w4 ⟨r, k, bits, hi, lo, text, more, sub, ab, nb, cb, ak, nk, ck, hq, rfl, hrd, hb4⟩
  obtain ⟨er, at1, hfo⟩ : ∃ er a, fltOf r = (er, a) := ⟨_, _, rfl⟩
  rw [hfo]
  have HFO1 := Lib.hid hfo
  have HQ1 := Lib.hid hq
  obtain ⟨wc, hwn⟩ : ∃ W, W = (w4.alloc (.cells (valCells k bits hi lo text more sub ab nb cb ak nk ck) 26)).alloc (.cells #[.int .i64 (er : Nat), .int .i64 (at1 : Nat), .slice none 0 0] 34) := ⟨_, rfl⟩
  obtain ⟨g3, hgv⟩ : ∃ g, g = w4.heap.size := ⟨_, rfl⟩
  obtain ⟨g4, hgf⟩ : ∃ g, g = w4.heap.size + 1 := ⟨_, rfl⟩
  have hb40 : Below w4.heap.size w4 (w4.alloc (.cells (valCells k bits hi lo text more sub ab nb cb ak nk ck) 26)) := (Below.refl _ _).alloc (Nat.le_refl _) _
  have h4c : Below w4.heap.size w4 wc := by rw [hwn]; exact hb40.alloc hb40.size _
  have hbv : BoxV wc g3 (valCells k bits hi lo text more sub ab nb cb ak nk ck) := by rw [hwn, hgv]; exact (BoxV.new _ _ _).keep ((Below.refl _ _).alloc (Nat.le_refl _) _)
  have hbf : FBx wc g4 er at1 := by
    have := FBx.new (w4.alloc (.cells (valCells k bits hi lo text more sub ab nb cb ak nk ck) 26)) er at1 34
    rw [hwn, hgf]
    simpa using this
  have HBV1 : Hid (∀ W, Below wc.heap.size wc W → BoxV W g3 (valCells k bits hi lo text more sub ab nb cb ak nk ck)) := fun W hW => hbv.keep hW
  have HBF1 : Hid (∀ W, Below wc.heap.size wc W → FBx W g4 er at1) := fun W hW => hbf.keep hW
  have HRT1 : Hid (∀ W, Below wc.heap.size wc W → RdT W (treeOf r) (valCells k bits hi lo text more sub ab nb cb ak nk ck)) := fun W hW => (hrd.keep h4c).keep hW
  have HBC : Hid (Below wa.heap.size wa wc) := HB1.out.trans ((hb4.trans (h4c.mono hb4.size)).mono HB1.out.size)
  clear hb4 hb40 h4c hrd hq hfo hbv hbf y0 y1 y2 m0
  go_upto_region 6 with fail
  rw [← hwn, ← hgf, ← hgv]
  clear hwn hgf hgv
  obtain ⟨y0, y1, y2, m0⟩ := HLA.out wc HBC.out
  go_wp2_with fail
  refine (Calls.mono (rdecode_calls a n c d s o L wc (HRD.out _ HBC.out) HHC.out (by omega)) (fun _ _ => decO_U)).mono ?_
  rintro e w5 ⟨x, k2, bits2, hi2, lo2, text2, more2, sub2, ab2, nb2, cb2, ak2, nk2, ck2, hq, rfl, hrd, hb5⟩
  obtain rfl := HQ1.out.one hq
  rw [HFO1.out]
  obtain ⟨wd, hwn⟩ : ∃ W, W = (w5.alloc (.cells (valCells k2 bits2 hi2 lo2 text2 more2 sub2 ab2 nb2 cb2 ak2 nk2 ck2) 26)).alloc (.cells #[.int .i64 (er : Nat), .int .i64 (at1 : Nat), .slice none 0 0] 34) := ⟨_, rfl⟩
  obtain ⟨g5, hgv⟩ : ∃ g, g = w5.heap.size := ⟨_, rfl⟩
  obtain ⟨g6, hgf⟩ : ∃ g, g = w5.heap.size + 1 := ⟨_, rfl⟩
  have hb50 : Below w5.heap.size w5 (w5.alloc (.cells (valCells k2 bits2 hi2 lo2 text2 more2 sub2 ab2 nb2 cb2 ak2 nk2 ck2) 26)) := (Below.refl _ _).alloc (Nat.le_refl _) _
  have h5d : Below w5.heap.size w5 wd := by rw [hwn]; exact hb50.alloc hb50.size _
  have hbv : BoxV wd g5 (valCells k2 bits2 hi2 lo2 text2 more2 sub2 ab2 nb2 cb2 ak2 nk2 ck2) := by rw [hwn, hgv]; exact (BoxV.new _ _ _).keep ((Below.refl _ _).alloc (Nat.le_refl _) _)
  have hbf : FBx wd g6 er at1 := by
    have := FBx.new (w5.alloc (.cells (valCells k2 bits2 hi2 lo2 text2 more2 sub2 ab2 nb2 cb2 ak2 nk2 ck2) 26)) er at1 34
    rw [hwn, hgf]
    simpa using this
  have HCD : Hid (Below wc.heap.size wc wd) := hb5.trans (h5d.mono hb5.size)
  have HBD : Hid (Below wa.heap.size wa wd) := HBC.out.trans (HCD.out.mono HBC.out.size)
  have HBV2 : Hid (∀ W, Below wd.heap.size wd W → BoxV W g5 (valCells k2 bits2 hi2 lo2 text2 more2 sub2 ab2 nb2 cb2 ak2 nk2 ck2)) := fun W hW => hbv.keep hW
  have HBF2 : Hid (∀ W, Below wd.heap.size wd W → FBx W g6 er at1) := fun W hW => hbf.keep hW
  have HRT2 : Hid (∀ W, Below wd.heap.size wd W → RdT W (treeOf r) (valCells k2 bits2 hi2 lo2 text2 more2 sub2 ab2 nb2 cb2 ak2 nk2 ck2)) := fun W hW => (hrd.keep h5d).keep hW
  have CS := Lib.hid (fun W (hW : Below wd.heap.size wd W) => tsame_all 90000 (treeOf r) (treeOf r) (wt_treeOf HQ1.out (by rw [HL.out]; omega)) W _ _ (HRT1.out W (HCD.out.trans (hW.mono HCD.out.size))) (HRT2.out W hW))
  have HSM : sameT (treeOf r) (treeOf r) = true := (same_eq _ _).2 rfl
  rw [HSM] at CS
  have CV : Hid (∀ W, Below wd.heap.size wd W → Calls Try.prog 26 #[.slice a n c, .agg #[.int .i64 d, .int .i64 s, .int .i64 o]] W fun e w' => e = .returned (.agg #[.int .i64 (er : Nat), .int .i64 (at1 : Nat), .slice none 0 0]) ∧ Below W.heap.size W w') := by
    show ∀ W, _
    intro W hW
    refine (valid_calls a n c d s o L W (HRD.out _ (HBD.out.trans (hW.mono HBD.out.size))) HHC.out (by omega)).mono ?_
    rintro e w' ⟨y, hq2, rfl, hb⟩
    obtain rfl := HQ1.out.one hq2
    exact ⟨by rw [HFO1.out], hb⟩
  have CF : Hid (∀ W, Calls Try.prog 24 #[.agg #[.int .i64 (er : Nat), .int .i64 (at1 : Nat), .slice none 0 0], .agg #[.int .i64 (er : Nat), .int .i64 (at1 : Nat), .slice none 0 0]] W fun r w' => r = .returned (.bool true) ∧ Below W.heap.size W w') := fun W => same_flt er at1 W
  have HEND : Hid (∀ W, Below wd.heap.size wd W → Below w.heap.size w W) := fun W hW => HBA.out.trans ((HBD.out.trans (hW.mono HBD.out.size)).mono HBA.out.size)
  have HKS : Hid (∀ W, Below wd.heap.size wd W → Hid (Below wd.heap.size wd W) ∧ W.cell? ⟨g3, 0, none⟩ = some (.int .i64 k) ∧ W.cell? ⟨g3, 1, none⟩ = some (.int .u64 (bits : Nat)) ∧ W.cell? ⟨g3, 2, none⟩ = some (.int .u64 (hi : Nat)) ∧ W.cell? ⟨g3, 3, none⟩ = some (.int .u64 (lo : Nat)) ∧ W.cell? ⟨g3, 4, none⟩ = some (.string text) ∧ W.cell? ⟨g3, 5, none⟩ = some (.string more) ∧ W.cell? ⟨g3, 6, none⟩ = some (.int .i64 sub) ∧ W.cell? ⟨g3, 7, none⟩ = some (.slice ab nb cb) ∧ W.cell? ⟨g3, 8, none⟩ = some (.slice ak nk ck) ∧ W.cell? ⟨g4, 0, none⟩ = some (.int .i64 (er : Nat)) ∧ W.cell? ⟨g4, 1, none⟩ = some (.int .i64 (at1 : Nat)) ∧ W.cell? ⟨g4, 2, none⟩ = some (.slice none 0 0) ∧ W.cell? ⟨g5, 0, none⟩ = some (.int .i64 k2) ∧ W.cell? ⟨g5, 1, none⟩ = some (.int .u64 (bits2 : Nat)) ∧ W.cell? ⟨g5, 2, none⟩ = some (.int .u64 (hi2 : Nat)) ∧ W.cell? ⟨g5, 3, none⟩ = some (.int .u64 (lo2 : Nat)) ∧ W.cell? ⟨g5, 4, none⟩ = some (.string text2) ∧ W.cell? ⟨g5, 5, none⟩ = some (.string more2) ∧ W.cell? ⟨g5, 6, none⟩ = some (.int .i64 sub2) ∧ W.cell? ⟨g5, 7, none⟩ = some (.slice ab2 nb2 cb2) ∧ W.cell? ⟨g5, 8, none⟩ = some (.slice ak2 nk2 ck2) ∧ W.cell? ⟨g6, 0, none⟩ = some (.int .i64 (er : Nat)) ∧ W.cell? ⟨g6, 1, none⟩ = some (.int .i64 (at1 : Nat)) ∧ W.cell? ⟨g6, 2, none⟩ = some (.slice none 0 0) ∧ W.cell? ⟨w.heap.size, 0, none⟩ = some (.int .i64 d) ∧ W.cell? ⟨w.heap.size, 1, none⟩ = some (.int .i64 s) ∧ W.cell? ⟨w.heap.size, 2, none⟩ = some (.int .i64 o)) := by
    show ∀ W, _
    intro W hW
    have hW2 := HCD.out.trans (hW.mono HCD.out.size)
    obtain ⟨f0, f1, f2, f3, f4, f5, f6, f7, f8, l0⟩ := (HBV1.out W hW2).nine
    obtain ⟨e0, e1, e2, e3, e4, e5, e6, e7, e8, l1⟩ := (HBV2.out W hW).nine
    obtain ⟨z0, z1, z2, q0, q1, q2, hg1⟩ := HBF1.out W hW2
    obtain ⟨x0, x1, x2, p0, p1, p2, hg2⟩ := HBF2.out W hW
    obtain ⟨y0, y1, y2, m0⟩ := HLA.out W (HBD.out.trans (hW.mono HBD.out.size))
    exact ⟨hW, f0, f1, f2, f3, f4, f5, f6, f7, f8, z0, z1, z2, e0, e1, e2, e3, e4, e5, e6, e7, e8, x0, x1, x2, y0, y1, y2⟩
  clear hb5 hb50 h5d hrd hq hbv hbf y0 y1 y2 m0 HSM
  go_upto_region 7 with fail
  rw [← hwn, ← hgf, ← hgv]
  clear hwn hgf hgv
  have hx0 : Below wd.heap.size wd wd := Below.refl _ _
  obtain ⟨-, f0, f1, f2, f3, f4, f5, f6, f7, f8, z0, z1, z2, e0, e1, e2, e3, e4, e5, e6, e7, e8, x0, x1, x2, y0, y1, y2⟩ := HKS.out wd hx0
  go_region_held3 (fun W => Hid (Below wd.heap.size wd W) ∧ W.cell? ⟨g3, 0, none⟩ = some (.int .i64 k) ∧ W.cell? ⟨g3, 1, none⟩ = some (.int .u64 (bits : Nat)) ∧ W.cell? ⟨g3, 2, none⟩ = some (.int .u64 (hi : Nat)) ∧ W.cell? ⟨g3, 3, none⟩ = some (.int .u64 (lo : Nat)) ∧ W.cell? ⟨g3, 4, none⟩ = some (.string text) ∧ W.cell? ⟨g3, 5, none⟩ = some (.string more) ∧ W.cell? ⟨g3, 6, none⟩ = some (.int .i64 sub) ∧ W.cell? ⟨g3, 7, none⟩ = some (.slice ab nb cb) ∧ W.cell? ⟨g3, 8, none⟩ = some (.slice ak nk ck) ∧ W.cell? ⟨g4, 0, none⟩ = some (.int .i64 (er : Nat)) ∧ W.cell? ⟨g4, 1, none⟩ = some (.int .i64 (at1 : Nat)) ∧ W.cell? ⟨g4, 2, none⟩ = some (.slice none 0 0) ∧ W.cell? ⟨g5, 0, none⟩ = some (.int .i64 k2) ∧ W.cell? ⟨g5, 1, none⟩ = some (.int .u64 (bits2 : Nat)) ∧ W.cell? ⟨g5, 2, none⟩ = some (.int .u64 (hi2 : Nat)) ∧ W.cell? ⟨g5, 3, none⟩ = some (.int .u64 (lo2 : Nat)) ∧ W.cell? ⟨g5, 4, none⟩ = some (.string text2) ∧ W.cell? ⟨g5, 5, none⟩ = some (.string more2) ∧ W.cell? ⟨g5, 6, none⟩ = some (.int .i64 sub2) ∧ W.cell? ⟨g5, 7, none⟩ = some (.slice ab2 nb2 cb2) ∧ W.cell? ⟨g5, 8, none⟩ = some (.slice ak2 nk2 ck2) ∧ W.cell? ⟨g6, 0, none⟩ = some (.int .i64 (er : Nat)) ∧ W.cell? ⟨g6, 1, none⟩ = some (.int .i64 (at1 : Nat)) ∧ W.cell? ⟨g6, 2, none⟩ = some (.slice none 0 0) ∧ W.cell? ⟨w.heap.size, 0, none⟩ = some (.int .i64 d) ∧ W.cell? ⟨w.heap.size, 1, none⟩ = some (.int .i64 s) ∧ W.cell? ⟨w.heap.size, 2, none⟩ = some (.int .i64 o)) ((refine HKS.out _ ?_; (repeat' (first | with_reducible assumption | with_reducible refine Below.drew ?_ | with_reducible exact Below.refl _ _))))
    ((first
      | (go_at_call 24; (with_reducible refine (CF.out _).mono ?_); rintro e w9 ⟨rfl, hb9⟩; have hx9 := below_then3 (a := wd) (by (repeat' (first | with_reducible assumption | with_reducible refine Below.drew ?_ | with_reducible exact Below.refl _ _))) hb9; clear hb9)
      | (go_at_call 18; (with_reducible refine (CS.out _ ?_).mono ?_); (case _ => (repeat' (first | with_reducible assumption | with_reducible refine Below.drew ?_ | with_reducible exact Below.refl _ _))); rintro e w10 ⟨rfl, hb9⟩; have hx10 := below_then3 (a := wd) (by (repeat' (first | with_reducible assumption | with_reducible refine Below.drew ?_ | with_reducible exact Below.refl _ _))) hb9; clear hb9)
      | (go_at_call 26; (with_reducible refine (CV.out _ ?_).mono ?_); (case _ => (repeat' (first | with_reducible assumption | with_reducible refine Below.drew ?_ | with_reducible exact Below.refl _ _))); rintro e w11 ⟨rfl, hb9⟩; have hx11 := below_then3 (a := wd) (by (repeat' (first | with_reducible assumption | with_reducible refine Below.drew ?_ | with_reducible exact Below.refl _ _))) hb9; clear hb9)
      | fail))
  all_goals
    have hfin := HEND.out _ (‹Hid (Below wd.heap.size wd _) ∧ _›).1.out
    go_wp2_with fail
    go_ret
    exact ⟨rfl, hfin⟩

end Go.Proofs.Ytkcfkdmffbhljaa
