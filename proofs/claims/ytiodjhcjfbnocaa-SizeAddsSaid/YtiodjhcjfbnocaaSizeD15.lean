/- SizeAdds: the walk, at one Kind. -/
import Derived.Test.YtiodjhcjfbnocaaSizeC
namespace Go.Proofs.Ytiodjhcjfbnocaa
open Go.RowKit
set_option linter.unusedVariables false
set_option linter.unusedSimpArgs false

set_option maxRecDepth 100000 in
set_option maxHeartbeats 4000000 in
theorem SizeAdds_core15 (w : World) (c : Array Value) (t : T) (h : RdT w t c) (nm : ByteArray) (hnm : nm.size ≤ 1000) (c' : Array Value) (t' : T) (h' : RdT w t' c') (hs : smallT t = true) (hs' : smallT t' = true) (hk : t.kind = 15) :
    Calls Try.prog 3 #[.agg c, .agg (#[.string nm] ++ c')] w fun e w' => e = .returned (.bool true) ∧ Below w.heap.size w w' := by
  have H := Lib.hid h
  have H' := Lib.hid h'
  have HWt := Lib.hid (wt_small hs)
  have HWt' := Lib.hid (wt_small hs')
  have CS := Lib.hid (fun W c h => small_calls t W c h)
  have CS' := Lib.hid (fun W c h => small_calls t' W c h)
  rw [hs] at CS
  rw [hs'] at CS'
  obtain ⟨k, bits, hi, lo, text, more, sub, bs, kids⟩ := t
  obtain ⟨ab, nb, cb, ak, nk, ck, rfl, _⟩ := h
  obtain ⟨k', bits', hi', lo', text', more', sub', bs', kids'⟩ := t'
  obtain ⟨ab', nb', cb', ak', nk', ck', rfl, _⟩ := h'
  simp only [T.kind] at hk
  subst hk
  clear hs hs'
  go_enter Try.func3, Try.ntmps3
  go_wp2_with fail
  refine (awake19 _).mono ?_
  rintro e w1 ⟨rfl, hb1⟩
  have h1 := (((Below.refl w.heap.size w).alloc (Nat.le_refl _) (.cells (valCells _ bits hi lo text more sub ab nb cb ak nk ck) 26)).alloc (by simp) (.cells (#[.string nm] ++ (valCells k' bits' hi' lo' text' more' sub' ab' nb' cb' ak' nk' ck')) 28)).trans (hb1.mono (by simp; omega))
  have H1 := Lib.hid h1
  have c0 := fun (j : Nat) => hb1.cell (p := ⟨w.heap.size, j, none⟩) (by simp; omega)
  have c1 := fun (j : Nat) => hb1.cell (p := ⟨w.heap.size + 1, j, none⟩) (by simp)
  simp [go_sem, valCells] at c0 c1
  have d0 := c0 0
  have d1 := c0 1
  have d2 := c0 2
  have d3 := c0 3
  have d4 := c0 4
  have d5 := c0 5
  have d6 := c0 6
  have d7 := c0 7
  have d8 := c0 8
  have x0 := c1 0
  have x1 := c1 1
  have x2 := c1 2
  have x3 := c1 3
  have x4 := c1 4
  have x5 := c1 5
  have x6 := c1 6
  have x7 := c1 7
  have x8 := c1 8
  have x9 := c1 9
  simp at d0 d1 d2 d3 d4 d5 d6 d7 d8 x0 x1 x2 x3 x4 x5 x6 x7 x8 x9
  clear c0 c1 hb1 h1
  go_wp2_with fail
  refine (CS.out _ _ (H.out.keep H1.out)).mono ?_
  rintro e w2 ⟨rfl, hb2⟩
  have HB2 := Lib.hid (H1.out.trans (hb2.mono H1.out.size))
  have d0 := cell_below hb2 d0
  have d1 := cell_below hb2 d1
  have d2 := cell_below hb2 d2
  have d3 := cell_below hb2 d3
  have d4 := cell_below hb2 d4
  have d5 := cell_below hb2 d5
  have d6 := cell_below hb2 d6
  have d7 := cell_below hb2 d7
  have d8 := cell_below hb2 d8
  have x0 := cell_below hb2 x0
  have x1 := cell_below hb2 x1
  have x2 := cell_below hb2 x2
  have x3 := cell_below hb2 x3
  have x4 := cell_below hb2 x4
  have x5 := cell_below hb2 x5
  have x6 := cell_below hb2 x6
  have x7 := cell_below hb2 x7
  have x8 := cell_below hb2 x8
  have x9 := cell_below hb2 x9
  clear hb2 H1
  go_wp2_with fail
  refine (CS'.out _ _ (H'.out.keep HB2.out)).mono ?_
  rintro e w3 ⟨rfl, hb3⟩
  have HB3 := Lib.hid (HB2.out.trans (hb3.mono HB2.out.size))
  have hs3 := HB3.out.size
  have d0 := cell_below hb3 d0
  have d1 := cell_below hb3 d1
  have d2 := cell_below hb3 d2
  have d3 := cell_below hb3 d3
  have d4 := cell_below hb3 d4
  have d5 := cell_below hb3 d5
  have d6 := cell_below hb3 d6
  have d7 := cell_below hb3 d7
  have d8 := cell_below hb3 d8
  have x0 := cell_below hb3 x0
  have x1 := cell_below hb3 x1
  have x2 := cell_below hb3 x2
  have x3 := cell_below hb3 x3
  have x4 := cell_below hb3 x4
  have x5 := cell_below hb3 x5
  have x6 := cell_below hb3 x6
  have x7 := cell_below hb3 x7
  have x8 := cell_below hb3 x8
  have x9 := cell_below hb3 x9
  have hw4 : w.heap.size + 1 < w3.heap.size := by simpa using cell_block x0
  clear hb3 HB2
  go_wp2_with fail
  have y0 : (w3.alloc (.cells #[.int .i64 15, .int .u64 (bits : Nat), .int .u64 (hi : Nat), .int .u64 (lo : Nat), .string text, .string more, .int .i64 sub, .slice ab nb cb, .slice ak nk ck] 26)).cell? ⟨w3.heap.size, 0, none⟩ = some (.int .i64 15) := by simp [go_sem, valCells]
  have y1 : (w3.alloc (.cells #[.int .i64 15, .int .u64 (bits : Nat), .int .u64 (hi : Nat), .int .u64 (lo : Nat), .string text, .string more, .int .i64 sub, .slice ab nb cb, .slice ak nk ck] 26)).cell? ⟨w3.heap.size, 1, none⟩ = some (.int .u64 (bits : Nat)) := by simp [go_sem, valCells]
  have y2 : (w3.alloc (.cells #[.int .i64 15, .int .u64 (bits : Nat), .int .u64 (hi : Nat), .int .u64 (lo : Nat), .string text, .string more, .int .i64 sub, .slice ab nb cb, .slice ak nk ck] 26)).cell? ⟨w3.heap.size, 2, none⟩ = some (.int .u64 (hi : Nat)) := by simp [go_sem, valCells]
  have y3 : (w3.alloc (.cells #[.int .i64 15, .int .u64 (bits : Nat), .int .u64 (hi : Nat), .int .u64 (lo : Nat), .string text, .string more, .int .i64 sub, .slice ab nb cb, .slice ak nk ck] 26)).cell? ⟨w3.heap.size, 3, none⟩ = some (.int .u64 (lo : Nat)) := by simp [go_sem, valCells]
  have y4 : (w3.alloc (.cells #[.int .i64 15, .int .u64 (bits : Nat), .int .u64 (hi : Nat), .int .u64 (lo : Nat), .string text, .string more, .int .i64 sub, .slice ab nb cb, .slice ak nk ck] 26)).cell? ⟨w3.heap.size, 4, none⟩ = some (.string text) := by simp [go_sem, valCells]
  have y5 : (w3.alloc (.cells #[.int .i64 15, .int .u64 (bits : Nat), .int .u64 (hi : Nat), .int .u64 (lo : Nat), .string text, .string more, .int .i64 sub, .slice ab nb cb, .slice ak nk ck] 26)).cell? ⟨w3.heap.size, 5, none⟩ = some (.string more) := by simp [go_sem, valCells]
  have y6 : (w3.alloc (.cells #[.int .i64 15, .int .u64 (bits : Nat), .int .u64 (hi : Nat), .int .u64 (lo : Nat), .string text, .string more, .int .i64 sub, .slice ab nb cb, .slice ak nk ck] 26)).cell? ⟨w3.heap.size, 6, none⟩ = some (.int .i64 sub) := by simp [go_sem, valCells]
  have y7 : (w3.alloc (.cells #[.int .i64 15, .int .u64 (bits : Nat), .int .u64 (hi : Nat), .int .u64 (lo : Nat), .string text, .string more, .int .i64 sub, .slice ab nb cb, .slice ak nk ck] 26)).cell? ⟨w3.heap.size, 7, none⟩ = some (.slice ab nb cb) := by simp [go_sem, valCells]
  have hb4 : Below w3.heap.size w3 (w3.alloc (.cells #[.int .i64 15, .int .u64 (bits : Nat), .int .u64 (hi : Nat), .int .u64 (lo : Nat), .string text, .string more, .int .i64 sub, .slice ab nb cb, .slice ak nk ck] 26)) := (Below.refl _ _).alloc (Nat.le_refl _) _
  have hz4 : (w3.alloc (.cells #[.int .i64 15, .int .u64 (bits : Nat), .int .u64 (hi : Nat), .int .u64 (lo : Nat), .string text, .string more, .int .i64 sub, .slice ab nb cb, .slice ak nk ck] 26)).heap.size = w3.heap.size + 1 := by simp
  have HB4 := Lib.hid (HB3.out.trans (hb4.mono hs3))
  have d0 := cell_below hb4 d0
  have d1 := cell_below hb4 d1
  have d2 := cell_below hb4 d2
  have d3 := cell_below hb4 d3
  have d4 := cell_below hb4 d4
  have d5 := cell_below hb4 d5
  have d6 := cell_below hb4 d6
  have d7 := cell_below hb4 d7
  have d8 := cell_below hb4 d8
  have x0 := cell_below hb4 x0
  have x1 := cell_below hb4 x1
  have x2 := cell_below hb4 x2
  have x3 := cell_below hb4 x3
  have x4 := cell_below hb4 x4
  have x5 := cell_below hb4 x5
  have x6 := cell_below hb4 x6
  have x7 := cell_below hb4 x7
  have x8 := cell_below hb4 x8
  have x9 := cell_below hb4 x9
  clear hb4
  have hfz : (w3.alloc (.cells #[.int .i64 15, .int .u64 (bits : Nat), .int .u64 (hi : Nat), .int .u64 (lo : Nat), .string text, .string more, .int .i64 sub, .slice ab nb cb, .slice ak nk ck] 26)).frozen? ⟨w3.heap.size, 8, none⟩ = false := by simp [go_sem]
  have hy8 : (w3.alloc (.cells #[.int .i64 15, .int .u64 (bits : Nat), .int .u64 (hi : Nat), .int .u64 (lo : Nat), .string text, .string more, .int .i64 sub, .slice ab nb cb, .slice ak nk ck] 26)).cell? ⟨w3.heap.size, 8, none⟩ = some (.slice ak nk ck) := by simp [go_sem]
  have HFZ := Lib.hid hfz
  have HY8 := Lib.hid hy8
  clear hfz hy8
  generalize (w3.alloc (.cells #[.int .i64 15, .int .u64 (bits : Nat), .int .u64 (hi : Nat), .int .u64 (lo : Nat), .string text, .string more, .int .i64 sub, .slice ab nb cb, .slice ak nk ck] 26)) = w4 at *
  have HZ4 := Lib.hid hz4
  have hw3 : w3.heap.size < w4.heap.size := by omega
  have hKS : ∀ W, Fr w4 ⟨w3.heap.size, 8, none⟩ W → Hid (Fr w4 ⟨w3.heap.size, 8, none⟩ W) ∧ W.cell? ⟨w.heap.size, 0, none⟩ = some (.int .i64 15) ∧ W.cell? ⟨w.heap.size, 1, none⟩ = some (.int .u64 (bits : Nat)) ∧ W.cell? ⟨w.heap.size, 2, none⟩ = some (.int .u64 (hi : Nat)) ∧ W.cell? ⟨w.heap.size, 3, none⟩ = some (.int .u64 (lo : Nat)) ∧ W.cell? ⟨w.heap.size, 4, none⟩ = some (.string text) ∧ W.cell? ⟨w.heap.size, 5, none⟩ = some (.string more) ∧ W.cell? ⟨w.heap.size, 6, none⟩ = some (.int .i64 sub) ∧ W.cell? ⟨w.heap.size, 7, none⟩ = some (.slice ab nb cb) ∧ W.cell? ⟨w.heap.size, 8, none⟩ = some (.slice ak nk ck) ∧ W.cell? ⟨w.heap.size + 1, 0, none⟩ = some (.string nm) ∧ W.cell? ⟨w.heap.size + 1, 1, none⟩ = some (.int .i64 k') ∧ W.cell? ⟨w.heap.size + 1, 2, none⟩ = some (.int .u64 (bits' : Nat)) ∧ W.cell? ⟨w.heap.size + 1, 3, none⟩ = some (.int .u64 (hi' : Nat)) ∧ W.cell? ⟨w.heap.size + 1, 4, none⟩ = some (.int .u64 (lo' : Nat)) ∧ W.cell? ⟨w.heap.size + 1, 5, none⟩ = some (.string text') ∧ W.cell? ⟨w.heap.size + 1, 6, none⟩ = some (.string more') ∧ W.cell? ⟨w.heap.size + 1, 7, none⟩ = some (.int .i64 sub') ∧ W.cell? ⟨w.heap.size + 1, 8, none⟩ = some (.slice ab' nb' cb') ∧ W.cell? ⟨w.heap.size + 1, 9, none⟩ = some (.slice ak' nk' ck') ∧ W.cell? ⟨w3.heap.size, 0, none⟩ = some (.int .i64 15) ∧ W.cell? ⟨w3.heap.size, 1, none⟩ = some (.int .u64 (bits : Nat)) ∧ W.cell? ⟨w3.heap.size, 2, none⟩ = some (.int .u64 (hi : Nat)) ∧ W.cell? ⟨w3.heap.size, 3, none⟩ = some (.int .u64 (lo : Nat)) ∧ W.cell? ⟨w3.heap.size, 4, none⟩ = some (.string text) ∧ W.cell? ⟨w3.heap.size, 5, none⟩ = some (.string more) ∧ W.cell? ⟨w3.heap.size, 6, none⟩ = some (.int .i64 sub) ∧ W.cell? ⟨w3.heap.size, 7, none⟩ = some (.slice ab nb cb) := fun W h => by
    refine ⟨h, ?_, ?_, ?_, ?_, ?_, ?_, ?_, ?_, ?_, ?_, ?_, ?_, ?_, ?_, ?_, ?_, ?_, ?_, ?_, ?_, ?_, ?_, ?_, ?_, ?_, ?_, ?_⟩
    all_goals first | exact h.at (by assumption) (by simp; omega) | (refine h.cell _ _ ?_ (by assumption); simp)
  have HKS := Lib.hid hKS
  have hks : ∀ W, Below w4.heap.size w4 W → SrcK (fun k => k < w.heap.size) W (.slice ak nk ck) kids := fun W hW => by
    have hb : Below w.heap.size w W := HB4.out.trans (hW.mono (by omega))
    obtain ⟨ab1, nb1, cb1, ak1, nk1, ck1, e1, _, _, e2, e3, e4⟩ := (RdTS.of H.out).keep (KeepS.below hb)
    simp only [valCells, Array.mk.injEq, List.cons.injEq, Value.slice.injEq, and_true, true_and] at e1
    obtain ⟨_, rfl, rfl, rfl⟩ := e1
    subst e2
    exact SrcK.of e4 e3.2.1
  have HTF := Lib.hid (fun W (hW : Below w4.heap.size w4 W) => (RdTS.of H'.out).keep (KeepS.below (HB4.out.trans (hW.mono (by omega)))))
  have HA := Lib.hid (show Below w4.heap.size w4 (w4.alloc (.cells #[] 28)).drew from ((Below.refl _ _).alloc (Nat.le_refl _) _).drew)
  have HB := Lib.hid (show Below w4.heap.size w4 ((w4.alloc (.cells #[] 28)).alloc (.cells #[.string nm, .int .i64 k', .int .u64 (bits' : Nat), .int .u64 (hi' : Nat), .int .u64 (lo' : Nat), .string text', .string more', .int .i64 sub', .slice ab' nb' cb', .slice ak' nk' ck'] 28)).drew from (((Below.refl _ _).alloc (Nat.le_refl _) _).alloc (by simp) _).drew)
  have HC := Lib.hid (show Below w4.heap.size w4 ((w4.alloc (.cells #[.string nm, .int .i64 k', .int .u64 (bits' : Nat), .int .u64 (hi' : Nat), .int .u64 (lo' : Nat), .string text', .string more', .int .i64 sub', .slice ab' nb' cb', .slice ak' nk' ck'] 28)).alloc (.cells #[] 28)).drew from (((Below.refl _ _).alloc (Nat.le_refl _) _).alloc (by simp) _).drew)
  have HOA := Lib.hid (show OwnK (w4.alloc (.cells #[] 28)).drew w4.heap.size (fun k => k ≠ w3.heap.size) (.slice (some ⟨w4.heap.size, 0, none⟩) 0 0) .nil from ownK_empty (heap_alloc_new w4 _) (Nat.le_refl _))
  have HOB := Lib.hid (show OwnK ((w4.alloc (.cells #[] 28)).alloc (.cells #[.string nm, .int .i64 k', .int .u64 (bits' : Nat), .int .u64 (hi' : Nat), .int .u64 (lo' : Nat), .string text', .string more', .int .i64 sub', .slice ab' nb' cb', .slice ak' nk' ck'] 28)).drew w4.heap.size (fun k => k ≠ w3.heap.size) (.slice (some ⟨w4.heap.size, 0, none⟩) 0 0) .nil from ownK_empty (w := (w4.alloc (.cells #[] 28)).alloc (.cells #[.string nm, .int .i64 k', .int .u64 (bits' : Nat), .int .u64 (hi' : Nat), .int .u64 (lo' : Nat), .string text', .string more', .int .i64 sub', .slice ab' nb' cb', .slice ak' nk' ck'] 28)) ((((Below.refl _ _).alloc (Nat.le_refl _) _ : Below (w4.alloc (.cells #[] 28)).heap.size (w4.alloc (.cells #[] 28)) ((w4.alloc (.cells #[] 28)).alloc (.cells #[.string nm, .int .i64 k', .int .u64 (bits' : Nat), .int .u64 (hi' : Nat), .int .u64 (lo' : Nat), .string text', .string more', .int .i64 sub', .slice ab' nb' cb', .slice ak' nk' ck'] 28))).block _ (by simp)).trans (heap_alloc_new w4 _)) (Nat.le_refl _))
  have HOC := Lib.hid (show OwnK ((w4.alloc (.cells #[.string nm, .int .i64 k', .int .u64 (bits' : Nat), .int .u64 (hi' : Nat), .int .u64 (lo' : Nat), .string text', .string more', .int .i64 sub', .slice ab' nb' cb', .slice ak' nk' ck'] 28)).alloc (.cells #[] 28)).drew w4.heap.size (fun k => k ≠ w3.heap.size) (.slice (some ⟨w4.heap.size + 1, 0, none⟩) 0 0) .nil from ownK_empty (w := (w4.alloc (.cells #[.string nm, .int .i64 k', .int .u64 (bits' : Nat), .int .u64 (hi' : Nat), .int .u64 (lo' : Nat), .string text', .string more', .int .i64 sub', .slice ab' nb' cb', .slice ak' nk' ck'] 28)).alloc (.cells #[] 28)) (by have := heap_alloc_new (w4.alloc (.cells #[.string nm, .int .i64 k', .int .u64 (bits' : Nat), .int .u64 (hi' : Nat), .int .u64 (lo' : Nat), .string text', .string more', .int .i64 sub', .slice ab' nb' cb', .slice ak' nk' ck'] 28)) (.cells #[] 28); simpa using this) (by omega))
  have HSA := Lib.hid (hks _ HA.out)
  have HSB := Lib.hid (hks _ HB.out)
  have HSC := Lib.hid (hks _ HC.out)
  have HXB := Lib.hid (fun (j : Nat) (u : Value) (hj : (fcells nm (valCells k' bits' hi' lo' text' more' sub' ab' nb' cb' ak' nk' ck'))[j]? = some u) => (show ((w4.alloc (.cells #[] 28)).alloc (.cells #[.string nm, .int .i64 k', .int .u64 (bits' : Nat), .int .u64 (hi' : Nat), .int .u64 (lo' : Nat), .string text', .string more', .int .i64 sub', .slice ab' nb' cb', .slice ak' nk' ck'] 28)).drew.cell? ⟨w4.heap.size + 1, j, none⟩ = some u by
    have := new_cells (w4.alloc (.cells #[] 28)) _ 28 _ rfl j u hj
    simpa using this))
  have HXC := Lib.hid (fun (j : Nat) (u : Value) (hj : (fcells nm (valCells k' bits' hi' lo' text' more' sub' ab' nb' cb' ak' nk' ck'))[j]? = some u) => (show ((w4.alloc (.cells #[.string nm, .int .i64 k', .int .u64 (bits' : Nat), .int .u64 (hi' : Nat), .int .u64 (lo' : Nat), .string text', .string more', .int .i64 sub', .slice ab' nb' cb', .slice ak' nk' ck'] 28)).alloc (.cells #[] 28)).drew.cell? ⟨w4.heap.size, j, none⟩ = some u from
    cell_below (W := w4.alloc (.cells #[.string nm, .int .i64 k', .int .u64 (bits' : Nat), .int .u64 (hi' : Nat), .int .u64 (lo' : Nat), .string text', .string more', .int .i64 sub', .slice ab' nb' cb', .slice ak' nk' ck'] 28)) (((Below.refl _ _).alloc (Nat.le_refl _) _).drew) (new_cells w4 _ 28 _ rfl j u hj)))
  have HBD := Lib.hid (show F.nil.len + kids.len ≤ 1000000000 by have := F.len_wt kids; have := HWt.out; simp only [T.wt, F.len] at *; omega)
  have HBE := Lib.hid (show kids.len + (F.cons nm (.mk k' bits' hi' lo' text' more' sub' bs' kids') .nil).len ≤ 1000000000 by have := F.len_wt kids; have := HWt.out; simp only [T.wt, F.len] at *; omega)
  have HNM := Lib.hid (show nm.size ≤ 9223372036854775807 by omega)
  clear hKS hks hz4
  go_region_held3 (fun w' => Hid (Fr w4 ⟨w3.heap.size, 8, none⟩ w') ∧ w'.cell? ⟨w.heap.size, 0, none⟩ = some (.int .i64 15) ∧ w'.cell? ⟨w.heap.size, 1, none⟩ = some (.int .u64 (bits : Nat)) ∧ w'.cell? ⟨w.heap.size, 2, none⟩ = some (.int .u64 (hi : Nat)) ∧ w'.cell? ⟨w.heap.size, 3, none⟩ = some (.int .u64 (lo : Nat)) ∧ w'.cell? ⟨w.heap.size, 4, none⟩ = some (.string text) ∧ w'.cell? ⟨w.heap.size, 5, none⟩ = some (.string more) ∧ w'.cell? ⟨w.heap.size, 6, none⟩ = some (.int .i64 sub) ∧ w'.cell? ⟨w.heap.size, 7, none⟩ = some (.slice ab nb cb) ∧ w'.cell? ⟨w.heap.size, 8, none⟩ = some (.slice ak nk ck) ∧ w'.cell? ⟨w.heap.size + 1, 0, none⟩ = some (.string nm) ∧ w'.cell? ⟨w.heap.size + 1, 1, none⟩ = some (.int .i64 k') ∧ w'.cell? ⟨w.heap.size + 1, 2, none⟩ = some (.int .u64 (bits' : Nat)) ∧ w'.cell? ⟨w.heap.size + 1, 3, none⟩ = some (.int .u64 (hi' : Nat)) ∧ w'.cell? ⟨w.heap.size + 1, 4, none⟩ = some (.int .u64 (lo' : Nat)) ∧ w'.cell? ⟨w.heap.size + 1, 5, none⟩ = some (.string text') ∧ w'.cell? ⟨w.heap.size + 1, 6, none⟩ = some (.string more') ∧ w'.cell? ⟨w.heap.size + 1, 7, none⟩ = some (.int .i64 sub') ∧ w'.cell? ⟨w.heap.size + 1, 8, none⟩ = some (.slice ab' nb' cb') ∧ w'.cell? ⟨w.heap.size + 1, 9, none⟩ = some (.slice ak' nk' ck') ∧ w'.cell? ⟨w3.heap.size, 0, none⟩ = some (.int .i64 15) ∧ w'.cell? ⟨w3.heap.size, 1, none⟩ = some (.int .u64 (bits : Nat)) ∧ w'.cell? ⟨w3.heap.size, 2, none⟩ = some (.int .u64 (hi : Nat)) ∧ w'.cell? ⟨w3.heap.size, 3, none⟩ = some (.int .u64 (lo : Nat)) ∧ w'.cell? ⟨w3.heap.size, 4, none⟩ = some (.string text) ∧ w'.cell? ⟨w3.heap.size, 5, none⟩ = some (.string more) ∧ w'.cell? ⟨w3.heap.size, 6, none⟩ = some (.int .i64 sub) ∧ w'.cell? ⟨w3.heap.size, 7, none⟩ = some (.slice ab nb cb)) (first | exact HKS.out _ (Fr.refl (by simp; omega)).drew | exact HKS.out _ (Fr.of ‹Below w4.heap.size w4 _› (by simp; omega)) | exact HKS.out _ ((‹Hid (Fr w4 _ _) ∧ _›).1.out.alloc _) | exact HKS.out _ ((‹Hid (Fr w4 _ _) ∧ _›).1.out.setCell _)) (first | (refine step_appK (v := v42) (f := kids) (B := w4.heap.size) (L := fun k => k ≠ w3.heap.size) (g := .cons nm (.mk k' bits' hi' lo' text' more' sub' bs' kids') .nil) (S1 := fun k => k < w.heap.size) (by rfl) _ _ (by rfl) (by rfl) HO42.out (by rfl) (SrcK.one (HTF.out _ hb42) HNM.out HX42.out) (fun k hk => ⟨by omega, fun e => by have := (HO42.out.far k e).1; omega⟩) HBE.out hb42.size ?_; intro v45 w45 ho45 ha45; obtain ⟨a45, c45, rfl, hk45, hr45, hl45⟩ := ho45.reads (by intro k hk; omega); have HK45 := Lib.hid hk45; have HR45 := Lib.hid hr45; have HL45 := Lib.hid hl45; have hb45 : Below w4.heap.size w4 w45 := ha45.below hb42 hb42.size (fun k hk => (HO42.out.far k hk).1); have hz45 := (hb45.frozen (p := ⟨w3.heap.size, 8, none⟩) (by simp; omega)).trans HFZ.out; have hc45 := cell_below hb45 HY8.out; clear ho45 ha45 hk45 hr45 hl45) | (refine step_appK (v := v42) (f := kids) (B := w4.heap.size) (L := fun k => k ≠ w3.heap.size) (g := .cons nm (.mk k' bits' hi' lo' text' more' sub' bs' kids') .nil) (S1 := fun k => k < w.heap.size) (by rfl) _ _ (by rfl) (by rfl) (HO42.out.keep ((Below.refl _ _).alloc (Nat.le_refl _) _)) (by rfl) (SrcK.one (HTF.out _ (hb42.alloc hb42.size _)) HNM.out (new_cells _ _ _ _ rfl)) (fun k hk => ⟨by omega, fun e => by have := (HO42.out.far k e).1; omega⟩) HBE.out (hb42.alloc hb42.size _).size ?_; intro v45 w45 ho45 ha45; obtain ⟨a45, c45, rfl, hk45, hr45, hl45⟩ := ho45.reads (by intro k hk; omega); have HK45 := Lib.hid hk45; have HR45 := Lib.hid hr45; have HL45 := Lib.hid hl45; have hb45 : Below w4.heap.size w4 w45 := ha45.below (hb42.alloc hb42.size _) (hb42.alloc hb42.size _).size (fun k hk => (HO42.out.far k hk).1); have hz45 := (hb45.frozen (p := ⟨w3.heap.size, 8, none⟩) (by simp; omega)).trans HFZ.out; have hc45 := cell_below hb45 HY8.out; clear ho45 ha45 hk45 hr45 hl45) | (refine step_appK (v := .slice (some ⟨w4.heap.size, 0, none⟩) 0 0) (f := .nil) (B := w4.heap.size) (L := fun k => k ≠ w3.heap.size) (g := kids) (S1 := fun k => k < w.heap.size) (by rfl) _ _ (by rfl) (by rfl) HOA.out (by rfl) HSA.out (fun k hk => ⟨by omega, by simp [Value.ownBlock]; omega⟩) HBD.out (by simp <;> omega) ?_; intro v42 w42 ho42 ha42; have HO42 := Lib.hid ho42; have HA42 := Lib.hid ha42; have hb42 : Below w4.heap.size w4 w42 := ha42.below HA.out (by simp <;> omega) (by intro k hk; simp [Value.ownBlock] at hk; omega); clear ho42 ha42) | (refine step_appK (v := .slice (some ⟨w4.heap.size, 0, none⟩) 0 0) (f := .nil) (B := w4.heap.size) (L := fun k => k ≠ w3.heap.size) (g := kids) (S1 := fun k => k < w.heap.size) (by rfl) _ _ (by rfl) (by rfl) HOB.out (by rfl) HSB.out (fun k hk => ⟨by omega, by simp [Value.ownBlock]; omega⟩) HBD.out (by simp <;> omega) ?_; intro v42 w42 ho42 ha42; have HO42 := Lib.hid ho42; have HA42 := Lib.hid ha42; have hb42 : Below w4.heap.size w4 w42 := ha42.below HB.out (by simp <;> omega) (by intro k hk; simp [Value.ownBlock] at hk; omega); have HX42 := Lib.hid (fun j u hj => ha42.cell (HXB.out j u hj) (by simp [Value.ownBlock])); clear ho42 ha42) | (refine step_appK (v := .slice (some ⟨w4.heap.size + 1, 0, none⟩) 0 0) (f := .nil) (B := w4.heap.size) (L := fun k => k ≠ w3.heap.size) (g := kids) (S1 := fun k => k < w.heap.size) (by rfl) _ _ (by rfl) (by rfl) HOC.out (by rfl) HSC.out (fun k hk => ⟨by omega, by simp [Value.ownBlock]; omega⟩) HBD.out (by simp <;> omega) ?_; intro v42 w42 ho42 ha42; have HO42 := Lib.hid ho42; have HA42 := Lib.hid ha42; have hb42 : Below w4.heap.size w4 w42 := ha42.below HC.out (by simp <;> omega) (by intro k hk; simp [Value.ownBlock] at hk; omega); have HX42 := Lib.hid (fun j u hj => ha42.cell (HXC.out j u hj) (by simp [Value.ownBlock])); clear ho42 ha42))
  all_goals
    obtain ⟨hF, d0, d1, d2, d3, d4, d5, d6, d7, d8, x0, x1, x2, x3, x4, x5, x6, x7, x8, x9, y0, y1, y2, y3, y4, y5, y6, y7⟩ := ‹Hid (Fr w4 _ _) ∧ _›
    have hb6 : Below w.heap.size w (w45.setCell ⟨w3.heap.size, 8, none⟩ (.slice a45 (kids.append (.cons nm (.mk k' bits' hi' lo' text' more' sub' bs' kids') .nil)).len c45)) := HB4.out.trans (hF.out.below (by simp; omega))
    have y8 : (w45.setCell ⟨w3.heap.size, 8, none⟩ (.slice a45 (kids.append (.cons nm (.mk k' bits' hi' lo' text' more' sub' bs' kids') .nil)).len c45)).cell? ⟨w3.heap.size, 8, none⟩ = some (.slice a45 (kids.append (.cons nm (.mk k' bits' hi' lo' text' more' sub' bs' kids') .nil)).len c45) := World.cell?_setCell_same _ _ _ hc45
    have hk6 : KeepS (fun k => k ≠ w3.heap.size) w45 (w45.setCell ⟨w3.heap.size, 8, none⟩ (.slice a45 (kids.append (.cons nm (.mk k' bits' hi' lo' text' more' sub' bs' kids') .nil)).len c45)) := fun p u hp hc => by
      rw [World.cell?_setCell_other _ _ _ _ (fun e => hp (by rw [← e]))]
      exact hc
    have hrk := HK45.out.keep hk6
    have hrt : RdT (w45.setCell ⟨w3.heap.size, 8, none⟩ (.slice a45 (kids.append (.cons nm (.mk k' bits' hi' lo' text' more' sub' bs' kids') .nil)).len c45)) (.mk 15 bits hi lo text more sub bs (kids.append (.cons nm (.mk k' bits' hi' lo' text' more' sub' bs' kids') .nil))) (valCells 15 bits hi lo text more sub ab nb cb a45 (kids.append (.cons nm (.mk k' bits' hi' lo' text' more' sub' bs' kids') .nil)).len c45) := by
      obtain ⟨ab1, nb1, cb1, ak1, nk1, ck1, e1, e2, e3, e4, e5, e6⟩ := H.out.keep hb6
      simp only [valCells, Array.mk.injEq, List.cons.injEq, Value.slice.injEq, and_true, true_and] at e1
      obtain ⟨⟨rfl, rfl, rfl⟩, rfl, rfl, rfl⟩ := e1
      exact ⟨_, _, _, _, _, _, rfl, e2, e3, rfl, ⟨HL45.out, HR45.out, e5.2.2⟩, hrk.rd⟩
    have HB6 := Lib.hid hb6
    have HRT := Lib.hid hrt
    have HRV := Lib.hid (H.out.keep hb6)
    have HRF := Lib.hid (H'.out.keep hb6)
    clear hF hb45 hz45 hc45 hb6 hk6 hrk hrt HK45 HR45 HL45
    have CW := Lib.hid (of_all 10000 (by omega) (.mk 15 bits hi lo text more sub bs (kids.append (.cons nm (.mk k' bits' hi' lo' text' more' sub' bs' kids') .nil))) (by have := HWt.out; have := HWt'.out; have := F.wt_append kids (.cons nm (.mk k' bits' hi' lo' text' more' sub' bs' kids') .nil); simp only [T.wt, F.wt] at *; omega))
    have CV := Lib.hid (of_all 1200 (by omega) _ HWt.out)
    have CF := Lib.hid (of_all 1200 (by omega) _ HWt'.out)
    have hz := size_snoc 15 (by omega) bits hi lo text more sub bs kids nm (.mk k' bits' hi' lo' text' more' sub' bs' kids')
    have hzv := sizeT_bd (.mk 15 bits hi lo text more sub bs kids)
    have hzf := sizeT_bd (.mk k' bits' hi' lo' text' more' sub' bs' kids')
    have hwv := HWt.out
    have hwf := HWt'.out
    generalize sizeT (.mk 15 bits hi lo text more sub bs (kids.append (.cons nm (.mk k' bits' hi' lo' text' more' sub' bs' kids') .nil))) = zw at CW hz
    generalize sizeT (.mk 15 bits hi lo text more sub bs kids) = zv at CV hz hzv
    generalize sizeT (.mk k' bits' hi' lo' text' more' sub' bs' kids') = zf at CF hz hzf
    generalize (kids.append (.cons nm (.mk k' bits' hi' lo' text' more' sub' bs' kids') .nil)) = ks at *
    generalize ks.len = nks at *
    have hb1 : zv ≤ 100000 := by omega
    have hb2 : zf ≤ 100000 := by omega
    have hb3 : 0 ≤ zv := by omega
    have hb4 : 0 ≤ zf := by omega
    have q1 : IntKind.i64.wrap (zv + (nm.size : Int)) = zv + (nm.size : Int) := IntWalk.i64_in _ (by omega)
    have q2 : IntKind.i64.wrap (zv + (nm.size : Int) + 2) = zv + (nm.size : Int) + 2 := IntWalk.i64_in _ (by omega)
    have q3 : IntKind.i64.wrap (zv + (nm.size : Int) + 2 + zf) = zv + (nm.size : Int) + 2 + zf := IntWalk.i64_in _ (by omega)
    have ez : (zw == zv + (nm.size : Int) + 2 + zf) = true := by rw [beq_iff_eq]; omega
    clear hz hzv hzf hwv hwf hb1 hb2 hb3 hb4
    generalize (w45.setCell ⟨w3.heap.size, 8, none⟩ (.slice a45 nks c45)) = w6 at *
    have hKS2 : ∀ W, Below w6.heap.size w6 W → Hid (Below w6.heap.size w6 W) ∧ W.cell? ⟨w.heap.size, 0, none⟩ = some (.int .i64 15) ∧ W.cell? ⟨w.heap.size, 1, none⟩ = some (.int .u64 (bits : Nat)) ∧ W.cell? ⟨w.heap.size, 2, none⟩ = some (.int .u64 (hi : Nat)) ∧ W.cell? ⟨w.heap.size, 3, none⟩ = some (.int .u64 (lo : Nat)) ∧ W.cell? ⟨w.heap.size, 4, none⟩ = some (.string text) ∧ W.cell? ⟨w.heap.size, 5, none⟩ = some (.string more) ∧ W.cell? ⟨w.heap.size, 6, none⟩ = some (.int .i64 sub) ∧ W.cell? ⟨w.heap.size, 7, none⟩ = some (.slice ab nb cb) ∧ W.cell? ⟨w.heap.size, 8, none⟩ = some (.slice ak nk ck) ∧ W.cell? ⟨w.heap.size + 1, 0, none⟩ = some (.string nm) ∧ W.cell? ⟨w.heap.size + 1, 1, none⟩ = some (.int .i64 k') ∧ W.cell? ⟨w.heap.size + 1, 2, none⟩ = some (.int .u64 (bits' : Nat)) ∧ W.cell? ⟨w.heap.size + 1, 3, none⟩ = some (.int .u64 (hi' : Nat)) ∧ W.cell? ⟨w.heap.size + 1, 4, none⟩ = some (.int .u64 (lo' : Nat)) ∧ W.cell? ⟨w.heap.size + 1, 5, none⟩ = some (.string text') ∧ W.cell? ⟨w.heap.size + 1, 6, none⟩ = some (.string more') ∧ W.cell? ⟨w.heap.size + 1, 7, none⟩ = some (.int .i64 sub') ∧ W.cell? ⟨w.heap.size + 1, 8, none⟩ = some (.slice ab' nb' cb') ∧ W.cell? ⟨w.heap.size + 1, 9, none⟩ = some (.slice ak' nk' ck') ∧ W.cell? ⟨w3.heap.size, 0, none⟩ = some (.int .i64 15) ∧ W.cell? ⟨w3.heap.size, 1, none⟩ = some (.int .u64 (bits : Nat)) ∧ W.cell? ⟨w3.heap.size, 2, none⟩ = some (.int .u64 (hi : Nat)) ∧ W.cell? ⟨w3.heap.size, 3, none⟩ = some (.int .u64 (lo : Nat)) ∧ W.cell? ⟨w3.heap.size, 4, none⟩ = some (.string text) ∧ W.cell? ⟨w3.heap.size, 5, none⟩ = some (.string more) ∧ W.cell? ⟨w3.heap.size, 6, none⟩ = some (.int .i64 sub) ∧ W.cell? ⟨w3.heap.size, 7, none⟩ = some (.slice ab nb cb) ∧ W.cell? ⟨w3.heap.size, 8, none⟩ = some (.slice a45 nks c45) := fun W h => by
      refine ⟨h, ?_, ?_, ?_, ?_, ?_, ?_, ?_, ?_, ?_, ?_, ?_, ?_, ?_, ?_, ?_, ?_, ?_, ?_, ?_, ?_, ?_, ?_, ?_, ?_, ?_, ?_, ?_, ?_⟩
      all_goals exact cell_below h (by assumption)
    have HKS2 := Lib.hid hKS2
    clear hKS2
    go_wp2_with fail
    go_region_held3 (fun w' => Hid (Below w6.heap.size w6 w') ∧ w'.cell? ⟨w.heap.size, 0, none⟩ = some (.int .i64 15) ∧ w'.cell? ⟨w.heap.size, 1, none⟩ = some (.int .u64 (bits : Nat)) ∧ w'.cell? ⟨w.heap.size, 2, none⟩ = some (.int .u64 (hi : Nat)) ∧ w'.cell? ⟨w.heap.size, 3, none⟩ = some (.int .u64 (lo : Nat)) ∧ w'.cell? ⟨w.heap.size, 4, none⟩ = some (.string text) ∧ w'.cell? ⟨w.heap.size, 5, none⟩ = some (.string more) ∧ w'.cell? ⟨w.heap.size, 6, none⟩ = some (.int .i64 sub) ∧ w'.cell? ⟨w.heap.size, 7, none⟩ = some (.slice ab nb cb) ∧ w'.cell? ⟨w.heap.size, 8, none⟩ = some (.slice ak nk ck) ∧ w'.cell? ⟨w.heap.size + 1, 0, none⟩ = some (.string nm) ∧ w'.cell? ⟨w.heap.size + 1, 1, none⟩ = some (.int .i64 k') ∧ w'.cell? ⟨w.heap.size + 1, 2, none⟩ = some (.int .u64 (bits' : Nat)) ∧ w'.cell? ⟨w.heap.size + 1, 3, none⟩ = some (.int .u64 (hi' : Nat)) ∧ w'.cell? ⟨w.heap.size + 1, 4, none⟩ = some (.int .u64 (lo' : Nat)) ∧ w'.cell? ⟨w.heap.size + 1, 5, none⟩ = some (.string text') ∧ w'.cell? ⟨w.heap.size + 1, 6, none⟩ = some (.string more') ∧ w'.cell? ⟨w.heap.size + 1, 7, none⟩ = some (.int .i64 sub') ∧ w'.cell? ⟨w.heap.size + 1, 8, none⟩ = some (.slice ab' nb' cb') ∧ w'.cell? ⟨w.heap.size + 1, 9, none⟩ = some (.slice ak' nk' ck') ∧ w'.cell? ⟨w3.heap.size, 0, none⟩ = some (.int .i64 15) ∧ w'.cell? ⟨w3.heap.size, 1, none⟩ = some (.int .u64 (bits : Nat)) ∧ w'.cell? ⟨w3.heap.size, 2, none⟩ = some (.int .u64 (hi : Nat)) ∧ w'.cell? ⟨w3.heap.size, 3, none⟩ = some (.int .u64 (lo : Nat)) ∧ w'.cell? ⟨w3.heap.size, 4, none⟩ = some (.string text) ∧ w'.cell? ⟨w3.heap.size, 5, none⟩ = some (.string more) ∧ w'.cell? ⟨w3.heap.size, 6, none⟩ = some (.int .i64 sub) ∧ w'.cell? ⟨w3.heap.size, 7, none⟩ = some (.slice ab nb cb) ∧ w'.cell? ⟨w3.heap.size, 8, none⟩ = some (.slice a45 nks c45)) (first | exact HKS2.out _ ((Below.refl _ _).drew) | exact HKS2.out _ ((‹Hid (Below w6.heap.size _ _) ∧ _›).1.out.trans (‹Below _ _ _›.mono (‹Hid (Below w6.heap.size _ _) ∧ _›).1.out.size))) (first | (go_at_call 12; (with_reducible refine (CV.out _ _ (HRV.out.keep (‹Hid (Below w6.heap.size _ _) ∧ _›).1.out)).mono ?_); rintro e w' ⟨rfl, hb⟩) | (go_at_call 12; (with_reducible refine (CF.out _ _ (HRF.out.keep (‹Hid (Below w6.heap.size _ _) ∧ _›).1.out)).mono ?_); rintro e w' ⟨rfl, hb⟩) | (go_at_call 12; (with_reducible refine (CW.out _ _ (HRT.out.keep (‹Hid (Below w6.heap.size _ _) ∧ _›).1.out)).mono ?_); rintro e w' ⟨rfl, hb⟩))
    all_goals
      go_wp2_with fail
      go_ret
      exact ⟨rfl, HB6.out.trans ((‹Hid (Below w6.heap.size _ _) ∧ _›).1.out.mono HB6.out.size)⟩
end Go.Proofs.Ytiodjhcjfbnocaa
