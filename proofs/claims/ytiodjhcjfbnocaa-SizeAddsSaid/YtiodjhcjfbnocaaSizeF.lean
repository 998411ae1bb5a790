/- SizeFits: the walk. -/
import Derived.Test.YtiodjhcjfbnocaaFitsR
namespace Go.Proofs.Ytiodjhcjfbnocaa
open Go.RowKit
set_option linter.unusedVariables false
set_option linter.unusedSimpArgs false

theorem wt_small {t : T} (h : smallT t = true) : t.wt ≤ 1200 := by
  have h0 : 0 ≤ bookT 1200 t := by simpa [smallT] using h
  have := bookT_wt _ _ h0
  omega

set_option maxRecDepth 100000 in
set_option maxHeartbeats 2000000 in
theorem SizeFits_walk (w : World) (c : Array Value) (t : T) (h : RdT w t c) (d s o : Int) :
    Calls Try.prog 6 #[.agg c, .agg (limCells d s o)] w fun e w' => e = .returned (.bool true) ∧ Below w.heap.size w w' := by
  have H := Lib.hid h
  obtain ⟨k, bits, hi, lo, text, more, sub, bs, kids⟩ := t
  obtain ⟨ab, nb, cb, ak, nk, ck, rfl, _⟩ := h
  have CS := Lib.hid (fun W h => small_calls (.mk k bits hi lo text more sub bs kids) W (valCells k bits hi lo text more sub ab nb cb ak nk ck) h)
  go_enter Try.func6, Try.ntmps6
  go_wp2_with fail
  refine (awake19 _).mono ?_
  rintro e w1 ⟨rfl, hb1⟩
  have h1 := (((Below.refl w.heap.size w).alloc (Nat.le_refl _) (.cells (valCells k bits hi lo text more sub ab nb cb ak nk ck) 26)).alloc (by simp) (.cells (limCells d s o) 45)).trans (hb1.mono (by simp; omega))
  have H1 := Lib.hid h1
  have c0 := fun (j : Nat) => hb1.cell (p := ⟨w.heap.size, j, none⟩) (by simp; omega)
  have c1 := fun (j : Nat) => hb1.cell (p := ⟨w.heap.size + 1, j, none⟩) (by simp)
  simp [go_sem, valCells] at c0 c1
  have d0 := c0 0
  have d1 := c0 1
  have d2 := c0 2
  have d3 := c0 3
  have d4 := c0 4
  have d5 := c0 5
  have d6 := c0 6
  have d7 := c0 7
  have d8 := c0 8
  have x0 := c1 0
  have x1 := c1 1
  have x2 := c1 2
  simp at d0 d1 d2 d3 d4 d5 d6 d7 d8 x0 x1 x2
  clear c0 c1
  clear hb1 h1
  have hT : Hid (RdT w1 (.mk k bits hi lo text more sub bs kids) (valCells k bits hi lo text more sub ab nb cb ak nk ck)) := H.out.keep H1.out
  cases hs : smallT (.mk k bits hi lo text more sub bs kids) with
  | false =>
    rw [hs] at CS
    have HSM := Lib.hid hs
    clear hs
    go_wp2_with fail
    refine (CS.out _ hT.out).mono ?_
    rintro e w2 ⟨rfl, hb2⟩
    have HB2 := Lib.hid (H1.out.trans (hb2.mono H1.out.size))
    clear hb2
    go_wp2_with fail
    go_ret
    exact ⟨rfl, HB2.out⟩
  | true =>
    rw [hs] at CS
    have HWt := Lib.hid (wt_small hs)
    have HSM := Lib.hid hs
    clear hs
    have C1 := Lib.hid (fun W => may_calls d s o W)
    have C2 := Lib.hid (fun W => rmay_calls d s o W)
    have C3 := Lib.hid (fun W c h => fits_calls (.mk k bits hi lo text more sub bs kids) HWt.out W c h d s o)
    have C4 := Lib.hid (fun W c h => rfits_calls (.mk k bits hi lo text more sub bs kids) HWt.out W c h d s o)
    generalize mayS d s o = m at C1 C2
    generalize fitsS (.mk k bits hi lo text more sub bs kids) d s o = r at C3 C4
    have em : (m == m) = true := by simp
    have er : (r == r) = true := by simp
    go_wp2_with fail
    refine (CS.out _ hT.out).mono ?_
    rintro e w2 ⟨rfl, hb2⟩
    have HB2 := Lib.hid (H1.out.trans (hb2.mono H1.out.size))
    have hT2 : Hid (RdT w2 (.mk k bits hi lo text more sub bs kids) (valCells k bits hi lo text more sub ab nb cb ak nk ck)) := H.out.keep HB2.out
    have d0 := cell_below hb2 d0
    have d1 := cell_below hb2 d1
    have d2 := cell_below hb2 d2
    have d3 := cell_below hb2 d3
    have d4 := cell_below hb2 d4
    have d5 := cell_below hb2 d5
    have d6 := cell_below hb2 d6
    have d7 := cell_below hb2 d7
    have d8 := cell_below hb2 d8
    have x0 := cell_below hb2 x0
    have x1 := cell_below hb2 x1
    have x2 := cell_below hb2 x2
    clear hb2 H1 hT
    go_wp2_with fail
    go_region_held3 (fun w' => Hid (RdT w' (.mk k bits hi lo text more sub bs kids) (valCells k bits hi lo text more sub ab nb cb ak nk ck)) ∧ Hid (Below w.heap.size w w') ∧ w'.cell? ⟨w.heap.size, 0, none⟩ = some (.int .i64 k) ∧ w'.cell? ⟨w.heap.size, 1, none⟩ = some (.int .u64 (bits : Nat)) ∧ w'.cell? ⟨w.heap.size, 2, none⟩ = some (.int .u64 (hi : Nat)) ∧ w'.cell? ⟨w.heap.size, 3, none⟩ = some (.int .u64 (lo : Nat)) ∧ w'.cell? ⟨w.heap.size, 4, none⟩ = some (.string text) ∧ w'.cell? ⟨w.heap.size, 5, none⟩ = some (.string more) ∧ w'.cell? ⟨w.heap.size, 6, none⟩ = some (.int .i64 sub) ∧ w'.cell? ⟨w.heap.size, 7, none⟩ = some (.slice ab nb cb) ∧ w'.cell? ⟨w.heap.size, 8, none⟩ = some (.slice ak nk ck) ∧ w'.cell? ⟨w.heap.size + 1, 0, none⟩ = some (.int .i64 d) ∧ w'.cell? ⟨w.heap.size + 1, 1, none⟩ = some (.int .i64 s) ∧ w'.cell? ⟨w.heap.size + 1, 2, none⟩ = some (.int .i64 o)) ((repeat' apply And.intro) <;> first | (simp [*]; done) | (refine below_cell ‹Below _ _ _› ?_; simp [*]; done) | exact hT_next ‹Below _ _ _› (‹Hid (RdT _ _ _) ∧ Hid (Below _ _ _) ∧ _›).1 | exact hB_next ‹Below _ _ _› (‹Hid (RdT _ _ _) ∧ Hid (Below _ _ _) ∧ _›).2.1 | exact hT_drew ‹Hid (RdT _ _ _)› | exact hB_drew ‹Hid (Below _ _ _)›) (first | (go_at_call 23; refine (C1.out _).mono ?_; rintro e w' ⟨rfl, hb⟩) | (go_at_call 24; refine (C2.out _).mono ?_; rintro e w' ⟨rfl, hb⟩) | (go_at_call 25; refine (C3.out _ _ (‹Hid (RdT _ _ _) ∧ Hid (Below _ _ _) ∧ _›).1.out).mono ?_; rintro e w' ⟨rfl, hb⟩) | (go_at_call 26; refine (C4.out _ _ (‹Hid (RdT _ _ _) ∧ Hid (Below _ _ _) ∧ _›).1.out).mono ?_; rintro e w' ⟨rfl, hb⟩))
    all_goals
      go_wp2_with fail
      go_ret
      exact ⟨rfl, (‹Hid (RdT _ _ _) ∧ Hid (Below _ _ _) ∧ _›).2.1.out⟩
end Go.Proofs.Ytiodjhcjfbnocaa
