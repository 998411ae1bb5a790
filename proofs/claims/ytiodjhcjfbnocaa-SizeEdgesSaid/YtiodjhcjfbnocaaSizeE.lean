/- SizeEdges: the walk. -/
import Derived.Test.YtiodjhcjfbnocaaSizeF
namespace Go.Proofs.Ytiodjhcjfbnocaa
open Go.RowKit
set_option linter.unusedVariables false
set_option linter.unusedSimpArgs false

theorem edge_ok {t : T} (hk : t.kind = 3) (hd : depT t ≤ 200) (hw : t.wt ≤ 1200) : 1 ≤ depT t ∧ 5 ≤ sizeT t ∧ sizeT t ≤ 14400 ∧
    fitsS t (depT t) (sizeT t) 0 = 0 ∧ (sizeT t ≠ 5 → fitsS t (depT t) (sizeT t - 1) 0 = 9) ∧ (depT t ≠ 1 → fitsS t (depT t - 1) (sizeT t) 0 = 8) := by
  have h1 : 1 ≤ depT t := by
    cases t; simp only [T.kind] at hk; subst hk; simp only [depT, isK]; simp
  have h2 : 5 ≤ sizeT t := by
    cases t with
    | mk k b h l tx m s y f =>
      simp only [T.kind] at hk; subst hk
      have := sizeF_bd f
      simp only [sizeT, ownSize]; simp; omega
  have h3 := (sizeT_bd t).2
  refine ⟨h1, h2, by omega, ?_, fun h => ?_, fun h => ?_⟩
  · have m : mayS (depT t) (sizeT t) 0 = true := by unfold mayS; simp only [decide_eq_true_eq]; omega
    unfold fitsS fitsN; rw [m, hk]; simp
  · have m : mayS (depT t) (sizeT t - 1) 0 = true := by unfold mayS; simp only [decide_eq_true_eq]; omega
    unfold fitsS fitsN; rw [m, hk]; simp; omega
  · have m : mayS (depT t - 1) (sizeT t) 0 = true := by unfold mayS; simp only [decide_eq_true_eq]; omega
    unfold fitsS fitsN; rw [m, hk]; simp; omega

set_option maxRecDepth 100000 in
set_option maxHeartbeats 2000000 in
theorem SizeEdges_walk (w : World) (c : Array Value) (t : T) (h : RdT w t c) :
    Calls Try.prog 7 #[.agg c] w fun e w' => e = .returned (.bool true) ∧ Below w.heap.size w w' := by
  have H := Lib.hid h
  obtain ⟨k, bits, hi, lo, text, more, sub, bs, kids⟩ := t
  obtain ⟨ab, nb, cb, ak, nk, ck, rfl, _⟩ := h
  have CS := Lib.hid (fun W h => small_calls (.mk k bits hi lo text more sub bs kids) W (valCells k bits hi lo text more sub ab nb cb ak nk ck) h)
  cases hs : smallT (.mk k bits hi lo text more sub bs kids) with
  | false =>
    rw [hs] at CS
    clear hs
    go_enter Try.func7, Try.ntmps7
    go_wp2_with fail
    refine (awake19 _).mono ?_
    rintro e w1 ⟨rfl, hb1⟩
    have h1 := ((Below.refl w.heap.size w).alloc (Nat.le_refl _) (.cells (valCells _ bits hi lo text more sub ab nb cb ak nk ck) 26)).trans (hb1.mono (by simp))
    have H1 := Lib.hid h1
    have c0 := fun (j : Nat) => hb1.cell (p := ⟨w.heap.size, j, none⟩) (by simp)
    simp [go_sem, valCells] at c0
    have d0 := c0 0
    have d1 := c0 1
    have d2 := c0 2
    have d3 := c0 3
    have d4 := c0 4
    have d5 := c0 5
    have d6 := c0 6
    have d7 := c0 7
    have d8 := c0 8
    simp at d0 d1 d2 d3 d4 d5 d6 d7 d8
    clear c0
    clear hb1 h1
    go_wp2_with fail
    refine (CS.out _ (H.out.keep H1.out)).mono ?_
    rintro e w2 ⟨rfl, hb2⟩
    have HB2 := Lib.hid (H1.out.trans (hb2.mono H1.out.size))
    clear hb2
    go_wp2_with fail
    go_ret
    exact ⟨rfl, HB2.out⟩
  | true =>
    rw [hs] at CS
    have hwt := wt_small hs
    have HWt := Lib.hid hwt
    clear hs
    by_cases hk : k = 3
    · subst hk
      have C1 := Lib.hid (rdep_all 1200 (by omega) _ HWt.out)
      have C2 := Lib.hid (rsize_all 1200 (by omega) _ HWt.out)
      have C3 := Lib.hid (fits_calls (.mk 3 bits hi lo text more sub bs kids) HWt.out)
      by_cases hd : depT (.mk 3 bits hi lo text more sub bs kids) ≤ 200
      · obtain ⟨p1, p2, p3, f0, f1, f2⟩ := edge_ok rfl hd hwt
        have C4 := Lib.hid (fun W c h => fits_calls (.mk 3 bits hi lo text more sub bs kids) HWt.out W c h (depT (.mk 3 bits hi lo text more sub bs kids)) (sizeT (.mk 3 bits hi lo text more sub bs kids)) 0)
        rw [f0] at C4
        have C5 := Lib.hid (fun (g : sizeT (.mk 3 bits hi lo text more sub bs kids) ≠ 5) W c h => f1 g ▸ fits_calls (.mk 3 bits hi lo text more sub bs kids) HWt.out W c h (depT (.mk 3 bits hi lo text more sub bs kids)) (sizeT (.mk 3 bits hi lo text more sub bs kids) - 1) 0)
        have C6 := Lib.hid (fun (g : depT (.mk 3 bits hi lo text more sub bs kids) ≠ 1) W c h => f2 g ▸ fits_calls (.mk 3 bits hi lo text more sub bs kids) HWt.out W c h ((depT (.mk 3 bits hi lo text more sub bs kids) : Int) - 1) (sizeT (.mk 3 bits hi lo text more sub bs kids)) 0)
        clear hwt f0 f1 f2 C3
        generalize depT (.mk 3 bits hi lo text more sub bs kids) = dp at C1 C4 C5 C6 p1 hd
        generalize sizeT (.mk 3 bits hi lo text more sub bs kids) = sz at C2 C4 C5 C6 p2 p3
        have g0 : decide ((200 : Int) < (dp : Int)) = false := by simp; omega
        have q1 : IntKind.i64.wrap (sz - 1) = sz - 1 := IntWalk.i64_in _ (by omega)
        have q2 : IntKind.i64.wrap ((dp : Int) - 1) = (dp : Int) - 1 := IntWalk.i64_in _ (by omega)
        go_enter Try.func7, Try.ntmps7
        go_wp2_with fail
        refine (awake19 _).mono ?_
        rintro e w1 ⟨rfl, hb1⟩
        have h1 := ((Below.refl w.heap.size w).alloc (Nat.le_refl _) (.cells (valCells _ bits hi lo text more sub ab nb cb ak nk ck) 26)).trans (hb1.mono (by simp))
        have H1 := Lib.hid h1
        have c0 := fun (j : Nat) => hb1.cell (p := ⟨w.heap.size, j, none⟩) (by simp)
        simp [go_sem, valCells] at c0
        have d0 := c0 0
        have d1 := c0 1
        have d2 := c0 2
        have d3 := c0 3
        have d4 := c0 4
        have d5 := c0 5
        have d6 := c0 6
        have d7 := c0 7
        have d8 := c0 8
        simp at d0 d1 d2 d3 d4 d5 d6 d7 d8
        clear c0
        clear hb1 h1
        go_wp2_with fail
        refine (CS.out _ (H.out.keep H1.out)).mono ?_
        rintro e w2 ⟨rfl, hb2⟩
        have HB2 := Lib.hid (H1.out.trans (hb2.mono H1.out.size))
        have d0 := cell_below hb2 d0
        have d1 := cell_below hb2 d1
        have d2 := cell_below hb2 d2
        have d3 := cell_below hb2 d3
        have d4 := cell_below hb2 d4
        have d5 := cell_below hb2 d5
        have d6 := cell_below hb2 d6
        have d7 := cell_below hb2 d7
        have d8 := cell_below hb2 d8
        clear hb2 H1
        go_wp2_with fail
        refine (C1.out _ _ (H.out.keep HB2.out)).mono ?_
        rintro e w3 ⟨rfl, hb3⟩
        have HB3 := Lib.hid (HB2.out.trans (hb3.mono HB2.out.size))
        have hT : Hid (RdT w3 (.mk 3 bits hi lo text more sub bs kids) (valCells 3 bits hi lo text more sub ab nb cb ak nk ck)) := H.out.keep HB3.out
        have d0 := cell_below hb3 d0
        have d1 := cell_below hb3 d1
        have d2 := cell_below hb3 d2
        have d3 := cell_below hb3 d3
        have d4 := cell_below hb3 d4
        have d5 := cell_below hb3 d5
        have d6 := cell_below hb3 d6
        have d7 := cell_below hb3 d7
        have d8 := cell_below hb3 d8
        clear hb3 HB2
        go_wp2_with fail
        go_region_held3 (fun w' => Hid (RdT w' (.mk 3 bits hi lo text more sub bs kids) (valCells 3 bits hi lo text more sub ab nb cb ak nk ck)) ∧ Hid (Below w.heap.size w w') ∧ w'.cell? ⟨w.heap.size, 0, none⟩ = some (.int .i64 3) ∧ w'.cell? ⟨w.heap.size, 1, none⟩ = some (.int .u64 (bits : Nat)) ∧ w'.cell? ⟨w.heap.size, 2, none⟩ = some (.int .u64 (hi : Nat)) ∧ w'.cell? ⟨w.heap.size, 3, none⟩ = some (.int .u64 (lo : Nat)) ∧ w'.cell? ⟨w.heap.size, 4, none⟩ = some (.string text) ∧ w'.cell? ⟨w.heap.size, 5, none⟩ = some (.string more) ∧ w'.cell? ⟨w.heap.size, 6, none⟩ = some (.int .i64 sub) ∧ w'.cell? ⟨w.heap.size, 7, none⟩ = some (.slice ab nb cb) ∧ w'.cell? ⟨w.heap.size, 8, none⟩ = some (.slice ak nk ck)) ((repeat' apply And.intro) <;> first | (simp [*]; done) | (refine below_cell ‹Below _ _ _› ?_; simp [*]; done) | exact hT_next ‹Below _ _ _› (‹Hid (RdT _ _ _) ∧ Hid (Below _ _ _) ∧ _›).1 | exact hB_next ‹Below _ _ _› (‹Hid (RdT _ _ _) ∧ Hid (Below _ _ _) ∧ _›).2.1 | exact hT_drew ‹Hid (RdT _ _ _)› | exact hB_drew ‹Hid (Below _ _ _)›) (first | (go_at_call 28; refine (C2.out _ _ (‹Hid (RdT _ _ _) ∧ Hid (Below _ _ _) ∧ _›).1.out).mono ?_; rintro e w' ⟨rfl, hb⟩) | (go_at_call 27; refine (C1.out _ _ (‹Hid (RdT _ _ _) ∧ Hid (Below _ _ _) ∧ _›).1.out).mono ?_; rintro e w' ⟨rfl, hb⟩))
        all_goals
          clear d0 d1 d2 d3 d4 d5 d6 d7 d8 hT HB3
          obtain ⟨hT4, hB4, d0, d1, d2, d3, d4, d5, d6, d7, d8⟩ := ‹Hid (RdT _ _ _) ∧ Hid (Below _ _ _) ∧ _›
          go_wp2_with fail
          refine (C4.out _ _ hT4.out).mono ?_
          rintro e w5 ⟨rfl, hb5⟩
          have HB5 := Lib.hid (hB4.out.trans (hb5.mono hB4.out.size))
          have d0 := cell_below hb5 d0
          have d1 := cell_below hb5 d1
          have d2 := cell_below hb5 d2
          have d3 := cell_below hb5 d3
          have d4 := cell_below hb5 d4
          have d5 := cell_below hb5 d5
          have d6 := cell_below hb5 d6
          have d7 := cell_below hb5 d7
          have d8 := cell_below hb5 d8
          clear hb5 hT4 hB4
          by_cases z5 : sz = 5
          · have i1 : (sz == 5) = true := by rw [beq_iff_eq]; omega
            by_cases z1 : dp = 1
            · have i2 : ((dp : Int) == 1) = true := by rw [beq_iff_eq]; omega
              go_wp2_with fail
              go_ret
              exact ⟨rfl, HB5.out⟩
            · have i2 : ((dp : Int) == 1) = false := by rw [beq_eq_false_iff_ne]; omega
              have D6 := Lib.hid (C6.out z1)
              clear z1 z5
              go_wp2_with fail
              refine (D6.out _ _ (H.out.keep HB5.out)).mono ?_
              rintro e w6 ⟨rfl, hb6⟩
              go_wp2_with fail
              go_ret
              exact ⟨rfl, HB5.out.trans (hb6.mono HB5.out.size)⟩
          · have i1 : (sz == 5) = false := by rw [beq_eq_false_iff_ne]; omega
            have D5 := Lib.hid (C5.out z5)
            by_cases z1 : dp = 1
            · have i2 : ((dp : Int) == 1) = true := by rw [beq_iff_eq]; omega
              clear z5 z1
              go_wp2_with fail
              refine (D5.out _ _ (H.out.keep HB5.out)).mono ?_
              rintro e w6 ⟨rfl, hb6⟩
              go_wp2_with fail
              go_ret
              exact ⟨rfl, HB5.out.trans (hb6.mono HB5.out.size)⟩
            · have i2 : ((dp : Int) == 1) = false := by rw [beq_eq_false_iff_ne]; omega
              have D6 := Lib.hid (C6.out z1)
              clear z1 z5
              go_wp2_with fail
              refine (D5.out _ _ (H.out.keep HB5.out)).mono ?_
              rintro e w6 ⟨rfl, hb6⟩
              have HB6 := Lib.hid (HB5.out.trans (hb6.mono HB5.out.size))
              have d0 := cell_below hb6 d0
              have d1 := cell_below hb6 d1
              have d2 := cell_below hb6 d2
              have d3 := cell_below hb6 d3
              have d4 := cell_below hb6 d4
              have d5 := cell_below hb6 d5
              have d6 := cell_below hb6 d6
              have d7 := cell_below hb6 d7
              have d8 := cell_below hb6 d8
              clear hb6 HB5
              go_wp2_with fail
              refine (D6.out _ _ (H.out.keep HB6.out)).mono ?_
              rintro e w7 ⟨rfl, hb7⟩
              go_wp2_with fail
              go_ret
              exact ⟨rfl, HB6.out.trans (hb7.mono HB6.out.size)⟩
      · clear hwt C2 C3
        generalize depT (.mk 3 bits hi lo text more sub bs kids) = dp at C1 hd
        have g0 : decide ((200 : Int) < (dp : Int)) = true := by simp; omega
        go_enter Try.func7, Try.ntmps7
        go_wp2_with fail
        refine (awake19 _).mono ?_
        rintro e w1 ⟨rfl, hb1⟩
        have h1 := ((Below.refl w.heap.size w).alloc (Nat.le_refl _) (.cells (valCells _ bits hi lo text more sub ab nb cb ak nk ck) 26)).trans (hb1.mono (by simp))
        have H1 := Lib.hid h1
        have c0 := fun (j : Nat) => hb1.cell (p := ⟨w.heap.size, j, none⟩) (by simp)
        simp [go_sem, valCells] at c0
        have d0 := c0 0
        have d1 := c0 1
        have d2 := c0 2
        have d3 := c0 3
        have d4 := c0 4
        have d5 := c0 5
        have d6 := c0 6
        have d7 := c0 7
        have d8 := c0 8
        simp at d0 d1 d2 d3 d4 d5 d6 d7 d8
        clear c0
        clear hb1 h1
        go_wp2_with fail
        refine (CS.out _ (H.out.keep H1.out)).mono ?_
        rintro e w2 ⟨rfl, hb2⟩
        have HB2 := Lib.hid (H1.out.trans (hb2.mono H1.out.size))
        have d0 := cell_below hb2 d0
        have d1 := cell_below hb2 d1
        have d2 := cell_below hb2 d2
        have d3 := cell_below hb2 d3
        have d4 := cell_below hb2 d4
        have d5 := cell_below hb2 d5
        have d6 := cell_below hb2 d6
        have d7 := cell_below hb2 d7
        have d8 := cell_below hb2 d8
        clear hb2 H1
        go_wp2_with fail
        refine (C1.out _ _ (H.out.keep HB2.out)).mono ?_
        rintro e w3 ⟨rfl, hb3⟩
        have HB3 := Lib.hid (HB2.out.trans (hb3.mono HB2.out.size))
        clear hb3
        go_wp2_with fail
        go_ret
        exact ⟨rfl, HB3.out⟩
    · have n3 : (k != 3) = true := by simpa using hk
      clear hwt hk
      go_enter Try.func7, Try.ntmps7
      go_wp2_with fail
      refine (awake19 _).mono ?_
      rintro e w1 ⟨rfl, hb1⟩
      have h1 := ((Below.refl w.heap.size w).alloc (Nat.le_refl _) (.cells (valCells _ bits hi lo text more sub ab nb cb ak nk ck) 26)).trans (hb1.mono (by simp))
      have H1 := Lib.hid h1
      have c0 := fun (j : Nat) => hb1.cell (p := ⟨w.heap.size, j, none⟩) (by simp)
      simp [go_sem, valCells] at c0
      have d0 := c0 0
      have d1 := c0 1
      have d2 := c0 2
      have d3 := c0 3
      have d4 := c0 4
      have d5 := c0 5
      have d6 := c0 6
      have d7 := c0 7
      have d8 := c0 8
      simp at d0 d1 d2 d3 d4 d5 d6 d7 d8
      clear c0
      clear hb1 h1
      go_wp2_with fail
      refine (CS.out _ (H.out.keep H1.out)).mono ?_
      rintro e w2 ⟨rfl, hb2⟩
      have HB2 := Lib.hid (H1.out.trans (hb2.mono H1.out.size))
      have d0 := cell_below hb2 d0
      have d1 := cell_below hb2 d1
      have d2 := cell_below hb2 d2
      have d3 := cell_below hb2 d3
      have d4 := cell_below hb2 d4
      have d5 := cell_below hb2 d5
      have d6 := cell_below hb2 d6
      have d7 := cell_below hb2 d7
      have d8 := cell_below hb2 d8
      clear hb2 H1
      go_wp2_with fail
      go_ret
      exact ⟨rfl, HB2.out⟩
end Go.Proofs.Ytiodjhcjfbnocaa
