/- Is a tree within limits: by the program, by the reference. -/
import Derived.Test.YtiodjhcjfbnocaaMay
import Derived.Test.YtiodjhcjfbnocaaDepR
import Derived.Test.YtiodjhcjfbnocaaSizeA
namespace Go.Proofs.Ytiodjhcjfbnocaa
open Go.RowKit
set_option linter.unusedVariables false
set_option linter.unusedSimpArgs false

def fitsN (m : Bool) (k : Int) (dp : Nat) (sz d s : Int) : Int := if m = false then 1 else if k ≠ 3 then 5 else if d < dp then 8 else if s < sz then 9 else 0
def fitsS (t : T) (d s o : Int) : Int := fitsN (mayS d s o) t.kind (depT t) (sizeT t) d s

set_option maxRecDepth 100000 in
set_option maxHeartbeats 2000000 in
theorem fits_calls (t : T) (ht : t.wt ≤ 1200) (w : World) (c : Array Value) (h : RdT w t c) (d s o : Int) :
    Calls Try.prog 25 #[.agg c, .agg (limCells d s o)] w fun e w' => e = .returned (.int .i64 (fitsS t d s o)) ∧ Below w.heap.size w w' := by
  have H := Lib.hid h
  have C1 := Lib.hid (dep_all 1200 (by omega) t ht)
  have C2 := Lib.hid (of_all 1200 (by omega) t ht)
  obtain ⟨k, bits, hi, lo, text, more, sub, bs, kids⟩ := t
  obtain ⟨ab, nb, cb, ak, nk, ck, rfl, _⟩ := h
  have HE := Lib.hid (show fitsS (.mk k bits hi lo text more sub bs kids) d s o = fitsN (mayS d s o) k (depT (.mk k bits hi lo text more sub bs kids)) (sizeT (.mk k bits hi lo text more sub bs kids)) d s from rfl)
  generalize fitsS (.mk k bits hi lo text more sub bs kids) d s o = r at HE
  generalize depT (.mk k bits hi lo text more sub bs kids) = dp at C1 HE
  generalize sizeT (.mk k bits hi lo text more sub bs kids) = sz at C2 HE
  cases hm : mayS d s o with
  | false =>
    rw [hm] at HE
    go_enter Try.func25, Try.ntmps25
    go_wp2_with fail
    refine (may_calls d s o _).mono ?_
    rintro e w1 ⟨rfl, hb1⟩
    have h1 := (((Below.refl w.heap.size w).alloc (Nat.le_refl _) (.cells (valCells _ bits hi lo text more sub ab nb cb ak nk ck) 26)).alloc (by simp) (.cells (limCells d s o) 45)).trans (hb1.mono (by simp; omega))
    have H1 := Lib.hid h1
    clear hb1 h1
    go_wp2_with fail
    go_ret
    exact ⟨by rw [HE.out]; rfl, H1.out⟩
  | true =>
    rw [hm] at HE
    have HM := Lib.hid hm
    clear hm
    by_cases hk : k = 3
    · subst hk
      by_cases hd : d < dp
      · have e1 : decide (d < (dp : Int)) = true := by simpa using hd
        have HE2 := Lib.hid (HE.out.trans (show fitsN true 3 dp sz d s = 8 by unfold fitsN; simp [hd]))
        clear HE hd
        go_enter Try.func25, Try.ntmps25
        go_wp2_with fail
        refine (may_calls d s o _).mono ?_
        rintro e w1 ⟨rfl, hb1⟩
        have h1 := (((Below.refl w.heap.size w).alloc (Nat.le_refl _) (.cells (valCells _ bits hi lo text more sub ab nb cb ak nk ck) 26)).alloc (by simp) (.cells (limCells d s o) 45)).trans (hb1.mono (by simp; omega))
        have H1 := Lib.hid h1
        rw [HM.out]
        have c0 := fun (j : Nat) => hb1.cell (p := ⟨w.heap.size, j, none⟩) (by simp; omega)
        have c1 := fun (j : Nat) => hb1.cell (p := ⟨w.heap.size + 1, j, none⟩) (by simp)
        simp [go_sem, valCells] at c0 c1
        have d0 := c0 0
        have d1 := c0 1
        have d2 := c0 2
        have d3 := c0 3
        have d4 := c0 4
        have d5 := c0 5
        have d6 := c0 6
        have d7 := c0 7
        have d8 := c0 8
        have x0 := c1 0
        have x1 := c1 1
        have x2 := c1 2
        simp at d0 d1 d2 d3 d4 d5 d6 d7 d8 x0 x1 x2
        clear c0 c1
        clear hb1 h1
        have hT : Hid (RdT w1 (.mk 3 bits hi lo text more sub bs kids) (valCells 3 bits hi lo text more sub ab nb cb ak nk ck)) := H.out.keep H1.out
        go_wp2_with fail
        go_region_held3 (fun w' => Hid (RdT w' (.mk 3 bits hi lo text more sub bs kids) (valCells 3 bits hi lo text more sub ab nb cb ak nk ck)) ∧ Hid (Below w.heap.size w w') ∧ w'.cell? ⟨w.heap.size, 0, none⟩ = some (.int .i64 3) ∧ w'.cell? ⟨w.heap.size, 1, none⟩ = some (.int .u64 (bits : Nat)) ∧ w'.cell? ⟨w.heap.size, 2, none⟩ = some (.int .u64 (hi : Nat)) ∧ w'.cell? ⟨w.heap.size, 3, none⟩ = some (.int .u64 (lo : Nat)) ∧ w'.cell? ⟨w.heap.size, 4, none⟩ = some (.string text) ∧ w'.cell? ⟨w.heap.size, 5, none⟩ = some (.string more) ∧ w'.cell? ⟨w.heap.size, 6, none⟩ = some (.int .i64 sub) ∧ w'.cell? ⟨w.heap.size, 7, none⟩ = some (.slice ab nb cb) ∧ w'.cell? ⟨w.heap.size, 8, none⟩ = some (.slice ak nk ck) ∧ w'.cell? ⟨w.heap.size + 1, 0, none⟩ = some (.int .i64 d) ∧ w'.cell? ⟨w.heap.size + 1, 1, none⟩ = some (.int .i64 s) ∧ w'.cell? ⟨w.heap.size + 1, 2, none⟩ = some (.int .i64 o)) ((repeat' apply And.intro) <;> first | (simp [*]; done) | (refine below_cell ‹Below _ _ _› ?_; simp [*]; done) | exact hT_next ‹Below _ _ _› (‹Hid (RdT _ _ _) ∧ Hid (Below _ _ _) ∧ _›).1 | exact hB_next ‹Below _ _ _› (‹Hid (RdT _ _ _) ∧ Hid (Below _ _ _) ∧ _›).2.1 | exact hT_drew ‹Hid (RdT _ _ _)› | exact hB_drew ‹Hid (Below _ _ _)›) ((go_at_call 41; refine (C1.out _ _ (‹Hid (RdT _ _ _) ∧ Hid (Below _ _ _) ∧ _›).1.out).mono ?_; rintro e w' ⟨rfl, hb⟩))
        all_goals
          go_wp2_with fail
          go_ret
          exact ⟨by rw [HE2.out]; rfl, (‹Hid (RdT _ _ _) ∧ Hid (Below _ _ _) ∧ _›).2.1.out⟩
      · have e1 : decide (d < (dp : Int)) = false := by simpa using hd
        by_cases hs : s < sz
        · have e2 : decide (s < sz) = true := by simpa using hs
          have HE2 := Lib.hid (HE.out.trans (show fitsN true 3 dp sz d s = 9 by unfold fitsN; simp [hd, hs]))
          clear HE hd hs
          go_enter Try.func25, Try.ntmps25
          go_wp2_with fail
          refine (may_calls d s o _).mono ?_
          rintro e w1 ⟨rfl, hb1⟩
          have h1 := (((Below.refl w.heap.size w).alloc (Nat.le_refl _) (.cells (valCells _ bits hi lo text more sub ab nb cb ak nk ck) 26)).alloc (by simp) (.cells (limCells d s o) 45)).trans (hb1.mono (by simp; omega))
          have H1 := Lib.hid h1
          rw [HM.out]
          have c0 := fun (j : Nat) => hb1.cell (p := ⟨w.heap.size, j, none⟩) (by simp; omega)
          have c1 := fun (j : Nat) => hb1.cell (p := ⟨w.heap.size + 1, j, none⟩) (by simp)
          simp [go_sem, valCells] at c0 c1
          have d0 := c0 0
          have d1 := c0 1
          have d2 := c0 2
          have d3 := c0 3
          have d4 := c0 4
          have d5 := c0 5
          have d6 := c0 6
          have d7 := c0 7
          have d8 := c0 8
          have x0 := c1 0
          have x1 := c1 1
          have x2 := c1 2
          simp at d0 d1 d2 d3 d4 d5 d6 d7 d8 x0 x1 x2
          clear c0 c1
          clear hb1 h1
          have hT : Hid (RdT w1 (.mk 3 bits hi lo text more sub bs kids) (valCells 3 bits hi lo text more sub ab nb cb ak nk ck)) := H.out.keep H1.out
          go_wp2_with fail
          go_region_held3 (fun w' => Hid (RdT w' (.mk 3 bits hi lo text more sub bs kids) (valCells 3 bits hi lo text more sub ab nb cb ak nk ck)) ∧ Hid (Below w.heap.size w w') ∧ w'.cell? ⟨w.heap.size, 0, none⟩ = some (.int .i64 3) ∧ w'.cell? ⟨w.heap.size, 1, none⟩ = some (.int .u64 (bits : Nat)) ∧ w'.cell? ⟨w.heap.size, 2, none⟩ = some (.int .u64 (hi : Nat)) ∧ w'.cell? ⟨w.heap.size, 3, none⟩ = some (.int .u64 (lo : Nat)) ∧ w'.cell? ⟨w.heap.size, 4, none⟩ = some (.string text) ∧ w'.cell? ⟨w.heap.size, 5, none⟩ = some (.string more) ∧ w'.cell? ⟨w.heap.size, 6, none⟩ = some (.int .i64 sub) ∧ w'.cell? ⟨w.heap.size, 7, none⟩ = some (.slice ab nb cb) ∧ w'.cell? ⟨w.heap.size, 8, none⟩ = some (.slice ak nk ck) ∧ w'.cell? ⟨w.heap.size + 1, 0, none⟩ = some (.int .i64 d) ∧ w'.cell? ⟨w.heap.size + 1, 1, none⟩ = some (.int .i64 s) ∧ w'.cell? ⟨w.heap.size + 1, 2, none⟩ = some (.int .i64 o)) ((repeat' apply And.intro) <;> first | (simp [*]; done) | (refine below_cell ‹Below _ _ _› ?_; simp [*]; done) | exact hT_next ‹Below _ _ _› (‹Hid (RdT _ _ _) ∧ Hid (Below _ _ _) ∧ _›).1 | exact hB_next ‹Below _ _ _› (‹Hid (RdT _ _ _) ∧ Hid (Below _ _ _) ∧ _›).2.1 | exact hT_drew ‹Hid (RdT _ _ _)› | exact hB_drew ‹Hid (Below _ _ _)›) ((go_at_call 41; refine (C1.out _ _ (‹Hid (RdT _ _ _) ∧ Hid (Below _ _ _) ∧ _›).1.out).mono ?_; rintro e w' ⟨rfl, hb⟩))
          all_goals
            clear d0 d1 d2 d3 d4 d5 d6 d7 d8 x0 x1 x2 hT H1
            obtain ⟨hT2, hB2, d0, d1, d2, d3, d4, d5, d6, d7, d8, x0, x1, x2⟩ := ‹Hid (RdT _ _ _) ∧ Hid (Below _ _ _) ∧ _›
            go_wp2_with fail
            go_region_held3 (fun w' => Hid (RdT w' (.mk 3 bits hi lo text more sub bs kids) (valCells 3 bits hi lo text more sub ab nb cb ak nk ck)) ∧ Hid (Below w.heap.size w w') ∧ w'.cell? ⟨w.heap.size, 0, none⟩ = some (.int .i64 3) ∧ w'.cell? ⟨w.heap.size, 1, none⟩ = some (.int .u64 (bits : Nat)) ∧ w'.cell? ⟨w.heap.size, 2, none⟩ = some (.int .u64 (hi : Nat)) ∧ w'.cell? ⟨w.heap.size, 3, none⟩ = some (.int .u64 (lo : Nat)) ∧ w'.cell? ⟨w.heap.size, 4, none⟩ = some (.string text) ∧ w'.cell? ⟨w.heap.size, 5, none⟩ = some (.string more) ∧ w'.cell? ⟨w.heap.size, 6, none⟩ = some (.int .i64 sub) ∧ w'.cell? ⟨w.heap.size, 7, none⟩ = some (.slice ab nb cb) ∧ w'.cell? ⟨w.heap.size, 8, none⟩ = some (.slice ak nk ck) ∧ w'.cell? ⟨w.heap.size + 1, 0, none⟩ = some (.int .i64 d) ∧ w'.cell? ⟨w.heap.size + 1, 1, none⟩ = some (.int .i64 s) ∧ w'.cell? ⟨w.heap.size + 1, 2, none⟩ = some (.int .i64 o)) ((repeat' apply And.intro) <;> first | (simp [*]; done) | (refine below_cell ‹Below _ _ _› ?_; simp [*]; done) | exact hT_next ‹Below _ _ _› (‹Hid (RdT _ _ _) ∧ Hid (Below _ _ _) ∧ _›).1 | exact hB_next ‹Below _ _ _› (‹Hid (RdT _ _ _) ∧ Hid (Below _ _ _) ∧ _›).2.1 | exact hT_drew ‹Hid (RdT _ _ _)› | exact hB_drew ‹Hid (Below _ _ _)›) ((go_at_call 12; refine (C2.out _ _ (‹Hid (RdT _ _ _) ∧ Hid (Below _ _ _) ∧ _›).1.out).mono ?_; rintro e w' ⟨rfl, hb⟩))
            all_goals
              go_wp2_with fail
              go_ret
              exact ⟨by rw [HE2.out]; rfl, (‹Hid (RdT _ _ _) ∧ Hid (Below _ _ _) ∧ _›).2.1.out⟩
        · have e2 : decide (s < sz) = false := by simpa using hs
          have HE2 := Lib.hid (HE.out.trans (show fitsN true 3 dp sz d s = 0 by unfold fitsN; simp [hd, hs]))
          clear HE hd hs
          go_enter Try.func25, Try.ntmps25
          go_wp2_with fail
          refine (may_calls d s o _).mono ?_
          rintro e w1 ⟨rfl, hb1⟩
          have h1 := (((Below.refl w.heap.size w).alloc (Nat.le_refl _) (.cells (valCells _ bits hi lo text more sub ab nb cb ak nk ck) 26)).alloc (by simp) (.cells (limCells d s o) 45)).trans (hb1.mono (by simp; omega))
          have H1 := Lib.hid h1
          rw [HM.out]
          have c0 := fun (j : Nat) => hb1.cell (p := ⟨w.heap.size, j, none⟩) (by simp; omega)
          have c1 := fun (j : Nat) => hb1.cell (p := ⟨w.heap.size + 1, j, none⟩) (by simp)
          simp [go_sem, valCells] at c0 c1
          have d0 := c0 0
          have d1 := c0 1
          have d2 := c0 2
          have d3 := c0 3
          have d4 := c0 4
          have d5 := c0 5
          have d6 := c0 6
          have d7 := c0 7
          have d8 := c0 8
          have x0 := c1 0
          have x1 := c1 1
          have x2 := c1 2
          simp at d0 d1 d2 d3 d4 d5 d6 d7 d8 x0 x1 x2
          clear c0 c1
          clear hb1 h1
          have hT : Hid (RdT w1 (.mk 3 bits hi lo text more sub bs kids) (valCells 3 bits hi lo text more sub ab nb cb ak nk ck)) := H.out.keep H1.out
          go_wp2_with fail
          go_region_held3 (fun w' => Hid (RdT w' (.mk 3 bits hi lo text more sub bs kids) (valCells 3 bits hi lo text more sub ab nb cb ak nk ck)) ∧ Hid (Below w.heap.size w w') ∧ w'.cell? ⟨w.heap.size, 0, none⟩ = some (.int .i64 3) ∧ w'.cell? ⟨w.heap.size, 1, none⟩ = some (.int .u64 (bits : Nat)) ∧ w'.cell? ⟨w.heap.size, 2, none⟩ = some (.int .u64 (hi : Nat)) ∧ w'.cell? ⟨w.heap.size, 3, none⟩ = some (.int .u64 (lo : Nat)) ∧ w'.cell? ⟨w.heap.size, 4, none⟩ = some (.string text) ∧ w'.cell? ⟨w.heap.size, 5, none⟩ = some (.string more) ∧ w'.cell? ⟨w.heap.size, 6, none⟩ = some (.int .i64 sub) ∧ w'.cell? ⟨w.heap.size, 7, none⟩ = some (.slice ab nb cb) ∧ w'.cell? ⟨w.heap.size, 8, none⟩ = some (.slice ak nk ck) ∧ w'.cell? ⟨w.heap.size + 1, 0, none⟩ = some (.int .i64 d) ∧ w'.cell? ⟨w.heap.size + 1, 1, none⟩ = some (.int .i64 s) ∧ w'.cell? ⟨w.heap.size + 1, 2, none⟩ = some (.int .i64 o)) ((repeat' apply And.intro) <;> first | (simp [*]; done) | (refine below_cell ‹Below _ _ _› ?_; simp [*]; done) | exact hT_next ‹Below _ _ _› (‹Hid (RdT _ _ _) ∧ Hid (Below _ _ _) ∧ _›).1 | exact hB_next ‹Below _ _ _› (‹Hid (RdT _ _ _) ∧ Hid (Below _ _ _) ∧ _›).2.1 | exact hT_drew ‹Hid (RdT _ _ _)› | exact hB_drew ‹Hid (Below _ _ _)›) ((go_at_call 41; refine (C1.out _ _ (‹Hid (RdT _ _ _) ∧ Hid (Below _ _ _) ∧ _›).1.out).mono ?_; rintro e w' ⟨rfl, hb⟩))
          all_goals
            clear d0 d1 d2 d3 d4 d5 d6 d7 d8 x0 x1 x2 hT H1
            obtain ⟨hT2, hB2, d0, d1, d2, d3, d4, d5, d6, d7, d8, x0, x1, x2⟩ := ‹Hid (RdT _ _ _) ∧ Hid (Below _ _ _) ∧ _›
            go_wp2_with fail
            go_region_held3 (fun w' => Hid (RdT w' (.mk 3 bits hi lo text more sub bs kids) (valCells 3 bits hi lo text more sub ab nb cb ak nk ck)) ∧ Hid (Below w.heap.size w w') ∧ w'.cell? ⟨w.heap.size, 0, none⟩ = some (.int .i64 3) ∧ w'.cell? ⟨w.heap.size, 1, none⟩ = some (.int .u64 (bits : Nat)) ∧ w'.cell? ⟨w.heap.size, 2, none⟩ = some (.int .u64 (hi : Nat)) ∧ w'.cell? ⟨w.heap.size, 3, none⟩ = some (.int .u64 (lo : Nat)) ∧ w'.cell? ⟨w.heap.size, 4, none⟩ = some (.string text) ∧ w'.cell? ⟨w.heap.size, 5, none⟩ = some (.string more) ∧ w'.cell? ⟨w.heap.size, 6, none⟩ = some (.int .i64 sub) ∧ w'.cell? ⟨w.heap.size, 7, none⟩ = some (.slice ab nb cb) ∧ w'.cell? ⟨w.heap.size, 8, none⟩ = some (.slice ak nk ck) ∧ w'.cell? ⟨w.heap.size + 1, 0, none⟩ = some (.int .i64 d) ∧ w'.cell? ⟨w.heap.size + 1, 1, none⟩ = some (.int .i64 s) ∧ w'.cell? ⟨w.heap.size + 1, 2, none⟩ = some (.int .i64 o)) ((repeat' apply And.intro) <;> first | (simp [*]; done) | (refine below_cell ‹Below _ _ _› ?_; simp [*]; done) | exact hT_next ‹Below _ _ _› (‹Hid (RdT _ _ _) ∧ Hid (Below _ _ _) ∧ _›).1 | exact hB_next ‹Below _ _ _› (‹Hid (RdT _ _ _) ∧ Hid (Below _ _ _) ∧ _›).2.1 | exact hT_drew ‹Hid (RdT _ _ _)› | exact hB_drew ‹Hid (Below _ _ _)›) ((go_at_call 12; refine (C2.out _ _ (‹Hid (RdT _ _ _) ∧ Hid (Below _ _ _) ∧ _›).1.out).mono ?_; rintro e w' ⟨rfl, hb⟩))
            all_goals
              go_wp2_with fail
              go_ret
              exact ⟨by rw [HE2.out]; rfl, (‹Hid (RdT _ _ _) ∧ Hid (Below _ _ _) ∧ _›).2.1.out⟩
    · have n3 : (k != 3) = true := by simpa using hk
      have HE2 := Lib.hid (HE.out.trans (show fitsN true k dp sz d s = 5 by unfold fitsN; simp [hk]))
      clear HE hk
      go_enter Try.func25, Try.ntmps25
      go_wp2_with fail
      refine (may_calls d s o _).mono ?_
      rintro e w1 ⟨rfl, hb1⟩
      have h1 := (((Below.refl w.heap.size w).alloc (Nat.le_refl _) (.cells (valCells _ bits hi lo text more sub ab nb cb ak nk ck) 26)).alloc (by simp) (.cells (limCells d s o) 45)).trans (hb1.mono (by simp; omega))
      have H1 := Lib.hid h1
      rw [HM.out]
      have c0 := fun (j : Nat) => hb1.cell (p := ⟨w.heap.size, j, none⟩) (by simp; omega)
      have c1 := fun (j : Nat) => hb1.cell (p := ⟨w.heap.size + 1, j, none⟩) (by simp)
      simp [go_sem, valCells] at c0 c1
      have d0 := c0 0
      have d1 := c0 1
      have d2 := c0 2
      have d3 := c0 3
      have d4 := c0 4
      have d5 := c0 5
      have d6 := c0 6
      have d7 := c0 7
      have d8 := c0 8
      have x0 := c1 0
      have x1 := c1 1
      have x2 := c1 2
      simp at d0 d1 d2 d3 d4 d5 d6 d7 d8 x0 x1 x2
      clear c0 c1
      clear hb1 h1
      go_wp2_with fail
      go_ret
      exact ⟨by rw [HE2.out]; rfl, H1.out⟩

end Go.Proofs.Ytiodjhcjfbnocaa
