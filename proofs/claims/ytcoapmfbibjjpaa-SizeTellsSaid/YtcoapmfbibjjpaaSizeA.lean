/- The statements' own look (awake), and SizeTells. -/
import Derived.Test.YtcoapmfbibjjpaaSizeR
import Derived.Test.YtcoapmfbibjjpaaTreeOpen
namespace Go.Proofs.Ytcoapmfbibjjpaa
open Go.RowKit
set_option linter.unusedVariables false
set_option linter.unusedSimpArgs false

/-- A value of a kind, all else zero. -/
def bareT (k : Int) : T := .mk k 0 0 0 ByteArray.empty ByteArray.empty 0 [] .nil

theorem bare_rd (k : Int) (hk : -9223372036854775808 ≤ k ∧ k ≤ 9223372036854775807) (w : World) : RdT w (bareT k) (valCells k 0 0 0 ByteArray.empty ByteArray.empty 0 none 0 0 none 0 0) :=
  ⟨none, 0, 0, none, 0, 0, rfl, ⟨hk, by unfold okSize; omega, by unfold okSize; omega, by unfold okSize; omega, by simp, by simp, by omega⟩, .nil _ _, rfl, by omega, trivial⟩

set_option maxRecDepth 100000 in
set_option maxHeartbeats 1000000 in
theorem awake19 (w : World) : Calls Try.prog 23 #[] w fun e w' => e = .returned (.bool true) ∧ Below w.heap.size w w' := by
  have C := Lib.hid (of_all 2 (by omega) (bareT 3) (by decide +kernel) w _ (bare_rd 3 (by omega) w))
  have e : Hid (sizeT (bareT 3) = 5) := by show _ = _; decide +kernel
  rw [e.out] at C
  go_enter Try.func23, Try.ntmps23
  go_wp2_with fail
  refine C.out.mono ?_
  rintro e w1 ⟨rfl, hb⟩
  have HB := Lib.hid hb
  clear hb
  go_wp2
  go_ret
  refine ⟨rfl, ?_⟩
  first | exact HB.out | exact HB.out.alloc HB.out.size _ | exact (HB.out.alloc HB.out.size _).alloc (by have := HB.out.size; simp; omega) _

theorem hT_next {W w' : World} {t : T} {c : Array Value} (hb : Below W.heap.size W w') (h : Hid (RdT W t c)) : Hid (RdT w' t c) := h.out.keep hb
theorem hT_drew {W : World} {t : T} {c : Array Value} (h : Hid (RdT W t c)) : Hid (RdT W.drew t c) := h.out.keep (Below.refl _ _).drew
theorem hB_next {a W w' : World} (hb : Below W.heap.size W w') (h : Hid (Below a.heap.size a W)) : Hid (Below a.heap.size a w') := h.out.trans (hb.mono h.out.size)
theorem hB_drew {a W : World} (h : Hid (Below a.heap.size a W)) : Hid (Below a.heap.size a W.drew) := h.out.drew

set_option maxRecDepth 100000 in
set_option maxHeartbeats 1000000 in
theorem SizeTells_walk (w : World) (c : Array Value) (t : T) (h : RdT w t c) :
    Calls Try.prog 7 #[.agg c] w fun e w' => e = .returned (.bool true) ∧ Below w.heap.size w w' := by
  have H := Lib.hid h
  obtain ⟨k, bits, hi, lo, text, more, sub, bs, kids⟩ := t
  obtain ⟨ab, nb, cb, ak, nk, ck, rfl, _⟩ := h
  have hB := (Below.refl w.heap.size w).alloc (Nat.le_refl _) (.cells (valCells k bits hi lo text more sub ab nb cb ak nk ck) 45)
  have HB := Lib.hid hB
  clear hB
  cases hs : smallT (T.mk k bits hi lo text more sub bs kids) with
  | false =>
    have HS := Lib.hid hs
    clear hs
    go_enter Try.func7, Try.ntmps7
    go_wp2_with fail
    refine (awake19 _).mono ?_
    rintro e w1 ⟨rfl, hb1⟩
    have h1 := HB.out.trans (hb1.mono (by simp))
    have H1 := Lib.hid h1
    have c0 := fun (j : Nat) => hb1.cell (p := ⟨w.heap.size, j, none⟩) (by simp)
    simp [go_sem, valCells] at c0
    have d0 := c0 0
    have d1 := c0 1
    have d2 := c0 2
    have d3 := c0 3
    have d4 := c0 4
    have d5 := c0 5
    have d6 := c0 6
    have d7 := c0 7
    have d8 := c0 8
    simp at d0 d1 d2 d3 d4 d5 d6 d7 d8
    clear c0 hb1 h1
    have hT : Hid (RdT w1 (.mk k bits hi lo text more sub bs kids) (valCells k bits hi lo text more sub ab nb cb ak nk ck)) := H.out.keep H1.out
    have CS := Lib.hid (fun W h => small_calls (.mk k bits hi lo text more sub bs kids) W (valCells k bits hi lo text more sub ab nb cb ak nk ck) h)
    rw [HS.out] at CS
    go_wp2_with fail
    go_region_with ((go_at_call 24; refine (CS.out _ (hT_drew hT).out).mono ?_; rintro e w' ⟨rfl, hb⟩))
    all_goals
      go_wp2_with fail
      go_ret
      exact ⟨rfl, (hB_next hb (hB_drew H1)).out⟩
  | true =>
    have HS := Lib.hid hs
    have HWt : Hid (T.wt (T.mk k bits hi lo text more sub bs kids) ≤ 1200) := by
      show _ ≤ 1200
      have h0 : 0 ≤ bookT 1200 (T.mk k bits hi lo text more sub bs kids) := by simpa [smallT] using hs
      have := bookT_wt _ _ h0
      omega
    clear hs
    go_enter Try.func7, Try.ntmps7
    go_wp2_with fail
    refine (awake19 _).mono ?_
    rintro e w1 ⟨rfl, hb1⟩
    have h1 := HB.out.trans (hb1.mono (by simp))
    have H1 := Lib.hid h1
    have c0 := fun (j : Nat) => hb1.cell (p := ⟨w.heap.size, j, none⟩) (by simp)
    simp [go_sem, valCells] at c0
    have d0 := c0 0
    have d1 := c0 1
    have d2 := c0 2
    have d3 := c0 3
    have d4 := c0 4
    have d5 := c0 5
    have d6 := c0 6
    have d7 := c0 7
    have d8 := c0 8
    simp at d0 d1 d2 d3 d4 d5 d6 d7 d8
    clear c0 hb1 h1
    have hT : Hid (RdT w1 (.mk k bits hi lo text more sub bs kids) (valCells k bits hi lo text more sub ab nb cb ak nk ck)) := H.out.keep H1.out
    have CS := Lib.hid (fun W h => small_calls (.mk k bits hi lo text more sub bs kids) W (valCells k bits hi lo text more sub ab nb cb ak nk ck) h)
    have C1 := Lib.hid (of_all 1200 (by omega) _ HWt.out)
    have C2 := Lib.hid (rsize_all 1200 (by omega) _ HWt.out)
    rw [HS.out] at CS
    generalize sizeT (.mk k bits hi lo text more sub bs kids) = z at C1 C2
    have hz : (z == z) = true := by simp
    go_wp2_with fail
    go_region_held3 (fun w' => Hid (RdT w' (.mk k bits hi lo text more sub bs kids) (valCells k bits hi lo text more sub ab nb cb ak nk ck)) ∧ Hid (Below w.heap.size w w') ∧ w'.cell? ⟨w.heap.size, 0, none⟩ = some (.int .i64 k) ∧ w'.cell? ⟨w.heap.size, 1, none⟩ = some (.int .u64 (bits : Nat)) ∧ w'.cell? ⟨w.heap.size, 2, none⟩ = some (.int .u64 (hi : Nat)) ∧ w'.cell? ⟨w.heap.size, 3, none⟩ = some (.int .u64 (lo : Nat)) ∧ w'.cell? ⟨w.heap.size, 4, none⟩ = some (.string text) ∧ w'.cell? ⟨w.heap.size, 5, none⟩ = some (.string more) ∧ w'.cell? ⟨w.heap.size, 6, none⟩ = some (.int .i64 sub) ∧ w'.cell? ⟨w.heap.size, 7, none⟩ = some (.slice ab nb cb) ∧ w'.cell? ⟨w.heap.size, 8, none⟩ = some (.slice ak nk ck)) ((repeat' apply And.intro) <;> first | (simp [*]; done) | (refine below_cell ‹Below _ _ _› ?_; simp [*]; done) | exact hT_next ‹Below _ _ _› (‹Hid (RdT _ _ _) ∧ Hid (Below _ _ _) ∧ _›).1 | exact hB_next ‹Below _ _ _› (‹Hid (RdT _ _ _) ∧ Hid (Below _ _ _) ∧ _›).2.1 | exact hT_drew ‹Hid (RdT _ _ _)› | exact hB_drew ‹Hid (Below _ _ _)›) (first | (go_at_call 24; refine (CS.out _ (‹Hid (RdT _ _ _) ∧ Hid (Below _ _ _) ∧ _›).1.out).mono ?_; rintro e w' ⟨rfl, hb⟩) | (go_at_call 25; refine (C1.out _ _ (‹Hid (RdT _ _ _) ∧ Hid (Below _ _ _) ∧ _›).1.out).mono ?_; rintro e w' ⟨rfl, hb⟩) | (go_at_call 26; refine (C2.out _ _ (‹Hid (RdT _ _ _) ∧ Hid (Below _ _ _) ∧ _›).1.out).mono ?_; rintro e w' ⟨rfl, hb⟩))
    all_goals
      go_wp2_with fail
      go_ret
      exact ⟨rfl, (‹Hid (RdT _ _ _) ∧ Hid (Below _ _ _) ∧ _›).2.1.out⟩
end Go.Proofs.Ytcoapmfbibjjpaa
