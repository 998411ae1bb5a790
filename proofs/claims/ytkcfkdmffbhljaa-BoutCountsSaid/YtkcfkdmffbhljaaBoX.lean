/- A value's box. -/
import Derived.Test.YtkcfkdmffbhljaaTreeS
import Derived.Lib.Hide
namespace Go.Proofs.Ytkcfkdmffbhljaa
open Go.RowKit
set_option linter.unusedVariables false
set_option linter.unusedSimpArgs false

/-- A value's box: its nine cells, none of them frozen. -/
def BoxV (W : World) (g : Nat) (c : Array Value) : Prop := g < W.heap.size ∧ ∀ j, j < 9 → W.cell? ⟨g, j, none⟩ = c[j]? ∧ W.frozen? ⟨g, j, none⟩ = false

theorem BoxV.block {W W' : World} {g : Nat} {c : Array Value} (h : BoxV W g c) (hs : W.heap.size ≤ W'.heap.size) (hb : W'.heap[g]? = W.heap[g]?) : BoxV W' g c :=
  ⟨Nat.lt_of_lt_of_le h.1 hs, fun j hj => ⟨(World.cell?_of_block (w := W) hb).trans (h.2 j hj).1, (World.frozen?_of_block (w := W) hb).trans (h.2 j hj).2⟩⟩

theorem BoxV.below {B : Nat} {W W' : World} {g : Nat} {c : Array Value} (h : BoxV W g c) (hb : Below B W W') (hg : g < B) : BoxV W' g c := h.block hb.size (hb.block g hg)

theorem BoxV.keep {W W' : World} {g : Nat} {c : Array Value} (h : BoxV W g c) (hb : Below W.heap.size W W') : BoxV W' g c := h.block hb.size (hb.block g h.1)

theorem BoxV.chg {X : Nat → Prop} {W W' : World} {g : Nat} {c : Array Value} (h : BoxV W g c) (hb : Chg X W W') (hg : ¬ X g) : BoxV W' g c := h.block hb.size (hb.block g h.1 hg)

theorem BoxV.new (w : World) (c : Array Value) (t : TypeId) : BoxV (w.alloc (.cells c t)) w.heap.size c :=
  ⟨by simp, fun j _ => ⟨by simp [go_sem], by simp⟩⟩

theorem BoxV.set {W : World} {g : Nat} {c : Array Value} (h : BoxV W g c) (i : Nat) (v : Value) (hi : i < c.size) (h9 : i < 9) : BoxV (W.setCell ⟨g, i, none⟩ v) g (c.setIfInBounds i v) := by
  refine ⟨by simpa [World.setCell] using h.1, fun j hj => ⟨?_, by rw [World.frozen?_setCell]; exact (h.2 j hj).2⟩⟩
  by_cases e : i = j
  · subst e
    rw [World.cell?_setCell_same _ _ _ (u := c[i]) (by rw [(h.2 i h9).1, Array.getElem?_eq_getElem hi])]
    simp [Array.getElem?_setIfInBounds, hi]
  · rw [World.cell?_setCell_other _ _ _ _ (fun q => e (Addr.mk.inj q).2.1), (h.2 j hj).1]
    simp [Array.getElem?_setIfInBounds, e]

theorem Chg.set1 (w : World) (g i : Nat) (v : Value) : Chg (fun k => k = g) w (w.setCell ⟨g, i, none⟩ v) := (Chg.refl (fun k => k = g) w).setCell (p := ⟨g, i, none⟩) (fun _ => rfl) v

theorem Chg.set2 {X : Nat → Prop} {w w' : World} {g : Nat} (h : Chg X w w') (hg : X g) (i : Nat) (v : Value) : Chg X w (w'.setCell ⟨g, i, none⟩ v) := h.setCell (p := ⟨g, i, none⟩) (fun _ => hg) v

theorem BoxV.nine {W : World} {g : Nat} {k : Int} {bits hi lo : Nat} {text more : ByteArray} {sub : Int} {ab : Option Addr} {nb cb : Nat} {ak : Option Addr} {nk ck : Nat} (h : BoxV W g (valCells k bits hi lo text more sub ab nb cb ak nk ck)) :
    W.cell? ⟨g, 0, none⟩ = some (.int .i64 k) ∧ W.cell? ⟨g, 1, none⟩ = some (.int .u64 (bits : Nat)) ∧ W.cell? ⟨g, 2, none⟩ = some (.int .u64 (hi : Nat)) ∧ W.cell? ⟨g, 3, none⟩ = some (.int .u64 (lo : Nat)) ∧ W.cell? ⟨g, 4, none⟩ = some (.string text) ∧ W.cell? ⟨g, 5, none⟩ = some (.string more) ∧ W.cell? ⟨g, 6, none⟩ = some (.int .i64 sub) ∧ W.cell? ⟨g, 7, none⟩ = some (.slice ab nb cb) ∧ W.cell? ⟨g, 8, none⟩ = some (.slice ak nk ck) ∧ g < W.heap.size :=
  ⟨(h.2 0 (by omega)).1, (h.2 1 (by omega)).1, (h.2 2 (by omega)).1, (h.2 3 (by omega)).1, (h.2 4 (by omega)).1, (h.2 5 (by omega)).1, (h.2 6 (by omega)).1, (h.2 7 (by omega)).1, (h.2 8 (by omega)).1, h.1⟩

/-- A tree's cells, by their letters. -/
theorem RdT.shape {W : World} {t : T} {c : Array Value} (h : RdT W t c) : ∃ k bits hi lo text more sub ab nb cb ak nk ck, c = (valCells k bits hi lo text more sub ab nb cb ak nk ck) := by
  obtain ⟨k, bits, hi, lo, text, more, sub, bs, kids⟩ := t
  obtain ⟨ab, nb, cb, ak, nk, ck, rfl, -⟩ := h
  exact ⟨_, _, _, _, _, _, _, _, _, _, _, _, _, rfl⟩

end Go.Proofs.Ytkcfkdmffbhljaa
