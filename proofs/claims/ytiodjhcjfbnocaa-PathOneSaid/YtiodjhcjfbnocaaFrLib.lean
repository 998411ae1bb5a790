/- What an owned row reads as. -/
import Derived.Test.YtiodjhcjfbnocaaLib
namespace Go.Proofs.Ytiodjhcjfbnocaa
open Go.RowKit
set_option linter.unusedVariables false
set_option linter.unusedSimpArgs false

/-- A slice's elements, 'size' cells each. -/
def RdG (w : World) (a : Option Addr) (len size : Nat) (f : Nat → Nat → Value) : Prop :=
  ∀ i, i < len → ∃ b o, a = some ⟨b, o, none⟩ ∧ ∀ j, j < size → w.cell? ⟨b, o + (i * size + j), none⟩ = some (f i j)

theorem RdG.keep {w w' : World} {a len size f} {B : Nat} (h : RdG w a len size f) (hb : Below B w w') (hB : w.heap.size ≤ B) : RdG w' a len size f := by
  intro i hi
  obtain ⟨b, o, ha, hc⟩ := h i hi
  refine ⟨b, o, ha, fun j hj => ?_⟩
  have hl := cell_block (hc j hj)
  rw [hb.cell (p := ⟨b, o + (i * size + j), none⟩) (by simp at hl ⊢; omega)]
  exact hc j hj

theorem owns_reads {w : World} {B e size n : Nat} {v : Value} {xs : List Value} (h : w.ownsRow B e size v n xs) :
    ∃ a cap, v = .slice a n cap ∧ n ≤ 9223372036854775807 ∧ RdG w a n size fun i j => xs.getD (i * size + j) undef := by
  rcases h.2 with ⟨rfl, rfl⟩ | ⟨g, cap, cur, rfl, hb, hg, hnc, hcm, hcs, htake⟩
  · exact ⟨none, 0, rfl, by omega, fun i hi => absurd hi (Nat.not_lt_zero i)⟩
  · refine ⟨some ⟨g, 0, none⟩, cap, rfl, by unfold maxLen at hcm; omega, fun i hi => ⟨g, 0, rfl, fun j hj => ?_⟩⟩
    have hlt : i * size + j < n * size := by
      calc i * size + j < i * size + size := by omega
        _ = (i + 1) * size := by rw [Nat.add_mul, Nat.one_mul]
        _ ≤ n * size := Nat.mul_le_mul_right _ hi
    rw [Nat.zero_add, h.cellAt _ hlt]
    have : i * size + j < xs.length := by rw [h.1]; exact hlt
    show _ = some (xs.getD (i * size + j) undef)
    rw [List.getD_eq_getElem?_getD, List.getElem?_eq_getElem this]
    rfl

end Go.Proofs.Ytiodjhcjfbnocaa
