/- A number that lies in a block, as a row of one. -/
import Derived.Test.YtiodjhcjfbnocaaPaA
namespace Go.Proofs.Ytiodjhcjfbnocaa
open Go.RowKit
set_option linter.unusedVariables false
set_option linter.unusedSimpArgs false

theorem src_cell {W : World} {g : Nat} {x : Int} (h : W.cell? ⟨g, 0, none⟩ = some (.int .i64 x)) : Src W (.slice (some ⟨g, 0, none⟩) 1 1) [x].length 1 (intCells [x]) := by
  refine .inr ⟨⟨g, 0, none⟩, 1, rfl, rfl, fun j u hj => ?_, by simp [intCells, Value.oneCell']⟩
  have h0 : j = 0 := by
    have := (List.getElem?_eq_some_iff.1 hj).1
    simp [intCells] at this
    omega
  subst h0
  have hu : u = .int .i64 x := by simpa [intCells] using hj.symm
  rw [hu, add_at]
  simpa using h

end Go.Proofs.Ytiodjhcjfbnocaa
