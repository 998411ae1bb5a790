/- How deep a tree is, plainly. -/
import Derived.Test.YtkcfkdmffbhljaaWt
import Derived.Test.YtkcfkdmffbhljaaBook2
namespace Go.Proofs.Ytkcfkdmffbhljaa
open Go.RowKit
set_option linter.unusedVariables false
set_option linter.unusedSimpArgs false

/-- Has a Kind Kids? -/
def isK (k : Int) : Bool := k == 3 || k == 4 || k == 15

mutual
def depT : T → Nat
  | .mk k _ _ _ _ _ _ _ kids => bif isK k then depF kids + 1 else 0
def depF : F → Nat
  | .nil => 0
  | .cons _ t r => max (depT t) (depF r)
end

mutual
theorem depT_wt : ∀ t : T, depT t + 1 ≤ t.wt
  | .mk k _ _ _ _ _ _ _ kids => by
    have := depF_wt kids
    simp only [depT, T.wt]
    cases isK k <;> simp <;> omega
theorem depF_wt : ∀ f : F, depF f ≤ f.wt
  | .nil => by simp [depF]
  | .cons n t r => by
    have h1 := depT_wt t
    have h2 := depF_wt r
    simp only [depF, F.wt]
    omega
end

theorem depF_get (f : F) (i : Nat) (n : ByteArray) (t : T) (h : f.get? i = some (n, t)) : depF (f.drop i) = max (depT t) (depF (f.drop (i + 1))) := by
  rw [F.drop_get f i n t h]; rfl

end Go.Proofs.Ytkcfkdmffbhljaa
