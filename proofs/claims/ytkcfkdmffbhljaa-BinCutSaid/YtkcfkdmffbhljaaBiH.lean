/- bin's reader: value, document and scoped together. -/
import Derived.Test.YtkcfkdmffbhljaaBiC
import Derived.Test.YtkcfkdmffbhljaaBiD
import Derived.Test.YtkcfkdmffbhljaaBiG
namespace Go.Proofs.Ytkcfkdmffbhljaa

theorem reads_all : ∀ d : Nat, VlSaid d ∧ DcSaid d ∧ ScSaid d := by
  intro d
  induction d using Nat.strongRecOn with
  | _ d ih =>
    have h1 := dc_step d (fun d' h => (ih d' h).1)
    have h2 := sc_step d h1
    exact ⟨vl_step d h1 h2, h1, h2⟩

end Go.Proofs.Ytkcfkdmffbhljaa
