/- Bytes that came in, with what is known of their room. -/
import Derived.Test.YtikjmlidgiphjaaDoorOpen
namespace Go.Proofs.YtikjmlidgiphjaaDoor
open Go.ChangeShapes Go.WideShapes Go.ChangeAt Go.RowKit
set_option linter.unusedVariables false
set_option linter.unusedSimpArgs false

theorem open_room {H : Type} {enc : TypeId × Value → H} {P : Program} {W : World} {t e : TypeId} {a : Option Addr} {len cap : Nat} {d : DataW H} {p : List MemPlace}
    (ht : P.underlying t = some (.slice e)) (h : DataW.Trod enc P W 0 (fun _ => true) true t (.slice a len cap) d p) : (a = none → cap = 0) ∧ len ≤ cap := by
  obtain ⟨fuel, hf⟩ := h
  rcases DataW.trod_slice ht hf with ⟨e, _⟩ | ⟨x, l, c, elems, rest, m, hm, e, _, _, hlc, hcm, hel, hat, _⟩
  · simp [Value.cells] at e
    obtain ⟨rfl, rfl, rfl⟩ := e
    exact ⟨fun _ => rfl, Nat.le_refl _⟩
  · simp [Value.cells] at e
    obtain ⟨rfl, rfl, rfl⟩ := e
    exact ⟨fun h => by simp at h, hlc⟩

theorem open_bytesc {H : Type} {enc : TypeId × Value → H} {P : Program} {W : World} {t e : TypeId} {a : Option Addr} {len cap : Nat} {d : DataW H} {p : List MemPlace}
    (ht : P.underlying t = some (.slice e)) (he : P.underlying e = some (.int .u8)) (hc : P.cellsOf e = 1) (h : DataW.Trod enc P W 0 (fun _ => true) true t (.slice a len cap) d p) : ∃ l, RdB W a len l ∧ (a = none → cap = 0) ∧ len ≤ cap := by
  obtain ⟨l, hl⟩ := open_bytes ht he hc h
  exact ⟨l, hl, open_room ht h⟩

end Go.Proofs.YtikjmlidgiphjaaDoor
