/- Rows of rows that came in. -/
import Derived.Test.YtcoapmfbibjjpaaOpen
import Derived.Deep.Matrix
namespace Go.Proofs.Ytcoapmfbibjjpaa
open Go.ChangeShapes Go.WideShapes Go.ChangeAt Go.RowKit
set_option linter.unusedVariables false
set_option linter.unusedSimpArgs false

/-- A slice of slices of bytes. -/
def RdBB (w : World) (a : Option Addr) (len : Nat) (L : Nat → List UInt8) : Prop :=
  len ≤ 9223372036854775807 ∧ ∀ i, i < len → ∃ b o ai ci, a = some ⟨b, o, none⟩ ∧ w.cell? ⟨b, o + i, none⟩ = some (.slice ai (L i).length ci) ∧ RdB w ai (L i).length (L i) ∧ (ai = none → ci = 0)

theorem RdBB.keep {w w' : World} {a len L} (h : RdBB w a len L) (hb : Below w.heap.size w w') : RdBB w' a len L := by
  refine ⟨h.1, fun i hi => ?_⟩
  obtain ⟨b, o, ai, ci, ha, hc, hr, hn⟩ := h.2 i hi
  exact ⟨b, o, ai, ci, ha, by rw [hb.cell (p := ⟨b, o + i, none⟩) (by simpa using cell_block hc)]; exact hc, hr.keep hb, hn⟩

theorem open_bytess {H : Type} {enc : TypeId × Value → H} {P : Program} {W : World} {t e q : TypeId} {a : Option Addr} {len cap : Nat} {d : DataW H} {p : List MemPlace}
    (ht : P.underlying t = some (.slice e)) (he : P.underlying e = some (.slice q)) (hq : P.underlying q = some (.int .u8)) (ce : P.cellsOf e = 1) (cq : P.cellsOf q = 1)
    (h : DataW.Trod enc P W 0 (fun _ => true) true t (.slice a len cap) d p) : ∃ L, RdBB W a len L := by
  obtain ⟨fuel, hf⟩ := h
  rcases Go.Deep.open_int_rows ht he hq ce cq hf with ⟨hcs, _⟩ | ⟨x, l, c, A, Ln, C, Z, hcs, _, hl, hm, _, hr⟩
  · simp [Value.cells] at hcs
    obtain ⟨rfl, rfl, rfl⟩ := hcs
    exact ⟨fun _ => [], by omega, fun i hi => absurd hi (Nat.not_lt_zero i)⟩
  · simp [Value.cells] at hcs
    obtain ⟨rfl, rfl, rfl⟩ := hcs
    refine ⟨fun i => ((Z i).take (Ln i)).map fun n => UInt8.ofNat n.toNat, by unfold maxLen at hm; omega, fun i hi => ?_⟩
    obtain ⟨hc, h1, h2, h3, h4, h5, h6⟩ := hr i (by omega)
    obtain ⟨b, o, s⟩ := x
    have hx : s = none := by
      have := World.cell?_spot (hr 0 (by omega)).1
      simpa [Addr.add] using this
    subst hx
    have hll : (((Z i).take (Ln i)).map fun n => UInt8.ofNat n.toNat).length = Ln i := by simp; omega
    have hI : RdI .u8 W (A i) (Ln i) ((Z i).take (Ln i)) := by
      refine ⟨by simp; omega, by unfold maxLen at h2; omega, fun n hn => h4 n (List.mem_of_mem_take hn), ?_⟩
      cases hA : A i with
      | none =>
        have := h5 hA
        intro j hj; omega
      | some y =>
        refine row_of fun j hj => ?_
        rw [getD_take _ _ _ _ hj]
        exact (h6 y hA).2 j (by omega)
    refine ⟨b, o, A i, C i, rfl, ?_, ?_, h5⟩
    · rw [hll, ← add_at]; exact hc
    · rw [hll]; exact hI.bytes

end Go.Proofs.Ytcoapmfbibjjpaa
