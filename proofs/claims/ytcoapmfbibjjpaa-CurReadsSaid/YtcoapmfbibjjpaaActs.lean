/- A script of a Reader's acts, as it lies. -/
import Derived.Test.YtcoapmfbibjjpaaRows
import Derived.Test.YtcoapmfbibjjpaaOpen
namespace Go.Proofs.Ytcoapmfbibjjpaa
open Go.ChangeShapes Go.WideShapes Go.ChangeAt Go.RowKit
set_option linter.unusedVariables false
set_option linter.unusedSimpArgs false

def inI64 (n : Int) : Prop := -9223372036854775808 ≤ n ∧ n ≤ 9223372036854775807

/-- A slice of pairs of numbers. -/
def RdA (w : World) (a : Option Addr) (len : Nat) (f : Nat → Int × Int) : Prop :=
  len ≤ 9223372036854775807 ∧ ∀ i, i < len → inI64 (f i).1 ∧ inI64 (f i).2 ∧ ∃ b o, a = some ⟨b, o, none⟩ ∧ w.cell? ⟨b, o + i * 2, none⟩ = some (.int .i64 (f i).1) ∧ w.cell? ⟨b, o + i * 2 + 1, none⟩ = some (.int .i64 (f i).2)

theorem RdA.keep {w w' : World} {a len f} (h : RdA w a len f) (hb : Below w.heap.size w w') : RdA w' a len f := by
  refine ⟨h.1, fun i hi => ?_⟩
  obtain ⟨h1, h2, b, o, ha, hc, hd⟩ := h.2 i hi
  exact ⟨h1, h2, b, o, ha, by rw [hb.cell (p := ⟨b, o + i * 2, none⟩) (by simpa using cell_block hc)]; exact hc, by rw [hb.cell (p := ⟨b, o + i * 2 + 1, none⟩) (by simpa using cell_block hd)]; exact hd⟩

theorem cellsAct : Try.prog.cellsOf 78 = 2 := by kernel_rfl
theorem cellsInt : Try.prog.cellsOf 3 = 1 := by kernel_rfl

set_option maxRecDepth 100000 in
theorem open_acts {H : Type} {enc : TypeId × Value → H} {W : World} {a : Option Addr} {len cap : Nat} {d : DataW H} {p : List MemPlace}
    (h : DataW.Trod enc Try.prog W 0 (fun _ => true) true 76 (.slice a len cap) d p) : ∃ f, RdA W a len f := by
  obtain ⟨fuel, hf⟩ := h
  rcases DataW.trod_slice Try.underlying76 hf with ⟨e, _⟩ | ⟨x, l, c, elems, rest, m, hm, e, _, _, hlc, hcm, hel, hat, _⟩
  · simp [Value.cells] at e
    obtain ⟨rfl, rfl, rfl⟩ := e
    exact ⟨fun _ => (0, 0), by omega, fun i hi => absurd hi (Nat.not_lt_zero i)⟩
  · simp [Value.cells] at e
    obtain ⟨rfl, rfl, rfl⟩ := e
    rw [cellsAct] at hat
    have key : ∀ i, i < len → ∃ q : Int × Int, inI64 q.1 ∧ inI64 q.2 ∧ ∃ b o, (some x : Option Addr) = some ⟨b, o, none⟩ ∧ W.cell? ⟨b, o + i * 2, none⟩ = some (.int .i64 q.1) ∧ W.cell? ⟨b, o + i * 2 + 1, none⟩ = some (.int .i64 q.2) := by
      intro i hi
      have ha := (hat i hi).trans (List.getElem?_eq_getElem (show i < elems.length by omega))
      obtain ⟨cs', hc, ht⟩ := Option.bind_eq_some_iff.1 ha
      obtain ⟨_, hcl, hcell⟩ := World.cells?_some hc
      obtain ⟨ys, m', hm', _, _, hyl, hgf⟩ := DataW.trod_struct Try.underlying78 ht
      have hy2 : ys.length = 2 := hyl
      have z0 := (hgf 0 _ rfl).trans (List.getElem?_eq_getElem (by omega))
      have z1 := (hgf 1 _ rfl).trans (List.getElem?_eq_getElem (by omega))
      simp only [List.getElem_toArray, List.getElem_cons_zero, List.getElem_cons_succ, cellsInt] at z0 z1
      match cs', hcl with
      | [c0, c1], _ =>
        simp only [List.drop_zero, List.drop_succ_cons, List.take_succ_cons, List.take_zero] at z0 z1
        obtain ⟨n0, e0, _, w0⟩ := DataW.trod_int Try.underlying3 z0
        obtain ⟨n1, e1, _, w1⟩ := DataW.trod_int Try.underlying3 z1
        simp at e0 e1
        subst e0 e1
        obtain ⟨b, o, s⟩ := x
        have hs : s = none := by
          have hy0 : elems[0]? = some (elems[0]'(by omega)) := List.getElem?_eq_getElem (by omega)
          obtain ⟨cs0, hc0, _⟩ := Option.bind_eq_some_iff.1 ((hat 0 (by omega)).trans hy0)
          obtain ⟨_, hcl0, hcell0⟩ := World.cells?_some hc0
          have := hcell0 0 (by omega)
          rw [List.getElem?_eq_getElem (by omega)] at this
          have := World.cell?_spot this
          simpa [Addr.add] using this
        subst hs
        refine ⟨(n0, n1), wf_i64 w0, wf_i64 w1, b, o, rfl, ?_, ?_⟩
        · have := hcell 0 (by omega)
          rw [add_at, add_at] at this
          simpa using this
        · have := hcell 1 (by omega)
          rw [add_at, add_at] at this
          simpa using this
    refine ⟨fun i => if hi : i < len then Classical.choose (key i hi) else (0, 0), by unfold maxLen at hcm; omega, fun i hi => ?_⟩
    have := Classical.choose_spec (key i hi)
    simp only [hi, dif_pos]
    exact this

end Go.Proofs.Ytcoapmfbibjjpaa
