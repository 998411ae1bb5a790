/- Arguments that are limits, or a field. -/
import Derived.Test.YtkcfkdmffbhljaaMA
import Derived.Test.YtkcfkdmffbhljaaMay2
namespace Go.Proofs.Ytkcfkdmffbhljaa
open Go.ChangeShapes Go.WideShapes Go.ChangeAt Go.RowKit
set_option linter.unusedVariables false
set_option linter.unusedSimpArgs false

theorem cellsL : Try.prog.cellsOf 28 = 3 := by kernel_rfl

theorem three {l : List Value} (h : l.length = 3) : ∃ a b c, l = [a, b, c] := by
  match l, h with
  | [a, b, c], _ => exact ⟨a, b, c, rfl⟩

section
variable {H : Type} {enc : TypeId × Value → H} {W : World}

set_option maxRecDepth 100000 in
theorem open_lims {v : Value} {d : DataW H} {p : List MemPlace} {base : Nat} (hv : Value.okWide Try.prog W .any base 28 v) (h : DataW.Trod enc Try.prog W 0 (fun _ => true) true 28 v d p) : ∃ d s o, v = .agg (limCells d s o) := by
  obtain ⟨cs, rfl, _⟩ := okWide_struct Try.underlying28 hv
  obtain ⟨fuel, hf⟩ := h
  have hf' : DataW.trod enc Try.prog W 0 (fun _ => true) true fuel 28 cs.toList = some _ := hf
  obtain ⟨xs, n, _, _, hlen, hxl, hg⟩ := DataW.trod_struct Try.underlying28 hf'
  rw [cellsL] at hlen
  obtain ⟨c0, c1, c2, hc⟩ := three hlen
  rw [hc] at hg
  have hl3 : xs.length = 3 := hxl
  have s0 : xs[0]? = some (xs[0]'(by omega)) := List.getElem?_eq_getElem (by omega)
  have s1 : xs[1]? = some (xs[1]'(by omega)) := List.getElem?_eq_getElem (by omega)
  have s2 : xs[2]? = some (xs[2]'(by omega)) := List.getElem?_eq_getElem (by omega)
  have g0 := (hg 0 _ rfl).trans s0
  have g1 := (hg 1 _ rfl).trans s1
  have g2 := (hg 2 _ rfl).trans s2
  simp only [List.getElem_toArray, List.getElem_cons_zero, List.getElem_cons_succ, List.drop_zero, List.drop_succ_cons, List.take_succ_cons, List.take_zero, cellsI] at g0 g1 g2
  obtain ⟨d, rfl, _⟩ := open_i64 g0
  obtain ⟨s, rfl, _⟩ := open_i64 g1
  obtain ⟨o, rfl, _⟩ := open_i64 g2
  refine ⟨d, s, o, ?_⟩
  congr 1
  apply Array.toList_inj.1
  rw [hc]

set_option maxRecDepth 100000 in
theorem open_field {v : Value} {d : DataW H} {p : List MemPlace} {base : Nat} (hv : Value.okWide Try.prog W .any base 57 v) (h : DataW.Trod enc Try.prog W 0 (fun _ => true) true 57 v d p) :
    ∃ n c t, v = .agg (#[.string n] ++ c) ∧ n.size ≤ 9223372036854775807 ∧ RdT W t c := by
  obtain ⟨cs, rfl, _⟩ := okWide_struct Try.underlying57 hv
  obtain ⟨fuel, hf⟩ := h
  have hf' : DataW.trod enc Try.prog W 0 (fun _ => true) true fuel 57 cs.toList = some _ := hf
  obtain ⟨ys, m', hm', _, hlen, hyl, hgf⟩ := DataW.trod_struct Try.underlying57 hf'
  rw [cellsFd] at hlen
  have hy2 : ys.length = 2 := hyl
  have z0 := (hgf 0 _ rfl).trans (List.getElem?_eq_getElem (by omega))
  have z1 := (hgf 1 _ rfl).trans (List.getElem?_eq_getElem (by omega))
  simp only [List.getElem_toArray, List.getElem_cons_zero, List.getElem_cons_succ, cellsS] at z0
  simp only [List.getElem_toArray, List.getElem_cons_zero, List.getElem_cons_succ, cellsV] at z1
  obtain ⟨x, r, hx⟩ : ∃ x r, cs.toList = x :: r := by
    cases hc : cs.toList with
    | nil => rw [hc] at hlen; simp at hlen
    | cons x r => exact ⟨x, r, rfl⟩
  rw [hx] at z0 z1 hlen
  simp only [List.drop_zero, List.take_succ_cons, List.take_zero] at z0
  obtain ⟨nm, en, hnm⟩ := open_str z0
  obtain ⟨t, htt⟩ := open_tree _ _ _ z1
  simp only [List.length_cons] at hlen
  simp only [List.drop_succ_cons, List.drop_zero] at htt
  rw [List.take_of_length_le (by omega)] at htt
  refine ⟨nm, _, t, ?_, hnm, htt⟩
  congr 1
  apply Array.toList_inj.1
  rw [hx, en]
  simp
end

end Go.Proofs.Ytkcfkdmffbhljaa
