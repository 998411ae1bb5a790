/- What a Writer is told, as it lies. -/
import Derived.Test.YthahhjmgjlkmfaaRows
import Derived.Test.YthahhjmgjlkmfaaOpen2
import Derived.Test.YthahhjmgjlkmfaaApp
namespace Go.Proofs.Ythahhjmgjlkmfaa
open Go.ChangeShapes Go.WideShapes Go.ChangeAt Go.RowKit
set_option linter.unusedVariables false
set_option linter.unusedSimpArgs false

def inI64p (n : Int) : Prop := -9223372036854775808 ≤ n ∧ n ≤ 9223372036854775807

/-- One act: its kind, its numbers, its bytes. -/
structure PutS where
  k : Int
  n : Int
  p : Int
  v : Nat
  l : List UInt8

/-- Its five cells. -/
def PutIs (w : World) (s : PutS) (c : List Value) : Prop :=
  inI64p s.k ∧ inI64p s.n ∧ inI64p s.p ∧ s.v < okSize ∧ ∃ a m z, c = [.int .i64 s.k, .int .i64 s.n, .int .i64 s.p, .int .u64 (s.v : Nat), .slice a m z] ∧ RdB w a m s.l ∧ (a = none → z = 0) ∧ m ≤ z

theorem PutIs.keep {w w' : World} {s c} (h : PutIs w s c) (hb : Below w.heap.size w w') : PutIs w' s c := by
  obtain ⟨h1, h2, h3, h4, a, m, z, h5, h6, h7⟩ := h
  exact ⟨h1, h2, h3, h4, a, m, z, h5, h6.keep hb, h7⟩

theorem cellsPut : Try.prog.cellsOf 43 = 5 := by kernel_rfl
theorem cellsPI : Try.prog.cellsOf 3 = 1 := by kernel_rfl
theorem cellsPU : Try.prog.cellsOf 33 = 1 := by kernel_rfl
theorem cellsPB : Try.prog.cellsOf 22 = 1 := by kernel_rfl

theorem wf_u64p {n : Int} (h : (Lit.int .u64 n).wf = true) : 0 ≤ n ∧ n.toNat < okSize := by
  simp [Lit.wf, IntKind.min, IntKind.max, IntKind.signed, IntKind.bits] at h
  unfold okSize
  omega

theorem five {l : List Value} (h : l.length = 5) : ∃ a b c d e, l = [a, b, c, d, e] := by
  match l, h with
  | [a, b, c, d, e], _ => exact ⟨a, b, c, d, e, rfl⟩

set_option maxRecDepth 100000 in
theorem put_of {H : Type} {enc : TypeId × Value → H} {W : World} {fuel : Nat} {cs : List Value} {x : DataW H × List MemPlace}
    (h : DataW.trod enc Try.prog W 0 (fun _ => true) true fuel 43 cs = some x) : ∃ s, PutIs W s cs := by
  obtain ⟨xs, n, rfl, _, hlen, hxl, hg⟩ := DataW.trod_struct Try.underlying43 h
  rw [cellsPut] at hlen
  obtain ⟨c0, c1, c2, c3, c4, rfl⟩ := five hlen
  have hl5 : xs.length = 5 := hxl
  have g0 := (hg 0 _ rfl).trans (List.getElem?_eq_getElem (by omega))
  have g1 := (hg 1 _ rfl).trans (List.getElem?_eq_getElem (by omega))
  have g2 := (hg 2 _ rfl).trans (List.getElem?_eq_getElem (by omega))
  have g3 := (hg 3 _ rfl).trans (List.getElem?_eq_getElem (by omega))
  have g4 := (hg 4 _ rfl).trans (List.getElem?_eq_getElem (by omega))
  simp only [List.getElem_toArray, List.getElem_cons_zero, List.getElem_cons_succ, List.drop_zero, List.drop_succ_cons, List.take_succ_cons, List.take_zero, cellsPI] at g0 g1 g2
  simp only [List.getElem_toArray, List.getElem_cons_zero, List.getElem_cons_succ, List.drop_zero, List.drop_succ_cons, List.take_succ_cons, List.take_zero, cellsPU] at g3
  simp only [List.getElem_toArray, List.getElem_cons_zero, List.getElem_cons_succ, List.drop_zero, List.drop_succ_cons, List.take_succ_cons, List.take_zero, cellsPB] at g4
  obtain ⟨k, e0, _, w0⟩ := DataW.trod_int Try.underlying3 g0
  obtain ⟨m, e1, _, w1⟩ := DataW.trod_int Try.underlying3 g1
  obtain ⟨p, e2, _, w2⟩ := DataW.trod_int Try.underlying3 g2
  obtain ⟨v, e3, _, w3⟩ := DataW.trod_int Try.underlying33 g3
  simp at e0 e1 e2 e3
  have hv := wf_u64p w3
  have h4 : ∃ a m z l, c4 = .slice a m z ∧ RdB W a m l ∧ (a = none → z = 0) ∧ m ≤ z := by
    rcases DataW.trod_slice Try.underlying22 g4 with ⟨e, _⟩ | ⟨a, len, cap, elems, rest, n, _, e, _⟩
    · simp at e
      exact ⟨none, 0, 0, [], e, .nil _ _, fun _ => rfl, Nat.le_refl _⟩
    · simp at e
      subst e
      obtain ⟨l, hl⟩ := open_bytesc (enc := enc) (W := W) Try.underlying22 Try.underlying5 (by kernel_rfl) ⟨_, g4⟩
      exact ⟨_, _, _, l, rfl, hl.1, hl.2.1, hl.2.2⟩
  obtain ⟨a, q, z, l, rfl, hr, hn, hz⟩ := h4
  exact ⟨⟨k, m, p, v.toNat, l⟩, wf_i64 w0, wf_i64 w1, wf_i64 w2, hv.2, a, q, z, by rw [e0, e1, e2, e3]; simp only [Int.toNat_of_nonneg hv.1], hr, hn, hz⟩

set_option maxRecDepth 100000 in
theorem open_put {H : Type} {enc : TypeId × Value → H} {W : World} {v : Value} {d : DataW H} {p : List MemPlace} {base : Nat} (hv : Value.okWide Try.prog W .any base 43 v)
    (h : DataW.Trod enc Try.prog W 0 (fun _ => true) true 43 v d p) : ∃ c s, v = .agg c ∧ PutIs W s c.toList := by
  obtain ⟨cs, rfl, _⟩ := okWide_struct Try.underlying43 hv
  obtain ⟨fuel, hf⟩ := h
  obtain ⟨s, hs⟩ := put_of hf
  exact ⟨cs, s, rfl, by simpa [Value.cells] using hs⟩

end Go.Proofs.Ythahhjmgjlkmfaa
