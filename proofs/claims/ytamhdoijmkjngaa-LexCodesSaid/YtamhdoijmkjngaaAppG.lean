/- append onto a row that is full, of the call's own or a constant text's: it is the call's own then. -/
import Derived.Test.YtamhdoijmkjngaaApp
import Derived.Laws.Append
import Derived.Lib.AppendStr
namespace Go.Proofs.Ytamhdoijmkjngaa
open Go.RowKit
set_option linter.unusedVariables false
set_option linter.unusedSimpArgs false

/-- Own, or full and to be read. -/
def GoesB (w : World) (B : Nat) (v : Value) (bs : List UInt8) : Prop := OwnB w B v bs ∨ ∃ g, v = .slice (some ⟨g, 0, none⟩) bs.length bs.length ∧ RdB w (some ⟨g, 0, none⟩) bs.length bs

theorem rd_cells {w : World} {b o len : Nat} {bs : List UInt8} (h : RdB w (some ⟨b, o, none⟩) len bs) : ∀ j u, (byteCells bs)[j]? = some u → w.cell? ((⟨b, o, none⟩ : Addr).add j) = some u := by
  intro j u hj
  have hl : j < (byteCells bs).length := (List.getElem?_eq_some_iff.1 hj).1
  rw [byteCells_length] at hl
  obtain ⟨b', o', ha, hc⟩ := h.at j (by rw [← h.1]; exact hl)
  simp only [Option.some.injEq, Addr.mk.injEq, and_true] at ha
  obtain ⟨rfl, rfl⟩ := ha
  have ea : (⟨b, o, none⟩ : Addr).add j = ⟨b, o + j, none⟩ := by unfold Addr.add; split <;> simp_all
  rw [ea]
  rw [hc, ← byteCells_at bs j hl, List.getD_eq_getElem?_getD, hj]
  rfl

theorem appG_run {w : World} {B : Nat} {v : Value} {bs : List UInt8} (hown : GoesB w B v bs) {sv : Value} {l : List UInt8} (hsrc : SrcB w sv l) (hl0 : 0 < l.length)
    (hb : bs.length + l.length ≤ 100000000000) (hbase : B ≤ w.heap.size) (ty : TypeId) :
    ∃ v' w', (Builtin.append_ #[47, 47] ty #[v, sv]).run Try.prog w = .ok v' w' ∧ OwnB w' B v' (bs ++ l) ∧ Below B w w' := by
  rcases hown with hown | ⟨g, rfl, hr⟩
  · obtain ⟨v', w', h1, h2, h3⟩ := app_run (P := Try.prog) w ty Try.underlying47 infoU8 rfl (by omega) hown hsrc.src (by unfold maxLen; omega) (by omega) hbase
    refine ⟨v', w', h1, ?_, ?_⟩
    · unfold OwnB; rw [byteCells_append, List.length_append]; exact h2
    · exact h3.below (Below.refl B w) hbase fun k hk => (owns_lt hown k hk).1
  · obtain ⟨i0, hi, hz0, hz1, hz2⟩ := info_parts infoU8
    obtain ⟨a, m, c, rfl, hr2, _⟩ := hsrc
    have hm := hr2.1
    obtain ⟨b, o, rfl, _⟩ := hr2.at 0 (by omega)
    have hrun := run_append_grow (P := Try.prog) w 47 ty 5 i0 (.int .u8 0) Try.underlying47 hi hz0 ⟨g, 0, none⟩ bs.length bs.length (byteCells bs) (by rw [hz1, byteCells_length]; omega) (rd_cells hr)
      ⟨b, o, none⟩ m c (byteCells l) (by rw [hz1, byteCells_length]; omega) (rd_cells hr2) (by omega) (by omega) (by rw [hz2]; exact growslice_fits (by omega) (by omega))
    rw [← hm] at hrun
    have hge := grownCap_ge w (bs.length + l.length) bs.length 5
    have hcm := grownCap_le_maxLen w (bs.length + l.length) bs.length 5 (by unfold maxLen; omega)
    subst hm
    refine ⟨_, _, hrun, ⟨?_, .inr ⟨w.heap.size, grownCap w (bs.length + l.length) bs.length 5, _, ?_, hbase, heap_alloc_new w.drew _, ?_, hcm, ?_, ?_⟩⟩, ((Below.refl B w).drew).alloc hbase _⟩
    · rw [byteCells_length]; omega
    · rw [List.length_append]
    · rw [List.length_append]; exact hge
    · have hz : (Value.int IntKind.u8 0).cells.size = 1 := rfl
      simp only [Array.size_append, List.size_toArray, size_zeroCells, hz, byteCells_length]
      omega
    · have e : (byteCells bs).toArray.toList ++ (byteCells l).toArray.toList = byteCells (bs ++ l) := by rw [byteCells_append]
      simp only [Array.toList_append, e]
      rw [show (bs ++ l).length * 1 = (byteCells (bs ++ l)).length by rw [byteCells_length]; omega]
      exact List.take_left

theorem wpList_appG {w : World} {ops : Array Oper} {rest : List Oper} {o : Oper} {a : Act} {Q : Exit → Act → World → Prop} (hgd : o.guard = none) (s x : Operand)
    (ho : o.op = .call { callee := .builtin .append, args := #[s, x], argTypes := #[47, 47] })
    {B : Nat} {v : Value} {bs : List UInt8} (hs : a.eval s = v) (hown : GoesB w B v bs) {sv : Value} {l : List UInt8} (hx : a.eval x = sv) (hsrc : SrcB w sv l) (hl0 : 0 < l.length)
    (hb : bs.length + l.length ≤ 100000000000) (hbase : B ≤ w.heap.size)
    (h : ∀ v' w', OwnB w' B v' (bs ++ l) → Below B w w' → wpList Try.prog ops Q rest (a.put o.dst v') w') : wpList Try.prog ops Q (o :: rest) a w := by
  refine wpList_plain hgd fun K hK => ?_
  obtain ⟨v', w', hr, h2, h3⟩ := appG_run hown hsrc hl0 hb hbase o.type
  unfold Oper.wp execOp
  simp only [ho, resolve, invoke, builtin, Sem.run_bind, Sem.run_pure, Result.andThen_ok, List.map_toArray, List.map_cons, List.map_nil, hs, hx, hr]
  exact hK _ _ (h v' w' h2 h3)

theorem GoesB.keep {w w' : World} {B : Nat} {v : Value} {bs : List UInt8} (h : GoesB w B v bs) (hb : Below w.heap.size w w') : GoesB w' B v bs := by
  rcases h with h | ⟨g, rfl, hr⟩
  · exact .inl (h.keep hb)
  · exact .inr ⟨g, rfl, hr.keep hb⟩

end Go.Proofs.Ytamhdoijmkjngaa
