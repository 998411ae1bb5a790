/- append onto a row of the call's own, of bytes or of a text: what changes, and where the row lies then. -/
import Derived.Test.YtamhdoijmkjngaaApp
import Derived.Test.YtamhdoijmkjngaaSl
import Derived.Laws.Append
import Derived.Lib.AppendStr
namespace Go.Proofs.Ytamhdoijmkjngaa
open Go.RowKit
set_option linter.unusedVariables false
set_option linter.unusedSimpArgs false

/-- v's own row alone and new blocks have changed; v' lies in v's row or in a new one. -/
def LayF (w w' : World) (v v' : Value) : Prop := Chg (fun k => v.ownBlock = some k) w w' ∧ ∀ k, v'.ownBlock = some k → v.ownBlock = some k ∨ w.heap.size ≤ k

theorem LayF.fresh {w w' : World} (h : Below w.heap.size w w') (v : Value) : LayF w w' v v := ⟨Chg.of_below h, fun k hk => .inl hk⟩
theorem LayF.size {w w' : World} {v v' : Value} (h : LayF w w' v v') : w.heap.size ≤ w'.heap.size := h.1.size
theorem LayF.trans {a b c : World} {v v1 v2 : Value} (h : LayF a b v v1) (k : LayF b c v1 v2) : LayF a c v v2 := by
  refine ⟨h.1.trans k.1 fun i hi hs => ?_, fun i hi => ?_⟩
  · rcases h.2 i hs with h1 | h1
    · exact h1
    · omega
  · rcases k.2 i hi with h1 | h1
    · exact h.2 i h1
    · exact .inr (Nat.le_trans h.size h1)
theorem LayF.app {w w' : World} {v v' : Value} (h : AppF w w' v v') : LayF w w' v v' := by
  refine ⟨h.chg, fun k hk => ?_⟩
  rcases h.2 with e | e
  · rw [e] at hk; exact .inl hk
  · rw [e] at hk; exact .inr (by have := Option.some.inj hk; omega)
/-- From blocks of B on alone. -/
theorem LayF.below {a w w' : World} {v v' : Value} {B : Nat} (h : LayF w w' v v') (hb : Below B a w) (hB : B ≤ w.heap.size) (hv : ∀ k, v.ownBlock = some k → B ≤ k) : Below B a w' :=
  hb.trans (h.1.below hB fun i hi => hv i hi)
theorem LayF.cell {w w' : World} {v v' : Value} (h : LayF w w' v v') {p : Addr} {u : Value} (hc : w.cell? p = some u) (hp : v.ownBlock ≠ some p.block) : w'.cell? p = some u := h.1.cell hp hc

theorem strCells_bytes' (t : ByteArray) : Lib.strCells t = byteCells (sl t) := rfl

theorem appT_run {w : World} {B : Nat} {v : Value} {bs : List UInt8} (hown : OwnB w B v bs) (t : ByteArray)
    (hb : bs.length + t.size ≤ 100000000000) (hbase : B ≤ w.heap.size) (ty : TypeId) :
    ∃ v' w', (Builtin.append_ #[47, 9] ty #[v, .string t]).run Try.prog w = .ok v' w' ∧ OwnB w' B v' (bs ++ sl t) ∧ LayF w w' v v' := by
  obtain ⟨i0, hi, hz0, hz1, hz2⟩ := info_parts infoU8
  obtain ⟨v', w', hr, h2, h3, h4⟩ := Lib.run_append_own_string (P := Try.prog) w B 47 9 ty 5 i0 Try.underlying47 Try.underlying9 hi hz0 hz1 hz2 v bs.length (byteCells bs) hown t (by unfold maxLen; omega) (by omega) hbase
  refine ⟨v', w', hr, ?_, LayF.app ⟨h3, ?_⟩⟩
  · unfold OwnB
    rw [byteCells_append, List.length_append, sl_len]
    exact h2
  · rcases hown.2 with ⟨rfl, h0⟩ | ⟨g, cap, cur, rfl, hbg, hg, hnc, hcm, hcs, htake⟩
    · by_cases ht : t.size = 0
      · have := h4.2 ⟨rfl, ht⟩
        subst this
        exact .inl rfl
      · have := run_append_nil_string (P := Try.prog) w 47 9 ty 5 i0 (.int .u8 0) Try.underlying47 Try.underlying9 hi hz0 t (by omega) (by omega) (by rw [hz2]; omega)
        rw [this] at hr
        simp only [Result.ok.injEq] at hr
        rw [← hr.1]
        exact .inr rfl
    · by_cases hroom : bs.length + t.size ≤ cap
      · have := Lib.run_append_room_string (P := Try.prog) w 47 9 ty 5 i0 Try.underlying47 Try.underlying9 hi hz1 g bs.length cap cur hg t hroom (by omega)
        rw [this] at hr
        simp only [Result.ok.injEq] at hr
        rw [← hr.1]
        exact .inl rfl
      · have holds : ∀ j u, (byteCells bs)[j]? = some u → w.cell? ((⟨g, 0, none⟩ : Addr).add j) = some u := World.ownsRow.cells hown (g := g) rfl
        have := Lib.run_append_grow_string (P := Try.prog) w 47 9 ty 5 i0 (.int .u8 0) Try.underlying47 Try.underlying9 hi hz0 ⟨g, 0, none⟩ bs.length cap (byteCells bs) (by rw [hz1, byteCells_length]; omega) holds t (by omega) (by omega) (by rw [hz2]; exact growslice_fits (by omega) (by omega))
        rw [this] at hr
        simp only [Result.ok.injEq] at hr
        rw [← hr.1]
        exact .inr rfl

theorem wpList_appT {w : World} {ops : Array Oper} {rest : List Oper} {o : Oper} {a : Act} {Q : Exit → Act → World → Prop} (hgd : o.guard = none) (s x : Operand)
    (ho : o.op = .call { callee := .builtin .append, args := #[s, x], argTypes := #[47, 9] })
    {B : Nat} {v : Value} {bs : List UInt8} (hs : a.eval s = v) (hown : OwnB w B v bs) {t : ByteArray} (hx : a.eval x = .string t)
    (hb : bs.length + t.size ≤ 100000000000) (hbase : B ≤ w.heap.size)
    (h : ∀ v' w', OwnB w' B v' (bs ++ sl t) → LayF w w' v v' → wpList Try.prog ops Q rest (a.put o.dst v') w') : wpList Try.prog ops Q (o :: rest) a w := by
  refine wpList_plain hgd fun K hK => ?_
  obtain ⟨v', w', hr, h2, h3⟩ := appT_run hown t hb hbase o.type
  unfold Oper.wp execOp
  simp only [ho, resolve, invoke, builtin, Sem.run_bind, Sem.run_pure, Result.andThen_ok, List.map_toArray, List.map_cons, List.map_nil, hs, hx, hr]
  exact hK _ _ (h v' w' h2 h3)

theorem wpList_appL {w : World} {ops : Array Oper} {rest : List Oper} {o : Oper} {a : Act} {Q : Exit → Act → World → Prop} (hgd : o.guard = none) (s x : Operand)
    (ho : o.op = .call { callee := .builtin .append, args := #[s, x], argTypes := #[47, 47] })
    {B : Nat} {v : Value} {bs : List UInt8} (hs : a.eval s = v) (hown : OwnB w B v bs) {sv : Value} {l : List UInt8} (hx : a.eval x = sv) (hsrc : SrcB w sv l)
    (hb : bs.length + l.length ≤ 100000000000) (hbase : B ≤ w.heap.size)
    (h : ∀ v' w', OwnB w' B v' (bs ++ l) → LayF w w' v v' → wpList Try.prog ops Q rest (a.put o.dst v') w') : wpList Try.prog ops Q (o :: rest) a w :=
  wpList_appB hgd s x ho hs hown hx hsrc hb hbase fun v' w' h1 h2 => h v' w' h1 (LayF.app h2)

end Go.Proofs.Ytamhdoijmkjngaa
