/- append onto a row of numbers of the call's own. -/
import Derived.Test.YtiodjhcjfbnocaaApp
namespace Go.Proofs.Ytiodjhcjfbnocaa
open Go.RowKit
set_option linter.unusedVariables false
set_option linter.unusedSimpArgs false

def intCells (xs : List Int) : List Value := xs.map fun x => .int .i64 x
theorem intCells_append (a b : List Int) : intCells (a ++ b) = intCells a ++ intCells b := by simp [intCells]
theorem intCells_length (a : List Int) : (intCells a).length = a.length := by simp [intCells]

/-- A row of numbers of the call's own. -/
def OwnI (w : World) (B : Nat) (v : Value) (xs : List Int) : Prop := w.ownsRow B 3 1 v xs.length (intCells xs)

theorem infoInt : (Try.prog.info? 3).map (fun i => (i.zero, i.size, i.bytes)) = some (some (.int .i64 0), 1, 8) := by kernel_rfl

theorem intCells_at (xs : List Int) (i : Nat) (h : i < xs.length) : (intCells xs).getD i undef = .int .i64 (xs.getD i 0) := by
  simp [intCells, List.getD_eq_getElem?_getD, List.getElem?_map, List.getElem?_eq_getElem h]

theorem OwnI.reads {w : World} {B : Nat} {v : Value} {xs : List Int} (h : OwnI w B v xs) : ∃ a cap, v = .slice a xs.length cap ∧ xs.length ≤ 9223372036854775807 ∧ RdF w a xs.length fun i => .int .i64 (xs.getD i 0) := by
  obtain ⟨a, cap, rfl, hm, hg⟩ := owns_reads h
  refine ⟨a, cap, rfl, hm, fun i hi => ?_⟩
  obtain ⟨b, o, ha, hc⟩ := hg i hi
  refine ⟨b, o, ha, ?_⟩
  have := hc 0 (by omega)
  rw [Nat.mul_one, Nat.add_zero] at this
  rw [this]
  show some ((intCells xs).getD (i * 1 + 0) undef) = _
  rw [Nat.mul_one, Nat.add_zero, intCells_at xs i hi]

/-- One number, laid in a block of its own. -/
theorem src_int (w : World) (x : Int) (t : TypeId) : Src (w.alloc (.cells #[.int .i64 x] t)) (.slice (some ⟨w.heap.size, 0, none⟩) 1 1) 1 1 (intCells [x]) :=
  .inr ⟨_, 1, rfl, rfl, cell_one_new w _ t, by simp [intCells, Value.oneCell']⟩

theorem wpList_appI {w : World} {ops : Array Oper} {rest : List Oper} {o : Oper} {a : Act} {Q : Exit → Act → World → Prop} (hgd : o.guard = none) (s x : Operand)
    (ho : o.op = .call { callee := .builtin .append, args := #[s, x], argTypes := #[38, 38] })
    {B : Nat} {v : Value} {xs : List Int} (hs : a.eval s = v) (hown : OwnI w B v xs) {sv : Value} {l : List Int} (hx : a.eval x = sv) (hsrc : Src w sv l.length 1 (intCells l))
    (hb : xs.length + l.length ≤ 10000000000) (hbase : B ≤ w.heap.size)
    (h : ∀ v' w', OwnI w' B v' (xs ++ l) → AppF w w' v v' → wpList Try.prog ops Q rest (a.put o.dst v') w') : wpList Try.prog ops Q (o :: rest) a w :=
  wpList_app Try.underlying38 infoInt rfl (by omega) hgd s x ho hs hown hx hsrc (by unfold maxLen; omega) (by omega) hbase
    fun v' w' h1 h2 => h v' w' (by unfold OwnI; rw [intCells_append, List.length_append]; exact h1) h2

theorem step_appI {w : World} {ops : Array Oper} {o : Oper} {a : Act} {K : Act → World → Prop} {Q : Exit → Act → World → Prop} {E : Prop} (hgd : o.guard = none) (s x : Operand)
    (ho : o.op = .call { callee := .builtin .append, args := #[s, x], argTypes := #[38, 38] })
    {B : Nat} {v : Value} {xs : List Int} (hs : a.eval s = v) (hown : OwnI w B v xs) {sv : Value} {l : List Int} (hx : a.eval x = sv) (hsrc : Src w sv l.length 1 (intCells l))
    (hb : xs.length + l.length ≤ 10000000000) (hbase : B ≤ w.heap.size)
    (h : ∀ v' w', OwnI w' B v' (xs ++ l) → AppF w w' v v' → K (a.put o.dst v') w') : if Region.wanted o (yielded ops a.tmps) = true then Oper.wp Try.prog o a w K Q else E :=
  step_app Try.underlying38 infoInt rfl (by omega) hgd s x ho hs hown hx hsrc (by unfold maxLen; omega) (by omega) hbase
    fun v' w' h1 h2 => h v' w' (by unfold OwnI; rw [intCells_append, List.length_append]; exact h1) h2

end Go.Proofs.Ytiodjhcjfbnocaa
