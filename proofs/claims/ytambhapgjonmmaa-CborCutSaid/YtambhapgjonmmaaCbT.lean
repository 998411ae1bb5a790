/- append onto rows of bytes of the call own, of bytes or of a text (out of AppT, St) -/
import Derived.Test.YtambhapgjonmmaaCbN
import Derived.Test.YtambhapgjonmmaaApp
import Derived.Test.YtambhapgjonmmaaSl
import Derived.Laws.Append
import Derived.Lib.AppendStr
namespace Go.Proofs.Ytambhapgjonmmaa
open Go.RowKit
set_option linter.unusedVariables false
set_option linter.unusedSimpArgs false

/-- v's own row alone and new blocks have changed; v' lies in v's row or in a new one. -/
def LayF (w w' : World) (v v' : Value) : Prop := Chg (fun k => v.ownBlock = some k) w w' ∧ ∀ k, v'.ownBlock = some k → v.ownBlock = some k ∨ w.heap.size ≤ k

theorem LayF.fresh {w w' : World} (h : Below w.heap.size w w') (v : Value) : LayF w w' v v := ⟨Chg.of_below h, fun k hk => .inl hk⟩

theorem LayF.size {w w' : World} {v v' : Value} (h : LayF w w' v v') : w.heap.size ≤ w'.heap.size := h.1.size

theorem LayF.trans {a b c : World} {v v1 v2 : Value} (h : LayF a b v v1) (k : LayF b c v1 v2) : LayF a c v v2 := by
  refine ⟨h.1.trans k.1 fun i hi hs => ?_, fun i hi => ?_⟩
  · rcases h.2 i hs with h1 | h1
    · exact h1
    · omega
  · rcases k.2 i hi with h1 | h1
    · exact h.2 i h1
    · exact .inr (Nat.le_trans h.size h1)

theorem LayF.app {w w' : World} {v v' : Value} (h : AppF w w' v v') : LayF w w' v v' := by
  refine ⟨h.chg, fun k hk => ?_⟩
  rcases h.2 with e | e
  · rw [e] at hk; exact .inl hk
  · rw [e] at hk; exact .inr (by have := Option.some.inj hk; omega)

/-- From blocks of B on alone. -/
theorem LayF.below {a w w' : World} {v v' : Value} {B : Nat} (h : LayF w w' v v') (hb : Below B a w) (hB : B ≤ w.heap.size) (hv : ∀ k, v.ownBlock = some k → B ≤ k) : Below B a w' :=
  hb.trans (h.1.below hB fun i hi => hv i hi)

theorem LayF.cell {w w' : World} {v v' : Value} (h : LayF w w' v v') {p : Addr} {u : Value} (hc : w.cell? p = some u) (hp : v.ownBlock ≠ some p.block) : w'.cell? p = some u := h.1.cell hp hc

theorem strCells_bytes' (t : ByteArray) : Lib.strCells t = byteCells (sl t) := rfl

theorem appT_run {w : World} {B : Nat} {v : Value} {bs : List UInt8} (hown : OwnB w B v bs) (t : ByteArray)
    (hb : bs.length + t.size ≤ 100000000000) (hbase : B ≤ w.heap.size) (ty : TypeId) :
    ∃ v' w', (Builtin.append_ #[23, 9] ty #[v, .string t]).run Try.prog w = .ok v' w' ∧ OwnB w' B v' (bs ++ sl t) ∧ LayF w w' v v' := by
  obtain ⟨i0, hi, hz0, hz1, hz2⟩ := info_parts infoU8
  obtain ⟨v', w', hr, h2, h3, h4⟩ := Lib.run_append_own_string (P := Try.prog) w B 23 9 ty 5 i0 Try.underlying23 Try.underlying9 hi hz0 hz1 hz2 v bs.length (byteCells bs) hown t (by unfold maxLen; omega) (by omega) hbase
  refine ⟨v', w', hr, ?_, LayF.app ⟨h3, ?_⟩⟩
  · unfold OwnB
    rw [byteCells_append, List.length_append, sl_len]
    exact h2
  · rcases hown.2 with ⟨rfl, h0⟩ | ⟨g, cap, cur, rfl, hbg, hg, hnc, hcm, hcs, htake⟩
    · by_cases ht : t.size = 0
      · have := h4.2 ⟨rfl, ht⟩
        subst this
        exact .inl rfl
      · have := run_append_nil_string (P := Try.prog) w 23 9 ty 5 i0 (.int .u8 0) Try.underlying23 Try.underlying9 hi hz0 t (by omega) (by omega) (by rw [hz2]; omega)
        rw [this] at hr
        simp only [Result.ok.injEq] at hr
        rw [← hr.1]
        exact .inr rfl
    · by_cases hroom : bs.length + t.size ≤ cap
      · have := Lib.run_append_room_string (P := Try.prog) w 23 9 ty 5 i0 Try.underlying23 Try.underlying9 hi hz1 g bs.length cap cur hg t hroom (by omega)
        rw [this] at hr
        simp only [Result.ok.injEq] at hr
        rw [← hr.1]
        exact .inl rfl
      · have holds : ∀ j u, (byteCells bs)[j]? = some u → w.cell? ((⟨g, 0, none⟩ : Addr).add j) = some u := World.ownsRow.cells hown (g := g) rfl
        have := Lib.run_append_grow_string (P := Try.prog) w 23 9 ty 5 i0 (.int .u8 0) Try.underlying23 Try.underlying9 hi hz0 ⟨g, 0, none⟩ bs.length cap (byteCells bs) (by rw [hz1, byteCells_length]; omega) holds t (by omega) (by omega) (by rw [hz2]; exact growslice_fits (by omega) (by omega))
        rw [this] at hr
        simp only [Result.ok.injEq] at hr
        rw [← hr.1]
        exact .inr rfl

theorem wpList_appT {w : World} {ops : Array Oper} {rest : List Oper} {o : Oper} {a : Act} {Q : Exit → Act → World → Prop} (hgd : o.guard = none) (s x : Operand)
    (ho : o.op = .call { callee := .builtin .append, args := #[s, x], argTypes := #[23, 9] })
    {B : Nat} {v : Value} {bs : List UInt8} (hs : a.eval s = v) (hown : OwnB w B v bs) {t : ByteArray} (hx : a.eval x = .string t)
    (hb : bs.length + t.size ≤ 100000000000) (hbase : B ≤ w.heap.size)
    (h : ∀ v' w', OwnB w' B v' (bs ++ sl t) → LayF w w' v v' → wpList Try.prog ops Q rest (a.put o.dst v') w') : wpList Try.prog ops Q (o :: rest) a w := by
  refine wpList_plain hgd fun K hK => ?_
  obtain ⟨v', w', hr, h2, h3⟩ := appT_run hown t hb hbase o.type
  unfold Oper.wp execOp
  simp only [ho, resolve, invoke, builtin, Sem.run_bind, Sem.run_pure, Result.andThen_ok, List.map_toArray, List.map_cons, List.map_nil, hs, hx, hr]
  exact hK _ _ (h v' w' h2 h3)

theorem wpList_appL {w : World} {ops : Array Oper} {rest : List Oper} {o : Oper} {a : Act} {Q : Exit → Act → World → Prop} (hgd : o.guard = none) (s x : Operand)
    (ho : o.op = .call { callee := .builtin .append, args := #[s, x], argTypes := #[23, 23] })
    {B : Nat} {v : Value} {bs : List UInt8} (hs : a.eval s = v) (hown : OwnB w B v bs) {sv : Value} {l : List UInt8} (hx : a.eval x = sv) (hsrc : SrcB w sv l)
    (hb : bs.length + l.length ≤ 100000000000) (hbase : B ≤ w.heap.size)
    (h : ∀ v' w', OwnB w' B v' (bs ++ l) → LayF w w' v v' → wpList Try.prog ops Q rest (a.put o.dst v') w') : wpList Try.prog ops Q (o :: rest) a w :=
  wpList_appB hgd s x ho hs hown hx hsrc hb hbase fun v' w' h1 h2 => h v' w' h1 (LayF.app h2)

theorem srcB_cell {W : World} {g x : Nat} (h : W.cell? ⟨g, 0, none⟩ = some (.int .u8 (x : Nat))) (hx : x < 256) : SrcB W (.slice (some ⟨g, 0, none⟩) 1 1) [UInt8.ofNat x] := by
  refine ⟨some ⟨g, 0, none⟩, 1, 1, rfl, ⟨rfl, by omega, fun i hi => ⟨g, 0, rfl, ?_⟩⟩, by simp⟩
  obtain rfl : i = 0 := by omega
  have : x % 256 = x := by omega
  simpa [bAt, this] using h

/-- v is a row of the call's own; nothing that was there has turned. -/
def St (w : World) (v : Value) (bs : List UInt8) (W : World) : Prop := OwnB W w.heap.size v bs ∧ Below w.heap.size w W

theorem St.size {w : World} {v : Value} {bs : List UInt8} {W : World} (h : St w v bs W) : w.heap.size ≤ W.heap.size := h.2.size

theorem St.bel {w : World} {v : Value} {bs : List UInt8} {W : World} (h : St w v bs W) : Below w.heap.size w W := h.2

theorem St.keep {w : World} {v : Value} {bs : List UInt8} {W W' : World} (h : St w v bs W) (hb : Below W.heap.size W W') : St w v bs W' := ⟨h.1.keep hb, h.2.trans (hb.mono h.size)⟩

theorem St.alloc {w : World} {v : Value} {bs : List UInt8} {W : World} (h : St w v bs W) (ob : Obj) : St w v bs (W.alloc ob) := h.keep ((Below.refl _ _).alloc (Nat.le_refl _) ob)

theorem St.drew {w : World} {v : Value} {bs : List UInt8} {W : World} (h : St w v bs W) : St w v bs W.drew := h.keep (Below.refl _ _).drew

theorem St.nil (w : World) : St w (.slice none 0 0) [] w := ⟨World.ownsRow_nil _ _ _ _, Below.refl _ _⟩

theorem St.lay {w : World} {v v' : Value} {bs bs' : List UInt8} {W W' : World} (h : St w v bs W) (ho : OwnB W' w.heap.size v' bs') (hl : LayF W W' v v') : St w v' bs' W' :=
  ⟨ho, hl.below h.2 h.size fun k hk => (owns_lt h.1 k hk).1⟩

theorem below_al {w W : World} (h : Below w.heap.size w W) (ob : Obj) : Below w.heap.size w (W.alloc ob) := h.alloc h.size ob

/-- A block that holds one byte and is no row of the value at hand. -/
def Zg (W : World) (v : Value) (x g : Nat) : Prop := W.cell? ⟨g, 0, none⟩ = some (.int .u8 (x : Nat)) ∧ v.ownBlock ≠ some g

theorem Zg.new {w W : World} {g x : Nat} {v : Value} {bs : List UInt8} (ho : St w v bs W) (hg : g = W.heap.size) (ty : TypeId) : Zg (W.alloc (.cells #[.int .u8 (x : Nat)] ty)) v x g := by
  subst hg
  refine ⟨by simp [go_sem], fun e => ?_⟩
  have := (owns_lt ho.1 _ e).2
  omega

theorem Zg.new0 {w W : World} {g : Nat} {v : Value} {bs : List UInt8} (ho : St w v bs W) (hg : g = W.heap.size) (ty : TypeId) : Zg (W.alloc (.cells #[.int .u8 0] ty)) v 0 g := Zg.new (x := 0) ho hg ty

theorem Zg.alloc {W : World} {v : Value} {x g : Nat} (h : Zg W v x g) (ob : Obj) : Zg (W.alloc ob) v x g :=
  ⟨cell_below ((Below.refl _ _).alloc (Nat.le_refl _) ob) h.1, h.2⟩

theorem Zg.drew {W : World} {v : Value} {x g : Nat} (h : Zg W v x g) : Zg W.drew v x g := ⟨h.1, h.2⟩

theorem Zg.lay {W W' : World} {v v' : Value} {x g : Nat} (hl : LayF W W' v v') (h : Zg W v x g) : Zg W' v' x g :=
  ⟨hl.cell h.1 h.2, fun e => by
    have hlt : g < W.heap.size := cell_block h.1
    rcases hl.2 g e with h1 | h1
    · exact h.2 h1
    · omega⟩

theorem Zg.src {W : World} {v : Value} {x g : Nat} (h : Zg W v x g) (hx : x < 256) : SrcB W (.slice (some ⟨g, 0, none⟩) 1 1) [UInt8.ofNat x] := srcB_cell h.1 hx

/-- One byte is appended, in a region that draws its order. -/
theorem arm_one {w W : World} {ops : Array Oper} {o : Oper} {a : Act} {K : Act → World → Prop} {Q : Exit → Act → World → Prop} {E : Prop} (hgd : o.guard = none) (s y : Operand)
    (ho : o.op = .call { callee := .builtin .append, args := #[s, y], argTypes := #[23, 23] })
    {v : Value} {bs : List UInt8} {x g : Nat} (hs : a.eval s = v) (hy : a.eval y = .slice (some ⟨g, 0, none⟩) 1 1) (hst : St w v bs W) (hz : Zg W v x g) (hx : x < 256) (hb : bs.length ≤ 90000000000)
    (h : ∀ v' W', St w v' (bs ++ [UInt8.ofNat x]) W' → LayF W W' v v' → K (a.put o.dst v') W') : if Region.wanted o (yielded ops a.tmps) = true then Oper.wp Try.prog o a W K Q else E :=
  step_appB hgd s y ho hs hst.1 hy (hz.src hx) (by simp; omega) hst.size fun v' W' h1 h2 => h v' W' (hst.lay h1 (LayF.app h2)) (LayF.app h2)

/-- A text is appended, in a region that draws its order. -/
theorem arm_txt {w W : World} {ops : Array Oper} {o : Oper} {a : Act} {K : Act → World → Prop} {Q : Exit → Act → World → Prop} {E : Prop} (hgd : o.guard = none) (s y : Operand)
    (ho : o.op = .call { callee := .builtin .append, args := #[s, y], argTypes := #[23, 9] })
    {v : Value} {bs : List UInt8} {t : ByteArray} (hs : a.eval s = v) (hy : a.eval y = .string t) (hst : St w v bs W) (hb : bs.length + t.size ≤ 90000000000)
    (h : ∀ v' W', St w v' (bs ++ sl t) W' → LayF W W' v v' → K (a.put o.dst v') W') : if Region.wanted o (yielded ops a.tmps) = true then Oper.wp Try.prog o a W K Q else E := by
  have hw : Region.wanted o (yielded ops a.tmps) = true := by simp [Region.wanted, hgd]
  rw [if_pos hw]
  obtain ⟨v', w', hr, h2, h3⟩ := appT_run hst.1 t (by omega) hst.size o.type
  unfold Oper.wp execOp
  simp only [ho, resolve, invoke, builtin, Sem.run_bind, Sem.run_pure, Result.andThen_ok, List.map_toArray, List.map_cons, List.map_nil, hs, hy, hr]
  exact h v' w' (hst.lay h2 h3) h3

/-- Another row is appended, in a region that draws its order. -/
theorem arm_row {w W : World} {ops : Array Oper} {o : Oper} {a : Act} {K : Act → World → Prop} {Q : Exit → Act → World → Prop} {E : Prop} (hgd : o.guard = none) (s y : Operand)
    (ho : o.op = .call { callee := .builtin .append, args := #[s, y], argTypes := #[23, 23] })
    {v u : Value} {bs l : List UInt8} (hs : a.eval s = v) (hy : a.eval y = u) (hst : St w v bs W) (hsrc : SrcB W u l) (hb : bs.length + l.length ≤ 90000000000)
    (h : ∀ v' W', St w v' (bs ++ l) W' → LayF W W' v v' → K (a.put o.dst v') W') : if Region.wanted o (yielded ops a.tmps) = true then Oper.wp Try.prog o a W K Q else E :=
  step_appB hgd s y ho hs hst.1 hy hsrc (by omega) hst.size fun v' W' h1 h2 => h v' W' (hst.lay h1 (LayF.app h2)) (LayF.app h2)

end Go.Proofs.Ytambhapgjonmmaa
