/- append onto a row of the call's own, whatever the source: nil, empty, or not. -/
import Derived.Test.YtiodjhcjfbnocaaOwn
import Derived.Maps.AppendAt
import Derived.RegionTactic
namespace Go.Proofs.Ytiodjhcjfbnocaa
open Go.RowKit
set_option linter.unusedVariables false
set_option linter.unusedSimpArgs false

/-- What is to be appended: m elements of so many cells each. -/
def Src (w : World) (sv : Value) (m size : Nat) (news : List Value) : Prop :=
  (sv = .slice none 0 0 ∧ m = 0 ∧ news = []) ∨
  ∃ ad c, sv = .slice (some ad) m c ∧ news.length = m * size ∧ (∀ j u, news[j]? = some u → w.cell? (ad.add j) = some u) ∧ ∀ u ∈ news, u.oneCell' = true

/-- What an append does to memory: v's row alone, and new blocks; where the new value lies. -/
def AppF (w w' : World) (v v' : Value) : Prop :=
  w.grownBy w' v.ownBlock ∧ (v'.ownBlock = v.ownBlock ∨ v'.ownBlock = some w.heap.size)

theorem app_run {P : Program} (w : World) {t : TypeId} (ty : TypeId) {e : TypeId} {z : Value} {size bytes : Nat} (ht : P.underlying t = some (.slice e))
    (hinfo : (P.info? e).map (fun i => (i.zero, i.size, i.bytes)) = some (some z, size, bytes)) (hzs : z.cells.size = size) (hsz : 0 < size)
    {B : Nat} {v : Value} {n : Nat} {xs : List Value} (hown : w.ownsRow B e size v n xs) {sv : Value} {m : Nat} {news : List Value} (hsrc : Src w sv m size news)
    (h63 : n + m ≤ maxLen) (hbytes : (n + m) * bytes ≤ 140737488355328) (hbase : B ≤ w.heap.size) :
    ∃ v' w', (Builtin.append_ #[t, t] ty #[v, sv]).run P w = .ok v' w' ∧ w'.ownsRow B e size v' (n + m) (xs ++ news) ∧ AppF w w' v v' := by
  obtain ⟨i0, hi, hz0, hz1, hz2⟩ := info_parts hinfo
  rcases hsrc with ⟨rfl, rfl, rfl⟩ | ⟨ad, c, rfl, hl, hn, h1⟩
  · refine ⟨v, w, run_append_owned_none (P := P) (w := w) B t ty e i0 size ht hi v n xs hown, by simpa using hown, ⟨rfl, rfl, rfl, Nat.le_refl _, fun _ _ _ => rfl⟩, .inl rfl⟩
  · obtain ⟨v', w', hr, h2, h3, _, h5⟩ := run_append_own_at (P := P) w B t ty e i0 z size bytes ht hi hz0 hz1 hz2 hzs hsz v n xs hown ad m c news hl hn h1 h63 hbytes hbase
    exact ⟨v', w', hr, h2, h3, h5⟩

theorem wp_app {P : Program} {w : World} {t e : TypeId} {z : Value} {size bytes : Nat} (ht : P.underlying t = some (.slice e))
    (hinfo : (P.info? e).map (fun i => (i.zero, i.size, i.bytes)) = some (some z, size, bytes)) (hzs : z.cells.size = size) (hsz : 0 < size)
    {o : Oper} {a : Act} {K : Act → World → Prop} {Q : Exit → Act → World → Prop} (s x : Operand)
    (ho : o.op = .call { callee := .builtin .append, args := #[s, x], argTypes := #[t, t] })
    {B : Nat} {v : Value} {n : Nat} {xs : List Value} (hs : a.eval s = v) (hown : w.ownsRow B e size v n xs) {sv : Value} {m : Nat} {news : List Value} (hx : a.eval x = sv) (hsrc : Src w sv m size news)
    (h63 : n + m ≤ maxLen) (hbytes : (n + m) * bytes ≤ 140737488355328) (hbase : B ≤ w.heap.size)
    (h : ∀ v' w', w'.ownsRow B e size v' (n + m) (xs ++ news) → AppF w w' v v' → K (a.put o.dst v') w') : o.wp P a w K Q := by
  obtain ⟨v', w', hr, h2, h3⟩ := app_run (P := P) w o.type ht hinfo hzs hsz hown hsrc h63 hbytes hbase
  unfold Oper.wp execOp
  simp only [ho, resolve, invoke, builtin, Sem.run_bind, Sem.run_pure, Result.andThen_ok, List.map_toArray, List.map_cons, List.map_nil, hs, hx, hr]
  exact h v' w' h2 h3

/-- Bytes to be appended. -/
def SrcB (w : World) (sv : Value) (l : List UInt8) : Prop := ∃ a m c, sv = .slice a m c ∧ RdB w a m l ∧ (a = none → c = 0)

theorem SrcB.src {w : World} {sv : Value} {l : List UInt8} (h : SrcB w sv l) : Src w sv l.length 1 (byteCells l) := by
  obtain ⟨a, m, c, rfl, hr, hc⟩ := h
  cases a with
  | none =>
    have := hc rfl
    subst this
    have hm : m = 0 := by
      rcases Nat.eq_zero_or_pos m with h | h
      · exact h
      · obtain ⟨b, o, ha, _⟩ := hr.at 0 h; simp at ha
    subst hm
    have : l = [] := List.eq_nil_of_length_eq_zero hr.1
    subst this
    exact .inl ⟨rfl, rfl, rfl⟩
  | some ad =>
    refine .inr ⟨ad, c, by rw [hr.1], by rw [byteCells_length]; omega, fun j u hj => ?_, byteCells_one l⟩
    have hlt : j < l.length := by
      have := (List.getElem?_eq_some_iff.1 hj).1
      rwa [byteCells_length] at this
    obtain ⟨b, o, ha, hcell⟩ := hr.at j (by rw [← hr.1]; exact hlt)
    simp only [Option.some.injEq] at ha
    subst ha
    have e := byteCells_at l j hlt
    rw [List.getD_eq_getElem?_getD, hj] at e
    have ea : (⟨b, o, none⟩ : Addr).add j = ⟨b, o + j, none⟩ := by unfold Addr.add; split <;> simp_all
    rw [ea, hcell]
    exact congrArg some e.symm

theorem SrcB.keep {w w' : World} {sv l} (h : SrcB w sv l) (hb : Below w.heap.size w w') : SrcB w' sv l := by
  obtain ⟨a, m, c, e, hr, hc⟩ := h; exact ⟨a, m, c, e, hr.keep hb, hc⟩

theorem OwnB.srcB {w : World} {B : Nat} {v : Value} {bs : List UInt8} (h : OwnB w B v bs) : SrcB w v bs := by
  obtain ⟨a, cap, rfl, hr⟩ := h.reads
  refine ⟨a, _, cap, rfl, hr, ?_⟩
  rintro rfl
  rcases h.2 with ⟨e, _⟩ | ⟨g, cp, cur, e, _⟩
  · simp only [Value.slice.injEq] at e; exact e.2.2
  · simp at e

/-- One byte, laid in a block of its own. -/
theorem srcB_one (w : World) (x : Nat) (hx : x < 256) : SrcB (w.alloc (.cells #[.int .u8 (x : Nat)] 5)) (.slice (some ⟨w.heap.size, 0, none⟩) 1 1) [UInt8.ofNat x] := by
  refine ⟨some ⟨w.heap.size, 0, none⟩, 1, 1, rfl, ⟨rfl, by omega, fun i hi => ⟨w.heap.size, 0, rfl, ?_⟩⟩, by simp⟩
  obtain rfl : i = 0 := by omega
  have : x % 256 = x := by omega
  simp [bAt, this]

theorem wp_appB {w : World} {o : Oper} {a : Act} {K : Act → World → Prop} {Q : Exit → Act → World → Prop} (s x : Operand)
    (ho : o.op = .call { callee := .builtin .append, args := #[s, x], argTypes := #[23, 23] })
    {B : Nat} {v : Value} {bs : List UInt8} (hs : a.eval s = v) (hown : OwnB w B v bs) {sv : Value} {l : List UInt8} (hx : a.eval x = sv) (hsrc : SrcB w sv l)
    (hb : bs.length + l.length ≤ 100000000000) (hbase : B ≤ w.heap.size)
    (h : ∀ v' w', OwnB w' B v' (bs ++ l) → AppF w w' v v' → K (a.put o.dst v') w') : o.wp Try.prog a w K Q :=
  wp_app Try.underlying23 infoU8 rfl (by omega) s x ho hs hown hx hsrc.src (by unfold maxLen; omega) (by omega) hbase
    fun v' w' h1 h2 => h v' w' (by unfold OwnB; rw [byteCells_append, List.length_append]; exact h1) h2

theorem wpList_appB {w : World} {ops : Array Oper} {rest : List Oper} {o : Oper} {a : Act} {Q : Exit → Act → World → Prop} (hgd : o.guard = none) (s x : Operand)
    (ho : o.op = .call { callee := .builtin .append, args := #[s, x], argTypes := #[23, 23] })
    {B : Nat} {v : Value} {bs : List UInt8} (hs : a.eval s = v) (hown : OwnB w B v bs) {sv : Value} {l : List UInt8} (hx : a.eval x = sv) (hsrc : SrcB w sv l)
    (hb : bs.length + l.length ≤ 100000000000) (hbase : B ≤ w.heap.size)
    (h : ∀ v' w', OwnB w' B v' (bs ++ l) → AppF w w' v v' → wpList Try.prog ops Q rest (a.put o.dst v') w') : wpList Try.prog ops Q (o :: rest) a w :=
  wpList_plain hgd fun _ hK => wp_appB s x ho hs hown hx hsrc hb hbase fun v' w' h1 h2 => hK _ _ (h v' w' h1 h2)

theorem step_appB {w : World} {ops : Array Oper} {o : Oper} {a : Act} {K : Act → World → Prop} {Q : Exit → Act → World → Prop} {E : Prop} (hgd : o.guard = none) (s x : Operand)
    (ho : o.op = .call { callee := .builtin .append, args := #[s, x], argTypes := #[23, 23] })
    {B : Nat} {v : Value} {bs : List UInt8} (hs : a.eval s = v) (hown : OwnB w B v bs) {sv : Value} {l : List UInt8} (hx : a.eval x = sv) (hsrc : SrcB w sv l)
    (hb : bs.length + l.length ≤ 100000000000) (hbase : B ≤ w.heap.size)
    (h : ∀ v' w', OwnB w' B v' (bs ++ l) → AppF w w' v v' → K (a.put o.dst v') w') : if Region.wanted o (yielded ops a.tmps) = true then Oper.wp Try.prog o a w K Q else E := by
  have hw : Region.wanted o (yielded ops a.tmps) = true := by simp [Region.wanted, hgd]
  rw [if_pos hw]
  exact wp_appB s x ho hs hown hx hsrc hb hbase h

theorem wpList_app {P : Program} {w : World} {t e : TypeId} {z : Value} {size bytes : Nat} (ht : P.underlying t = some (.slice e))
    (hinfo : (P.info? e).map (fun i => (i.zero, i.size, i.bytes)) = some (some z, size, bytes)) (hzs : z.cells.size = size) (hsz : 0 < size)
    {ops : Array Oper} {rest : List Oper} {o : Oper} {a : Act} {Q : Exit → Act → World → Prop} (hgd : o.guard = none) (s x : Operand)
    (ho : o.op = .call { callee := .builtin .append, args := #[s, x], argTypes := #[t, t] })
    {B : Nat} {v : Value} {n : Nat} {xs : List Value} (hs : a.eval s = v) (hown : w.ownsRow B e size v n xs) {sv : Value} {m : Nat} {news : List Value} (hx : a.eval x = sv) (hsrc : Src w sv m size news)
    (h63 : n + m ≤ maxLen) (hbytes : (n + m) * bytes ≤ 140737488355328) (hbase : B ≤ w.heap.size)
    (h : ∀ v' w', w'.ownsRow B e size v' (n + m) (xs ++ news) → AppF w w' v v' → wpList P ops Q rest (a.put o.dst v') w') : wpList P ops Q (o :: rest) a w :=
  wpList_plain hgd fun _ hK => wp_app ht hinfo hzs hsz s x ho hs hown hx hsrc h63 hbytes hbase fun v' w' h1 h2 => hK _ _ (h v' w' h1 h2)

theorem step_app {P : Program} {w : World} {t e : TypeId} {z : Value} {size bytes : Nat} (ht : P.underlying t = some (.slice e))
    (hinfo : (P.info? e).map (fun i => (i.zero, i.size, i.bytes)) = some (some z, size, bytes)) (hzs : z.cells.size = size) (hsz : 0 < size)
    {ops : Array Oper} {o : Oper} {a : Act} {K : Act → World → Prop} {Q : Exit → Act → World → Prop} {E : Prop} (hgd : o.guard = none) (s x : Operand)
    (ho : o.op = .call { callee := .builtin .append, args := #[s, x], argTypes := #[t, t] })
    {B : Nat} {v : Value} {n : Nat} {xs : List Value} (hs : a.eval s = v) (hown : w.ownsRow B e size v n xs) {sv : Value} {m : Nat} {news : List Value} (hx : a.eval x = sv) (hsrc : Src w sv m size news)
    (h63 : n + m ≤ maxLen) (hbytes : (n + m) * bytes ≤ 140737488355328) (hbase : B ≤ w.heap.size)
    (h : ∀ v' w', w'.ownsRow B e size v' (n + m) (xs ++ news) → AppF w w' v v' → K (a.put o.dst v') w') : if Region.wanted o (yielded ops a.tmps) = true then Oper.wp P o a w K Q else E := by
  have hw : Region.wanted o (yielded ops a.tmps) = true := by simp [Region.wanted, hgd]
  rw [if_pos hw]
  exact wp_app ht hinfo hzs hsz s x ho hs hown hx hsrc h63 hbytes hbase h

/-! ### What stays behind an append -/

/-- Two values' own rows are not one. -/
def Sep (v u : Value) : Prop := ∀ g, v.ownBlock = some g → u.ownBlock ≠ some g

theorem Sep.symm {v u : Value} (h : Sep v u) : Sep u v := fun g hu hv => h g hv hu
theorem Sep.nil (u : Value) : Sep (.slice none 0 0) u := fun g h => by simp [Value.ownBlock] at h

theorem owns_lt {w : World} {B e size n : Nat} {v : Value} {xs : List Value} (h : w.ownsRow B e size v n xs) : ∀ k, v.ownBlock = some k → B ≤ k ∧ k < w.heap.size := fun k hk => h.lt k hk

theorem AppF.chg {w w' : World} {v v' : Value} (h : AppF w w' v v') : Chg (fun k => v.ownBlock = some k) w w' :=
  ⟨h.1.os, h.1.tape, h.1.output, h.1.size, fun k hk hn => h.1.block k hk fun e => hn e.symm⟩

theorem AppF.size {w w' : World} {v v' : Value} (h : AppF w w' v v') : w.heap.size ≤ w'.heap.size := h.1.size

theorem AppF.below {a w w' : World} {v v' : Value} {X : Nat} (h : AppF w w' v v') (hb : Below X a w) (hX : X ≤ w.heap.size) (hv : ∀ k, v.ownBlock = some k → X ≤ k) : Below X a w' :=
  hb.trans (h.chg.below hX hv)

/-- Another value's row stays. -/
theorem AppF.owns {w w' : World} {v v' u : Value} {B e size n : Nat} {xs : List Value} (h : AppF w w' v v') (hs : Sep v u) (ho : w.ownsRow B e size u n xs) : w'.ownsRow B e size u n xs :=
  ho.kept h.1 (by
    cases hu : u.ownBlock with
    | none => exact .inl rfl
    | some g => exact .inr fun e => hs g e.symm hu)

theorem AppF.sep {w w' : World} {v v' u : Value} {B e size n : Nat} {xs : List Value} (h : AppF w w' v v') (hs : Sep v u) (ho : w.ownsRow B e size u n xs) : Sep v' u := by
  intro g hg hu
  rcases h.2 with e | e
  · exact hs g (by rw [← e]; exact hg) hu
  · have := (ho.lt g hu).2
    rw [e] at hg
    have := Option.some.inj hg
    omega

theorem AppF.rdB {w w' : World} {v v' : Value} {a len l} (h : AppF w w' v v') (hr : RdB w a len l) (hv : ∀ p, a = some p → v.ownBlock ≠ some p.block) : RdB w' a len l := hr.chg h.chg hv

theorem AppF.cell {w w' : World} {v v' : Value} {p : Addr} {u : Value} (h : AppF w w' v v') (hc : w.cell? p = some u) (hv : v.ownBlock ≠ some p.block) : w'.cell? p = some u :=
  h.chg.cell hv hc

theorem AppF.far {w w' : World} {v v' : Value} {b : Nat} (h : AppF w w' v v') (hne : v.ownBlock ≠ some b) (hb : b < w.heap.size) : v'.ownBlock ≠ some b := by
  intro e
  rcases h.2 with e2 | e2
  · exact hne (e2 ▸ e)
  · rw [e2] at e
    have := Option.some.inj e
    omega

theorem owns_keep {w w' : World} {B e size n : Nat} {v : Value} {xs : List Value} (h : w.ownsRow B e size v n xs) (hb : Below w.heap.size w w') : w'.ownsRow B e size v n xs := by
  refine ⟨h.1, ?_⟩
  rcases h.2 with h2 | ⟨g, cap, cur, rfl, hB, hg, r⟩
  · exact .inl h2
  · refine .inr ⟨g, cap, cur, rfl, hB, ?_, r⟩
    have hlt : g < w.heap.size := (Array.getElem?_eq_some_iff.1 hg).1
    rw [hb.block g hlt]
    exact hg

theorem OwnB.keep {w w' : World} {B : Nat} {v : Value} {bs : List UInt8} (h : OwnB w B v bs) (hb : Below w.heap.size w w') : OwnB w' B v bs := owns_keep h hb

theorem SrcB.app {w w' : World} {v v' sv : Value} {l} (h : AppF w w' v v') (hs : SrcB w sv l) (hv : Sep v sv) : SrcB w' sv l := by
  obtain ⟨a, m, c, rfl, hr, hc⟩ := hs
  refine ⟨a, m, c, rfl, h.rdB hr ?_, hc⟩
  rintro p rfl e
  exact hv _ e rfl

theorem rd_take {w : World} {a : Option Addr} {len : Nat} {bs : List UInt8} (h : RdB w a len bs) (p : Nat) (hp : p ≤ len) : RdB w a p (bs.take p) := by
  refine ⟨by rw [List.length_take, h.1, Nat.min_eq_left hp], by have := h.2.1; omega, fun i hi => ?_⟩
  obtain ⟨b, o, ha, hc⟩ := h.at i (by omega)
  refine ⟨b, o, ha, ?_⟩
  rw [hc]
  simp only [bAt, getD_take _ _ _ _ hi]

theorem rd_drop {w : World} {b o : Nat} {len : Nat} {bs : List UInt8} (h : RdB w (some ⟨b, o, none⟩) len bs) (p : Nat) (hp : p ≤ len) : RdB w (some ⟨b, o + p, none⟩) (len - p) (bs.drop p) := by
  refine ⟨by rw [List.length_drop, h.1], by have := h.2.1; omega, fun i hi => ⟨b, o + p, rfl, ?_⟩⟩
  obtain ⟨b', o', ha, hc⟩ := h.at (p + i) (by omega)
  simp only [Option.some.injEq, Addr.mk.injEq, and_true] at ha
  obtain ⟨rfl, rfl⟩ := ha
  rw [Nat.add_assoc, hc]
  simp only [bAt, getD_drop]

end Go.Proofs.Ytiodjhcjfbnocaa
