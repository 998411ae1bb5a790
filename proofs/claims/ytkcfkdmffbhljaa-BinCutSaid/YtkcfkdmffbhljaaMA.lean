/- What a slice that came in reads as, and what stays of it when memory is made. No program in sight. What an owned row reads as. Rows of bytes that a call itself made; what may change. append onto a row of the call's own, whatever the source: nil, empty, or not. append onto a row of numbers of the call's own. Bytes made a string. From the form's reading of an argument to what the walks ask. Trees of values, and how they lie in memory. An argument that is a value of a document reads as a tree. Trees in memory: in which blocks they lie; rows of Kids of the call's own. -/
import Derived.WalkKit
import Derived.ProofKit
import Derived.OpenShut
import Derived.ShutString
import Derived.ChangeOld
import Derived.Below
import Derived.Lib.Hide
import Derived.IntWalk
import Derived.BigQuiet
import Derived.Deep.QuietTactic
import Derived.Handy
import Derived.WalkLawsBesides
import Derived.WalkSpells
import Derived.PlainAid
import Derived.Test.YtkcfkdmffbhljaaRows
import Derived.Deep.AppendLies
import Derived.Maps.AppendAt
import Derived.RegionTactic
namespace Go.Proofs.Ytkcfkdmffbhljaa
open Go.RowKit
set_option linter.unusedVariables false
set_option linter.unusedSimpArgs false

/-- A slice's elements, one cell each: 'len' of them, the i-th being f i. -/
def RdF (w : World) (a : Option Addr) (len : Nat) (f : Nat → Value) : Prop :=
  ∀ i, i < len → ∃ b o, a = some ⟨b, o, none⟩ ∧ w.cell? ⟨b, o + i, none⟩ = some (f i)

/-- The byte at a place, as a number. -/
def bAt (l : List UInt8) (i : Nat) : Nat := (l.getD i 0).toNat

theorem bAt_lt (l : List UInt8) (i : Nat) : bAt l i < 256 := UInt8.toNat_lt _
theorem bAt_bd (l : List UInt8) (i : Nat) : (bAt l i : Int) < 256 := by have := bAt_lt l i; omega

/-- A slice of bytes. -/
def RdB (w : World) (a : Option Addr) (len : Nat) (l : List UInt8) : Prop :=
  l.length = len ∧ len ≤ 9223372036854775807 ∧ RdF w a len fun i => .int .u8 (bAt l i : Nat)

/-- A slice of numbers. -/
def RdI (k : IntKind) (w : World) (a : Option Addr) (len : Nat) (l : List Int) : Prop :=
  l.length = len ∧ len ≤ 9223372036854775807 ∧ (∀ n ∈ l, (Lit.int k n).wf = true) ∧ RdF w a len fun i => .int k (l.getD i 0)

theorem cell_block {w : World} {p : Addr} {v : Value} (h : w.cell? p = some v) : p.block < w.heap.size := World.block_lt_of_cell? w p h

theorem RdF.keep {w w' : World} {a len f} {B : Nat} (h : RdF w a len f) (hb : Below B w w') (hB : w.heap.size ≤ B) : RdF w' a len f := by
  intro i hi
  obtain ⟨b, o, ha, hc⟩ := h i hi
  have hl := cell_block hc
  exact ⟨b, o, ha, by rw [hb.cell (p := ⟨b, o + i, none⟩) (by simp at hl ⊢; omega)]; exact hc⟩

theorem RdB.keep {w w' : World} {a len l} (h : RdB w a len l) (hb : Below w.heap.size w w') : RdB w' a len l := ⟨h.1, h.2.1, h.2.2.keep hb (Nat.le_refl _)⟩
theorem RdI.keep {k} {w w' : World} {a len l} (h : RdI k w a len l) (hb : Below w.heap.size w w') : RdI k w' a len l := ⟨h.1, h.2.1, h.2.2.1, h.2.2.2.keep hb (Nat.le_refl _)⟩

theorem RdB.nil (w : World) (a : Option Addr) : RdB w a 0 [] := ⟨rfl, by omega, fun i hi => absurd hi (Nat.not_lt_zero i)⟩

theorem RdB.at {w : World} {a len l} (h : RdB w a len l) (i : Nat) (hi : i < len) : ∃ b o, a = some ⟨b, o, none⟩ ∧ w.cell? ⟨b, o + i, none⟩ = some (.int .u8 (bAt l i : Nat)) := h.2.2 i hi

theorem below_drewN (w : World) (n : Nat) (B : Nat) : Below B w (w.drewN n) := ⟨rfl, rfl, rfl, Nat.le_refl _, fun _ _ => rfl⟩

theorem u8_lt (x : UInt8) : (x.toNat : Int) < 256 := by have := x.toNat_lt; omega

/-- Little end first. -/
def le : List UInt8 → Nat
  | [] => 0
  | b :: r => b.toNat + 256 * le r

theorem le_lt (l : List UInt8) : le l < 256 ^ l.length := by
  induction l with
  | nil => simp [le]
  | cons b r ih => have := b.toNat_lt; simp only [le, List.length_cons, Nat.pow_succ]; omega

theorem le_append (l r : List UInt8) : le (l ++ r) = le l + 256 ^ l.length * le r := by
  induction l with
  | nil => simp [le]
  | cons b l ih => simp only [List.cons_append, le, ih, List.length_cons, Nat.pow_succ, Nat.mul_add]; rw [← Nat.mul_assoc, Nat.mul_comm 256 (256 ^ l.length)]; omega

theorem drop_getD {α} (l : List α) (d : α) (k : Nat) (h : k < l.length) : l.drop k = l.getD k d :: l.drop (k + 1) := by
  rw [List.drop_eq_getElem_cons h]; simp [List.getD, h]

theorem opt_getD {α} (l : List α) (k : Nat) (d : α) : l[k]?.getD d = l.getD k d := by simp [List.getD]

theorem getD_drop {α} (l : List α) (d : α) (a i : Nat) : (l.drop a).getD i d = l.getD (a + i) d := by simp [List.getD]

theorem getD_take {α} (l : List α) (d : α) (n i : Nat) (h : i < n) : (l.take n).getD i d = l.getD i d := by simp [List.getD, h]

theorem wrap_u64_of {n : Int} (h0 : 0 ≤ n) (h1 : n < 18446744073709551616) : IntKind.u64.wrap n = n := by simp [IntKind.wrap, IntKind.bits, IntKind.signed]; omega

def okSize : Nat := 18446744073709551616
theorem wrap_u64_nat {n : Nat} (h1 : n < okSize) : IntKind.u64.wrap (n : Int) = (n : Int) := wrap_u64_of (by omega) (by unfold okSize at h1; omega)

theorem ownsRow_weaken {w : World} {B B' : Nat} {e size v n xs} (h : w.ownsRow B e size v n xs) (hB : B' ≤ B) : w.ownsRow B' e size v n xs := by
  refine ⟨h.1, ?_⟩
  rcases h.2 with h2 | ⟨g, cap, cur, hv, hg, r⟩
  · exact .inl h2
  · exact .inr ⟨g, cap, cur, hv, by omega, r⟩

theorem ownsRow_drewN {w : World} {B : Nat} {e size v n xs k} (h : w.ownsRow B e size v n xs) : (w.drewN k).ownsRow B e size v n xs := h

theorem Below_drewN {a w : World} {B k : Nat} (h : Below B a w) : Below B a (w.drewN k) := h.trans (below_drewN _ _ _)

theorem cell_below {W w' : World} {p : Addr} {v : Value} (hb : Below W.heap.size W w') (h : W.cell? p = some v) : w'.cell? p = some v := (hb.cell (cell_block h)).trans h

end Go.Proofs.Ytkcfkdmffbhljaa

namespace Go.Proofs.Ytkcfkdmffbhljaa
open Go.RowKit
set_option linter.unusedVariables false
set_option linter.unusedSimpArgs false

/-- A slice's elements, 'size' cells each. -/
def RdG (w : World) (a : Option Addr) (len size : Nat) (f : Nat → Nat → Value) : Prop :=
  ∀ i, i < len → ∃ b o, a = some ⟨b, o, none⟩ ∧ ∀ j, j < size → w.cell? ⟨b, o + (i * size + j), none⟩ = some (f i j)

theorem RdG.keep {w w' : World} {a len size f} {B : Nat} (h : RdG w a len size f) (hb : Below B w w') (hB : w.heap.size ≤ B) : RdG w' a len size f := by
  intro i hi
  obtain ⟨b, o, ha, hc⟩ := h i hi
  refine ⟨b, o, ha, fun j hj => ?_⟩
  have hl := cell_block (hc j hj)
  rw [hb.cell (p := ⟨b, o + (i * size + j), none⟩) (by simp at hl ⊢; omega)]
  exact hc j hj

theorem owns_reads {w : World} {B e size n : Nat} {v : Value} {xs : List Value} (h : w.ownsRow B e size v n xs) :
    ∃ a cap, v = .slice a n cap ∧ n ≤ 9223372036854775807 ∧ RdG w a n size fun i j => xs.getD (i * size + j) undef := by
  rcases h.2 with ⟨rfl, rfl⟩ | ⟨g, cap, cur, rfl, hb, hg, hnc, hcm, hcs, htake⟩
  · exact ⟨none, 0, rfl, by omega, fun i hi => absurd hi (Nat.not_lt_zero i)⟩
  · refine ⟨some ⟨g, 0, none⟩, cap, rfl, by unfold maxLen at hcm; omega, fun i hi => ⟨g, 0, rfl, fun j hj => ?_⟩⟩
    have hlt : i * size + j < n * size := by
      calc i * size + j < i * size + size := by omega
        _ = (i + 1) * size := by rw [Nat.add_mul, Nat.one_mul]
        _ ≤ n * size := Nat.mul_le_mul_right _ hi
    rw [Nat.zero_add, h.cellAt _ hlt]
    have : i * size + j < xs.length := by rw [h.1]; exact hlt
    show _ = some (xs.getD (i * size + j) undef)
    rw [List.getD_eq_getElem?_getD, List.getElem?_eq_getElem this]
    rfl

end Go.Proofs.Ytkcfkdmffbhljaa

namespace Go.Proofs.Ytkcfkdmffbhljaa
open Go.RowKit
set_option linter.unusedVariables false
set_option linter.unusedSimpArgs false

/-- The cells of bytes. -/
def byteCells (bs : List UInt8) : List Value := bs.map fun b => .int .u8 (b.toNat : Nat)

theorem byteCells_append (a b : List UInt8) : byteCells (a ++ b) = byteCells a ++ byteCells b := by simp [byteCells]
theorem byteCells_length (a : List UInt8) : (byteCells a).length = a.length := by simp [byteCells]
theorem byteCells_one (a : List UInt8) : ∀ u ∈ byteCells a, u.oneCell' = true := by
  intro u hu
  simp only [byteCells, List.mem_map] at hu
  obtain ⟨b, _, rfl⟩ := hu
  rfl

/-- A row of bytes of the call's own. -/
def OwnB (w : World) (B : Nat) (v : Value) (bs : List UInt8) : Prop := w.ownsRow B 5 1 v bs.length (byteCells bs)

theorem infoU8 : (Try.prog.info? 5).map (fun i => (i.zero, i.size, i.bytes)) = some (some (.int .u8 0), 1, 1) := by kernel_rfl

theorem byteCells_at (bs : List UInt8) (i : Nat) (h : i < bs.length) : (byteCells bs).getD i undef = .int .u8 (bAt bs i : Nat) := by
  simp only [byteCells, bAt, List.getD_eq_getElem?_getD, List.getElem?_map, List.getElem?_eq_getElem h]
  rfl

theorem OwnB.reads {w : World} {B : Nat} {v : Value} {bs : List UInt8} (h : OwnB w B v bs) : ∃ a cap, v = .slice a bs.length cap ∧ RdB w a bs.length bs := by
  obtain ⟨a, cap, rfl, hm, hg⟩ := owns_reads h
  refine ⟨a, cap, rfl, rfl, hm, fun i hi => ?_⟩
  obtain ⟨b, o, ha, hc⟩ := hg i hi
  refine ⟨b, o, ha, ?_⟩
  have := hc 0 (by omega)
  rw [Nat.mul_one, Nat.add_zero] at this
  rw [this]
  show some ((byteCells bs).getD (i * 1 + 0) undef) = _
  rw [Nat.mul_one, Nat.add_zero, byteCells_at bs i hi]

theorem OwnB.weaken {w : World} {B B' : Nat} {v : Value} {bs : List UInt8} (h : OwnB w B v bs) (hB : B' ≤ B) : OwnB w B' v bs := ownsRow_weaken h hB

/-- What may have changed: nothing but the blocks of S. -/
structure Chg (S : Nat → Prop) (w w' : World) : Prop where
  os : w'.os = w.os
  tape : w'.tape = w.tape
  output : w'.output = w.output
  size : w.heap.size ≤ w'.heap.size
  block : ∀ k, k < w.heap.size → ¬ S k → w'.heap[k]? = w.heap[k]?

theorem Chg.refl (S : Nat → Prop) (w : World) : Chg S w w := ⟨rfl, rfl, rfl, Nat.le_refl _, fun _ _ _ => rfl⟩
theorem Chg.trans {S S' : Nat → Prop} {a b c : World} (h : Chg S a b) (k : Chg S' b c) (hs : ∀ i, i < a.heap.size → S' i → S i) : Chg S a c :=
  ⟨k.os.trans h.os, k.tape.trans h.tape, k.output.trans h.output, Nat.le_trans h.size k.size, fun i hi hn => (k.block i (Nat.lt_of_lt_of_le hi h.size) (fun x => hn (hs i hi x))).trans (h.block i hi hn)⟩
theorem Chg.weaken {S S' : Nat → Prop} {a b : World} (h : Chg S a b) (hs : ∀ i, i < a.heap.size → S i → S' i) : Chg S' a b := ⟨h.os, h.tape, h.output, h.size, fun i hi hn => h.block i hi (fun x => hn (hs i hi x))⟩
theorem Chg.below {S : Nat → Prop} {a b : World} {B : Nat} (h : Chg S a b) (hB : B ≤ a.heap.size) (hs : ∀ i, S i → B ≤ i) : Below B a b :=
  ⟨h.os, h.tape, h.output, h.size, fun k hk => h.block k (by omega) (fun x => by have := hs k x; omega)⟩
theorem Chg.of_below {S : Nat → Prop} {a b : World} (h : Below a.heap.size a b) : Chg S a b := ⟨h.os, h.tape, h.output, h.size, fun k hk _ => h.block k hk⟩
theorem Chg.cell {S : Nat → Prop} {a b : World} (h : Chg S a b) {p : Addr} (hp : ¬ S p.block) {v : Value} (hv : a.cell? p = some v) : b.cell? p = some v :=
  (World.cell?_of_block (w := a) (h.block p.block (cell_block hv) hp)).trans hv
theorem Chg.alloc {S : Nat → Prop} {a b : World} (h : Chg S a b) (o : Obj) : Chg S a (b.alloc o) := h.trans (Chg.of_below (S := fun _ => False) ((Below.refl _ _).alloc (Nat.le_refl _) o)) (fun _ _ h => h.elim)
theorem Chg.drew {S : Nat → Prop} {a b : World} (h : Chg S a b) : Chg S a b.drew := ⟨h.os, h.tape, h.output, h.size, h.block⟩
theorem Chg.setCell {S : Nat → Prop} {a b : World} (h : Chg S a b) {p : Addr} (hp : p.block < a.heap.size → S p.block) (u : Value) : Chg S a (b.setCell p u) := by
  refine h.trans (S' := fun k => k = p.block) ⟨rfl, rfl, rfl, by simp [World.setCell], fun k hk hn => Below.heap_setCell _ _ _ _ hn⟩ ?_
  rintro i hi rfl
  exact hp hi
theorem Chg.grown {S : Nat → Prop} {a b c : World} {row : Option Nat} (h : Chg S a b) (hg : b.grownBy c row) (hr : ∀ k, row = some k → k < a.heap.size → S k) : Chg S a c := by
  refine h.trans (S' := fun k => row = some k) ⟨hg.os, hg.tape, hg.output, hg.size, fun k hk hn => hg.block k hk (fun e => hn e.symm)⟩ ?_
  intro i hi e
  exact hr i e hi

theorem OwnB.chg {S : Nat → Prop} {w w' : World} {B : Nat} {v : Value} {bs : List UInt8} (h : OwnB w B v bs) (hc : Chg S w w') (hv : ∀ k, v.ownBlock = some k → ¬ S k) : OwnB w' B v bs := by
  refine ⟨h.1, ?_⟩
  rcases h.2 with h2 | ⟨g, cap, cur, rfl, hb, hg, r⟩
  · exact .inl h2
  · refine .inr ⟨g, cap, cur, rfl, hb, ?_, r⟩
    have hlt : g < w.heap.size := (Array.getElem?_eq_some_iff.1 hg).1
    rw [hc.block g hlt (hv g rfl)]
    exact hg

theorem RdB.chg {S : Nat → Prop} {w w' : World} {a len l} (h : RdB w a len l) (hc : Chg S w w') (hv : ∀ p, a = some p → ¬ S p.block) : RdB w' a len l := by
  refine ⟨h.1, h.2.1, fun i hi => ?_⟩
  obtain ⟨b, o, ha, hcell⟩ := h.2.2 i hi
  exact ⟨b, o, ha, hc.cell (p := ⟨b, o + i, none⟩) (hv ⟨b, o, none⟩ ha) hcell⟩

end Go.Proofs.Ytkcfkdmffbhljaa

namespace Go.Proofs.Ytkcfkdmffbhljaa
open Go.RowKit
set_option linter.unusedVariables false
set_option linter.unusedSimpArgs false

/-- What is to be appended: m elements of so many cells each. -/
def Src (w : World) (sv : Value) (m size : Nat) (news : List Value) : Prop :=
  (sv = .slice none 0 0 ∧ m = 0 ∧ news = []) ∨
  ∃ ad c, sv = .slice (some ad) m c ∧ news.length = m * size ∧ (∀ j u, news[j]? = some u → w.cell? (ad.add j) = some u) ∧ ∀ u ∈ news, u.oneCell' = true

/-- What an append does to memory: v's row alone, and new blocks; where the new value lies. -/
def AppF (w w' : World) (v v' : Value) : Prop :=
  w.grownBy w' v.ownBlock ∧ (v'.ownBlock = v.ownBlock ∨ v'.ownBlock = some w.heap.size)

theorem app_run {P : Program} (w : World) {t : TypeId} (ty : TypeId) {e : TypeId} {z : Value} {size bytes : Nat} (ht : P.underlying t = some (.slice e))
    (hinfo : (P.info? e).map (fun i => (i.zero, i.size, i.bytes)) = some (some z, size, bytes)) (hzs : z.cells.size = size) (hsz : 0 < size)
    {B : Nat} {v : Value} {n : Nat} {xs : List Value} (hown : w.ownsRow B e size v n xs) {sv : Value} {m : Nat} {news : List Value} (hsrc : Src w sv m size news)
    (h63 : n + m ≤ maxLen) (hbytes : (n + m) * bytes ≤ 140737488355328) (hbase : B ≤ w.heap.size) :
    ∃ v' w', (Builtin.append_ #[t, t] ty #[v, sv]).run P w = .ok v' w' ∧ w'.ownsRow B e size v' (n + m) (xs ++ news) ∧ AppF w w' v v' := by
  obtain ⟨i0, hi, hz0, hz1, hz2⟩ := info_parts hinfo
  rcases hsrc with ⟨rfl, rfl, rfl⟩ | ⟨ad, c, rfl, hl, hn, h1⟩
  · refine ⟨v, w, run_append_owned_none (P := P) (w := w) B t ty e i0 size ht hi v n xs hown, by simpa using hown, ⟨rfl, rfl, rfl, Nat.le_refl _, fun _ _ _ => rfl⟩, .inl rfl⟩
  · obtain ⟨v', w', hr, h2, h3, _, h5⟩ := run_append_own_at (P := P) w B t ty e i0 z size bytes ht hi hz0 hz1 hz2 hzs hsz v n xs hown ad m c news hl hn h1 h63 hbytes hbase
    exact ⟨v', w', hr, h2, h3, h5⟩

theorem wp_app {P : Program} {w : World} {t e : TypeId} {z : Value} {size bytes : Nat} (ht : P.underlying t = some (.slice e))
    (hinfo : (P.info? e).map (fun i => (i.zero, i.size, i.bytes)) = some (some z, size, bytes)) (hzs : z.cells.size = size) (hsz : 0 < size)
    {o : Oper} {a : Act} {K : Act → World → Prop} {Q : Exit → Act → World → Prop} (s x : Operand)
    (ho : o.op = .call { callee := .builtin .append, args := #[s, x], argTypes := #[t, t] })
    {B : Nat} {v : Value} {n : Nat} {xs : List Value} (hs : a.eval s = v) (hown : w.ownsRow B e size v n xs) {sv : Value} {m : Nat} {news : List Value} (hx : a.eval x = sv) (hsrc : Src w sv m size news)
    (h63 : n + m ≤ maxLen) (hbytes : (n + m) * bytes ≤ 140737488355328) (hbase : B ≤ w.heap.size)
    (h : ∀ v' w', w'.ownsRow B e size v' (n + m) (xs ++ news) → AppF w w' v v' → K (a.put o.dst v') w') : o.wp P a w K Q := by
  obtain ⟨v', w', hr, h2, h3⟩ := app_run (P := P) w o.type ht hinfo hzs hsz hown hsrc h63 hbytes hbase
  unfold Oper.wp execOp
  simp only [ho, resolve, invoke, builtin, Sem.run_bind, Sem.run_pure, Result.andThen_ok, List.map_toArray, List.map_cons, List.map_nil, hs, hx, hr]
  exact h v' w' h2 h3

/-- Bytes to be appended. -/
def SrcB (w : World) (sv : Value) (l : List UInt8) : Prop := ∃ a m c, sv = .slice a m c ∧ RdB w a m l ∧ (a = none → c = 0)

theorem SrcB.src {w : World} {sv : Value} {l : List UInt8} (h : SrcB w sv l) : Src w sv l.length 1 (byteCells l) := by
  obtain ⟨a, m, c, rfl, hr, hc⟩ := h
  cases a with
  | none =>
    have := hc rfl
    subst this
    have hm : m = 0 := by
      rcases Nat.eq_zero_or_pos m with h | h
      · exact h
      · obtain ⟨b, o, ha, _⟩ := hr.at 0 h; simp at ha
    subst hm
    have : l = [] := List.eq_nil_of_length_eq_zero hr.1
    subst this
    exact .inl ⟨rfl, rfl, rfl⟩
  | some ad =>
    refine .inr ⟨ad, c, by rw [hr.1], by rw [byteCells_length]; omega, fun j u hj => ?_, byteCells_one l⟩
    have hlt : j < l.length := by
      have := (List.getElem?_eq_some_iff.1 hj).1
      rwa [byteCells_length] at this
    obtain ⟨b, o, ha, hcell⟩ := hr.at j (by rw [← hr.1]; exact hlt)
    simp only [Option.some.injEq] at ha
    subst ha
    have e := byteCells_at l j hlt
    rw [List.getD_eq_getElem?_getD, hj] at e
    have ea : (⟨b, o, none⟩ : Addr).add j = ⟨b, o + j, none⟩ := by unfold Addr.add; split <;> simp_all
    rw [ea, hcell]
    exact congrArg some e.symm

theorem SrcB.keep {w w' : World} {sv l} (h : SrcB w sv l) (hb : Below w.heap.size w w') : SrcB w' sv l := by
  obtain ⟨a, m, c, e, hr, hc⟩ := h; exact ⟨a, m, c, e, hr.keep hb, hc⟩

theorem OwnB.srcB {w : World} {B : Nat} {v : Value} {bs : List UInt8} (h : OwnB w B v bs) : SrcB w v bs := by
  obtain ⟨a, cap, rfl, hr⟩ := h.reads
  refine ⟨a, _, cap, rfl, hr, ?_⟩
  rintro rfl
  rcases h.2 with ⟨e, _⟩ | ⟨g, cp, cur, e, _⟩
  · simp only [Value.slice.injEq] at e; exact e.2.2
  · simp at e

/-- One byte, laid in a block of its own. -/
theorem srcB_one (w : World) (x : Nat) (hx : x < 256) : SrcB (w.alloc (.cells #[.int .u8 (x : Nat)] 5)) (.slice (some ⟨w.heap.size, 0, none⟩) 1 1) [UInt8.ofNat x] := by
  refine ⟨some ⟨w.heap.size, 0, none⟩, 1, 1, rfl, ⟨rfl, by omega, fun i hi => ⟨w.heap.size, 0, rfl, ?_⟩⟩, by simp⟩
  obtain rfl : i = 0 := by omega
  have : x % 256 = x := by omega
  simp [bAt, this]

theorem wp_appB {w : World} {o : Oper} {a : Act} {K : Act → World → Prop} {Q : Exit → Act → World → Prop} (s x : Operand)
    (ho : o.op = .call { callee := .builtin .append, args := #[s, x], argTypes := #[23, 23] })
    {B : Nat} {v : Value} {bs : List UInt8} (hs : a.eval s = v) (hown : OwnB w B v bs) {sv : Value} {l : List UInt8} (hx : a.eval x = sv) (hsrc : SrcB w sv l)
    (hb : bs.length + l.length ≤ 100000000000) (hbase : B ≤ w.heap.size)
    (h : ∀ v' w', OwnB w' B v' (bs ++ l) → AppF w w' v v' → K (a.put o.dst v') w') : o.wp Try.prog a w K Q :=
  wp_app Try.underlying23 infoU8 rfl (by omega) s x ho hs hown hx hsrc.src (by unfold maxLen; omega) (by omega) hbase
    fun v' w' h1 h2 => h v' w' (by unfold OwnB; rw [byteCells_append, List.length_append]; exact h1) h2

theorem wpList_appB {w : World} {ops : Array Oper} {rest : List Oper} {o : Oper} {a : Act} {Q : Exit → Act → World → Prop} (hgd : o.guard = none) (s x : Operand)
    (ho : o.op = .call { callee := .builtin .append, args := #[s, x], argTypes := #[23, 23] })
    {B : Nat} {v : Value} {bs : List UInt8} (hs : a.eval s = v) (hown : OwnB w B v bs) {sv : Value} {l : List UInt8} (hx : a.eval x = sv) (hsrc : SrcB w sv l)
    (hb : bs.length + l.length ≤ 100000000000) (hbase : B ≤ w.heap.size)
    (h : ∀ v' w', OwnB w' B v' (bs ++ l) → AppF w w' v v' → wpList Try.prog ops Q rest (a.put o.dst v') w') : wpList Try.prog ops Q (o :: rest) a w :=
  wpList_plain hgd fun _ hK => wp_appB s x ho hs hown hx hsrc hb hbase fun v' w' h1 h2 => hK _ _ (h v' w' h1 h2)

theorem step_appB {w : World} {ops : Array Oper} {o : Oper} {a : Act} {K : Act → World → Prop} {Q : Exit → Act → World → Prop} {E : Prop} (hgd : o.guard = none) (s x : Operand)
    (ho : o.op = .call { callee := .builtin .append, args := #[s, x], argTypes := #[23, 23] })
    {B : Nat} {v : Value} {bs : List UInt8} (hs : a.eval s = v) (hown : OwnB w B v bs) {sv : Value} {l : List UInt8} (hx : a.eval x = sv) (hsrc : SrcB w sv l)
    (hb : bs.length + l.length ≤ 100000000000) (hbase : B ≤ w.heap.size)
    (h : ∀ v' w', OwnB w' B v' (bs ++ l) → AppF w w' v v' → K (a.put o.dst v') w') : if Region.wanted o (yielded ops a.tmps) = true then Oper.wp Try.prog o a w K Q else E := by
  have hw : Region.wanted o (yielded ops a.tmps) = true := by simp [Region.wanted, hgd]
  rw [if_pos hw]
  exact wp_appB s x ho hs hown hx hsrc hb hbase h

theorem wpList_app {P : Program} {w : World} {t e : TypeId} {z : Value} {size bytes : Nat} (ht : P.underlying t = some (.slice e))
    (hinfo : (P.info? e).map (fun i => (i.zero, i.size, i.bytes)) = some (some z, size, bytes)) (hzs : z.cells.size = size) (hsz : 0 < size)
    {ops : Array Oper} {rest : List Oper} {o : Oper} {a : Act} {Q : Exit → Act → World → Prop} (hgd : o.guard = none) (s x : Operand)
    (ho : o.op = .call { callee := .builtin .append, args := #[s, x], argTypes := #[t, t] })
    {B : Nat} {v : Value} {n : Nat} {xs : List Value} (hs : a.eval s = v) (hown : w.ownsRow B e size v n xs) {sv : Value} {m : Nat} {news : List Value} (hx : a.eval x = sv) (hsrc : Src w sv m size news)
    (h63 : n + m ≤ maxLen) (hbytes : (n + m) * bytes ≤ 140737488355328) (hbase : B ≤ w.heap.size)
    (h : ∀ v' w', w'.ownsRow B e size v' (n + m) (xs ++ news) → AppF w w' v v' → wpList P ops Q rest (a.put o.dst v') w') : wpList P ops Q (o :: rest) a w :=
  wpList_plain hgd fun _ hK => wp_app ht hinfo hzs hsz s x ho hs hown hx hsrc h63 hbytes hbase fun v' w' h1 h2 => hK _ _ (h v' w' h1 h2)

theorem step_app {P : Program} {w : World} {t e : TypeId} {z : Value} {size bytes : Nat} (ht : P.underlying t = some (.slice e))
    (hinfo : (P.info? e).map (fun i => (i.zero, i.size, i.bytes)) = some (some z, size, bytes)) (hzs : z.cells.size = size) (hsz : 0 < size)
    {ops : Array Oper} {o : Oper} {a : Act} {K : Act → World → Prop} {Q : Exit → Act → World → Prop} {E : Prop} (hgd : o.guard = none) (s x : Operand)
    (ho : o.op = .call { callee := .builtin .append, args := #[s, x], argTypes := #[t, t] })
    {B : Nat} {v : Value} {n : Nat} {xs : List Value} (hs : a.eval s = v) (hown : w.ownsRow B e size v n xs) {sv : Value} {m : Nat} {news : List Value} (hx : a.eval x = sv) (hsrc : Src w sv m size news)
    (h63 : n + m ≤ maxLen) (hbytes : (n + m) * bytes ≤ 140737488355328) (hbase : B ≤ w.heap.size)
    (h : ∀ v' w', w'.ownsRow B e size v' (n + m) (xs ++ news) → AppF w w' v v' → K (a.put o.dst v') w') : if Region.wanted o (yielded ops a.tmps) = true then Oper.wp P o a w K Q else E := by
  have hw : Region.wanted o (yielded ops a.tmps) = true := by simp [Region.wanted, hgd]
  rw [if_pos hw]
  exact wp_app ht hinfo hzs hsz s x ho hs hown hx hsrc h63 hbytes hbase h

/-! ### What stays behind an append -/

/-- Two values' own rows are not one. -/
def Sep (v u : Value) : Prop := ∀ g, v.ownBlock = some g → u.ownBlock ≠ some g

theorem Sep.symm {v u : Value} (h : Sep v u) : Sep u v := fun g hu hv => h g hv hu
theorem Sep.nil (u : Value) : Sep (.slice none 0 0) u := fun g h => by simp [Value.ownBlock] at h

theorem owns_lt {w : World} {B e size n : Nat} {v : Value} {xs : List Value} (h : w.ownsRow B e size v n xs) : ∀ k, v.ownBlock = some k → B ≤ k ∧ k < w.heap.size := fun k hk => h.lt k hk

theorem AppF.chg {w w' : World} {v v' : Value} (h : AppF w w' v v') : Chg (fun k => v.ownBlock = some k) w w' :=
  ⟨h.1.os, h.1.tape, h.1.output, h.1.size, fun k hk hn => h.1.block k hk fun e => hn e.symm⟩

theorem AppF.size {w w' : World} {v v' : Value} (h : AppF w w' v v') : w.heap.size ≤ w'.heap.size := h.1.size

theorem AppF.below {a w w' : World} {v v' : Value} {X : Nat} (h : AppF w w' v v') (hb : Below X a w) (hX : X ≤ w.heap.size) (hv : ∀ k, v.ownBlock = some k → X ≤ k) : Below X a w' :=
  hb.trans (h.chg.below hX hv)

/-- Another value's row stays. -/
theorem AppF.owns {w w' : World} {v v' u : Value} {B e size n : Nat} {xs : List Value} (h : AppF w w' v v') (hs : Sep v u) (ho : w.ownsRow B e size u n xs) : w'.ownsRow B e size u n xs :=
  ho.kept h.1 (by
    cases hu : u.ownBlock with
    | none => exact .inl rfl
    | some g => exact .inr fun e => hs g e.symm hu)

theorem AppF.sep {w w' : World} {v v' u : Value} {B e size n : Nat} {xs : List Value} (h : AppF w w' v v') (hs : Sep v u) (ho : w.ownsRow B e size u n xs) : Sep v' u := by
  intro g hg hu
  rcases h.2 with e | e
  · exact hs g (by rw [← e]; exact hg) hu
  · have := (ho.lt g hu).2
    rw [e] at hg
    have := Option.some.inj hg
    omega

theorem AppF.rdB {w w' : World} {v v' : Value} {a len l} (h : AppF w w' v v') (hr : RdB w a len l) (hv : ∀ p, a = some p → v.ownBlock ≠ some p.block) : RdB w' a len l := hr.chg h.chg hv

theorem AppF.cell {w w' : World} {v v' : Value} {p : Addr} {u : Value} (h : AppF w w' v v') (hc : w.cell? p = some u) (hv : v.ownBlock ≠ some p.block) : w'.cell? p = some u :=
  h.chg.cell hv hc

theorem AppF.far {w w' : World} {v v' : Value} {b : Nat} (h : AppF w w' v v') (hne : v.ownBlock ≠ some b) (hb : b < w.heap.size) : v'.ownBlock ≠ some b := by
  intro e
  rcases h.2 with e2 | e2
  · exact hne (e2 ▸ e)
  · rw [e2] at e
    have := Option.some.inj e
    omega

theorem owns_keep {w w' : World} {B e size n : Nat} {v : Value} {xs : List Value} (h : w.ownsRow B e size v n xs) (hb : Below w.heap.size w w') : w'.ownsRow B e size v n xs := by
  refine ⟨h.1, ?_⟩
  rcases h.2 with h2 | ⟨g, cap, cur, rfl, hB, hg, r⟩
  · exact .inl h2
  · refine .inr ⟨g, cap, cur, rfl, hB, ?_, r⟩
    have hlt : g < w.heap.size := (Array.getElem?_eq_some_iff.1 hg).1
    rw [hb.block g hlt]
    exact hg

theorem OwnB.keep {w w' : World} {B : Nat} {v : Value} {bs : List UInt8} (h : OwnB w B v bs) (hb : Below w.heap.size w w') : OwnB w' B v bs := owns_keep h hb

theorem SrcB.app {w w' : World} {v v' sv : Value} {l} (h : AppF w w' v v') (hs : SrcB w sv l) (hv : Sep v sv) : SrcB w' sv l := by
  obtain ⟨a, m, c, rfl, hr, hc⟩ := hs
  refine ⟨a, m, c, rfl, h.rdB hr ?_, hc⟩
  rintro p rfl e
  exact hv _ e rfl

theorem rd_take {w : World} {a : Option Addr} {len : Nat} {bs : List UInt8} (h : RdB w a len bs) (p : Nat) (hp : p ≤ len) : RdB w a p (bs.take p) := by
  refine ⟨by rw [List.length_take, h.1, Nat.min_eq_left hp], by have := h.2.1; omega, fun i hi => ?_⟩
  obtain ⟨b, o, ha, hc⟩ := h.at i (by omega)
  refine ⟨b, o, ha, ?_⟩
  rw [hc]
  simp only [bAt, getD_take _ _ _ _ hi]

theorem rd_drop {w : World} {b o : Nat} {len : Nat} {bs : List UInt8} (h : RdB w (some ⟨b, o, none⟩) len bs) (p : Nat) (hp : p ≤ len) : RdB w (some ⟨b, o + p, none⟩) (len - p) (bs.drop p) := by
  refine ⟨by rw [List.length_drop, h.1], by have := h.2.1; omega, fun i hi => ⟨b, o + p, rfl, ?_⟩⟩
  obtain ⟨b', o', ha, hc⟩ := h.at (p + i) (by omega)
  simp only [Option.some.injEq, Addr.mk.injEq, and_true] at ha
  obtain ⟨rfl, rfl⟩ := ha
  rw [Nat.add_assoc, hc]
  simp only [bAt, getD_drop]

end Go.Proofs.Ytkcfkdmffbhljaa

namespace Go.Proofs.Ytkcfkdmffbhljaa
open Go.RowKit
set_option linter.unusedVariables false
set_option linter.unusedSimpArgs false

def intCells (xs : List Int) : List Value := xs.map fun x => .int .i64 x
theorem intCells_append (a b : List Int) : intCells (a ++ b) = intCells a ++ intCells b := by simp [intCells]
theorem intCells_length (a : List Int) : (intCells a).length = a.length := by simp [intCells]

/-- A row of numbers of the call's own. -/
def OwnI (w : World) (B : Nat) (v : Value) (xs : List Int) : Prop := w.ownsRow B 3 1 v xs.length (intCells xs)

theorem infoInt : (Try.prog.info? 3).map (fun i => (i.zero, i.size, i.bytes)) = some (some (.int .i64 0), 1, 8) := by kernel_rfl

theorem intCells_at (xs : List Int) (i : Nat) (h : i < xs.length) : (intCells xs).getD i undef = .int .i64 (xs.getD i 0) := by
  simp [intCells, List.getD_eq_getElem?_getD, List.getElem?_map, List.getElem?_eq_getElem h]

theorem OwnI.reads {w : World} {B : Nat} {v : Value} {xs : List Int} (h : OwnI w B v xs) : ∃ a cap, v = .slice a xs.length cap ∧ xs.length ≤ 9223372036854775807 ∧ RdF w a xs.length fun i => .int .i64 (xs.getD i 0) := by
  obtain ⟨a, cap, rfl, hm, hg⟩ := owns_reads h
  refine ⟨a, cap, rfl, hm, fun i hi => ?_⟩
  obtain ⟨b, o, ha, hc⟩ := hg i hi
  refine ⟨b, o, ha, ?_⟩
  have := hc 0 (by omega)
  rw [Nat.mul_one, Nat.add_zero] at this
  rw [this]
  show some ((intCells xs).getD (i * 1 + 0) undef) = _
  rw [Nat.mul_one, Nat.add_zero, intCells_at xs i hi]

/-- One number, laid in a block of its own. -/
theorem src_int (w : World) (x : Int) (t : TypeId) : Src (w.alloc (.cells #[.int .i64 x] t)) (.slice (some ⟨w.heap.size, 0, none⟩) 1 1) 1 1 (intCells [x]) :=
  .inr ⟨_, 1, rfl, rfl, cell_one_new w _ t, by simp [intCells, Value.oneCell']⟩

theorem wpList_appI {w : World} {ops : Array Oper} {rest : List Oper} {o : Oper} {a : Act} {Q : Exit → Act → World → Prop} (hgd : o.guard = none) (s x : Operand)
    (ho : o.op = .call { callee := .builtin .append, args := #[s, x], argTypes := #[32, 32] })
    {B : Nat} {v : Value} {xs : List Int} (hs : a.eval s = v) (hown : OwnI w B v xs) {sv : Value} {l : List Int} (hx : a.eval x = sv) (hsrc : Src w sv l.length 1 (intCells l))
    (hb : xs.length + l.length ≤ 10000000000) (hbase : B ≤ w.heap.size)
    (h : ∀ v' w', OwnI w' B v' (xs ++ l) → AppF w w' v v' → wpList Try.prog ops Q rest (a.put o.dst v') w') : wpList Try.prog ops Q (o :: rest) a w :=
  wpList_app Try.underlying32 infoInt rfl (by omega) hgd s x ho hs hown hx hsrc (by unfold maxLen; omega) (by omega) hbase
    fun v' w' h1 h2 => h v' w' (by unfold OwnI; rw [intCells_append, List.length_append]; exact h1) h2

theorem step_appI {w : World} {ops : Array Oper} {o : Oper} {a : Act} {K : Act → World → Prop} {Q : Exit → Act → World → Prop} {E : Prop} (hgd : o.guard = none) (s x : Operand)
    (ho : o.op = .call { callee := .builtin .append, args := #[s, x], argTypes := #[32, 32] })
    {B : Nat} {v : Value} {xs : List Int} (hs : a.eval s = v) (hown : OwnI w B v xs) {sv : Value} {l : List Int} (hx : a.eval x = sv) (hsrc : Src w sv l.length 1 (intCells l))
    (hb : xs.length + l.length ≤ 10000000000) (hbase : B ≤ w.heap.size)
    (h : ∀ v' w', OwnI w' B v' (xs ++ l) → AppF w w' v v' → K (a.put o.dst v') w') : if Region.wanted o (yielded ops a.tmps) = true then Oper.wp Try.prog o a w K Q else E :=
  step_app Try.underlying32 infoInt rfl (by omega) hgd s x ho hs hown hx hsrc (by unfold maxLen; omega) (by omega) hbase
    fun v' w' h1 h2 => h v' w' (by unfold OwnI; rw [intCells_append, List.length_append]; exact h1) h2

end Go.Proofs.Ytkcfkdmffbhljaa

namespace Go.Proofs.Ytkcfkdmffbhljaa
open Go.RowKit
set_option linter.unusedVariables false
set_option linter.unusedSimpArgs false

/-- Bytes as a text. -/
def txt (l : List UInt8) : ByteArray := ⟨l.toArray⟩

theorem strNums (l : List UInt8) : strOfNums (l.map fun b => ((b.toNat : Nat) : Int)) = txt l := by
  unfold strOfNums txt
  congr 2
  rw [List.map_map]
  conv => rhs; rw [← List.map_id l]
  apply List.map_congr_left
  intro b _
  simp

theorem conv_str {w : World} {a : Option Addr} {len : Nat} {l : List UInt8} (h : RdB w a len l) (cap : Nat) :
    (convert 23 9 (.slice a len cap)).run Try.prog w = .ok (.string (txt l)) w := by
  rcases Nat.eq_zero_or_pos len with h0 | h0
  · subst h0
    have hl : l = [] := List.eq_nil_of_length_eq_zero h.1
    subst hl
    cases a with
    | none => exact run_convert_bytes_nil w 23 5 Try.underlying23 Try.underlying5 0 cap 9 Try.underlying9
    | some ad =>
      rw [run_convert_bytes_string w 23 9 5 _ 0 cap Try.underlying23 Try.underlying5 Try.underlying9]
      rw [run_bytesToString w ad 0 cap [] (by simp [loadCells, loadCellsFrom])]
      rfl
  · obtain ⟨b, o, rfl, _⟩ := h.at 0 h0
    rw [← strNums l]
    refine run_convert_bytes_arg w 23 5 Try.underlying23 Try.underlying5 b o len cap _ (by simpa using h.1) (fun i hi => ?_) 9 Try.underlying9
    obtain ⟨b', o', ha, hc⟩ := h.at i hi
    simp only [Option.some.injEq, Addr.mk.injEq, and_true] at ha
    obtain ⟨rfl, rfl⟩ := ha
    rw [hc]
    have hl : i < l.length := by rw [h.1]; exact hi
    simp [bAt, hl]

end Go.Proofs.Ytkcfkdmffbhljaa

namespace Go.Proofs.Ytkcfkdmffbhljaa
open Go.ChangeShapes Go.WideShapes Go.ChangeAt Go.RowKit
set_option linter.unusedVariables false
set_option linter.unusedSimpArgs false

theorem add_at (b o i : Nat) : (⟨b, o, none⟩ : Addr).add i = ⟨b, o + i, none⟩ := by unfold Addr.add; split <;> simp_all

theorem row_of {w : World} {x : Addr} {n : Nat} {f : Nat → Value} (h : ∀ i, i < n → w.cell? (x.add i) = some (f i)) : RdF w (some x) n f := by
  intro i hi
  obtain ⟨b, o, s⟩ := x
  have hs : s = none := by
    have := World.cell?_spot (h 0 (by omega))
    simpa [Addr.add] using this
  subst hs
  exact ⟨b, o, rfl, by rw [← add_at]; exact h i hi⟩

theorem open_ints_row {H : Type} {enc : TypeId × Value → H} {P : Program} {W : World} {t e : TypeId} {k : IntKind} {a : Option Addr} {len cap : Nat} {d : DataW H} {p : List MemPlace}
    (ht : P.underlying t = some (.slice e)) (he : P.underlying e = some (.int k)) (hc : P.cellsOf e = 1) (h : DataW.Trod enc P W 0 (fun _ => true) true t (.slice a len cap) d p) : ∃ l, RdI k W a len l := by
  obtain ⟨fuel, hf⟩ := h
  rcases open_ints ht he hc hf with ⟨hcs, _⟩ | ⟨x, l, c, zs, hcs, _, hl, hm, hz, _, hcell, hwz⟩
  · simp [Value.cells] at hcs
    obtain ⟨rfl, rfl, rfl⟩ := hcs
    exact ⟨[], rfl, by omega, by simp, fun i hi => absurd hi (Nat.not_lt_zero i)⟩
  · simp [Value.cells] at hcs
    obtain ⟨rfl, rfl, rfl⟩ := hcs
    simp at hz
    refine ⟨zs.take len, by simp; omega, by unfold maxLen at hm; omega, fun n hn => hwz n (List.mem_of_mem_take hn), row_of fun i hi => ?_⟩
    rw [getD_take _ _ _ _ hi]
    exact hcell i (by omega)

theorem RdI.bytes {W : World} {a : Option Addr} {len : Nat} {l : List Int} (h : RdI .u8 W a len l) : RdB W a len (l.map fun n => UInt8.ofNat n.toNat) := by
  refine ⟨by simpa using h.1, h.2.1, fun i hi => ?_⟩
  obtain ⟨b, o, ha, hc⟩ := h.2.2.2 i hi
  refine ⟨b, o, ha, ?_⟩
  rw [hc]
  have hl : i < l.length := by rw [h.1]; exact hi
  have hw := h.2.2.1 (l.getD i 0) (by rw [List.getD_eq_getElem?_getD, List.getElem?_eq_getElem hl]; exact List.getElem_mem hl)
  simp only [Lit.wf, IntKind.min, IntKind.max, IntKind.signed, IntKind.bits, Bool.and_eq_true] at hw
  have e : bAt (l.map fun n => UInt8.ofNat n.toNat) i = (l.getD i 0).toNat := by
    unfold bAt
    rw [List.getD_eq_getElem?_getD, List.getElem?_map, List.getElem?_eq_getElem hl, List.getD_eq_getElem?_getD, List.getElem?_eq_getElem hl]
    rw [List.getD_eq_getElem?_getD, List.getElem?_eq_getElem hl] at hw
    simp at hw ⊢
    omega
  simp only [e]
  simp at hw
  congr 2
  simp
  omega

theorem open_bytes {H : Type} {enc : TypeId × Value → H} {P : Program} {W : World} {t e : TypeId} {a : Option Addr} {len cap : Nat} {d : DataW H} {p : List MemPlace}
    (ht : P.underlying t = some (.slice e)) (he : P.underlying e = some (.int .u8)) (hc : P.cellsOf e = 1) (h : DataW.Trod enc P W 0 (fun _ => true) true t (.slice a len cap) d p) : ∃ l, RdB W a len l := by
  obtain ⟨l, hl⟩ := open_ints_row ht he hc h
  exact ⟨_, hl.bytes⟩

theorem wf_i64 {n : Int} (h : (Lit.int .i64 n).wf = true) : -9223372036854775808 ≤ n ∧ n ≤ 9223372036854775807 := by
  simpa [Lit.wf, IntKind.min, IntKind.max, IntKind.signed, IntKind.bits] using h

end Go.Proofs.Ytkcfkdmffbhljaa

namespace Go.Proofs.Ytkcfkdmffbhljaa
open Go.ChangeShapes Go.WideShapes Go.ChangeAt Go.RowKit
set_option linter.unusedVariables false
set_option linter.unusedSimpArgs false

mutual
/-- A value of a document. -/
inductive T where
  | mk (k : Int) (bits hi lo : Nat) (text more : ByteArray) (sub : Int) (bs : List UInt8) (kids : F)
/-- Its Kids. -/
inductive F where
  | nil
  | cons (n : ByteArray) (t : T) (r : F)
end

def T.kids : T → F | .mk _ _ _ _ _ _ _ _ f => f
def T.kind : T → Int | .mk k _ _ _ _ _ _ _ _ => k

def F.len : F → Nat
  | .nil => 0
  | .cons _ _ r => r.len + 1

def F.get? : F → Nat → Option (ByteArray × T)
  | .nil, _ => none
  | .cons n t _, 0 => some (n, t)
  | .cons _ _ r, i + 1 => r.get? i

mutual
def T.depth : T → Nat
  | .mk _ _ _ _ _ _ _ _ f => f.depth + 1
def F.depth : F → Nat
  | .nil => 0
  | .cons _ t r => max t.depth r.depth
end

theorem F.get_lt : ∀ (f : F) (i : Nat) (x : ByteArray × T), f.get? i = some x → i < f.len ∧ x.2.depth ≤ f.depth
  | .nil, i, x, h => by simp [F.get?] at h
  | .cons n t r, 0, x, h => by
    simp only [F.get?, Option.some.injEq] at h
    subst h
    simp only [F.len, F.depth]
    exact ⟨by omega, Nat.le_max_left _ _⟩
  | .cons n t r, i + 1, x, h => by
    have := F.get_lt r i x h
    simp only [F.len, F.depth]
    exact ⟨by omega, Nat.le_trans this.2 (Nat.le_max_right _ _)⟩

theorem F.get_some : ∀ (f : F) (i : Nat), i < f.len → ∃ x, f.get? i = some x
  | .nil, i, h => by simp [F.len] at h
  | .cons n t r, 0, h => ⟨(n, t), rfl⟩
  | .cons n t r, i + 1, h => F.get_some r i (by simp only [F.len] at h; omega)

/-- The nine cells of a value. -/
abbrev valCells (k : Int) (bits hi lo : Nat) (text more : ByteArray) (sub : Int) (ab : Option Addr) (nb cb : Nat) (ak : Option Addr) (nk ck : Nat) : Array Value :=
  #[.int .i64 k, .int .u64 (bits : Nat), .int .u64 (hi : Nat), .int .u64 (lo : Nat), .string text, .string more, .int .i64 sub, .slice ab nb cb, .slice ak nk ck]

/-- Bounds of a value's own numbers and texts. -/
def OwnOk (k : Int) (bits hi lo : Nat) (text more : ByteArray) (sub : Int) : Prop :=
  (-9223372036854775808 ≤ k ∧ k ≤ 9223372036854775807) ∧ bits < okSize ∧ hi < okSize ∧ lo < okSize ∧ text.size ≤ 9223372036854775807 ∧ more.size ≤ 9223372036854775807 ∧ (-9223372036854775808 ≤ sub ∧ sub ≤ 9223372036854775807)

/-- A slice's room: none at nil, and as much as it is long. -/
def Roomy (a : Option Addr) (n c : Nat) : Prop := (a = none → c = 0) ∧ n ≤ c

mutual
/-- A value's cells are those of a tree. -/
def RdT (w : World) : T → Array Value → Prop
  | .mk k bits hi lo text more sub bs kids, c => ∃ ab nb cb ak nk ck, c = valCells k bits hi lo text more sub ab nb cb ak nk ck ∧ OwnOk k bits hi lo text more sub ∧ RdB w ab nb bs ∧ kids.len = nk ∧ (nk ≤ 9223372036854775807 ∧ Roomy ak nk ck ∧ Roomy ab nb cb) ∧ RdKs w ak 0 kids
/-- A slice's fields from the i-th on are these. -/
def RdKs (w : World) (a : Option Addr) : Nat → F → Prop
  | _, .nil => True
  | i, .cons n t r => (∃ b o c, a = some ⟨b, o, none⟩ ∧ n.size ≤ 9223372036854775807 ∧ w.cell? ⟨b, o + i * 10, none⟩ = some (.string n) ∧ (∀ j, j < 9 → w.cell? ⟨b, o + i * 10 + (j + 1), none⟩ = c[j]?) ∧ RdT w t c) ∧ RdKs w a (i + 1) r
end

theorem RdT.size {w : World} : ∀ {t : T} {c : Array Value}, RdT w t c → c.size = 9
  | .mk .., c, h => by obtain ⟨_, _, _, _, _, _, rfl, _⟩ := h; rfl

mutual
theorem RdT.keep {w w' : World} (hb : Below w.heap.size w w') : ∀ {t : T} {c : Array Value}, RdT w t c → RdT w' t c
  | .mk k bits hi lo text more sub bs kids, c, h => by
    obtain ⟨ab, nb, cb, ak, nk, ck, h1, h2, h3, h4, h5, h6⟩ := h
    exact ⟨ab, nb, cb, ak, nk, ck, h1, h2, h3.keep hb, h4, h5, RdKs.keep hb h6⟩
theorem RdKs.keep {w w' : World} (hb : Below w.heap.size w w') {a : Option Addr} : ∀ {i : Nat} {f : F}, RdKs w a i f → RdKs w' a i f
  | _, .nil, _ => trivial
  | i, .cons n t r, h => by
    obtain ⟨⟨b, o, c, h1, h2, h3, h4, h5⟩, h6⟩ := h
    have hl := cell_block h3
    refine ⟨⟨b, o, c, h1, h2, ?_, fun j hj => ?_, RdT.keep hb h5⟩, RdKs.keep hb h6⟩
    · rw [hb.cell (p := ⟨b, o + i * 10, none⟩) (by simpa using hl)]; exact h3
    · rw [hb.cell (p := ⟨b, o + i * 10 + (j + 1), none⟩) (by simpa using hl)]; exact h4 j hj
end

/-- The i-th Kid, as it lies. -/
def KidAt (w : World) (a : Option Addr) (i : Nat) (n : ByteArray) (t : T) : Prop :=
  ∃ b o c, a = some ⟨b, o, none⟩ ∧ n.size ≤ 9223372036854775807 ∧ w.cell? ⟨b, o + i * 10, none⟩ = some (.string n) ∧ (∀ j, j < 9 → w.cell? ⟨b, o + i * 10 + (j + 1), none⟩ = c[j]?) ∧ RdT w t c

theorem RdKs.atFrom {w : World} {a : Option Addr} : ∀ {f : F} {i j : Nat} {n : ByteArray} {t : T}, RdKs w a i f → f.get? j = some (n, t) → KidAt w a (i + j) n t
  | .nil, i, j, n, t, h, hj => by simp [F.get?] at hj
  | .cons n' t' r, i, 0, n, t, h, hj => by
    simp only [F.get?, Option.some.injEq, Prod.mk.injEq] at hj
    obtain ⟨rfl, rfl⟩ := hj
    exact h.1
  | .cons n' t' r, i, j + 1, n, t, h, hj => by
    have := RdKs.atFrom (i := i + 1) h.2 hj
    rwa [show i + 1 + j = i + (j + 1) from by omega] at this

theorem RdKs.at {w : World} {a : Option Addr} {f : F} {j : Nat} {n : ByteArray} {t : T} (h : RdKs w a 0 f) (hj : f.get? j = some (n, t)) : KidAt w a j n t := by
  have := RdKs.atFrom h hj
  rwa [Nat.zero_add] at this

theorem RdKs.of {w : World} {a : Option Addr} : ∀ {f : F} {i : Nat}, (∀ j n t, f.get? j = some (n, t) → KidAt w a (i + j) n t) → RdKs w a i f
  | .nil, _, _ => trivial
  | .cons n t r, i, h => ⟨h 0 n t rfl, RdKs.of fun j n' t' hj => by have := h (j + 1) n' t' hj; rwa [show i + (j + 1) = i + 1 + j from by omega] at this⟩

/-- The kid's cells, one by one. -/
theorem KidAt.cells {w : World} {a : Option Addr} {i : Nat} {n : ByteArray} {t : T} (h : KidAt w a i n t) :
    ∃ (b o : Nat) (k : Int) (bits hi lo : Nat) (text more : ByteArray) (sub : Int) (bs : List UInt8) (kids : F) (ab : Option Addr) (nb cb : Nat) (ak : Option Addr) (nk ck : Nat),
      a = some ⟨b, o, none⟩ ∧ t = .mk k bits hi lo text more sub bs kids ∧ n.size ≤ 9223372036854775807 ∧ b < w.heap.size ∧ RdT w t (valCells k bits hi lo text more sub ab nb cb ak nk ck) ∧
      w.cell? ⟨b, o + i * 10, none⟩ = some (.string n) ∧ w.cell? ⟨b, o + i * 10 + 1, none⟩ = some (.int .i64 k) ∧ w.cell? ⟨b, o + i * 10 + 2, none⟩ = some (.int .u64 (bits : Nat)) ∧
      w.cell? ⟨b, o + i * 10 + 3, none⟩ = some (.int .u64 (hi : Nat)) ∧ w.cell? ⟨b, o + i * 10 + 4, none⟩ = some (.int .u64 (lo : Nat)) ∧ w.cell? ⟨b, o + i * 10 + 5, none⟩ = some (.string text) ∧
      w.cell? ⟨b, o + i * 10 + 6, none⟩ = some (.string more) ∧ w.cell? ⟨b, o + i * 10 + 7, none⟩ = some (.int .i64 sub) ∧ w.cell? ⟨b, o + i * 10 + 8, none⟩ = some (.slice ab nb cb) ∧
      w.cell? ⟨b, o + i * 10 + 9, none⟩ = some (.slice ak nk ck) := by
  obtain ⟨b, o, c, h1, h2, h3, h4, h5⟩ := h
  match t, h5 with
  | .mk k bits hi lo text more sub bs kids, h5 =>
    have h5' := h5
    obtain ⟨ab, nb, cb, ak, nk, ck, rfl, _⟩ := h5
    exact ⟨b, o, k, bits, hi, lo, text, more, sub, bs, kids, ab, nb, cb, ak, nk, ck, h1, rfl, h2, by simpa using cell_block h3, h5', h3, h4 0 (by omega), h4 1 (by omega), h4 2 (by omega), h4 3 (by omega), h4 4 (by omega), h4 5 (by omega), h4 6 (by omega), h4 7 (by omega), h4 8 (by omega)⟩

end Go.Proofs.Ytkcfkdmffbhljaa

namespace Go.Proofs.Ytkcfkdmffbhljaa
open Go.ChangeShapes Go.WideShapes Go.ChangeAt Go.RowKit
set_option linter.unusedVariables false
set_option linter.unusedSimpArgs false

theorem forest_of {w : World} {a : Option Addr} : ∀ (len k : Nat), (∀ i, i < len → ∃ n t, KidAt w a (k + i) n t) → ∃ f : F, f.len = len ∧ RdKs w a k f
  | 0, k, _ => ⟨.nil, rfl, trivial⟩
  | len + 1, k, h => by
    obtain ⟨n, t, h0⟩ := h 0 (by omega)
    obtain ⟨f, hl, hf⟩ := forest_of len (k + 1) fun i hi => by
      obtain ⟨n, t, h1⟩ := h (i + 1) (by omega)
      exact ⟨n, t, by rwa [show k + 1 + i = k + (i + 1) from by omega]⟩
    exact ⟨.cons n t f, by simp [F.len, hl], h0, hf⟩

theorem cellsV : Try.prog.cellsOf 26 = 9 := by kernel_rfl
theorem cellsFd : Try.prog.cellsOf 57 = 10 := by kernel_rfl
theorem cellsI : Try.prog.cellsOf 3 = 1 := by kernel_rfl
theorem cellsU : Try.prog.cellsOf 22 = 1 := by kernel_rfl
theorem cellsS : Try.prog.cellsOf 9 = 1 := by kernel_rfl
theorem cellsB : Try.prog.cellsOf 23 = 1 := by kernel_rfl
theorem cellsK : Try.prog.cellsOf 24 = 1 := by kernel_rfl

theorem wf_u64 {n : Int} (h : (Lit.int .u64 n).wf = true) : 0 ≤ n ∧ n.toNat < okSize := by
  simp [Lit.wf, IntKind.min, IntKind.max, IntKind.signed, IntKind.bits] at h
  unfold okSize
  omega

section
variable {H : Type} {enc : TypeId × Value → H} {W : World}

theorem open_u64 {fuel : Nat} {v : Value} {x : DataW H × List MemPlace} (h : DataW.trod enc Try.prog W 0 (fun _ => true) true fuel 22 [v] = some x) : ∃ n : Nat, v = .int .u64 (n : Nat) ∧ n < okSize := by
  obtain ⟨n, e, _, hw⟩ := DataW.trod_int Try.underlying22 h
  simp at e
  obtain ⟨h0, h1⟩ := wf_u64 hw
  exact ⟨n.toNat, by rw [e, Int.toNat_of_nonneg h0], h1⟩

theorem open_i64 {fuel : Nat} {v : Value} {x : DataW H × List MemPlace} (h : DataW.trod enc Try.prog W 0 (fun _ => true) true fuel 3 [v] = some x) : ∃ n : Int, v = .int .i64 n ∧ (-9223372036854775808 ≤ n ∧ n ≤ 9223372036854775807) := by
  obtain ⟨n, e, _, hw⟩ := DataW.trod_int Try.underlying3 h
  simp at e
  exact ⟨n, e, wf_i64 hw⟩

theorem open_str {fuel : Nat} {v : Value} {x : DataW H × List MemPlace} (h : DataW.trod enc Try.prog W 0 (fun _ => true) true fuel 9 [v] = some x) : ∃ s : ByteArray, v = .string s ∧ s.size ≤ 9223372036854775807 := by
  obtain ⟨s, e, _, hw⟩ := DataW.trod_string Try.underlying9 h
  simp at e
  exact ⟨s, e, by unfold maxLen at hw; omega⟩

theorem open_bts {fuel : Nat} {v : Value} {x : DataW H × List MemPlace} (h : DataW.trod enc Try.prog W 0 (fun _ => true) true fuel 23 [v] = some x) : ∃ a n c l, v = .slice a n c ∧ RdB W a n l ∧ Roomy a n c := by
  rcases DataW.trod_slice Try.underlying23 h with ⟨e, _⟩ | ⟨a, len, cap, elems, rest, n, _, e, _, _, hlc, _⟩
  · simp at e
    exact ⟨none, 0, 0, [], e, .nil _ _, fun _ => rfl, by omega⟩
  · simp at e
    subst e
    obtain ⟨l, hl⟩ := open_bytes (enc := enc) (W := W) Try.underlying23 Try.underlying5 (by kernel_rfl) ⟨fuel, h⟩
    exact ⟨_, _, _, l, rfl, hl, by simp, hlc⟩

theorem nine {l : List Value} (h : l.length = 9) : ∃ a b c d e f g i j, l = [a, b, c, d, e, f, g, i, j] := by
  match l, h with
  | [a, b, c, d, e, f, g, i, j], _ => exact ⟨a, b, c, d, e, f, g, i, j, rfl⟩

set_option maxRecDepth 100000 in
theorem open_tree : ∀ (fuel : Nat) (cs : List Value) (x : DataW H × List MemPlace), DataW.trod enc Try.prog W 0 (fun _ => true) true fuel 26 cs = some x → ∃ t, RdT W t cs.toArray := by
  intro fuel
  induction fuel using Nat.strongRecOn with
  | ind fuel ih =>
    intro cs x h
    obtain ⟨xs, n, rfl, _, hlen, hxl, hg⟩ := DataW.trod_struct Try.underlying26 h
    rw [cellsV] at hlen
    obtain ⟨c0, c1, c2, c3, c4, c5, c6, c7, c8, rfl⟩ := nine hlen
    have get : ∀ (i : Nat) (f : Field), Try.prog.underlying 26 = Try.prog.underlying 26 → xs.length = 9 → i < 9 → ∃ y, xs[i]? = some y := fun i f _ hl hi => ⟨xs[i], List.getElem?_eq_getElem _⟩
    have hl9 : xs.length = 9 := hxl
    have sm : ∀ i, i < 9 → ∃ y, xs[i]? = some y := fun i hi => ⟨xs[i]'(by omega), List.getElem?_eq_getElem (by omega)⟩
    obtain ⟨y0, s0⟩ := sm 0 (by omega)
    obtain ⟨y1, s1⟩ := sm 1 (by omega)
    obtain ⟨y2, s2⟩ := sm 2 (by omega)
    obtain ⟨y3, s3⟩ := sm 3 (by omega)
    obtain ⟨y4, s4⟩ := sm 4 (by omega)
    obtain ⟨y5, s5⟩ := sm 5 (by omega)
    obtain ⟨y6, s6⟩ := sm 6 (by omega)
    obtain ⟨y7, s7⟩ := sm 7 (by omega)
    obtain ⟨y8, s8⟩ := sm 8 (by omega)
    have g0 := (hg 0 _ rfl).trans s0
    have g1 := (hg 1 _ rfl).trans s1
    have g2 := (hg 2 _ rfl).trans s2
    have g3 := (hg 3 _ rfl).trans s3
    have g4 := (hg 4 _ rfl).trans s4
    have g5 := (hg 5 _ rfl).trans s5
    have g6 := (hg 6 _ rfl).trans s6
    have g7 := (hg 7 _ rfl).trans s7
    have g8 := (hg 8 _ rfl).trans s8
    simp only [List.getElem_toArray, List.getElem_cons_zero, List.getElem_cons_succ, List.drop_zero, List.drop_succ_cons, List.take_succ_cons, List.take_zero, cellsI] at g0 g6
    simp only [List.getElem_toArray, List.getElem_cons_zero, List.getElem_cons_succ, List.drop_zero, List.drop_succ_cons, List.take_succ_cons, List.take_zero, cellsU] at g1 g2 g3
    simp only [List.getElem_toArray, List.getElem_cons_zero, List.getElem_cons_succ, List.drop_zero, List.drop_succ_cons, List.take_succ_cons, List.take_zero, cellsS] at g4 g5
    simp only [List.getElem_toArray, List.getElem_cons_zero, List.getElem_cons_succ, List.drop_zero, List.drop_succ_cons, List.take_succ_cons, List.take_zero, cellsB] at g7
    simp only [List.getElem_toArray, List.getElem_cons_zero, List.getElem_cons_succ, List.drop_zero, List.drop_succ_cons, List.take_succ_cons, List.take_zero, cellsK] at g8
    obtain ⟨k, rfl, k1⟩ := open_i64 g0
    obtain ⟨bits, rfl, b1⟩ := open_u64 g1
    obtain ⟨hi, rfl, b2⟩ := open_u64 g2
    obtain ⟨lo, rfl, b3⟩ := open_u64 g3
    obtain ⟨text, rfl, b4⟩ := open_str g4
    obtain ⟨more, rfl, b5⟩ := open_str g5
    obtain ⟨sub, rfl, b6⟩ := open_i64 g6
    obtain ⟨ab, nb, cb, bs, rfl, hbs, hrm⟩ := open_bts g7
    have hkids : ∃ ak nk ck f, c8 = .slice ak nk ck ∧ F.len f = nk ∧ (nk ≤ 9223372036854775807 ∧ Roomy ak nk ck ∧ Roomy ab nb cb) ∧ RdKs W ak 0 f := by
      rcases DataW.trod_slice Try.underlying24 g8 with ⟨e, _⟩ | ⟨a, len, cap, elems, rest, m, hm, e, _, _, hlc, hcm, hel, hat, _⟩
      · simp at e
        exact ⟨none, 0, 0, .nil, e, rfl, ⟨by omega, ⟨fun _ => rfl, by omega⟩, hrm⟩, trivial⟩
      · simp at e
        rw [cellsFd] at hat
        obtain ⟨f, hf, hk⟩ := forest_of (w := W) (a := some a) len 0 fun i hi => by
          have hy : elems[i]? = some (elems[i]'(by omega)) := List.getElem?_eq_getElem (by omega)
          have ha := (hat i hi).trans hy
          obtain ⟨cs', hc, ht⟩ := Option.bind_eq_some_iff.1 ha
          obtain ⟨_, hcl, hcell⟩ := World.cells?_some hc
          obtain ⟨ys, m', hm', _, _, hyl, hgf⟩ := DataW.trod_struct Try.underlying57 ht
          have hy2 : ys.length = 2 := hyl
          have z0 := (hgf 0 _ rfl).trans (List.getElem?_eq_getElem (by omega))
          have z1 := (hgf 1 _ rfl).trans (List.getElem?_eq_getElem (by omega))
          simp only [List.getElem_toArray, List.getElem_cons_zero, List.getElem_cons_succ, cellsS] at z0
          simp only [List.getElem_toArray, List.getElem_cons_zero, List.getElem_cons_succ, cellsV] at z1
          have hn : ((cs'.drop 0).take 1) = [cs'[0]'(by omega)] := by
            match cs', hcl with
            | a :: r, _ => rfl
          rw [hn] at z0
          obtain ⟨nm, en, hnm⟩ := open_str z0
          obtain ⟨t, htt⟩ := ih m' (by omega) _ _ z1
          obtain ⟨b, o, s⟩ := a
          have hs : s = none := by
            have h0 := hat 0 (by omega)
            have hy0 : elems[0]? = some (elems[0]'(by omega)) := List.getElem?_eq_getElem (by omega)
            obtain ⟨cs0, hc0, _⟩ := Option.bind_eq_some_iff.1 (h0.trans hy0)
            obtain ⟨_, hcl0, hcell0⟩ := World.cells?_some hc0
            have := hcell0 0 (by omega)
            rw [List.getElem?_eq_getElem (by omega)] at this
            have := World.cell?_spot this
            simpa [Addr.add] using this
          subst hs
          refine ⟨nm, t, b, o, _, rfl, hnm, ?_, fun j hj => ?_, htt⟩
          · have := hcell 0 (by omega)
            rw [add_at, add_at, List.getElem?_eq_getElem (by omega), en] at this
            simpa using this
          · have := hcell (j + 1) (by omega)
            rw [add_at, add_at] at this
            rw [Nat.zero_add, this]
            simp [List.getElem?_take, hj, Nat.add_comm]
        exact ⟨_, _, _, f, e, hf, ⟨by unfold maxLen at hcm; omega, ⟨by simp, hlc⟩, hrm⟩, hk⟩
    obtain ⟨ak, nk, ck, f, rfl, hf1, hf2, hf3⟩ := hkids
    exact ⟨.mk k bits hi lo text more sub bs f, ab, nb, cb, ak, nk, ck, rfl, ⟨k1, b1, b2, b3, b4, b5, b6⟩, hbs, hf1, hf2, hf3⟩

set_option maxRecDepth 100000 in
theorem open_value {v : Value} {d : DataW H} {p : List MemPlace} {base : Nat} (hv : Value.okWide Try.prog W .any base 26 v) (h : DataW.Trod enc Try.prog W 0 (fun _ => true) true 26 v d p) : ∃ c t, v = .agg c ∧ RdT W t c := by
  obtain ⟨cs, rfl, _⟩ := okWide_struct Try.underlying26 hv
  obtain ⟨fuel, hf⟩ := h
  obtain ⟨t, ht⟩ := open_tree fuel _ _ hf
  exact ⟨cs, t, rfl, by simpa [Value.cells] using ht⟩
end

end Go.Proofs.Ytkcfkdmffbhljaa

namespace Go.Proofs.Ytkcfkdmffbhljaa
open Go.RowKit
set_option linter.unusedVariables false
set_option linter.unusedSimpArgs false

/-- A slice of bytes that lies in some blocks. -/
def RdBS (S : Nat → Prop) (w : World) (a : Option Addr) (len : Nat) (l : List UInt8) : Prop := RdB w a len l ∧ (0 < len → ∀ p, a = some p → S p.block)

mutual
def RdTS (S : Nat → Prop) (w : World) : T → Array Value → Prop
  | .mk k bits hi lo text more sub bs kids, c => ∃ ab nb cb ak nk ck, c = valCells k bits hi lo text more sub ab nb cb ak nk ck ∧ OwnOk k bits hi lo text more sub ∧ RdBS S w ab nb bs ∧ kids.len = nk ∧ (nk ≤ 9223372036854775807 ∧ Roomy ak nk ck ∧ Roomy ab nb cb) ∧ RdKsS S w ak 0 kids
def RdKsS (S : Nat → Prop) (w : World) (a : Option Addr) : Nat → F → Prop
  | _, .nil => True
  | i, .cons n t r => (∃ b o c, a = some ⟨b, o, none⟩ ∧ S b ∧ n.size ≤ 9223372036854775807 ∧ w.cell? ⟨b, o + i * 10, none⟩ = some (.string n) ∧ (∀ j, j < 9 → w.cell? ⟨b, o + i * 10 + (j + 1), none⟩ = c[j]?) ∧ RdTS S w t c) ∧ RdKsS S w a (i + 1) r
end

mutual
theorem RdTS.rd {S : Nat → Prop} {w : World} : ∀ {t : T} {c : Array Value}, RdTS S w t c → RdT w t c
  | .mk .., c, h => by
    obtain ⟨ab, nb, cb, ak, nk, ck, h1, h2, h3, h4, h5, h6⟩ := h
    exact ⟨ab, nb, cb, ak, nk, ck, h1, h2, h3.1, h4, h5, RdKsS.rd h6⟩
theorem RdKsS.rd {S : Nat → Prop} {w : World} {a : Option Addr} : ∀ {i : Nat} {f : F}, RdKsS S w a i f → RdKs w a i f
  | _, .nil, _ => trivial
  | i, .cons n t r, h => by
    obtain ⟨⟨b, o, c, h1, _, h2, h3, h4, h5⟩, h6⟩ := h
    exact ⟨⟨b, o, c, h1, h2, h3, h4, RdTS.rd h5⟩, RdKsS.rd h6⟩
end

mutual
theorem RdTS.of {w : World} : ∀ {t : T} {c : Array Value}, RdT w t c → RdTS (fun k => k < w.heap.size) w t c
  | .mk .., c, h => by
    obtain ⟨ab, nb, cb, ak, nk, ck, h1, h2, h3, h4, h5, h6⟩ := h
    refine ⟨ab, nb, cb, ak, nk, ck, h1, h2, ⟨h3, fun hn p hp => ?_⟩, h4, h5, RdKsS.of h6⟩
    obtain ⟨b, o, ha, hc⟩ := h3.at 0 hn
    rw [hp] at ha
    obtain rfl := Option.some.inj ha
    have := cell_block hc
    simpa using this
theorem RdKsS.of {w : World} {a : Option Addr} : ∀ {i : Nat} {f : F}, RdKs w a i f → RdKsS (fun k => k < w.heap.size) w a i f
  | _, .nil, _ => trivial
  | i, .cons n t r, h => by
    obtain ⟨⟨b, o, c, h1, h2, h3, h4, h5⟩, h6⟩ := h
    exact ⟨⟨b, o, c, h1, by simpa using cell_block h3, h2, h3, h4, RdTS.of h5⟩, RdKsS.of h6⟩
end

mutual
theorem RdTS.imp {S S' : Nat → Prop} {w : World} (hS : ∀ k, k < w.heap.size → S k → S' k) : ∀ {t : T} {c : Array Value}, RdTS S w t c → RdTS S' w t c
  | .mk .., c, h => by
    obtain ⟨ab, nb, cb, ak, nk, ck, h1, h2, h3, h4, h5, h6⟩ := h
    refine ⟨ab, nb, cb, ak, nk, ck, h1, h2, ⟨h3.1, fun hn p hp => ?_⟩, h4, h5, RdKsS.imp hS h6⟩
    obtain ⟨b, o, ha, hc⟩ := h3.1.at 0 hn
    refine hS _ ?_ (h3.2 hn p hp)
    rw [hp] at ha
    obtain rfl := Option.some.inj ha
    have := cell_block hc
    simpa using this
theorem RdKsS.imp {S S' : Nat → Prop} {w : World} (hS : ∀ k, k < w.heap.size → S k → S' k) {a : Option Addr} : ∀ {i : Nat} {f : F}, RdKsS S w a i f → RdKsS S' w a i f
  | _, .nil, _ => trivial
  | i, .cons n t r, h => by
    obtain ⟨⟨b, o, c, h1, h1', h2, h3, h4, h5⟩, h6⟩ := h
    exact ⟨⟨b, o, c, h1, hS _ (by simpa using cell_block h3) h1', h2, h3, h4, RdTS.imp hS h5⟩, RdKsS.imp hS h6⟩
end

/-- Cells in some blocks stay. -/
def KeepS (S : Nat → Prop) (w w' : World) : Prop := ∀ p v, S p.block → w.cell? p = some v → w'.cell? p = some v

theorem KeepS.below {S : Nat → Prop} {w w' : World} (h : Below w.heap.size w w') : KeepS S w w' := fun p v _ hc => cell_below h hc
theorem KeepS.trans {S : Nat → Prop} {a b c : World} (h : KeepS S a b) (k : KeepS S b c) : KeepS S a c := fun p v hs hc => k p v hs (h p v hs hc)
theorem KeepS.app {S : Nat → Prop} {w w' : World} {v v' : Value} (h : AppF w w' v v') (hS : ∀ k, S k → v.ownBlock ≠ some k) : KeepS S w w' := fun p u hs hc => h.cell hc (hS _ hs)
theorem KeepS.chg {S X : Nat → Prop} {w w' : World} (h : Chg X w w') (hS : ∀ k, S k → ¬ X k) : KeepS S w w' := fun p u hs hc => h.cell (hS _ hs) hc

theorem RdBS.keep {S : Nat → Prop} {w w' : World} (hk : KeepS S w w') {a len l} (h : RdBS S w a len l) : RdBS S w' a len l := by
  refine ⟨⟨h.1.1, h.1.2.1, fun i hi => ?_⟩, h.2⟩
  obtain ⟨b, o, ha, hc⟩ := h.1.at i hi
  exact ⟨b, o, ha, hk ⟨b, o + i, none⟩ _ (h.2 (by omega) ⟨b, o, none⟩ ha) hc⟩

theorem cell_of {w w' : World} {S : Nat → Prop} (hk : KeepS S w w') {p : Addr} {x : Option Value} (hS : S p.block) (h : w.cell? p = x) (hx : x.isSome = true) : w'.cell? p = x := by
  cases x with
  | none => simp at hx
  | some u => exact hk p u hS h

theorem RdTS.size {S : Nat → Prop} {w : World} {t : T} {c : Array Value} (h : RdTS S w t c) : c.size = 9 := RdT.size h.rd

mutual
theorem RdTS.keep {S : Nat → Prop} {w w' : World} (hk : KeepS S w w') : ∀ {t : T} {c : Array Value}, RdTS S w t c → RdTS S w' t c
  | .mk .., c, h => by
    obtain ⟨ab, nb, cb, ak, nk, ck, h1, h2, h3, h4, h5, h6⟩ := h
    exact ⟨ab, nb, cb, ak, nk, ck, h1, h2, h3.keep hk, h4, h5, RdKsS.keep hk h6⟩
theorem RdKsS.keep {S : Nat → Prop} {w w' : World} (hk : KeepS S w w') {a : Option Addr} : ∀ {i : Nat} {f : F}, RdKsS S w a i f → RdKsS S w' a i f
  | _, .nil, _ => trivial
  | i, .cons n t r, h => by
    obtain ⟨⟨b, o, c, h1, h1', h2, h3, h4, h5⟩, h6⟩ := h
    refine ⟨⟨b, o, c, h1, h1', h2, hk _ _ h1' h3, fun j hj => ?_, RdTS.keep hk h5⟩, RdKsS.keep hk h6⟩
    exact cell_of hk (p := ⟨b, o + i * 10 + (j + 1), none⟩) h1' (h4 j hj) (by rw [Array.getElem?_eq_getElem (by rw [h5.size]; exact hj)]; rfl)
end

def F.append : F → F → F
  | .nil, g => g
  | .cons n t r, g => .cons n t (r.append g)

theorem F.append_len : ∀ f g : F, (f.append g).len = f.len + g.len
  | .nil, g => by simp [F.append, F.len]
  | .cons n t r, g => by simp only [F.append, F.len, F.append_len r g]; omega

theorem F.append_nil : ∀ f : F, f.append .nil = f
  | .nil => rfl
  | .cons n t r => by simp only [F.append, F.append_nil r]

theorem F.append_assoc : ∀ f g h : F, (f.append g).append h = f.append (g.append h)
  | .nil, g, h => rfl
  | .cons n t r, g, h => by simp only [F.append, F.append_assoc r g h]

/-- One Kid more. -/
def F.snoc (f : F) (n : ByteArray) (t : T) : F := f.append (.cons n t .nil)
theorem F.snoc_len (f : F) (n : ByteArray) (t : T) : (f.snoc n t).len = f.len + 1 := by unfold F.snoc; rw [F.append_len]; rfl

/-- A field's ten cells. -/
def fcells (n : ByteArray) (c : Array Value) : List Value := .string n :: c.toList

/-- Cells, one behind the other, are those of fields. -/
def KsC (S : Nat → Prop) (w : World) : F → List Value → Prop
  | .nil, xs => xs = []
  | .cons n t r, xs => ∃ c ys, xs = fcells n c ++ ys ∧ RdTS S w t c ∧ n.size ≤ 9223372036854775807 ∧ KsC S w r ys

theorem KsC.length {S : Nat → Prop} {w : World} : ∀ {f : F} {xs : List Value}, KsC S w f xs → xs.length = f.len * 10
  | .nil, xs, h => by have : xs = [] := h; subst this; rfl
  | .cons n t r, xs, h => by
    obtain ⟨c, ys, rfl, h1, _, h2⟩ := h
    have := KsC.length h2
    have hs := h1.size
    simp only [fcells, List.length_append, List.length_cons, Array.length_toList, hs, this, F.len]
    omega

theorem KsC.keep {S : Nat → Prop} {w w' : World} (hk : KeepS S w w') : ∀ {f : F} {xs : List Value}, KsC S w f xs → KsC S w' f xs
  | .nil, xs, h => h
  | .cons n t r, xs, h => by
    obtain ⟨c, ys, rfl, h1, h2, h3⟩ := h
    exact ⟨c, ys, rfl, h1.keep hk, h2, KsC.keep hk h3⟩

theorem KsC.imp {S S' : Nat → Prop} {w : World} (hS : ∀ k, k < w.heap.size → S k → S' k) : ∀ {f : F} {xs : List Value}, KsC S w f xs → KsC S' w f xs
  | .nil, xs, h => h
  | .cons n t r, xs, h => by
    obtain ⟨c, ys, rfl, h1, h2, h3⟩ := h
    exact ⟨c, ys, rfl, h1.imp hS, h2, KsC.imp hS h3⟩

theorem KsC.append {S : Nat → Prop} {w : World} : ∀ {f g : F} {xs ys : List Value}, KsC S w f xs → KsC S w g ys → KsC S w (f.append g) (xs ++ ys)
  | .nil, g, xs, ys, h, k => by have : xs = [] := h; subst this; exact k
  | .cons n t r, g, xs, ys, h, k => by
    obtain ⟨c, zs, rfl, h1, h2, h3⟩ := h
    exact ⟨c, zs ++ ys, by simp, h1, h2, KsC.append h3 k⟩

theorem KsC.one {S : Nat → Prop} {w : World} {n : ByteArray} {t : T} {c : Array Value} (h : RdTS S w t c) (hn : n.size ≤ 9223372036854775807) : KsC S w (.cons n t .nil) (fcells n c) :=
  ⟨c, [], by simp, h, hn, rfl⟩

/-- The cells read as fields. -/
theorem KsC.reads {S S' : Nat → Prop} {w : World} {b o : Nat} (hS : ∀ k, k < w.heap.size → S k → S' k) (hb : S' b) : ∀ {f : F} {xs : List Value} (i : Nat), KsC S w f xs → (∀ j u, xs[j]? = some u → w.cell? ⟨b, o + (i * 10 + j), none⟩ = some u) → RdKsS S' w (some ⟨b, o, none⟩) i f
  | .nil, _, _, _, _ => trivial
  | .cons n t r, xs, i, h, hc => by
    obtain ⟨c, ys, rfl, h1, h2, h3⟩ := h
    have hs := h1.size
    refine ⟨⟨b, o, c, rfl, hb, h2, ?_, fun j hj => ?_, h1.imp hS⟩, KsC.reads hS hb (i + 1) h3 fun j u hu => ?_⟩
    · have := hc 0 (.string n) rfl
      simpa using this
    · have hjc : j < c.size := by omega
      have := hc (j + 1) (c[j]) (by simp [fcells, List.getElem?_append, hs, hj])
      rw [show o + i * 10 + (j + 1) = o + (i * 10 + (j + 1)) from by omega, this, Array.getElem?_eq_getElem hjc]
    · have hl : (fcells n c).length = 10 := by simp [fcells, hs]
      have := hc (10 + j) u (by rw [List.getElem?_append_right (by omega), hl]; simpa using hu)
      rw [show o + ((i + 1) * 10 + j) = o + (i * 10 + (10 + j)) from by omega]
      exact this

/-- A row of Kids of the call's own: it lies in new memory (from B on), what hangs on it in blocks of L, and not in the row's own block. -/
def OwnK (w : World) (B : Nat) (L : Nat → Prop) (v : Value) (f : F) : Prop :=
  ∃ xs S, w.ownsRow B 57 10 v f.len xs ∧ KsC S w f xs ∧ ∀ k, S k → L k ∧ v.ownBlock ≠ some k

theorem OwnK.nil (w : World) (B : Nat) (L : Nat → Prop) : OwnK w B L (.slice none 0 0) .nil := ⟨[], fun _ => False, World.ownsRow_nil _ _ _ _, rfl, fun _ h => h.elim⟩

theorem OwnK.reads {w : World} {B : Nat} {L : Nat → Prop} {v : Value} {f : F} (h : OwnK w B L v f) (hL : ∀ k, B ≤ k → L k) : ∃ a c, v = .slice a f.len c ∧ RdKsS L w a 0 f ∧ Roomy a f.len c ∧ f.len ≤ 9223372036854775807 := by
  obtain ⟨xs, S, ho, hk, hS⟩ := h
  have hlen := hk.length
  rcases ho.2 with ⟨rfl, h0⟩ | ⟨g, cap, cur, rfl, hb, hg, hnc, hcm, hcs, htake⟩
  · have hf : f = .nil := by cases f with
      | nil => rfl
      | cons => simp [F.len] at h0
    subst hf
    exact ⟨none, 0, rfl, trivial, ⟨fun _ => rfl, by simp [F.len]⟩, by simp [F.len]⟩
  · refine ⟨some ⟨g, 0, none⟩, cap, rfl, ?_, ⟨by simp, hnc⟩, by unfold maxLen at hcm; omega⟩
    refine KsC.reads (S := S) (fun k _ h => (hS k h).1) (hL _ hb) 0 hk fun j u hj => ?_
    have hjl : j < xs.length := (List.getElem?_eq_some_iff.1 hj).1
    have := ho.cellAt j (by omega)
    rw [show 0 + (0 * 10 + j) = j by omega, this]
    exact hj

/-- A field that is all zero. -/
def zeroFd : Value := .agg (#[.string ByteArray.empty] ++ valCells 0 0 0 0 ByteArray.empty ByteArray.empty 0 none 0 0 none 0 0)

theorem infoFd : (Try.prog.info? 57).map (fun i => (i.zero, i.size, i.bytes)) = some (some zeroFd, 10, 136) := by kernel_rfl

theorem one_of_cells {S : Nat → Prop} {w : World} : ∀ {f : F} {xs : List Value}, KsC S w f xs → ∀ u ∈ xs, u.oneCell' = true
  | .nil, xs, h, u, hu => by have : xs = [] := h; subst this; simp at hu
  | .cons n t r, xs, h, u, hu => by
    obtain ⟨c, ys, rfl, h1, _, h3⟩ := h
    rw [List.mem_append] at hu
    rcases hu with hu | hu
    · simp only [fcells, List.mem_cons] at hu
      rcases hu with rfl | hu
      · rfl
      · cases t with
        | mk k bits hi lo text more sub bs kids =>
          obtain ⟨ab, nb, cb, ak, nk, ck, rfl, _⟩ := h1
          simp at hu
          rcases hu with rfl | rfl | rfl | rfl | rfl | rfl | rfl | rfl | rfl <;> rfl
    · exact one_of_cells h3 u hu

/-- Fields that came in: their cells. -/
theorem RdKsS.cells {S : Nat → Prop} {w : World} {a : Option Addr} : ∀ {f : F} {i : Nat}, RdKsS S w a i f → ∃ xs, KsC S w f xs ∧ ∀ j u, xs[j]? = some u → ∃ b o, a = some ⟨b, o, none⟩ ∧ w.cell? ⟨b, o + (i * 10 + j), none⟩ = some u
  | .nil, _, _ => ⟨[], rfl, fun j u h => by simp at h⟩
  | .cons n t r, i, h => by
    obtain ⟨⟨b, o, c, h1, h1', h2, h3, h4, h5⟩, h6⟩ := h
    obtain ⟨ys, hy, hc⟩ := RdKsS.cells h6
    have hs := h5.size
    refine ⟨fcells n c ++ ys, ⟨c, ys, rfl, h5, h2, hy⟩, fun j u hj => ?_⟩
    have hl : (fcells n c).length = 10 := by simp [fcells, hs]
    by_cases h10 : j < 10
    · refine ⟨b, o, h1, ?_⟩
      rw [List.getElem?_append_left (by omega)] at hj
      cases j with
      | zero => simp only [fcells, List.getElem?_cons_zero, Option.some.injEq] at hj; subst hj; exact h3
      | succ j =>
        simp only [fcells, List.getElem?_cons_succ, Array.getElem?_toList] at hj
        rw [show o + (i * 10 + (j + 1)) = o + i * 10 + (j + 1) from by omega, h4 j (by omega), hj]
    · obtain ⟨b', o', ha, hcc⟩ := hc (j - 10) u (by rw [List.getElem?_append_right (by omega), hl] at hj; exact hj)
      refine ⟨b', o', ha, ?_⟩
      rw [show o' + (i * 10 + j) = o' + ((i + 1) * 10 + (j - 10)) from by omega]
      exact hcc

/-- Where fields to be appended come from. -/
def SrcK (S : Nat → Prop) (w : World) (sv : Value) (f : F) : Prop := ∃ xs, KsC S w f xs ∧ Src w sv f.len 10 xs

theorem SrcK.of {S : Nat → Prop} {w : World} {a : Option Addr} {c : Nat} {f : F} (h : RdKsS S w a 0 f) (hr : Roomy a f.len c) : SrcK S w (.slice a f.len c) f := by
  obtain ⟨xs, hk, hc⟩ := h.cells
  refine ⟨xs, hk, ?_⟩
  cases a with
  | none =>
    have h0 : f.len = 0 := by have := hr.1 rfl; have := hr.2; omega
    have hf : f = .nil := by cases f with
      | nil => rfl
      | cons => simp [F.len] at h0
    subst hf
    have hx : xs = [] := hk
    subst hx
    exact .inl ⟨by rw [hr.1 rfl]; rfl, rfl, rfl⟩
  | some ad =>
    refine .inr ⟨ad, c, rfl, hk.length, fun j u hj => ?_, one_of_cells hk⟩
    obtain ⟨b, o, ha, hcc⟩ := hc j u hj
    obtain rfl := Option.some.inj ha
    rw [add_at]
    rw [show o + (0 * 10 + j) = o + j by omega] at hcc
    exact hcc

/-- One field, laid in a block of its own. -/
theorem SrcK.one {S : Nat → Prop} {w : World} {g : Nat} {cap : Nat} {n : ByteArray} {t : T} {c : Array Value} (h : RdTS S w t c) (hn : n.size ≤ 9223372036854775807) (hc : ∀ j u, (fcells n c)[j]? = some u → w.cell? ⟨g, j, none⟩ = some u) :
    SrcK S w (.slice (some ⟨g, 0, none⟩) 1 cap) (.cons n t .nil) := by
  have hk := KsC.one (n := n) h hn
  refine ⟨fcells n c, hk, .inr ⟨_, cap, rfl, hk.length, fun j u hj => ?_, one_of_cells hk⟩⟩
  rw [add_at, Nat.zero_add]
  exact hc j u hj

theorem OwnK.app {w w' : World} {B : Nat} {L : Nat → Prop} {v v' : Value} {f g : F} {xs ys : List Value} {S S1 : Nat → Prop} (hk : KsC S w f xs) (hS : ∀ k, S k → L k ∧ v.ownBlock ≠ some k) (hg : KsC S1 w g ys) (hS1 : ∀ k, S1 k → L k ∧ v.ownBlock ≠ some k)
    (ho : w'.ownsRow B 57 10 v' (f.len + g.len) (xs ++ ys)) (ha : AppF w w' v v') : OwnK w' B L v' (f.append g) := by
  have h1 := (hk.imp (S' := fun k => (S k ∨ S1 k) ∧ k < w.heap.size) (fun k hl h => ⟨.inl h, hl⟩)).append (hg.imp (S' := fun k => (S k ∨ S1 k) ∧ k < w.heap.size) (fun k hl h => ⟨.inr h, hl⟩))
  have hno : ∀ k, ((S k ∨ S1 k) ∧ k < w.heap.size) → L k ∧ v.ownBlock ≠ some k := fun k h => by rcases h.1 with h | h; exact hS k h; exact hS1 k h
  refine ⟨_, _, by rw [F.append_len]; exact ho, h1.keep (KeepS.app ha fun k h => (hno k h).2), fun k h => ⟨(hno k h).1, ?_⟩⟩
  exact AppF.far ha (hno k h).2 h.2

theorem wpList_appK {w : World} {ops : Array Oper} {rest : List Oper} {o : Oper} {a : Act} {Q : Exit → Act → World → Prop} (hgd : o.guard = none) (s x : Operand)
    (ho : o.op = .call { callee := .builtin .append, args := #[s, x], argTypes := #[24, 24] })
    {B : Nat} {L : Nat → Prop} {v : Value} {f : F} (hs : a.eval s = v) (hown : OwnK w B L v f) {sv : Value} {g : F} {S1 : Nat → Prop} (hx : a.eval x = sv) (hsrc : SrcK S1 w sv g) (hS1 : ∀ k, S1 k → L k ∧ v.ownBlock ≠ some k)
    (hb : f.len + g.len ≤ 1000000000) (hbase : B ≤ w.heap.size)
    (h : ∀ v' w', OwnK w' B L v' (f.append g) → AppF w w' v v' → wpList Try.prog ops Q rest (a.put o.dst v') w') : wpList Try.prog ops Q (o :: rest) a w := by
  obtain ⟨xs, S, ho', hk, hS⟩ := hown
  obtain ⟨ys, hg, hsr⟩ := hsrc
  exact wpList_app Try.underlying24 infoFd rfl (by omega) hgd s x ho hs ho' hx hsr (by unfold maxLen; omega) (by omega) hbase
    fun v' w' h1 h2 => h v' w' (OwnK.app hk hS hg hS1 h1 h2) h2

theorem step_appK {w : World} {ops : Array Oper} {o : Oper} {a : Act} {K : Act → World → Prop} {Q : Exit → Act → World → Prop} {E : Prop} (hgd : o.guard = none) (s x : Operand)
    (ho : o.op = .call { callee := .builtin .append, args := #[s, x], argTypes := #[24, 24] })
    {B : Nat} {L : Nat → Prop} {v : Value} {f : F} (hs : a.eval s = v) (hown : OwnK w B L v f) {sv : Value} {g : F} {S1 : Nat → Prop} (hx : a.eval x = sv) (hsrc : SrcK S1 w sv g) (hS1 : ∀ k, S1 k → L k ∧ v.ownBlock ≠ some k)
    (hb : f.len + g.len ≤ 1000000000) (hbase : B ≤ w.heap.size)
    (h : ∀ v' w', OwnK w' B L v' (f.append g) → AppF w w' v v' → K (a.put o.dst v') w') : if Region.wanted o (yielded ops a.tmps) = true then Oper.wp Try.prog o a w K Q else E := by
  obtain ⟨xs, S, ho', hk, hS⟩ := hown
  obtain ⟨ys, hg, hsr⟩ := hsrc
  exact step_app Try.underlying24 infoFd rfl (by omega) hgd s x ho hs ho' hx hsr (by unfold maxLen; omega) (by omega) hbase
    fun v' w' h1 h2 => h v' w' (OwnK.app hk hS hg hS1 h1 h2) h2

theorem OwnK.keep {w w' : World} {B : Nat} {L : Nat → Prop} {v : Value} {f : F} (h : OwnK w B L v f) (hb : Below w.heap.size w w') : OwnK w' B L v f := by
  obtain ⟨xs, S, h1, h2, h3⟩ := h
  exact ⟨xs, S, owns_keep h1 hb, h2.keep (KeepS.below hb), h3⟩

theorem OwnK.far {w : World} {B : Nat} {L : Nat → Prop} {v : Value} {f : F} (h : OwnK w B L v f) : ∀ k, v.ownBlock = some k → B ≤ k ∧ k < w.heap.size := by
  obtain ⟨xs, S, h1, _⟩ := h
  exact owns_lt h1

theorem ownK_empty {w : World} {B g : Nat} {L : Nat → Prop} (h : w.heap[g]? = some (.cells #[] 57 (0, 0))) (hB : B ≤ g) : OwnK w B L (.slice (some ⟨g, 0, none⟩) 0 0) .nil :=
  ⟨[], fun _ => False, ⟨rfl, .inr ⟨g, 0, #[], rfl, hB, h, Nat.le_refl _, by unfold maxLen; omega, rfl, rfl⟩⟩, rfl, fun _ h => h.elim⟩

theorem new_cells (w : World) (cs : Array Value) (t : TypeId) (xs : List Value) (hx : xs = cs.toList) (j : Nat) (u : Value) (h : xs[j]? = some u) : (w.alloc (.cells cs t)).cell? ⟨w.heap.size, j, none⟩ = some u := by
  subst hx
  rw [Array.getElem?_toList] at h
  simpa [go_sem] using h

end Go.Proofs.Ytkcfkdmffbhljaa
