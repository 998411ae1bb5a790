/- Rows of bytes that a call itself made; what may change. -/
import Derived.Test.YtiodjhcjfbnocaaRows
import Derived.Test.YtiodjhcjfbnocaaFrLib
import Derived.Deep.AppendLies
namespace Go.Proofs.Ytiodjhcjfbnocaa
open Go.RowKit
set_option linter.unusedVariables false
set_option linter.unusedSimpArgs false

/-- The cells of bytes. -/
def byteCells (bs : List UInt8) : List Value := bs.map fun b => .int .u8 (b.toNat : Nat)

theorem byteCells_append (a b : List UInt8) : byteCells (a ++ b) = byteCells a ++ byteCells b := by simp [byteCells]
theorem byteCells_length (a : List UInt8) : (byteCells a).length = a.length := by simp [byteCells]
theorem byteCells_one (a : List UInt8) : ∀ u ∈ byteCells a, u.oneCell' = true := by
  intro u hu
  simp only [byteCells, List.mem_map] at hu
  obtain ⟨b, _, rfl⟩ := hu
  rfl

/-- A row of bytes of the call's own. -/
def OwnB (w : World) (B : Nat) (v : Value) (bs : List UInt8) : Prop := w.ownsRow B 5 1 v bs.length (byteCells bs)

theorem infoU8 : (Try.prog.info? 5).map (fun i => (i.zero, i.size, i.bytes)) = some (some (.int .u8 0), 1, 1) := by kernel_rfl

theorem byteCells_at (bs : List UInt8) (i : Nat) (h : i < bs.length) : (byteCells bs).getD i undef = .int .u8 (bAt bs i : Nat) := by
  simp only [byteCells, bAt, List.getD_eq_getElem?_getD, List.getElem?_map, List.getElem?_eq_getElem h]
  rfl

theorem OwnB.reads {w : World} {B : Nat} {v : Value} {bs : List UInt8} (h : OwnB w B v bs) : ∃ a cap, v = .slice a bs.length cap ∧ RdB w a bs.length bs := by
  obtain ⟨a, cap, rfl, hm, hg⟩ := owns_reads h
  refine ⟨a, cap, rfl, rfl, hm, fun i hi => ?_⟩
  obtain ⟨b, o, ha, hc⟩ := hg i hi
  refine ⟨b, o, ha, ?_⟩
  have := hc 0 (by omega)
  rw [Nat.mul_one, Nat.add_zero] at this
  rw [this]
  show some ((byteCells bs).getD (i * 1 + 0) undef) = _
  rw [Nat.mul_one, Nat.add_zero, byteCells_at bs i hi]

theorem OwnB.weaken {w : World} {B B' : Nat} {v : Value} {bs : List UInt8} (h : OwnB w B v bs) (hB : B' ≤ B) : OwnB w B' v bs := ownsRow_weaken h hB

/-- What may have changed: nothing but the blocks of S. -/
structure Chg (S : Nat → Prop) (w w' : World) : Prop where
  os : w'.os = w.os
  tape : w'.tape = w.tape
  output : w'.output = w.output
  size : w.heap.size ≤ w'.heap.size
  block : ∀ k, k < w.heap.size → ¬ S k → w'.heap[k]? = w.heap[k]?

theorem Chg.refl (S : Nat → Prop) (w : World) : Chg S w w := ⟨rfl, rfl, rfl, Nat.le_refl _, fun _ _ _ => rfl⟩
theorem Chg.trans {S S' : Nat → Prop} {a b c : World} (h : Chg S a b) (k : Chg S' b c) (hs : ∀ i, i < a.heap.size → S' i → S i) : Chg S a c :=
  ⟨k.os.trans h.os, k.tape.trans h.tape, k.output.trans h.output, Nat.le_trans h.size k.size, fun i hi hn => (k.block i (Nat.lt_of_lt_of_le hi h.size) (fun x => hn (hs i hi x))).trans (h.block i hi hn)⟩
theorem Chg.weaken {S S' : Nat → Prop} {a b : World} (h : Chg S a b) (hs : ∀ i, i < a.heap.size → S i → S' i) : Chg S' a b := ⟨h.os, h.tape, h.output, h.size, fun i hi hn => h.block i hi (fun x => hn (hs i hi x))⟩
theorem Chg.below {S : Nat → Prop} {a b : World} {B : Nat} (h : Chg S a b) (hB : B ≤ a.heap.size) (hs : ∀ i, S i → B ≤ i) : Below B a b :=
  ⟨h.os, h.tape, h.output, h.size, fun k hk => h.block k (by omega) (fun x => by have := hs k x; omega)⟩
theorem Chg.of_below {S : Nat → Prop} {a b : World} (h : Below a.heap.size a b) : Chg S a b := ⟨h.os, h.tape, h.output, h.size, fun k hk _ => h.block k hk⟩
theorem Chg.cell {S : Nat → Prop} {a b : World} (h : Chg S a b) {p : Addr} (hp : ¬ S p.block) {v : Value} (hv : a.cell? p = some v) : b.cell? p = some v :=
  (World.cell?_of_block (w := a) (h.block p.block (cell_block hv) hp)).trans hv
theorem Chg.alloc {S : Nat → Prop} {a b : World} (h : Chg S a b) (o : Obj) : Chg S a (b.alloc o) := h.trans (Chg.of_below (S := fun _ => False) ((Below.refl _ _).alloc (Nat.le_refl _) o)) (fun _ _ h => h.elim)
theorem Chg.drew {S : Nat → Prop} {a b : World} (h : Chg S a b) : Chg S a b.drew := ⟨h.os, h.tape, h.output, h.size, h.block⟩
theorem Chg.setCell {S : Nat → Prop} {a b : World} (h : Chg S a b) {p : Addr} (hp : p.block < a.heap.size → S p.block) (u : Value) : Chg S a (b.setCell p u) := by
  refine h.trans (S' := fun k => k = p.block) ⟨rfl, rfl, rfl, by simp [World.setCell], fun k hk hn => Below.heap_setCell _ _ _ _ hn⟩ ?_
  rintro i hi rfl
  exact hp hi
theorem Chg.grown {S : Nat → Prop} {a b c : World} {row : Option Nat} (h : Chg S a b) (hg : b.grownBy c row) (hr : ∀ k, row = some k → k < a.heap.size → S k) : Chg S a c := by
  refine h.trans (S' := fun k => row = some k) ⟨hg.os, hg.tape, hg.output, hg.size, fun k hk hn => hg.block k hk (fun e => hn e.symm)⟩ ?_
  intro i hi e
  exact hr i e hi

theorem OwnB.chg {S : Nat → Prop} {w w' : World} {B : Nat} {v : Value} {bs : List UInt8} (h : OwnB w B v bs) (hc : Chg S w w') (hv : ∀ k, v.ownBlock = some k → ¬ S k) : OwnB w' B v bs := by
  refine ⟨h.1, ?_⟩
  rcases h.2 with h2 | ⟨g, cap, cur, rfl, hb, hg, r⟩
  · exact .inl h2
  · refine .inr ⟨g, cap, cur, rfl, hb, ?_, r⟩
    have hlt : g < w.heap.size := (Array.getElem?_eq_some_iff.1 hg).1
    rw [hc.block g hlt (hv g rfl)]
    exact hg

theorem RdB.chg {S : Nat → Prop} {w w' : World} {a len l} (h : RdB w a len l) (hc : Chg S w w') (hv : ∀ p, a = some p → ¬ S p.block) : RdB w' a len l := by
  refine ⟨h.1, h.2.1, fun i hi => ?_⟩
  obtain ⟨b, o, ha, hcell⟩ := h.2.2 i hi
  exact ⟨b, o, ha, hc.cell (p := ⟨b, o + i, none⟩) (hv ⟨b, o, none⟩ ha) hcell⟩

end Go.Proofs.Ytiodjhcjfbnocaa
