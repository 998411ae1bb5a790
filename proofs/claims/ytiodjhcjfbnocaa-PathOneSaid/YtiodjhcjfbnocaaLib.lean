/- What a slice that came in reads as, and what stays of it when memory is made. No program in sight. -/
import Derived.WalkKit
import Derived.ProofKit
import Derived.OpenShut
import Derived.ShutString
import Derived.ChangeOld
import Derived.Below
import Derived.Lib.Hide
import Derived.IntWalk
import Derived.BigQuiet
import Derived.Deep.QuietTactic
import Derived.Handy
import Derived.WalkLawsBesides
import Derived.WalkSpells
import Derived.PlainAid
namespace Go.Proofs.Ytiodjhcjfbnocaa
open Go.RowKit
set_option linter.unusedVariables false
set_option linter.unusedSimpArgs false

/-- A slice's elements, one cell each: 'len' of them, the i-th being f i. -/
def RdF (w : World) (a : Option Addr) (len : Nat) (f : Nat → Value) : Prop :=
  ∀ i, i < len → ∃ b o, a = some ⟨b, o, none⟩ ∧ w.cell? ⟨b, o + i, none⟩ = some (f i)

/-- The byte at a place, as a number. -/
def bAt (l : List UInt8) (i : Nat) : Nat := (l.getD i 0).toNat

theorem bAt_lt (l : List UInt8) (i : Nat) : bAt l i < 256 := UInt8.toNat_lt _
theorem bAt_bd (l : List UInt8) (i : Nat) : (bAt l i : Int) < 256 := by have := bAt_lt l i; omega

/-- A slice of bytes. -/
def RdB (w : World) (a : Option Addr) (len : Nat) (l : List UInt8) : Prop :=
  l.length = len ∧ len ≤ 9223372036854775807 ∧ RdF w a len fun i => .int .u8 (bAt l i : Nat)

/-- A slice of numbers. -/
def RdI (k : IntKind) (w : World) (a : Option Addr) (len : Nat) (l : List Int) : Prop :=
  l.length = len ∧ len ≤ 9223372036854775807 ∧ (∀ n ∈ l, (Lit.int k n).wf = true) ∧ RdF w a len fun i => .int k (l.getD i 0)

theorem cell_block {w : World} {p : Addr} {v : Value} (h : w.cell? p = some v) : p.block < w.heap.size := World.block_lt_of_cell? w p h

theorem RdF.keep {w w' : World} {a len f} {B : Nat} (h : RdF w a len f) (hb : Below B w w') (hB : w.heap.size ≤ B) : RdF w' a len f := by
  intro i hi
  obtain ⟨b, o, ha, hc⟩ := h i hi
  have hl := cell_block hc
  exact ⟨b, o, ha, by rw [hb.cell (p := ⟨b, o + i, none⟩) (by simp at hl ⊢; omega)]; exact hc⟩

theorem RdB.keep {w w' : World} {a len l} (h : RdB w a len l) (hb : Below w.heap.size w w') : RdB w' a len l := ⟨h.1, h.2.1, h.2.2.keep hb (Nat.le_refl _)⟩
theorem RdI.keep {k} {w w' : World} {a len l} (h : RdI k w a len l) (hb : Below w.heap.size w w') : RdI k w' a len l := ⟨h.1, h.2.1, h.2.2.1, h.2.2.2.keep hb (Nat.le_refl _)⟩

theorem RdB.nil (w : World) (a : Option Addr) : RdB w a 0 [] := ⟨rfl, by omega, fun i hi => absurd hi (Nat.not_lt_zero i)⟩

theorem RdB.at {w : World} {a len l} (h : RdB w a len l) (i : Nat) (hi : i < len) : ∃ b o, a = some ⟨b, o, none⟩ ∧ w.cell? ⟨b, o + i, none⟩ = some (.int .u8 (bAt l i : Nat)) := h.2.2 i hi

theorem below_drewN (w : World) (n : Nat) (B : Nat) : Below B w (w.drewN n) := ⟨rfl, rfl, rfl, Nat.le_refl _, fun _ _ => rfl⟩

theorem u8_lt (x : UInt8) : (x.toNat : Int) < 256 := by have := x.toNat_lt; omega

/-- Little end first. -/
def le : List UInt8 → Nat
  | [] => 0
  | b :: r => b.toNat + 256 * le r

theorem le_lt (l : List UInt8) : le l < 256 ^ l.length := by
  induction l with
  | nil => simp [le]
  | cons b r ih => have := b.toNat_lt; simp only [le, List.length_cons, Nat.pow_succ]; omega

theorem le_append (l r : List UInt8) : le (l ++ r) = le l + 256 ^ l.length * le r := by
  induction l with
  | nil => simp [le]
  | cons b l ih => simp only [List.cons_append, le, ih, List.length_cons, Nat.pow_succ, Nat.mul_add]; rw [← Nat.mul_assoc, Nat.mul_comm 256 (256 ^ l.length)]; omega

theorem drop_getD {α} (l : List α) (d : α) (k : Nat) (h : k < l.length) : l.drop k = l.getD k d :: l.drop (k + 1) := by
  rw [List.drop_eq_getElem_cons h]; simp [List.getD, h]

theorem opt_getD {α} (l : List α) (k : Nat) (d : α) : l[k]?.getD d = l.getD k d := by simp [List.getD]

theorem getD_drop {α} (l : List α) (d : α) (a i : Nat) : (l.drop a).getD i d = l.getD (a + i) d := by simp [List.getD]

theorem getD_take {α} (l : List α) (d : α) (n i : Nat) (h : i < n) : (l.take n).getD i d = l.getD i d := by simp [List.getD, h]

theorem wrap_u64_of {n : Int} (h0 : 0 ≤ n) (h1 : n < 18446744073709551616) : IntKind.u64.wrap n = n := by simp [IntKind.wrap, IntKind.bits, IntKind.signed]; omega

def okSize : Nat := 18446744073709551616
theorem wrap_u64_nat {n : Nat} (h1 : n < okSize) : IntKind.u64.wrap (n : Int) = (n : Int) := wrap_u64_of (by omega) (by unfold okSize at h1; omega)

theorem ownsRow_weaken {w : World} {B B' : Nat} {e size v n xs} (h : w.ownsRow B e size v n xs) (hB : B' ≤ B) : w.ownsRow B' e size v n xs := by
  refine ⟨h.1, ?_⟩
  rcases h.2 with h2 | ⟨g, cap, cur, hv, hg, r⟩
  · exact .inl h2
  · exact .inr ⟨g, cap, cur, hv, by omega, r⟩

theorem ownsRow_drewN {w : World} {B : Nat} {e size v n xs k} (h : w.ownsRow B e size v n xs) : (w.drewN k).ownsRow B e size v n xs := h

theorem Below_drewN {a w : World} {B k : Nat} (h : Below B a w) : Below B a (w.drewN k) := h.trans (below_drewN _ _ _)

theorem cell_below {W w' : World} {p : Addr} {v : Value} (hb : Below W.heap.size W w') (h : W.cell? p = some v) : w'.cell? p = some v := (hb.cell (cell_block h)).trans h

end Go.Proofs.Ytiodjhcjfbnocaa
