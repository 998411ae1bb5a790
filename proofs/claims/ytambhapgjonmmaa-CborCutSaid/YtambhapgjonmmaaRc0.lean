/- The reference's read of CBOR: what it is to tell. -/
import Derived.Test.YtambhapgjonmmaaCbY0
import Derived.Test.YtambhapgjonmmaaCbZ
import Derived.Test.YtambhapgjonmmaaCbQ
namespace Go.Proofs.Ytambhapgjonmmaa
open Go.RowKit
set_option linter.unusedVariables false
set_option linter.unusedSimpArgs false

/-- What the reference's read answers. -/
def RReadO (w : World) (R : Rs I) (e : Ending) (w' : World) : Prop := Below w.heap.size w w' ∧ match R with
  | .error (x, a) => e = .returned (.tuple #[zIt, .int .i64 0, fltV x a])
  | .ok (x, q) => ∃ c, e = .returned (.tuple #[.agg c, .int .i64 (q : Nat), fltV 0 0]) ∧ RdIt (fun k => w.heap.size ≤ k) w' x c
def RReadSaid (d : Nat) : Prop := ∀ (a : Option Addr) (n cp : Nat) (bs : List UInt8) (p wi dp : Nat) (w : World), RdB w a n bs → n ≤ 1000000 → n ≤ cp → p ≤ n → dp = wi + d → dp ≤ 1000 →
  Calls Try.prog 34 #[.slice a n cp, .int .i64 (p : Nat), .int .i64 (wi : Nat), .int .i64 (dp : Nat)] w (RReadO w (readQ bs d p))
theorem rread_err {w W : World} {x a : Nat} (h : Below w.heap.size w W) : RReadO w (.error (x, a)) (.returned (.tuple #[zIt, .int .i64 0, fltV x a])) W := ⟨h, rfl⟩

/-- The box of an item, which may be laid anew. -/
def IBx (W : World) (g : Nat) (k : Int) (n : Nat) (vb : Value) (t : ByteArray) (vk : Value) : Prop :=
  (W.cell? ⟨g, 0, none⟩ = some (.int .i64 k) ∧ W.cell? ⟨g, 1, none⟩ = some (.int .u64 (n : Nat)) ∧ W.cell? ⟨g, 2, none⟩ = some vb ∧ W.cell? ⟨g, 3, none⟩ = some (.string t) ∧ W.cell? ⟨g, 4, none⟩ = some vk) ∧
  (W.frozen? ⟨g, 0, none⟩ = false ∧ W.frozen? ⟨g, 1, none⟩ = false ∧ W.frozen? ⟨g, 2, none⟩ = false ∧ W.frozen? ⟨g, 3, none⟩ = false ∧ W.frozen? ⟨g, 4, none⟩ = false)
theorem IBx.chg {S : Nat → Prop} {W W' : World} {g : Nat} {k : Int} {n : Nat} {vb : Value} {t : ByteArray} {vk : Value} (h : IBx W g k n vb t vk) (hc : Chg S W W') (hg : ¬ S g) : IBx W' g k n vb t vk := by
  obtain ⟨⟨h0, h1, h2, h3, h4⟩, ⟨f0, f1, f2, f3, f4⟩⟩ := h
  have hl : g < W.heap.size := by simpa using cell_block h0
  refine ⟨⟨hc.cell hg h0, hc.cell hg h1, hc.cell hg h2, hc.cell hg h3, hc.cell hg h4⟩, ?_, ?_, ?_, ?_, ?_⟩
  all_goals (rw [hc.frozen (by exact hg) (by exact hl)]; assumption)
theorem IBx.keep {W W' : World} {g : Nat} {k : Int} {n : Nat} {vb : Value} {t : ByteArray} {vk : Value} (h : IBx W g k n vb t vk) (hb : Below W.heap.size W W') : IBx W' g k n vb t vk := h.chg (S := fun _ => False) (Chg.of_below hb) (fun x => x)
theorem IBx.new (W : World) (ty : TypeId) : IBx (W.alloc (.cells #[.int .i64 0, .int .u64 0, .slice none 0 0, .string ⟨#[]⟩, .slice none 0 0] ty)) W.heap.size 0 0 (.slice none 0 0) ⟨#[]⟩ (.slice none 0 0) := by
  refine ⟨⟨?_, ?_, ?_, ?_, ?_⟩, ?_, ?_, ?_, ?_, ?_⟩ <;> simp [go_sem]
theorem IBx.set0 {W : World} {g : Nat} {k k' : Int} {n : Nat} {vb : Value} {t : ByteArray} {vk : Value} (h : IBx W g k n vb t vk) : IBx (W.setCell ⟨g, 0, none⟩ (.int .i64 k')) g k' n vb t vk := by
  obtain ⟨⟨h0, h1, h2, h3, h4⟩, ⟨f0, f1, f2, f3, f4⟩⟩ := h
  refine ⟨⟨?_, ?_, ?_, ?_, ?_⟩, ?_, ?_, ?_, ?_, ?_⟩ <;> simp [go_sem, *]
theorem IBx.set1 {W : World} {g : Nat} {k : Int} {n n' : Nat} {vb : Value} {t : ByteArray} {vk : Value} (h : IBx W g k n vb t vk) : IBx (W.setCell ⟨g, 1, none⟩ (.int .u64 (n' : Nat))) g k n' vb t vk := by
  obtain ⟨⟨h0, h1, h2, h3, h4⟩, ⟨f0, f1, f2, f3, f4⟩⟩ := h
  refine ⟨⟨?_, ?_, ?_, ?_, ?_⟩, ?_, ?_, ?_, ?_, ?_⟩ <;> simp [go_sem, *]
theorem IBx.set2 {W : World} {g : Nat} {k : Int} {n : Nat} {vb vb' : Value} {t : ByteArray} {vk : Value} (h : IBx W g k n vb t vk) : IBx (W.setCell ⟨g, 2, none⟩ vb') g k n vb' t vk := by
  obtain ⟨⟨h0, h1, h2, h3, h4⟩, ⟨f0, f1, f2, f3, f4⟩⟩ := h
  refine ⟨⟨?_, ?_, ?_, ?_, ?_⟩, ?_, ?_, ?_, ?_, ?_⟩ <;> simp [go_sem, *]
theorem IBx.set3 {W : World} {g : Nat} {k : Int} {n : Nat} {vb : Value} {t t' : ByteArray} {vk : Value} (h : IBx W g k n vb t vk) : IBx (W.setCell ⟨g, 3, none⟩ (.string t')) g k n vb t' vk := by
  obtain ⟨⟨h0, h1, h2, h3, h4⟩, ⟨f0, f1, f2, f3, f4⟩⟩ := h
  refine ⟨⟨?_, ?_, ?_, ?_, ?_⟩, ?_, ?_, ?_, ?_, ?_⟩ <;> simp [go_sem, *]
theorem IBx.set4 {W : World} {g : Nat} {k : Int} {n : Nat} {vb : Value} {t : ByteArray} {vk vk' : Value} (h : IBx W g k n vb t vk) : IBx (W.setCell ⟨g, 4, none⟩ vk') g k n vb t vk' := by
  obtain ⟨⟨h0, h1, h2, h3, h4⟩, ⟨f0, f1, f2, f3, f4⟩⟩ := h
  refine ⟨⟨?_, ?_, ?_, ?_, ?_⟩, ?_, ?_, ?_, ?_, ?_⟩ <;> simp [go_sem, *]
/-- The three boxes as they are at the start. -/
theorem three (w : World) (t u : TypeId) : RBx (((w.alloc (.cells #[.int .i64 0, .int .u64 0, .slice none 0 0, .string ⟨#[]⟩, .slice none 0 0] t)).alloc (.cells #[.int .i64 0, .int .i64 0, .slice none 0 0] u)).alloc (.cells #[.int .i64 0, .int .u64 0, .slice none 0 0, .string ⟨#[]⟩, .slice none 0 0] t)) w.heap.size (w.heap.size + 1) ∧ IBx (((w.alloc (.cells #[.int .i64 0, .int .u64 0, .slice none 0 0, .string ⟨#[]⟩, .slice none 0 0] t)).alloc (.cells #[.int .i64 0, .int .i64 0, .slice none 0 0] u)).alloc (.cells #[.int .i64 0, .int .u64 0, .slice none 0 0, .string ⟨#[]⟩, .slice none 0 0] t)) (w.heap.size + 2) 0 0 (.slice none 0 0) ⟨#[]⟩ (.slice none 0 0) := by
  refine ⟨(RBx.new w t u).keep ((Below.refl _ _).alloc (Nat.le_refl _) _), ?_⟩
  have := IBx.new ((w.alloc (.cells #[.int .i64 0, .int .u64 0, .slice none 0 0, .string ⟨#[]⟩, .slice none 0 0] t)).alloc (.cells #[.int .i64 0, .int .i64 0, .slice none 0 0] u)) t
  simpa using this

end Go.Proofs.Ytambhapgjonmmaa
