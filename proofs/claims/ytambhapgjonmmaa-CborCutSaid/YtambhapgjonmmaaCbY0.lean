/- cbor.read and cbor.kids: what they are to tell. -/
import Derived.Test.YtambhapgjonmmaaCbX
namespace Go.Proofs.Ytambhapgjonmmaa
open Go.RowKit
set_option linter.unusedVariables false
set_option linter.unusedSimpArgs false

theorem ChgR.refl {w : World} {r : Nat} (h : r < w.heap.size) : ChgR r w w := ⟨h, Chg.refl _ _, rfl⟩
theorem Rdr.lt {w : World} {r : Nat} {bs : List UInt8} {p : Nat} (h : Rdr w r bs p) : r < w.heap.size := by obtain ⟨a, cap, h1, -⟩ := h; simpa using cell_block h1
theorem Rdr.le {w : World} {r : Nat} {bs : List UInt8} {p : Nat} (h : Rdr w r bs p) : p ≤ bs.length := by obtain ⟨_, _, _, _, _, _, _, _, h7, _⟩ := h; exact h7
theorem num28_ok (r p : Nat) (bs : List UInt8) (low : Nat) (h2 : low ≤ 27) (w : World) (h : Rdr w r bs (p + 1)) (hn : p + 1 + sizeL low ≤ bs.length) :
    Calls Try.prog 47 #[.pointer (some ⟨r, 0, none⟩), .int .i64 low] w (StepPost w r bs (.tuple #[.int .u64 (numL bs p low : Nat), .bool true]) (p + 1 + sizeL low)) := by
  by_cases hl : low < 24
  · have e1 : sizeL low = 0 := if_pos hl
    have e2 : numL bs p low = low := if_pos hl
    rw [e1, e2]
    refine (num28_small r low hl w).mono ?_
    rintro e w' ⟨rfl, rfl⟩
    exact ⟨rfl, h, ChgR.refl h.lt⟩
  · have e1 : sizeL low = wideB low := if_neg hl
    have e2 : numL bs p low = be (seg bs (p + 1) (wideB low)) := if_neg hl
    rw [e1] at hn
    rw [e1, e2]
    exact num28_yes r (p + 1) bs low (by omega) h2 w h hn
theorem numL_lt (bs : List UInt8) (p low : Nat) (h2 : low ≤ 27) (hn : p + 1 + sizeL low ≤ bs.length) : numL bs p low < okSize := by
  unfold numL
  split
  · unfold okSize; omega
  · rename_i hl
    rw [show sizeL low = wideB low from if_neg hl] at hn
    have := be_seg_small bs (p + 1) (wideB low) (wideB low) (by omega) (Nat.le_refl _) (wideB_le _).2
    have e : (seg bs (p + 1) (wideB low)).take (wideB low) = seg bs (p + 1) (wideB low) := List.take_of_length_le (by rw [seg_length _ _ _ (by omega)]; omega)
    rw [e] at this
    first | exact this | (unfold okSize at *; omega)

def ReadSaid (d : Nat) : Prop := ∀ (bs : List UInt8), bs.length ≤ 1000000 → ∀ (r p : Nat) (w : World), Rdr w r bs p → r < w.heap.size → Calls Try.prog 31 #[.pointer (some ⟨r, 0, none⟩), .int .i64 d] w (ReadO w r bs (readQ bs d p))
def KidsSaid28 (d : Nat) : Prop := ∀ (bs : List UInt8), bs.length ≤ 1000000 → ∀ (r p : Nat) (k : Int) (nn n e : Nat) (w : World), Rdr w r bs p → r < w.heap.size → (0 ≤ k ∧ k ≤ 100) → nn < okSize → n < okSize → (e = 1 ∨ e = 2) →
  Calls Try.prog 50 #[.pointer (some ⟨r, 0, none⟩), .agg #[.int .i64 k, .int .u64 (nn : Nat), .slice none 0 0, .string ⟨#[]⟩, .slice none 0 0], .int .u64 (n : Nat), .int .i64 (e : Nat), .int .i64 ((d + 1 : Nat) : Int)] w (ReadO w r bs (withKids k nn (kidsW (readQ bs d) (n * e) p)))

end Go.Proofs.Ytambhapgjonmmaa
