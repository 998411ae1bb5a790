/- CurBack: the plain law, and the walk. -/
import Derived.Test.YthahhjmgjlkmfaaCurA
namespace Go.Proofs.Ythahhjmgjlkmfaa
open Go.RowKit
set_option linter.unusedVariables false
set_option linter.unusedSimpArgs false

/-- Each number both ways. -/
def enc (n : Nat) : List Nat → List UInt8
  | [] => []
  | x :: r => leBytes n x ++ ((leBytes n x).reverse ++ enc n r)

theorem enc_length (n : Nat) : ∀ xs, (enc n xs).length = 2 * n * xs.length
  | [] => by simp [enc]
  | x :: r => by
    simp only [enc, List.length_append, List.length_reverse, leBytes_length, enc_length n r, List.length_cons, Nat.mul_add, Nat.mul_one]
    omega

theorem enc_append (n : Nat) : ∀ xs ys, enc n (xs ++ ys) = enc n xs ++ enc n ys
  | [], ys => rfl
  | x :: r, ys => by simp [enc, enc_append n r ys]

def uAt (xs : List Nat) (i : Nat) : Nat := xs.getD i 0

theorem enc_take (n : Nat) (xs : List Nat) (k : Nat) (hk : k < xs.length) : enc n (xs.take k) ++ leBytes n (uAt xs k) ++ (leBytes n (uAt xs k)).reverse = enc n (xs.take (k + 1)) := by
  rw [List.take_succ_eq_append_getElem hk, enc_append]
  have : uAt xs k = xs[k] := by simp [uAt, hk]
  rw [this]
  simp [enc]

theorem enc_drop (n : Nat) : ∀ (xs : List Nat) (k : Nat), (enc n xs).drop (2 * n * k) = enc n (xs.drop k)
  | [], k => by simp [enc]
  | x :: r, 0 => by simp
  | x :: r, k + 1 => by
    simp only [enc, List.drop_succ_cons]
    rw [← List.append_assoc, List.drop_append, List.drop_of_length_le (by simp [leBytes_length]; rw [Nat.mul_add]; omega), List.nil_append]
    rw [← enc_drop n r k]
    congr 1
    simp [leBytes_length]
    rw [Nat.mul_add]; omega

theorem enc_seg (n : Nat) (xs : List Nat) (k : Nat) (hk : k < xs.length) : seg (enc n xs) (2 * n * k) n = leBytes n (uAt xs k) ∧ seg (enc n xs) (2 * n * k + n) n = (leBytes n (uAt xs k)).reverse := by
  have e : (enc n xs).drop (2 * n * k) = leBytes n (uAt xs k) ++ ((leBytes n (uAt xs k)).reverse ++ enc n (xs.drop (k + 1))) := by
    rw [enc_drop, drop_getD xs 0 k hk]; rfl
  unfold seg
  refine ⟨?_, ?_⟩
  · rw [e, List.take_append_of_le_length (by rw [leBytes_length]; omega), List.take_of_length_le (by rw [leBytes_length]; omega)]
  · rw [← List.drop_drop, e, List.drop_append, List.drop_of_length_le (by rw [leBytes_length]; omega), List.nil_append, leBytes_length, Nat.sub_self, List.drop_zero]
    rw [List.take_append_of_le_length (by rw [List.length_reverse, leBytes_length]; omega), List.take_of_length_le (by rw [List.length_reverse, leBytes_length]; omega)]

theorem be_rev (l : List UInt8) : be l.reverse = le l := by simp [be]

/-- Up and down again: what is left of a number. -/
theorem shl_shr (x n : Nat) (hx : x < okSize) (h1 : 1 ≤ n) (h8 : n ≤ 8) : IntKind.u64.wrap ((x : Int) * 2 ^ (64 - 8 * n)) / 2 ^ (64 - 8 * n) = ((x % 256 ^ n : Nat) : Int) := by
  have e : (x : Int) * 2 ^ (64 - 8 * n) = ((x * 2 ^ (64 - 8 * n) : Nat) : Int) := by rw [Int.natCast_mul, Int.natCast_pow]; rfl
  rw [e, IntKind.wrap_u64]
  have h64 : (18446744073709551616 : Int) = ((2 ^ (8 * n) * 2 ^ (64 - 8 * n) : Nat) : Int) := by
    rw [← Nat.pow_add, show 8 * n + (64 - 8 * n) = 64 from by omega]; rfl
  rw [h64, ← Int.natCast_emod, Nat.mul_mod_mul_right]
  have e2 : (2 : Int) ^ (64 - 8 * n) = ((2 ^ (64 - 8 * n) : Nat) : Int) := by rw [Int.natCast_pow]; rfl
  rw [e2, ← Int.natCast_ediv, Nat.mul_div_cancel _ (Nat.pow_pos (by omega)), pow256]

end Go.Proofs.Ythahhjmgjlkmfaa
