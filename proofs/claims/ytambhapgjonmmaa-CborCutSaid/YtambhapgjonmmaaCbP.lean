/- CBOR, plainly: what an item's bytes are, what is wrong of it. -/
import Derived.Test.YtambhapgjonmmaaITree
import Derived.Test.YtambhapgjonmmaaCbN
import Derived.Test.YtambhapgjonmmaaSl
import Derived.Test.YtambhapgjonmmaaUtf2
namespace Go.Proofs.Ytambhapgjonmmaa
set_option linter.unusedVariables false
set_option linter.unusedSimpArgs false

/-- In how many bytes behind its first one a head has room for a number. -/
def needN (n : Nat) : Nat := if n < 24 then 0 else if n < 256 then 1 else if n < 65536 then 2 else if n < 4294967296 then 4 else 8
/-- What its first byte's low half says. -/
def codeN (n : Nat) : Nat := if n < 24 then n else if n < 256 then 24 else if n < 65536 then 25 else if n < 4294967296 then 26 else 27
/-- A head's bytes. -/
def headB (m n : Nat) : List UInt8 := UInt8.ofNat (32 * m + codeN n) :: (leBytes (needN n) n).reverse
theorem headB_len (m n : Nat) : (headB m n).length = 1 + needN n := by simp [headB, leBytes_length]; omega
theorem needN_le (n : Nat) : needN n ≤ 8 := by unfold needN; (repeat' split) <;> omega
theorem codeN_le (n : Nat) : codeN n ≤ 27 := by unfold codeN; (repeat' split) <;> omega

/-- Has an item what its Kind has, and nothing else? -/
def fieldsB (k : Int) (n bl tl kl : Nat) : Bool :=
  (if k = 6 then kl % 2 == 0 else if k = 7 then kl == 1 else if k = 8 then decide (20 ≤ n ∧ n ≤ 23) else true) &&
  (if k = 1 ∨ k = 2 ∨ k = 9 ∨ k = 7 ∨ k = 8 then true else n == 0) && (if k = 3 then true else bl == 0) && (if k = 4 then true else tl == 0) && (if k = 5 ∨ k = 6 ∨ k = 7 then true else kl == 0)

mutual
/-- The first thing that is wrong of an item. -/
def errI : I → Nat
  | .mk k n bs t f => if k < 1 ∨ 9 < k then 5 else if fieldsB k n bs.length t.size f.len = false then 1 else if (wholeTo (sl t) == t.size) = false then 4 else errIs f
def errIs : IL → Nat
  | .nil => 0
  | .cons x r => if errI x ≠ 0 then errI x else errIs r
end
mutual
/-- An item's bytes. -/
def layI : I → List UInt8
  | .mk k n bs t f =>
    (if k = 1 then headB 0 n else if k = 2 then headB 1 n else if k = 3 then headB 2 bs.length ++ bs else if k = 4 then headB 3 t.size ++ sl t else if k = 5 then headB 4 f.len else if k = 6 then headB 5 (f.len / 2) else
     if k = 7 then headB 6 n else if k = 8 then headB 7 n else if k = 9 then [251] ++ (leBytes 8 n).reverse else []) ++ layIs f
def layIs : IL → List UInt8
  | .nil => []
  | .cons x r => layI x ++ layIs r
end
theorem layIs_step (a : IL) (j : Nat) (x : I) (h : a.get? j = some x) : layIs (a.drop j) = layI x ++ layIs (a.drop (j + 1)) := by
  rw [IL.drop_get a j x h]; rfl
theorem layIs_end (a : IL) (j : Nat) (h : a.len ≤ j) : layIs (a.drop j) = [] := by
  rw [IL.drop_len a j h]; rfl
theorem errIs_step (a : IL) (j : Nat) (x : I) (h : a.get? j = some x) : errIs (a.drop j) = if errI x ≠ 0 then errI x else errIs (a.drop (j + 1)) := by
  rw [IL.drop_get a j x h]; rfl
theorem errIs_end (a : IL) (j : Nat) (h : a.len ≤ j) : errIs (a.drop j) = 0 := by
  rw [IL.drop_len a j h]; rfl
mutual
theorem layI_len : ∀ x : I, (layI x).length ≤ 9 * x.wt
  | .mk k n bs t f => by
    have h1 := layIs_len f
    have e1 : ∀ m n, (headB m n).length ≤ 9 := fun m n => by rw [headB_len]; have := needN_le n; omega
    have h4 := sl_len t
    simp only [layI, I.wt, List.length_append]
    have g0 := e1 0 n; have g1 := e1 1 n; have g2 := e1 2 bs.length; have g3 := e1 3 t.size; have g4 := e1 4 f.len; have g5 := e1 5 (f.len / 2); have g6 := e1 6 n; have g7 := e1 7 n
    (repeat' split) <;> (try simp only [List.length_append, List.length_reverse, leBytes_length, List.length_cons, List.length_nil]) <;> omega
theorem layIs_len : ∀ f : IL, (layIs f).length ≤ 9 * f.wt
  | .nil => by simp [layIs]
  | .cons x r => by
    have h1 := layI_len x
    have h2 := layIs_len r
    simp only [layIs, IL.wt, List.length_append]
    omega
end

end Go.Proofs.Ytambhapgjonmmaa
