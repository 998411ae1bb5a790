/- FramesJoin: the plain law: pieces behind their lengths are cut where they were joined. -/
import Derived.Test.YtcoapmfbibjjpaaFrames2
import Derived.Test.YtcoapmfbibjjpaaNum2
namespace Go.Proofs.Ytcoapmfbibjjpaa
set_option linter.unusedVariables false
set_option linter.unusedSimpArgs false

/-- Pieces, each behind its own length. -/
def joined : List (List UInt8) → List UInt8
  | [] => []
  | p :: r => leBytes 4 (p.length + 4) ++ (p ++ joined r)

def spansFrom : Nat → List (List UInt8) → List (Nat × Nat)
  | _, [] => []
  | a, p :: r => (a, a + (4 + p.length)) :: spansFrom (a + (4 + p.length)) r

def okPieces (P : List (List UInt8)) : Prop := ∀ p ∈ P, 1 ≤ p.length ∧ p.length ≤ 100

theorem joined_append : ∀ (P Q : List (List UInt8)), joined (P ++ Q) = joined P ++ joined Q
  | [], Q => rfl
  | p :: r, Q => by simp [joined, joined_append r Q]

theorem joined_len : ∀ (P : List (List UInt8)), okPieces P → (joined P).length ≤ 104 * P.length
  | [], _ => by simp [joined]
  | p :: r, h => by
    have h1 := h p (by simp)
    have h2 := joined_len r (fun q hq => h q (by simp [hq]))
    simp only [joined, List.length_append, leBytes_length, List.length_cons]
    omega

theorem spansFrom_append : ∀ (P Q : List (List UInt8)) (a : Nat), spansFrom a (P ++ Q) = spansFrom a P ++ spansFrom (a + (joined P).length) Q
  | [], Q, a => by simp [spansFrom, joined]
  | p :: r, Q, a => by
    simp only [List.cons_append, spansFrom, spansFrom_append r Q, joined, List.length_append, leBytes_length]
    congr 3
    omega

theorem spansFrom_length : ∀ (P : List (List UInt8)) (a : Nat), (spansFrom a P).length = P.length
  | [], _ => rfl
  | p :: r, a => by simp [spansFrom, spansFrom_length r]

theorem cutF_join : ∀ (rest : List (List UInt8)) (pre tail : List UInt8) (f : Nat), okPieces rest → tail.length ≤ 1 → (pre ++ (joined rest ++ tail)).length - pre.length < f →
    cutF (pre ++ (joined rest ++ tail)) 104 f pre.length = (spansFrom pre.length rest, if tail.length = 0 then (0, 0) else (2, pre.length + (joined rest).length))
  | rest, pre, tail, 0, _, _, h => by omega
  | [], pre, tail, f + 1, _, ht, h => by
    show cutF (pre ++ tail) 104 (f + 1) pre.length = ([], if tail.length = 0 then (0, 0) else (2, pre.length + 0))
    rw [cutF]
    by_cases h0 : tail.length = 0
    · rw [if_pos h0, if_neg (by rw [List.length_append]; omega)]
    · have e : frmErr (pre ++ tail) 104 pre.length = 2 := by unfold frmErr; rw [if_neg (by rw [List.length_append]; omega)]
      rw [if_neg h0, if_pos (by rw [List.length_append]; omega), e]
      rfl
  | p :: r, pre, tail, f + 1, hp, ht, h => by
    have h1 := hp p (by simp)
    have hl : (pre ++ (joined (p :: r) ++ tail)).length = pre.length + (4 + p.length + (joined r).length + tail.length) := by
      simp only [joined, List.length_append, leBytes_length]; omega
    have hseg : seg (pre ++ (joined (p :: r) ++ tail)) pre.length 4 = leBytes 4 (p.length + 4) := by
      unfold seg
      rw [List.drop_left, joined, List.append_assoc, List.take_append_of_le_length (by rw [leBytes_length]; omega), List.take_of_length_le (by rw [leBytes_length]; omega)]
    have hlen : len4 (pre ++ (joined (p :: r) ++ tail)) pre.length = ((p.length + 4 : Nat) : Int) := by
      unfold len4
      rw [hseg, le_leBytes]
      have : (p.length + 4) % 256 ^ 4 = p.length + 4 := Nat.mod_eq_of_lt (by omega)
      rw [this, if_pos (by omega)]
    have he : frmErr (pre ++ (joined (p :: r) ++ tail)) 104 pre.length = 0 := by
      unfold frmErr
      rw [hlen, hl, if_pos (by omega), if_neg (by omega), if_neg (by omega), if_neg (by omega)]
    have hx : pre ++ (joined (p :: r) ++ tail) = (pre ++ leBytes 4 (p.length + 4) ++ p) ++ (joined r ++ tail) := by simp [joined]
    have hpl : (pre ++ leBytes 4 (p.length + 4) ++ p).length = pre.length + (4 + p.length) := by simp [leBytes_length]
    have ih := cutF_join r (pre ++ leBytes 4 (p.length + 4) ++ p) tail f (fun q hq => hp q (by simp [hq])) ht (by rw [← hx, hpl]; omega)
    rw [← hx, hpl] at ih
    rw [cutF, if_pos (by omega), if_pos he, hlen]
    rw [show (((p.length + 4 : Nat) : Int)).toNat = 4 + p.length from by omega, ih]
    simp only [spansFrom, joined, List.length_append, leBytes_length]
    congr 2
    first | done | (congr 1; omega)

theorem cutAll_join (P : List (List UInt8)) (h : okPieces P) : cutAll (joined P) 104 = (spansFrom 0 P, 0, 0) := by
  have := cutF_join P [] [] ((joined P).length + 1) h (by simp) (by simp)
  simpa [cutAll] using this

theorem cutAll_join_more (P : List (List UInt8)) (x : UInt8) (h : okPieces P) : cutAll (joined P ++ [x]) 104 = (spansFrom 0 P, 2, (joined P).length) := by
  have := cutF_join P [] [x] ((joined P ++ [x]).length + 1) h (by simp) (by simp)
  simpa [cutAll] using this

/-- Where the pieces end. -/
def endsOf (P : List (List UInt8)) : List Int := (spansFrom 0 P).map fun s => ((s.2 : Nat) : Int)

theorem endsOf_snoc (P : List (List UInt8)) (p : List UInt8) : endsOf (P ++ [p]) = endsOf P ++ [(((joined (P ++ [p])).length : Nat) : Int)] := by
  unfold endsOf
  rw [spansFrom_append, joined_append]
  simp only [spansFrom, List.map_append, List.map_cons, List.map_nil, joined, List.length_append, leBytes_length, List.length_nil]
  congr 3
  omega

theorem endsOf_at (P : List (List UInt8)) (i : Nat) (hi : i < P.length) : (endsOf P).getD i 0 = (((spansFrom 0 P).getD i (0, 0)).2 : Nat) := by
  have h : i < (spansFrom 0 P).length := by rw [spansFrom_length]; exact hi
  simp [endsOf, List.getD_eq_getElem?_getD, List.getElem?_map, List.getElem?_eq_getElem h]

theorem endsOf_length (P : List (List UInt8)) : (endsOf P).length = P.length := by simp [endsOf, spansFrom_length]

end Go.Proofs.Ytcoapmfbibjjpaa
