/- The weight of a tree, its size. -/
import Derived.Test.YtiodjhcjfbnocaaBook
namespace Go.Proofs.Ytiodjhcjfbnocaa
open Go.RowKit
set_option linter.unusedVariables false
set_option linter.unusedSimpArgs false

mutual
def T.wt : T → Nat
  | .mk _ _ _ _ text more _ bs kids => 2 + text.size + more.size + bs.length + kids.wt
def F.wt : F → Nat
  | .nil => 0
  | .cons n t r => n.size + t.wt + r.wt
end

theorem roomS_sum : ∀ (l : List Int) (left : Int), (∀ s ∈ l, 0 ≤ s) → 0 ≤ roomS left l → roomS left l = left - l.sum
  | [], left, _, _ => by simp [roomS]
  | s :: r, left, hs, h => by
    simp only [roomS] at h ⊢
    split at h
    · omega
    · rename_i hh
      rw [if_neg hh, roomS_sum r (left - s) (fun x hx => hs x (by simp [hx])) h]
      simp; omega

mutual
theorem bookT_wt : ∀ (t : T) (left : Int), 0 ≤ bookT left t → bookT left t = left - t.wt
  | .mk _ _ _ _ text more _ bs kids, left, h => by
    simp only [bookT] at h ⊢
    have h2 := bookF_wt kids _ h
    have hr : 0 ≤ roomS left [2, text.size, more.size, bs.length] := by omega
    have h1 := roomS_sum [2, text.size, more.size, bs.length] left (by simp) hr
    rw [h2, h1]
    simp only [T.wt, List.sum_cons, List.sum_nil]
    omega
theorem bookF_wt : ∀ (f : F) (left : Int), 0 ≤ bookF left f → bookF left f = left - f.wt
  | .nil, left, h => by simp [bookF, F.wt]
  | .cons n t r, left, h => by
    simp only [bookF] at h ⊢
    split at h
    · omega
    · rename_i hh
      rw [if_neg hh]
      have h3 := bookF_wt r _ h
      have h2 := bookT_wt t (roomS left [(n.size : Int)]) (by omega)
      have h1 := roomS_sum [(n.size : Int)] left (by simp) (by omega)
      rw [h3, h2, h1]
      simp only [F.wt, List.sum_cons, List.sum_nil]
      omega
end

theorem F.wt_get : ∀ (f : F) (i : Nat) (n : ByteArray) (t : T), f.get? i = some (n, t) → n.size + t.wt + (f.drop (i + 1)).wt ≤ (f.drop i).wt ∧ (f.drop i).wt ≤ f.wt
  | .nil, i, n, t, h => by simp [F.get?] at h
  | .cons n' t' r, 0, n, t, h => by
    simp only [F.get?, Option.some.injEq, Prod.mk.injEq] at h
    obtain ⟨rfl, rfl⟩ := h
    simp [F.drop, F.wt]
  | .cons n' t' r, i + 1, n, t, h => by
    have := F.wt_get r i n t h
    simp only [F.drop, F.wt] at this ⊢
    omega

/-- A value's size, its Kids' size given. -/
def ownSize (k sub : Int) (text more bs : Nat) (ks : Int) : Int :=
  bif k == 1 then 8 else bif k == 9 then 8 else bif k == 17 then 8 else bif k == 18 then 8 else bif k == 16 then 4 else bif k == 8 then 1 else bif k == 19 then 16
  else bif k == 2 then text + 5 else bif k == 13 then text + 5 else bif k == 14 then text + 5 else bif k == 11 then text + more + 2
  else bif k == 5 then (bif sub == 2 then bs + 9 else bs + 5) else bif k == 7 then 12 else bif k == 12 then text + 17
  else bif k == 3 then ks else bif k == 4 then ks else bif k == 15 then text + 9 + ks else 0

theorem ownSize_bd (k sub : Int) (text more bs : Nat) (ks : Int) (h : 0 ≤ ks) : 0 ≤ ownSize k sub text more bs ks ∧ ownSize k sub text more bs ks ≤ 17 + text + more + bs + ks := by
  unfold ownSize
  simp only [cond_eq_ite]
  (repeat' split) <;> omega

mutual
def sizeT : T → Int
  | .mk k _ _ _ text more sub bs kids => ownSize k sub text.size more.size bs.length (5 + sizeF kids)
def sizeF : F → Int
  | .nil => 0
  | .cons n t r => (n.size + 2 + sizeT t) + sizeF r
end

mutual
theorem sizeT_bd : ∀ (t : T), 0 ≤ sizeT t ∧ sizeT t + 2 ≤ 12 * t.wt
  | .mk k _ _ _ text more sub bs kids => by
    have h := sizeF_bd kids
    have := ownSize_bd k sub text.size more.size bs.length (5 + sizeF kids) (by omega)
    simp only [sizeT, T.wt]
    omega
theorem sizeF_bd : ∀ (f : F), 0 ≤ sizeF f ∧ sizeF f ≤ 12 * f.wt
  | .nil => by simp [sizeF, F.wt]
  | .cons n t r => by
    have h1 := sizeT_bd t
    have h2 := sizeF_bd r
    have h3 : 2 ≤ t.wt := by cases t; simp only [T.wt]; omega
    simp only [sizeF, F.wt]
    omega
end

theorem sizeF_get (f : F) (i : Nat) (n : ByteArray) (t : T) (h : f.get? i = some (n, t)) : sizeF (f.drop i) = (n.size + 2 + sizeT t) + sizeF (f.drop (i + 1)) := by
  rw [F.drop_get f i n t h]; rfl

end Go.Proofs.Ytiodjhcjfbnocaa
