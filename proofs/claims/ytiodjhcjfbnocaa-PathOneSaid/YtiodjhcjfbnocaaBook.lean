/- How large a tree is: the statements' guard. -/
import Derived.Test.YtiodjhcjfbnocaaRows
import Derived.Test.YtiodjhcjfbnocaaTree
import Derived.Deep.RegionHeld3
namespace Go.Proofs.Ytiodjhcjfbnocaa
open Go.RowKit
set_option linter.unusedVariables false
set_option linter.unusedSimpArgs false

def roomS : Int → List Int → Int
  | left, [] => left
  | left, s :: r => if left < 0 ∨ left < s then -1 else roomS (left - s) r

theorem roomS_bd : ∀ (l : List Int) (left : Int), (∀ s ∈ l, 0 ≤ s) → -1 ≤ left → -1 ≤ roomS left l ∧ roomS left l ≤ left
  | [], left, _, h => by simp [roomS]; omega
  | s :: r, left, hs, h => by
    have h0 := hs s (by simp)
    simp only [roomS]
    split
    · omega
    · have := roomS_bd r (left - s) (fun x hx => hs x (by simp [hx])) (by omega)
      omega

def nAt (l : List Int) (i : Nat) : Int := l.getD i 0

set_option maxRecDepth 100000 in
set_option maxHeartbeats 1000000 in
theorem room_calls (a : Option Addr) (n cap : Nat) (left : Int) (w : World) (l : List Int) (h : RdI .i64 w a n l) (hs : ∀ s ∈ l, 0 ≤ s) (h0 : -1 ≤ left) (h1 : left ≤ 4611686018427387904) :
    Calls Try.prog 45 #[.int .i64 left, .slice a n cap] w fun e w' => e = .returned (.int .i64 (roomS left l)) ∧ w = w' := by
  have H := Lib.hid h
  have hm := h.2.1
  have HS := Lib.hid hs
  clear h hs
  go_enter Try.func45, Try.ntmps45
  go_wp2
  go_loop [0, 5] (fun q i => ∃ (k : Nat) (lf : Int), k ≤ n ∧ i = .int .i64 k ∧ q = .int .i64 lf ∧ -1 ≤ lf ∧ lf ≤ 4611686018427387904 ∧ roomS lf (l.drop k) = roomS left l) (fun _ i => n - (intOf i).toNat)
  case atStart => exact ⟨0, left, by omega, rfl, rfl, h0, h1, rfl⟩
  case round =>
    obtain ⟨k, lf, hk, rfl, rfl, b0, b1, hr⟩ := hrel
    have HR := Lib.hid hr
    clear hr
    by_cases hlt : k < n
    · obtain ⟨b, o, rfl, d⟩ : ∃ b o, a = some ⟨b, o, none⟩ ∧ w.cell? ⟨b, o + k, none⟩ = some (.int .i64 (nAt l k)) := H.out.2.2.2 k hlt
      have hl : k < l.length := by rw [H.out.1]; exact hlt
      have hd : Hid (roomS lf (l.drop k) = if lf < 0 ∨ lf < nAt l k then -1 else roomS (lf - nAt l k) (l.drop (k + 1))) := by
        show roomS lf (l.drop k) = _
        rw [drop_getD l 0 k hl]; rfl
      have hn : 0 ≤ nAt l k := HS.out _ (by unfold nAt; rw [List.getD_eq_getElem?_getD, List.getElem?_eq_getElem hl]; exact List.getElem_mem hl)
      clear hl
      generalize nAt l k = s at d hd hn
      by_cases hx : lf < 0
      · have hf := Lib.hid (HR.out.symm.trans (hd.out.trans (if_pos (Or.inl hx))))
        go_wp2
        go_ret
        exact ⟨by rw [hf.out]; rfl, rfl⟩
      · by_cases hy : lf < s
        · have hf := Lib.hid (HR.out.symm.trans (hd.out.trans (if_pos (Or.inr hy))))
          go_wp2
          go_ret
          exact ⟨by rw [hf.out]; rfl, rfl⟩
        · have hf := Lib.hid ((hd.out.trans (if_neg (by omega))).symm.trans HR.out)
          go_wp2
          go_round
          case rel => exact ⟨k + 1, lf - s, by omega, by simp, by simp, by omega, by omega, hf.out⟩
          case measure => simp [intOf]; omega
    · have hf : Hid (roomS left l = lf) := by
        have := HR.out
        rw [List.drop_of_length_le (by rw [H.out.1]; omega)] at this
        exact this.symm
      go_wp2
      go_ret
      exact ⟨by rw [hf.out]; rfl, rfl⟩

mutual
def bookT : Int → T → Int
  | left, .mk _ _ _ _ text more _ bs kids => bookF (roomS left [2, text.size, more.size, bs.length]) kids
def bookF : Int → F → Int
  | left, .nil => left
  | left, .cons n t r => if left < 0 then left else bookF (bookT (roomS left [(n.size : Int)]) t) r
end

mutual
theorem bookT_bd : ∀ (t : T) (left : Int), -1 ≤ left → -1 ≤ bookT left t ∧ bookT left t ≤ left
  | .mk _ _ _ _ text more _ bs kids, left, h => by
    have h1 := roomS_bd [2, text.size, more.size, bs.length] left (by simp) h
    have h2 := bookF_bd kids _ h1.1
    simp only [bookT]
    omega
theorem bookF_bd : ∀ (f : F) (left : Int), -1 ≤ left → -1 ≤ bookF left f ∧ bookF left f ≤ left
  | .nil, left, h => by simp [bookF]; omega
  | .cons n t r, left, h => by
    simp only [bookF]
    split
    · omega
    · have h1 := roomS_bd [(n.size : Int)] left (by simp) h
      have h2 := bookT_bd t _ h1.1
      have h3 := bookF_bd r _ h2.1
      omega
end

def F.drop : Nat → F → F
  | 0, f => f
  | _ + 1, .nil => .nil
  | k + 1, .cons _ _ r => r.drop k

theorem F.drop_get : ∀ (f : F) (k : Nat) (n : ByteArray) (t : T), f.get? k = some (n, t) → f.drop k = .cons n t (f.drop (k + 1))
  | .nil, k, n, t, h => by simp [F.get?] at h
  | .cons n' t' r, 0, n, t, h => by
    simp only [F.get?, Option.some.injEq, Prod.mk.injEq] at h
    obtain ⟨rfl, rfl⟩ := h
    simp [F.drop]
  | .cons n' t' r, k + 1, n, t, h => F.drop_get r k n t h

theorem F.drop_len : ∀ (f : F) (k : Nat), f.len ≤ k → f.drop k = .nil
  | .nil, 0, _ => rfl
  | .nil, k + 1, _ => rfl
  | .cons _ _ r, 0, h => by simp [F.len] at h
  | .cons _ _ r, k + 1, h => F.drop_len r k (by simp only [F.len] at h; omega)

end Go.Proofs.Ytiodjhcjfbnocaa
