/- base64, plainly. No program in sight. -/
import Derived.Test.YtolmeimipchndaaLib
namespace Go.Proofs.Ytolmeimipchndaa
set_option linter.unusedVariables false
set_option linter.unusedSimpArgs false

/-- The signs of six bits. -/
def sgl : List UInt8 := [65, 66, 67, 68, 69, 70, 71, 72, 73, 74, 75, 76, 77, 78, 79, 80, 81, 82, 83, 84, 85, 86, 87, 88, 89, 90, 97, 98, 99, 100, 101, 102, 103, 104, 105, 106, 107, 108, 109, 110, 111, 112, 113, 114, 115, 116, 117, 118, 119, 120, 121, 122, 48, 49, 50, 51, 52, 53, 54, 55, 56, 57, 43, 47]

def sg (i : Nat) : UInt8 := sgl.getD i 0

/-- Bytes as signs. -/
def b64 : List UInt8 → List UInt8
  | x :: y :: z :: r => sg (x.toNat / 4) :: sg (x.toNat % 4 * 16 + y.toNat / 16) :: sg (y.toNat % 16 * 4 + z.toNat / 64) :: sg (z.toNat % 64) :: b64 r
  | [x, y] => [sg (x.toNat / 4), sg (x.toNat % 4 * 16 + y.toNat / 16), sg (y.toNat % 16 * 4), 61]
  | [x] => [sg (x.toNat / 4), sg (x.toNat % 4 * 16), 61, 61]
  | [] => []

theorem b64_append : ∀ (k : Nat) (l r : List UInt8), l.length = 3 * k → b64 (l ++ r) = b64 l ++ b64 r
  | 0, l, r, h => by
    have : l = [] := List.eq_nil_of_length_eq_zero (by omega)
    subst this; rfl
  | k + 1, x :: y :: z :: l, r, h => by
    have := b64_append k l r (by simp at h; omega)
    simp [b64, this]
  | k + 1, [], r, h => by simp at h
  | k + 1, [x], r, h => by simp at h; omega
  | k + 1, [x, y], r, h => by simp at h; omega

theorem b64_len : ∀ (l : List UInt8), (b64 l).length = (l.length + 2) / 3 * 4
  | x :: y :: z :: r => by simp only [b64, List.length_cons, b64_len r]; omega
  | [x, y] => by simp [b64]
  | [x] => by simp [b64]
  | [] => rfl

theorem sg_inj : ∀ i j : Fin 64, sg i = sg j → i = j := by decide +kernel
theorem sg_ne61 : ∀ i : Fin 64, sg i ≠ 61 := by decide +kernel

theorem sg_inj' {i j : Nat} (hi : i < 64) (hj : j < 64) (h : sg i = sg j) : i = j := by
  have := sg_inj ⟨i, hi⟩ ⟨j, hj⟩ h
  simpa using this
theorem sg_ne {i : Nat} (hi : i < 64) : sg i ≠ 61 := sg_ne61 ⟨i, hi⟩

theorem u8_eq {x y : UInt8} (h : x.toNat = y.toNat) : x = y := UInt8.toNat_inj.1 h

theorem b64_inj : ∀ (l r : List UInt8), b64 l = b64 r → l = r
  | x :: y :: z :: l, x' :: y' :: z' :: r, h => by
    simp only [b64, List.cons.injEq] at h
    obtain ⟨h1, h2, h3, h4, h5⟩ := h
    have b1 := x.toNat_lt; have b2 := y.toNat_lt; have b3 := z.toNat_lt
    have c1 := x'.toNat_lt; have c2 := y'.toNat_lt; have c3 := z'.toNat_lt
    have e1 := sg_inj' (by omega) (by omega) h1
    have e2 := sg_inj' (by omega) (by omega) h2
    have e3 := sg_inj' (by omega) (by omega) h3
    have e4 := sg_inj' (by omega) (by omega) h4
    have := b64_inj l r h5
    subst this
    rw [u8_eq (x := x) (y := x') (by omega), u8_eq (x := y) (y := y') (by omega), u8_eq (x := z) (y := z') (by omega)]
  | [x, y], [x', y'], h => by
    simp only [b64, List.cons.injEq] at h
    obtain ⟨h1, h2, h3, _⟩ := h
    have b1 := x.toNat_lt; have b2 := y.toNat_lt
    have c1 := x'.toNat_lt; have c2 := y'.toNat_lt
    have e1 := sg_inj' (by omega) (by omega) h1
    have e2 := sg_inj' (by omega) (by omega) h2
    have e3 := sg_inj' (by omega) (by omega) h3
    rw [u8_eq (x := x) (y := x') (by omega), u8_eq (x := y) (y := y') (by omega)]
  | [x], [x'], h => by
    simp only [b64, List.cons.injEq] at h
    obtain ⟨h1, h2, _⟩ := h
    have b1 := x.toNat_lt; have c1 := x'.toNat_lt
    have e1 := sg_inj' (by omega) (by omega) h1
    have e2 := sg_inj' (by omega) (by omega) h2
    rw [u8_eq (x := x) (y := x') (by omega)]
  | [], [], _ => rfl
  | [], _ :: _ :: _ :: _, h => by simp [b64] at h
  | [], [_, _], h => by simp [b64] at h
  | [], [_], h => by simp [b64] at h
  | _ :: _ :: _ :: _, [], h => by simp [b64] at h
  | [_, _], [], h => by simp [b64] at h
  | [_], [], h => by simp [b64] at h
  | x :: y :: z :: l, [x', y'], h => by
    simp only [b64, List.cons.injEq] at h
    exact absurd h.2.2.2.1 (sg_ne (by omega))
  | [x', y'], x :: y :: z :: l, h => by
    simp only [b64, List.cons.injEq] at h
    exact absurd h.2.2.2.1.symm (sg_ne (by omega))
  | x :: y :: z :: l, [x'], h => by
    simp only [b64, List.cons.injEq] at h
    exact absurd h.2.2.2.1 (sg_ne (by omega))
  | [x'], x :: y :: z :: l, h => by
    simp only [b64, List.cons.injEq] at h
    exact absurd h.2.2.2.1.symm (sg_ne (by omega))
  | [x, y], [x'], h => by
    simp only [b64, List.cons.injEq] at h
    have := y.toNat_lt
    exact absurd h.2.2.1 (sg_ne (by omega))
  | [x'], [x, y], h => by
    simp only [b64, List.cons.injEq] at h
    have := y.toNat_lt
    exact absurd h.2.2.1.symm (sg_ne (by omega))

end Go.Proofs.Ytolmeimipchndaa
