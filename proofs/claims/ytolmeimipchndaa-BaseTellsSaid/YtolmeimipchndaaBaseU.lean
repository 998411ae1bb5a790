/- The reference's reading of base64, plainly: whatever signs, some bytes; signs that were told give the bytes back. No program in sight. -/
import Derived.Test.YtolmeimipchndaaBaseR1
namespace Go.Proofs.Ytolmeimipchndaa
set_option linter.unusedVariables false
set_option linter.unusedSimpArgs false

theorem un0_61 : un0 61 = 0 := by unfold un0; rw [eq61]; rfl
/-- Four signs' number. -/
def v4 (a b c d : UInt8) : Nat := ((un0 a * 64 + un0 b) * 64 + un0 c) * 64 + un0 d
/-- Bytes of signs, whatever they are. -/
def rawU : List UInt8 → List UInt8
  | a :: b :: c :: d :: r => UInt8.ofNat (v4 a b c d / 65536) :: UInt8.ofNat (v4 a b c d / 256 % 256) :: UInt8.ofNat (v4 a b c d % 256) :: rawU r
  | _ => []
def padU (t : List UInt8) : List UInt8 := if t.length % 3 = 0 then [] else if t.length % 3 = 1 then [0, 0] else [0]
/-- How many bytes fall for the signs = at the end. -/
def dropU (l : List UInt8) : Nat := if 1 < l.length ∧ l.getD (l.length - 1) 0 = 61 then (if 2 < l.length ∧ l.getD (l.length - 2) 0 = 61 then 2 else 1) else 0
def unbU (l : List UInt8) : List UInt8 := (rawU l).take ((rawU l).length - dropU l)

theorem u8_of (n : Nat) (x : UInt8) (h : n = x.toNat) : UInt8.ofNat n = x := by rw [h]; simp
theorem raw_b64 : ∀ t : List UInt8, rawU (b64 t) = t ++ padU t
  | x :: y :: z :: r => by
    have b1 := x.toNat_lt; have b2 := y.toNat_lt; have b3 := z.toNat_lt
    have h1 := un0_sg (i := x.toNat / 4) (by omega)
    have h2 := un0_sg (i := x.toNat % 4 * 16 + y.toNat / 16) (by omega)
    have h3 := un0_sg (i := y.toNat % 16 * 4 + z.toNat / 64) (by omega)
    have h4 := un0_sg (i := z.toNat % 64) (by omega)
    have hp : padU (x :: y :: z :: r) = padU r := by
      unfold padU
      rw [show (x :: y :: z :: r).length % 3 = r.length % 3 by simp only [List.length_cons]; omega]
    simp only [b64, rawU, raw_b64 r, hp, List.cons_append]
    rw [u8_of _ x (by unfold v4; rw [h1, h2, h3, h4]; omega), u8_of _ y (by unfold v4; rw [h1, h2, h3, h4]; omega), u8_of _ z (by unfold v4; rw [h1, h2, h3, h4]; omega)]
  | [x, y] => by
    have b1 := x.toNat_lt; have b2 := y.toNat_lt
    have h1 := un0_sg (i := x.toNat / 4) (by omega)
    have h2 := un0_sg (i := x.toNat % 4 * 16 + y.toNat / 16) (by omega)
    have h3 := un0_sg (i := y.toNat % 16 * 4) (by omega)
    have h4 := un0_61
    simp only [b64, rawU]
    rw [u8_of _ x (by unfold v4; rw [h1, h2, h3, h4]; omega), u8_of _ y (by unfold v4; rw [h1, h2, h3, h4]; omega), u8_of _ 0 (by unfold v4; rw [h1, h2, h3, h4]; show _ = 0; omega)]
    rfl
  | [x] => by
    have b1 := x.toNat_lt
    have h1 := un0_sg (i := x.toNat / 4) (by omega)
    have h2 := un0_sg (i := x.toNat % 4 * 16) (by omega)
    have h4 := un0_61
    simp only [b64, rawU]
    rw [u8_of _ x (by unfold v4; rw [h1, h2, h4]; omega), u8_of _ 0 (by unfold v4; rw [h1, h2, h4]; show _ = 0; omega), u8_of _ 0 (by unfold v4; rw [h1, h2, h4]; show _ = 0; omega)]
    rfl
  | [] => rfl

theorem drop_b64 : ∀ t : List UInt8, dropU (b64 t) = (padU t).length
  | x :: y :: z :: r => by
    have b3 := z.toNat_lt
    have hp : padU (x :: y :: z :: r) = padU r := by
      unfold padU
      rw [show (x :: y :: z :: r).length % 3 = r.length % 3 by simp only [List.length_cons]; omega]
    rw [hp, ← drop_b64 r]
    have hl := b64_len r
    cases hr : r with
    | nil =>
      have h4 : sg (z.toNat % 64) ≠ 61 := sg_ne (by omega)
      simp [b64, dropU, h4]
    | cons a s =>
      rw [← hr]
      have h4 : 4 ≤ (b64 r).length := by rw [hl, hr]; simp only [List.length_cons]; omega
      obtain ⟨n, hn⟩ : ∃ n, (b64 r).length = n + 4 := ⟨(b64 r).length - 4, by omega⟩
      unfold dropU
      simp only [b64, List.length_cons, hn]
      rw [show n + 4 + 1 + 1 + 1 + 1 - 1 = (n + 4 - 1) + 4 by omega, show n + 4 + 1 + 1 + 1 + 1 - 2 = (n + 4 - 2) + 4 by omega]
      simp only [List.getD_cons_succ]
      have e1 : (1 < n + 4 + 1 + 1 + 1 + 1) = True := by simp
      have e2 : (2 < n + 4 + 1 + 1 + 1 + 1) = True := by simp
      have e3 : (1 < n + 4) = True := by simp
      have e4 : (2 < n + 4) = True := by simp
      simp only [e1, e2, e3, e4]
  | [x, y] => by
    have b2 := y.toNat_lt
    have h3 : sg (y.toNat % 16 * 4) ≠ 61 := sg_ne (by omega)
    simp [b64, dropU, padU, h3]
  | [x] => by simp [b64, dropU, padU]
  | [] => rfl

/-- Whatever bytes are told: they are read as they were. -/
theorem unb_law (t : List UInt8) : unbU (b64 t) = t := by
  unfold unbU
  rw [drop_b64, raw_b64, List.length_append, Nat.add_sub_cancel]
  simp
theorem raw_len : ∀ (m : Nat) (l : List UInt8), l.length = 4 * m → (rawU l).length = 3 * m
  | 0, l, h => by
    have : l = [] := List.eq_nil_of_length_eq_zero (by omega)
    subst this; rfl
  | m + 1, a :: b :: c :: d :: r, h => by
    have := raw_len m r (by simp only [List.length_cons] at h; omega)
    simp only [rawU, List.length_cons, this]; omega
  | m + 1, [], h => by simp at h
  | m + 1, [_], h => by simp at h; omega
  | m + 1, [_, _], h => by simp at h; omega
  | m + 1, [_, _, _], h => by simp at h; omega

end Go.Proofs.Ytolmeimipchndaa
