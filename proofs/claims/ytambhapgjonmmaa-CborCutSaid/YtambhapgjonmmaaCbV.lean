/- CBOR, plainly: what reading answers. -/
import Derived.Test.YtambhapgjonmmaaCbA
import Derived.Test.YtambhapgjonmmaaStr
namespace Go.Proofs.Ytambhapgjonmmaa
set_option linter.unusedVariables false
set_option linter.unusedSimpArgs false

/-- An answer: the thing and the place behind it, or an error and its place. -/
abbrev Rs (α : Type) := Except (Nat × Nat) (α × Nat)
def andKid (x : I) : Rs IL → Rs IL
  | .error e => .error e
  | .ok (f, t) => .ok (.cons x f, t)
def thenKids (x : Rs I) (k : Nat → Rs IL) : Rs IL := match x with
  | .error e => .error e
  | .ok (y, q) => andKid y (k q)
/-- So many items, one behind the other. -/
def kidsW (rd : Nat → Rs I) : Nat → Nat → Rs IL
  | 0, p => .ok (.nil, p)
  | n + 1, p => thenKids (rd p) (kidsW rd n)
/-- A head's number's bytes behind its first. -/
def sizeL (low : Nat) : Nat := if low < 24 then 0 else wideB low
def numL (b : List UInt8) (p low : Nat) : Nat := if low < 24 then low else be (seg b (p + 1) (wideB low))
def withKids (k : Int) (n : Nat) : Rs IL → Rs I
  | .error e => .error e
  | .ok (f, q) => .ok (.mk k n [] ⟨#[]⟩ f, q)
/-- Bytes, or a Text. -/
def rowQ (b : List UInt8) (p q m n : Nat) : Rs I :=
  if b.length < q + n then .error (2, p) else
  if m = 2 then .ok (.mk 3 0 (seg b q n) ⟨#[]⟩ .nil, q + n) else
  if (wholeTo (seg b q n) == n) = false then .error (4, p) else .ok (.mk 4 0 [] (txt (seg b q n)) .nil, q + n)
/-- What comes behind a head. -/
def behQ (rd : Nat → Rs I) (b : List UInt8) (p m low n q : Nat) : Rs I :=
  if m = 7 then (if low = 27 then .ok (.mk 9 n [] ⟨#[]⟩ .nil, q) else if 20 ≤ low ∧ low ≤ 23 then .ok (.mk 8 n [] ⟨#[]⟩ .nil, q) else .error (3, p)) else
  if 24 ≤ low ∧ needN n ≠ wideB low then .error (3, p) else
  if m = 0 then .ok (.mk 1 n [] ⟨#[]⟩ .nil, q) else
  if m = 1 then .ok (.mk 2 n [] ⟨#[]⟩ .nil, q) else
  if m = 2 ∨ m = 3 then rowQ b p q m n else
  if m = 4 then withKids 5 0 (kidsW rd n q) else
  if m = 5 then withKids 6 0 (kidsW rd (n * 2) q) else withKids 7 n (kidsW rd 1 q)
/-- The item at p, so many within one another. -/
def readQ (b : List UInt8) : Nat → Nat → Rs I
  | 0, p => .error (8, p)
  | d + 1, p =>
    if b.length ≤ p then .error (2, p) else
    if 27 < bAt b p % 32 then .error (3, p) else
    if b.length < p + 1 + sizeL (bAt b p % 32) then .error (2, p) else
    behQ (readQ b d) b p (bAt b p / 32) (bAt b p % 32) (numL b p (bAt b p % 32)) (p + 1 + sizeL (bAt b p % 32))
def decQ (b : List UInt8) (dp : Int) : Rs I :=
  if dp < 0 ∨ 1000 < dp then .error (1, 0) else
  match readQ b dp.toNat 0 with
  | .error e => .error e
  | .ok (x, q) => if q < b.length then .error (7, q) else .ok (x, q)

/-- Errors' numbers and places are small; items end within. -/
def Fine (b : List UInt8) (p : Nat) {α : Type} : Rs α → Prop
  | .error (e, a) => (1 ≤ e ∧ e ≤ 10) ∧ a ≤ b.length ∧ p ≤ a
  | .ok (_, q) => p ≤ q ∧ q ≤ b.length
theorem Fine.up {b : List UInt8} {p q : Nat} {α : Type} {R : Rs α} (h : Fine b q R) (hp : p ≤ q) : Fine b p R := by
  match R, h with
  | .error (e, a), h => exact ⟨h.1, h.2.1, Nat.le_trans hp h.2.2⟩
  | .ok (x, t), h => exact ⟨Nat.le_trans hp h.1, h.2⟩
theorem kidsW_fine {b : List UInt8} {rd : Nat → Rs I} (hr : ∀ p, p ≤ b.length → Fine b p (rd p)) : ∀ (n p : Nat), p ≤ b.length → Fine b p (kidsW rd n p)
  | 0, p, h => ⟨Nat.le_refl _, h⟩
  | n + 1, p, h => by
    have h1 := hr p h
    have h2 : ∀ q, q ≤ b.length → Fine b q (kidsW rd n q) := fun q hq => kidsW_fine hr n q hq
    simp only [kidsW]
    cases hR : rd p with
    | error e => rw [hR] at h1; exact h1
    | ok y =>
      obtain ⟨x, q⟩ := y
      rw [hR] at h1
      have h3 := h2 q h1.2
      show Fine b p (andKid x (kidsW rd n q))
      cases hK : kidsW rd n q with
      | error e => rw [hK] at h3; exact Fine.up (α := IL) (R := .error e) h3 h1.1
      | ok z => rw [hK] at h3; exact ⟨Nat.le_trans h1.1 h3.1, h3.2⟩
theorem withKids_fine {b : List UInt8} {p : Nat} {k : Int} {n : Nat} : ∀ {R : Rs IL}, Fine b p R → Fine b p (withKids k n R)
  | .error e, h => h
  | .ok (f, q), h => h
theorem rowQ_fine (b : List UInt8) (p q m n : Nat) (hp : p ≤ b.length) (hq : p ≤ q) : Fine b p (rowQ b p q m n) := by
  unfold rowQ
  (repeat' split)
  · exact ⟨by omega, hp, Nat.le_refl _⟩
  · exact ⟨by omega, by omega⟩
  · exact ⟨by omega, hp, Nat.le_refl _⟩
  · exact ⟨by omega, by omega⟩
theorem behQ_fine {rd : Nat → Rs I} (b : List UInt8) (p m low n q : Nat) (hr : ∀ p, p ≤ b.length → Fine b p (rd p)) (hp : p ≤ b.length) (hpq : p ≤ q) (hq : q ≤ b.length) : Fine b p (behQ rd b p m low n q) := by
  have hok : ∀ x : I, Fine b p (.ok (x, q) : Rs I) := fun x => ⟨hpq, hq⟩
  have her : Fine b p (.error (3, p) : Rs I) := ⟨by omega, hp, Nat.le_refl _⟩
  unfold behQ
  (repeat' split)
  all_goals first | exact hok _ | exact her | exact rowQ_fine b p q m n hp hpq | exact withKids_fine ((kidsW_fine hr _ _ hq).up hpq)
theorem readQ_fine (b : List UInt8) : ∀ d p, p ≤ b.length → Fine b p (readQ b d p)
  | 0, p, h => ⟨by omega, h, Nat.le_refl _⟩
  | d + 1, p, h => by
    simp only [readQ]
    (repeat' split)
    · exact ⟨by omega, h, Nat.le_refl _⟩
    · exact ⟨by omega, h, Nat.le_refl _⟩
    · exact ⟨by omega, h, Nat.le_refl _⟩
    · exact behQ_fine b p _ _ _ _ (readQ_fine b d) h (by omega) (by omega)

end Go.Proofs.Ytambhapgjonmmaa
