/- A number of JSON, place by place, plainly. No program in sight. -/
import Derived.Test.YtamhdoijmkjngaaLexB
namespace Go.Proofs.Ytamhdoijmkjngaa
set_option linter.unusedVariables false
set_option linter.unusedSimpArgs false

/-- Behind an exponent's sign; the end. -/
def lexE (l : List UInt8) (kind p : Nat) : Nat :=
  if atB l p 101 69 then
    let q := if atB l (p + 1) 43 45 then p + 2 else p + 1
    if digs (l.drop q) = 0 then 0 else if q + digs (l.drop q) = l.length then 2 else 0
  else if p = l.length then kind else 0
def lexF (l : List UInt8) (p : Nat) : Nat :=
  if atB l p 46 46 then (if digs (l.drop (p + 1)) = 0 then 0 else lexE l 2 (p + 1 + digs (l.drop (p + 1)))) else lexE l 1 p
/-- What a text is as a number, place by place. -/
def lexemeP (l : List UInt8) : Nat :=
  let p := if atB l 0 45 45 then 1 else 0
  if digs (l.drop p) = 0 ∨ (bAt l p = 48 ∧ 1 < digs (l.drop p)) then 0 else lexF l (p + digs (l.drop p))

theorem drop_cons (l : List UInt8) (p : Nat) (h : p < l.length) : l.drop p = l[p] :: l.drop (p + 1) := List.drop_eq_getElem_cons h

theorem u8_eq (c : UInt8) (k : Nat) (hk : k < 256) : c.toNat = k ↔ c = UInt8.ofNat k := by
  constructor
  · intro h; apply UInt8.toNat_inj.1; rw [h]; simp; omega
  · intro h; subst h; simp; omega

theorem atB_at (l : List UInt8) (p c d : Nat) (h : p < l.length) : atB l p c d = true ↔ ((l[p]).toNat = c ∨ (l[p]).toNat = d) := by
  unfold atB; rw [bAt_get l p h]; simp [h]
theorem atB_end (l : List UInt8) (p c d : Nat) (h : l.length ≤ p) : atB l p c d = false := by
  unfold atB; simp; intro; omega

/-- Digits alone, one or more. -/
def tlD (q : List UInt8) : Nat := if digs q = 0 then 0 else if digs q = q.length then 2 else 0
def expR (r : List UInt8) : List UInt8 := match r with | [] => [] | d :: q => if d = 43 ∨ d = 45 then q else d :: q
theorem lexExp_cons (kind : Nat) (c : UInt8) (r : List UInt8) (h : c = 101 ∨ c = 69) : lexExp kind (c :: r) = tlD (expR r) := by
  simp only [lexExp]
  rw [if_pos h]
  cases r <;> rfl
theorem tl_at (l : List UInt8) (q : Nat) (h : q ≤ l.length) : (if digs (l.drop q) = 0 then 0 else if q + digs (l.drop q) = l.length then 2 else 0) = tlD (l.drop q) := by
  have hl : (l.drop q).length = l.length - q := by rw [List.length_drop]
  have hg := digs_le (l.drop q)
  unfold tlD
  by_cases hz : digs (l.drop q) = 0
  · rw [if_pos hz, if_pos hz]
  · rw [if_neg hz, if_neg hz]
    by_cases hq : q + digs (l.drop q) = l.length
    · rw [if_pos hq, if_pos (by omega)]
    · rw [if_neg hq, if_neg (by omega)]

theorem lexE_eq (l : List UInt8) (kind p : Nat) (hp : p ≤ l.length) : lexE l kind p = lexExp kind (l.drop p) := by
  unfold lexE
  by_cases h : p < l.length
  · rw [drop_cons l p h]
    have e : (l[p] = 101 ∨ l[p] = 69) ↔ atB l p 101 69 = true := by
      rw [atB_at l p _ _ h, u8_eq _ 101 (by omega), u8_eq _ 69 (by omega)]; rfl
    by_cases hc : l[p] = 101 ∨ l[p] = 69
    · rw [if_pos (e.1 hc), lexExp_cons _ _ _ hc]
      by_cases h2 : p + 1 < l.length
      · have e2 : (l[p + 1] = 43 ∨ l[p + 1] = 45) ↔ atB l (p + 1) 43 45 = true := by
          rw [atB_at l (p + 1) _ _ h2, u8_eq _ 43 (by omega), u8_eq _ 45 (by omega)]; rfl
        by_cases hd' : l[p + 1] = 43 ∨ l[p + 1] = 45
        · have hr : expR (l.drop (p + 1)) = l.drop (p + 2) := by rw [drop_cons l (p + 1) h2]; simp only [expR]; rw [if_pos hd']
          rw [if_pos (e2.1 hd'), hr]
          exact tl_at l (p + 2) (by omega)
        · have hr : expR (l.drop (p + 1)) = l.drop (p + 1) := by rw [drop_cons l (p + 1) h2]; simp only [expR]; rw [if_neg hd']
          rw [if_neg (fun x => hd' (e2.2 x)), hr]
          exact tl_at l (p + 1) (by omega)
      · rw [atB_end l (p + 1) _ _ (by omega)]
        have hnil : l.drop (p + 1) = [] := List.drop_of_length_le (by omega)
        simp only [Bool.false_eq_true, if_false, hnil]
        rfl
    · rw [if_neg (fun x => hc (e.2 x)), if_neg (by omega)]
      simp only [lexExp]
      rw [if_neg hc]
  · have hnil : l.drop p = [] := List.drop_of_length_le (by omega)
    rw [atB_end l p _ _ (by omega), hnil]
    simp only [Bool.false_eq_true, if_false, lexExp]
    rw [if_pos (by omega)]

theorem lexF_eq (l : List UInt8) (p : Nat) (hp : p ≤ l.length) : lexF l p = lexFrac (l.drop p) := by
  unfold lexF
  by_cases h : p < l.length
  · have hx := lexE_eq l 1 p hp
    rw [drop_cons l p h] at hx ⊢
    simp only [lexFrac]
    have e : (l[p] = 46) ↔ atB l p 46 46 = true := by
      rw [atB_at l p _ _ h, u8_eq _ 46 (by omega)]; simp
    by_cases hc : l[p] = 46
    · rw [if_pos (e.1 hc), if_pos hc]
      have hg := digs_le (l.drop (p + 1))
      rw [List.length_drop] at hg
      by_cases hz : digs (l.drop (p + 1)) = 0
      · rw [if_pos hz, if_pos hz]
      · rw [if_neg hz, if_neg hz, lexE_eq l 2 _ (by omega), List.drop_drop]
    · rw [if_neg (fun x => hc (e.2 x)), if_neg hc, hx]
  · have hnil : l.drop p = [] := List.drop_of_length_le (by omega)
    have hx := lexE_eq l 1 p hp
    rw [atB_end l p _ _ (by omega)]
    simp only [Bool.false_eq_true, if_false]
    rw [hx, hnil]
    rfl

theorem lexemeP_eq (l : List UInt8) : lexemeP l = lexeme l := by
  have key : ∀ p, p ≤ l.length → (if digs (l.drop p) = 0 ∨ (bAt l p = 48 ∧ 1 < digs (l.drop p)) then 0 else lexF l (p + digs (l.drop p))) = (if digs (l.drop p) = 0 ∨ (hd (l.drop p) = 48 ∧ 1 < digs (l.drop p)) then 0 else lexFrac ((l.drop p).drop (digs (l.drop p)))) := by
    intro p hp
    have hg := digs_le (l.drop p)
    rw [List.length_drop] at hg
    by_cases hz : digs (l.drop p) = 0
    · rw [if_pos (.inl hz), if_pos (.inl hz)]
    · have hpl : p < l.length := by omega
      have e : (bAt l p = 48) ↔ hd (l.drop p) = 48 := by
        rw [bAt_get l p hpl, drop_cons l p hpl, u8_eq _ 48 (by omega)]; rfl
      rw [lexF_eq l _ (by omega), List.drop_drop]
      simp only [e]
  unfold lexemeP lexeme
  cases l with
  | nil => rfl
  | cons c r =>
    have e : (c = 45) ↔ atB (c :: r) 0 45 45 = true := by
      rw [atB_at (c :: r) 0 _ _ (by simp)]; simp only [List.getElem_cons_zero]; rw [u8_eq _ 45 (by omega)]; simp
    simp only
    by_cases hc : c = 45
    · rw [if_pos (e.1 hc), if_pos hc]
      exact key 1 (by simp)
    · rw [if_neg (fun x => hc (e.2 x)), if_neg hc]
      exact key 0 (by simp)

end Go.Proofs.Ytamhdoijmkjngaa
