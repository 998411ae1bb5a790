/- utf, plainly: the character at a place, how far bytes are whole, what is put. No program in sight. -/
import Derived.Test.YtambhapgjonmmaaUtf1
namespace Go.Proofs.Ytambhapgjonmmaa
set_option linter.unusedVariables false
set_option linter.unusedSimpArgs false

/-- k bytes more, from a place on; none: one of them is no such byte. -/
def tails (l : List UInt8) : Nat → Nat → Nat → Option Nat
  | 0, _, r => some r
  | k + 1, p, r => if 128 ≤ bAt l p ∧ bAt l p < 192 then tails l k (p + 1) (r * 64 + (bAt l p - 128)) else none

/-- What is told in the end. -/
def fin (t : Option Nat) (n least : Nat) : Nat × Nat :=
  match t with
  | none => (0, 0)
  | some x => if x < least ∨ isCh x = false then (0, 0) else (x, n)

/-- The character behind a first byte that asks for more. -/
def more (l : List UInt8) (p n r least : Nat) : Nat × Nat :=
  if l.length < p + n then (0, 0) else fin (tails l (n - 1) (p + 1) r) n least

/-- The character at a place, and how many bytes it has; (0, 0): none. -/
def runeAt (l : List UInt8) (p : Nat) : Nat × Nat :=
  if l.length ≤ p then (0, 0)
  else if bAt l p < 128 then (bAt l p, 1)
  else if bAt l p < 192 then (0, 0)
  else if bAt l p < 224 then more l p 2 (bAt l p - 192) 128
  else if bAt l p < 240 then more l p 3 (bAt l p - 224) 2048
  else if bAt l p < 248 then more l p 4 (bAt l p - 240) 65536
  else (0, 0)

theorem bAt_append_left (a b : List UInt8) (i : Nat) (h : i < a.length) : bAt (a ++ b) i = bAt a i := by
  unfold bAt; simp [List.getD, List.getElem?_append_left h]

theorem bAt_append_right (a b : List UInt8) (i : Nat) : bAt (a ++ b) (a.length + i) = bAt b i := by
  unfold bAt; simp [List.getD, List.getElem?_append_right]

theorem tails_left (a b : List UInt8) : ∀ (k p r : Nat), p + k ≤ a.length → tails (a ++ b) k p r = tails a k p r
  | 0, p, r, _ => rfl
  | k + 1, p, r, h => by
    rw [tails, tails, bAt_append_left a b p (by omega), tails_left a b k (p + 1) _ (by omega)]

theorem tails_right (a b : List UInt8) : ∀ (k p r : Nat), tails (a ++ b) k (a.length + p) r = tails b k p r
  | 0, p, r => rfl
  | k + 1, p, r => by
    rw [tails, tails, bAt_append_right a b p, Nat.add_assoc, tails_right a b k (p + 1) _]

theorem fin_snd (t : Option Nat) (n least : Nat) : (fin t n least).2 = 0 ∨ (fin t n least).2 = n := by
  unfold fin; split
  · exact .inl rfl
  · split
    · exact .inl rfl
    · exact .inr rfl

theorem more_right (a b : List UInt8) (p n r least : Nat) : more (a ++ b) (a.length + p) n r least = more b p n r least := by
  unfold more
  rw [Nat.add_assoc a.length p 1, tails_right]
  by_cases h : b.length < p + n
  · rw [if_pos h, if_pos (by simp; omega)]
  · rw [if_neg h, if_neg (by simp; omega)]

theorem more_left (a b : List UInt8) (p n r least : Nat) (h1 : 1 ≤ n) (h : (more a p n r least).2 ≠ 0) : more (a ++ b) p n r least = more a p n r least := by
  unfold more at h ⊢
  by_cases h2 : a.length < p + n
  · rw [if_pos h2] at h; exact absurd rfl h
  · rw [if_neg h2, if_neg (by simp; omega), tails_left a b _ _ _ (by omega)]

theorem runeAt_right (a b : List UInt8) (p : Nat) : runeAt (a ++ b) (a.length + p) = runeAt b p := by
  unfold runeAt
  rw [bAt_append_right, more_right, more_right, more_right]
  by_cases h : b.length ≤ p
  · rw [if_pos h, if_pos (by simp; omega)]
  · rw [if_neg h, if_neg (by simp; omega)]

theorem runeAt_left (a b : List UInt8) (p : Nat) (h : (runeAt a p).2 ≠ 0) : runeAt (a ++ b) p = runeAt a p := by
  unfold runeAt at h ⊢
  by_cases h0 : a.length ≤ p
  · rw [if_pos h0] at h; exact absurd rfl h
  · rw [if_neg h0] at h ⊢
    rw [if_neg (by simp; omega), bAt_append_left a b p (by omega)]
    by_cases h1 : bAt a p < 128
    · rw [if_pos h1, if_pos h1]
    rw [if_neg h1] at h ⊢
    rw [if_neg h1]
    by_cases h2 : bAt a p < 192
    · rw [if_pos h2, if_pos h2]
    rw [if_neg h2] at h ⊢
    rw [if_neg h2]
    by_cases h3 : bAt a p < 224
    · rw [if_pos h3] at h ⊢
      rw [if_pos h3]; exact more_left a b p 2 _ _ (by omega) h
    rw [if_neg h3] at h ⊢
    rw [if_neg h3]
    by_cases h4 : bAt a p < 240
    · rw [if_pos h4] at h ⊢
      rw [if_pos h4]; exact more_left a b p 3 _ _ (by omega) h
    rw [if_neg h4] at h ⊢
    rw [if_neg h4]
    by_cases h5 : bAt a p < 248
    · rw [if_pos h5] at h ⊢
      rw [if_pos h5]; exact more_left a b p 4 _ _ (by omega) h
    rw [if_neg h5, if_neg h5]

theorem fin_fst (t : Option Nat) (n least : Nat) : (fin t n least).1 ≤ 1114111 := by
  unfold fin; split
  · simp
  · split
    · simp
    · rename_i x h; simp [isCh] at h; simp only; omega

theorem more_bd (l : List UInt8) (p n r least : Nat) (hp : p < l.length) : (more l p n r least).1 ≤ 1114111 ∧ (more l p n r least).2 ≤ n ∧ p + (more l p n r least).2 ≤ l.length := by
  unfold more
  by_cases h : l.length < p + n
  · rw [if_pos h]; refine ⟨by simp, by simp, by simp; omega⟩
  · rw [if_neg h]
    have h1 := fin_fst (tails l (n - 1) (p + 1) r) n least
    have h2 := fin_snd (tails l (n - 1) (p + 1) r) n least
    refine ⟨h1, by omega, by omega⟩

theorem runeAt_bd (l : List UInt8) (p : Nat) : (runeAt l p).1 ≤ 1114111 ∧ (runeAt l p).2 ≤ 4 ∧ (p ≤ l.length → p + (runeAt l p).2 ≤ l.length) := by
  unfold runeAt
  by_cases h0 : l.length ≤ p
  · rw [if_pos h0]; exact ⟨by simp, by simp, fun h => by simpa using h⟩
  rw [if_neg h0]
  by_cases h1 : bAt l p < 128
  · rw [if_pos h1]; exact ⟨by simp; omega, by simp, fun h => by simp; omega⟩
  rw [if_neg h1]
  by_cases h2 : bAt l p < 192
  · rw [if_pos h2]; exact ⟨by simp, by simp, fun h => by simp; omega⟩
  rw [if_neg h2]
  have m2 := more_bd l p 2 (bAt l p - 192) 128 (by omega)
  have m3 := more_bd l p 3 (bAt l p - 224) 2048 (by omega)
  have m4 := more_bd l p 4 (bAt l p - 240) 65536 (by omega)
  by_cases h3 : bAt l p < 224
  · rw [if_pos h3]; exact ⟨m2.1, by omega, fun _ => m2.2.2⟩
  rw [if_neg h3]
  by_cases h4 : bAt l p < 240
  · rw [if_pos h4]; exact ⟨m3.1, by omega, fun _ => m3.2.2⟩
  rw [if_neg h4]
  by_cases h5 : bAt l p < 248
  · rw [if_pos h5]; exact ⟨m4.1, by omega, fun _ => m4.2.2⟩
  rw [if_neg h5]; exact ⟨by simp, by simp, fun h => by simpa using h⟩

/-- How far from a place on the bytes are whole, and how many characters that are. -/
def lookAt (l : List UInt8) : Nat → Nat → Nat → Nat × Nat
  | 0, p, c => (p, c)
  | f + 1, p, c => if p < l.length ∧ (runeAt l p).2 ≠ 0 then lookAt l f (p + (runeAt l p).2) (c + 1) else (p, c)

def wholeTo (l : List UInt8) : Nat := (lookAt l l.length 0 0).1
def chars (l : List UInt8) : Nat := (lookAt l l.length 0 0).2

theorem lookAt_more (l : List UInt8) : ∀ (f g p c : Nat), l.length ≤ p + f → l.length ≤ p + g → lookAt l f p c = lookAt l g p c
  | 0, 0, p, c, _, _ => rfl
  | 0, g + 1, p, c, h, _ => by rw [lookAt, lookAt, if_neg (by omega)]
  | f + 1, 0, p, c, _, h => by rw [lookAt, lookAt, if_neg (by omega)]
  | f + 1, g + 1, p, c, h1, h2 => by
    rw [lookAt, lookAt]
    by_cases h : p < l.length ∧ (runeAt l p).2 ≠ 0
    · rw [if_pos h, if_pos h, lookAt_more l f g _ _ (by omega) (by omega)]
    · rw [if_neg h, if_neg h]

theorem lookAt_bd (l : List UInt8) : ∀ (f p c : Nat), p ≤ l.length → c ≤ p → (lookAt l f p c).1 ≤ l.length ∧ (lookAt l f p c).2 ≤ (lookAt l f p c).1
  | 0, p, c, h, h2 => ⟨h, h2⟩
  | f + 1, p, c, h, h2 => by
    rw [lookAt]
    by_cases h3 : p < l.length ∧ (runeAt l p).2 ≠ 0
    · rw [if_pos h3]
      have := (runeAt_bd l p).2.2 h
      exact lookAt_bd l f _ _ this (by omega)
    · rw [if_neg h3]; exact ⟨h, h2⟩

theorem wholeTo_le (l : List UInt8) : wholeTo l ≤ l.length := (lookAt_bd l _ 0 0 (by omega) (by omega)).1
theorem chars_le (l : List UInt8) : chars l ≤ wholeTo l := (lookAt_bd l _ 0 0 (by omega) (by omega)).2

theorem lookAt_right (a b : List UInt8) : ∀ (f p c d : Nat), lookAt (a ++ b) f (a.length + p) (d + c) = (a.length + (lookAt b f p c).1, d + (lookAt b f p c).2)
  | 0, p, c, d => rfl
  | f + 1, p, c, d => by
    rw [lookAt, lookAt, runeAt_right]
    by_cases h : p < b.length ∧ (runeAt b p).2 ≠ 0
    · rw [if_pos (by simpa using h), if_pos h, Nat.add_assoc a.length, Nat.add_assoc d]
      exact lookAt_right a b f _ _ d
    · rw [if_neg (by simpa using h), if_neg h]

theorem lookAt_left (a b : List UInt8) : ∀ (f p c : Nat), a.length ≤ p + f → (lookAt a f p c).1 = a.length → ∀ g, (a ++ b).length ≤ p + g →
    lookAt (a ++ b) g p c = lookAt (a ++ b) b.length a.length (lookAt a f p c).2
  | 0, p, c, h, h1, g, hg => by
    rw [lookAt] at h1 ⊢
    simp only at h1 ⊢
    subst h1
    exact lookAt_more _ _ _ _ _ hg (by simp)
  | f + 1, p, c, h, h1, g, hg => by
    rw [lookAt] at h1 ⊢
    by_cases h3 : p < a.length ∧ (runeAt a p).2 ≠ 0
    · rw [if_pos h3] at h1 ⊢
      match g, hg with
      | 0, hg => simp at hg; omega
      | g + 1, hg =>
        rw [lookAt, runeAt_left a b p h3.2, if_pos ⟨by simp; omega, h3.2⟩]
        exact lookAt_left a b f _ _ (by omega) h1 g (by omega)
    · rw [if_neg h3] at h1 ⊢
      simp only at h1 ⊢
      subst h1
      exact lookAt_more _ _ _ _ _ hg (by simp)

theorem look_join (a b : List UInt8) (h : wholeTo a = a.length) : wholeTo (a ++ b) = a.length + wholeTo b ∧ chars (a ++ b) = chars a + chars b := by
  have h1 := lookAt_left a b a.length 0 0 (by omega) h (a ++ b).length (by omega)
  have h2 := lookAt_right a b b.length 0 0 (lookAt a a.length 0 0).2
  simp only [Nat.add_zero] at h2
  unfold wholeTo chars
  rw [h1, h2]
  exact ⟨rfl, rfl⟩

/-- A character's bytes. -/
def putL (r : Nat) : List UInt8 :=
  if r < 128 then [UInt8.ofNat r] else if r < 2048 then [UInt8.ofNat (192 + r / 64), UInt8.ofNat (128 + r % 64)]
  else if r < 65536 then [UInt8.ofNat (224 + r / 4096), UInt8.ofNat (128 + r / 64 % 64), UInt8.ofNat (128 + r % 64)]
  else [UInt8.ofNat (240 + r / 262144), UInt8.ofNat (128 + r / 4096 % 64), UInt8.ofNat (128 + r / 64 % 64), UInt8.ofNat (128 + r % 64)]

theorem bAt_zero (x : UInt8) (l : List UInt8) : bAt (x :: l) 0 = x.toNat := rfl
theorem bAt_succ (x : UInt8) (l : List UInt8) (i : Nat) : bAt (x :: l) (i + 1) = bAt l i := rfl

theorem ofNat_lt (n : Nat) (h : n < 256) : (UInt8.ofNat n).toNat = n := by simp; omega

theorem putL_len (r : Nat) : 1 ≤ (putL r).length ∧ (putL r).length ≤ 4 := by
  unfold putL
  split
  · simp
  split
  · simp
  split <;> simp

theorem tails_step (l : List UInt8) (k p r v : Nat) (h : bAt l p = v) (h1 : 128 ≤ v) (h2 : v < 192) : tails l (k + 1) p r = tails l k (p + 1) (r * 64 + (v - 128)) := by
  rw [tails, h, if_pos ⟨h1, h2⟩]

theorem rune_put (r : Nat) (h : isCh r = true) : runeAt (putL r) 0 = (r, (putL r).length) := by
  have h0 : r ≤ 1114111 ∧ (r < 55296 ∨ 57343 < r) := by simp [isCh] at h; omega
  unfold putL
  by_cases h1 : r < 128
  · rw [if_pos h1]
    unfold runeAt
    rw [bAt_zero, ofNat_lt _ (by omega), if_neg (by simp), if_pos h1]
    rfl
  rw [if_neg h1]
  by_cases h2 : r < 2048
  · rw [if_pos h2]
    unfold runeAt
    have e : r / 64 * 64 + r % 64 = r := by omega
    rw [bAt_zero, ofNat_lt _ (by omega), if_neg (by simp), if_neg (by omega), if_neg (by omega), if_pos (by omega)]
    unfold more
    rw [if_neg (by simp)]
    rw [tails_step _ 0 1 _ (128 + r % 64)]
    simp only [tails, fin]
    rw [show 192 + r / 64 - 192 = r / 64 by omega, show 128 + r % 64 - 128 = r % 64 by omega, e, if_neg (by rw [h]; simp; omega)]
    rfl
    all_goals first | exact ofNat_lt _ (by omega) | omega
  rw [if_neg h2]
  by_cases h3 : r < 65536
  · rw [if_pos h3]
    unfold runeAt
    have e : (r / 4096 * 64 + r / 64 % 64) * 64 + r % 64 = r := by omega
    rw [bAt_zero, ofNat_lt _ (by omega), if_neg (by simp), if_neg (by omega), if_neg (by omega), if_neg (by omega), if_pos (by omega)]
    unfold more
    rw [if_neg (by simp)]
    rw [tails_step _ 1 1 _ (128 + r / 64 % 64), tails_step _ 0 2 _ (128 + r % 64)]
    simp only [tails, fin]
    rw [show 224 + r / 4096 - 224 = r / 4096 by omega, show 128 + r / 64 % 64 - 128 = r / 64 % 64 by omega, show 128 + r % 64 - 128 = r % 64 by omega, e, if_neg (by rw [h]; simp; omega)]
    rfl
    all_goals first | exact ofNat_lt _ (by omega) | omega
  rw [if_neg h3]
  unfold runeAt
  have e : ((r / 262144 * 64 + r / 4096 % 64) * 64 + r / 64 % 64) * 64 + r % 64 = r := by omega
  rw [bAt_zero, ofNat_lt _ (by omega), if_neg (by simp), if_neg (by omega), if_neg (by omega), if_neg (by omega), if_neg (by omega), if_pos (by omega)]
  unfold more
  rw [if_neg (by simp)]
  rw [tails_step _ 2 1 _ (128 + r / 4096 % 64), tails_step _ 1 2 _ (128 + r / 64 % 64), tails_step _ 0 3 _ (128 + r % 64)]
  simp only [tails, fin]
  rw [show 240 + r / 262144 - 240 = r / 262144 by omega, show 128 + r / 4096 % 64 - 128 = r / 4096 % 64 by omega, show 128 + r / 64 % 64 - 128 = r / 64 % 64 by omega, show 128 + r % 64 - 128 = r % 64 by omega, e, if_neg (by rw [h]; simp; omega)]
  rfl
  all_goals first | exact ofNat_lt _ (by omega) | omega

theorem look_put (r : Nat) (h : isCh r = true) : wholeTo (putL r) = (putL r).length ∧ chars (putL r) = 1 := by
  have h1 := rune_put r h
  have h2 := putL_len r
  have e : lookAt (putL r) (putL r).length 0 0 = ((putL r).length, 1) := by
    rw [lookAt_more (putL r) _ ((putL r).length + 1) 0 0 (by omega) (by omega), lookAt, h1, if_pos ⟨by omega, by simp only; omega⟩]
    obtain ⟨n, hn⟩ : ∃ n, (putL r).length = n + 1 := ⟨(putL r).length - 1, by omega⟩
    simp only [Nat.zero_add]
    generalize hg : (putL r).length = g at *
    rw [lookAt_more (putL r) g 0 g 1 (by omega) (by omega)]
    rfl
  unfold wholeTo chars
  rw [e]
  exact ⟨rfl, rfl⟩

/-- The bytes of characters, one behind the other. -/
def puts (l : List Nat) : List UInt8 := (l.map putL).flatten

theorem puts_snoc (l : List Nat) (r : Nat) : puts (l ++ [r]) = puts l ++ putL r := by simp [puts]

theorem look_puts (l : List Nat) (h : ∀ r ∈ l, isCh (r : Nat) = true) : wholeTo (puts l) = (puts l).length ∧ chars (puts l) = l.length := by
  induction l with
  | nil => exact ⟨rfl, rfl⟩
  | cons r l ih =>
    have h1 := look_put r (h r (by simp))
    have h2 := ih fun x hx => h x (by simp [hx])
    have h3 := look_join (putL r) (puts l) h1.1
    have e : puts (r :: l) = putL r ++ puts l := by simp [puts]
    rw [e, h3.1, h3.2, h2.1, h2.2, h1.2]
    simp
    omega

theorem puts_append (a b : List Nat) : puts (a ++ b) = puts a ++ puts b := by simp [puts]
theorem puts_cons (r : Nat) (l : List Nat) : puts (r :: l) = putL r ++ puts l := by simp [puts]

/-- The k-th character is told behind those ahead of it. -/
theorem rune_puts (l : List Nat) (h : ∀ r ∈ l, isCh (r : Nat) = true) (k : Nat) (hk : k < l.length) : runeAt (puts l) (puts (l.take k)).length = (l[k], (putL l[k]).length) := by
  have e : l = l.take k ++ (l[k] :: l.drop (k + 1)) := by rw [← List.drop_eq_getElem_cons hk, List.take_append_drop]
  have e2 : puts l = puts (l.take k) ++ (putL l[k] ++ puts (l.drop (k + 1))) := by
    rw [← puts_cons, ← puts_append, ← e]
  have h1 := rune_put l[k] (h _ (List.getElem_mem hk))
  have hl := putL_len l[k]
  generalize hP : puts (l.take k) = P at e2 ⊢
  rw [e2]
  have := runeAt_right P (putL l[k] ++ puts (l.drop (k + 1))) 0
  simp only [Nat.add_zero] at this
  rw [this, runeAt_left _ _ _ (by rw [h1]; simp only; omega), h1]

theorem tails_snoc (l : List UInt8) : ∀ (k p r x : Nat), tails l k p r = some x → tails l (k + 1) p r = if 128 ≤ bAt l (p + k) ∧ bAt l (p + k) < 192 then some (x * 64 + (bAt l (p + k) - 128)) else none
  | 0, p, r, x, h => by
    simp only [tails, Option.some.injEq] at h
    subst h
    simp [tails]
  | k + 1, p, r, x, h => by
    rw [tails] at h
    split at h
    · rename_i hc
      rw [tails, if_pos hc, tails_snoc l k (p + 1) _ x h]
      rw [show p + 1 + k = p + (k + 1) from by omega]
    · simp at h

theorem tails_none (l : List UInt8) : ∀ (k m p r : Nat), tails l k p r = none → tails l (k + m) p r = none
  | 0, m, p, r, h => by simp [tails] at h
  | k + 1, m, p, r, h => by
    rw [show k + 1 + m = k + m + 1 from by omega, tails]
    rw [tails] at h
    split at h
    · rename_i hc
      rw [if_pos hc]
      exact tails_none l k m (p + 1) _ h
    · rename_i hc
      rw [if_neg hc]

end Go.Proofs.Ytambhapgjonmmaa
