/- utf: may a number be a character? utf, plainly: the character at a place, how far bytes are whole, what is put. No program in sight. The lexer of JSON, plainly; what is quoted is told as it was. No program in sight. A text's bytes. No program in sight. A text made bytes. The reference's Rune, walked. The reference's Rune at more bytes than one, walked. A scope in which the run jumps to several labels: what holds at each jump, and a measure. No program in sight. The program's Rune: what it does at its labels. The program's Rune, walked. The program's Rune: its contract. Check of both, walked. -/
import Derived.Test.YtkcfkdmffbhljaaMA
import Derived.Laws.IdiomStrings
import Derived.Scope
import Derived.ScopeJumps
import Derived.Laws.BitsAllLaws
namespace Go.Proofs.Ytkcfkdmffbhljaa
open Go.RowKit
set_option linter.unusedVariables false
set_option linter.unusedSimpArgs false

def isCh (r : Int) : Bool := decide (0 ≤ r ∧ r ≤ 1114111 ∧ (r < 55296 ∨ 57343 < r))

set_option maxRecDepth 100000 in
set_option maxHeartbeats 1000000 in
theorem is_calls (r : Int) (w : World) : Calls Try.prog 107 #[.int .i64 r] w fun e w' => e = .returned (.bool (isCh r)) ∧ w = w' := by
  have hv : r < 0 ∨ (0 ≤ r ∧ r < 55296) ∨ (55296 ≤ r ∧ r ≤ 57343) ∨ (57343 < r ∧ r ≤ 1114111) ∨ 1114111 < r := by omega
  rcases hv with h | ⟨h, h'⟩ | ⟨h, h'⟩ | ⟨h, h'⟩ | h
  · have e : isCh r = false := by unfold isCh; simp; omega
    rw [e]; clear e
    have d : decide (0 ≤ r) = false := by simp; omega
    go_enter Try.func107, Try.ntmps107
    go_wp2
    go_ret
    exact ⟨rfl, rfl⟩
  · have e : isCh r = true := by unfold isCh; simp; omega
    rw [e]; clear e
    go_enter Try.func107, Try.ntmps107
    go_wp2
    go_ret
    exact ⟨rfl, rfl⟩
  · have e : isCh r = false := by unfold isCh; simp; omega
    rw [e]; clear e
    have d : decide (r < 55296) = false := by simp; omega
    have d2 : decide (57343 < r) = false := by simp; omega
    go_enter Try.func107, Try.ntmps107
    go_wp2
    go_ret
    exact ⟨rfl, rfl⟩
  · have e : isCh r = true := by unfold isCh; simp; omega
    rw [e]; clear e
    have d : decide (r < 55296) = false := by simp; omega
    go_enter Try.func107, Try.ntmps107
    go_wp2
    go_ret
    exact ⟨rfl, rfl⟩
  · have e : isCh r = false := by unfold isCh; simp; omega
    rw [e]; clear e
    have d : decide (r ≤ 1114111) = false := by simp; omega
    go_enter Try.func107, Try.ntmps107
    go_wp2
    go_ret
    exact ⟨rfl, rfl⟩

end Go.Proofs.Ytkcfkdmffbhljaa

namespace Go.Proofs.Ytkcfkdmffbhljaa
set_option linter.unusedVariables false
set_option linter.unusedSimpArgs false

/-- k bytes more, from a place on; none: one of them is no such byte. -/
def tails (l : List UInt8) : Nat → Nat → Nat → Option Nat
  | 0, _, r => some r
  | k + 1, p, r => if 128 ≤ bAt l p ∧ bAt l p < 192 then tails l k (p + 1) (r * 64 + (bAt l p - 128)) else none

/-- What is told in the end. -/
def fin (t : Option Nat) (n least : Nat) : Nat × Nat :=
  match t with
  | none => (0, 0)
  | some x => if x < least ∨ isCh x = false then (0, 0) else (x, n)

/-- The character behind a first byte that asks for more. -/
def more (l : List UInt8) (p n r least : Nat) : Nat × Nat :=
  if l.length < p + n then (0, 0) else fin (tails l (n - 1) (p + 1) r) n least

/-- The character at a place, and how many bytes it has; (0, 0): none. -/
def runeAt (l : List UInt8) (p : Nat) : Nat × Nat :=
  if l.length ≤ p then (0, 0)
  else if bAt l p < 128 then (bAt l p, 1)
  else if bAt l p < 192 then (0, 0)
  else if bAt l p < 224 then more l p 2 (bAt l p - 192) 128
  else if bAt l p < 240 then more l p 3 (bAt l p - 224) 2048
  else if bAt l p < 248 then more l p 4 (bAt l p - 240) 65536
  else (0, 0)

theorem bAt_append_left (a b : List UInt8) (i : Nat) (h : i < a.length) : bAt (a ++ b) i = bAt a i := by
  unfold bAt; simp [List.getD, List.getElem?_append_left h]

theorem bAt_append_right (a b : List UInt8) (i : Nat) : bAt (a ++ b) (a.length + i) = bAt b i := by
  unfold bAt; simp [List.getD, List.getElem?_append_right]

theorem tails_left (a b : List UInt8) : ∀ (k p r : Nat), p + k ≤ a.length → tails (a ++ b) k p r = tails a k p r
  | 0, p, r, _ => rfl
  | k + 1, p, r, h => by
    rw [tails, tails, bAt_append_left a b p (by omega), tails_left a b k (p + 1) _ (by omega)]

theorem tails_right (a b : List UInt8) : ∀ (k p r : Nat), tails (a ++ b) k (a.length + p) r = tails b k p r
  | 0, p, r => rfl
  | k + 1, p, r => by
    rw [tails, tails, bAt_append_right a b p, Nat.add_assoc, tails_right a b k (p + 1) _]

theorem fin_snd (t : Option Nat) (n least : Nat) : (fin t n least).2 = 0 ∨ (fin t n least).2 = n := by
  unfold fin; split
  · exact .inl rfl
  · split
    · exact .inl rfl
    · exact .inr rfl

theorem more_right (a b : List UInt8) (p n r least : Nat) : more (a ++ b) (a.length + p) n r least = more b p n r least := by
  unfold more
  rw [Nat.add_assoc a.length p 1, tails_right]
  by_cases h : b.length < p + n
  · rw [if_pos h, if_pos (by simp; omega)]
  · rw [if_neg h, if_neg (by simp; omega)]

theorem more_left (a b : List UInt8) (p n r least : Nat) (h1 : 1 ≤ n) (h : (more a p n r least).2 ≠ 0) : more (a ++ b) p n r least = more a p n r least := by
  unfold more at h ⊢
  by_cases h2 : a.length < p + n
  · rw [if_pos h2] at h; exact absurd rfl h
  · rw [if_neg h2, if_neg (by simp; omega), tails_left a b _ _ _ (by omega)]

theorem runeAt_right (a b : List UInt8) (p : Nat) : runeAt (a ++ b) (a.length + p) = runeAt b p := by
  unfold runeAt
  rw [bAt_append_right, more_right, more_right, more_right]
  by_cases h : b.length ≤ p
  · rw [if_pos h, if_pos (by simp; omega)]
  · rw [if_neg h, if_neg (by simp; omega)]

theorem runeAt_left (a b : List UInt8) (p : Nat) (h : (runeAt a p).2 ≠ 0) : runeAt (a ++ b) p = runeAt a p := by
  unfold runeAt at h ⊢
  by_cases h0 : a.length ≤ p
  · rw [if_pos h0] at h; exact absurd rfl h
  · rw [if_neg h0] at h ⊢
    rw [if_neg (by simp; omega), bAt_append_left a b p (by omega)]
    by_cases h1 : bAt a p < 128
    · rw [if_pos h1, if_pos h1]
    rw [if_neg h1] at h ⊢
    rw [if_neg h1]
    by_cases h2 : bAt a p < 192
    · rw [if_pos h2, if_pos h2]
    rw [if_neg h2] at h ⊢
    rw [if_neg h2]
    by_cases h3 : bAt a p < 224
    · rw [if_pos h3] at h ⊢
      rw [if_pos h3]; exact more_left a b p 2 _ _ (by omega) h
    rw [if_neg h3] at h ⊢
    rw [if_neg h3]
    by_cases h4 : bAt a p < 240
    · rw [if_pos h4] at h ⊢
      rw [if_pos h4]; exact more_left a b p 3 _ _ (by omega) h
    rw [if_neg h4] at h ⊢
    rw [if_neg h4]
    by_cases h5 : bAt a p < 248
    · rw [if_pos h5] at h ⊢
      rw [if_pos h5]; exact more_left a b p 4 _ _ (by omega) h
    rw [if_neg h5, if_neg h5]

theorem fin_fst (t : Option Nat) (n least : Nat) : (fin t n least).1 ≤ 1114111 := by
  unfold fin; split
  · simp
  · split
    · simp
    · rename_i x h; simp [isCh] at h; simp only; omega

theorem more_bd (l : List UInt8) (p n r least : Nat) (hp : p < l.length) : (more l p n r least).1 ≤ 1114111 ∧ (more l p n r least).2 ≤ n ∧ p + (more l p n r least).2 ≤ l.length := by
  unfold more
  by_cases h : l.length < p + n
  · rw [if_pos h]; refine ⟨by simp, by simp, by simp; omega⟩
  · rw [if_neg h]
    have h1 := fin_fst (tails l (n - 1) (p + 1) r) n least
    have h2 := fin_snd (tails l (n - 1) (p + 1) r) n least
    refine ⟨h1, by omega, by omega⟩

theorem runeAt_bd (l : List UInt8) (p : Nat) : (runeAt l p).1 ≤ 1114111 ∧ (runeAt l p).2 ≤ 4 ∧ (p ≤ l.length → p + (runeAt l p).2 ≤ l.length) := by
  unfold runeAt
  by_cases h0 : l.length ≤ p
  · rw [if_pos h0]; exact ⟨by simp, by simp, fun h => by simpa using h⟩
  rw [if_neg h0]
  by_cases h1 : bAt l p < 128
  · rw [if_pos h1]; exact ⟨by simp; omega, by simp, fun h => by simp; omega⟩
  rw [if_neg h1]
  by_cases h2 : bAt l p < 192
  · rw [if_pos h2]; exact ⟨by simp, by simp, fun h => by simp; omega⟩
  rw [if_neg h2]
  have m2 := more_bd l p 2 (bAt l p - 192) 128 (by omega)
  have m3 := more_bd l p 3 (bAt l p - 224) 2048 (by omega)
  have m4 := more_bd l p 4 (bAt l p - 240) 65536 (by omega)
  by_cases h3 : bAt l p < 224
  · rw [if_pos h3]; exact ⟨m2.1, by omega, fun _ => m2.2.2⟩
  rw [if_neg h3]
  by_cases h4 : bAt l p < 240
  · rw [if_pos h4]; exact ⟨m3.1, by omega, fun _ => m3.2.2⟩
  rw [if_neg h4]
  by_cases h5 : bAt l p < 248
  · rw [if_pos h5]; exact ⟨m4.1, by omega, fun _ => m4.2.2⟩
  rw [if_neg h5]; exact ⟨by simp, by simp, fun h => by simpa using h⟩

/-- How far from a place on the bytes are whole, and how many characters that are. -/
def lookAt (l : List UInt8) : Nat → Nat → Nat → Nat × Nat
  | 0, p, c => (p, c)
  | f + 1, p, c => if p < l.length ∧ (runeAt l p).2 ≠ 0 then lookAt l f (p + (runeAt l p).2) (c + 1) else (p, c)

def wholeTo (l : List UInt8) : Nat := (lookAt l l.length 0 0).1
def chars (l : List UInt8) : Nat := (lookAt l l.length 0 0).2

theorem lookAt_more (l : List UInt8) : ∀ (f g p c : Nat), l.length ≤ p + f → l.length ≤ p + g → lookAt l f p c = lookAt l g p c
  | 0, 0, p, c, _, _ => rfl
  | 0, g + 1, p, c, h, _ => by rw [lookAt, lookAt, if_neg (by omega)]
  | f + 1, 0, p, c, _, h => by rw [lookAt, lookAt, if_neg (by omega)]
  | f + 1, g + 1, p, c, h1, h2 => by
    rw [lookAt, lookAt]
    by_cases h : p < l.length ∧ (runeAt l p).2 ≠ 0
    · rw [if_pos h, if_pos h, lookAt_more l f g _ _ (by omega) (by omega)]
    · rw [if_neg h, if_neg h]

theorem lookAt_bd (l : List UInt8) : ∀ (f p c : Nat), p ≤ l.length → c ≤ p → (lookAt l f p c).1 ≤ l.length ∧ (lookAt l f p c).2 ≤ (lookAt l f p c).1
  | 0, p, c, h, h2 => ⟨h, h2⟩
  | f + 1, p, c, h, h2 => by
    rw [lookAt]
    by_cases h3 : p < l.length ∧ (runeAt l p).2 ≠ 0
    · rw [if_pos h3]
      have := (runeAt_bd l p).2.2 h
      exact lookAt_bd l f _ _ this (by omega)
    · rw [if_neg h3]; exact ⟨h, h2⟩

theorem wholeTo_le (l : List UInt8) : wholeTo l ≤ l.length := (lookAt_bd l _ 0 0 (by omega) (by omega)).1
theorem chars_le (l : List UInt8) : chars l ≤ wholeTo l := (lookAt_bd l _ 0 0 (by omega) (by omega)).2

theorem lookAt_right (a b : List UInt8) : ∀ (f p c d : Nat), lookAt (a ++ b) f (a.length + p) (d + c) = (a.length + (lookAt b f p c).1, d + (lookAt b f p c).2)
  | 0, p, c, d => rfl
  | f + 1, p, c, d => by
    rw [lookAt, lookAt, runeAt_right]
    by_cases h : p < b.length ∧ (runeAt b p).2 ≠ 0
    · rw [if_pos (by simpa using h), if_pos h, Nat.add_assoc a.length, Nat.add_assoc d]
      exact lookAt_right a b f _ _ d
    · rw [if_neg (by simpa using h), if_neg h]

theorem lookAt_left (a b : List UInt8) : ∀ (f p c : Nat), a.length ≤ p + f → (lookAt a f p c).1 = a.length → ∀ g, (a ++ b).length ≤ p + g →
    lookAt (a ++ b) g p c = lookAt (a ++ b) b.length a.length (lookAt a f p c).2
  | 0, p, c, h, h1, g, hg => by
    rw [lookAt] at h1 ⊢
    simp only at h1 ⊢
    subst h1
    exact lookAt_more _ _ _ _ _ hg (by simp)
  | f + 1, p, c, h, h1, g, hg => by
    rw [lookAt] at h1 ⊢
    by_cases h3 : p < a.length ∧ (runeAt a p).2 ≠ 0
    · rw [if_pos h3] at h1 ⊢
      match g, hg with
      | 0, hg => simp at hg; omega
      | g + 1, hg =>
        rw [lookAt, runeAt_left a b p h3.2, if_pos ⟨by simp; omega, h3.2⟩]
        exact lookAt_left a b f _ _ (by omega) h1 g (by omega)
    · rw [if_neg h3] at h1 ⊢
      simp only at h1 ⊢
      subst h1
      exact lookAt_more _ _ _ _ _ hg (by simp)

theorem look_join (a b : List UInt8) (h : wholeTo a = a.length) : wholeTo (a ++ b) = a.length + wholeTo b ∧ chars (a ++ b) = chars a + chars b := by
  have h1 := lookAt_left a b a.length 0 0 (by omega) h (a ++ b).length (by omega)
  have h2 := lookAt_right a b b.length 0 0 (lookAt a a.length 0 0).2
  simp only [Nat.add_zero] at h2
  unfold wholeTo chars
  rw [h1, h2]
  exact ⟨rfl, rfl⟩

/-- A character's bytes. -/
def putL (r : Nat) : List UInt8 :=
  if r < 128 then [UInt8.ofNat r] else if r < 2048 then [UInt8.ofNat (192 + r / 64), UInt8.ofNat (128 + r % 64)]
  else if r < 65536 then [UInt8.ofNat (224 + r / 4096), UInt8.ofNat (128 + r / 64 % 64), UInt8.ofNat (128 + r % 64)]
  else [UInt8.ofNat (240 + r / 262144), UInt8.ofNat (128 + r / 4096 % 64), UInt8.ofNat (128 + r / 64 % 64), UInt8.ofNat (128 + r % 64)]

theorem bAt_zero (x : UInt8) (l : List UInt8) : bAt (x :: l) 0 = x.toNat := rfl
theorem bAt_succ (x : UInt8) (l : List UInt8) (i : Nat) : bAt (x :: l) (i + 1) = bAt l i := rfl

theorem ofNat_lt (n : Nat) (h : n < 256) : (UInt8.ofNat n).toNat = n := by simp; omega

theorem putL_len (r : Nat) : 1 ≤ (putL r).length ∧ (putL r).length ≤ 4 := by
  unfold putL
  split
  · simp
  split
  · simp
  split <;> simp

theorem tails_step (l : List UInt8) (k p r v : Nat) (h : bAt l p = v) (h1 : 128 ≤ v) (h2 : v < 192) : tails l (k + 1) p r = tails l k (p + 1) (r * 64 + (v - 128)) := by
  rw [tails, h, if_pos ⟨h1, h2⟩]

theorem rune_put (r : Nat) (h : isCh r = true) : runeAt (putL r) 0 = (r, (putL r).length) := by
  have h0 : r ≤ 1114111 ∧ (r < 55296 ∨ 57343 < r) := by simp [isCh] at h; omega
  unfold putL
  by_cases h1 : r < 128
  · rw [if_pos h1]
    unfold runeAt
    rw [bAt_zero, ofNat_lt _ (by omega), if_neg (by simp), if_pos h1]
    rfl
  rw [if_neg h1]
  by_cases h2 : r < 2048
  · rw [if_pos h2]
    unfold runeAt
    have e : r / 64 * 64 + r % 64 = r := by omega
    rw [bAt_zero, ofNat_lt _ (by omega), if_neg (by simp), if_neg (by omega), if_neg (by omega), if_pos (by omega)]
    unfold more
    rw [if_neg (by simp)]
    rw [tails_step _ 0 1 _ (128 + r % 64)]
    simp only [tails, fin]
    rw [show 192 + r / 64 - 192 = r / 64 by omega, show 128 + r % 64 - 128 = r % 64 by omega, e, if_neg (by rw [h]; simp; omega)]
    rfl
    all_goals first | exact ofNat_lt _ (by omega) | omega
  rw [if_neg h2]
  by_cases h3 : r < 65536
  · rw [if_pos h3]
    unfold runeAt
    have e : (r / 4096 * 64 + r / 64 % 64) * 64 + r % 64 = r := by omega
    rw [bAt_zero, ofNat_lt _ (by omega), if_neg (by simp), if_neg (by omega), if_neg (by omega), if_neg (by omega), if_pos (by omega)]
    unfold more
    rw [if_neg (by simp)]
    rw [tails_step _ 1 1 _ (128 + r / 64 % 64), tails_step _ 0 2 _ (128 + r % 64)]
    simp only [tails, fin]
    rw [show 224 + r / 4096 - 224 = r / 4096 by omega, show 128 + r / 64 % 64 - 128 = r / 64 % 64 by omega, show 128 + r % 64 - 128 = r % 64 by omega, e, if_neg (by rw [h]; simp; omega)]
    rfl
    all_goals first | exact ofNat_lt _ (by omega) | omega
  rw [if_neg h3]
  unfold runeAt
  have e : ((r / 262144 * 64 + r / 4096 % 64) * 64 + r / 64 % 64) * 64 + r % 64 = r := by omega
  rw [bAt_zero, ofNat_lt _ (by omega), if_neg (by simp), if_neg (by omega), if_neg (by omega), if_neg (by omega), if_neg (by omega), if_pos (by omega)]
  unfold more
  rw [if_neg (by simp)]
  rw [tails_step _ 2 1 _ (128 + r / 4096 % 64), tails_step _ 1 2 _ (128 + r / 64 % 64), tails_step _ 0 3 _ (128 + r % 64)]
  simp only [tails, fin]
  rw [show 240 + r / 262144 - 240 = r / 262144 by omega, show 128 + r / 4096 % 64 - 128 = r / 4096 % 64 by omega, show 128 + r / 64 % 64 - 128 = r / 64 % 64 by omega, show 128 + r % 64 - 128 = r % 64 by omega, e, if_neg (by rw [h]; simp; omega)]
  rfl
  all_goals first | exact ofNat_lt _ (by omega) | omega

theorem look_put (r : Nat) (h : isCh r = true) : wholeTo (putL r) = (putL r).length ∧ chars (putL r) = 1 := by
  have h1 := rune_put r h
  have h2 := putL_len r
  have e : lookAt (putL r) (putL r).length 0 0 = ((putL r).length, 1) := by
    rw [lookAt_more (putL r) _ ((putL r).length + 1) 0 0 (by omega) (by omega), lookAt, h1, if_pos ⟨by omega, by simp only; omega⟩]
    obtain ⟨n, hn⟩ : ∃ n, (putL r).length = n + 1 := ⟨(putL r).length - 1, by omega⟩
    simp only [Nat.zero_add]
    generalize hg : (putL r).length = g at *
    rw [lookAt_more (putL r) g 0 g 1 (by omega) (by omega)]
    rfl
  unfold wholeTo chars
  rw [e]
  exact ⟨rfl, rfl⟩

/-- The bytes of characters, one behind the other. -/
def puts (l : List Nat) : List UInt8 := (l.map putL).flatten

theorem puts_snoc (l : List Nat) (r : Nat) : puts (l ++ [r]) = puts l ++ putL r := by simp [puts]

theorem look_puts (l : List Nat) (h : ∀ r ∈ l, isCh (r : Nat) = true) : wholeTo (puts l) = (puts l).length ∧ chars (puts l) = l.length := by
  induction l with
  | nil => exact ⟨rfl, rfl⟩
  | cons r l ih =>
    have h1 := look_put r (h r (by simp))
    have h2 := ih fun x hx => h x (by simp [hx])
    have h3 := look_join (putL r) (puts l) h1.1
    have e : puts (r :: l) = putL r ++ puts l := by simp [puts]
    rw [e, h3.1, h3.2, h2.1, h2.2, h1.2]
    simp
    omega

theorem puts_append (a b : List Nat) : puts (a ++ b) = puts a ++ puts b := by simp [puts]
theorem puts_cons (r : Nat) (l : List Nat) : puts (r :: l) = putL r ++ puts l := by simp [puts]

/-- The k-th character is told behind those ahead of it. -/
theorem rune_puts (l : List Nat) (h : ∀ r ∈ l, isCh (r : Nat) = true) (k : Nat) (hk : k < l.length) : runeAt (puts l) (puts (l.take k)).length = (l[k], (putL l[k]).length) := by
  have e : l = l.take k ++ (l[k] :: l.drop (k + 1)) := by rw [← List.drop_eq_getElem_cons hk, List.take_append_drop]
  have e2 : puts l = puts (l.take k) ++ (putL l[k] ++ puts (l.drop (k + 1))) := by
    rw [← puts_cons, ← puts_append, ← e]
  have h1 := rune_put l[k] (h _ (List.getElem_mem hk))
  have hl := putL_len l[k]
  generalize hP : puts (l.take k) = P at e2 ⊢
  rw [e2]
  have := runeAt_right P (putL l[k] ++ puts (l.drop (k + 1))) 0
  simp only [Nat.add_zero] at this
  rw [this, runeAt_left _ _ _ (by rw [h1]; simp only; omega), h1]

theorem tails_snoc (l : List UInt8) : ∀ (k p r x : Nat), tails l k p r = some x → tails l (k + 1) p r = if 128 ≤ bAt l (p + k) ∧ bAt l (p + k) < 192 then some (x * 64 + (bAt l (p + k) - 128)) else none
  | 0, p, r, x, h => by
    simp only [tails, Option.some.injEq] at h
    subst h
    simp [tails]
  | k + 1, p, r, x, h => by
    rw [tails] at h
    split at h
    · rename_i hc
      rw [tails, if_pos hc, tails_snoc l k (p + 1) _ x h]
      rw [show p + 1 + k = p + (k + 1) from by omega]
    · simp at h

theorem tails_none (l : List UInt8) : ∀ (k m p r : Nat), tails l k p r = none → tails l (k + m) p r = none
  | 0, m, p, r, h => by simp [tails] at h
  | k + 1, m, p, r, h => by
    rw [show k + 1 + m = k + m + 1 from by omega, tails]
    rw [tails] at h
    split at h
    · rename_i hc
      rw [if_pos hc]
      exact tails_none l k m (p + 1) _ h
    · rename_i hc
      rw [if_neg hc]

end Go.Proofs.Ytkcfkdmffbhljaa

namespace Go.Proofs.Ytkcfkdmffbhljaa
set_option linter.unusedVariables false
set_option linter.unusedSimpArgs false

/-- What the lexer tells: a token (its Kind, its place, where it ends, its text), or an error at a place. -/
inductive LexR where
  | tok (kind at' stop : Nat) (text : List UInt8)
  | err (e at' : Nat)

/-- The same, so much further. -/
def LexR.shift (k : Nat) : LexR → LexR
  | .tok kd a s t => .tok kd (k + a) (k + s) t
  | .err e a => .err e (k + a)

theorem LexR.shift_shift (i j : Nat) : ∀ r : LexR, (r.shift j).shift i = r.shift (i + j)
  | .tok .. => by simp [shift, Nat.add_assoc]
  | .err .. => by simp [shift, Nat.add_assoc]

def blank (c : UInt8) : Bool := c == 9 || c == 10 || c == 13 || c == 32
/-- How many blanks stand ahead. -/
def blanks : List UInt8 → Nat
  | [] => 0
  | c :: r => if blank c then blanks r + 1 else 0
theorem blanks_le : ∀ l, blanks l ≤ l.length
  | [] => by simp [blanks]
  | c :: r => by have := blanks_le r; simp only [blanks, List.length_cons]; split <;> omega

def numCh (c : UInt8) : Bool := (48 ≤ c && c ≤ 57) || c == 43 || c == 45 || c == 46 || c == 101 || c == 69
def numLen : List UInt8 → Nat
  | [] => 0
  | c :: r => if numCh c then numLen r + 1 else 0
theorem numLen_le : ∀ l, numLen l ≤ l.length
  | [] => by simp [numLen]
  | c :: r => by have := numLen_le r; simp only [numLen, List.length_cons]; split <;> omega

def isDig (c : UInt8) : Bool := 48 ≤ c && c ≤ 57
/-- How many digits stand ahead. -/
def digs : List UInt8 → Nat
  | [] => 0
  | c :: r => if isDig c then digs r + 1 else 0
theorem digs_le : ∀ l, digs l ≤ l.length
  | [] => by simp [digs]
  | c :: r => by have := digs_le r; simp only [digs, List.length_cons]; split <;> omega

def hd (l : List UInt8) : UInt8 := l.headD 0

/-- An exponent, or none: what a text is as a number, its kind so far given. -/
def lexExp (kind : Nat) (l : List UInt8) : Nat :=
  match l with
  | [] => kind
  | c :: r => if c = 101 ∨ c = 69 then
      let r' := match r with | [] => [] | d :: q => if d = 43 ∨ d = 45 then q else r
      if digs r' = 0 then 0 else if digs r' = r'.length then 2 else 0
    else 0
/-- A fraction, or none. -/
def lexFrac (l : List UInt8) : Nat :=
  match l with
  | [] => 1
  | c :: r => if c = 46 then (if digs r = 0 then 0 else lexExp 2 (r.drop (digs r))) else lexExp 1 l
/-- What a text is as a number: 0 none, 1 whole, 2 another one. -/
def lexeme (l : List UInt8) : Nat :=
  let l' := match l with | [] => [] | c :: r => if c = 45 then r else l
  if digs l' = 0 ∨ (hd l' = 48 ∧ 1 < digs l') then 0 else lexFrac (l'.drop (digs l'))

/-- A hexadecimal digit's number. -/
def hexD (c : UInt8) : Option Nat :=
  if 48 ≤ c ∧ c ≤ 57 then some (c.toNat - 48) else if 97 ≤ c ∧ c ≤ 102 then some (c.toNat - 87) else if 65 ≤ c ∧ c ≤ 70 then some (c.toNat - 55) else none

/-- k digits: their number (0), it ends within them (2), another sign stands there (3). -/
def hexs : Nat → Nat → List UInt8 → Nat ⊕ Nat
  | 0, v, _ => .inl v
  | _ + 1, _, [] => .inr 2
  | k + 1, v, c :: r => match hexD c with
    | none => .inr 3
    | some d => hexs k (v * 16 + d) r

/-- For what a sign behind \ stands. -/
def escD (c : UInt8) : Option UInt8 :=
  if c = 34 then some 34 else if c = 92 then some 92 else if c = 47 then some 47 else if c = 98 then some 8 else if c = 102 then some 12 else if c = 110 then some 10 else if c = 114 then some 13 else if c = 116 then some 9 else none

/-- The low half behind a high one: its number. -/
def lowHalf (l : List UInt8) : Option Nat :=
  match l with
  | 92 :: 117 :: r => match hexs 4 0 r with
    | .inl v => if 56320 ≤ v ∧ v ≤ 57343 then some v else none
    | .inr _ => none
  | _ => none

/-- What stands behind \u: how many signs are taken (from \ on) and the character's number; or the error. -/
def uni (l : List UInt8) : (Nat × Nat) ⊕ Nat :=
  match hexs 4 0 (l.drop 2) with
  | .inr e => .inr e
  | .inl v =>
    if 55296 ≤ v ∧ v ≤ 57343 then
      match (if v ≤ 56319 then lowHalf (l.drop 6) else none) with
      | some w => .inl (12, 65536 + (v - 55296) * 1024 + (w - 56320))
      | none => .inr 4
    else .inl (6, v)

/-- One step within a text: what is added, and how many signs are taken; or the end; or the error. -/
inductive StrStep where
  | go (n : Nat) (out : List UInt8)
  | stop
  | bad (e : Nat)

def strStep (l : List UInt8) : StrStep :=
  match l with
  | [] => .bad 2
  | c :: r =>
    if c = 34 then .stop
    else if c < 32 then .bad 3
    else if c = 92 then
      match r with
      | [] => .bad 2
      | d :: _ => if d = 117 then
          match uni l with
          | .inr e => .bad e
          | .inl (n, v) => .go n (putL v)
        else match escD d with
          | none => .bad 3
          | some x => .go 2 [x]
    else
      let n := (runeAt (l.take 4) 0).2
      if n = 0 then .bad 4 else .go n (l.take n)

/-- A text from a place on: the rest, how far, what has been told. -/
def strGo : Nat → List UInt8 → Nat → List UInt8 → LexR
  | 0, _, _, _ => .err 2 0
  | f + 1, l, p, out => match strStep l with
    | .stop => .tok 8 0 (p + 1) out
    | .bad e => .err e (if e = 2 then 0 else p)
    | .go n x => strGo f (l.drop n) (p + n) (out ++ x)

def pre (w l : List UInt8) : Bool := l.take w.length == w

/-- The token that begins right here. -/
def tokS (l : List UInt8) : LexR :=
  match l with
  | [] => .tok 1 0 0 []
  | c :: r =>
    if c = 123 then .tok 2 0 1 [] else if c = 125 then .tok 3 0 1 [] else if c = 91 then .tok 4 0 1 [] else if c = 93 then .tok 5 0 1 [] else if c = 58 then .tok 6 0 1 [] else if c = 44 then .tok 7 0 1 []
    else if pre [116, 114, 117, 101] l then .tok 10 0 4 [] else if pre [102, 97, 108, 115, 101] l then .tok 11 0 5 [] else if pre [110, 117, 108, 108] l then .tok 12 0 4 []
    else if c = 34 then strGo (l.length + 1) r 1 []
    else if c = 45 ∨ isDig c then
      let n := numLen l
      if lexeme (l.take n) = 0 then .err 3 0 else if 300 < n then .err 10 0 else .tok 9 0 n (l.take n)
    else .err 3 0

/-- The next token. -/
def nextS (l : List UInt8) : LexR := (tokS (l.drop (blanks l))).shift (blanks l)

/-- The next token from a place on. -/
def nextAt (l : List UInt8) (p : Nat) : LexR := if l.length < p then .err 1 0 else (nextS (l.drop p)).shift p

theorem blanks_append (b s : List UInt8) (h : ∀ c ∈ b, blank c = true) : blanks (b ++ s) = b.length + blanks s := by
  induction b with
  | nil => simp
  | cons c b ih =>
    simp only [List.cons_append, blanks, h c (by simp), if_true, List.length_cons]
    rw [ih fun x hx => h x (by simp [hx])]
    omega

theorem next_blanks (b s : List UInt8) (h : ∀ c ∈ b, blank c = true) : nextS (b ++ s) = (nextS s).shift b.length := by
  unfold nextS
  rw [blanks_append b s h, LexR.shift_shift, List.drop_append, List.drop_of_length_le (by omega), List.nil_append, Nat.add_sub_cancel_left]

theorem nextAt_append (a b : List UInt8) (p : Nat) (h : a.length ≤ p) : nextAt (a ++ b) p = if b.length < p - a.length then .err 1 0 else (nextAt b (p - a.length)).shift a.length := by
  unfold nextAt
  rw [List.drop_append, List.drop_of_length_le h, List.nil_append]
  by_cases h1 : b.length < p - a.length
  · rw [if_pos h1, if_pos (by simp; omega)]
  · rw [if_neg h1, if_neg (by simp; omega), if_neg h1, LexR.shift_shift]
    congr 1
    omega

theorem hexs_len : ∀ (k v : Nat) (l : List UInt8) (x : Nat), hexs k v l = .inl x → k ≤ l.length
  | 0, _, _, _, _ => Nat.zero_le _
  | k + 1, v, [], x, h => by simp [hexs] at h
  | k + 1, v, c :: r, x, h => by
    simp only [hexs] at h
    split at h
    · simp at h
    · have := hexs_len k _ r x h
      simp only [List.length_cons]; omega

theorem hexs_err : ∀ (k v : Nat) (l : List UInt8) (e : Nat), hexs k v l = .inr e → e = 2 ∨ e = 3
  | 0, _, _, _, h => by simp [hexs] at h
  | k + 1, v, [], e, h => by simp [hexs] at h; exact .inl h.symm
  | k + 1, v, c :: r, e, h => by
    simp only [hexs] at h
    split at h
    · simp only [Sum.inr.injEq] at h; exact .inr h.symm
    · exact hexs_err k _ r e h

theorem lowHalf_len (l : List UInt8) (w : Nat) (h : lowHalf l = some w) : 6 ≤ l.length ∧ 56320 ≤ w ∧ w ≤ 57343 := by
  unfold lowHalf at h
  split at h
  · rename_i r
    split at h
    · rename_i v hv
      have := hexs_len 4 0 r v hv
      split at h
      · simp only [Option.some.injEq] at h
        subst h
        simp only [List.length_cons]
        rename_i hw
        exact ⟨by omega, hw.1, hw.2⟩
      · simp at h
    · simp at h
  · simp at h

theorem uni_len (l : List UInt8) (n v : Nat) (h : uni l = .inl (n, v)) : 1 ≤ n ∧ n ≤ l.length ∧ (isCh (v : Nat) = true ∨ 65535 < v ∧ v ≤ 1114111 ∨ (v < 55296 ∨ 57343 < v)) := by
  unfold uni at h
  split at h
  · simp at h
  · rename_i u hu
    have h1 := hexs_len 4 0 _ u hu
    rw [List.length_drop] at h1
    split at h
    · split at h
      · rename_i w hw
        simp only [Sum.inl.injEq, Prod.mk.injEq] at h
        obtain ⟨rfl, rfl⟩ := h
        split at hw
        · have := lowHalf_len _ w hw
          rw [List.length_drop] at this
          exact ⟨by omega, by omega, by omega⟩
        · simp at hw
      · simp at h
    · simp only [Sum.inl.injEq, Prod.mk.injEq] at h
      obtain ⟨rfl, rfl⟩ := h
      exact ⟨by omega, by omega, by omega⟩

theorem step_go (l : List UInt8) (n : Nat) (x : List UInt8) (h : strStep l = .go n x) : 1 ≤ n ∧ n ≤ l.length := by
  unfold strStep at h
  split at h
  · simp at h
  · rename_i c r
    split at h
    · simp at h
    · split at h
      · simp at h
      · split at h
        · split at h
          · simp at h
          · split at h
            · split at h
              · simp at h
              · rename_i n' v hu
                simp only [StrStep.go.injEq] at h
                obtain ⟨rfl, _⟩ := h
                have := uni_len _ _ _ hu
                exact ⟨this.1, this.2.1⟩
            · split at h
              · simp at h
              · simp only [StrStep.go.injEq] at h
                obtain ⟨rfl, _⟩ := h
                simp only [List.length_cons]; omega
        · simp only at h
          split at h
          · simp at h
          · rename_i hn
            simp only [StrStep.go.injEq] at h
            obtain ⟨rfl, _⟩ := h
            have := (runeAt_bd (List.take 4 (c :: r)) 0).2.2 (by omega)
            rw [List.length_take] at this
            omega

theorem step_bad (l : List UInt8) (e : Nat) (h : strStep l = .bad e) (h2 : e ≠ 2) : 1 ≤ l.length := by
  cases l with
  | nil => simp [strStep] at h; omega
  | cons c r => simp

theorem step_stop (l : List UInt8) (h : strStep l = .stop) : 1 ≤ l.length := by
  cases l with
  | nil => simp [strStep] at h
  | cons c r => simp

/-- Where a told text, or its error, stands. -/
def StrOk (p n : Nat) : LexR → Prop
  | .tok kd a s _ => kd = 8 ∧ a = 0 ∧ p < s ∧ s ≤ p + n
  | .err _ a => a = 0 ∨ (p ≤ a ∧ a < p + n)

theorem strGo_bd : ∀ (f : Nat) (l : List UInt8) (p : Nat) (out : List UInt8), StrOk p l.length (strGo f l p out)
  | 0, l, p, out => by simp [strGo, StrOk]
  | f + 1, l, p, out => by
    unfold strGo
    cases h : strStep l with
    | stop =>
      have := step_stop l h
      exact ⟨rfl, rfl, by omega, by omega⟩
    | bad e =>
      by_cases h2 : e = 2
      · simp only [if_pos h2]; exact .inl rfl
      · simp only [if_neg h2]
        have := step_bad l e h h2
        exact .inr ⟨by omega, by omega⟩
    | go n x =>
      simp only
      have h1 := step_go l n x h
      have ih := strGo_bd f (l.drop n) (p + n) (out ++ x)
      rw [List.length_drop] at ih
      cases hr : strGo f (l.drop n) (p + n) (out ++ x) with
      | tok kd a s t =>
        rw [hr] at ih
        simp only [StrOk] at ih ⊢
        exact ⟨ih.1, ih.2.1, by omega, by omega⟩
      | err e a =>
        rw [hr] at ih
        simp only [StrOk] at ih ⊢
        omega

theorem pre_len {w l : List UInt8} (h : pre w l = true) : w.length ≤ l.length := by
  unfold pre at h
  have := congrArg List.length (eq_of_beq h)
  rw [List.length_take] at this
  omega

/-- Where a token that begins right here ends. -/
def TokOk (n : Nat) : LexR → Prop
  | .tok kd a s _ => a = 0 ∧ s ≤ n ∧ (kd = 1 → n = 0) ∧ (kd ≠ 1 → 0 < s) ∧ 1 ≤ kd
  | .err _ a => a < n

theorem tokS_bd : ∀ l : List UInt8, TokOk l.length (tokS l)
  | [] => ⟨rfl, Nat.le_refl _, fun _ => rfl, fun h => absurd rfl h, Nat.le_refl _⟩
  | c :: r => by
    have hl : (c :: r).length = r.length + 1 := rfl
    have one : ∀ k, 2 ≤ k → TokOk (c :: r).length (.tok k 0 1 []) := fun k hk => ⟨rfl, by omega, by omega, by omega, by omega⟩
    rw [tokS]
    by_cases h1 : c = 123
    · rw [if_pos h1]; exact one _ (by omega)
    rw [if_neg h1]
    by_cases h1 : c = 125
    · rw [if_pos h1]; exact one _ (by omega)
    rw [if_neg h1]
    by_cases h1 : c = 91
    · rw [if_pos h1]; exact one _ (by omega)
    rw [if_neg h1]
    by_cases h1 : c = 93
    · rw [if_pos h1]; exact one _ (by omega)
    rw [if_neg h1]
    by_cases h1 : c = 58
    · rw [if_pos h1]; exact one _ (by omega)
    rw [if_neg h1]
    by_cases h1 : c = 44
    · rw [if_pos h1]; exact one _ (by omega)
    rw [if_neg h1]
    by_cases h1 : pre [116, 114, 117, 101] (c :: r) = true
    · rw [if_pos h1]; have := pre_len h1; exact ⟨rfl, by simpa using this, by omega, by omega, by omega⟩
    rw [if_neg h1]
    by_cases h1 : pre [102, 97, 108, 115, 101] (c :: r) = true
    · rw [if_pos h1]; have := pre_len h1; exact ⟨rfl, by simpa using this, by omega, by omega, by omega⟩
    rw [if_neg h1]
    by_cases h1 : pre [110, 117, 108, 108] (c :: r) = true
    · rw [if_pos h1]; have := pre_len h1; exact ⟨rfl, by simpa using this, by omega, by omega, by omega⟩
    rw [if_neg h1]
    by_cases h1 : c = 34
    · rw [if_pos h1]
      have := strGo_bd ((c :: r).length + 1) r 1 []
      cases hh : strGo ((c :: r).length + 1) r 1 [] with
      | tok kd a s t =>
        rw [hh] at this
        obtain ⟨rfl, rfl, h2, h3⟩ := this
        exact ⟨rfl, by omega, by omega, by omega, by omega⟩
      | err e a =>
        rw [hh] at this
        simp only [StrOk] at this
        simp only [TokOk]
        omega
    rw [if_neg h1]
    by_cases h1 : c = 45 ∨ isDig c = true
    · rw [if_pos h1]
      have hn := numLen_le (c :: r)
      simp only
      by_cases h2 : lexeme (List.take (numLen (c :: r)) (c :: r)) = 0
      · rw [if_pos h2]; exact Nat.succ_pos _
      rw [if_neg h2]
      by_cases h3 : 300 < numLen (c :: r)
      · rw [if_pos h3]; exact Nat.succ_pos _
      rw [if_neg h3]
      refine ⟨rfl, hn, by omega, fun _ => ?_, by omega⟩
      apply Nat.pos_of_ne_zero
      intro h0
      apply h2
      rw [h0]; rfl
    · rw [if_neg h1]; exact Nat.succ_pos _

/-- Where the next token, or the error, stands. -/
def NextOk (p n : Nat) : LexR → Prop
  | .tok kd a s _ => p ≤ a ∧ s ≤ n ∧ (kd = 1 → a = n ∧ s = n) ∧ (kd ≠ 1 → a < s) ∧ 1 ≤ kd
  | .err _ a => p ≤ a ∧ a < n

theorem nextAt_bd (l : List UInt8) (p : Nat) (h : p ≤ l.length) : NextOk p l.length (nextAt l p) := by
  unfold nextAt nextS
  rw [if_neg (by omega), LexR.shift_shift]
  have hb := blanks_le (l.drop p)
  have ht := tokS_bd ((l.drop p).drop (blanks (l.drop p)))
  rw [List.length_drop] at hb
  rw [List.length_drop, List.length_drop] at ht
  cases hr : tokS ((l.drop p).drop (blanks (l.drop p))) with
  | tok kd a s t =>
    rw [hr] at ht
    simp only [TokOk, LexR.shift, NextOk] at ht ⊢
    refine ⟨by omega, by omega, fun h1 => ?_, fun h1 => ?_, by omega⟩
    · have := ht.2.2.1 h1; omega
    · have := ht.2.2.2.1 h1; omega
  | err e a =>
    rw [hr] at ht
    simp only [TokOk, LexR.shift, NextOk] at ht ⊢
    omega

theorem look_step' (l : List UInt8) (p c n : Nat) (hp : p < l.length) (hn : (runeAt l p).2 = n) (h0 : n ≠ 0) : lookAt l l.length p c = lookAt l l.length (p + n) (c + 1) := by
  rw [lookAt_more l l.length (l.length + 1) p c (by omega) (by omega), lookAt, hn, if_pos ⟨hp, h0⟩]

theorem look_stop' (l : List UInt8) (p c : Nat) (h : l.length ≤ p ∨ (runeAt l p).2 = 0) : lookAt l l.length p c = (p, c) := by
  rw [lookAt_more l l.length (l.length + 1) p c (by omega) (by omega), lookAt, if_neg (by omega)]

/-- Whole bytes: a character, and whole ones behind it. -/
theorem whole_step (l : List UInt8) (h : wholeTo l = l.length) (hl : 0 < l.length) : (runeAt l 0).2 ≠ 0 ∧ (runeAt l 0).2 ≤ l.length ∧ wholeTo (l.drop (runeAt l 0).2) = (l.drop (runeAt l 0).2).length := by
  have hb := (runeAt_bd l 0).2.2 (by omega)
  rw [Nat.zero_add] at hb
  have hn : (runeAt l 0).2 ≠ 0 := by
    intro h0
    unfold wholeTo at h
    rw [look_stop' l 0 0 (.inr h0)] at h
    simp only at h
    omega
  refine ⟨hn, hb, ?_⟩
  generalize hg : (runeAt l 0).2 = n at hn hb ⊢
  have h1 := h
  unfold wholeTo at h1
  rw [look_step' l 0 0 n hl hg hn] at h1
  have e : l = l.take n ++ l.drop n := (List.take_append_drop n l).symm
  have hlt : (l.take n).length = n := by rw [List.length_take]; omega
  have h2 := lookAt_right (l.take n) (l.drop n) l.length 0 0 1
  rw [← e, hlt] at h2
  rw [Nat.zero_add, Nat.zero_add] at h1
  simp only [Nat.add_zero] at h2
  rw [h2] at h1
  simp only at h1
  unfold wholeTo
  rw [lookAt_more (l.drop n) (l.drop n).length l.length 0 0 (by omega) (by rw [List.length_drop]; omega)]
  rw [List.length_drop]
  omega

theorem tails_take (l : List UInt8) (m : Nat) : ∀ (k p r : Nat), p + k ≤ m → m ≤ l.length → tails (l.take m) k p r = tails l k p r
  | 0, p, r, _, _ => rfl
  | k + 1, p, r, h, hm => by
    have e : bAt (l.take m) p = bAt l p := by
      unfold bAt; simp only [List.getD_eq_getElem?_getD]; rw [List.getElem?_take_of_lt (by omega)]
    rw [tails, tails, e, tails_take l m k (p + 1) _ (by omega) hm]

theorem more_take (l : List UInt8) (n r least : Nat) (h : (more l 0 n r least).2 ≠ 0) (h1 : 1 ≤ n) : (more l 0 n r least).2 = n ∧ more (l.take n) 0 n r least = more l 0 n r least := by
  unfold more at h ⊢
  by_cases h2 : l.length < 0 + n
  · rw [if_pos h2] at h; exact absurd rfl h
  · rw [if_neg h2] at h ⊢
    rw [if_neg (by rw [List.length_take]; omega), tails_take l n (n - 1) (0 + 1) r (by omega) (by omega)]
    have := fin_snd (tails l (n - 1) (0 + 1) r) n least
    exact ⟨by omega, rfl⟩

/-- A character is told by its own bytes. -/
theorem rune_take (l : List UInt8) (n : Nat) (hn : (runeAt l 0).2 = n) (h0 : n ≠ 0) : runeAt (l.take n) 0 = runeAt l 0 ∧ (bAt l 0 < 128 → n = 1) ∧ (128 ≤ bAt l 0 → 192 ≤ bAt l 0 ∧ 2 ≤ n ∧ ∀ i, i < n → 128 ≤ bAt l i) := by
  have hb := (runeAt_bd l 0).2.2 (by omega)
  rw [hn] at hb
  have hlen : 0 < l.length := by omega
  have e0 : bAt (l.take n) 0 = bAt l 0 := by
    unfold bAt; simp only [List.getD_eq_getElem?_getD]; rw [List.getElem?_take_of_lt (by omega)]
  have htl : (l.take n).length = n := by rw [List.length_take]; omega
  have tl : ∀ (k p r x : Nat), tails l k p r = some x → ∀ i, p ≤ i → i < p + k → 128 ≤ bAt l i := by
    intro k
    induction k with
    | zero => intro p r x _ i h1 h2; omega
    | succ k ih =>
      intro p r x h i h1 h2
      rw [tails] at h
      split at h
      · rename_i hc
        by_cases e : i = p
        · rw [e]; exact hc.1
        · exact ih (p + 1) _ x h i (by omega) (by omega)
      · simp at h
  have mt : ∀ m r least, 2 ≤ m → 192 ≤ bAt l 0 → (more l 0 m r least).2 = n → (more (l.take n) 0 m r least = more l 0 m r least) ∧ 2 ≤ n ∧ ∀ i, i < n → 128 ≤ bAt l i := by
    intro m r least hm h192 hmn
    have := more_take l m r least (by rw [hmn]; exact h0) (by omega)
    rw [hmn] at this
    obtain ⟨rfl, h2⟩ := this
    refine ⟨h2, hm, fun i hi => ?_⟩
    unfold more at hmn
    rw [if_neg (by omega)] at hmn
    cases ht : tails l (n - 1) (0 + 1) r with
    | none => rw [ht] at hmn; simp [fin] at hmn; omega
    | some x =>
      by_cases hi0 : i = 0
      · rw [hi0]; omega
      · exact tl (n - 1) 1 r x ht i (by omega) (by omega)
  have A : ∀ q : List UInt8, 0 < q.length → bAt q 0 = bAt l 0 → runeAt q 0 = if bAt l 0 < 128 then (bAt l 0, 1) else if bAt l 0 < 192 then (0, 0) else if bAt l 0 < 224 then more q 0 2 (bAt l 0 - 192) 128
      else if bAt l 0 < 240 then more q 0 3 (bAt l 0 - 224) 2048 else if bAt l 0 < 248 then more q 0 4 (bAt l 0 - 240) 65536 else (0, 0) := by
    intro q hq e
    unfold runeAt
    rw [if_neg (by omega), e]
  rw [A l hlen rfl] at hn
  rw [A l hlen rfl, A (l.take n) (by omega) e0]
  by_cases h1 : bAt l 0 < 128
  · simp only [if_pos h1] at hn ⊢
    exact ⟨trivial, fun _ => hn.symm, fun h => by omega⟩
  simp only [if_neg h1] at hn ⊢
  by_cases h2 : bAt l 0 < 192
  · simp only [if_pos h2] at hn; exact absurd hn.symm h0
  simp only [if_neg h2] at hn ⊢
  by_cases h3 : bAt l 0 < 224
  · simp only [if_pos h3] at hn ⊢
    have := mt 2 _ _ (by omega) (by omega) hn
    exact ⟨this.1, fun h => absurd h h1, fun _ => ⟨by omega, this.2⟩⟩
  simp only [if_neg h3] at hn ⊢
  by_cases h4 : bAt l 0 < 240
  · simp only [if_pos h4] at hn ⊢
    have := mt 3 _ _ (by omega) (by omega) hn
    exact ⟨this.1, fun h => absurd h h1, fun _ => ⟨by omega, this.2⟩⟩
  simp only [if_neg h4] at hn ⊢
  by_cases h5 : bAt l 0 < 248
  · simp only [if_pos h5] at hn ⊢
    have := mt 4 _ _ (by omega) (by omega) hn
    exact ⟨this.1, fun h => absurd h h1, fun _ => ⟨by omega, this.2⟩⟩
  simp only [if_neg h5] at hn
  exact absurd hn.symm h0

def hexC (n : Nat) : UInt8 := UInt8.ofNat (if n < 10 then 48 + n else 87 + n)

/-- A byte, quoted. -/
def quoteB (c : UInt8) : List UInt8 :=
  if c = 34 ∨ c = 92 then [92, c] else if c = 8 then [92, 98] else if c = 12 then [92, 102] else if c = 10 then [92, 110] else if c = 13 then [92, 114] else if c = 9 then [92, 116]
  else if c < 32 then [92, 117, 48, 48, hexC (c.toNat / 16), hexC (c.toNat % 16)] else [c]

def quoteM (s : List UInt8) : List UInt8 := (s.map quoteB).flatten
/-- A text between quotes. -/
def quoteL (s : List UInt8) : List UInt8 := 34 :: (quoteM s ++ [34])

theorem quoteM_cons (c : UInt8) (s : List UInt8) : quoteM (c :: s) = quoteB c ++ quoteM s := rfl
theorem quoteM_append (a b : List UInt8) : quoteM (a ++ b) = quoteM a ++ quoteM b := by simp [quoteM]

theorem quoteM_high : ∀ l : List UInt8, (∀ c ∈ l, 128 ≤ c.toNat) → quoteM l = l
  | [], _ => rfl
  | c :: r, h => by
    have hc := h c (by simp)
    have h1 : quoteB c = [c] := by
      unfold quoteB
      have ne : ∀ k : UInt8, k.toNat < 128 → c ≠ k := fun k hk e => by rw [e] at hc; omega
      rw [if_neg (by intro e; rcases e with e | e <;> exact ne _ (by decide) e), if_neg (ne _ (by decide)), if_neg (ne _ (by decide)), if_neg (ne _ (by decide)), if_neg (ne _ (by decide)), if_neg (ne _ (by decide)), if_neg (by rw [UInt8.lt_iff_toNat_lt]; simp; omega)]
    rw [quoteM_cons, h1, quoteM_high r fun x hx => h x (by simp [hx])]
    rfl

theorem step_low (rest : List UInt8) : ∀ n : Fin 32, strStep (quoteB (UInt8.ofNat n) ++ rest) = .go (quoteB (UInt8.ofNat n)).length [UInt8.ofNat n]
  | 0 => by rfl
  | 1 => by rfl
  | 2 => by rfl
  | 3 => by rfl
  | 4 => by rfl
  | 5 => by rfl
  | 6 => by rfl
  | 7 => by rfl
  | 8 => by rfl
  | 9 => by rfl
  | 10 => by rfl
  | 11 => by rfl
  | 12 => by rfl
  | 13 => by rfl
  | 14 => by rfl
  | 15 => by rfl
  | 16 => by rfl
  | 17 => by rfl
  | 18 => by rfl
  | 19 => by rfl
  | 20 => by rfl
  | 21 => by rfl
  | 22 => by rfl
  | 23 => by rfl
  | 24 => by rfl
  | 25 => by rfl
  | 26 => by rfl
  | 27 => by rfl
  | 28 => by rfl
  | 29 => by rfl
  | 30 => by rfl
  | 31 => by rfl
  | ⟨k + 32, h⟩ => absurd h (by omega)

theorem step_plain (c : UInt8) (rest : List UInt8) (h1 : 32 ≤ c.toNat) (h2 : c.toNat < 128) (h3 : c ≠ 34) (h4 : c ≠ 92) : strStep (c :: rest) = .go 1 [c] := by
  have hr : runeAt (List.take 4 (c :: rest)) 0 = (c.toNat, 1) := by
    unfold runeAt
    have hb : bAt (List.take 4 (c :: rest)) 0 = c.toNat := rfl
    rw [if_neg (by simp), hb, if_pos h2]
  unfold strStep
  simp only
  rw [if_neg h3, if_neg (by rw [UInt8.lt_iff_toNat_lt]; simp; omega), if_neg h4, hr]
  simp

theorem step_quote (c : UInt8) (rest : List UInt8) (h : c.toNat < 128) : strStep (quoteB c ++ rest) = .go (quoteB c).length [c] := by
  by_cases h1 : c.toNat < 32
  · have := step_low rest ⟨c.toNat, h1⟩
    simpa using this
  by_cases h2 : c = 34
  · subst h2; rfl
  by_cases h3 : c = 92
  · subst h3; rfl
  have ne : ∀ k : UInt8, k.toNat < 32 → c ≠ k := fun k hk e => by rw [e] at h1; omega
  have e : quoteB c = [c] := by
    unfold quoteB
    rw [if_neg (by intro e; rcases e with e | e; exact h2 e; exact h3 e), if_neg (ne _ (by decide)), if_neg (ne _ (by decide)), if_neg (ne _ (by decide)), if_neg (ne _ (by decide)), if_neg (ne _ (by decide)), if_neg (by rw [UInt8.lt_iff_toNat_lt]; simp; omega)]
  rw [e]
  exact step_plain c rest (by omega) h h2 h3

theorem step_high (l rest : List UInt8) (n : Nat) (hl : l.length = n) (h0 : n ≠ 0) (hr : (runeAt l 0).2 = n) (hh : ∀ c ∈ l, 128 ≤ c.toNat) : strStep (l ++ rest) = .go n l := by
  have hb4 := (runeAt_bd l 0).2.1
  rw [hr] at hb4
  have e : (l ++ rest).take 4 = l ++ rest.take (4 - n) := by rw [List.take_append, hl, List.take_of_length_le (by omega)]
  have hr2 : runeAt ((l ++ rest).take 4) 0 = runeAt l 0 := by rw [e, runeAt_left _ _ _ (by rw [hr]; exact h0)]
  cases l with
  | nil => simp at hl; omega
  | cons c r =>
    have hc := hh c (by simp)
    have ne : ∀ k : UInt8, k.toNat < 128 → c ≠ k := fun k hk e => by rw [e] at hc; omega
    rw [List.cons_append] at hr2 ⊢
    unfold strStep
    simp only
    rw [if_neg (ne _ (by decide)), if_neg (by rw [UInt8.lt_iff_toNat_lt]; simp; omega), if_neg (ne _ (by decide)), hr2, hr, if_neg h0]
    rw [← List.cons_append, List.take_append, hl, Nat.sub_self, List.take_zero, List.append_nil, List.take_of_length_le (by omega)]

theorem bAt_get (l : List UInt8) (i : Nat) (h : i < l.length) : bAt l i = (l[i]).toNat := by
  unfold bAt; rw [List.getD_eq_getElem?_getD, List.getElem?_eq_getElem h]; rfl

theorem quote_len (c : UInt8) : 1 ≤ (quoteB c).length := by
  unfold quoteB
  split
  · simp
  split
  · simp
  split
  · simp
  split
  · simp
  split
  · simp
  split
  · simp
  split <;> simp

/-- What is quoted is told as it was. -/
theorem strGo_quote (behind : List UInt8) : ∀ (m : Nat) (s : List UInt8) (f p : Nat) (out : List UInt8), s.length ≤ m → wholeTo s = s.length → (quoteM s).length < f →
    strGo f (quoteM s ++ 34 :: behind) p out = .tok 8 0 (p + (quoteM s).length + 1) (out ++ s) := by
  intro m
  induction m with
  | zero =>
    intro s f p out hm hw hf
    have hs : s = [] := List.eq_nil_of_length_eq_zero (by omega)
    subst hs
    match f, hf with
    | f + 1, _ => simp [quoteM, strGo, strStep]
  | succ m ih =>
    intro s f p out hm hw hf
    cases s with
    | nil =>
      match f, hf with
      | f + 1, _ => simp [quoteM, strGo, strStep]
    | cons c r =>
      have hl : 0 < (c :: r).length := by simp
      obtain ⟨h0, hn, hwd⟩ := whole_step (c :: r) hw hl
      obtain ⟨hrt, hlow, hhigh⟩ := rune_take (c :: r) _ rfl h0
      match f, hf with
      | f + 1, hf =>
        by_cases hc : c.toNat < 128
        · have h1 := hlow hc
          rw [h1] at hwd
          simp only [List.drop_succ_cons, List.drop_zero] at hwd
          rw [quoteM_cons, List.append_assoc, strGo, step_quote c _ hc]
          simp only
          have hq := quote_len c
          rw [quoteM_cons, List.length_append] at hf
          rw [List.drop_append, List.drop_of_length_le (Nat.le_refl _), Nat.sub_self, List.drop_zero, List.nil_append]
          rw [ih r f _ _ (by simp at hm; omega) hwd (by omega)]
          rw [List.length_append, List.append_assoc]
          simp [Nat.add_assoc]
        · obtain ⟨h192, h2, hall⟩ := hhigh (by have : bAt (c :: r) 0 = c.toNat := rfl; omega)
          generalize hg : (runeAt (c :: r) 0).2 = n at *
          generalize c :: r = s at *
          have e : s = s.take n ++ s.drop n := (List.take_append_drop n s).symm
          have htl : (s.take n).length = n := by rw [List.length_take]; omega
          have hh : ∀ x ∈ s.take n, 128 ≤ x.toNat := by
            intro x hx
            obtain ⟨i, hi, rfl⟩ := List.mem_iff_getElem.1 hx
            rw [htl] at hi
            have := hall i hi
            rw [bAt_get s i (by omega)] at this
            simpa using this
          have hq : quoteM s = s.take n ++ quoteM (s.drop n) := by
            conv => lhs; rw [e]
            rw [quoteM_append, quoteM_high _ hh]
          rw [hq, List.append_assoc, strGo, step_high (s.take n) _ n htl h0 (by rw [hrt, hg]) hh]
          simp only
          have hd : List.drop n (s.take n ++ (quoteM (s.drop n) ++ 34 :: behind)) = quoteM (s.drop n) ++ 34 :: behind := by
            rw [List.drop_append, htl, Nat.sub_self, List.drop_zero, List.drop_of_length_le (by omega), List.nil_append]
          rw [hq, List.length_append, htl] at hf
          rw [hd, ih (s.drop n) f _ _ (by rw [List.length_drop]; omega) hwd (by omega)]
          rw [List.length_append, htl, List.append_assoc]
          conv => rhs; rw [e]
          simp [Nat.add_assoc]

theorem quoteL_append (s behind : List UInt8) : quoteL s ++ behind = 34 :: (quoteM s ++ 34 :: behind) := by simp [quoteL]

theorem quoteL_len (s : List UInt8) : (quoteL s).length = (quoteM s).length + 2 := by simp [quoteL]

/-- What is quoted is one token, whatever stands behind it. -/
theorem tok_quote (s behind : List UInt8) (h : wholeTo s = s.length) : nextS (quoteL s ++ behind) = .tok 8 0 (quoteL s).length s := by
  rw [quoteL_append, quoteL_len]
  have hb : blanks (34 :: (quoteM s ++ 34 :: behind)) = 0 := rfl
  unfold nextS
  rw [hb, List.drop_zero, tokS, if_neg (by decide), if_neg (by decide), if_neg (by decide), if_neg (by decide), if_neg (by decide), if_neg (by decide)]
  have hp : ∀ w : List UInt8, w.headD 0 ≠ 34 → w ≠ [] → pre w (34 :: (quoteM s ++ 34 :: behind)) = false := by
    intro w hw hne
    unfold pre
    cases w with
    | nil => exact absurd rfl hne
    | cons x w =>
      simp only [List.headD_cons] at hw
      simp only [List.length_cons, List.take_succ_cons]
      rw [beq_eq_false_iff_ne]
      intro e
      simp only [List.cons.injEq] at e
      exact hw e.1.symm
  rw [if_neg (by rw [hp _ (by decide) (by simp)]; simp), if_neg (by rw [hp _ (by decide) (by simp)]; simp), if_neg (by rw [hp _ (by decide) (by simp)]; simp), if_pos rfl]
  rw [strGo_quote behind s.length s _ 1 [] (Nat.le_refl _) h (by simp; omega)]
  simp [LexR.shift]
  omega

end Go.Proofs.Ytkcfkdmffbhljaa

namespace Go.Proofs.Ytkcfkdmffbhljaa

def sl (s : ByteArray) : List UInt8 := s.data.toList
theorem sl_len (s : ByteArray) : (sl s).length = s.size := by unfold sl; simp
theorem sl_at {s : ByteArray} {p : Nat} (h : p < s.size) : (sl s).getD p 0 = s[p]'h := by
  rw [List.getD_eq_getElem?_getD, List.getElem?_eq_getElem (by rw [sl_len]; exact h)]
  rfl
theorem sl_drop {s : ByteArray} {p : Nat} (h : p < s.size) : (sl s).drop p = (s[p]'h) :: (sl s).drop (p + 1) := by
  rw [drop_getD _ 0 p (by rw [sl_len]; exact h), sl_at h]
theorem sl_txt (l : List UInt8) : sl (txt l) = l := rfl
theorem txt_sl (s : ByteArray) : txt (sl s) = s := rfl
theorem txt_size (l : List UInt8) : (txt l).size = l.length := by simp [txt, ByteArray.size]

end Go.Proofs.Ytkcfkdmffbhljaa

namespace Go.Proofs.Ytkcfkdmffbhljaa
open Go.RowKit
set_option linter.unusedVariables false
set_option linter.unusedSimpArgs false

/-- A text as bytes: a new row. -/
theorem conv_bytes (w : World) (s : ByteArray) (hs : s.size ≤ 1048576) : ∃ cap w', (convert 9 23 (.string s)).run Try.prog w = .ok (.slice (some ⟨w.heap.size, 0, none⟩) s.size cap) w' ∧ Below w.heap.size w w' ∧ w.heap.size < w'.heap.size ∧
    RdB w' (some ⟨w.heap.size, 0, none⟩) s.size (sl s) ∧ s.size ≤ cap ∧ ∀ j, j < s.size → w'.frozen? ⟨w.heap.size, j, none⟩ = false := by
  have hr := run_bytes_of_string (P := Try.prog) w 9 23 5 s Try.underlying9 Try.underlying23 Try.underlying5
  have hcap := grownCap_ge w s.size 0 5
  generalize grownCap w s.size 0 5 = cap at hr hcap
  have hbs : (bytesRow s cap).size = cap := by unfold bytesRow; simp; omega
  rw [hbs] at hr
  have hn : (w.drew.alloc (.cells (bytesRow s cap) 5 (cap, cap + 1))).heap[w.heap.size]? = some (.cells (bytesRow s cap) 5 (cap, cap + 1)) := heap_alloc_new w.drew _
  refine ⟨cap, _, hr, ((Below.refl w.heap.size w).drew).alloc (Nat.le_refl _) _, by simp, ⟨sl_len s, ?_, fun i hi => ⟨w.heap.size, 0, rfl, ?_⟩⟩, hcap, fun j hj => ?_⟩
  · omega
  · rw [Nat.zero_add, cell_of_row _ w.heap.size i _ _ _ hn]
    have h1 : i < (sl s).length := by rw [sl_len]; exact hi
    have e : (bytesRow s cap)[i]? = some (.int .u8 (((sl s)[i]'h1).toNat : Nat)) := by
      unfold bytesRow
      rw [Array.getElem?_append_left (by simpa using hi)]
      rw [Array.getElem?_map]
      have h2 : s.data[i]? = some ((sl s)[i]'h1) := by
        rw [Array.getElem?_eq_getElem (by simpa using hi)]
        rfl
      rw [h2]
      rfl
    rw [e]
    simp only [bAt, List.getD_eq_getElem?_getD, List.getElem?_eq_getElem h1, Option.getD_some]
  · unfold World.frozen?
    simp only [hn]
    simp
    omega

end Go.Proofs.Ytkcfkdmffbhljaa

namespace Go.Proofs.Ytkcfkdmffbhljaa
open Go.RowKit
set_option linter.unusedVariables false
set_option linter.unusedSimpArgs false

set_option maxRecDepth 100000 in
set_option maxHeartbeats 1000000 in
theorem rrune_out (a : Option Addr) (len cap : Nat) (p : Int) (w : World) (hm : len ≤ 9223372036854775807) (h : p < 0 ∨ (len : Int) ≤ p) :
    Calls Try.prog 106 #[.slice a len cap, .int .i64 p] w fun e w' => e = .returned (.tuple #[.int .i64 0, .int .i64 0]) ∧ w = w' := by
  by_cases h0 : p < 0
  · have d0 : decide (p < 0) = true := by simp; omega
    go_enter Try.func106, Try.ntmps106
    go_wp2_with fail
    go_ret2
    exact ⟨rfl, rfl⟩
  · have d0 : decide (p < 0) = false := by simp; omega
    have d1 : decide ((len : Int) ≤ p) = true := by simp; omega
    go_enter Try.func106, Try.ntmps106
    go_wp2_with fail
    go_ret2
    exact ⟨rfl, rfl⟩

set_option maxRecDepth 100000 in
set_option maxHeartbeats 1000000 in
theorem rrune_one (a : Option Addr) (len cap p : Nat) (w : World) (l : List UInt8) (h : RdB w a len l) (hp : p < len) (hc : bAt l p < 128) :
    Calls Try.prog 106 #[.slice a len cap, .int .i64 p] w fun e w' => e = .returned (.tuple #[.int .i64 (bAt l p : Nat), .int .i64 1]) ∧ w = w' := by
  have hm := h.2.1
  obtain ⟨b, o, rfl, hcc⟩ := h.at p hp
  clear h
  generalize bAt l p = c at hc hcc
  have d0 : decide ((p : Int) < 0) = false := by simp
  have d1 : decide ((len : Int) ≤ (p : Int)) = false := by simp; omega
  have hc' : (c : Int) < 128 := by omega
  go_enter Try.func106, Try.ntmps106
  go_wp2_with fail
  go_ret2
  exact ⟨rfl, rfl⟩

set_option maxRecDepth 100000 in
set_option maxHeartbeats 1000000 in
theorem rrune_bad (a : Option Addr) (len cap p : Nat) (w : World) (l : List UInt8) (h : RdB w a len l) (hp : p < len) (hc : (128 ≤ bAt l p ∧ bAt l p < 192) ∨ 248 ≤ bAt l p) :
    Calls Try.prog 106 #[.slice a len cap, .int .i64 p] w fun e w' => e = .returned (.tuple #[.int .i64 0, .int .i64 0]) ∧ w = w' := by
  have hm := h.2.1
  obtain ⟨b, o, rfl, hcc⟩ := h.at p hp
  have hb := bAt_bd l p
  clear h
  generalize bAt l p = c at hc hcc hb
  have d0 : decide ((p : Int) < 0) = false := by simp
  have d1 : decide ((len : Int) ≤ (p : Int)) = false := by simp; omega
  rcases hc with ⟨h1, h2⟩ | h1
  all_goals
    go_enter Try.func106, Try.ntmps106
    go_wp2_with fail
    go_ret2
    exact ⟨rfl, rfl⟩

end Go.Proofs.Ytkcfkdmffbhljaa

namespace Go.Proofs.Ytkcfkdmffbhljaa
open Go.RowKit
set_option linter.unusedVariables false
set_option linter.unusedSimpArgs false

set_option maxRecDepth 100000 in
set_option maxHeartbeats 2000000 in
theorem rrune_2 (a : Option Addr) (len cap p : Nat) (w : World) (l : List UInt8) (h : RdB w a len l) (hp : p < len) (h1 : 192 ≤ bAt l p) (h2 : bAt l p < 224) :
    Calls Try.prog 106 #[.slice a len cap, .int .i64 p] w fun e w' => e = .returned (.tuple #[.int .i64 ((more l p 2 (bAt l p - 192) 128).1 : Nat), .int .i64 ((more l p 2 (bAt l p - 192) 128).2 : Nat)]) ∧ w = w' := by
  have hm := h.2.1
  unfold more
  rw [h.1]
  obtain ⟨b, o, rfl, hcc⟩ := h.at p hp
  have H := Lib.hid h
  clear h
  generalize hc : bAt l p = c at hcc h1 h2
  have HC := Lib.hid hc
  clear hc
  have d0 : decide ((p : Int) < 0) = false := by simp
  have d1 : decide ((len : Int) ≤ (p : Int)) = false := by simp; omega
  have q0 : IntKind.i64.wrap ((len : Int) - (p : Int)) = (len : Int) - (p : Int) := IntWalk.i64_in _ (by omega)
  by_cases hs : len < p + 2
  · rw [if_pos hs]
    have d2 : decide ((len : Int) - (p : Int) < 2) = true := by simp; omega
    go_enter Try.func106, Try.ntmps106
    go_wp2_with fail
    go_ret2
    exact ⟨rfl, rfl⟩
  · rw [if_neg hs]
    have d2 : decide ((len : Int) - (p : Int) < 2) = false := by simp; omega
    obtain ⟨r0, hr0⟩ : ∃ r : Nat, r = c - 192 := ⟨_, rfl⟩
    have hr0' : (c : Int) - 192 = (r0 : Int) := by omega
    rw [← hr0]
    have hrb : r0 < 32 := by omega
    clear hr0
    go_enter Try.func106, Try.ntmps106
    go_wp2_with fail
    go_loop [8, 10] (fun r i => ∃ k rr : Nat, 1 ≤ k ∧ k ≤ 2 ∧ i = .int .i64 k ∧ r = .int .i64 rr ∧ Hid (tails l (k - 1) (p + 1) r0 = some rr) ∧ (k = 1 → rr < 32) ∧ (k = 2 → rr < 2048) ∧ (k = 3 → rr < 131072) ∧ rr < 8388608) (fun _ i => 2 - (intOf i).toNat)
    case atStart => exact ⟨1, r0, by omega, by omega, rfl, rfl, rfl, by omega, by omega, by omega, by omega⟩
    case round =>
      obtain ⟨k, rr, hk1, hk, rfl, rfl, ht, b1, b2, b3, b4⟩ := hrel
      by_cases hlt : k < 2
      · obtain ⟨b', o', ha', hx⟩ := H.out.at (p + k) (by omega)
        simp only [Option.some.injEq, Addr.mk.injEq, and_true] at ha'
        obtain ⟨rfl, rfl⟩ := ha'
        have hxb := bAt_bd l (p + k)
        have hsn := tails_snoc l (k - 1) (p + 1) r0 rr ht.out
        rw [show k - 1 + 1 = k from by omega, show p + 1 + (k - 1) = p + k from by omega] at hsn
        generalize bAt l (p + k) = x at hx hxb hsn
        have j0 : (0 : Int) ≤ (p : Int) + (k : Int) := by omega
        have j1 : (p : Int) + (k : Int) < (len : Int) := by omega
        have j3 : ((p : Int) + (k : Int)).toNat = p + k := by omega
        by_cases hx1 : 128 ≤ x ∧ x < 192
        · rw [if_pos hx1] at hsn
          obtain ⟨h3, h4⟩ := hx1
          have HS := Lib.hid hsn
          have hw : (rr : Int) * 64 + (x : Int) - 128 = ((rr * 64 + (x - 128) : Nat) : Int) := by omega
          have HW := Lib.hid hw
          clear hsn hw
          go_wp2_with fail
          go_round
          case rel => exact ⟨_, _, _, _, ⟨k + 1, by omega, by omega, by simp, rr * 64 + (x - 128), by rw [HW.out], HS.out, by omega, by omega, by omega, by omega⟩, rfl, rfl, rfl, rfl⟩
          case measure => simp [intOf]; omega
        · rw [if_neg hx1] at hsn
          have hn := tails_none l k (1 - k) (p + 1) r0 hsn
          rw [show k + (1 - k) = 1 from by omega] at hn
          have HN := Lib.hid hn
          clear hsn hn
          rcases (show x < 128 ∨ 192 ≤ x by omega) with g | g
          all_goals
            clear hx1
            go_wp2_with fail
            go_ret2
            exact ⟨by rw [HN.out]; rfl, rfl⟩
      · obtain rfl : k = 2 := by omega
        have HT : Hid (tails l 1 (p + 1) r0 = some rr) := ht
        clear ht b1 b2 b3
        rcases (show rr < 128 ∨ (128 ≤ rr ∧ 1114111 < rr) ∨ (128 ≤ rr ∧ 55296 ≤ rr ∧ rr ≤ 57343) ∨ (128 ≤ rr ∧ rr < 55296) ∨ (128 ≤ rr ∧ 57343 < rr ∧ rr ≤ 1114111) by omega) with g | ⟨g, g2⟩ | ⟨g, g2, g3⟩ | ⟨g, g2⟩ | ⟨g, g2, g3⟩
        · have HF : Hid (fin (some rr) 2 128 = (0, 0)) := by show fin _ _ _ = _; unfold fin; simp only; rw [if_pos (.inl g)]
          go_wp2_with fail
          go_ret2
          exact ⟨by rw [HT.out, HF.out]; rfl, rfl⟩
        · have HF : Hid (fin (some rr) 2 128 = (0, 0)) := by show fin _ _ _ = _; unfold fin; simp only; rw [if_pos (.inr (by unfold isCh; simp; omega))]
          go_wp2_with fail
          go_ret2
          exact ⟨by rw [HT.out, HF.out]; rfl, rfl⟩
        · have HF : Hid (fin (some rr) 2 128 = (0, 0)) := by show fin _ _ _ = _; unfold fin; simp only; rw [if_pos (.inr (by unfold isCh; simp; omega))]
          go_wp2_with fail
          go_ret2
          exact ⟨by rw [HT.out, HF.out]; rfl, rfl⟩
        · have HF : Hid (fin (some rr) 2 128 = (rr, 2)) := by show fin _ _ _ = _; unfold fin; simp only; rw [if_neg (by unfold isCh; simp; omega)]
          go_wp2_with fail
          go_ret2
          exact ⟨by rw [HT.out, HF.out]; rfl, rfl⟩
        · have HF : Hid (fin (some rr) 2 128 = (rr, 2)) := by show fin _ _ _ = _; unfold fin; simp only; rw [if_neg (by unfold isCh; simp; omega)]
          go_wp2_with fail
          go_ret2
          exact ⟨by rw [HT.out, HF.out]; rfl, rfl⟩
set_option maxRecDepth 100000 in
set_option maxHeartbeats 2000000 in
theorem rrune_3 (a : Option Addr) (len cap p : Nat) (w : World) (l : List UInt8) (h : RdB w a len l) (hp : p < len) (h1 : 224 ≤ bAt l p) (h2 : bAt l p < 240) :
    Calls Try.prog 106 #[.slice a len cap, .int .i64 p] w fun e w' => e = .returned (.tuple #[.int .i64 ((more l p 3 (bAt l p - 224) 2048).1 : Nat), .int .i64 ((more l p 3 (bAt l p - 224) 2048).2 : Nat)]) ∧ w = w' := by
  have hm := h.2.1
  unfold more
  rw [h.1]
  obtain ⟨b, o, rfl, hcc⟩ := h.at p hp
  have H := Lib.hid h
  clear h
  generalize hc : bAt l p = c at hcc h1 h2
  have HC := Lib.hid hc
  clear hc
  have d0 : decide ((p : Int) < 0) = false := by simp
  have d1 : decide ((len : Int) ≤ (p : Int)) = false := by simp; omega
  have q0 : IntKind.i64.wrap ((len : Int) - (p : Int)) = (len : Int) - (p : Int) := IntWalk.i64_in _ (by omega)
  by_cases hs : len < p + 3
  · rw [if_pos hs]
    have d2 : decide ((len : Int) - (p : Int) < 3) = true := by simp; omega
    go_enter Try.func106, Try.ntmps106
    go_wp2_with fail
    go_ret2
    exact ⟨rfl, rfl⟩
  · rw [if_neg hs]
    have d2 : decide ((len : Int) - (p : Int) < 3) = false := by simp; omega
    obtain ⟨r0, hr0⟩ : ∃ r : Nat, r = c - 224 := ⟨_, rfl⟩
    have hr0' : (c : Int) - 224 = (r0 : Int) := by omega
    rw [← hr0]
    have hrb : r0 < 32 := by omega
    clear hr0
    go_enter Try.func106, Try.ntmps106
    go_wp2_with fail
    go_loop [8, 10] (fun r i => ∃ k rr : Nat, 1 ≤ k ∧ k ≤ 3 ∧ i = .int .i64 k ∧ r = .int .i64 rr ∧ Hid (tails l (k - 1) (p + 1) r0 = some rr) ∧ (k = 1 → rr < 32) ∧ (k = 2 → rr < 2048) ∧ (k = 3 → rr < 131072) ∧ rr < 8388608) (fun _ i => 3 - (intOf i).toNat)
    case atStart => exact ⟨1, r0, by omega, by omega, rfl, rfl, rfl, by omega, by omega, by omega, by omega⟩
    case round =>
      obtain ⟨k, rr, hk1, hk, rfl, rfl, ht, b1, b2, b3, b4⟩ := hrel
      by_cases hlt : k < 3
      · obtain ⟨b', o', ha', hx⟩ := H.out.at (p + k) (by omega)
        simp only [Option.some.injEq, Addr.mk.injEq, and_true] at ha'
        obtain ⟨rfl, rfl⟩ := ha'
        have hxb := bAt_bd l (p + k)
        have hsn := tails_snoc l (k - 1) (p + 1) r0 rr ht.out
        rw [show k - 1 + 1 = k from by omega, show p + 1 + (k - 1) = p + k from by omega] at hsn
        generalize bAt l (p + k) = x at hx hxb hsn
        have j0 : (0 : Int) ≤ (p : Int) + (k : Int) := by omega
        have j1 : (p : Int) + (k : Int) < (len : Int) := by omega
        have j3 : ((p : Int) + (k : Int)).toNat = p + k := by omega
        by_cases hx1 : 128 ≤ x ∧ x < 192
        · rw [if_pos hx1] at hsn
          obtain ⟨h3, h4⟩ := hx1
          have HS := Lib.hid hsn
          have hw : (rr : Int) * 64 + (x : Int) - 128 = ((rr * 64 + (x - 128) : Nat) : Int) := by omega
          have HW := Lib.hid hw
          clear hsn hw
          go_wp2_with fail
          go_round
          case rel => exact ⟨_, _, _, _, ⟨k + 1, by omega, by omega, by simp, rr * 64 + (x - 128), by rw [HW.out], HS.out, by omega, by omega, by omega, by omega⟩, rfl, rfl, rfl, rfl⟩
          case measure => simp [intOf]; omega
        · rw [if_neg hx1] at hsn
          have hn := tails_none l k (2 - k) (p + 1) r0 hsn
          rw [show k + (2 - k) = 2 from by omega] at hn
          have HN := Lib.hid hn
          clear hsn hn
          rcases (show x < 128 ∨ 192 ≤ x by omega) with g | g
          all_goals
            clear hx1
            go_wp2_with fail
            go_ret2
            exact ⟨by rw [HN.out]; rfl, rfl⟩
      · obtain rfl : k = 3 := by omega
        have HT : Hid (tails l 2 (p + 1) r0 = some rr) := ht
        clear ht b1 b2 b3
        rcases (show rr < 2048 ∨ (2048 ≤ rr ∧ 1114111 < rr) ∨ (2048 ≤ rr ∧ 55296 ≤ rr ∧ rr ≤ 57343) ∨ (2048 ≤ rr ∧ rr < 55296) ∨ (2048 ≤ rr ∧ 57343 < rr ∧ rr ≤ 1114111) by omega) with g | ⟨g, g2⟩ | ⟨g, g2, g3⟩ | ⟨g, g2⟩ | ⟨g, g2, g3⟩
        · have HF : Hid (fin (some rr) 3 2048 = (0, 0)) := by show fin _ _ _ = _; unfold fin; simp only; rw [if_pos (.inl g)]
          go_wp2_with fail
          go_ret2
          exact ⟨by rw [HT.out, HF.out]; rfl, rfl⟩
        · have HF : Hid (fin (some rr) 3 2048 = (0, 0)) := by show fin _ _ _ = _; unfold fin; simp only; rw [if_pos (.inr (by unfold isCh; simp; omega))]
          go_wp2_with fail
          go_ret2
          exact ⟨by rw [HT.out, HF.out]; rfl, rfl⟩
        · have HF : Hid (fin (some rr) 3 2048 = (0, 0)) := by show fin _ _ _ = _; unfold fin; simp only; rw [if_pos (.inr (by unfold isCh; simp; omega))]
          go_wp2_with fail
          go_ret2
          exact ⟨by rw [HT.out, HF.out]; rfl, rfl⟩
        · have HF : Hid (fin (some rr) 3 2048 = (rr, 3)) := by show fin _ _ _ = _; unfold fin; simp only; rw [if_neg (by unfold isCh; simp; omega)]
          go_wp2_with fail
          go_ret2
          exact ⟨by rw [HT.out, HF.out]; rfl, rfl⟩
        · have HF : Hid (fin (some rr) 3 2048 = (rr, 3)) := by show fin _ _ _ = _; unfold fin; simp only; rw [if_neg (by unfold isCh; simp; omega)]
          go_wp2_with fail
          go_ret2
          exact ⟨by rw [HT.out, HF.out]; rfl, rfl⟩
set_option maxRecDepth 100000 in
set_option maxHeartbeats 2000000 in
theorem rrune_4 (a : Option Addr) (len cap p : Nat) (w : World) (l : List UInt8) (h : RdB w a len l) (hp : p < len) (h1 : 240 ≤ bAt l p) (h2 : bAt l p < 248) :
    Calls Try.prog 106 #[.slice a len cap, .int .i64 p] w fun e w' => e = .returned (.tuple #[.int .i64 ((more l p 4 (bAt l p - 240) 65536).1 : Nat), .int .i64 ((more l p 4 (bAt l p - 240) 65536).2 : Nat)]) ∧ w = w' := by
  have hm := h.2.1
  unfold more
  rw [h.1]
  obtain ⟨b, o, rfl, hcc⟩ := h.at p hp
  have H := Lib.hid h
  clear h
  generalize hc : bAt l p = c at hcc h1 h2
  have HC := Lib.hid hc
  clear hc
  have d0 : decide ((p : Int) < 0) = false := by simp
  have d1 : decide ((len : Int) ≤ (p : Int)) = false := by simp; omega
  have q0 : IntKind.i64.wrap ((len : Int) - (p : Int)) = (len : Int) - (p : Int) := IntWalk.i64_in _ (by omega)
  by_cases hs : len < p + 4
  · rw [if_pos hs]
    have d2 : decide ((len : Int) - (p : Int) < 4) = true := by simp; omega
    go_enter Try.func106, Try.ntmps106
    go_wp2_with fail
    go_ret2
    exact ⟨rfl, rfl⟩
  · rw [if_neg hs]
    have d2 : decide ((len : Int) - (p : Int) < 4) = false := by simp; omega
    obtain ⟨r0, hr0⟩ : ∃ r : Nat, r = c - 240 := ⟨_, rfl⟩
    have hr0' : (c : Int) - 240 = (r0 : Int) := by omega
    rw [← hr0]
    have hrb : r0 < 32 := by omega
    clear hr0
    go_enter Try.func106, Try.ntmps106
    go_wp2_with fail
    go_loop [8, 10] (fun r i => ∃ k rr : Nat, 1 ≤ k ∧ k ≤ 4 ∧ i = .int .i64 k ∧ r = .int .i64 rr ∧ Hid (tails l (k - 1) (p + 1) r0 = some rr) ∧ (k = 1 → rr < 32) ∧ (k = 2 → rr < 2048) ∧ (k = 3 → rr < 131072) ∧ rr < 8388608) (fun _ i => 4 - (intOf i).toNat)
    case atStart => exact ⟨1, r0, by omega, by omega, rfl, rfl, rfl, by omega, by omega, by omega, by omega⟩
    case round =>
      obtain ⟨k, rr, hk1, hk, rfl, rfl, ht, b1, b2, b3, b4⟩ := hrel
      by_cases hlt : k < 4
      · obtain ⟨b', o', ha', hx⟩ := H.out.at (p + k) (by omega)
        simp only [Option.some.injEq, Addr.mk.injEq, and_true] at ha'
        obtain ⟨rfl, rfl⟩ := ha'
        have hxb := bAt_bd l (p + k)
        have hsn := tails_snoc l (k - 1) (p + 1) r0 rr ht.out
        rw [show k - 1 + 1 = k from by omega, show p + 1 + (k - 1) = p + k from by omega] at hsn
        generalize bAt l (p + k) = x at hx hxb hsn
        have j0 : (0 : Int) ≤ (p : Int) + (k : Int) := by omega
        have j1 : (p : Int) + (k : Int) < (len : Int) := by omega
        have j3 : ((p : Int) + (k : Int)).toNat = p + k := by omega
        by_cases hx1 : 128 ≤ x ∧ x < 192
        · rw [if_pos hx1] at hsn
          obtain ⟨h3, h4⟩ := hx1
          have HS := Lib.hid hsn
          have hw : (rr : Int) * 64 + (x : Int) - 128 = ((rr * 64 + (x - 128) : Nat) : Int) := by omega
          have HW := Lib.hid hw
          clear hsn hw
          go_wp2_with fail
          go_round
          case rel => exact ⟨_, _, _, _, ⟨k + 1, by omega, by omega, by simp, rr * 64 + (x - 128), by rw [HW.out], HS.out, by omega, by omega, by omega, by omega⟩, rfl, rfl, rfl, rfl⟩
          case measure => simp [intOf]; omega
        · rw [if_neg hx1] at hsn
          have hn := tails_none l k (3 - k) (p + 1) r0 hsn
          rw [show k + (3 - k) = 3 from by omega] at hn
          have HN := Lib.hid hn
          clear hsn hn
          rcases (show x < 128 ∨ 192 ≤ x by omega) with g | g
          all_goals
            clear hx1
            go_wp2_with fail
            go_ret2
            exact ⟨by rw [HN.out]; rfl, rfl⟩
      · obtain rfl : k = 4 := by omega
        have HT : Hid (tails l 3 (p + 1) r0 = some rr) := ht
        clear ht b1 b2 b3
        rcases (show rr < 65536 ∨ (65536 ≤ rr ∧ 1114111 < rr) ∨ (65536 ≤ rr ∧ 57343 < rr ∧ rr ≤ 1114111) by omega) with g | ⟨g, g2⟩ | ⟨g, g2, g3⟩
        · have HF : Hid (fin (some rr) 4 65536 = (0, 0)) := by show fin _ _ _ = _; unfold fin; simp only; rw [if_pos (.inl g)]
          go_wp2_with fail
          go_ret2
          exact ⟨by rw [HT.out, HF.out]; rfl, rfl⟩
        · have HF : Hid (fin (some rr) 4 65536 = (0, 0)) := by show fin _ _ _ = _; unfold fin; simp only; rw [if_pos (.inr (by unfold isCh; simp; omega))]
          go_wp2_with fail
          go_ret2
          exact ⟨by rw [HT.out, HF.out]; rfl, rfl⟩
        · have HF : Hid (fin (some rr) 4 65536 = (rr, 4)) := by show fin _ _ _ = _; unfold fin; simp only; rw [if_neg (by unfold isCh; simp; omega)]
          go_wp2_with fail
          go_ret2
          exact ⟨by rw [HT.out, HF.out]; rfl, rfl⟩
end Go.Proofs.Ytkcfkdmffbhljaa

namespace Go.Proofs.Ytkcfkdmffbhljaa
open Go

/-- As Q; by a goto to one of the labels: J; by another goto: no way out. -/
def JumpTo (L : Nat → Prop) (J : Nat → Act → World → Prop) (Q : Exit → Act → World → Prop) : Exit → Act → World → Prop
  | .goto l, a, w => L l ∧ J l a w
  | e, a, w => Q e a w

theorem wp_scope_many {P : Program} {a : Act} {w : World} {Q : Exit → Act → World → Prop} {c : Code} (L : Nat → Prop) (rest : Nat → Code) (J : Nat → Act → World → Prop) (μ : Nat → Act → World → Nat)
    (hf : ∀ l, L l → findLabel c l = some (rest l)) (first : c.wp P (JumpTo L J Q) a w)
    (pass : ∀ l a w, L l → J l a w → (rest l).wp P (JumpTo L (fun l' a' w' => J l' a' w' ∧ μ l' a' w' < μ l a w) Q) a w) : (Code.scope c).wp P Q a w := by
  intro b k cs
  have hg : ∀ l, L l → gotoIn l (.inScope c :: k) = some (.code (rest l) :: .inScope c :: k) := fun l hl => by simp [gotoIn, hf l hl]
  have key : ∀ n l a w, L l → μ l a w = n → J l a w → ∃ e a' w', Q e a' w' ∧ Arrives P (lone (b.at a (.code (rest l) :: .inScope c :: k)) cs w) b k cs e a' w' := by
    intro n
    induction n using Nat.strongRecOn with
    | _ n ih =>
      intro l a w hl hn hJ
      obtain ⟨e, a₁, w₁, hq, harr⟩ := pass l a w hl hJ b (.inScope c :: k) cs
      cases e with
      | normal => exact ⟨.normal, a₁, w₁, hq, Steps.trans harr (.one step_inScope)⟩
      | exit id => exact ⟨.exit id, a₁, w₁, hq, fun k' hk => harr k' (by simp [exitTo, hk])⟩
      | goto l' =>
        obtain ⟨hl', hJ', hlt⟩ := hq
        obtain ⟨e₂, a₂, w₂, hq₂, harr₂⟩ := ih _ (by omega) l' a₁ w₁ hl' rfl hJ'
        exact ⟨e₂, a₂, w₂, hq₂, .of_steps (harr _ (hg l' hl')) harr₂⟩
      | ret => exact ⟨_, a₁, w₁, hq, harr⟩
      | panic ch => exact ⟨_, a₁, w₁, hq, harr⟩
      | outgrown => exact ⟨_, a₁, w₁, hq, harr⟩
  obtain ⟨e, a₁, w₁, hq, harr⟩ := first b (.inScope c :: k) cs
  cases e with
  | normal => exact ⟨.normal, a₁, w₁, hq, .head step_scope (Steps.trans harr (.one step_inScope))⟩
  | exit id => exact ⟨.exit id, a₁, w₁, hq, fun k' hk => .head step_scope (harr k' (by simp [exitTo, hk]))⟩
  | goto l' =>
    obtain ⟨hl', hJ'⟩ := hq
    obtain ⟨e₂, a₂, w₂, hq₂, harr₂⟩ := key _ l' a₁ w₁ hl' rfl hJ'
    exact ⟨e₂, a₂, w₂, hq₂, .of_steps (.head step_scope (harr _ (hg l' hl'))) harr₂⟩
  | ret => exact ⟨_, a₁, w₁, hq, .of_steps (.one step_scope) harr⟩
  | panic ch => exact ⟨_, a₁, w₁, hq, .of_steps (.one step_scope) harr⟩
  | outgrown => exact ⟨_, a₁, w₁, hq, .of_steps (.one step_scope) harr⟩

end Go.Proofs.Ytkcfkdmffbhljaa

namespace Go.Proofs.Ytkcfkdmffbhljaa
open Go.RowKit
set_option linter.unusedVariables false
set_option linter.unusedSimpArgs false

theorem rrune_calls (a : Option Addr) (len cap p : Nat) (w : World) (l : List UInt8) (h : RdB w a len l) :
    Calls Try.prog 106 #[.slice a len cap, .int .i64 p] w fun e w' => e = .returned (.tuple #[.int .i64 ((runeAt l p).1 : Nat), .int .i64 ((runeAt l p).2 : Nat)]) ∧ w = w' := by
  have hl := h.1
  unfold runeAt
  rw [hl]
  have hb := bAt_lt l p
  by_cases h0 : len ≤ p
  · rw [if_pos h0]; exact rrune_out a len cap p w h.2.1 (.inr (by omega))
  rw [if_neg h0]
  by_cases h1 : bAt l p < 128
  · rw [if_pos h1]; exact rrune_one a len cap p w l h (by omega) h1
  rw [if_neg h1]
  by_cases h2 : bAt l p < 192
  · rw [if_pos h2]; exact rrune_bad a len cap p w l h (by omega) (.inl (by omega))
  rw [if_neg h2]
  by_cases h3 : bAt l p < 224
  · rw [if_pos h3]; exact rrune_2 a len cap p w l h (by omega) (by omega) (by omega)
  rw [if_neg h3]
  by_cases h4 : bAt l p < 240
  · rw [if_pos h4]; exact rrune_3 a len cap p w l h (by omega) (by omega) (by omega)
  rw [if_neg h4]
  by_cases h5 : bAt l p < 248
  · rw [if_pos h5]; exact rrune_4 a len cap p w l h (by omega) (by omega) (by omega)
  rw [if_neg h5]; exact rrune_bad a len cap p w l h (by omega) (.inr (by omega))

theorem and_192f : ∀ x : Fin 256, bits BinOp.and IntKind.u8 ((x : Nat) : Int) 192 = (((x : Nat) / 64 * 64 : Nat) : Int) := by decide +kernel
theorem and_63uf : ∀ x : Fin 256, bits BinOp.and IntKind.u8 ((x : Nat) : Int) 63 = (((x : Nat) % 64 : Nat) : Int) := by decide +kernel
theorem and_31if : ∀ x : Fin 256, bits BinOp.and IntKind.i64 ((x : Nat) : Int) 31 = (((x : Nat) % 32 : Nat) : Int) := by decide +kernel
theorem and_15if : ∀ x : Fin 256, bits BinOp.and IntKind.i64 ((x : Nat) : Int) 15 = (((x : Nat) % 16 : Nat) : Int) := by decide +kernel
theorem and_7if : ∀ x : Fin 256, bits BinOp.and IntKind.i64 ((x : Nat) : Int) 7 = (((x : Nat) % 8 : Nat) : Int) := by decide +kernel
theorem or_64u (r x : Nat) (h : r < 1000000000) (hx : x < 64) : bits BinOp.or IntKind.i64 ((r : Int) * 64) (x : Int) = ((r * 64 + x : Nat) : Int) := by
  rw [bits_join .i64 40 (by decide) (fun n h0 h1 => IntWalk.i64_in _ (by omega)) 6 _ _ (by omega) (by omega) (by omega) (by omega) (by omega) (by omega)]
  omega

def UFr (a : Act) (u : Nat → Value) : Prop := a = ⟨((List.range 96).map u).toArray, []⟩

theorem UFr.of (A : Array Value) (h : A.size = 96) : UFr ⟨A, []⟩ (fun i => A.getD i undef) := by
  unfold UFr
  congr 1
  apply Array.ext
  · simp [h]
  · intro i h1 h2
    simp [h1]

def UL (l : Nat) : Prop := l = 0 ∨ l = 1

/-- The state at 'next'. -/
structure USt (ab : Option Addr) (len cap p : Nat) (l : List UInt8) (u : Nat → Value) (m least k r0 rr : Nat) : Prop where
  s0 : u 0 = .slice ab len cap
  s1 : u 1 = .int .i64 p
  s4 : u 4 = .int .i64 rr
  s7 : u 7 = .int .i64 m
  s8 : u 8 = .int .i64 least
  s9 : u 9 = .int .i64 k
  k1 : 1 ≤ k
  km : k ≤ m + 1
  m3 : m ≤ 3
  hp : p + m < len
  res : runeAt l p = fin (tails l m (p + 1) r0) (m + 1) least
  got : tails l (k - 1) (p + 1) r0 = some rr
  bd : rr < 64 ^ k
  hl : least ≤ 65536

def UJ (ab : Option Addr) (len cap p : Nat) (l : List UInt8) (w : World) : Nat → Act → World → Prop
  | 0, a, w' => ∃ u, UFr a u ∧ runeAt l p = (0, 0) ∧ w = w'
  | _, a, w' => ∃ u m least k r0 rr, UFr a u ∧ USt ab len cap p l u m least k r0 rr ∧ w = w'

def umu (l : Nat) (a : Act) (_ : World) : Nat := if l = 1 then 10 - (intOf (a.tmps.getD 9 undef)).toNat else 0

/-- What Rune answers. -/
def RuneOut (l : List UInt8) (p : Nat) (w : World) (e : Ending) (w' : World) : Prop := e = .returned (.tuple #[.int .i64 ((runeAt l p).1 : Nat), .int .i64 ((runeAt l p).2 : Nat)]) ∧ w = w'

noncomputable def ucode : Code := match Try.f104.body with | some (.seq _ (.seq _ (.scope c))) => c | some (.seq _ (.scope c)) => c | _ => .skip
noncomputable def urest (l : Nat) : Code := (findLabel ucode l).getD .skip
/-- What stands behind 'next'. -/
noncomputable def unext : Code := match urest 1 with | .seq _ x => x | c => c

theorem urest_next : urest 1 = .seq .skip unext := by kernel_rfl

set_option maxRecDepth 100000 in
set_option maxHeartbeats 1000000 in
theorem upass0 (ab : Option Addr) (len cap p : Nat) (l : List UInt8) (w : World) (a : Act) (w' : World) (hJ : UJ ab len cap p l w 0 a w') (J : Nat → Act → World → Prop) :
    (urest 0).wp Try.prog (JumpTo UL J (bodyPost Try.prog Try.f104 (RuneOut l p w))) a w' := by
  obtain ⟨u, rfl, hr, rfl⟩ := hJ
  have HR := Lib.hid hr
  clear hr
  simp only [List.range, List.range.loop, List.map_cons, List.map_nil]
  conv => arg 2; whnf
  go_wp2_with fail
  simp only [JumpTo]
  go_ret2
  exact ⟨by rw [HR.out]; rfl, rfl⟩

end Go.Proofs.Ytkcfkdmffbhljaa

namespace Go.Proofs.Ytkcfkdmffbhljaa
open Go.RowKit
set_option linter.unusedVariables false
set_option linter.unusedSimpArgs false

/-- The way to 'none'. -/
theorem uto_none {ab : Option Addr} {len cap p : Nat} {l : List UInt8} {w : World} {a : Act} {A : Array Value} (hA : A.size = 96) (hr : runeAt l p = (0, 0)) (hl : 0 < umu 1 a w) :
    UL 0 ∧ UJ ab len cap p l w 0 ⟨A, []⟩ w ∧ umu 0 ⟨A, []⟩ w < umu 1 a w :=
  ⟨.inl rfl, ⟨_, UFr.of A hA, hr, rfl⟩, by show (if (0 : Nat) = 1 then _ else 0) < _; simpa using hl⟩

/-- On to the next byte. -/
theorem uto_next {ab : Option Addr} {len cap p : Nat} {l : List UInt8} {w : World} {a : Act} {A : Array Value} {m least k r0 rr : Nat} (hA : A.size = 96) (s0 : A.getD 0 undef = .slice ab len cap) (s1 : A.getD 1 undef = .int .i64 p) (s4 : A.getD 4 undef = .int .i64 rr)
    (s7 : A.getD 7 undef = .int .i64 m) (s8 : A.getD 8 undef = .int .i64 least) (s9 : A.getD 9 undef = .int .i64 ((k + 1 : Nat) : Int)) (km : k ≤ m) (m3 : m ≤ 3) (hp : p + m < len) (hres : runeAt l p = fin (tails l m (p + 1) r0) (m + 1) least)
    (hgot : tails l k (p + 1) r0 = some rr) (hbd : rr < 64 ^ (k + 1)) (hl : least ≤ 65536) (ha : a.tmps.getD 9 undef = .int .i64 (k : Nat)) :
    UL 1 ∧ UJ ab len cap p l w 1 ⟨A, []⟩ w ∧ umu 1 ⟨A, []⟩ w < umu 1 a w := by
  refine ⟨.inr rfl, ⟨_, m, least, k + 1, r0, rr, UFr.of A hA, ⟨s0, s1, s4, s7, s8, s9, by omega, by omega, m3, hp, hres, hgot, hbd, hl⟩, rfl⟩, ?_⟩
  unfold umu
  rw [if_pos rfl, if_pos rfl, s9, ha]
  simp only [intOf]
  omega

set_option maxRecDepth 100000 in
set_option maxHeartbeats 2000000 in
theorem upass1 (ab : Option Addr) (len cap p : Nat) (l : List UInt8) (w : World) (h : RdB w ab len l) (a : Act) (w' : World) (hJ : UJ ab len cap p l w 1 a w') :
    unext.wp Try.prog (JumpTo UL (fun l' a' w'' => UJ ab len cap p l w l' a' w'' ∧ umu l' a' w'' < umu 1 a w') (bodyPost Try.prog Try.f104 (RuneOut l p w))) a w' := by
  obtain ⟨u, m, least, k, r0, rr, rfl, ⟨s0, s1, s4, s7, s8, s9, k1, km, m3, hp, hres, hgot, hbd, hl⟩, rfl⟩ := hJ
  have hm := h.2.1
  have H := Lib.hid h
  have HRes := Lib.hid hres
  have HG := Lib.hid hgot
  have HBd := Lib.hid hbd
  have hbd2 : rr < 16777216 := Nat.lt_of_lt_of_le hbd (Nat.pow_le_pow_right (by decide) (show k ≤ 4 by omega))
  clear h hres hgot hbd
  have hmu : 0 < umu 1 (⟨((List.range 96).map u).toArray, []⟩ : Act) w := by
    unfold umu
    rw [if_pos rfl]
    have : (((List.range 96).map u).toArray.getD 9 undef) = u 9 := by simp
    show 0 < 10 - (intOf (((List.range 96).map u).toArray.getD 9 undef)).toNat
    rw [this, s9]; simp only [intOf]; omega
  have HMU := Lib.hid hmu
  clear hmu
  generalize hA0 : (⟨((List.range 96).map u).toArray, []⟩ : Act) = A0 at HMU ⊢
  have h9 : A0.tmps.getD 9 undef = .int .i64 (k : Nat) := by rw [← hA0]; simp [s9]
  have H9 := Lib.hid h9
  clear h9
  conv => arg 4; rw [← hA0]
  clear hA0
  simp only [List.range, List.range.loop, List.map_cons, List.map_nil, s0, s1, s4, s7, s8, s9]
  clear s0 s1 s4 s7 s8 s9
  by_cases hlt : k ≤ m
  · obtain ⟨b', o', rfl, hx⟩ := H.out.at (p + k) (by omega)
    have hxb := bAt_lt l (p + k)
    have hsn := tails_snoc l (k - 1) (p + 1) r0 rr HG.out
    rw [show k - 1 + 1 = k from by omega, show p + 1 + (k - 1) = p + k from by omega] at hsn
    generalize bAt l (p + k) = x at hx hxb hsn
    have j0 : (0 : Int) ≤ (p : Int) + (k : Int) := by omega
    have j1 : (p : Int) + (k : Int) < (len : Int) := by omega
    have j3 : ((p : Int) + (k : Int)).toNat = p + k := by omega
    have qa : bits BinOp.and IntKind.u8 (x : Int) 192 = ((x / 64 * 64 : Nat) : Int) := and_192f ⟨x, hxb⟩
    by_cases hx1 : 128 ≤ x ∧ x < 192
    · rw [if_pos hx1] at hsn
      obtain ⟨h3, h4⟩ := hx1
      have HS := Lib.hid hsn
      have e2 : x / 64 * 64 = 128 := by omega
      rw [e2] at qa
      obtain ⟨y, hy⟩ : ∃ y : Nat, y = x % 64 := ⟨_, rfl⟩
      have qb : bits BinOp.and IntKind.u8 (x : Int) 63 = (y : Int) := by rw [hy]; exact and_63uf ⟨x, hxb⟩
      have hy64 : y < 64 := by omega
      have hyx : y = x - 128 := by omega
      have qc := or_64u rr y (by omega) hy64
      have HN : Hid (rr * 64 + y < 64 ^ (k + 1)) := by
        show rr * 64 + y < 64 ^ (k + 1)
        rw [Nat.pow_succ]; have := HBd.out; omega
      have HY : Hid (tails l k (p + 1) r0 = some (rr * 64 + y)) := by show _ = _; rw [hsn, hyx]
      clear hsn hy hyx e2 hxb
      generalize hz : rr * 64 + y = z at qc HN HY
      clear hz
      conv => arg 2; whnf
      go_wp2_with fail
      go_step3
      exact uto_next rfl rfl rfl rfl rfl rfl (by simp) hlt m3 hp HRes.out HY.out HN.out hl H9.out
    · rw [if_neg hx1] at hsn
      have hn := tails_none l k (m - k) (p + 1) r0 hsn
      rw [show k + (m - k) = m from by omega] at hn
      have hr := HRes.out
      rw [hn] at hr
      have HR := Lib.hid (show runeAt l p = (0, 0) from hr)
      have d : ((x / 64 * 64 : Nat) : Int) ≠ 128 := by omega
      generalize x / 64 * 64 = y at qa d
      clear hsn hn hr hx1
      conv => arg 2; whnf
      go_wp2_with fail
      go_step3
      exact uto_none rfl HR.out HMU.out
  · obtain rfl : k = m + 1 := by omega
    have hg := HG.out
    rw [Nat.add_sub_cancel] at hg
    have hr := HRes.out
    rw [hg] at hr
    have CI := Lib.hid (is_calls (rr : Int) w)
    cases hi : isCh (rr : Int) with
    | true =>
      rw [hi] at CI
      by_cases hle : rr < least
      · have HR := Lib.hid (show runeAt l p = (0, 0) by rw [hr]; unfold fin; simp only; rw [if_pos (.inl hle)])
        clear hg hr hi
        conv => arg 2; whnf
        go_wp2_with (go_at_call 107; refine CI.out.mono ?_; rintro e w' ⟨rfl, rfl⟩)
        go_step3
        exact uto_none rfl HR.out HMU.out
      · have HR := Lib.hid (show runeAt l p = (rr, m + 1) by rw [hr]; unfold fin; simp only; rw [if_neg (by rw [hi]; simp; omega)])
        clear hg hr hi
        conv => arg 2; whnf
        go_wp2_with (go_at_call 107; refine CI.out.mono ?_; rintro e w' ⟨rfl, rfl⟩)
        simp only [JumpTo]
        go_ret2
        exact ⟨by rw [HR.out]; rfl, rfl⟩
    | false =>
      rw [hi] at CI
      have HR := Lib.hid (show runeAt l p = (0, 0) by rw [hr]; unfold fin; simp only; rw [if_pos (.inr hi)])
      clear hg hr hi
      by_cases hle : rr < least
      all_goals
        conv => arg 2; whnf
        go_wp2_with (go_at_call 107; refine CI.out.mono ?_; rintro e w' ⟨rfl, rfl⟩)
        go_step3
        exact uto_none rfl HR.out HMU.out

end Go.Proofs.Ytkcfkdmffbhljaa

namespace Go.Proofs.Ytkcfkdmffbhljaa
open Go.RowKit
set_option linter.unusedVariables false
set_option linter.unusedSimpArgs false

theorem wp_code_eq {P : Program} {c c' : Code} {Q : Exit → Act → World → Prop} {a : Act} {w : World} (h : c = c') (hw : c'.wp P Q a w) : c.wp P Q a w := h ▸ hw

theorem ujump_weaken {ab : Option Addr} {len cap p : Nat} {l : List UInt8} {w w' : World} {a : Act} {Q : Exit → Act → World → Prop} : ∀ (e : Exit) (a' : Act) (w'' : World),
    JumpTo UL (fun l' a' w'' => UJ ab len cap p l w l' a' w'' ∧ umu l' a' w'' < umu 1 a w') Q e a' w'' → JumpTo UL (UJ ab len cap p l w) Q e a' w'' := by
  intro e a' w'' h
  cases e <;> first | exact h | exact ⟨h.1, h.2.1⟩

set_option maxRecDepth 100000 in
set_option maxHeartbeats 2000000 in
theorem rune_calls (ab : Option Addr) (len cap p : Nat) (w : World) (l : List UInt8) (h : RdB w ab len l) :
    Calls Try.prog 104 #[.slice ab len cap, .int .i64 p] w (RuneOut l p w) := by
  have hm := h.2.1
  have H := Lib.hid h
  have hlen := h.1
  have HL := Lib.hid hlen
  clear hlen
  go_enter Try.func104, Try.ntmps104
  go_wp2_with fail
  refine wp_scope_many UL urest (UJ ab len cap p l w) umu (fun l hl => by rcases hl with rfl | rfl <;> rfl) ?first (fun l' a w' hl hJ => by
    rcases hl with rfl | rfl
    · exact upass0 ab len cap p l w a w' hJ _
    · rw [urest_next]; exact wp_seq (wp_skip (upass1 ab len cap p l w H.out a w' hJ)))
  case first =>
    have hr : runeAt l p = runeAt l p := rfl
    conv at hr => rhs; unfold runeAt
    by_cases h0 : len ≤ p
    · rw [if_pos (by rw [HL.out]; exact h0)] at hr
      have HR := Lib.hid hr
      have d0 : decide ((p : Int) < 0) = false := by simp
      have d1 : decide ((len : Int) ≤ (p : Int)) = true := by simp; omega
      clear hr h
      go_wp2_with fail
      go_step3
      exact ⟨.inl rfl, _, UFr.of _ rfl, HR.out, rfl⟩
    · rw [if_neg (by rw [HL.out]; exact h0)] at hr
      obtain ⟨b, o, rfl, hcc⟩ := h.at p (by omega)
      have hcb := bAt_lt l p
      generalize hc : bAt l p = c at hcc hcb hr
      clear h hc
      have d0 : decide ((p : Int) < 0) = false := by simp
      have d1 : decide ((len : Int) ≤ (p : Int)) = false := by simp; omega
      by_cases h1 : c < 128
      · rw [if_pos h1] at hr
        have HR := Lib.hid hr
        clear hr
        go_wp2_with fail
        simp only [JumpTo]
        go_ret2
        exact ⟨by rw [HR.out]; rfl, rfl⟩
      rw [if_neg h1] at hr
      by_cases h2 : c < 192
      · rw [if_pos h2] at hr
        have HR := Lib.hid hr
        clear hr
        go_wp2_with fail
        go_step3
        exact ⟨.inl rfl, _, UFr.of _ rfl, HR.out, rfl⟩
      rw [if_neg h2] at hr
      have q0 : IntKind.i64.wrap ((len : Int) - (p : Int)) = (len : Int) - (p : Int) := IntWalk.i64_in _ (by omega)
      have q1 : IntKind.i64.wrap ((len : Int) - (p : Int) - 1) = (len : Int) - (p : Int) - 1 := IntWalk.i64_in _ (by omega)
      by_cases h3 : c < 224
      · rw [if_pos h3] at hr
        unfold more at hr
        rw [HL.out] at hr
        have qa : bits BinOp.and IntKind.i64 (c : Int) 31 = ((c % 32 : Nat) : Int) := and_31if ⟨c, hcb⟩
        obtain ⟨r0, hr0⟩ : ∃ r : Nat, r = c - 192 := ⟨_, rfl⟩
        rw [show c % 32 = r0 by omega] at qa
        rw [← hr0] at hr
        have hrb : r0 < 64 := by omega
        clear hr0
        by_cases hs : len < p + 2
        · rw [if_pos hs] at hr
          have HR := Lib.hid hr
          have d2 : decide ((len : Int) - (p : Int) - 1 < 1) = true := by simp; omega
          clear hr
          go_wp2_with fail
          go_step3
          exact ⟨.inl rfl, _, UFr.of _ rfl, HR.out, rfl⟩
        · rw [if_neg hs] at hr
          have HR := Lib.hid hr
          have d2 : decide ((len : Int) - (p : Int) - 1 < 1) = false := by simp; omega
          clear hr
          go_wp2_with fail
          rename_i K hK
          go_step3
          refine hK _ _ (wp_code_eq (c' := unext) (by kernel_rfl) (Code.wp_mono ujump_weaken (upass1 _ len cap p l w H.out _ _ ?_)))
          exact ⟨_, 1, 128, 1, r0, r0, UFr.of _ rfl, ⟨rfl, rfl, rfl, rfl, rfl, rfl, by omega, by omega, by omega, by omega, HR.out, rfl, by omega, by omega⟩, rfl⟩
      rw [if_neg h3] at hr
      by_cases h4 : c < 240
      · rw [if_pos h4] at hr
        unfold more at hr
        rw [HL.out] at hr
        have qa : bits BinOp.and IntKind.i64 (c : Int) 15 = ((c % 16 : Nat) : Int) := and_15if ⟨c, hcb⟩
        obtain ⟨r0, hr0⟩ : ∃ r : Nat, r = c - 224 := ⟨_, rfl⟩
        rw [show c % 16 = r0 by omega] at qa
        rw [← hr0] at hr
        have hrb : r0 < 64 := by omega
        clear hr0
        by_cases hs : len < p + 3
        · rw [if_pos hs] at hr
          have HR := Lib.hid hr
          have d2 : decide ((len : Int) - (p : Int) - 1 < 2) = true := by simp; omega
          clear hr
          go_wp2_with fail
          go_step3
          exact ⟨.inl rfl, _, UFr.of _ rfl, HR.out, rfl⟩
        · rw [if_neg hs] at hr
          have HR := Lib.hid hr
          have d2 : decide ((len : Int) - (p : Int) - 1 < 2) = false := by simp; omega
          clear hr
          go_wp2_with fail
          rename_i K hK
          go_step3
          refine hK _ _ (wp_code_eq (c' := unext) (by kernel_rfl) (Code.wp_mono ujump_weaken (upass1 _ len cap p l w H.out _ _ ?_)))
          exact ⟨_, 2, 2048, 1, r0, r0, UFr.of _ rfl, ⟨rfl, rfl, rfl, rfl, rfl, rfl, by omega, by omega, by omega, by omega, HR.out, rfl, by omega, by omega⟩, rfl⟩
      rw [if_neg h4] at hr
      by_cases h5 : c < 248
      · rw [if_pos h5] at hr
        unfold more at hr
        rw [HL.out] at hr
        have qa : bits BinOp.and IntKind.i64 (c : Int) 7 = ((c % 8 : Nat) : Int) := and_7if ⟨c, hcb⟩
        obtain ⟨r0, hr0⟩ : ∃ r : Nat, r = c - 240 := ⟨_, rfl⟩
        rw [show c % 8 = r0 by omega] at qa
        rw [← hr0] at hr
        have hrb : r0 < 64 := by omega
        clear hr0
        by_cases hs : len < p + 4
        · rw [if_pos hs] at hr
          have HR := Lib.hid hr
          have d2 : decide ((len : Int) - (p : Int) - 1 < 3) = true := by simp; omega
          clear hr
          go_wp2_with fail
          go_step3
          exact ⟨.inl rfl, _, UFr.of _ rfl, HR.out, rfl⟩
        · rw [if_neg hs] at hr
          have HR := Lib.hid hr
          have d2 : decide ((len : Int) - (p : Int) - 1 < 3) = false := by simp; omega
          clear hr
          go_wp2_with fail
          rename_i K hK
          go_step3
          refine hK _ _ (wp_code_eq (c' := unext) (by kernel_rfl) (Code.wp_mono ujump_weaken (upass1 _ len cap p l w H.out _ _ ?_)))
          exact ⟨_, 3, 65536, 1, r0, r0, UFr.of _ rfl, ⟨rfl, rfl, rfl, rfl, rfl, rfl, by omega, by omega, by omega, by omega, HR.out, rfl, by omega, by omega⟩, rfl⟩
      rw [if_neg h5] at hr
      have HR := Lib.hid hr
      clear hr
      go_wp2_with fail
      go_step3
      exact ⟨.inl rfl, _, UFr.of _ rfl, HR.out, rfl⟩

set_option maxRecDepth 100000 in
set_option maxHeartbeats 1000000 in
theorem rune_neg (ab : Option Addr) (len cap : Nat) (p : Int) (w : World) (hm : len ≤ 9223372036854775807) (hp : p < 0) :
    Calls Try.prog 104 #[.slice ab len cap, .int .i64 p] w fun e w' => e = .returned (.tuple #[.int .i64 0, .int .i64 0]) ∧ w = w' := by
  go_enter Try.func104, Try.ntmps104
  go_wp2_with fail
  refine wp_scope_many UL urest (fun l' a w' => l' = 0 ∧ ∃ u, UFr a u ∧ w = w') umu (fun l hl => by rcases hl with rfl | rfl <;> rfl) ?first (fun l' a w' hl hJ => by
    obtain ⟨rfl, u, rfl, rfl⟩ := hJ
    simp only [List.range, List.range.loop, List.map_cons, List.map_nil]
    conv => arg 2; whnf
    go_wp2_with fail
    simp only [JumpTo]
    go_ret2
    exact ⟨rfl, rfl⟩)
  case first =>
    have d0 : decide (p < 0) = true := by simp; omega
    go_wp2_with fail
    go_step3
    exact ⟨.inl rfl, rfl, _, UFr.of _ rfl, rfl⟩

end Go.Proofs.Ytkcfkdmffbhljaa

namespace Go.Proofs.Ytkcfkdmffbhljaa
open Go.RowKit
set_option linter.unusedVariables false
set_option linter.unusedSimpArgs false

theorem look_step (l : List UInt8) (p c n : Nat) (hp : p < l.length) (hn : (runeAt l p).2 = n) (h0 : n ≠ 0) : lookAt l l.length p c = lookAt l l.length (p + n) (c + 1) := by
  rw [lookAt_more l l.length (l.length + 1) p c (by omega) (by omega), lookAt, hn, if_pos ⟨hp, h0⟩]

theorem look_stop (l : List UInt8) (p c : Nat) (h : l.length ≤ p ∨ (runeAt l p).2 = 0) : lookAt l l.length p c = (p, c) := by
  rw [lookAt_more l l.length (l.length + 1) p c (by omega) (by omega), lookAt, if_neg (by omega)]

/-- The relation of the three loops. -/
def LookRel (l : List UInt8) (len p c : Nat) : Prop := p ≤ len ∧ c ≤ p ∧ Hid (lookAt l l.length 0 0 = lookAt l l.length p c)

theorem LookRel.step {l : List UInt8} {len p c n : Nat} (hl : l.length = len) (h : LookRel l len p c) (hp : p < len) (hn : (runeAt l p).2 = n) (h0 : n ≠ 0) : LookRel l len (p + n) (c + 1) := by
  have := (runeAt_bd l p).2.2 (by omega)
  exact ⟨by omega, by have := h.2.1; omega, h.2.2.out.trans (look_step l p c n (by omega) hn h0)⟩

set_option maxRecDepth 100000 in
set_option maxHeartbeats 1000000 in
theorem look_calls (ab : Option Addr) (len cap : Nat) (w : World) (l : List UInt8) (h : RdB w ab len l) :
    Calls Try.prog 94 #[.slice ab len cap] w fun e w' => e = .returned (.tuple #[.int .i64 (wholeTo l : Nat), .int .i64 (chars l : Nat)]) ∧ w = w' := by
  have hm := h.2.1
  have H := Lib.hid h
  have HL := Lib.hid h.1
  clear h
  go_enter Try.func94, Try.ntmps94
  go_wp2_with fail
  go_loop [2, 3] (fun x y => ∃ p c : Nat, x = .int .i64 p ∧ y = .int .i64 c ∧ LookRel l len p c) (fun x _ => len - (intOf x).toNat)
  case atStart => exact ⟨0, 0, rfl, rfl, by omega, by omega, rfl⟩
  case round =>
    obtain ⟨p, c, rfl, rfl, hR⟩ := hrel
    have HR := Lib.hid hR
    have hp := hR.1
    have hc := hR.2.1
    clear hR
    have C := Lib.hid (rune_calls ab len cap p w l H.out)
    unfold RuneOut at C
    by_cases hlt : p < len
    · obtain ⟨r, hr⟩ : ∃ r, r = (runeAt l p).1 := ⟨_, rfl⟩
      obtain ⟨n, hn⟩ : ∃ n, n = (runeAt l p).2 := ⟨_, rfl⟩
      have hb := runeAt_bd l p
      rw [← hr, ← hn] at C hb
      by_cases h0 : n = 0
      · have HF := Lib.hid (HR.out.2.2.out.trans (look_stop l p c (.inr (by omega))))
        subst h0
        clear hn hr hb
        go_wp2_with (go_at_call 104; refine C.out.mono ?_; rintro e w' ⟨rfl, rfl⟩)
        go_ret2
        exact ⟨by unfold wholeTo chars; rw [HF.out]; rfl, rfl⟩
      · have HN := Lib.hid (HR.out.step HL.out hlt hn.symm h0)
        have hb3 := hb.2.2 (by rw [HL.out]; exact hp)
        rw [HL.out] at hb3
        have hb4 := hb.2.1
        clear hn hr hb
        go_wp2_with (go_at_call 104; refine C.out.mono ?_; rintro e w' ⟨rfl, rfl⟩)
        go_round
        case rel => first | exact ⟨p + n, c + 1, by simp, by simp, HN.out⟩ | exact ⟨_, _, _, _, ⟨p + n, c + 1, by simp, by simp, HN.out⟩, rfl, rfl, rfl, rfl⟩
        case measure => simp [intOf]; omega
    · have HF := Lib.hid (HR.out.2.2.out.trans (look_stop l p c (.inl (by rw [HL.out]; omega))))
      go_wp2_with fail
      go_ret2
      exact ⟨by unfold wholeTo chars; rw [HF.out]; rfl, rfl⟩

set_option maxRecDepth 100000 in
set_option maxHeartbeats 1000000 in
theorem check_calls (ab : Option Addr) (len cap : Nat) (w : World) (l : List UInt8) (h : RdB w ab len l) :
    Calls Try.prog 73 #[.slice ab len cap] w fun e w' => e = .returned (.tuple #[.int .i64 (wholeTo l : Nat), .bool (wholeTo l == len)]) ∧ w = w' := by
  have C := Lib.hid (look_calls ab len cap w l h)
  have hm := h.2.1
  have hb := wholeTo_le l
  rw [h.1] at hb
  clear h
  generalize wholeTo l = p at C hb
  generalize chars l = c at C
  have HB : Hid ((p == len) = ((p : Int) == (len : Int))) := by show _ = _; rw [Bool.eq_iff_iff]; simp; omega
  go_enter Try.func73, Try.ntmps73
  go_wp2_with (go_at_call 94; refine C.out.mono ?_; rintro e w' ⟨rfl, rfl⟩)
  go_ret2
  exact ⟨by rw [HB.out]; rfl, rfl⟩

set_option maxRecDepth 100000 in
set_option maxHeartbeats 1000000 in
theorem rcheck_calls (ab : Option Addr) (len cap : Nat) (w : World) (l : List UInt8) (h : RdB w ab len l) :
    Calls Try.prog 103 #[.slice ab len cap] w fun e w' => e = .returned (.tuple #[.int .i64 (wholeTo l : Nat), .bool (wholeTo l == len)]) ∧ w = w' := by
  have hm := h.2.1
  have H := Lib.hid h
  have HL := Lib.hid h.1
  clear h
  go_enter Try.func103, Try.ntmps103
  go_wp2_with fail
  go_loop [4] (fun x => ∃ p c : Nat, x = .int .i64 p ∧ LookRel l len p c) (fun x => len - (intOf x).toNat)
  case atStart => exact ⟨0, 0, rfl, by omega, by omega, rfl⟩
  case round =>
    obtain ⟨p, c, rfl, hR⟩ := hrel
    have HR := Lib.hid hR
    have hp := hR.1
    have hc := hR.2.1
    clear hR
    have C := Lib.hid (rrune_calls ab len cap p w l H.out)
    by_cases hlt : p < len
    · obtain ⟨r, hr⟩ : ∃ r, r = (runeAt l p).1 := ⟨_, rfl⟩
      obtain ⟨n, hn⟩ : ∃ n, n = (runeAt l p).2 := ⟨_, rfl⟩
      have hb := runeAt_bd l p
      rw [← hr, ← hn] at C hb
      by_cases h0 : n = 0
      · have HF := Lib.hid (HR.out.2.2.out.trans (look_stop l p c (.inr (by omega))))
        subst h0
        clear hn hr hb
        go_wp2_with (go_at_call 106; refine C.out.mono ?_; rintro e w' ⟨rfl, rfl⟩)
        go_ret2
        have e1 : (p == len) = false := by simp; omega
        exact ⟨by unfold wholeTo; rw [HF.out]; simp only [e1]; rfl, rfl⟩
      · have HN := Lib.hid (HR.out.step HL.out hlt hn.symm h0)
        have hb3 := hb.2.2 (by rw [HL.out]; exact hp)
        rw [HL.out] at hb3
        have hb4 := hb.2.1
        clear hn hr hb
        go_wp2_with (go_at_call 106; refine C.out.mono ?_; rintro e w' ⟨rfl, rfl⟩)
        go_round
        case rel => first | exact ⟨p + n, c + 1, by simp, HN.out⟩ | exact ⟨_, _, _, ⟨p + n, c + 1, by simp, HN.out⟩, rfl, rfl, rfl⟩
        case measure => simp [intOf]; omega
    · have HF := Lib.hid (HR.out.2.2.out.trans (look_stop l p c (.inl (by rw [HL.out]; omega))))
      obtain rfl : p = len := by omega
      go_wp2_with fail
      go_ret2
      exact ⟨by unfold wholeTo; rw [HF.out]; simp, rfl⟩

end Go.Proofs.Ytkcfkdmffbhljaa
