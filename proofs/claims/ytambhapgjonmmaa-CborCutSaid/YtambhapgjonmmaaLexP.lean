/- The lexer of JSON, plainly; what is quoted is told as it was. No program in sight. -/
import Derived.Test.YtambhapgjonmmaaUtf2
namespace Go.Proofs.Ytambhapgjonmmaa
set_option linter.unusedVariables false
set_option linter.unusedSimpArgs false

/-- What the lexer tells: a token (its Kind, its place, where it ends, its text), or an error at a place. -/
inductive LexR where
  | tok (kind at' stop : Nat) (text : List UInt8)
  | err (e at' : Nat)

/-- The same, so much further. -/
def LexR.shift (k : Nat) : LexR → LexR
  | .tok kd a s t => .tok kd (k + a) (k + s) t
  | .err e a => .err e (k + a)

theorem LexR.shift_shift (i j : Nat) : ∀ r : LexR, (r.shift j).shift i = r.shift (i + j)
  | .tok .. => by simp [shift, Nat.add_assoc]
  | .err .. => by simp [shift, Nat.add_assoc]

def blank (c : UInt8) : Bool := c == 9 || c == 10 || c == 13 || c == 32
/-- How many blanks stand ahead. -/
def blanks : List UInt8 → Nat
  | [] => 0
  | c :: r => if blank c then blanks r + 1 else 0
theorem blanks_le : ∀ l, blanks l ≤ l.length
  | [] => by simp [blanks]
  | c :: r => by have := blanks_le r; simp only [blanks, List.length_cons]; split <;> omega

def numCh (c : UInt8) : Bool := (48 ≤ c && c ≤ 57) || c == 43 || c == 45 || c == 46 || c == 101 || c == 69
def numLen : List UInt8 → Nat
  | [] => 0
  | c :: r => if numCh c then numLen r + 1 else 0
theorem numLen_le : ∀ l, numLen l ≤ l.length
  | [] => by simp [numLen]
  | c :: r => by have := numLen_le r; simp only [numLen, List.length_cons]; split <;> omega

def isDig (c : UInt8) : Bool := 48 ≤ c && c ≤ 57
/-- How many digits stand ahead. -/
def digs : List UInt8 → Nat
  | [] => 0
  | c :: r => if isDig c then digs r + 1 else 0
theorem digs_le : ∀ l, digs l ≤ l.length
  | [] => by simp [digs]
  | c :: r => by have := digs_le r; simp only [digs, List.length_cons]; split <;> omega

def hd (l : List UInt8) : UInt8 := l.headD 0

/-- An exponent, or none: what a text is as a number, its kind so far given. -/
def lexExp (kind : Nat) (l : List UInt8) : Nat :=
  match l with
  | [] => kind
  | c :: r => if c = 101 ∨ c = 69 then
      let r' := match r with | [] => [] | d :: q => if d = 43 ∨ d = 45 then q else r
      if digs r' = 0 then 0 else if digs r' = r'.length then 2 else 0
    else 0
/-- A fraction, or none. -/
def lexFrac (l : List UInt8) : Nat :=
  match l with
  | [] => 1
  | c :: r => if c = 46 then (if digs r = 0 then 0 else lexExp 2 (r.drop (digs r))) else lexExp 1 l
/-- What a text is as a number: 0 none, 1 whole, 2 another one. -/
def lexeme (l : List UInt8) : Nat :=
  let l' := match l with | [] => [] | c :: r => if c = 45 then r else l
  if digs l' = 0 ∨ (hd l' = 48 ∧ 1 < digs l') then 0 else lexFrac (l'.drop (digs l'))

/-- A hexadecimal digit's number. -/
def hexD (c : UInt8) : Option Nat :=
  if 48 ≤ c ∧ c ≤ 57 then some (c.toNat - 48) else if 97 ≤ c ∧ c ≤ 102 then some (c.toNat - 87) else if 65 ≤ c ∧ c ≤ 70 then some (c.toNat - 55) else none

/-- k digits: their number (0), it ends within them (2), another sign stands there (3). -/
def hexs : Nat → Nat → List UInt8 → Nat ⊕ Nat
  | 0, v, _ => .inl v
  | _ + 1, _, [] => .inr 2
  | k + 1, v, c :: r => match hexD c with
    | none => .inr 3
    | some d => hexs k (v * 16 + d) r

/-- For what a sign behind \ stands. -/
def escD (c : UInt8) : Option UInt8 :=
  if c = 34 then some 34 else if c = 92 then some 92 else if c = 47 then some 47 else if c = 98 then some 8 else if c = 102 then some 12 else if c = 110 then some 10 else if c = 114 then some 13 else if c = 116 then some 9 else none

/-- The low half behind a high one: its number. -/
def lowHalf (l : List UInt8) : Option Nat :=
  match l with
  | 92 :: 117 :: r => match hexs 4 0 r with
    | .inl v => if 56320 ≤ v ∧ v ≤ 57343 then some v else none
    | .inr _ => none
  | _ => none

/-- What stands behind \u: how many signs are taken (from \ on) and the character's number; or the error. -/
def uni (l : List UInt8) : (Nat × Nat) ⊕ Nat :=
  match hexs 4 0 (l.drop 2) with
  | .inr e => .inr e
  | .inl v =>
    if 55296 ≤ v ∧ v ≤ 57343 then
      match (if v ≤ 56319 then lowHalf (l.drop 6) else none) with
      | some w => .inl (12, 65536 + (v - 55296) * 1024 + (w - 56320))
      | none => .inr 4
    else .inl (6, v)

/-- One step within a text: what is added, and how many signs are taken; or the end; or the error. -/
inductive StrStep where
  | go (n : Nat) (out : List UInt8)
  | stop
  | bad (e : Nat)

def strStep (l : List UInt8) : StrStep :=
  match l with
  | [] => .bad 2
  | c :: r =>
    if c = 34 then .stop
    else if c < 32 then .bad 3
    else if c = 92 then
      match r with
      | [] => .bad 2
      | d :: _ => if d = 117 then
          match uni l with
          | .inr e => .bad e
          | .inl (n, v) => .go n (putL v)
        else match escD d with
          | none => .bad 3
          | some x => .go 2 [x]
    else
      let n := (runeAt (l.take 4) 0).2
      if n = 0 then .bad 4 else .go n (l.take n)

/-- A text from a place on: the rest, how far, what has been told. -/
def strGo : Nat → List UInt8 → Nat → List UInt8 → LexR
  | 0, _, _, _ => .err 2 0
  | f + 1, l, p, out => match strStep l with
    | .stop => .tok 8 0 (p + 1) out
    | .bad e => .err e (if e = 2 then 0 else p)
    | .go n x => strGo f (l.drop n) (p + n) (out ++ x)

def pre (w l : List UInt8) : Bool := l.take w.length == w

/-- The token that begins right here. -/
def tokS (l : List UInt8) : LexR :=
  match l with
  | [] => .tok 1 0 0 []
  | c :: r =>
    if c = 123 then .tok 2 0 1 [] else if c = 125 then .tok 3 0 1 [] else if c = 91 then .tok 4 0 1 [] else if c = 93 then .tok 5 0 1 [] else if c = 58 then .tok 6 0 1 [] else if c = 44 then .tok 7 0 1 []
    else if pre [116, 114, 117, 101] l then .tok 10 0 4 [] else if pre [102, 97, 108, 115, 101] l then .tok 11 0 5 [] else if pre [110, 117, 108, 108] l then .tok 12 0 4 []
    else if c = 34 then strGo (l.length + 1) r 1 []
    else if c = 45 ∨ isDig c then
      let n := numLen l
      if lexeme (l.take n) = 0 then .err 3 0 else if 300 < n then .err 10 0 else .tok 9 0 n (l.take n)
    else .err 3 0

/-- The next token. -/
def nextS (l : List UInt8) : LexR := (tokS (l.drop (blanks l))).shift (blanks l)

/-- The next token from a place on. -/
def nextAt (l : List UInt8) (p : Nat) : LexR := if l.length < p then .err 1 0 else (nextS (l.drop p)).shift p

theorem blanks_append (b s : List UInt8) (h : ∀ c ∈ b, blank c = true) : blanks (b ++ s) = b.length + blanks s := by
  induction b with
  | nil => simp
  | cons c b ih =>
    simp only [List.cons_append, blanks, h c (by simp), if_true, List.length_cons]
    rw [ih fun x hx => h x (by simp [hx])]
    omega

theorem next_blanks (b s : List UInt8) (h : ∀ c ∈ b, blank c = true) : nextS (b ++ s) = (nextS s).shift b.length := by
  unfold nextS
  rw [blanks_append b s h, LexR.shift_shift, List.drop_append, List.drop_of_length_le (by omega), List.nil_append, Nat.add_sub_cancel_left]

theorem nextAt_append (a b : List UInt8) (p : Nat) (h : a.length ≤ p) : nextAt (a ++ b) p = if b.length < p - a.length then .err 1 0 else (nextAt b (p - a.length)).shift a.length := by
  unfold nextAt
  rw [List.drop_append, List.drop_of_length_le h, List.nil_append]
  by_cases h1 : b.length < p - a.length
  · rw [if_pos h1, if_pos (by simp; omega)]
  · rw [if_neg h1, if_neg (by simp; omega), if_neg h1, LexR.shift_shift]
    congr 1
    omega

theorem hexs_len : ∀ (k v : Nat) (l : List UInt8) (x : Nat), hexs k v l = .inl x → k ≤ l.length
  | 0, _, _, _, _ => Nat.zero_le _
  | k + 1, v, [], x, h => by simp [hexs] at h
  | k + 1, v, c :: r, x, h => by
    simp only [hexs] at h
    split at h
    · simp at h
    · have := hexs_len k _ r x h
      simp only [List.length_cons]; omega

theorem hexs_err : ∀ (k v : Nat) (l : List UInt8) (e : Nat), hexs k v l = .inr e → e = 2 ∨ e = 3
  | 0, _, _, _, h => by simp [hexs] at h
  | k + 1, v, [], e, h => by simp [hexs] at h; exact .inl h.symm
  | k + 1, v, c :: r, e, h => by
    simp only [hexs] at h
    split at h
    · simp only [Sum.inr.injEq] at h; exact .inr h.symm
    · exact hexs_err k _ r e h

theorem lowHalf_len (l : List UInt8) (w : Nat) (h : lowHalf l = some w) : 6 ≤ l.length ∧ 56320 ≤ w ∧ w ≤ 57343 := by
  unfold lowHalf at h
  split at h
  · rename_i r
    split at h
    · rename_i v hv
      have := hexs_len 4 0 r v hv
      split at h
      · simp only [Option.some.injEq] at h
        subst h
        simp only [List.length_cons]
        rename_i hw
        exact ⟨by omega, hw.1, hw.2⟩
      · simp at h
    · simp at h
  · simp at h

theorem uni_len (l : List UInt8) (n v : Nat) (h : uni l = .inl (n, v)) : 1 ≤ n ∧ n ≤ l.length ∧ (isCh (v : Nat) = true ∨ 65535 < v ∧ v ≤ 1114111 ∨ (v < 55296 ∨ 57343 < v)) := by
  unfold uni at h
  split at h
  · simp at h
  · rename_i u hu
    have h1 := hexs_len 4 0 _ u hu
    rw [List.length_drop] at h1
    split at h
    · split at h
      · rename_i w hw
        simp only [Sum.inl.injEq, Prod.mk.injEq] at h
        obtain ⟨rfl, rfl⟩ := h
        split at hw
        · have := lowHalf_len _ w hw
          rw [List.length_drop] at this
          exact ⟨by omega, by omega, by omega⟩
        · simp at hw
      · simp at h
    · simp only [Sum.inl.injEq, Prod.mk.injEq] at h
      obtain ⟨rfl, rfl⟩ := h
      exact ⟨by omega, by omega, by omega⟩

theorem step_go (l : List UInt8) (n : Nat) (x : List UInt8) (h : strStep l = .go n x) : 1 ≤ n ∧ n ≤ l.length := by
  unfold strStep at h
  split at h
  · simp at h
  · rename_i c r
    split at h
    · simp at h
    · split at h
      · simp at h
      · split at h
        · split at h
          · simp at h
          · split at h
            · split at h
              · simp at h
              · rename_i n' v hu
                simp only [StrStep.go.injEq] at h
                obtain ⟨rfl, _⟩ := h
                have := uni_len _ _ _ hu
                exact ⟨this.1, this.2.1⟩
            · split at h
              · simp at h
              · simp only [StrStep.go.injEq] at h
                obtain ⟨rfl, _⟩ := h
                simp only [List.length_cons]; omega
        · simp only at h
          split at h
          · simp at h
          · rename_i hn
            simp only [StrStep.go.injEq] at h
            obtain ⟨rfl, _⟩ := h
            have := (runeAt_bd (List.take 4 (c :: r)) 0).2.2 (by omega)
            rw [List.length_take] at this
            omega

theorem step_bad (l : List UInt8) (e : Nat) (h : strStep l = .bad e) (h2 : e ≠ 2) : 1 ≤ l.length := by
  cases l with
  | nil => simp [strStep] at h; omega
  | cons c r => simp

theorem step_stop (l : List UInt8) (h : strStep l = .stop) : 1 ≤ l.length := by
  cases l with
  | nil => simp [strStep] at h
  | cons c r => simp

/-- Where a told text, or its error, stands. -/
def StrOk (p n : Nat) : LexR → Prop
  | .tok kd a s _ => kd = 8 ∧ a = 0 ∧ p < s ∧ s ≤ p + n
  | .err _ a => a = 0 ∨ (p ≤ a ∧ a < p + n)

theorem strGo_bd : ∀ (f : Nat) (l : List UInt8) (p : Nat) (out : List UInt8), StrOk p l.length (strGo f l p out)
  | 0, l, p, out => by simp [strGo, StrOk]
  | f + 1, l, p, out => by
    unfold strGo
    cases h : strStep l with
    | stop =>
      have := step_stop l h
      exact ⟨rfl, rfl, by omega, by omega⟩
    | bad e =>
      by_cases h2 : e = 2
      · simp only [if_pos h2]; exact .inl rfl
      · simp only [if_neg h2]
        have := step_bad l e h h2
        exact .inr ⟨by omega, by omega⟩
    | go n x =>
      simp only
      have h1 := step_go l n x h
      have ih := strGo_bd f (l.drop n) (p + n) (out ++ x)
      rw [List.length_drop] at ih
      cases hr : strGo f (l.drop n) (p + n) (out ++ x) with
      | tok kd a s t =>
        rw [hr] at ih
        simp only [StrOk] at ih ⊢
        exact ⟨ih.1, ih.2.1, by omega, by omega⟩
      | err e a =>
        rw [hr] at ih
        simp only [StrOk] at ih ⊢
        omega

theorem pre_len {w l : List UInt8} (h : pre w l = true) : w.length ≤ l.length := by
  unfold pre at h
  have := congrArg List.length (eq_of_beq h)
  rw [List.length_take] at this
  omega

/-- Where a token that begins right here ends. -/
def TokOk (n : Nat) : LexR → Prop
  | .tok kd a s _ => a = 0 ∧ s ≤ n ∧ (kd = 1 → n = 0) ∧ (kd ≠ 1 → 0 < s) ∧ 1 ≤ kd
  | .err _ a => a < n

theorem tokS_bd : ∀ l : List UInt8, TokOk l.length (tokS l)
  | [] => ⟨rfl, Nat.le_refl _, fun _ => rfl, fun h => absurd rfl h, Nat.le_refl _⟩
  | c :: r => by
    have hl : (c :: r).length = r.length + 1 := rfl
    have one : ∀ k, 2 ≤ k → TokOk (c :: r).length (.tok k 0 1 []) := fun k hk => ⟨rfl, by omega, by omega, by omega, by omega⟩
    rw [tokS]
    by_cases h1 : c = 123
    · rw [if_pos h1]; exact one _ (by omega)
    rw [if_neg h1]
    by_cases h1 : c = 125
    · rw [if_pos h1]; exact one _ (by omega)
    rw [if_neg h1]
    by_cases h1 : c = 91
    · rw [if_pos h1]; exact one _ (by omega)
    rw [if_neg h1]
    by_cases h1 : c = 93
    · rw [if_pos h1]; exact one _ (by omega)
    rw [if_neg h1]
    by_cases h1 : c = 58
    · rw [if_pos h1]; exact one _ (by omega)
    rw [if_neg h1]
    by_cases h1 : c = 44
    · rw [if_pos h1]; exact one _ (by omega)
    rw [if_neg h1]
    by_cases h1 : pre [116, 114, 117, 101] (c :: r) = true
    · rw [if_pos h1]; have := pre_len h1; exact ⟨rfl, by simpa using this, by omega, by omega, by omega⟩
    rw [if_neg h1]
    by_cases h1 : pre [102, 97, 108, 115, 101] (c :: r) = true
    · rw [if_pos h1]; have := pre_len h1; exact ⟨rfl, by simpa using this, by omega, by omega, by omega⟩
    rw [if_neg h1]
    by_cases h1 : pre [110, 117, 108, 108] (c :: r) = true
    · rw [if_pos h1]; have := pre_len h1; exact ⟨rfl, by simpa using this, by omega, by omega, by omega⟩
    rw [if_neg h1]
    by_cases h1 : c = 34
    · rw [if_pos h1]
      have := strGo_bd ((c :: r).length + 1) r 1 []
      cases hh : strGo ((c :: r).length + 1) r 1 [] with
      | tok kd a s t =>
        rw [hh] at this
        obtain ⟨rfl, rfl, h2, h3⟩ := this
        exact ⟨rfl, by omega, by omega, by omega, by omega⟩
      | err e a =>
        rw [hh] at this
        simp only [StrOk] at this
        simp only [TokOk]
        omega
    rw [if_neg h1]
    by_cases h1 : c = 45 ∨ isDig c = true
    · rw [if_pos h1]
      have hn := numLen_le (c :: r)
      simp only
      by_cases h2 : lexeme (List.take (numLen (c :: r)) (c :: r)) = 0
      · rw [if_pos h2]; exact Nat.succ_pos _
      rw [if_neg h2]
      by_cases h3 : 300 < numLen (c :: r)
      · rw [if_pos h3]; exact Nat.succ_pos _
      rw [if_neg h3]
      refine ⟨rfl, hn, by omega, fun _ => ?_, by omega⟩
      apply Nat.pos_of_ne_zero
      intro h0
      apply h2
      rw [h0]; rfl
    · rw [if_neg h1]; exact Nat.succ_pos _

/-- Where the next token, or the error, stands. -/
def NextOk (p n : Nat) : LexR → Prop
  | .tok kd a s _ => p ≤ a ∧ s ≤ n ∧ (kd = 1 → a = n ∧ s = n) ∧ (kd ≠ 1 → a < s) ∧ 1 ≤ kd
  | .err _ a => p ≤ a ∧ a < n

theorem nextAt_bd (l : List UInt8) (p : Nat) (h : p ≤ l.length) : NextOk p l.length (nextAt l p) := by
  unfold nextAt nextS
  rw [if_neg (by omega), LexR.shift_shift]
  have hb := blanks_le (l.drop p)
  have ht := tokS_bd ((l.drop p).drop (blanks (l.drop p)))
  rw [List.length_drop] at hb
  rw [List.length_drop, List.length_drop] at ht
  cases hr : tokS ((l.drop p).drop (blanks (l.drop p))) with
  | tok kd a s t =>
    rw [hr] at ht
    simp only [TokOk, LexR.shift, NextOk] at ht ⊢
    refine ⟨by omega, by omega, fun h1 => ?_, fun h1 => ?_, by omega⟩
    · have := ht.2.2.1 h1; omega
    · have := ht.2.2.2.1 h1; omega
  | err e a =>
    rw [hr] at ht
    simp only [TokOk, LexR.shift, NextOk] at ht ⊢
    omega

theorem look_step' (l : List UInt8) (p c n : Nat) (hp : p < l.length) (hn : (runeAt l p).2 = n) (h0 : n ≠ 0) : lookAt l l.length p c = lookAt l l.length (p + n) (c + 1) := by
  rw [lookAt_more l l.length (l.length + 1) p c (by omega) (by omega), lookAt, hn, if_pos ⟨hp, h0⟩]

theorem look_stop' (l : List UInt8) (p c : Nat) (h : l.length ≤ p ∨ (runeAt l p).2 = 0) : lookAt l l.length p c = (p, c) := by
  rw [lookAt_more l l.length (l.length + 1) p c (by omega) (by omega), lookAt, if_neg (by omega)]

/-- Whole bytes: a character, and whole ones behind it. -/
theorem whole_step (l : List UInt8) (h : wholeTo l = l.length) (hl : 0 < l.length) : (runeAt l 0).2 ≠ 0 ∧ (runeAt l 0).2 ≤ l.length ∧ wholeTo (l.drop (runeAt l 0).2) = (l.drop (runeAt l 0).2).length := by
  have hb := (runeAt_bd l 0).2.2 (by omega)
  rw [Nat.zero_add] at hb
  have hn : (runeAt l 0).2 ≠ 0 := by
    intro h0
    unfold wholeTo at h
    rw [look_stop' l 0 0 (.inr h0)] at h
    simp only at h
    omega
  refine ⟨hn, hb, ?_⟩
  generalize hg : (runeAt l 0).2 = n at hn hb ⊢
  have h1 := h
  unfold wholeTo at h1
  rw [look_step' l 0 0 n hl hg hn] at h1
  have e : l = l.take n ++ l.drop n := (List.take_append_drop n l).symm
  have hlt : (l.take n).length = n := by rw [List.length_take]; omega
  have h2 := lookAt_right (l.take n) (l.drop n) l.length 0 0 1
  rw [← e, hlt] at h2
  rw [Nat.zero_add, Nat.zero_add] at h1
  simp only [Nat.add_zero] at h2
  rw [h2] at h1
  simp only at h1
  unfold wholeTo
  rw [lookAt_more (l.drop n) (l.drop n).length l.length 0 0 (by omega) (by rw [List.length_drop]; omega)]
  rw [List.length_drop]
  omega

theorem tails_take (l : List UInt8) (m : Nat) : ∀ (k p r : Nat), p + k ≤ m → m ≤ l.length → tails (l.take m) k p r = tails l k p r
  | 0, p, r, _, _ => rfl
  | k + 1, p, r, h, hm => by
    have e : bAt (l.take m) p = bAt l p := by
      unfold bAt; simp only [List.getD_eq_getElem?_getD]; rw [List.getElem?_take_of_lt (by omega)]
    rw [tails, tails, e, tails_take l m k (p + 1) _ (by omega) hm]

theorem more_take (l : List UInt8) (n r least : Nat) (h : (more l 0 n r least).2 ≠ 0) (h1 : 1 ≤ n) : (more l 0 n r least).2 = n ∧ more (l.take n) 0 n r least = more l 0 n r least := by
  unfold more at h ⊢
  by_cases h2 : l.length < 0 + n
  · rw [if_pos h2] at h; exact absurd rfl h
  · rw [if_neg h2] at h ⊢
    rw [if_neg (by rw [List.length_take]; omega), tails_take l n (n - 1) (0 + 1) r (by omega) (by omega)]
    have := fin_snd (tails l (n - 1) (0 + 1) r) n least
    exact ⟨by omega, rfl⟩

/-- A character is told by its own bytes. -/
theorem rune_take (l : List UInt8) (n : Nat) (hn : (runeAt l 0).2 = n) (h0 : n ≠ 0) : runeAt (l.take n) 0 = runeAt l 0 ∧ (bAt l 0 < 128 → n = 1) ∧ (128 ≤ bAt l 0 → 192 ≤ bAt l 0 ∧ 2 ≤ n ∧ ∀ i, i < n → 128 ≤ bAt l i) := by
  have hb := (runeAt_bd l 0).2.2 (by omega)
  rw [hn] at hb
  have hlen : 0 < l.length := by omega
  have e0 : bAt (l.take n) 0 = bAt l 0 := by
    unfold bAt; simp only [List.getD_eq_getElem?_getD]; rw [List.getElem?_take_of_lt (by omega)]
  have htl : (l.take n).length = n := by rw [List.length_take]; omega
  have tl : ∀ (k p r x : Nat), tails l k p r = some x → ∀ i, p ≤ i → i < p + k → 128 ≤ bAt l i := by
    intro k
    induction k with
    | zero => intro p r x _ i h1 h2; omega
    | succ k ih =>
      intro p r x h i h1 h2
      rw [tails] at h
      split at h
      · rename_i hc
        by_cases e : i = p
        · rw [e]; exact hc.1
        · exact ih (p + 1) _ x h i (by omega) (by omega)
      · simp at h
  have mt : ∀ m r least, 2 ≤ m → 192 ≤ bAt l 0 → (more l 0 m r least).2 = n → (more (l.take n) 0 m r least = more l 0 m r least) ∧ 2 ≤ n ∧ ∀ i, i < n → 128 ≤ bAt l i := by
    intro m r least hm h192 hmn
    have := more_take l m r least (by rw [hmn]; exact h0) (by omega)
    rw [hmn] at this
    obtain ⟨rfl, h2⟩ := this
    refine ⟨h2, hm, fun i hi => ?_⟩
    unfold more at hmn
    rw [if_neg (by omega)] at hmn
    cases ht : tails l (n - 1) (0 + 1) r with
    | none => rw [ht] at hmn; simp [fin] at hmn; omega
    | some x =>
      by_cases hi0 : i = 0
      · rw [hi0]; omega
      · exact tl (n - 1) 1 r x ht i (by omega) (by omega)
  have A : ∀ q : List UInt8, 0 < q.length → bAt q 0 = bAt l 0 → runeAt q 0 = if bAt l 0 < 128 then (bAt l 0, 1) else if bAt l 0 < 192 then (0, 0) else if bAt l 0 < 224 then more q 0 2 (bAt l 0 - 192) 128
      else if bAt l 0 < 240 then more q 0 3 (bAt l 0 - 224) 2048 else if bAt l 0 < 248 then more q 0 4 (bAt l 0 - 240) 65536 else (0, 0) := by
    intro q hq e
    unfold runeAt
    rw [if_neg (by omega), e]
  rw [A l hlen rfl] at hn
  rw [A l hlen rfl, A (l.take n) (by omega) e0]
  by_cases h1 : bAt l 0 < 128
  · simp only [if_pos h1] at hn ⊢
    exact ⟨trivial, fun _ => hn.symm, fun h => by omega⟩
  simp only [if_neg h1] at hn ⊢
  by_cases h2 : bAt l 0 < 192
  · simp only [if_pos h2] at hn; exact absurd hn.symm h0
  simp only [if_neg h2] at hn ⊢
  by_cases h3 : bAt l 0 < 224
  · simp only [if_pos h3] at hn ⊢
    have := mt 2 _ _ (by omega) (by omega) hn
    exact ⟨this.1, fun h => absurd h h1, fun _ => ⟨by omega, this.2⟩⟩
  simp only [if_neg h3] at hn ⊢
  by_cases h4 : bAt l 0 < 240
  · simp only [if_pos h4] at hn ⊢
    have := mt 3 _ _ (by omega) (by omega) hn
    exact ⟨this.1, fun h => absurd h h1, fun _ => ⟨by omega, this.2⟩⟩
  simp only [if_neg h4] at hn ⊢
  by_cases h5 : bAt l 0 < 248
  · simp only [if_pos h5] at hn ⊢
    have := mt 4 _ _ (by omega) (by omega) hn
    exact ⟨this.1, fun h => absurd h h1, fun _ => ⟨by omega, this.2⟩⟩
  simp only [if_neg h5] at hn
  exact absurd hn.symm h0

def hexC (n : Nat) : UInt8 := UInt8.ofNat (if n < 10 then 48 + n else 87 + n)

/-- A byte, quoted. -/
def quoteB (c : UInt8) : List UInt8 :=
  if c = 34 ∨ c = 92 then [92, c] else if c = 8 then [92, 98] else if c = 12 then [92, 102] else if c = 10 then [92, 110] else if c = 13 then [92, 114] else if c = 9 then [92, 116]
  else if c < 32 then [92, 117, 48, 48, hexC (c.toNat / 16), hexC (c.toNat % 16)] else [c]

def quoteM (s : List UInt8) : List UInt8 := (s.map quoteB).flatten
/-- A text between quotes. -/
def quoteL (s : List UInt8) : List UInt8 := 34 :: (quoteM s ++ [34])

theorem quoteM_cons (c : UInt8) (s : List UInt8) : quoteM (c :: s) = quoteB c ++ quoteM s := rfl
theorem quoteM_append (a b : List UInt8) : quoteM (a ++ b) = quoteM a ++ quoteM b := by simp [quoteM]

theorem quoteM_high : ∀ l : List UInt8, (∀ c ∈ l, 128 ≤ c.toNat) → quoteM l = l
  | [], _ => rfl
  | c :: r, h => by
    have hc := h c (by simp)
    have h1 : quoteB c = [c] := by
      unfold quoteB
      have ne : ∀ k : UInt8, k.toNat < 128 → c ≠ k := fun k hk e => by rw [e] at hc; omega
      rw [if_neg (by intro e; rcases e with e | e <;> exact ne _ (by decide) e), if_neg (ne _ (by decide)), if_neg (ne _ (by decide)), if_neg (ne _ (by decide)), if_neg (ne _ (by decide)), if_neg (ne _ (by decide)), if_neg (by rw [UInt8.lt_iff_toNat_lt]; simp; omega)]
    rw [quoteM_cons, h1, quoteM_high r fun x hx => h x (by simp [hx])]
    rfl

theorem step_low (rest : List UInt8) : ∀ n : Fin 32, strStep (quoteB (UInt8.ofNat n) ++ rest) = .go (quoteB (UInt8.ofNat n)).length [UInt8.ofNat n]
  | 0 => by rfl
  | 1 => by rfl
  | 2 => by rfl
  | 3 => by rfl
  | 4 => by rfl
  | 5 => by rfl
  | 6 => by rfl
  | 7 => by rfl
  | 8 => by rfl
  | 9 => by rfl
  | 10 => by rfl
  | 11 => by rfl
  | 12 => by rfl
  | 13 => by rfl
  | 14 => by rfl
  | 15 => by rfl
  | 16 => by rfl
  | 17 => by rfl
  | 18 => by rfl
  | 19 => by rfl
  | 20 => by rfl
  | 21 => by rfl
  | 22 => by rfl
  | 23 => by rfl
  | 24 => by rfl
  | 25 => by rfl
  | 26 => by rfl
  | 27 => by rfl
  | 28 => by rfl
  | 29 => by rfl
  | 30 => by rfl
  | 31 => by rfl
  | ⟨k + 32, h⟩ => absurd h (by omega)

theorem step_plain (c : UInt8) (rest : List UInt8) (h1 : 32 ≤ c.toNat) (h2 : c.toNat < 128) (h3 : c ≠ 34) (h4 : c ≠ 92) : strStep (c :: rest) = .go 1 [c] := by
  have hr : runeAt (List.take 4 (c :: rest)) 0 = (c.toNat, 1) := by
    unfold runeAt
    have hb : bAt (List.take 4 (c :: rest)) 0 = c.toNat := rfl
    rw [if_neg (by simp), hb, if_pos h2]
  unfold strStep
  simp only
  rw [if_neg h3, if_neg (by rw [UInt8.lt_iff_toNat_lt]; simp; omega), if_neg h4, hr]
  simp

theorem step_quote (c : UInt8) (rest : List UInt8) (h : c.toNat < 128) : strStep (quoteB c ++ rest) = .go (quoteB c).length [c] := by
  by_cases h1 : c.toNat < 32
  · have := step_low rest ⟨c.toNat, h1⟩
    simpa using this
  by_cases h2 : c = 34
  · subst h2; rfl
  by_cases h3 : c = 92
  · subst h3; rfl
  have ne : ∀ k : UInt8, k.toNat < 32 → c ≠ k := fun k hk e => by rw [e] at h1; omega
  have e : quoteB c = [c] := by
    unfold quoteB
    rw [if_neg (by intro e; rcases e with e | e; exact h2 e; exact h3 e), if_neg (ne _ (by decide)), if_neg (ne _ (by decide)), if_neg (ne _ (by decide)), if_neg (ne _ (by decide)), if_neg (ne _ (by decide)), if_neg (by rw [UInt8.lt_iff_toNat_lt]; simp; omega)]
  rw [e]
  exact step_plain c rest (by omega) h h2 h3

theorem step_high (l rest : List UInt8) (n : Nat) (hl : l.length = n) (h0 : n ≠ 0) (hr : (runeAt l 0).2 = n) (hh : ∀ c ∈ l, 128 ≤ c.toNat) : strStep (l ++ rest) = .go n l := by
  have hb4 := (runeAt_bd l 0).2.1
  rw [hr] at hb4
  have e : (l ++ rest).take 4 = l ++ rest.take (4 - n) := by rw [List.take_append, hl, List.take_of_length_le (by omega)]
  have hr2 : runeAt ((l ++ rest).take 4) 0 = runeAt l 0 := by rw [e, runeAt_left _ _ _ (by rw [hr]; exact h0)]
  cases l with
  | nil => simp at hl; omega
  | cons c r =>
    have hc := hh c (by simp)
    have ne : ∀ k : UInt8, k.toNat < 128 → c ≠ k := fun k hk e => by rw [e] at hc; omega
    rw [List.cons_append] at hr2 ⊢
    unfold strStep
    simp only
    rw [if_neg (ne _ (by decide)), if_neg (by rw [UInt8.lt_iff_toNat_lt]; simp; omega), if_neg (ne _ (by decide)), hr2, hr, if_neg h0]
    rw [← List.cons_append, List.take_append, hl, Nat.sub_self, List.take_zero, List.append_nil, List.take_of_length_le (by omega)]

theorem bAt_get (l : List UInt8) (i : Nat) (h : i < l.length) : bAt l i = (l[i]).toNat := by
  unfold bAt; rw [List.getD_eq_getElem?_getD, List.getElem?_eq_getElem h]; rfl

theorem quote_len (c : UInt8) : 1 ≤ (quoteB c).length := by
  unfold quoteB
  split
  · simp
  split
  · simp
  split
  · simp
  split
  · simp
  split
  · simp
  split
  · simp
  split <;> simp

/-- What is quoted is told as it was. -/
theorem strGo_quote (behind : List UInt8) : ∀ (m : Nat) (s : List UInt8) (f p : Nat) (out : List UInt8), s.length ≤ m → wholeTo s = s.length → (quoteM s).length < f →
    strGo f (quoteM s ++ 34 :: behind) p out = .tok 8 0 (p + (quoteM s).length + 1) (out ++ s) := by
  intro m
  induction m with
  | zero =>
    intro s f p out hm hw hf
    have hs : s = [] := List.eq_nil_of_length_eq_zero (by omega)
    subst hs
    match f, hf with
    | f + 1, _ => simp [quoteM, strGo, strStep]
  | succ m ih =>
    intro s f p out hm hw hf
    cases s with
    | nil =>
      match f, hf with
      | f + 1, _ => simp [quoteM, strGo, strStep]
    | cons c r =>
      have hl : 0 < (c :: r).length := by simp
      obtain ⟨h0, hn, hwd⟩ := whole_step (c :: r) hw hl
      obtain ⟨hrt, hlow, hhigh⟩ := rune_take (c :: r) _ rfl h0
      match f, hf with
      | f + 1, hf =>
        by_cases hc : c.toNat < 128
        · have h1 := hlow hc
          rw [h1] at hwd
          simp only [List.drop_succ_cons, List.drop_zero] at hwd
          rw [quoteM_cons, List.append_assoc, strGo, step_quote c _ hc]
          simp only
          have hq := quote_len c
          rw [quoteM_cons, List.length_append] at hf
          rw [List.drop_append, List.drop_of_length_le (Nat.le_refl _), Nat.sub_self, List.drop_zero, List.nil_append]
          rw [ih r f _ _ (by simp at hm; omega) hwd (by omega)]
          rw [List.length_append, List.append_assoc]
          simp [Nat.add_assoc]
        · obtain ⟨h192, h2, hall⟩ := hhigh (by have : bAt (c :: r) 0 = c.toNat := rfl; omega)
          generalize hg : (runeAt (c :: r) 0).2 = n at *
          generalize c :: r = s at *
          have e : s = s.take n ++ s.drop n := (List.take_append_drop n s).symm
          have htl : (s.take n).length = n := by rw [List.length_take]; omega
          have hh : ∀ x ∈ s.take n, 128 ≤ x.toNat := by
            intro x hx
            obtain ⟨i, hi, rfl⟩ := List.mem_iff_getElem.1 hx
            rw [htl] at hi
            have := hall i hi
            rw [bAt_get s i (by omega)] at this
            simpa using this
          have hq : quoteM s = s.take n ++ quoteM (s.drop n) := by
            conv => lhs; rw [e]
            rw [quoteM_append, quoteM_high _ hh]
          rw [hq, List.append_assoc, strGo, step_high (s.take n) _ n htl h0 (by rw [hrt, hg]) hh]
          simp only
          have hd : List.drop n (s.take n ++ (quoteM (s.drop n) ++ 34 :: behind)) = quoteM (s.drop n) ++ 34 :: behind := by
            rw [List.drop_append, htl, Nat.sub_self, List.drop_zero, List.drop_of_length_le (by omega), List.nil_append]
          rw [hq, List.length_append, htl] at hf
          rw [hd, ih (s.drop n) f _ _ (by rw [List.length_drop]; omega) hwd (by omega)]
          rw [List.length_append, htl, List.append_assoc]
          conv => rhs; rw [e]
          simp [Nat.add_assoc]

theorem quoteL_append (s behind : List UInt8) : quoteL s ++ behind = 34 :: (quoteM s ++ 34 :: behind) := by simp [quoteL]

theorem quoteL_len (s : List UInt8) : (quoteL s).length = (quoteM s).length + 2 := by simp [quoteL]

/-- What is quoted is one token, whatever stands behind it. -/
theorem tok_quote (s behind : List UInt8) (h : wholeTo s = s.length) : nextS (quoteL s ++ behind) = .tok 8 0 (quoteL s).length s := by
  rw [quoteL_append, quoteL_len]
  have hb : blanks (34 :: (quoteM s ++ 34 :: behind)) = 0 := rfl
  unfold nextS
  rw [hb, List.drop_zero, tokS, if_neg (by decide), if_neg (by decide), if_neg (by decide), if_neg (by decide), if_neg (by decide), if_neg (by decide)]
  have hp : ∀ w : List UInt8, w.headD 0 ≠ 34 → w ≠ [] → pre w (34 :: (quoteM s ++ 34 :: behind)) = false := by
    intro w hw hne
    unfold pre
    cases w with
    | nil => exact absurd rfl hne
    | cons x w =>
      simp only [List.headD_cons] at hw
      simp only [List.length_cons, List.take_succ_cons]
      rw [beq_eq_false_iff_ne]
      intro e
      simp only [List.cons.injEq] at e
      exact hw e.1.symm
  rw [if_neg (by rw [hp _ (by decide) (by simp)]; simp), if_neg (by rw [hp _ (by decide) (by simp)]; simp), if_neg (by rw [hp _ (by decide) (by simp)]; simp), if_pos rfl]
  rw [strGo_quote behind s.length s _ 1 [] (Nat.le_refl _) h (by simp; omega)]
  simp [LexR.shift]
  omega

end Go.Proofs.Ytambhapgjonmmaa
