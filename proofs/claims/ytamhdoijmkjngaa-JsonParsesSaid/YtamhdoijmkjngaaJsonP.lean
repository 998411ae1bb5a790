/- The parser of JSON, plainly; what is printed is parsed as it was. No program in sight. -/
import Derived.Test.YtamhdoijmkjngaaLexP
namespace Go.Proofs.Ytamhdoijmkjngaa
set_option linter.unusedVariables false
set_option linter.unusedSimpArgs false

mutual
/-- A tree of JSON. -/
inductive J where
  | mk (k : Int) (text : List UInt8) (kids : M)
inductive M where
  | nil
  | cons (n : List UInt8) (v : J) (r : M)
end

def J.kind : J → Int | .mk k _ _ => k
def J.text : J → List UInt8 | .mk _ t _ => t
def J.kids : J → M | .mk _ _ m => m
def M.append : M → M → M
  | .nil, g => g
  | .cons n t r, g => .cons n t (r.append g)
def M.snoc (m : M) (n : List UInt8) (v : J) : M := m.append (.cons n v .nil)
def M.len : M → Nat
  | .nil => 0
  | .cons _ _ r => r.len + 1
theorem M.append_assoc : ∀ f g h : M, (f.append g).append h = f.append (g.append h)
  | .nil, g, h => rfl
  | .cons n t r, g, h => by simp only [M.append, M.append_assoc r g h]
theorem M.append_nil : ∀ f : M, f.append .nil = f
  | .nil => rfl
  | .cons n t r => by simp only [M.append, M.append_nil r]

/-- A value, and the place behind it; or the error and its place. -/
inductive PR (α : Type) where
  | ok (x : α) (p : Nat)
  | bad (e at' : Nat)

def wrongT (kd a : Nat) : Nat × Nat := if kd = 1 then (2, a) else (3, a)

mutual
/-- The value that begins with a token (its Kind, its place, its end, its text), within w others. -/
def valP (l : List UInt8) (dep : Nat) : Nat → Nat → Nat → Nat → Nat → List UInt8 → PR J
  | 0, _, _, a, _, _ => .bad 8 a
  | f + 1, w, kd, a, s, t =>
    if kd = 12 then .ok (.mk 1 [] .nil) s
    else if kd = 11 then .ok (.mk 2 [] .nil) s
    else if kd = 10 then .ok (.mk 3 [] .nil) s
    else if kd = 9 then .ok (.mk 4 t .nil) s
    else if kd = 8 then .ok (.mk 5 t .nil) s
    else if kd = 2 ∨ kd = 4 then
      if dep ≤ w then .bad 8 a
      else match nextAt l s with
        | .err e b => .bad e b
        | .tok kd1 a1 s1 t1 =>
          if kd1 = kd + 1 then .ok (.mk (if kd = 2 then 7 else 6) [] .nil) s1
          else match kidsP l dep f (w + 1) kd .nil kd1 a1 s1 t1 with
            | .bad e b => .bad e b
            | .ok ks p => .ok (.mk (if kd = 2 then 7 else 6) [] ks) p
    else .bad (wrongT kd a).1 (wrongT kd a).2
/-- The Kids from a token on, those ahead of it given. -/
def kidsP (l : List UInt8) (dep : Nat) : Nat → Nat → Nat → M → Nat → Nat → Nat → List UInt8 → PR M
  | 0, _, _, _, _, a, _, _ => .bad 8 a
  | f + 1, w, op, ks, kd, a, s, t =>
    match (if op = 2 then
        (if kd = 8 then match nextAt l s with
          | .err e b => PR.bad e b
          | .tok kd1 a1 s1 _ => if kd1 = 6 then match nextAt l s1 with
              | .err e b => .bad e b
              | .tok kd2 a2 s2 t2 => .ok (t, kd2, a2, s2, t2) 0
            else .bad (wrongT kd1 a1).1 (wrongT kd1 a1).2
        else .bad (wrongT kd a).1 (wrongT kd a).2)
      else PR.ok (([] : List UInt8), kd, a, s, t) 0) with
    | .bad e b => .bad e b
    | .ok (nm, kd0, a0, s0, t0) _ =>
      match valP l dep f w kd0 a0 s0 t0 with
      | .bad e b => .bad e b
      | .ok v p => match nextAt l p with
        | .err e b => .bad e b
        | .tok kd1 a1 s1 _ =>
          if kd1 = op + 1 then .ok (ks.snoc nm v) s1
          else if kd1 = 7 then match nextAt l s1 with
            | .err e b => .bad e b
            | .tok kd2 a2 s2 t2 => kidsP l dep f w op (ks.snoc nm v) kd2 a2 s2 t2
          else .bad (wrongT kd1 a1).1 (wrongT kd1 a1).2
end

/-- The value that a text is. -/
def parseP (l : List UInt8) (dep : Int) : PR J :=
  if dep < 0 ∨ 1000 < dep then .bad 1 0
  else match nextAt l 0 with
    | .err e b => .bad e b
    | .tok kd a s t => match valP l dep.toNat (2 * l.length + 10) 0 kd a s t with
      | .bad e b => .bad e b
      | .ok j p => match nextAt l p with
        | .err e b => .bad e b
        | .tok kd1 a1 _ _ => if kd1 = 1 then .ok j 0 else .bad 7 a1

theorem nextAt_pre (pr b : List UInt8) : nextAt (pr ++ b) pr.length = (nextS b).shift pr.length := by
  unfold nextAt
  rw [if_neg (by simp), List.drop_append, List.drop_of_length_le (Nat.le_refl _), List.nil_append, Nat.sub_self, List.drop_zero]

/-- The text of a tree. -/
def named (obj : Bool) (n : List UInt8) : List UInt8 := if obj then quoteL n ++ [58] else []
mutual
def printJ : J → List UInt8
  | .mk k t m => if k = 1 then [110, 117, 108, 108] else if k = 2 then [102, 97, 108, 115, 101] else if k = 3 then [116, 114, 117, 101] else if k = 4 then t else if k = 5 then quoteL t
    else if k = 7 then 123 :: (printM true true m ++ [125]) else 91 :: (printM false true m ++ [93])
def printM : Bool → Bool → M → List UInt8
  | _, _, .nil => []
  | obj, fst, .cons n v r => (if fst then [] else [44]) ++ (named obj n ++ (printJ v ++ printM obj false r))
end

def wholeB (l : List UInt8) : Bool := wholeTo l == l.length
def M.isNil : M → Bool | .nil => true | .cons .. => false
/-- No Name. -/
def M.bare : M → Bool
  | .nil => true
  | .cons n _ r => n.isEmpty && r.bare
mutual
/-- What is wrong of a tree: 0 nothing. -/
def checkJ : J → Nat
  | .mk k t m =>
    if k < 1 ∨ 7 < k ∨ (m.isNil = false ∧ k ≠ 6 ∧ k ≠ 7) ∨ (t ≠ [] ∧ k ≠ 4 ∧ k ≠ 5) then 1
    else if k = 6 ∧ m.bare = false then 1
    else if k = 4 ∧ (lexeme t = 0 ∨ 300 < t.length) then 10
    else if k = 5 ∧ wholeB t = false then 4
    else checkM m
def checkM : M → Nat
  | .nil => 0
  | .cons n v r => if wholeB n = false then 4 else if checkJ v ≠ 0 then checkJ v else checkM r
end

mutual
/-- How deep a tree is. -/
def nestJ : J → Nat
  | .mk k _ m => if k = 6 ∨ k = 7 then nestM m + 1 else 0
def nestM : M → Nat
  | .nil => 0
  | .cons _ v r => max (nestJ v) (nestM r)
end

mutual
/-- How many steps its reading takes. -/
def fuelJ : J → Nat
  | .mk _ _ m => fuelM m + 1
def fuelM : M → Nat
  | .nil => 0
  | .cons _ v r => fuelJ v + fuelM r + 1
end

theorem tok_sign (c : UInt8) (kd : Nat) (rest : List UInt8) (h : (c = 123 ∧ kd = 2) ∨ (c = 125 ∧ kd = 3) ∨ (c = 91 ∧ kd = 4) ∨ (c = 93 ∧ kd = 5) ∨ (c = 58 ∧ kd = 6) ∨ (c = 44 ∧ kd = 7)) : nextS (c :: rest) = .tok kd 0 1 [] := by
  rcases h with ⟨rfl, rfl⟩ | ⟨rfl, rfl⟩ | ⟨rfl, rfl⟩ | ⟨rfl, rfl⟩ | ⟨rfl, rfl⟩ | ⟨rfl, rfl⟩ <;> rfl

theorem tok_null (rest : List UInt8) : nextS ([110, 117, 108, 108] ++ rest) = .tok 12 0 4 [] := by rfl
theorem tok_false (rest : List UInt8) : nextS ([102, 97, 108, 115, 101] ++ rest) = .tok 11 0 5 [] := by rfl
theorem tok_true (rest : List UInt8) : nextS ([116, 114, 117, 101] ++ rest) = .tok 10 0 4 [] := by rfl

/-- A number's signs. -/
def allNum (t : List UInt8) : Bool := t.all numCh
theorem numLen_all : ∀ (t rest : List UInt8), allNum t = true → (rest = [] ∨ numCh (hd rest) = false) → numLen (t ++ rest) = t.length
  | [], rest, _, h => by
    cases rest with
    | nil => rfl
    | cons c r =>
      rcases h with h | h
      · simp at h
      · have : numCh c = false := h
        simp [numLen, this]
  | c :: t, rest, h, hr => by
    simp only [allNum, List.all_cons, Bool.and_eq_true] at h
    simp only [List.cons_append, numLen, h.1, if_true, List.length_cons]
    rw [numLen_all t rest h.2 hr]

theorem digs_all : ∀ l : List UInt8, allNum (l.take (digs l)) = true
  | [] => rfl
  | c :: r => by
    simp only [digs]
    by_cases h : isDig c = true
    · rw [if_pos h, List.take_succ_cons]
      have := digs_all r
      simp only [allNum, List.all_cons, Bool.and_eq_true]
      refine ⟨?_, this⟩
      unfold numCh; unfold isDig at h; rw [h]; rfl
    · rw [if_neg h]; rfl

theorem all_of_drop (l : List UInt8) (n : Nat) (h1 : allNum (l.take n) = true) (h2 : allNum (l.drop n) = true) : allNum l = true := by
  rw [← List.take_append_drop n l]
  unfold allNum at *
  rw [List.all_append, h1, h2]; rfl

theorem lexExp_all (kind : Nat) (l : List UInt8) (h : lexExp kind l ≠ 0) : allNum l = true := by
  cases l with
  | nil => rfl
  | cons c r =>
    simp only [lexExp] at h
    split at h
    · rename_i hc
      have hcn : numCh c = true := by rcases hc with rfl | rfl <;> decide
      simp only [allNum, List.all_cons, hcn, Bool.true_and]
      have key : ∀ q : List UInt8, (if digs q = 0 then 0 else if digs q = q.length then 2 else 0) ≠ 0 → allNum q = true := by
        intro q hq
        split at hq
        · exact absurd rfl hq
        · split at hq
          · rename_i h2
            have := digs_all q
            rw [h2, List.take_of_length_le (Nat.le_refl _)] at this
            exact this
          · exact absurd rfl hq
      cases r with
      | nil => rfl
      | cons d q =>
        simp only at h
        by_cases hd : d = 43 ∨ d = 45
        · have hk := key _ h
          rw [if_pos hd] at hk
          have hdn : numCh d = true := by rcases hd with rfl | rfl <;> decide
          have := hk
          simp only [allNum] at this
          simp only [List.all_cons, hdn, this]; rfl
        · have hk := key _ h
          rw [if_neg hd] at hk
          exact hk
    · exact absurd rfl h

theorem lexFrac_all (l : List UInt8) (h : lexFrac l ≠ 0) : allNum l = true := by
  cases l with
  | nil => rfl
  | cons c r =>
    simp only [lexFrac] at h
    split at h
    · rename_i hc
      subst hc
      split at h
      · exact absurd rfl h
      · have h1 := lexExp_all 2 _ h
        have := all_of_drop r (digs r) (digs_all r) h1
        simp only [allNum, List.all_cons] at this ⊢
        rw [this]; rfl
    · exact lexExp_all 1 _ h

/-- A number's first sign, and all of its signs. -/
theorem lexeme_all (t : List UInt8) (h : lexeme t ≠ 0) : allNum t = true ∧ t ≠ [] ∧ (hd t = 45 ∨ isDig (hd t) = true) := by
  have key : ∀ q : List UInt8, (if digs q = 0 ∨ (hd q = 48 ∧ 1 < digs q) then 0 else lexFrac (q.drop (digs q))) ≠ 0 → allNum q = true ∧ q ≠ [] ∧ isDig (hd q) = true := by
    intro q hq
    split at hq
    · exact absurd rfl hq
    · rename_i hn
      refine ⟨all_of_drop q (digs q) (digs_all q) (lexFrac_all _ hq), ?_, ?_⟩
      · intro e; rw [e] at hn; exact hn (.inl rfl)
      · cases q with
        | nil => exact absurd (Or.inl rfl) hn
        | cons c r =>
          show isDig c = true
          cases hc : isDig c with
          | true => rfl
          | false => exfalso; apply hn; left; simp [digs, hc]
  unfold lexeme at h
  cases t with
  | nil => exact absurd rfl h
  | cons c r =>
    simp only at h
    by_cases hc : c = 45
    · rw [if_pos hc] at h
      obtain ⟨h1, h2, h3⟩ := key r h
      refine ⟨?_, by simp, .inl hc⟩
      simp only [allNum, List.all_cons] at h1 ⊢
      rw [h1, hc]; rfl
    · rw [if_neg hc] at h
      obtain ⟨h1, h2, h3⟩ := key _ h
      exact ⟨h1, h2, .inr h3⟩

theorem nextAt_at {l pr b : List UInt8} {p : Nat} (h : l = pr ++ b) (hp : p = pr.length) : nextAt l p = (nextS b).shift p := by subst h hp; exact nextAt_pre pr b

theorem checkJ_parts {k : Int} {t : List UInt8} {m : M} (h : checkJ (.mk k t m) = 0) : (1 ≤ k ∧ k ≤ 7) ∧ (m.isNil = false → k = 6 ∨ k = 7) ∧ (t ≠ [] → k = 4 ∨ k = 5) ∧ (k = 6 → m.bare = true) ∧ (k = 4 → lexeme t ≠ 0 ∧ t.length ≤ 300) ∧ (k = 5 → wholeTo t = t.length) ∧ checkM m = 0 := by
  unfold checkJ at h
  split at h
  · simp at h
  · rename_i h1
    split at h
    · simp at h
    · rename_i h2
      split at h
      · simp at h
      · rename_i h3
        split at h
        · simp at h
        · rename_i h4
          refine ⟨by omega, fun hm => ?_, fun ht => ?_, fun hk => ?_, fun hk => ?_, fun hk => ?_, h⟩
          · by_cases e : k = 6 ∨ k = 7
            · exact e
            · exact absurd (Or.inr (Or.inr (Or.inl ⟨hm, by omega, by omega⟩))) h1
          · by_cases e : k = 4 ∨ k = 5
            · exact e
            · exact absurd (Or.inr (Or.inr (Or.inr ⟨ht, by omega, by omega⟩))) h1
          · cases hb : m.bare with
            | true => rfl
            | false => exact absurd ⟨hk, hb⟩ h2
          · exact ⟨fun e => h3 ⟨hk, .inl e⟩, by
              by_cases e : t.length ≤ 300
              · exact e
              · exact absurd ⟨hk, .inr (by omega)⟩ h3⟩
          · cases hb : wholeB t with
            | true => simpa [wholeB] using hb
            | false => exact absurd ⟨hk, hb⟩ h4

theorem isNil_eq {m : M} (h : m.isNil = true) : m = .nil := by cases m with
  | nil => rfl
  | cons => simp [M.isNil] at h

def opOf (obj : Bool) : Nat := if obj then 2 else 4
def closeOf (obj : Bool) : UInt8 := if obj then 125 else 93
theorem close_tok (obj : Bool) (rest : List UInt8) : nextS (closeOf obj :: rest) = .tok (opOf obj + 1) 0 1 [] := by cases obj <;> exact tok_sign _ _ _ (by simp [closeOf, opOf])

/-- What is read of a tree's text: the tree. -/
def ValOk (l : List UInt8) (dep w f : Nat) (p : Nat) (j : J) (n : Nat) : Prop :=
  ∃ kd s t, nextAt l p = .tok kd p s t ∧ kd ≠ 1 ∧ kd ≠ 3 ∧ kd ≠ 5 ∧ kd ≠ 7 ∧ valP l dep f w kd p s t = .ok j (p + n)

/-- What is read of Kids' texts. -/
def KidsOk (l : List UInt8) (dep w f : Nat) (op : Nat) (ks : M) (p : Nat) (m : M) (n : Nat) : Prop :=
  ∃ kd s t, nextAt l p = .tok kd p s t ∧ kd ≠ op + 1 ∧ kidsP l dep f w op ks kd p s t = .ok (ks.append m) (p + n)

theorem shift0 (kd s p : Nat) (t : List UInt8) : LexR.shift p (.tok kd 0 s t) = .tok kd p (p + s) t := rfl

theorem tok_num (t rest : List UInt8) (h : lexeme t ≠ 0) (hl : t.length ≤ 300) (hr : rest = [] ∨ numCh (hd rest) = false) : nextS (t ++ rest) = .tok 9 0 t.length t := by
  obtain ⟨h1, h2, h3⟩ := lexeme_all t h
  have hn := numLen_all t rest h1 hr
  cases t with
  | nil => exact absurd rfl h2
  | cons c r =>
    have h3 : c = 45 ∨ isDig c = true := h3
    have hne : ∀ x : UInt8, x ≠ 45 → isDig x = false → c ≠ x := by
      intro x hx hd e
      rcases h3 with h | h
      · exact hx (e ▸ h)
      · rw [e, hd] at h; simp at h
    have hb : blanks ((c :: r) ++ rest) = 0 := by
      show (if blank c then _ else 0) = 0
      rw [if_neg]
      unfold blank
      simp only [Bool.or_eq_true, beq_iff_eq, not_or]
      exact ⟨⟨⟨hne _ (by decide) (by decide), hne _ (by decide) (by decide)⟩, hne _ (by decide) (by decide)⟩, hne _ (by decide) (by decide)⟩
    have hp : ∀ w : List UInt8, w ≠ [] → c ≠ w.headD 0 → pre w ((c :: r) ++ rest) = false := by
      intro w hw hh
      unfold pre
      cases w with
      | nil => exact absurd rfl hw
      | cons x w =>
        simp only [List.headD_cons] at hh
        simp only [List.cons_append, List.length_cons, List.take_succ_cons]
        rw [beq_eq_false_iff_ne]
        intro e
        simp only [List.cons.injEq] at e
        exact hh e.1
    unfold nextS
    rw [hb, List.drop_zero]
    have ht : tokS ((c :: r) ++ rest) = .tok 9 0 (c :: r).length (c :: r) := by
      rw [List.cons_append] at hn hp ⊢
      rw [tokS, if_neg (hne _ (by decide) (by decide)), if_neg (hne _ (by decide) (by decide)), if_neg (hne _ (by decide) (by decide)), if_neg (hne _ (by decide) (by decide)), if_neg (hne _ (by decide) (by decide)), if_neg (hne _ (by decide) (by decide))]
      rw [if_neg (by rw [hp _ (by simp) (hne _ (by decide) (by decide))]; simp), if_neg (by rw [hp _ (by simp) (hne _ (by decide) (by decide))]; simp), if_neg (by rw [hp _ (by simp) (hne _ (by decide) (by decide))]; simp)]
      rw [if_neg (hne _ (by decide) (by decide)), if_pos h3]
      simp only
      rw [hn]
      have hx : List.take (c :: r).length (c :: (r ++ rest)) = c :: r := by
        rw [← List.cons_append, List.take_append, Nat.sub_self, List.take_zero, List.append_nil, List.take_of_length_le (Nat.le_refl _)]
      rw [hx, if_neg h, if_neg (by omega)]
    rw [ht]
    simp [LexR.shift]

theorem rest_close (obj : Bool) (r : M) (rest : List UInt8) : numCh (hd (printM obj false r ++ closeOf obj :: rest)) = false := by
  cases r with
  | nil => cases obj <;> rfl
  | cons n v r => simp [printM, hd, numCh]

mutual
theorem val_print : ∀ (j : J) (pr rest : List UInt8) (dep w f : Nat), checkJ j = 0 → nestJ j + w ≤ dep → fuelJ j ≤ f → (j.kind = 4 → rest = [] ∨ numCh (hd rest) = false) →
    ValOk (pr ++ (printJ j ++ rest)) dep w f pr.length j (printJ j).length
  | .mk k t m, pr, rest, dep, w, f, hc, hd', hf, hn => by
    obtain ⟨hk, hm, ht, hb, hnum, hstr, hcm⟩ := checkJ_parts hc
    match f, hf with
    | 0, hf => simp [fuelJ] at hf
    | f + 1, hf =>
      have hfm : fuelM m ≤ f := by simp only [fuelJ] at hf; omega
      have leaf : (k ≠ 6 ∧ k ≠ 7) → m = .nil := fun h => by
        cases hh : m.isNil with
        | true => exact isNil_eq hh
        | false => rcases hm hh with e | e; exact absurd e h.1; exact absurd e h.2
      have bare : (k ≠ 4 ∧ k ≠ 5) → t = [] := fun h => by
        by_cases e : t = []
        · exact e
        · rcases ht e with e | e; exact absurd e h.1; exact absurd e h.2
      by_cases k1 : k = 1
      · subst k1
        rw [leaf (by omega), bare (by omega)]
        refine ⟨12, pr.length + 4, [], ?_, by omega, by omega, by omega, by omega, ?_⟩
        · rw [nextAt_at rfl rfl]; simp only [printJ]; exact congrArg (LexR.shift pr.length) (tok_null rest)
        · simp only [valP, printJ]; rfl
      by_cases k2 : k = 2
      · subst k2
        rw [leaf (by omega), bare (by omega)]
        refine ⟨11, pr.length + 5, [], ?_, by omega, by omega, by omega, by omega, ?_⟩
        · rw [nextAt_at rfl rfl]; simp only [printJ]; exact congrArg (LexR.shift pr.length) (tok_false rest)
        · simp only [valP, printJ]; rfl
      by_cases k3 : k = 3
      · subst k3
        rw [leaf (by omega), bare (by omega)]
        refine ⟨10, pr.length + 4, [], ?_, by omega, by omega, by omega, by omega, ?_⟩
        · rw [nextAt_at rfl rfl]; simp only [printJ]; exact congrArg (LexR.shift pr.length) (tok_true rest)
        · simp only [valP, printJ]; rfl
      by_cases k4 : k = 4
      · subst k4
        rw [leaf (by omega)]
        obtain ⟨h1, h2⟩ := hnum rfl
        have hp : printJ (.mk 4 t .nil) = t := by simp [printJ]
        rw [hp]
        refine ⟨9, pr.length + t.length, t, ?_, by omega, by omega, by omega, by omega, ?_⟩
        · rw [nextAt_at rfl rfl, tok_num t rest h1 h2 (hn rfl), shift0]
        · simp [valP]
      by_cases k5 : k = 5
      · subst k5
        rw [leaf (by omega)]
        have hp : printJ (.mk 5 t .nil) = quoteL t := by simp [printJ]
        rw [hp]
        refine ⟨8, pr.length + (quoteL t).length, t, ?_, by omega, by omega, by omega, by omega, ?_⟩
        · rw [nextAt_at rfl rfl, tok_quote t rest (hstr rfl), shift0]
        · simp [valP]
      -- the two with Kids
      obtain ⟨obj, hobj⟩ : ∃ obj : Bool, obj = decide (k = 7) := ⟨_, rfl⟩
      have hk7 : k = if obj then 7 else 6 := by rw [hobj]; by_cases e : k = 7 <;> simp [e]; omega
      have hp : printJ (.mk k t m) = (if obj then 123 else 91) :: (printM obj true m ++ [closeOf obj]) := by
        rw [hk7]; cases obj <;> simp [printJ, closeOf]
      have hop : nextS ((if obj then (123 : UInt8) else 91) :: (printM obj true m ++ closeOf obj :: rest)) = .tok (opOf obj) 0 1 [] := by
        cases obj <;> exact tok_sign _ _ _ (by simp [opOf])
      have hdw : w + 1 + nestM m ≤ dep := by
        have : nestJ (.mk k t m) = nestM m + 1 := by simp only [nestJ]; rw [if_pos (by omega)]
        omega
      have hL : pr ++ (printJ (.mk k t m) ++ rest) = pr ++ ((if obj then (123 : UInt8) else 91) :: (printM obj true m ++ closeOf obj :: rest)) := by rw [hp]; simp
      have hlen : (printJ (.mk k t m)).length = (printM obj true m).length + 2 := by rw [hp]; simp
      have ht0 : t = [] := bare (by omega)
      subst ht0
      rw [hL, hlen]
      have hkk : ((if opOf obj = 2 then 7 else 6 : Int)) = k := by rw [hk7]; cases obj <;> rfl
      refine ⟨opOf obj, pr.length + 1, [], ?_, by cases obj <;> simp [opOf], by cases obj <;> simp [opOf], by cases obj <;> simp [opOf], by cases obj <;> simp [opOf], ?_⟩
      · rw [nextAt_at rfl rfl, hop, shift0]
      · have o12 : opOf obj ≠ 12 ∧ opOf obj ≠ 11 ∧ opOf obj ≠ 10 ∧ opOf obj ≠ 9 ∧ opOf obj ≠ 8 ∧ (opOf obj = 2 ∨ opOf obj = 4) := by cases obj <;> simp [opOf]
        rw [valP, if_neg o12.1, if_neg o12.2.1, if_neg o12.2.2.1, if_neg o12.2.2.2.1, if_neg o12.2.2.2.2.1, if_pos o12.2.2.2.2.2, if_neg (by omega)]
        cases m with
        | nil =>
          have e1 : pr ++ ((if obj then (123 : UInt8) else 91) :: (printM obj true .nil ++ closeOf obj :: rest)) = (pr ++ [if obj then (123 : UInt8) else 91]) ++ (closeOf obj :: rest) := by simp [printM]
          rw [nextAt_at e1 (by simp), close_tok, shift0]
          simp only [if_true, hkk]
          simp [printM]
        | cons n v r =>
          have ih := kids_print (.cons n v r) n v r rfl (pr ++ [if obj then (123 : UInt8) else 91]) rest .nil dep (w + 1) f obj hcm (fun e => hb (by rw [hk7, e]; rfl)) (by omega) hfm
          have e1 : pr ++ ((if obj then (123 : UInt8) else 91) :: (printM obj true (.cons n v r) ++ closeOf obj :: rest)) = (pr ++ [if obj then (123 : UInt8) else 91]) ++ (named obj n ++ (printJ v ++ (printM obj false r ++ closeOf obj :: rest))) := by simp [printM]
          rw [e1]
          obtain ⟨kd, s, t, h1, h2, h3⟩ := ih
          simp only [List.length_append, List.length_cons, List.length_nil, Nat.zero_add] at h1 h3
          rw [h1]
          simp only
          rw [if_neg h2, h3]
          simp only [M.append, hkk]
          congr 1
          simp only [printM, if_true, List.nil_append, List.length_append]
          omega
theorem kids_print : ∀ (m : M) (n : List UInt8) (v : J) (r : M), m = .cons n v r → ∀ (pr rest : List UInt8) (ks : M) (dep w f : Nat) (obj : Bool), checkM m = 0 → (obj = false → m.bare = true) → nestM m + w ≤ dep → fuelM m ≤ f →
    KidsOk (pr ++ (named obj n ++ (printJ v ++ (printM obj false r ++ closeOf obj :: rest)))) dep w f (opOf obj) ks pr.length m ((named obj n).length + (printJ v).length + (printM obj false r).length + 1)
  | .nil, n, v, r, h => by simp at h
  | .cons n' v' r', n, v, r, h => by
    simp only [M.cons.injEq] at h
    obtain ⟨rfl, rfl, rfl⟩ := h
    intro pr rest ks dep w f obj hc hb hd' hf
    have hcw : wholeB n' = true := by
      cases e : wholeB n' with
      | true => rfl
      | false => simp [checkM, e] at hc
    have hcv : checkJ v' = 0 := by
      simp only [checkM, hcw] at hc
      by_cases e : checkJ v' = 0
      · exact e
      · simp [e] at hc
    have hcr : checkM r' = 0 := by
      simp only [checkM, hcw, hcv] at hc
      simpa using hc
    have hdv : nestJ v' + w ≤ dep ∧ nestM r' + w ≤ dep := by simp only [nestM] at hd'; omega
    match f, hf with
    | 0, hf => simp [fuelM] at hf
    | f + 1, hf =>
      have hfv : fuelJ v' ≤ f ∧ fuelM r' ≤ f := by simp only [fuelM] at hf; omega
      have hwn : wholeTo n' = n'.length := by simpa [wholeB] using hcw
      have hbr : obj = false → n' = [] ∧ r'.bare = true := fun h => by
        have := hb h
        simp only [M.bare, Bool.and_eq_true, List.isEmpty_iff] at this
        exact this
      -- the value, and what stands behind it
      have core : ∀ q : List UInt8, ∃ kd s t, nextAt (q ++ (printJ v' ++ (printM obj false r' ++ closeOf obj :: rest))) q.length = .tok kd q.length s t ∧ kd ≠ 1 ∧ kd ≠ 3 ∧ kd ≠ 5 ∧ kd ≠ 7 ∧
          ∃ p kd1 s1, valP (q ++ (printJ v' ++ (printM obj false r' ++ closeOf obj :: rest))) dep f w kd q.length s t = .ok v' p ∧ p = q.length + (printJ v').length ∧
          nextAt (q ++ (printJ v' ++ (printM obj false r' ++ closeOf obj :: rest))) p = .tok kd1 p s1 [] ∧ s1 = p + 1 ∧
          ((r' = .nil ∧ kd1 = opOf obj + 1) ∨ (kd1 = 7 ∧ ∀ ks', KidsOk (q ++ (printJ v' ++ (printM obj false r' ++ closeOf obj :: rest))) dep w f (opOf obj) ks' s1 r' (printM obj false r').length)) := by
        intro q
        obtain ⟨kd, s, t, h1, h2, h3, h4, h5, h6⟩ := val_print v' q (printM obj false r' ++ closeOf obj :: rest) dep w f hcv hdv.1 hfv.1 (fun _ => .inr (rest_close obj r' rest))
        refine ⟨kd, s, t, h1, h2, h3, h4, h5, q.length + (printJ v').length, ?_⟩
        cases r' with
        | nil =>
          refine ⟨opOf obj + 1, _, h6, rfl, ?_, rfl, .inl ⟨rfl, rfl⟩⟩
          rw [nextAt_at (pr := q ++ printJ v') (b := closeOf obj :: rest) (by simp [printM]) (by simp), close_tok, shift0]
        | cons n2 v2 r2 =>
          refine ⟨7, _, h6, rfl, ?_, rfl, .inr ⟨rfl, fun ks' => ?_⟩⟩
          · rw [nextAt_at (pr := q ++ printJ v') (b := 44 :: (named obj n2 ++ (printJ v2 ++ (printM obj false r2 ++ closeOf obj :: rest)))) (by simp [printM]) (by simp), tok_sign 44 7 _ (by simp), shift0]
          · have ih := kids_print (.cons n2 v2 r2) n2 v2 r2 rfl (q ++ printJ v' ++ [44]) rest ks' dep w f obj hcr (fun h => (hbr h).2) hdv.2 hfv.2
            have e : q ++ (printJ v' ++ (printM obj false (.cons n2 v2 r2) ++ closeOf obj :: rest)) = (q ++ printJ v' ++ [44]) ++ (named obj n2 ++ (printJ v2 ++ (printM obj false r2 ++ closeOf obj :: rest))) := by simp [printM]
            rw [e]
            have e2 : (printM obj false (.cons n2 v2 r2)).length = (named obj n2).length + (printJ v2).length + (printM obj false r2).length + 1 := by simp [printM]; omega
            rw [e2]
            have e3 : (q ++ printJ v' ++ [44]).length = q.length + (printJ v').length + 1 := by simp; omega
            rw [e3] at ih
            exact ih
      cases obj with
      | true =>
        have hq : pr ++ (named true n' ++ (printJ v' ++ (printM true false r' ++ closeOf true :: rest))) = (pr ++ quoteL n' ++ [58]) ++ (printJ v' ++ (printM true false r' ++ closeOf true :: rest)) := by simp [named]
        obtain ⟨kd, s, t, h1, h2, h3, h4, h5, p, kd1, s1, h6, h7, h8, h9, h10⟩ := core (pr ++ quoteL n' ++ [58])
        have hn1 : nextAt (pr ++ (named true n' ++ (printJ v' ++ (printM true false r' ++ closeOf true :: rest)))) pr.length = .tok 8 pr.length (pr.length + (quoteL n').length) n' := by
          rw [nextAt_at (pr := pr) (b := quoteL n' ++ (58 :: (printJ v' ++ (printM true false r' ++ closeOf true :: rest)))) (by simp [named]) rfl, tok_quote n' _ hwn, shift0]
        have hn2 : nextAt (pr ++ (named true n' ++ (printJ v' ++ (printM true false r' ++ closeOf true :: rest)))) (pr.length + (quoteL n').length) = .tok 6 (pr.length + (quoteL n').length) (pr.length + (quoteL n').length + 1) [] := by
          rw [nextAt_at (pr := pr ++ quoteL n') (b := 58 :: (printJ v' ++ (printM true false r' ++ closeOf true :: rest))) (by simp [named]) (by simp), tok_sign 58 6 _ (by simp), shift0]
        have hlen : (pr ++ quoteL n' ++ [58]).length = pr.length + (quoteL n').length + 1 := by simp; omega
        rw [← hq] at h1 h6 h8 h10
        rw [hlen] at h1 h6
        refine ⟨8, _, n', hn1, by simp [opOf], ?_⟩
        rw [kidsP]
        simp only [opOf, if_true, hn2, h1, h6, h8]
        rcases h10 with ⟨rfl, rfl⟩ | ⟨rfl, hK⟩
        · simp only [opOf, if_true]
          rw [h9, h7, hlen]
          simp only [M.snoc, printM, named, if_true, List.length_append, List.length_cons, List.length_nil]
          congr 1
          omega
        · obtain ⟨kd2, s2, t2, g1, g2, g3⟩ := hK (ks.snoc n' v')
          simp only [opOf, if_true] at g1 g2 g3 ⊢
          rw [if_neg (by omega), g1]
          simp only
          rw [g3, h9, h7, hlen]
          simp only [M.snoc, M.append_assoc, M.append, named, if_true, List.length_append, List.length_cons, List.length_nil]
          congr 1
          omega
      | false =>
        obtain ⟨rfl, _⟩ := hbr rfl
        have hq : pr ++ (named false [] ++ (printJ v' ++ (printM false false r' ++ closeOf false :: rest))) = pr ++ (printJ v' ++ (printM false false r' ++ closeOf false :: rest)) := by simp [named]
        obtain ⟨kd, s, t, h1, h2, h3, h4, h5, p, kd1, s1, h6, h7, h8, h9, h10⟩ := core pr
        rw [hq]
        refine ⟨kd, s, t, h1, by simpa [opOf] using h4, ?_⟩
        rw [kidsP]
        have h42 : ¬ ((4 : Nat) = 2) := by omega
        simp only [opOf, Bool.false_eq_true, if_false, h42, h6, h8]
        rcases h10 with ⟨rfl, rfl⟩ | ⟨rfl, hK⟩
        · simp only [opOf, Bool.false_eq_true, if_false, if_true]
          rw [h9, h7]
          simp only [M.snoc, printM, named, Bool.false_eq_true, if_false, List.length_nil]
          congr 1
          omega
        · obtain ⟨kd2, s2, t2, g1, g2, g3⟩ := hK (ks.snoc [] v')
          simp only [opOf, Bool.false_eq_true, if_false] at g1 g2 g3 ⊢
          rw [if_neg (by omega)]
          simp only [if_true, g1]
          rw [g3, h9, h7]
          simp only [M.snoc, M.append_assoc, M.append, named, Bool.false_eq_true, if_false, List.length_nil]
          congr 1
          omega
end

mutual
theorem fuelJ_len : ∀ j : J, checkJ j = 0 → fuelJ j ≤ (printJ j).length
  | .mk k t m, hc => by
    obtain ⟨hk, hm, ht, hb, hnum, hstr, hcm⟩ := checkJ_parts hc
    have h1 := fuelM_len true true m hcm
    have h2 := fuelM_len false true m hcm
    simp only [fuelJ]
    simp only [if_true] at h1 h2
    by_cases h6 : k = 6 ∨ k = 7
    · simp only [printJ]
      rw [if_neg (by omega), if_neg (by omega), if_neg (by omega), if_neg (by omega), if_neg (by omega)]
      split <;> simp <;> omega
    · have hmn : m = .nil := by
        cases hh : m.isNil with
        | true => exact isNil_eq hh
        | false => exact absurd (hm hh) h6
      subst hmn
      simp only [fuelM, printJ]
      by_cases k4 : k = 4
      · rw [if_neg (by omega), if_neg (by omega), if_neg (by omega), if_pos k4]
        have := (lexeme_all t (hnum k4).1).2.1
        have := List.length_pos_iff.2 this
        omega
      · have h4 : k = 1 ∨ k = 2 ∨ k = 3 ∨ k = 5 := by omega
        rcases h4 with rfl | rfl | rfl | rfl <;> simp [quoteL_len]
theorem fuelM_len : ∀ (obj fst : Bool) (m : M), checkM m = 0 → fuelM m ≤ (printM obj fst m).length + (if fst then 1 else 0)
  | obj, fst, .nil, _ => by simp [fuelM]
  | obj, fst, .cons n v r, hc => by
    have hcw : wholeB n = true := by
      cases e : wholeB n with
      | true => rfl
      | false => simp [checkM, e] at hc
    have hcv : checkJ v = 0 := by
      simp only [checkM, hcw] at hc
      by_cases e : checkJ v = 0
      · exact e
      · simp [e] at hc
    have hcr : checkM r = 0 := by
      simp only [checkM, hcw, hcv] at hc
      simpa using hc
    have h1 := fuelJ_len v hcv
    have h2 := fuelM_len obj false r hcr
    simp only [fuelM, printM, List.length_append]
    cases fst <;> simp at h2 ⊢ <;> omega
end

/-- A tree's text is read as the tree. -/
theorem parse_print (j : J) (dep : Int) (hc : checkJ j = 0) (h0 : (nestJ j : Int) ≤ dep) (h1 : dep ≤ 1000) : parseP (printJ j) dep = .ok j 0 := by
  have hf := fuelJ_len j hc
  obtain ⟨kd, s, t, g1, g2, g3, g4, g5, g6⟩ := val_print j [] [] dep.toNat 0 (2 * (printJ j).length + 10) hc (by omega) (by omega) (fun _ => .inl rfl)
  simp only [List.nil_append, List.append_nil, List.length_nil, Nat.zero_add] at g1 g6
  have he : nextAt (printJ j) (printJ j).length = .tok 1 (printJ j).length (printJ j).length [] := by
    have := nextAt_pre (printJ j) []
    rw [List.append_nil] at this
    rw [this]
    rfl
  unfold parseP
  rw [if_neg (by omega), g1]
  simp only [g6, he, if_true]

theorem check_cons {n : List UInt8} {v : J} {r : M} (hc : checkM (.cons n v r) = 0) : wholeTo n = n.length ∧ checkJ v = 0 ∧ checkM r = 0 := by
  have hcw : wholeB n = true := by
    cases e : wholeB n with
    | true => rfl
    | false => simp [checkM, e] at hc
  have hcv : checkJ v = 0 := by
    simp only [checkM, hcw] at hc
    by_cases e : checkJ v = 0
    · exact e
    · simp [e] at hc
  refine ⟨by simpa [wholeB] using hcw, hcv, ?_⟩
  simp only [checkM, hcw, hcv] at hc
  simpa using hc

/-- A text that is too deep. -/
def DeepOk (l : List UInt8) (dep w f : Nat) (p : Nat) : Prop :=
  ∃ kd s t, nextAt l p = .tok kd p s t ∧ kd ≠ 1 ∧ kd ≠ 3 ∧ kd ≠ 5 ∧ kd ≠ 7 ∧ ∃ a, valP l dep f w kd p s t = .bad 8 a

mutual
theorem val_deep : ∀ (j : J) (pr rest : List UInt8) (dep w f : Nat), checkJ j = 0 → w ≤ dep → dep < nestJ j + w → fuelJ j ≤ f → DeepOk (pr ++ (printJ j ++ rest)) dep w f pr.length
  | .mk k t m, pr, rest, dep, w, f, hc, hw, hd', hf => by
    obtain ⟨hk, hm, ht, hb, hnum, hstr, hcm⟩ := checkJ_parts hc
    have h67 : k = 6 ∨ k = 7 := by
      by_cases e : k = 6 ∨ k = 7
      · exact e
      · simp only [nestJ] at hd'; rw [if_neg e] at hd'; omega
    have hdw : dep < w + 1 + nestM m := by simp only [nestJ] at hd'; rw [if_pos h67] at hd'; omega
    have ht0 : t = [] := by
      by_cases e : t = []
      · exact e
      · rcases ht e with e | e <;> omega
    subst ht0
    match f, hf with
    | 0, hf => simp [fuelJ] at hf
    | f + 1, hf =>
      have hfm : fuelM m ≤ f := by simp only [fuelJ] at hf; omega
      obtain ⟨obj, hobj⟩ : ∃ obj : Bool, obj = decide (k = 7) := ⟨_, rfl⟩
      have hk7 : k = if obj then 7 else 6 := by rw [hobj]; by_cases e : k = 7 <;> simp [e]; omega
      have hp : printJ (.mk k [] m) = (if obj then 123 else 91) :: (printM obj true m ++ [closeOf obj]) := by
        rw [hk7]; cases obj <;> simp [printJ, closeOf]
      have hop : nextS ((if obj then (123 : UInt8) else 91) :: (printM obj true m ++ closeOf obj :: rest)) = .tok (opOf obj) 0 1 [] := by
        cases obj <;> exact tok_sign _ _ _ (by simp [opOf])
      have hL : pr ++ (printJ (.mk k [] m) ++ rest) = pr ++ ((if obj then (123 : UInt8) else 91) :: (printM obj true m ++ closeOf obj :: rest)) := by rw [hp]; simp
      rw [hL]
      refine ⟨opOf obj, pr.length + 1, [], ?_, by cases obj <;> simp [opOf], by cases obj <;> simp [opOf], by cases obj <;> simp [opOf], by cases obj <;> simp [opOf], ?_⟩
      · rw [nextAt_at rfl rfl, hop, shift0]
      · have o12 : opOf obj ≠ 12 ∧ opOf obj ≠ 11 ∧ opOf obj ≠ 10 ∧ opOf obj ≠ 9 ∧ opOf obj ≠ 8 ∧ (opOf obj = 2 ∨ opOf obj = 4) := by cases obj <;> simp [opOf]
        rw [valP, if_neg o12.1, if_neg o12.2.1, if_neg o12.2.2.1, if_neg o12.2.2.2.1, if_neg o12.2.2.2.2.1, if_pos o12.2.2.2.2.2]
        by_cases hdw2 : dep ≤ w
        · rw [if_pos hdw2]; exact ⟨_, rfl⟩
        · rw [if_neg hdw2]
          cases m with
          | nil => simp only [nestM] at hdw; omega
          | cons n v r =>
            have ih := kids_deep (.cons n v r) n v r rfl (pr ++ [if obj then (123 : UInt8) else 91]) rest .nil dep (w + 1) f obj hcm (fun e => hb (by rw [hk7, e]; rfl)) (by omega) (by omega) hfm
            have e1 : pr ++ ((if obj then (123 : UInt8) else 91) :: (printM obj true (.cons n v r) ++ closeOf obj :: rest)) = (pr ++ [if obj then (123 : UInt8) else 91]) ++ (named obj n ++ (printJ v ++ (printM obj false r ++ closeOf obj :: rest))) := by simp [printM]
            rw [e1]
            obtain ⟨kd, s, t, h1, h2, a, h3⟩ := ih
            simp only [List.length_append, List.length_cons, List.length_nil, Nat.zero_add] at h1 h3
            rw [h1]
            simp only
            rw [if_neg h2, h3]
            exact ⟨a, rfl⟩
theorem kids_deep : ∀ (m : M) (n : List UInt8) (v : J) (r : M), m = .cons n v r → ∀ (pr rest : List UInt8) (ks : M) (dep w f : Nat) (obj : Bool), checkM m = 0 → (obj = false → m.bare = true) → w ≤ dep → dep < nestM m + w → fuelM m ≤ f →
    ∃ kd s t, nextAt (pr ++ (named obj n ++ (printJ v ++ (printM obj false r ++ closeOf obj :: rest)))) pr.length = .tok kd pr.length s t ∧ kd ≠ opOf obj + 1 ∧ ∃ a, kidsP (pr ++ (named obj n ++ (printJ v ++ (printM obj false r ++ closeOf obj :: rest)))) dep f w (opOf obj) ks kd pr.length s t = .bad 8 a
  | .nil, n, v, r, h => by simp at h
  | .cons n' v' r', n, v, r, h => by
    simp only [M.cons.injEq] at h
    obtain ⟨rfl, rfl, rfl⟩ := h
    intro pr rest ks dep w f obj hc hb hw hd' hf
    obtain ⟨hwn, hcv, hcr⟩ := check_cons hc
    match f, hf with
    | 0, hf => simp [fuelM] at hf
    | f + 1, hf =>
      have hfv : fuelJ v' ≤ f ∧ fuelM r' ≤ f := by simp only [fuelM] at hf; omega
      have hbr : obj = false → n' = [] ∧ r'.bare = true := fun h => by
        have := hb h
        simp only [M.bare, Bool.and_eq_true, List.isEmpty_iff] at this
        exact this
      -- the value, or what stands behind it, is too deep
      have core : ∀ q : List UInt8, ∃ kd s t, nextAt (q ++ (printJ v' ++ (printM obj false r' ++ closeOf obj :: rest))) q.length = .tok kd q.length s t ∧ kd ≠ 1 ∧ kd ≠ 3 ∧ kd ≠ 5 ∧ kd ≠ 7 ∧
          ((∃ a, valP (q ++ (printJ v' ++ (printM obj false r' ++ closeOf obj :: rest))) dep f w kd q.length s t = .bad 8 a) ∨
          ∃ p s1, valP (q ++ (printJ v' ++ (printM obj false r' ++ closeOf obj :: rest))) dep f w kd q.length s t = .ok v' p ∧
          nextAt (q ++ (printJ v' ++ (printM obj false r' ++ closeOf obj :: rest))) p = .tok 7 p s1 [] ∧
          ∀ ks', ∃ kd2 s2 t2, nextAt (q ++ (printJ v' ++ (printM obj false r' ++ closeOf obj :: rest))) s1 = .tok kd2 s1 s2 t2 ∧ ∃ a, kidsP (q ++ (printJ v' ++ (printM obj false r' ++ closeOf obj :: rest))) dep f w (opOf obj) ks' kd2 s1 s2 t2 = .bad 8 a) := by
        intro q
        by_cases hv : dep < nestJ v' + w
        · obtain ⟨kd, s, t, h1, h2, h3, h4, h5, h6⟩ := val_deep v' q (printM obj false r' ++ closeOf obj :: rest) dep w f hcv hw hv hfv.1
          exact ⟨kd, s, t, h1, h2, h3, h4, h5, .inl h6⟩
        · obtain ⟨kd, s, t, h1, h2, h3, h4, h5, h6⟩ := val_print v' q (printM obj false r' ++ closeOf obj :: rest) dep w f hcv (by omega) hfv.1 (fun _ => .inr (rest_close obj r' rest))
          have hdr : dep < nestM r' + w := by simp only [nestM] at hd'; omega
          refine ⟨kd, s, t, h1, h2, h3, h4, h5, .inr ⟨q.length + (printJ v').length, q.length + (printJ v').length + 1, h6, ?_⟩⟩
          cases r' with
          | nil => simp only [nestM] at hdr; omega
          | cons n2 v2 r2 =>
            refine ⟨?_, fun ks' => ?_⟩
            · rw [nextAt_at (pr := q ++ printJ v') (b := 44 :: (named obj n2 ++ (printJ v2 ++ (printM obj false r2 ++ closeOf obj :: rest)))) (by simp [printM]) (by simp), tok_sign 44 7 _ (by simp), shift0]
            · have ih := kids_deep (.cons n2 v2 r2) n2 v2 r2 rfl (q ++ printJ v' ++ [44]) rest ks' dep w f obj hcr (fun h => (hbr h).2) hw hdr hfv.2
              have e : q ++ (printJ v' ++ (printM obj false (.cons n2 v2 r2) ++ closeOf obj :: rest)) = (q ++ printJ v' ++ [44]) ++ (named obj n2 ++ (printJ v2 ++ (printM obj false r2 ++ closeOf obj :: rest))) := by simp [printM]
              rw [e]
              have e3 : (q ++ printJ v' ++ [44]).length = q.length + (printJ v').length + 1 := by simp; omega
              rw [e3] at ih
              obtain ⟨kd2, s2, t2, g1, _, g3⟩ := ih
              exact ⟨kd2, s2, t2, g1, g3⟩
      cases obj with
      | true =>
        have hq : pr ++ (named true n' ++ (printJ v' ++ (printM true false r' ++ closeOf true :: rest))) = (pr ++ quoteL n' ++ [58]) ++ (printJ v' ++ (printM true false r' ++ closeOf true :: rest)) := by simp [named]
        have hc' := core (pr ++ quoteL n' ++ [58])
        have hn1 : nextAt (pr ++ (named true n' ++ (printJ v' ++ (printM true false r' ++ closeOf true :: rest)))) pr.length = .tok 8 pr.length (pr.length + (quoteL n').length) n' := by
          rw [nextAt_at (pr := pr) (b := quoteL n' ++ (58 :: (printJ v' ++ (printM true false r' ++ closeOf true :: rest)))) (by simp [named]) rfl, tok_quote n' _ hwn, shift0]
        have hn2 : nextAt (pr ++ (named true n' ++ (printJ v' ++ (printM true false r' ++ closeOf true :: rest)))) (pr.length + (quoteL n').length) = .tok 6 (pr.length + (quoteL n').length) (pr.length + (quoteL n').length + 1) [] := by
          rw [nextAt_at (pr := pr ++ quoteL n') (b := 58 :: (printJ v' ++ (printM true false r' ++ closeOf true :: rest))) (by simp [named]) (by simp), tok_sign 58 6 _ (by simp), shift0]
        have hlen : (pr ++ quoteL n' ++ [58]).length = pr.length + (quoteL n').length + 1 := by simp; omega
        rw [← hq, hlen] at hc'
        obtain ⟨kd, s, t, h1, h2, h3, h4, h5, h6⟩ := hc'
        refine ⟨8, _, n', hn1, by simp [opOf], ?_⟩
        rw [kidsP]
        simp only [opOf, if_true, hn2, h1]
        rcases h6 with ⟨a, h6⟩ | ⟨p, s1, h6, h8, hK⟩
        · simp only [h6]; exact ⟨a, rfl⟩
        · obtain ⟨kd2, s2, t2, g1, a, g3⟩ := hK (ks.snoc n' v')
          simp only [opOf, if_true] at g1 g3
          simp only [h6, h8]
          rw [if_neg (by omega)]
          simp only [if_true, g1]
          exact ⟨a, g3⟩
      | false =>
        obtain ⟨rfl, _⟩ := hbr rfl
        have hq : pr ++ (named false [] ++ (printJ v' ++ (printM false false r' ++ closeOf false :: rest))) = pr ++ (printJ v' ++ (printM false false r' ++ closeOf false :: rest)) := by simp [named]
        obtain ⟨kd, s, t, h1, h2, h3, h4, h5, h6⟩ := core pr
        rw [hq]
        refine ⟨kd, s, t, h1, by simpa [opOf] using h4, ?_⟩
        rw [kidsP]
        have h42 : ¬ ((4 : Nat) = 2) := by omega
        simp only [opOf, Bool.false_eq_true, if_false, h42]
        rcases h6 with ⟨a, h6⟩ | ⟨p, s1, h6, h8, hK⟩
        · simp only [h6]; exact ⟨a, rfl⟩
        · obtain ⟨kd2, s2, t2, g1, a, g3⟩ := hK (ks.snoc [] v')
          simp only [opOf, Bool.false_eq_true, if_false] at g1 g3
          simp only [h6, h8]
          rw [if_neg (by omega)]
          simp only [if_true, g1]
          exact ⟨a, g3⟩
end

/-- One less is too deep. -/
theorem parse_deep (j : J) (dep : Int) (hc : checkJ j = 0) (h0 : 0 ≤ dep) (h1 : dep ≤ 1000) (h2 : dep < nestJ j) : ∃ a, parseP (printJ j) dep = .bad 8 a := by
  have hf := fuelJ_len j hc
  obtain ⟨kd, s, t, g1, g2, g3, g4, g5, a, g6⟩ := val_deep j [] [] dep.toNat 0 (2 * (printJ j).length + 10) hc (by omega) (by omega) (by omega)
  simp only [List.nil_append, List.append_nil, List.length_nil] at g1 g6
  unfold parseP
  rw [if_neg (by omega), g1]
  simp only [g6]
  exact ⟨a, rfl⟩

/-- What stands behind a whole value, not a number. -/
theorem parse_behind (j : J) (more : List UInt8) (dep : Int) (hc : checkJ j = 0) (hk : j.kind ≠ 4) (h0 : (nestJ j : Int) ≤ dep) (h1 : dep ≤ 1000) :
    parseP (printJ j ++ more) dep = match nextAt more 0 with
      | .err e a => .bad e ((printJ j).length + a)
      | .tok kd a _ _ => if kd = 1 then .ok j 0 else .bad 7 ((printJ j).length + a) := by
  have hf := fuelJ_len j hc
  obtain ⟨kd, s, t, g1, g2, g3, g4, g5, g6⟩ := val_print j [] more dep.toNat 0 (2 * (printJ j ++ more).length + 10) hc (by omega) (by rw [List.length_append]; omega) (fun h => absurd h hk)
  simp only [List.nil_append, List.length_nil, Nat.zero_add] at g1 g6
  have he : nextAt (printJ j ++ more) (printJ j).length = (nextAt more 0).shift (printJ j).length := by
    have h2 := nextAt_append (printJ j) more (printJ j).length (Nat.le_refl _)
    rw [if_neg (by omega), Nat.sub_self] at h2
    exact h2
  unfold parseP
  rw [if_neg (by omega), g1]
  simp only [g6, he]
  cases nextAt more 0 with
  | tok kd a s t => simp only [LexR.shift]
  | err e a => simp only [LexR.shift]

/-- So many opening brackets. -/
theorem brackets_val : ∀ (n : Nat) (pr rest : List UInt8) (dep w f : Nat), w ≤ dep → dep < n + w → 2 * n + 2 ≤ f →
    ∃ s, nextAt (pr ++ (List.replicate n 91 ++ rest)) pr.length = .tok 4 pr.length s [] ∧ valP (pr ++ (List.replicate n 91 ++ rest)) dep f w 4 pr.length s [] = .bad 8 (pr.length + (dep - w))
  | 0, pr, rest, dep, w, f, hw, hd', hf => by omega
  | n + 1, pr, rest, dep, w, f, hw, hd', hf => by
    have hL : pr ++ (List.replicate (n + 1) 91 ++ rest) = pr ++ (91 :: (List.replicate n 91 ++ rest)) := by simp [List.replicate_succ]
    rw [hL]
    refine ⟨pr.length + 1, by rw [nextAt_at rfl rfl, tok_sign 91 4 _ (by simp), shift0], ?_⟩
    match f, hf with
    | f + 2, hf =>
      rw [valP, if_neg (by omega), if_neg (by omega), if_neg (by omega), if_neg (by omega), if_neg (by omega), if_pos (.inr rfl)]
      by_cases h : dep ≤ w
      · rw [if_pos h]
        congr 1
        omega
      · rw [if_neg h]
        obtain ⟨s, h1, h2⟩ := brackets_val n (pr ++ [91]) rest dep (w + 1) f (by omega) (by omega) (by omega)
        have e : (pr ++ [91]) ++ (List.replicate n 91 ++ rest) = pr ++ (91 :: (List.replicate n 91 ++ rest)) := by simp
        rw [e] at h1 h2
        simp only [List.length_append, List.length_cons, List.length_nil, Nat.zero_add] at h1 h2
        rw [h1]
        simp only
        rw [if_neg (by omega)]
        rw [kidsP]
        simp only [show ¬ ((4 : Nat) = 2) by omega, if_false, h2]
        congr 1
        omega

/-- Opening brackets alone, not too deep: the end is told. -/
theorem brackets_open : ∀ (n : Nat) (pr : List UInt8) (dep w f : Nat), n + w ≤ dep → 2 * n + 2 ≤ f →
    ∃ kd s, nextAt (pr ++ List.replicate n 91) pr.length = .tok kd pr.length s [] ∧ kd ≠ 5 ∧ valP (pr ++ List.replicate n 91) dep f w kd pr.length s [] = .bad 2 (pr.length + n)
  | 0, pr, dep, w, f, hw, hf => by
    match f, hf with
    | f + 1, hf =>
      refine ⟨1, pr.length, ?_, by omega, ?_⟩
      · rw [nextAt_at (pr := pr) (b := []) (by simp) rfl]; rfl
      · rw [valP]; simp [wrongT]
  | n + 1, pr, dep, w, f, hw, hf => by
    have hL : pr ++ List.replicate (n + 1) 91 = pr ++ (91 :: List.replicate n 91) := by simp [List.replicate_succ]
    rw [hL]
    refine ⟨4, pr.length + 1, by rw [nextAt_at rfl rfl, tok_sign 91 4 _ (by simp), shift0], by omega, ?_⟩
    match f, hf with
    | f + 2, hf =>
      rw [valP, if_neg (by omega), if_neg (by omega), if_neg (by omega), if_neg (by omega), if_neg (by omega), if_pos (.inr rfl), if_neg (by omega)]
      obtain ⟨kd, s, h1, h5, h2⟩ := brackets_open n (pr ++ [91]) dep (w + 1) f (by omega) (by omega)
      have e : (pr ++ [91]) ++ List.replicate n 91 = pr ++ (91 :: List.replicate n 91) := by simp
      rw [e] at h1 h2
      simp only [List.length_append, List.length_cons, List.length_nil, Nat.zero_add] at h1 h2
      rw [h1]
      simp only
      rw [if_neg (by omega)]
      rw [kidsP]
      simp only [show ¬ ((4 : Nat) = 2) by omega, if_false, h2]
      congr 1
      omega

/-- So many brackets within one another. -/
def nestA : Nat → J
  | 0 => .mk 6 [] .nil
  | n + 1 => .mk 6 [] (.cons [] (nestA n) .nil)
theorem nestA_check : ∀ n, checkJ (nestA n) = 0
  | 0 => rfl
  | n + 1 => by
    have := nestA_check n
    simp [nestA, checkJ, M.isNil, M.bare, checkM, this]
    rfl
theorem nestA_nest : ∀ n, nestJ (nestA n) = n + 1
  | 0 => rfl
  | n + 1 => by have := nestA_nest n; simp only [nestA, nestJ, nestM]; simp; omega
theorem nestA_print : ∀ n, printJ (nestA n) = List.replicate (n + 1) 91 ++ List.replicate (n + 1) 93
  | 0 => rfl
  | n + 1 => by
    have := nestA_print n
    have h2 : (List.replicate (n + 1) (93 : UInt8) ++ [93]) = 93 :: List.replicate (n + 1) 93 := by
      rw [← List.replicate_succ', List.replicate_succ]
    simp only [nestA, printJ, printM, named]
    simp [this, List.replicate_succ (n := n + 1), h2]

/-- Bytes that are one character are whole. -/
theorem whole_one (x : List UInt8) (h : (runeAt x 0).2 = x.length) (h0 : 0 < x.length) : wholeTo x = x.length := by
  unfold wholeTo
  rw [look_step' x 0 0 x.length h0 h (by omega), look_stop' x _ _ (.inl (by omega))]
  simp

theorem hexD_lt (c : UInt8) (d : Nat) (h : hexD c = some d) : d < 16 := by
  unfold hexD at h
  split at h
  · rename_i h1
    simp only [Option.some.injEq] at h
    have := h1.2
    rw [UInt8.le_iff_toNat_le] at this
    simp at this; omega
  · split at h
    · rename_i h1
      simp only [Option.some.injEq] at h
      have := h1.2
      rw [UInt8.le_iff_toNat_le] at this
      simp at this; omega
    · split at h
      · rename_i h1
        simp only [Option.some.injEq] at h
        have := h1.2
        rw [UInt8.le_iff_toNat_le] at this
        simp at this; omega
      · simp at h

theorem hexs_lt : ∀ (k v b : Nat) (l : List UInt8) (x : Nat), v < b → hexs k v l = .inl x → x < b * 16 ^ k
  | 0, v, b, l, x, hv, h => by simp only [hexs, Sum.inl.injEq] at h; subst h; simpa using hv
  | k + 1, v, b, [], x, hv, h => by simp [hexs] at h
  | k + 1, v, b, c :: r, x, hv, h => by
    simp only [hexs] at h
    split at h
    · simp at h
    · rename_i d hd
      have := hexD_lt c d hd
      have := hexs_lt k (v * 16 + d) (b * 16) r x (by omega) h
      rw [Nat.pow_succ, Nat.mul_comm (16 ^ k) 16, ← Nat.mul_assoc]
      exact this

theorem uni_ch (l : List UInt8) (n v : Nat) (h : uni l = .inl (n, v)) : isCh (v : Nat) = true := by
  unfold uni at h
  split at h
  · simp at h
  · rename_i u hu
    have h1 := hexs_lt 4 0 1 _ u (by omega) hu
    split at h
    · split at h
      · rename_i w hw
        simp only [Sum.inl.injEq, Prod.mk.injEq] at h
        obtain ⟨rfl, rfl⟩ := h
        split at hw
        · have := lowHalf_len _ w hw
          simp [isCh]; omega
        · simp at hw
      · simp at h
    · simp only [Sum.inl.injEq, Prod.mk.injEq] at h
      obtain ⟨rfl, rfl⟩ := h
      simp [isCh]; omega

theorem whole_low (c : UInt8) (h : c.toNat < 128) : wholeTo [c] = 1 := by
  have : (runeAt [c] 0).2 = [c].length := by
    unfold runeAt
    have hb : bAt [c] 0 = c.toNat := rfl
    rw [if_neg (by simp), hb, if_pos h]
    rfl
  exact whole_one [c] this (by simp)

theorem escD_low (c x : UInt8) (h : escD c = some x) : x.toNat < 128 := by
  unfold escD at h
  repeat (split at h; · simp only [Option.some.injEq] at h; subst h; decide)
  simp at h

/-- What a step adds is whole. -/
theorem step_whole (l : List UInt8) (n : Nat) (x : List UInt8) (h : strStep l = .go n x) : wholeTo x = x.length := by
  unfold strStep at h
  split at h
  · simp at h
  · rename_i c r
    split at h
    · simp at h
    · split at h
      · simp at h
      · split at h
        · split at h
          · simp at h
          · split at h
            · split at h
              · simp at h
              · rename_i n' v hu
                simp only [StrStep.go.injEq] at h
                obtain ⟨_, rfl⟩ := h
                exact (look_put v (uni_ch _ _ _ hu)).1
            · split at h
              · simp at h
              · rename_i y hy
                simp only [StrStep.go.injEq] at h
                obtain ⟨_, rfl⟩ := h
                exact whole_low y (escD_low _ y hy)
        · simp only at h
          split at h
          · simp at h
          · rename_i hn
            simp only [StrStep.go.injEq] at h
            obtain ⟨rfl, rfl⟩ := h
            generalize hg : (runeAt (List.take 4 (c :: r)) 0).2 = n at *
            have hb := (runeAt_bd (List.take 4 (c :: r)) 0).2.2 (by omega)
            rw [hg] at hb
            have h4 := (runeAt_bd (List.take 4 (c :: r)) 0).2.1
            rw [hg] at h4
            obtain ⟨h1, _⟩ := rune_take (List.take 4 (c :: r)) n hg hn
            have e : List.take n (List.take 4 (c :: r)) = List.take n (c :: r) := by rw [List.take_take, Nat.min_eq_left h4]
            have hl : (List.take n (c :: r)).length = n := by rw [List.length_take]; rw [List.length_take] at hb; omega
            refine whole_one _ ?_ (by omega)
            rw [← e, h1, hg, e, hl]

theorem strGo_whole : ∀ (f : Nat) (l : List UInt8) (p : Nat) (out : List UInt8) (kd a s : Nat) (t : List UInt8), wholeTo out = out.length → strGo f l p out = .tok kd a s t → kd = 8 ∧ wholeTo t = t.length
  | 0, l, p, out, kd, a, s, t, ho, h => by simp [strGo] at h
  | f + 1, l, p, out, kd, a, s, t, ho, h => by
    unfold strGo at h
    cases hs : strStep l with
    | stop =>
      rw [hs] at h
      simp only [LexR.tok.injEq] at h
      obtain ⟨rfl, _, _, rfl⟩ := h
      exact ⟨rfl, ho⟩
    | bad e => rw [hs] at h; simp at h
    | go n x =>
      rw [hs] at h
      have hx := step_whole l n x hs
      have hj := (look_join out x ho).1
      exact strGo_whole f _ _ _ kd a s t (by rw [hj, hx, List.length_append]) h

/-- What tokens hold. -/
def TokText (kd : Nat) (t : List UInt8) : Prop := if kd = 8 then wholeTo t = t.length else if kd = 9 then lexeme t ≠ 0 ∧ t.length ≤ 300 else t = []

theorem tokS_text (l : List UInt8) (kd a s : Nat) (t : List UInt8) (h : tokS l = .tok kd a s t) : TokText kd t := by
  have sgn : ∀ k x y, k ≠ 8 → k ≠ 9 → LexR.tok k x y [] = .tok kd a s t → TokText kd t := by
    intro k x y h8 h9 e
    simp only [LexR.tok.injEq] at e
    obtain ⟨rfl, _, _, rfl⟩ := e
    unfold TokText; rw [if_neg h8, if_neg h9]
  cases l with
  | nil => exact sgn _ _ _ (by decide) (by decide) h
  | cons c r =>
    rw [tokS] at h
    by_cases e : c = 123
    · rw [if_pos e] at h; exact sgn _ _ _ (by decide) (by decide) h
    rw [if_neg e] at h
    by_cases e : c = 125
    · rw [if_pos e] at h; exact sgn _ _ _ (by decide) (by decide) h
    rw [if_neg e] at h
    by_cases e : c = 91
    · rw [if_pos e] at h; exact sgn _ _ _ (by decide) (by decide) h
    rw [if_neg e] at h
    by_cases e : c = 93
    · rw [if_pos e] at h; exact sgn _ _ _ (by decide) (by decide) h
    rw [if_neg e] at h
    by_cases e : c = 58
    · rw [if_pos e] at h; exact sgn _ _ _ (by decide) (by decide) h
    rw [if_neg e] at h
    by_cases e : c = 44
    · rw [if_pos e] at h; exact sgn _ _ _ (by decide) (by decide) h
    rw [if_neg e] at h
    by_cases e : pre [116, 114, 117, 101] (c :: r) = true
    · rw [if_pos e] at h; exact sgn _ _ _ (by decide) (by decide) h
    rw [if_neg e] at h
    by_cases e : pre [102, 97, 108, 115, 101] (c :: r) = true
    · rw [if_pos e] at h; exact sgn _ _ _ (by decide) (by decide) h
    rw [if_neg e] at h
    by_cases e : pre [110, 117, 108, 108] (c :: r) = true
    · rw [if_pos e] at h; exact sgn _ _ _ (by decide) (by decide) h
    rw [if_neg e] at h
    by_cases e : c = 34
    · rw [if_pos e] at h
      obtain ⟨rfl, h2⟩ := strGo_whole _ _ _ _ kd a s t rfl h
      unfold TokText; rw [if_pos rfl]; exact h2
    rw [if_neg e] at h
    by_cases e : c = 45 ∨ isDig c = true
    · rw [if_pos e] at h
      simp only at h
      by_cases h1 : lexeme (List.take (numLen (c :: r)) (c :: r)) = 0
      · rw [if_pos h1] at h; simp at h
      rw [if_neg h1] at h
      by_cases h2 : 300 < numLen (c :: r)
      · rw [if_pos h2] at h; simp at h
      rw [if_neg h2] at h
      injection h with h3 h4 h5 h6
      subst h3 h6
      unfold TokText
      rw [if_neg (by decide), if_pos rfl]
      refine ⟨h1, ?_⟩
      rw [List.length_take]; omega
    · rw [if_neg e] at h; simp at h

theorem nextAt_text (l : List UInt8) (p kd a s : Nat) (t : List UInt8) (h : nextAt l p = .tok kd a s t) : TokText kd t := by
  unfold nextAt nextS at h
  split at h
  · simp at h
  · rw [LexR.shift_shift] at h
    cases ht : tokS (List.drop (blanks (List.drop p l)) (List.drop p l)) with
    | tok kd' a' s' t' =>
      rw [ht] at h
      simp only [LexR.shift, LexR.tok.injEq] at h
      obtain ⟨rfl, _, _, rfl⟩ := h
      exact tokS_text _ _ _ _ _ ht
    | err e b => rw [ht] at h; simp [LexR.shift] at h

theorem checkM_append : ∀ f g : M, checkM f = 0 → checkM g = 0 → checkM (f.append g) = 0
  | .nil, g, _, h => h
  | .cons n v r, g, h, hg => by
    obtain ⟨h1, h2, h3⟩ := check_cons h
    have hw : wholeB n = true := by simp [wholeB, h1]
    simp only [M.append, checkM, hw, h2]
    simpa using checkM_append r g h3 hg
theorem bare_append : ∀ f g : M, f.bare = true → g.bare = true → (f.append g).bare = true
  | .nil, g, _, h => h
  | .cons n v r, g, h, hg => by
    simp only [M.bare, Bool.and_eq_true] at h
    simp only [M.append, M.bare, Bool.and_eq_true]
    exact ⟨h.1, bare_append r g h.2 hg⟩
theorem nest_append : ∀ f g : M, nestM (f.append g) = max (nestM f) (nestM g)
  | .nil, g => by simp [M.append, nestM]
  | .cons n v r, g => by simp only [M.append, nestM, nest_append r g]; omega

theorem check_one (n : List UInt8) (v : J) (h1 : wholeTo n = n.length) (h2 : checkJ v = 0) : checkM (.cons n v .nil) = 0 := by
  have hw : wholeB n = true := by simp [wholeB, h1]
  simp [checkM, hw, h2]

theorem check_kids (k : Int) (m : M) (hk : k = 6 ∨ k = 7) (hm : checkM m = 0) (hb : k = 6 → m.bare = true) : checkJ (.mk k [] m) = 0 := by
  unfold checkJ
  have h0 : ¬ (k < 1 ∨ 7 < k ∨ (m.isNil = false ∧ k ≠ 6 ∧ k ≠ 7) ∨ (([] : List UInt8) ≠ [] ∧ k ≠ 4 ∧ k ≠ 5)) := by
    rintro (h | h | h | h)
    · omega
    · omega
    · have := h.2; omega
    · exact h.1 rfl
  rw [if_neg h0]
  rw [if_neg (by intro h; have := hb h.1; rw [this] at h; simp at h), if_neg (by omega), if_neg (by omega)]
  exact hm

/-- What is parsed may be, and is within the depth. -/
theorem parsed_ok (l : List UInt8) (dep : Nat) : ∀ (f : Nat),
    (∀ (w kd a s : Nat) (t : List UInt8) (j : J) (p : Nat), valP l dep f w kd a s t = .ok j p → TokText kd t → w ≤ dep → checkJ j = 0 ∧ nestJ j + w ≤ dep) ∧
    (∀ (w op : Nat) (ks : M) (kd a s : Nat) (t : List UInt8) (m : M) (p : Nat), kidsP l dep f w op ks kd a s t = .ok m p → TokText kd t → w ≤ dep → checkM ks = 0 → (op ≠ 2 → ks.bare = true) → nestM ks + w ≤ dep →
      checkM m = 0 ∧ (op ≠ 2 → m.bare = true) ∧ nestM m + w ≤ dep) := by
  intro f
  induction f with
  | zero => exact ⟨fun w kd a s t j p h => by simp [valP] at h, fun w op ks kd a s t m p h => by simp [kidsP] at h⟩
  | succ f ih =>
    obtain ⟨ihv, ihk⟩ := ih
    constructor
    · intro w kd a s t j p h ht hw
      rw [valP] at h
      have leaf : ∀ k : Int, (k = 1 ∨ k = 2 ∨ k = 3) → (PR.ok (J.mk k [] .nil) s : PR J) = .ok j p → checkJ j = 0 ∧ nestJ j + w ≤ dep := by
        intro k hk e
        injection e with e1 e2
        subst e1
        rcases hk with rfl | rfl | rfl <;> exact ⟨rfl, by simpa [nestJ] using hw⟩
      by_cases e : kd = 12
      · rw [if_pos e] at h; exact leaf 1 (by omega) h
      rw [if_neg e] at h
      by_cases e : kd = 11
      · rw [if_pos e] at h; exact leaf 2 (by omega) h
      rw [if_neg e] at h
      by_cases e : kd = 10
      · rw [if_pos e] at h; exact leaf 3 (by omega) h
      rw [if_neg e] at h
      by_cases e : kd = 9
      · rw [if_pos e] at h
        subst e
        injection h with e1 e2
        subst e1
        have ht2 : lexeme t ≠ 0 ∧ t.length ≤ 300 := ht
        refine ⟨?_, by simpa [nestJ] using hw⟩
        unfold checkJ
        rw [if_neg (by simp [M.isNil]), if_neg (by simp), if_neg (by intro h; rcases h.2 with h | h; exact ht2.1 h; omega), if_neg (by simp)]
        rfl
      rw [if_neg e] at h
      by_cases e : kd = 8
      · rw [if_pos e] at h
        subst e
        injection h with e1 e2
        subst e1
        have ht2 : wholeTo t = t.length := ht
        refine ⟨?_, by simpa [nestJ] using hw⟩
        unfold checkJ
        rw [if_neg (by simp [M.isNil]), if_neg (by simp), if_neg (by simp), if_neg (by simp [wholeB, ht2])]
        rfl
      rw [if_neg e] at h
      by_cases e : kd = 2 ∨ kd = 4
      · rw [if_pos e] at h
        by_cases hd' : dep ≤ w
        · rw [if_pos hd'] at h; simp at h
        rw [if_neg hd'] at h
        cases hn : nextAt l s with
        | err e b => rw [hn] at h; simp at h
        | tok kd1 a1 s1 t1 =>
          rw [hn] at h
          simp only at h
          have kk : ((if kd = 2 then 7 else 6 : Int)) = 6 ∨ ((if kd = 2 then 7 else 6 : Int)) = 7 := by split <;> simp
          by_cases h1 : kd1 = kd + 1
          · rw [if_pos h1] at h
            injection h with e1 e2
            subst e1
            refine ⟨check_kids _ _ kk rfl (fun _ => rfl), ?_⟩
            simp only [nestJ, nestM]; rw [if_pos kk]; omega
          · rw [if_neg h1] at h
            cases hk : kidsP l dep f (w + 1) kd .nil kd1 a1 s1 t1 with
            | bad e b => rw [hk] at h; simp at h
            | ok ks q =>
              rw [hk] at h
              simp only at h
              injection h with e1 e2
              subst e1
              obtain ⟨g1, g2, g3⟩ := ihk (w + 1) kd .nil kd1 a1 s1 t1 ks q hk (nextAt_text _ _ _ _ _ _ hn) (by omega) rfl (fun _ => rfl) (by simp only [nestM]; omega)
              refine ⟨check_kids _ _ kk g1 (fun h6 => g2 (by intro h2; rw [if_pos h2] at h6; omega)), ?_⟩
              simp only [nestJ]; rw [if_pos kk]; omega
      · rw [if_neg e] at h; simp at h
    · intro w op ks kd a s t m p h ht hw hks hbare hnest
      rw [kidsP] at h
      -- the Name and the value's token
      cases hx : (if op = 2 then
          (if kd = 8 then match nextAt l s with
            | .err e b => PR.bad e b
            | .tok kd1 a1 s1 _ => if kd1 = 6 then match nextAt l s1 with
                | .err e b => .bad e b
                | .tok kd2 a2 s2 t2 => .ok (t, kd2, a2, s2, t2) 0
              else .bad (wrongT kd1 a1).1 (wrongT kd1 a1).2
          else .bad (wrongT kd a).1 (wrongT kd a).2)
        else PR.ok (([] : List UInt8), kd, a, s, t) 0 : PR (List UInt8 × Nat × Nat × Nat × List UInt8)) with
      | bad e b => rw [hx] at h; simp at h
      | ok y z =>
        rw [hx] at h
        obtain ⟨nm, kd0, a0, s0, t0⟩ := y
        simp only at h
        have hy : TokText kd0 t0 ∧ wholeTo nm = nm.length ∧ (op ≠ 2 → nm = []) := by
          by_cases h2 : op = 2
          · rw [if_pos h2] at hx
            by_cases h8 : kd = 8
            · rw [if_pos h8] at hx
              cases hn : nextAt l s with
              | err e b => rw [hn] at hx; simp at hx
              | tok kd1 a1 s1 t1 =>
                rw [hn] at hx
                simp only at hx
                by_cases h6 : kd1 = 6
                · rw [if_pos h6] at hx
                  cases hn2 : nextAt l s1 with
                  | err e b => rw [hn2] at hx; simp at hx
                  | tok kd2 a2 s2 t2 =>
                    rw [hn2] at hx
                    simp only [PR.ok.injEq, Prod.mk.injEq] at hx
                    obtain ⟨⟨rfl, rfl, rfl, rfl, rfl⟩, _⟩ := hx
                    subst h8
                    exact ⟨nextAt_text _ _ _ _ _ _ hn2, ht, fun h => absurd h2 h⟩
                · rw [if_neg h6] at hx; simp at hx
            · rw [if_neg h8] at hx; simp at hx
          · rw [if_neg h2] at hx
            simp only [PR.ok.injEq, Prod.mk.injEq] at hx
            obtain ⟨⟨rfl, rfl, rfl, rfl, rfl⟩, _⟩ := hx
            exact ⟨ht, rfl, fun _ => rfl⟩
        cases hv : valP l dep f w kd0 a0 s0 t0 with
        | bad e b => rw [hv] at h; simp at h
        | ok v q =>
          rw [hv] at h
          simp only at h
          obtain ⟨v1, v2⟩ := ihv w kd0 a0 s0 t0 v q hv hy.1 hw
          have k1 : checkM (ks.snoc nm v) = 0 := checkM_append _ _ hks (check_one nm v hy.2.1 v1)
          have k2 : op ≠ 2 → (ks.snoc nm v).bare = true := fun h2 => bare_append _ _ (hbare h2) (by rw [hy.2.2 h2]; rfl)
          have k3 : nestM (ks.snoc nm v) + w ≤ dep := by unfold M.snoc; rw [nest_append]; simp only [nestM]; omega
          cases hn : nextAt l q with
          | err e b => rw [hn] at h; simp at h
          | tok kd1 a1 s1 t1 =>
            rw [hn] at h
            simp only at h
            by_cases h1 : kd1 = op + 1
            · rw [if_pos h1] at h
              injection h with e1 e2
              subst e1
              exact ⟨k1, k2, k3⟩
            · rw [if_neg h1] at h
              by_cases h7 : kd1 = 7
              · rw [if_pos h7] at h
                cases hn2 : nextAt l s1 with
                | err e b => rw [hn2] at h; simp at h
                | tok kd2 a2 s2 t2 =>
                  rw [hn2] at h
                  simp only at h
                  exact ihk w op _ kd2 a2 s2 t2 m p h (nextAt_text _ _ _ _ _ _ hn2) hw k1 k2 k3
              · rw [if_neg h7] at h; simp at h

theorem parse_ok (l : List UInt8) (dep : Int) (j : J) (p : Nat) (h : parseP l dep = .ok j p) : checkJ j = 0 ∧ (nestJ j : Int) ≤ dep ∧ dep ≤ 1000 := by
  unfold parseP at h
  by_cases h0 : dep < 0 ∨ 1000 < dep
  · rw [if_pos h0] at h; simp at h
  rw [if_neg h0] at h
  cases hn : nextAt l 0 with
  | err e b => rw [hn] at h; simp at h
  | tok kd a s t =>
    rw [hn] at h
    simp only at h
    cases hv : valP l dep.toNat (2 * l.length + 10) 0 kd a s t with
    | bad e b => rw [hv] at h; simp at h
    | ok j' q =>
      rw [hv] at h
      simp only at h
      have := (parsed_ok l dep.toNat (2 * l.length + 10)).1 0 kd a s t j' q hv (nextAt_text _ _ _ _ _ _ hn) (by omega)
      cases hn2 : nextAt l q with
      | err e b => rw [hn2] at h; simp at h
      | tok kd1 a1 s1 t1 =>
        rw [hn2] at h
        simp only at h
        by_cases h1 : kd1 = 1
        · rw [if_pos h1] at h
          injection h with e1 e2
          subst e1
          exact ⟨this.1, by omega, by omega⟩
        · rw [if_neg h1] at h; simp at h

end Go.Proofs.Ytamhdoijmkjngaa
