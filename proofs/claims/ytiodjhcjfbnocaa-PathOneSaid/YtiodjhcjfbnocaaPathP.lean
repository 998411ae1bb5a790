/- Paths in trees, plainly. No program in sight. -/
import Derived.Test.YtiodjhcjfbnocaaTree
namespace Go.Proofs.Ytiodjhcjfbnocaa
set_option linter.unusedVariables false
set_option linter.unusedSimpArgs false

theorem F.get_none : ∀ (f : F) (i : Nat), f.len ≤ i → f.get? i = none
  | .nil, i, h => rfl
  | .cons n t r, 0, h => by simp [F.len] at h
  | .cons n t r, i + 1, h => F.get_none r i (by simp only [F.len] at h; omega)

/-- The Kid of a number, if there is one. -/
def F.at? (f : F) (i : Int) : Option (ByteArray × T) := if i < 0 then none else f.get? i.toNat

/-- The value that a path leads to, and the Names on the way. -/
def goT : T → List Int → Option (T × List ByteArray)
  | t, [] => some (t, [])
  | t, i :: p => match t.kids.at? i with
    | none => none
    | some (n, u) => match goT u p with
      | none => none
      | some (x, l) => some (x, n :: l)

theorem goT_snoc : ∀ (p : List Int) (t : T) (i : Int), goT t (p ++ [i]) = match goT t p with
    | none => none
    | some (x, l) => match x.kids.at? i with
      | none => none
      | some (n, u) => some (u, l ++ [n])
  | [], t, i => by
    simp only [List.nil_append, goT]
  | j :: p, t, i => by
    simp only [List.cons_append, goT]
    cases h : t.kids.at? j with
    | none => rfl
    | some y =>
      obtain ⟨n, u⟩ := y
      simp only [goT_snoc p u i]
      cases h2 : goT u p with
      | none => rfl
      | some z =>
        obtain ⟨x, l⟩ := z
        simp only
        cases h3 : x.kids.at? i with
        | none => rfl
        | some y => rfl

mutual
/-- The paths of a value at a path, and of all within it. -/
def allT : T → List Int → List (List Int)
  | .mk _ _ _ _ _ _ _ _ f, p => p :: allF f 0 p
def allF : F → Nat → List Int → List (List Int)
  | .nil, _, _ => []
  | .cons _ t r, i, p => allT t (p ++ [(i : Int)]) ++ allF r (i + 1) p
end

mutual
def countT : T → Nat
  | .mk _ _ _ _ _ _ _ _ f => countF f + 1
def countF : F → Nat
  | .nil => 0
  | .cons _ t r => countT t + countF r
end

mutual
theorem allT_len : ∀ (t : T) (p : List Int), (allT t p).length = countT t
  | .mk _ _ _ _ _ _ _ _ f, p => by simp only [allT, countT, List.length_cons, allF_len f]
theorem allF_len : ∀ (f : F) (i : Nat) (p : List Int), (allF f i p).length = countF f
  | .nil, _, _ => rfl
  | .cons _ t r, i, p => by simp only [allF, countF, List.length_append, allT_len t, allF_len r]
end

/-- A path that leads to a value, and no further one behind its last Kid. -/
def Leads (t : T) (q : List Int) : Prop := ∃ x l, goT t q = some (x, l) ∧ goT t (q ++ [(x.kids.len : Int)]) = none

theorem goT_end (t : T) (q : List Int) (x : T) (l : List ByteArray) (h : goT t q = some (x, l)) : goT t (q ++ [(x.kids.len : Int)]) = none := by
  rw [goT_snoc, h]
  have : x.kids.at? (x.kids.len : Int) = none := by
    unfold F.at?
    rw [if_neg (by omega)]
    exact F.get_none _ _ (by simp)
  simp only [this]

theorem goT_append : ∀ (p q : List Int) (t x : T) (l : List ByteArray), goT t p = some (x, l) → goT t (p ++ q) = match goT x q with
    | none => none
    | some (y, m) => some (y, l ++ m)
  | [], q, t, x, l, h => by
    simp only [goT, Option.some.injEq, Prod.mk.injEq] at h
    obtain ⟨rfl, rfl⟩ := h
    simp only [List.nil_append]
    cases goT t q with
    | none => rfl
    | some z => rfl
  | j :: p, q, t, x, l, h => by
    simp only [List.cons_append, goT] at h ⊢
    cases h1 : t.kids.at? j with
    | none => rw [h1] at h; simp at h
    | some y =>
      obtain ⟨n, u⟩ := y
      rw [h1] at h
      simp only at h ⊢
      cases h2 : goT u p with
      | none => rw [h2] at h; simp at h
      | some z =>
        obtain ⟨x', l'⟩ := z
        rw [h2] at h
        simp only [Option.some.injEq, Prod.mk.injEq] at h
        obtain ⟨rfl, rfl⟩ := h
        rw [goT_append p q u x' l' h2]
        cases goT x' q with
        | none => rfl
        | some z => rfl

mutual
theorem allT_goes (v : T) : ∀ (t : T) (p : List Int) (l : List ByteArray), goT v p = some (t, l) → ∀ q ∈ allT t p, ∃ x m, goT v q = some (x, m)
  | .mk a b c d e f g h k, p, l, hp, q, hq => by
    simp only [allT, List.mem_cons] at hq
    rcases hq with rfl | hq
    · exact ⟨_, _, hp⟩
    · exact allF_goes v k 0 p (.mk a b c d e f g h k) l hp (fun i n u hi => by simpa [T.kids] using hi) q hq
theorem allF_goes (v : T) : ∀ (f : F) (i : Nat) (p : List Int) (t : T) (l : List ByteArray), goT v p = some (t, l) → (∀ j n u, f.get? j = some (n, u) → t.kids.get? (i + j) = some (n, u)) → ∀ q ∈ allF f i p, ∃ x m, goT v q = some (x, m)
  | .nil, _, _, _, _, _, _, q, hq => by simp [allF] at hq
  | .cons n u r, i, p, t, l, hp, hk, q, hq => by
    simp only [allF, List.mem_append] at hq
    rcases hq with hq | hq
    · have h0 := hk 0 n u rfl
      have : goT v (p ++ [(i : Int)]) = some (u, l ++ [n]) := by
        rw [goT_snoc, hp]
        have : t.kids.at? (i : Int) = some (n, u) := by
          unfold F.at?
          rw [if_neg (by omega)]
          simpa using h0
        simp only [this]
      exact allT_goes v u _ _ this q hq
    · exact allF_goes v r (i + 1) p t l hp (fun j n' u' hj => by
        have := hk (j + 1) n' u' hj
        rwa [show i + 1 + j = i + (j + 1) from by omega]) q hq
end

/-- Are two values alike, Kids apart? -/
def ownEq : T → T → Bool
  | .mk k b h l t m s y _, .mk k' b' h' l' t' m' s' y' _ => k == k' && b == b' && h == h' && l == l' && t.toList == t'.toList && m.toList == m'.toList && s == s' && y == y'

mutual
/-- The paths at which two trees of one shape part. -/
def diffT : T → T → List Int → Option (List (List Int))
  | .mk k b h l t m s y f, v, p => if f.len ≠ v.kids.len then none else
      match diffF f v.kids 0 p with
      | none => none
      | some d => some ((if ownEq (.mk k b h l t m s y f) v then [] else [p]) ++ d)
def diffF : F → F → Nat → List Int → Option (List (List Int))
  | .cons n t r, .cons n' t' r', i, p => if n.toList ≠ n'.toList then none else
      match diffT t t' (p ++ [(i : Int)]) with
      | none => none
      | some d => match diffF r r' (i + 1) p with
        | none => none
        | some e => some (d ++ e)
  | _, _, _, _ => some []
end

mutual
theorem diffT_iff : ∀ (t u : T) (p : List Int) (d : List (List Int)), diffT t u p = some d → ∀ q ∈ d, ∃ s, q = p ++ s
  | .mk k b h l tx m s y f, v, p, d, hd, q, hq => by
    simp only [diffT] at hd
    split at hd
    · simp at hd
    · split at hd
      · simp at hd
      · rename_i d' hd'
        simp only [Option.some.injEq] at hd
        subst hd
        rw [List.mem_append] at hq
        rcases hq with hq | hq
        · split at hq
          · simp at hq
          · simp only [List.mem_singleton] at hq; exact ⟨[], by simp [hq]⟩
        · exact diffF_iff f v.kids 0 p d' hd' q hq
theorem diffF_iff : ∀ (f g : F) (i : Nat) (p : List Int) (d : List (List Int)), diffF f g i p = some d → ∀ q ∈ d, ∃ s, q = p ++ s
  | .nil, g, i, p, d, hd, q, hq => by simp only [diffF, Option.some.injEq] at hd; subst hd; simp at hq
  | .cons n t r, .nil, i, p, d, hd, q, hq => by simp only [diffF, Option.some.injEq] at hd; subst hd; simp at hq
  | .cons n t r, .cons n' t' r', i, p, d, hd, q, hq => by
    simp only [diffF] at hd
    split at hd
    · simp at hd
    · split at hd
      · simp at hd
      · rename_i d1 h1
        split at hd
        · simp at hd
        · rename_i d2 h2
          simp only [Option.some.injEq] at hd
          subst hd
          rw [List.mem_append] at hq
          rcases hq with hq | hq
          · obtain ⟨s, hs⟩ := diffT_iff t t' _ d1 h1 q hq
            exact ⟨[(i : Int)] ++ s, by rw [hs]; simp⟩
          · exact diffF_iff r r' (i + 1) p d2 h2 q hq
end

mutual
/-- Are two trees alike? -/
def sameT : T → T → Bool
  | .mk k b h l t m s y f, v => ownEq (.mk k b h l t m s y f) v && f.len == v.kids.len && sameF f v.kids
def sameF : F → F → Bool
  | .cons n t r, .cons n' t' r' => n.toList == n'.toList && sameT t t' && sameF r r'
  | _, _ => true
end

theorem append_nil {α} {a b : List α} (h : a ++ b = []) : a = [] ∧ b = [] := by simpa using h

mutual
theorem diff_same : ∀ (t u : T) (p : List Int), diffT t u p = some [] ↔ sameT t u = true
  | .mk k b h l tx m s y f, v, p => by
    simp only [diffT, sameT, Bool.and_eq_true]
    have ih := diffF_same f v.kids 0 p
    by_cases hl : f.len = v.kids.len
    · rw [if_neg (by simpa using hl)]
      rw [hl]
      simp only [beq_self_eq_true, and_true]
      rw [← ih]
      cases hd : diffF f v.kids 0 p with
      | none => simp
      | some d =>
        simp only [Option.some.injEq, List.append_eq_nil_iff]
        cases hc : ownEq (.mk k b h l tx m s y f) v <;> simp
    · rw [if_pos hl]
      have : (f.len == v.kids.len) = false := by simpa using hl
      simp [this]
theorem diffF_same : ∀ (f g : F) (i : Nat) (p : List Int), diffF f g i p = some [] ↔ sameF f g = true
  | .nil, g, i, p => by simp [diffF, sameF]
  | .cons n t r, .nil, i, p => by simp [diffF, sameF]
  | .cons n t r, .cons n' t' r', i, p => by
    have h1 := diff_same t t' (p ++ [(i : Int)])
    have h2 := diffF_same r r' (i + 1) p
    simp only [diffF, sameF, Bool.and_eq_true]
    by_cases hn : n.toList = n'.toList
    · rw [if_neg (by simpa using hn)]
      have : (n.toList == n'.toList) = true := by simpa using hn
      rw [this, ← h1, ← h2]
      cases diffT t t' (p ++ [(i : Int)]) with
      | none => simp
      | some d =>
        cases diffF r r' (i + 1) p with
        | none => simp
        | some e => simp
    · rw [if_pos hn]
      have : (n.toList == n'.toList) = false := by simpa using hn
      simp [this]
end

theorem ownEq_self (t : T) : ownEq t t = true := by cases t; simp [ownEq]

mutual
theorem diff_self : ∀ (t : T) (p : List Int), diffT t t p = some []
  | .mk k b h l tx m s y f, p => by
    have e := ownEq_self (.mk k b h l tx m s y f)
    simp [diffT, T.kids, diffF_self, e]
theorem diffF_self : ∀ (f : F) (i : Nat) (p : List Int), diffF f f i p = some []
  | .nil, i, p => by simp [diffF]
  | .cons n t r, i, p => by
    simp only [diffF]
    rw [if_neg (by simp), diff_self t _]
    simp only
    rw [diffF_self r _ _]
    rfl
end

/-- The Kids, the i-th one another. -/
def F.set : F → Nat → T → F
  | .nil, _, _ => .nil
  | .cons n _ r, 0, x => .cons n x r
  | .cons n t r, i + 1, x => .cons n t (r.set i x)

/-- A tree, and another value at a path. -/
def withT : T → List Int → T → T
  | t, [], x => x
  | .mk k b h l tx m s y f, i :: p, x => .mk k b h l tx m s y (match f.at? i with | none => f | some (_, u) => f.set i.toNat (withT u p x))

theorem F.set_len : ∀ (f : F) (i : Nat) (x : T), (f.set i x).len = f.len
  | .nil, _, _ => rfl
  | .cons n t r, 0, x => rfl
  | .cons n t r, i + 1, x => by simp only [F.set, F.len, F.set_len r i x]

theorem diffF_set : ∀ (f : F) (i j : Nat) (p : List Int) (n : ByteArray) (u x : T), f.get? j = some (n, u) → diffF f (f.set j x) i p = diffT u x (p ++ [((i + j : Nat) : Int)])
  | .nil, i, j, p, n, u, x, h => by simp [F.get?] at h
  | .cons n t r, i, 0, p, n', u, x, h => by
    simp only [F.get?, Option.some.injEq, Prod.mk.injEq] at h
    obtain ⟨rfl, rfl⟩ := h
    simp only [F.set, diffF]
    rw [if_neg (by simp)]
    simp only [Nat.add_zero]
    cases hd : diffT t x (p ++ [(i : Int)]) with
    | none => rfl
    | some d => simp only [diffF_self]; simp
  | .cons n t r, i, j + 1, p, n', u, x, h => by
    simp only [F.set, diffF]
    rw [if_neg (by simp), diff_self]
    simp only
    have := diffF_set r (i + 1) j p n' u x h
    rw [this, show i + 1 + j = i + (j + 1) from by omega]
    cases diffT u x (p ++ [((i + (j + 1) : Nat) : Int)]) with
    | none => rfl
    | some d => simp

/-- Where a tree parts from the same with another value at a path: where the two values part. -/
theorem diff_with : ∀ (p : List Int) (t u x : T) (l : List ByteArray) (q : List Int), goT t p = some (u, l) → diffT t (withT t p x) q = diffT u x (q ++ p)
  | [], t, u, x, l, q, h => by
    simp only [goT, Option.some.injEq, Prod.mk.injEq] at h
    obtain ⟨rfl, rfl⟩ := h
    simp [withT]
  | i :: p, .mk k b h l tx m s y f, u, x, l', q, hg => by
    simp only [goT, T.kids] at hg
    cases h1 : f.at? i with
    | none => rw [h1] at hg; simp at hg
    | some z =>
      obtain ⟨n, v⟩ := z
      rw [h1] at hg
      simp only at hg
      cases h2 : goT v p with
      | none => rw [h2] at hg; simp at hg
      | some z2 =>
        obtain ⟨v', l2⟩ := z2
        rw [h2] at hg
        simp only [Option.some.injEq, Prod.mk.injEq] at hg
        obtain ⟨rfl, rfl⟩ := hg
        have hi : 0 ≤ i ∧ f.get? i.toNat = some (n, v) := by
          unfold F.at? at h1
          split at h1
          · simp at h1
          · exact ⟨by omega, h1⟩
        simp only [withT, h1, diffT, T.kids]
        rw [if_neg (by simp [F.set_len]), diffF_set f 0 i.toNat q n v _ hi.2]
        have := diff_with p v v' x l2 (q ++ [i]) h2
        rw [Nat.zero_add, Int.toNat_of_nonneg hi.1, this]
        cases hd : diffT v' x (q ++ [i] ++ p) with
        | none => simp at hd; simp [hd]
        | some d => simp at hd; simp [hd, ownEq]

end Go.Proofs.Ytiodjhcjfbnocaa
