/- Paths in trees, plainly. No program in sight. How large a tree is: the statements' guard. The weight of a tree, its size. Value and Small of the book, walked. The program's size: Of and kids, walked. The reference's Size, walked. How deep a tree is, plainly. -/
import Derived.Test.YtkcfkdmffbhljaaMA
import Derived.Test.YtkcfkdmffbhljaaRows
import Derived.Deep.RegionHeld3
namespace Go.Proofs.Ytkcfkdmffbhljaa
set_option linter.unusedVariables false
set_option linter.unusedSimpArgs false

theorem F.get_none : ∀ (f : F) (i : Nat), f.len ≤ i → f.get? i = none
  | .nil, i, h => rfl
  | .cons n t r, 0, h => by simp [F.len] at h
  | .cons n t r, i + 1, h => F.get_none r i (by simp only [F.len] at h; omega)

/-- The Kid of a number, if there is one. -/
def F.at? (f : F) (i : Int) : Option (ByteArray × T) := if i < 0 then none else f.get? i.toNat

/-- The value that a path leads to, and the Names on the way. -/
def goT : T → List Int → Option (T × List ByteArray)
  | t, [] => some (t, [])
  | t, i :: p => match t.kids.at? i with
    | none => none
    | some (n, u) => match goT u p with
      | none => none
      | some (x, l) => some (x, n :: l)

theorem goT_snoc : ∀ (p : List Int) (t : T) (i : Int), goT t (p ++ [i]) = match goT t p with
    | none => none
    | some (x, l) => match x.kids.at? i with
      | none => none
      | some (n, u) => some (u, l ++ [n])
  | [], t, i => by
    simp only [List.nil_append, goT]
  | j :: p, t, i => by
    simp only [List.cons_append, goT]
    cases h : t.kids.at? j with
    | none => rfl
    | some y =>
      obtain ⟨n, u⟩ := y
      simp only [goT_snoc p u i]
      cases h2 : goT u p with
      | none => rfl
      | some z =>
        obtain ⟨x, l⟩ := z
        simp only
        cases h3 : x.kids.at? i with
        | none => rfl
        | some y => rfl

mutual
/-- The paths of a value at a path, and of all within it. -/
def allT : T → List Int → List (List Int)
  | .mk _ _ _ _ _ _ _ _ f, p => p :: allF f 0 p
def allF : F → Nat → List Int → List (List Int)
  | .nil, _, _ => []
  | .cons _ t r, i, p => allT t (p ++ [(i : Int)]) ++ allF r (i + 1) p
end

mutual
def countT : T → Nat
  | .mk _ _ _ _ _ _ _ _ f => countF f + 1
def countF : F → Nat
  | .nil => 0
  | .cons _ t r => countT t + countF r
end

mutual
theorem allT_len : ∀ (t : T) (p : List Int), (allT t p).length = countT t
  | .mk _ _ _ _ _ _ _ _ f, p => by simp only [allT, countT, List.length_cons, allF_len f]
theorem allF_len : ∀ (f : F) (i : Nat) (p : List Int), (allF f i p).length = countF f
  | .nil, _, _ => rfl
  | .cons _ t r, i, p => by simp only [allF, countF, List.length_append, allT_len t, allF_len r]
end

/-- A path that leads to a value, and no further one behind its last Kid. -/
def Leads (t : T) (q : List Int) : Prop := ∃ x l, goT t q = some (x, l) ∧ goT t (q ++ [(x.kids.len : Int)]) = none

theorem goT_end (t : T) (q : List Int) (x : T) (l : List ByteArray) (h : goT t q = some (x, l)) : goT t (q ++ [(x.kids.len : Int)]) = none := by
  rw [goT_snoc, h]
  have : x.kids.at? (x.kids.len : Int) = none := by
    unfold F.at?
    rw [if_neg (by omega)]
    exact F.get_none _ _ (by simp)
  simp only [this]

theorem goT_append : ∀ (p q : List Int) (t x : T) (l : List ByteArray), goT t p = some (x, l) → goT t (p ++ q) = match goT x q with
    | none => none
    | some (y, m) => some (y, l ++ m)
  | [], q, t, x, l, h => by
    simp only [goT, Option.some.injEq, Prod.mk.injEq] at h
    obtain ⟨rfl, rfl⟩ := h
    simp only [List.nil_append]
    cases goT t q with
    | none => rfl
    | some z => rfl
  | j :: p, q, t, x, l, h => by
    simp only [List.cons_append, goT] at h ⊢
    cases h1 : t.kids.at? j with
    | none => rw [h1] at h; simp at h
    | some y =>
      obtain ⟨n, u⟩ := y
      rw [h1] at h
      simp only at h ⊢
      cases h2 : goT u p with
      | none => rw [h2] at h; simp at h
      | some z =>
        obtain ⟨x', l'⟩ := z
        rw [h2] at h
        simp only [Option.some.injEq, Prod.mk.injEq] at h
        obtain ⟨rfl, rfl⟩ := h
        rw [goT_append p q u x' l' h2]
        cases goT x' q with
        | none => rfl
        | some z => rfl

mutual
theorem allT_goes (v : T) : ∀ (t : T) (p : List Int) (l : List ByteArray), goT v p = some (t, l) → ∀ q ∈ allT t p, ∃ x m, goT v q = some (x, m)
  | .mk a b c d e f g h k, p, l, hp, q, hq => by
    simp only [allT, List.mem_cons] at hq
    rcases hq with rfl | hq
    · exact ⟨_, _, hp⟩
    · exact allF_goes v k 0 p (.mk a b c d e f g h k) l hp (fun i n u hi => by simpa [T.kids] using hi) q hq
theorem allF_goes (v : T) : ∀ (f : F) (i : Nat) (p : List Int) (t : T) (l : List ByteArray), goT v p = some (t, l) → (∀ j n u, f.get? j = some (n, u) → t.kids.get? (i + j) = some (n, u)) → ∀ q ∈ allF f i p, ∃ x m, goT v q = some (x, m)
  | .nil, _, _, _, _, _, _, q, hq => by simp [allF] at hq
  | .cons n u r, i, p, t, l, hp, hk, q, hq => by
    simp only [allF, List.mem_append] at hq
    rcases hq with hq | hq
    · have h0 := hk 0 n u rfl
      have : goT v (p ++ [(i : Int)]) = some (u, l ++ [n]) := by
        rw [goT_snoc, hp]
        have : t.kids.at? (i : Int) = some (n, u) := by
          unfold F.at?
          rw [if_neg (by omega)]
          simpa using h0
        simp only [this]
      exact allT_goes v u _ _ this q hq
    · exact allF_goes v r (i + 1) p t l hp (fun j n' u' hj => by
        have := hk (j + 1) n' u' hj
        rwa [show i + 1 + j = i + (j + 1) from by omega]) q hq
end

/-- Are two values alike, Kids apart? -/
def ownEq : T → T → Bool
  | .mk k b h l t m s y _, .mk k' b' h' l' t' m' s' y' _ => k == k' && b == b' && h == h' && l == l' && t.toList == t'.toList && m.toList == m'.toList && s == s' && y == y'

mutual
/-- The paths at which two trees of one shape part. -/
def diffT : T → T → List Int → Option (List (List Int))
  | .mk k b h l t m s y f, v, p => if f.len ≠ v.kids.len then none else
      match diffF f v.kids 0 p with
      | none => none
      | some d => some ((if ownEq (.mk k b h l t m s y f) v then [] else [p]) ++ d)
def diffF : F → F → Nat → List Int → Option (List (List Int))
  | .cons n t r, .cons n' t' r', i, p => if n.toList ≠ n'.toList then none else
      match diffT t t' (p ++ [(i : Int)]) with
      | none => none
      | some d => match diffF r r' (i + 1) p with
        | none => none
        | some e => some (d ++ e)
  | _, _, _, _ => some []
end

mutual
theorem diffT_iff : ∀ (t u : T) (p : List Int) (d : List (List Int)), diffT t u p = some d → ∀ q ∈ d, ∃ s, q = p ++ s
  | .mk k b h l tx m s y f, v, p, d, hd, q, hq => by
    simp only [diffT] at hd
    split at hd
    · simp at hd
    · split at hd
      · simp at hd
      · rename_i d' hd'
        simp only [Option.some.injEq] at hd
        subst hd
        rw [List.mem_append] at hq
        rcases hq with hq | hq
        · split at hq
          · simp at hq
          · simp only [List.mem_singleton] at hq; exact ⟨[], by simp [hq]⟩
        · exact diffF_iff f v.kids 0 p d' hd' q hq
theorem diffF_iff : ∀ (f g : F) (i : Nat) (p : List Int) (d : List (List Int)), diffF f g i p = some d → ∀ q ∈ d, ∃ s, q = p ++ s
  | .nil, g, i, p, d, hd, q, hq => by simp only [diffF, Option.some.injEq] at hd; subst hd; simp at hq
  | .cons n t r, .nil, i, p, d, hd, q, hq => by simp only [diffF, Option.some.injEq] at hd; subst hd; simp at hq
  | .cons n t r, .cons n' t' r', i, p, d, hd, q, hq => by
    simp only [diffF] at hd
    split at hd
    · simp at hd
    · split at hd
      · simp at hd
      · rename_i d1 h1
        split at hd
        · simp at hd
        · rename_i d2 h2
          simp only [Option.some.injEq] at hd
          subst hd
          rw [List.mem_append] at hq
          rcases hq with hq | hq
          · obtain ⟨s, hs⟩ := diffT_iff t t' _ d1 h1 q hq
            exact ⟨[(i : Int)] ++ s, by rw [hs]; simp⟩
          · exact diffF_iff r r' (i + 1) p d2 h2 q hq
end

mutual
/-- Are two trees alike? -/
def sameT : T → T → Bool
  | .mk k b h l t m s y f, v => ownEq (.mk k b h l t m s y f) v && f.len == v.kids.len && sameF f v.kids
def sameF : F → F → Bool
  | .cons n t r, .cons n' t' r' => n.toList == n'.toList && sameT t t' && sameF r r'
  | _, _ => true
end

theorem append_nil {α} {a b : List α} (h : a ++ b = []) : a = [] ∧ b = [] := by simpa using h

mutual
theorem diff_same : ∀ (t u : T) (p : List Int), diffT t u p = some [] ↔ sameT t u = true
  | .mk k b h l tx m s y f, v, p => by
    simp only [diffT, sameT, Bool.and_eq_true]
    have ih := diffF_same f v.kids 0 p
    by_cases hl : f.len = v.kids.len
    · rw [if_neg (by simpa using hl)]
      rw [hl]
      simp only [beq_self_eq_true, and_true]
      rw [← ih]
      cases hd : diffF f v.kids 0 p with
      | none => simp
      | some d =>
        simp only [Option.some.injEq, List.append_eq_nil_iff]
        cases hc : ownEq (.mk k b h l tx m s y f) v <;> simp
    · rw [if_pos hl]
      have : (f.len == v.kids.len) = false := by simpa using hl
      simp [this]
theorem diffF_same : ∀ (f g : F) (i : Nat) (p : List Int), diffF f g i p = some [] ↔ sameF f g = true
  | .nil, g, i, p => by simp [diffF, sameF]
  | .cons n t r, .nil, i, p => by simp [diffF, sameF]
  | .cons n t r, .cons n' t' r', i, p => by
    have h1 := diff_same t t' (p ++ [(i : Int)])
    have h2 := diffF_same r r' (i + 1) p
    simp only [diffF, sameF, Bool.and_eq_true]
    by_cases hn : n.toList = n'.toList
    · rw [if_neg (by simpa using hn)]
      have : (n.toList == n'.toList) = true := by simpa using hn
      rw [this, ← h1, ← h2]
      cases diffT t t' (p ++ [(i : Int)]) with
      | none => simp
      | some d =>
        cases diffF r r' (i + 1) p with
        | none => simp
        | some e => simp
    · rw [if_pos hn]
      have : (n.toList == n'.toList) = false := by simpa using hn
      simp [this]
end

theorem ownEq_self (t : T) : ownEq t t = true := by cases t; simp [ownEq]

mutual
theorem diff_self : ∀ (t : T) (p : List Int), diffT t t p = some []
  | .mk k b h l tx m s y f, p => by
    have e := ownEq_self (.mk k b h l tx m s y f)
    simp [diffT, T.kids, diffF_self, e]
theorem diffF_self : ∀ (f : F) (i : Nat) (p : List Int), diffF f f i p = some []
  | .nil, i, p => by simp [diffF]
  | .cons n t r, i, p => by
    simp only [diffF]
    rw [if_neg (by simp), diff_self t _]
    simp only
    rw [diffF_self r _ _]
    rfl
end

/-- The Kids, the i-th one another. -/
def F.set : F → Nat → T → F
  | .nil, _, _ => .nil
  | .cons n _ r, 0, x => .cons n x r
  | .cons n t r, i + 1, x => .cons n t (r.set i x)

/-- A tree, and another value at a path. -/
def withT : T → List Int → T → T
  | t, [], x => x
  | .mk k b h l tx m s y f, i :: p, x => .mk k b h l tx m s y (match f.at? i with | none => f | some (_, u) => f.set i.toNat (withT u p x))

theorem F.set_len : ∀ (f : F) (i : Nat) (x : T), (f.set i x).len = f.len
  | .nil, _, _ => rfl
  | .cons n t r, 0, x => rfl
  | .cons n t r, i + 1, x => by simp only [F.set, F.len, F.set_len r i x]

theorem diffF_set : ∀ (f : F) (i j : Nat) (p : List Int) (n : ByteArray) (u x : T), f.get? j = some (n, u) → diffF f (f.set j x) i p = diffT u x (p ++ [((i + j : Nat) : Int)])
  | .nil, i, j, p, n, u, x, h => by simp [F.get?] at h
  | .cons n t r, i, 0, p, n', u, x, h => by
    simp only [F.get?, Option.some.injEq, Prod.mk.injEq] at h
    obtain ⟨rfl, rfl⟩ := h
    simp only [F.set, diffF]
    rw [if_neg (by simp)]
    simp only [Nat.add_zero]
    cases hd : diffT t x (p ++ [(i : Int)]) with
    | none => rfl
    | some d => simp only [diffF_self]; simp
  | .cons n t r, i, j + 1, p, n', u, x, h => by
    simp only [F.set, diffF]
    rw [if_neg (by simp), diff_self]
    simp only
    have := diffF_set r (i + 1) j p n' u x h
    rw [this, show i + 1 + j = i + (j + 1) from by omega]
    cases diffT u x (p ++ [((i + (j + 1) : Nat) : Int)]) with
    | none => rfl
    | some d => simp

/-- Where a tree parts from the same with another value at a path: where the two values part. -/
theorem diff_with : ∀ (p : List Int) (t u x : T) (l : List ByteArray) (q : List Int), goT t p = some (u, l) → diffT t (withT t p x) q = diffT u x (q ++ p)
  | [], t, u, x, l, q, h => by
    simp only [goT, Option.some.injEq, Prod.mk.injEq] at h
    obtain ⟨rfl, rfl⟩ := h
    simp [withT]
  | i :: p, .mk k b h l tx m s y f, u, x, l', q, hg => by
    simp only [goT, T.kids] at hg
    cases h1 : f.at? i with
    | none => rw [h1] at hg; simp at hg
    | some z =>
      obtain ⟨n, v⟩ := z
      rw [h1] at hg
      simp only at hg
      cases h2 : goT v p with
      | none => rw [h2] at hg; simp at hg
      | some z2 =>
        obtain ⟨v', l2⟩ := z2
        rw [h2] at hg
        simp only [Option.some.injEq, Prod.mk.injEq] at hg
        obtain ⟨rfl, rfl⟩ := hg
        have hi : 0 ≤ i ∧ f.get? i.toNat = some (n, v) := by
          unfold F.at? at h1
          split at h1
          · simp at h1
          · exact ⟨by omega, h1⟩
        simp only [withT, h1, diffT, T.kids]
        rw [if_neg (by simp [F.set_len]), diffF_set f 0 i.toNat q n v _ hi.2]
        have := diff_with p v v' x l2 (q ++ [i]) h2
        rw [Nat.zero_add, Int.toNat_of_nonneg hi.1, this]
        cases hd : diffT v' x (q ++ [i] ++ p) with
        | none => simp at hd; simp [hd]
        | some d => simp at hd; simp [hd, ownEq]

end Go.Proofs.Ytkcfkdmffbhljaa

namespace Go.Proofs.Ytkcfkdmffbhljaa
open Go.RowKit
set_option linter.unusedVariables false
set_option linter.unusedSimpArgs false

def roomS : Int → List Int → Int
  | left, [] => left
  | left, s :: r => if left < 0 ∨ left < s then -1 else roomS (left - s) r

theorem roomS_bd : ∀ (l : List Int) (left : Int), (∀ s ∈ l, 0 ≤ s) → -1 ≤ left → -1 ≤ roomS left l ∧ roomS left l ≤ left
  | [], left, _, h => by simp [roomS]; omega
  | s :: r, left, hs, h => by
    have h0 := hs s (by simp)
    simp only [roomS]
    split
    · omega
    · have := roomS_bd r (left - s) (fun x hx => hs x (by simp [hx])) (by omega)
      omega

def nAt (l : List Int) (i : Nat) : Int := l.getD i 0

set_option maxRecDepth 100000 in
set_option maxHeartbeats 1000000 in
theorem room_calls (a : Option Addr) (n cap : Nat) (left : Int) (w : World) (l : List Int) (h : RdI .i64 w a n l) (hs : ∀ s ∈ l, 0 ≤ s) (h0 : -1 ≤ left) (h1 : left ≤ 4611686018427387904) :
    Calls Try.prog 46 #[.int .i64 left, .slice a n cap] w fun e w' => e = .returned (.int .i64 (roomS left l)) ∧ w = w' := by
  have H := Lib.hid h
  have hm := h.2.1
  have HS := Lib.hid hs
  clear h hs
  go_enter Try.func46, Try.ntmps46
  go_wp2
  go_loop [0, 5] (fun q i => ∃ (k : Nat) (lf : Int), k ≤ n ∧ i = .int .i64 k ∧ q = .int .i64 lf ∧ -1 ≤ lf ∧ lf ≤ 4611686018427387904 ∧ roomS lf (l.drop k) = roomS left l) (fun _ i => n - (intOf i).toNat)
  case atStart => exact ⟨0, left, by omega, rfl, rfl, h0, h1, rfl⟩
  case round =>
    obtain ⟨k, lf, hk, rfl, rfl, b0, b1, hr⟩ := hrel
    have HR := Lib.hid hr
    clear hr
    by_cases hlt : k < n
    · obtain ⟨b, o, rfl, d⟩ : ∃ b o, a = some ⟨b, o, none⟩ ∧ w.cell? ⟨b, o + k, none⟩ = some (.int .i64 (nAt l k)) := H.out.2.2.2 k hlt
      have hl : k < l.length := by rw [H.out.1]; exact hlt
      have hd : Hid (roomS lf (l.drop k) = if lf < 0 ∨ lf < nAt l k then -1 else roomS (lf - nAt l k) (l.drop (k + 1))) := by
        show roomS lf (l.drop k) = _
        rw [drop_getD l 0 k hl]; rfl
      have hn : 0 ≤ nAt l k := HS.out _ (by unfold nAt; rw [List.getD_eq_getElem?_getD, List.getElem?_eq_getElem hl]; exact List.getElem_mem hl)
      clear hl
      generalize nAt l k = s at d hd hn
      by_cases hx : lf < 0
      · have hf := Lib.hid (HR.out.symm.trans (hd.out.trans (if_pos (Or.inl hx))))
        go_wp2
        go_ret
        exact ⟨by rw [hf.out]; rfl, rfl⟩
      · by_cases hy : lf < s
        · have hf := Lib.hid (HR.out.symm.trans (hd.out.trans (if_pos (Or.inr hy))))
          go_wp2
          go_ret
          exact ⟨by rw [hf.out]; rfl, rfl⟩
        · have hf := Lib.hid ((hd.out.trans (if_neg (by omega))).symm.trans HR.out)
          go_wp2
          go_round
          case rel => exact ⟨k + 1, lf - s, by omega, by simp, by simp, by omega, by omega, hf.out⟩
          case measure => simp [intOf]; omega
    · have hf : Hid (roomS left l = lf) := by
        have := HR.out
        rw [List.drop_of_length_le (by rw [H.out.1]; omega)] at this
        exact this.symm
      go_wp2
      go_ret
      exact ⟨by rw [hf.out]; rfl, rfl⟩

mutual
def bookT : Int → T → Int
  | left, .mk _ _ _ _ text more _ bs kids => bookF (roomS left [2, text.size, more.size, bs.length]) kids
def bookF : Int → F → Int
  | left, .nil => left
  | left, .cons n t r => if left < 0 then left else bookF (bookT (roomS left [(n.size : Int)]) t) r
end

mutual
theorem bookT_bd : ∀ (t : T) (left : Int), -1 ≤ left → -1 ≤ bookT left t ∧ bookT left t ≤ left
  | .mk _ _ _ _ text more _ bs kids, left, h => by
    have h1 := roomS_bd [2, text.size, more.size, bs.length] left (by simp) h
    have h2 := bookF_bd kids _ h1.1
    simp only [bookT]
    omega
theorem bookF_bd : ∀ (f : F) (left : Int), -1 ≤ left → -1 ≤ bookF left f ∧ bookF left f ≤ left
  | .nil, left, h => by simp [bookF]; omega
  | .cons n t r, left, h => by
    simp only [bookF]
    split
    · omega
    · have h1 := roomS_bd [(n.size : Int)] left (by simp) h
      have h2 := bookT_bd t _ h1.1
      have h3 := bookF_bd r _ h2.1
      omega
end

def F.drop : Nat → F → F
  | 0, f => f
  | _ + 1, .nil => .nil
  | k + 1, .cons _ _ r => r.drop k

theorem F.drop_get : ∀ (f : F) (k : Nat) (n : ByteArray) (t : T), f.get? k = some (n, t) → f.drop k = .cons n t (f.drop (k + 1))
  | .nil, k, n, t, h => by simp [F.get?] at h
  | .cons n' t' r, 0, n, t, h => by
    simp only [F.get?, Option.some.injEq, Prod.mk.injEq] at h
    obtain ⟨rfl, rfl⟩ := h
    simp [F.drop]
  | .cons n' t' r, k + 1, n, t, h => F.drop_get r k n t h

theorem F.drop_len : ∀ (f : F) (k : Nat), f.len ≤ k → f.drop k = .nil
  | .nil, 0, _ => rfl
  | .nil, k + 1, _ => rfl
  | .cons _ _ r, 0, h => by simp [F.len] at h
  | .cons _ _ r, k + 1, h => F.drop_len r k (by simp only [F.len] at h; omega)

end Go.Proofs.Ytkcfkdmffbhljaa

namespace Go.Proofs.Ytkcfkdmffbhljaa
open Go.RowKit
set_option linter.unusedVariables false
set_option linter.unusedSimpArgs false

mutual
def T.wt : T → Nat
  | .mk _ _ _ _ text more _ bs kids => 2 + text.size + more.size + bs.length + kids.wt
def F.wt : F → Nat
  | .nil => 0
  | .cons n t r => n.size + t.wt + r.wt
end

theorem roomS_sum : ∀ (l : List Int) (left : Int), (∀ s ∈ l, 0 ≤ s) → 0 ≤ roomS left l → roomS left l = left - l.sum
  | [], left, _, _ => by simp [roomS]
  | s :: r, left, hs, h => by
    simp only [roomS] at h ⊢
    split at h
    · omega
    · rename_i hh
      rw [if_neg hh, roomS_sum r (left - s) (fun x hx => hs x (by simp [hx])) h]
      simp; omega

mutual
theorem bookT_wt : ∀ (t : T) (left : Int), 0 ≤ bookT left t → bookT left t = left - t.wt
  | .mk _ _ _ _ text more _ bs kids, left, h => by
    simp only [bookT] at h ⊢
    have h2 := bookF_wt kids _ h
    have hr : 0 ≤ roomS left [2, text.size, more.size, bs.length] := by omega
    have h1 := roomS_sum [2, text.size, more.size, bs.length] left (by simp) hr
    rw [h2, h1]
    simp only [T.wt, List.sum_cons, List.sum_nil]
    omega
theorem bookF_wt : ∀ (f : F) (left : Int), 0 ≤ bookF left f → bookF left f = left - f.wt
  | .nil, left, h => by simp [bookF, F.wt]
  | .cons n t r, left, h => by
    simp only [bookF] at h ⊢
    split at h
    · omega
    · rename_i hh
      rw [if_neg hh]
      have h3 := bookF_wt r _ h
      have h2 := bookT_wt t (roomS left [(n.size : Int)]) (by omega)
      have h1 := roomS_sum [(n.size : Int)] left (by simp) (by omega)
      rw [h3, h2, h1]
      simp only [F.wt, List.sum_cons, List.sum_nil]
      omega
end

theorem F.wt_get : ∀ (f : F) (i : Nat) (n : ByteArray) (t : T), f.get? i = some (n, t) → n.size + t.wt + (f.drop (i + 1)).wt ≤ (f.drop i).wt ∧ (f.drop i).wt ≤ f.wt
  | .nil, i, n, t, h => by simp [F.get?] at h
  | .cons n' t' r, 0, n, t, h => by
    simp only [F.get?, Option.some.injEq, Prod.mk.injEq] at h
    obtain ⟨rfl, rfl⟩ := h
    simp [F.drop, F.wt]
  | .cons n' t' r, i + 1, n, t, h => by
    have := F.wt_get r i n t h
    simp only [F.drop, F.wt] at this ⊢
    omega

/-- A value's size, its Kids' size given. -/
def ownSize (k sub : Int) (text more bs : Nat) (ks : Int) : Int :=
  bif k == 1 then 8 else bif k == 9 then 8 else bif k == 17 then 8 else bif k == 18 then 8 else bif k == 16 then 4 else bif k == 8 then 1 else bif k == 19 then 16
  else bif k == 2 then text + 5 else bif k == 13 then text + 5 else bif k == 14 then text + 5 else bif k == 11 then text + more + 2
  else bif k == 5 then (bif sub == 2 then bs + 9 else bs + 5) else bif k == 7 then 12 else bif k == 12 then text + 17
  else bif k == 3 then ks else bif k == 4 then ks else bif k == 15 then text + 9 + ks else 0

theorem ownSize_bd (k sub : Int) (text more bs : Nat) (ks : Int) (h : 0 ≤ ks) : 0 ≤ ownSize k sub text more bs ks ∧ ownSize k sub text more bs ks ≤ 17 + text + more + bs + ks := by
  unfold ownSize
  simp only [cond_eq_ite]
  (repeat' split) <;> omega

mutual
def sizeT : T → Int
  | .mk k _ _ _ text more sub bs kids => ownSize k sub text.size more.size bs.length (5 + sizeF kids)
def sizeF : F → Int
  | .nil => 0
  | .cons n t r => (n.size + 2 + sizeT t) + sizeF r
end

mutual
theorem sizeT_bd : ∀ (t : T), 0 ≤ sizeT t ∧ sizeT t + 2 ≤ 12 * t.wt
  | .mk k _ _ _ text more sub bs kids => by
    have h := sizeF_bd kids
    have := ownSize_bd k sub text.size more.size bs.length (5 + sizeF kids) (by omega)
    simp only [sizeT, T.wt]
    omega
theorem sizeF_bd : ∀ (f : F), 0 ≤ sizeF f ∧ sizeF f ≤ 12 * f.wt
  | .nil => by simp [sizeF, F.wt]
  | .cons n t r => by
    have h1 := sizeT_bd t
    have h2 := sizeF_bd r
    have h3 : 2 ≤ t.wt := by cases t; simp only [T.wt]; omega
    simp only [sizeF, F.wt]
    omega
end

theorem sizeF_get (f : F) (i : Nat) (n : ByteArray) (t : T) (h : f.get? i = some (n, t)) : sizeF (f.drop i) = (n.size + 2 + sizeT t) + sizeF (f.drop (i + 1)) := by
  rw [F.drop_get f i n t h]; rfl

end Go.Proofs.Ytkcfkdmffbhljaa

namespace Go.Proofs.Ytkcfkdmffbhljaa
open Go.RowKit
set_option linter.unusedVariables false
set_option linter.unusedSimpArgs false

theorem RdI.ofNew {w : World} (cs : Array Value) (l : List Int) (t : Nat) (hc : cs.toList = l.map (Value.int .i64)) (hl : l.length ≤ 9223372036854775807) (hw : ∀ n ∈ l, (Lit.int .i64 n).wf = true) (g : Nat) (hg : g = w.heap.size) : RdI .i64 (w.alloc (.cells cs t)) (some ⟨g, 0, none⟩) l.length l := by
  subst hg
  refine ⟨rfl, hl, hw, fun i hi => ⟨_, _, rfl, ?_⟩⟩
  have : (w.alloc (.cells cs t)).cell? ⟨w.heap.size, 0 + i, none⟩ = cs[i]? := by rw [Nat.zero_add]; simp [go_sem]
  rw [this, ← Array.getElem?_toList, hc, List.getElem?_map]
  simp only [List.getD_eq_getElem?_getD, List.getElem?_eq_getElem hi]
  rfl

theorem wf_of {n : Int} (h0 : -9223372036854775808 ≤ n) (h1 : n ≤ 9223372036854775807) : (Lit.int .i64 n).wf = true := by
  simp [Lit.wf, IntKind.min, IntKind.max, IntKind.signed, IntKind.bits]; omega

theorem below_cell {W w' : World} {p : Addr} {v : Value} (hb : Below W.heap.size W w') (h : W.cell? p = some v) : w'.cell? p = some v := (hb.cell (cell_block h)).trans h

theorem below_cell2 {W w' : World} {B : Nat} {p : Addr} {v : Value} (hb : Below B W w') (h : W.cell? p = some v) (hB : p.block < B) : w'.cell? p = some v := (hb.cell hB).trans h

theorem below_more {B : Nat} {a wr w' : World} {o : Obj} (h : Below B a wr) (hs : B ≤ wr.heap.size) (hb : Below ((wr.alloc o).drew).heap.size ((wr.alloc o).drew) w') : Below B a w' :=
  h.trans ((((Below.refl wr.heap.size wr).alloc (Nat.le_refl _) o).drew.mono hs).trans (hb.mono (by show B ≤ (wr.heap.push o).size; simp; omega)))

/-- Room at one size. -/
theorem room1 (g : Nat) (left s : Int) (W : World) (hc : W.cell? ⟨g, 0, none⟩ = some (.int .i64 s)) (h0 : 0 ≤ s) (h1 : s ≤ 9223372036854775807) (b0 : -1 ≤ left) (b1 : left ≤ 4611686018427387904) :
    Calls Try.prog 46 #[.int .i64 left, .slice (some ⟨g, 0, none⟩) 1 1] W fun e w' => e = .returned (.int .i64 (roomS left [s])) ∧ W = w' :=
  by
  refine room_calls _ 1 1 left W [s] ⟨rfl, by omega, by intro n hn; simp at hn; subst hn; exact wf_of (by omega) h1, ?_⟩ (by simpa using h0) b0 b1
  intro i hi
  obtain rfl : i = 0 := by omega
  exact ⟨g, 0, rfl, by simpa using hc⟩

set_option maxRecDepth 100000 in
set_option maxHeartbeats 400000 in
theorem value_calls (d : Nat) : ∀ (t : T), t.depth ≤ d → ∀ (left : Int) (w : World) (c : Array Value), RdT w t c → -1 ≤ left → left ≤ 4611686018427387904 →
    Calls Try.prog 32 #[.int .i64 left, .agg c] w fun e w' => e = .returned (.int .i64 (bookT left t)) ∧ Below w.heap.size w w' := by
  induction d with
  | zero => intro t ht; cases t; simp [T.depth] at ht
  | succ d ih =>
    intro t ht left w c h h0 h1
    obtain ⟨k, bits, hi, lo, text, more, sub, bs, kids⟩ := t
    obtain ⟨ab, nb, cb, ak, nk, ck, rfl, hok, hrb, hkl, hnk, hks⟩ := h
    have hkd : kids.depth ≤ d := by simp only [T.depth] at ht; omega
    clear ht
    obtain ⟨ok1, ok2, ok3, ok4, ok5, ok6, ok7⟩ := hok
    have hbl := hrb.1
    have hbm := hrb.2.1
    have r1 := roomS_bd [2, text.size, more.size, bs.length] left (by simp) h0
    have IH := Lib.hid ih
    have HK := Lib.hid hks
    have HKL := Lib.hid hkl
    have HBL := Lib.hid hbl
    have HF : Hid (bookT left (.mk k bits hi lo text more sub bs kids) = bookF (roomS left [2, text.size, more.size, (nb : Int)]) kids) := by
      show bookT _ _ = _
      rw [← hbl]; rfl
    rw [hbl] at r1
    have hroom := fun (w : World) (g : Nat) (hg : g = w.heap.size) => room_calls _ _ 4 left (w.alloc (.cells #[.int .i64 2, .int .i64 text.size, .int .i64 more.size, .int .i64 nb] 3)) [2, text.size, more.size, (nb : Int)] (RdI.ofNew _ _ _ rfl (by simp) (by intro n hn; simp at hn; rcases hn with rfl | rfl | rfl | rfl <;> exact wf_of (by omega) (by omega)) g hg) (by simp) h0 h1
    have HRm := Lib.hid hroom
    clear ih hks hkl hrb hbl hroom
    generalize roomS left [2, text.size, more.size, (nb : Int)] = lf0 at r1 HF HRm
    go_enter Try.func32, Try.ntmps32
    go_wp2_with fail
    refine (HRm.out _ _ (by simp)).mono ?_
    rintro e w' ⟨rfl, rfl⟩
    go_wp2_with fail
    have hW : Below w.heap.size w ((w.alloc (.cells (valCells k bits hi lo text more sub ab nb cb ak nk ck) 26)).alloc (.cells #[.int .i64 2, .int .i64 text.size, .int .i64 more.size, .int .i64 nb] 3)) := ((Below.refl _ _).alloc (Nat.le_refl _) _).alloc (by simp) _
    have HW := Lib.hid hW
    clear hW
    go_loopw [0, 5] (fun q i wr => ∃ (j : Nat) (lf : Int), j ≤ nk ∧ i = .int .i64 j ∧ q = .int .i64 lf ∧ -1 ≤ lf ∧ lf ≤ 4611686018427387904 ∧ bookF lf (kids.drop j) = bookF lf0 kids ∧ Below (w.heap.size + 2) ((w.alloc (.cells (valCells k bits hi lo text more sub ab nb cb ak nk ck) 26)).alloc (.cells #[.int .i64 2, .int .i64 text.size, .int .i64 more.size, .int .i64 nb] 3)) wr) (fun _ i _ => nk - (intOf i).toNat)
    case atStart => exact ⟨0, lf0, by omega, rfl, rfl, by omega, by omega, by simp [F.drop], Below.refl _ _⟩
    case round =>
      obtain ⟨j, lf, hj, rfl, rfl, b0, b1, hr, hbl⟩ := hrel
      have f8 : wr.cell? ⟨w.heap.size, 8, none⟩ = some (.slice ak nk ck) := below_cell2 hbl (by simp [go_sem, valCells]) (by simp)
      have hsz : w.heap.size + 2 ≤ wr.heap.size := by have := hbl.size; simp at this; omega
      have HKW := Lib.hid (HK.out.keep (HW.out.trans (hbl.mono (by omega))))
      have HR := Lib.hid hr
      have HBW := Lib.hid hbl
      clear hr hbl
      by_cases hlt : j < nk
      · by_cases hlf : 0 ≤ lf
        · obtain ⟨⟨n, t⟩, hx⟩ := F.get_some kids j (by rw [HKL.out]; exact hlt)
          have hdep := (F.get_lt kids j _ hx).2
          obtain ⟨b, o, k', bits', hi', lo', text', more', sub', bs', kids', ab', nb', cb', ak', nk', ck', rfl, rfl, e1, e2, e3, g0, g1, g2, g3, g4, g5, g6, g7, g8, g9⟩ := (HKW.out.at hx).cells
          have hrn := roomS_bd [(n.size : Int)] lf (by simp) b0
          have hbt := bookT_bd (.mk k' bits' hi' lo' text' more' sub' bs' kids') _ hrn.1
          have HX := Lib.hid (F.drop_get kids j _ _ hx)
          have HN : Hid (bookF lf (kids.drop j) = bookF (bookT (roomS lf [(n.size : Int)]) (.mk k' bits' hi' lo' text' more' sub' bs' kids')) (kids.drop (j + 1))) := by
            show bookF _ _ = _
            rw [HX.out]; simp only [bookF]; rw [if_neg (by omega)]
          have hj0 : (0 : Int) ≤ (j : Int) := by omega
          have hj1 : (j : Int) < (nk : Int) := by omega
          have E3 := Lib.hid e3
          have HC := Lib.hid (IH.out _ (Nat.le_trans hdep hkd))
          have HR1 := Lib.hid (room1 wr.heap.size lf n.size)
          clear hx e3 hdep
          generalize roomS lf [(n.size : Int)] = lf1 at hrn hbt HN HR1
          go_wp2_with fail
          go_region_held3 (fun w' => w'.cell? ⟨w.heap.size, 8, none⟩ = some (.slice (some ⟨b, o, none⟩) nk ck) ∧ w'.cell? ⟨b, o + j * 10, none⟩ = some (.string n) ∧ w'.cell? ⟨b, o + j * 10 + 1, none⟩ = some (.int .i64 k') ∧ w'.cell? ⟨b, o + j * 10 + 2, none⟩ = some (.int .u64 (bits' : Nat)) ∧ w'.cell? ⟨b, o + j * 10 + 3, none⟩ = some (.int .u64 (hi' : Nat)) ∧ w'.cell? ⟨b, o + j * 10 + 4, none⟩ = some (.int .u64 (lo' : Nat)) ∧ w'.cell? ⟨b, o + j * 10 + 5, none⟩ = some (.string text') ∧ w'.cell? ⟨b, o + j * 10 + 6, none⟩ = some (.string more') ∧ w'.cell? ⟨b, o + j * 10 + 7, none⟩ = some (.int .i64 sub') ∧ w'.cell? ⟨b, o + j * 10 + 8, none⟩ = some (.slice ab' nb' cb') ∧ w'.cell? ⟨b, o + j * 10 + 9, none⟩ = some (.slice ak' nk' ck')) (first | go_keep | ((repeat' apply And.intro) <;> (refine below_cell ‹Below _ _ _› ?_; simp [*]))) (first | (go_at_call 46; refine (HR1.out _ ?_ (by omega) (by omega) (by omega) (by omega)).mono ?_; (simp [go_sem]); rintro e w' ⟨rfl, rfl⟩) | (go_at_call 32; refine (HC.out _ _ _ ?_ (by omega) (by omega)).mono ?_; (exact E3.out.keep ((Below.refl _ _).alloc (Nat.le_refl _) _).drew); rintro e w' ⟨rfl, hb⟩))
          go_wp2_with fail
          go_roundw
          case rel => exact ⟨j + 1, _, by omega, by simp, rfl, hbt.1, by omega, HN.out.symm.trans HR.out, below_more HBW.out hsz hb⟩
          case measure => simp [intOf]; omega
        · have hf : Hid (bookF lf0 kids = lf) := by
            show bookF lf0 kids = lf
            rw [← HR.out]
            obtain ⟨⟨n, t⟩, hx⟩ := F.get_some kids j (by rw [HKL.out]; exact hlt)
            rw [F.drop_get kids j _ _ hx]
            simp only [bookF]
            rw [if_pos (by omega)]
          go_wp2_with fail
          go_ret
          exact ⟨by rw [HF.out, hf.out]; rfl, HW.out.trans (HBW.out.mono (by omega))⟩
      · have hf : Hid (bookF lf0 kids = lf) := by
          show bookF lf0 kids = lf
          rw [← HR.out, F.drop_len kids j (by rw [HKL.out]; omega)]
          simp only [bookF]
        go_wp2_with fail
        go_ret
        exact ⟨by rw [HF.out, hf.out]; rfl, HW.out.trans (HBW.out.mono (by omega))⟩

/-- Is a tree small? -/
def smallT (t : T) : Bool := decide (0 ≤ bookT 1200 t)

set_option maxRecDepth 100000 in
set_option maxHeartbeats 400000 in
theorem small_calls (t : T) (w : World) (c : Array Value) (h : RdT w t c) :
    Calls Try.prog 14 #[.agg c] w fun e w' => e = .returned (.bool (smallT t)) ∧ Below w.heap.size w w' := by
  have C := Lib.hid (value_calls t.depth t (Nat.le_refl _) 1200)
  have H := Lib.hid h
  have hs := h.size
  obtain ⟨k, bits, hi, lo, text, more, sub, bs, kids⟩ := t
  obtain ⟨ab, nb, cb, ak, nk, ck, rfl, _⟩ := h
  have HB : Hid (smallT (T.mk k bits hi lo text more sub bs kids) = decide (0 ≤ bookT 1200 (T.mk k bits hi lo text more sub bs kids))) := rfl
  generalize hg : smallT (T.mk k bits hi lo text more sub bs kids) = sm at HB
  generalize bookT 1200 (T.mk k bits hi lo text more sub bs kids) = n at C HB
  clear hg
  go_enter Try.func14, Try.ntmps14
  go_wp2_with fail
  refine (C.out _ _ (H.out.keep ((Below.refl _ _).alloc (Nat.le_refl _) _)) (by omega) (by omega)).mono ?_
  rintro e w' ⟨rfl, hb⟩
  go_wp2_with fail
  go_ret
  exact ⟨by rw [HB.out]; rfl, ((Below.refl w.heap.size w).alloc (Nat.le_refl _) _).trans (hb.mono (by simp))⟩
end Go.Proofs.Ytkcfkdmffbhljaa

namespace Go.Proofs.Ytkcfkdmffbhljaa
open Go.RowKit
set_option linter.unusedVariables false
set_option linter.unusedSimpArgs false

/-- What Of answers for trees of a weight. -/
def OfSaid (d : Nat) : Prop := ∀ (t : T), t.wt ≤ d → ∀ (w : World) (c : Array Value), RdT w t c → Calls Try.prog 41 #[.agg c] w fun e w' => e = .returned (.int .i64 (sizeT t)) ∧ Below w.heap.size w w'

set_option maxRecDepth 100000 in
set_option maxHeartbeats 400000 in
theorem kids_of (d : Nat) (hd : d ≤ 1000000000) (hof : OfSaid d) (f : F) (hf : f.wt ≤ d) (a : Option Addr) (n cap : Nat) (w : World) (hl : f.len = n) (hn : n ≤ 9223372036854775807) (hk : RdKs w a 0 f) :
    Calls Try.prog 58 #[.slice a n cap] w fun e w' => e = .returned (.int .i64 (5 + sizeF f)) ∧ Below w.heap.size w w' := by
  have HK := Lib.hid hk
  have HL := Lib.hid hl
  have HO := Lib.hid hof
  have hfb := sizeF_bd f
  have HF : Hid (f.drop 0 = f) := rfl
  clear hk hl hof
  go_enter Try.func58, Try.ntmps58
  go_wp2_with fail
  go_loopw [3, 8] (fun q i wr => ∃ (j : Nat) (s : Int), j ≤ n ∧ i = .int .i64 j ∧ q = .int .i64 s ∧ 0 ≤ s ∧ s + sizeF (f.drop j) = 5 + sizeF f ∧ Below w.heap.size w wr) (fun _ i _ => n - (intOf i).toNat)
  case atStart => exact ⟨0, 5, by omega, rfl, rfl, by omega, rfl, Below.refl _ _⟩
  case round =>
    obtain ⟨j, s, hj, rfl, rfl, b0, hr, hbl⟩ := hrel
    have HKW := Lib.hid (HK.out.keep hbl)
    have hsz := hbl.size
    have HBW := Lib.hid hbl
    clear hbl
    by_cases hlt : j < n
    · obtain ⟨⟨nm, t⟩, hx⟩ := F.get_some f j (by rw [HL.out]; exact hlt)
      have hw := F.wt_get f j nm t hx
      have hg := sizeF_get f j nm t hx
      have hb1 := sizeT_bd t
      have hb2 := sizeF_bd (f.drop (j + 1))
      obtain ⟨b, o, k', bits', hi', lo', text', more', sub', bs', kids', ab', nb', cb', ak', nk', ck', rfl, rfl, e1, e2, e3, g0, g1, g2, g3, g4, g5, g6, g7, g8, g9⟩ := (HKW.out.at hx).cells
      have HC := Lib.hid (HO.out _ (show T.wt (.mk k' bits' hi' lo' text' more' sub' bs' kids') ≤ d by omega))
      have E3 := Lib.hid e3
      have hs : s + ((nm.size + 2 + sizeT (.mk k' bits' hi' lo' text' more' sub' bs' kids')) + sizeF (f.drop (j + 1))) = 5 + sizeF f := by rw [← hg]; exact hr
      have HS := Lib.hid hs
      clear hx hg hr e3 hw
      generalize sizeT (.mk k' bits' hi' lo' text' more' sub' bs' kids') = z at hb1 hs HS HC
      have hz : s + (nm.size + 2 + z) ≤ 13000000000 := by omega
      have hj1 : (j : Int) < (n : Int) := by omega
      clear hs
      have q1 : IntKind.i64.wrap ((nm.size : Int) + 2) = (nm.size : Int) + 2 := IntWalk.i64_in _ (by omega)
      have q2 : IntKind.i64.wrap ((nm.size : Int) + 2 + z) = (nm.size : Int) + 2 + z := IntWalk.i64_in _ (by omega)
      have q3 : IntKind.i64.wrap (s + ((nm.size : Int) + 2 + z)) = s + ((nm.size : Int) + 2 + z) := IntWalk.i64_in _ (by omega)
      go_wp2_with fail
      go_region_held3 (fun w' => w'.cell? ⟨wr.heap.size, 0, none⟩ = some (.string nm) ∧ w'.cell? ⟨wr.heap.size, 1, none⟩ = some (.int .i64 k') ∧ w'.cell? ⟨wr.heap.size, 2, none⟩ = some (.int .u64 (bits' : Nat)) ∧ w'.cell? ⟨wr.heap.size, 3, none⟩ = some (.int .u64 (hi' : Nat)) ∧ w'.cell? ⟨wr.heap.size, 4, none⟩ = some (.int .u64 (lo' : Nat)) ∧ w'.cell? ⟨wr.heap.size, 5, none⟩ = some (.string text') ∧ w'.cell? ⟨wr.heap.size, 6, none⟩ = some (.string more') ∧ w'.cell? ⟨wr.heap.size, 7, none⟩ = some (.int .i64 sub') ∧ w'.cell? ⟨wr.heap.size, 8, none⟩ = some (.slice ab' nb' cb') ∧ w'.cell? ⟨wr.heap.size, 9, none⟩ = some (.slice ak' nk' ck')) (first | go_keep | ((repeat' apply And.intro) <;> (refine below_cell ‹Below _ _ _› ?_; simp [*]))) ((go_at_call 41; refine (HC.out _ _ ?_).mono ?_; (exact E3.out.keep ((Below.refl _ _).alloc (Nat.le_refl _) _).drew); rintro e w' ⟨rfl, hb⟩))
      go_wp2_with fail
      go_roundw
      case rel => exact ⟨j + 1, _, by omega, by simp, rfl, by omega, by rw [← HS.out]; omega, below_more HBW.out hsz hb⟩
      case measure => simp [intOf]; omega
    · have hf : Hid (5 + sizeF f = s) := by
        show 5 + sizeF f = s
        rw [← hr, F.drop_len f j (by rw [HL.out]; omega)]
        simp only [sizeF]
        omega
      clear hr
      go_wp2_with fail
      go_ret
      exact ⟨by rw [hf.out]; rfl, HBW.out⟩
set_option maxRecDepth 100000 in
set_option maxHeartbeats 4000000 in
theorem of_step (d : Nat) (hd : d ≤ 1000000000) (hof : OfSaid d) : OfSaid (d + 1) := by
  intro t ht w c h
  obtain ⟨k, bits, hi, lo, text, more, sub, bs, kids⟩ := t
  have hst := sizeT_bd (.mk k bits hi lo text more sub bs kids)
  obtain ⟨ab, nb, cb, ak, nk, ck, rfl, hok, hrb, hkl, hnk, hks⟩ := h
  have hkd : kids.wt ≤ d := by simp only [T.wt] at ht; omega
  have hkb := sizeF_bd kids
  have hbl := hrb.1
  have hxt : (text.size : Int) ≤ 1000000001 := by simp only [T.wt] at ht; omega
  have hxm : (more.size : Int) ≤ 1000000001 := by simp only [T.wt] at ht; omega
  have hxb : (nb : Int) ≤ 1000000001 := by simp only [T.wt] at ht; omega
  have HC := Lib.hid (fun W => kids_of d hd hof kids hkd ak nk ck W hkl hnk.1)
  have HKS := Lib.hid hks
  have HF : Hid (sizeT (.mk k bits hi lo text more sub bs kids) = ownSize k sub text.size more.size nb (5 + sizeF kids)) := by
    show sizeT _ = _
    simp only [sizeT]; rw [hbl]
  have hz : 5 + sizeF kids ≤ 12000000005 := by omega
  have hz0 : 0 ≤ 5 + sizeF kids := by omega
  clear hof hok hrb hkl hnk hks ht hbl hst hkd
  generalize 5 + sizeF kids = z at HC HF hz hz0
  generalize sizeT (.mk k bits hi lo text more sub bs kids) = r at HF
  clear hkb
  have q2 : IntKind.i64.wrap ((text.size : Int) + 9 + z) = (text.size : Int) + 9 + z := IntWalk.i64_in _ (by omega)
  have q1 : IntKind.i64.wrap ((text.size : Int) + 9) = (text.size : Int) + 9 := IntWalk.i64_in _ (by omega)
  go_enter Try.func41, Try.ntmps41
  go_wp2_with (go_at_call 58; refine (HC.out _ ?_).mono ?_; (exact HKS.out.keep ((Below.refl _ _).alloc (Nat.le_refl _) _)); rintro e w' ⟨rfl, hb⟩)
  all_goals first
    | (go_ret
       refine ⟨by rw [HF.out]; simp only [ownSize, *, cond_true, cond_false]; rfl, ?_⟩
       first | exact (Below.refl _ _).alloc (Nat.le_refl _) _ | exact ((Below.refl w.heap.size w).alloc (Nat.le_refl _) _).trans (hb.mono (by simp)))
    | (go_region_held3 (fun w' => w'.cell? ⟨w.heap.size, 4, none⟩ = some (.string text) ∧ w'.cell? ⟨w.heap.size, 8, none⟩ = some (.slice ak nk ck)) (first | go_keep | ((repeat' apply And.intro) <;> (refine below_cell ‹Below _ _ _› ?_; simp [*]))) ((go_at_call 58; refine (HC.out _ ?_).mono ?_; (exact HKS.out.keep ((Below.refl _ _).alloc (Nat.le_refl _) _).drew); rintro e w' ⟨rfl, hb⟩))
       go_wp2
       go_ret
       refine ⟨by rw [HF.out]; simp only [ownSize, *, cond_true, cond_false]; rfl, ?_⟩
       exact (((Below.refl w.heap.size w).alloc (Nat.le_refl _) _).drew).trans (hb.mono (by show _ ≤ (w.heap.push _).size; simp)))
theorem of_all : ∀ d, d ≤ 1000000001 → OfSaid d
  | 0, _ => fun t ht => by cases t; simp only [T.wt] at ht; omega
  | d + 1, h => of_step d (by omega) (of_all d (by omega))

end Go.Proofs.Ytkcfkdmffbhljaa

namespace Go.Proofs.Ytkcfkdmffbhljaa
open Go.RowKit
set_option linter.unusedVariables false
set_option linter.unusedSimpArgs false

def RSizeSaid (d : Nat) : Prop := ∀ (t : T), t.wt ≤ d → ∀ (w : World) (c : Array Value), RdT w t c → Calls Try.prog 31 #[.agg c] w fun e w' => e = .returned (.int .i64 (sizeT t)) ∧ Below w.heap.size w w'

/-- The three kinds with Kids. -/
def tailS (k : Int) (text : Nat) (s : Int) : Int := bif k == 15 then text + 9 + s else s

theorem ownSize_tail (k sub : Int) (text more bs : Nat) (s : Int) (h : k = 3 ∨ k = 4 ∨ k = 15) : ownSize k sub text more bs s = tailS k text s := by
  rcases h with rfl | rfl | rfl <;> rfl

set_option maxRecDepth 100000 in
set_option maxHeartbeats 4000000 in
theorem rsize_step (d : Nat) (hd : d ≤ 1000000000) (hof : RSizeSaid d) : RSizeSaid (d + 1) := by
  intro t ht w c h
  obtain ⟨k, bits, hi, lo, text, more, sub, bs, kids⟩ := t
  obtain ⟨ab, nb, cb, ak, nk, ck, rfl, hok, hrb, hkl, hnk, hks⟩ := h
  have hkd : kids.wt ≤ d := by simp only [T.wt] at ht; omega
  have hkb := sizeF_bd kids
  have hbl := hrb.1
  have hxt : (text.size : Int) ≤ 1000000001 := by simp only [T.wt] at ht; omega
  have hxm : (more.size : Int) ≤ 1000000001 := by simp only [T.wt] at ht; omega
  have hxb : (nb : Int) ≤ 1000000001 := by simp only [T.wt] at ht; omega
  have HO := Lib.hid hof
  have HKS := Lib.hid hks
  have HL := Lib.hid hkl
  have HF : Hid (sizeT (.mk k bits hi lo text more sub bs kids) = ownSize k sub text.size more.size nb (5 + sizeF kids)) := by
    show sizeT _ = _
    simp only [sizeT]; rw [hbl]
  clear hof hok hrb hkl hks ht hbl
  generalize sizeT (.mk k bits hi lo text more sub bs kids) = r at HF
  by_cases h3 : k = 3 ∨ k = 4 ∨ k = 15
  · have HT := Lib.hid (HF.out.trans (ownSize_tail _ _ _ _ _ _ h3))
    clear HF
    rcases h3 with rfl | rfl | rfl
    all_goals
      go_enter Try.func31, Try.ntmps31
      go_wp2_with fail
      go_loopw [4, 5] (fun q i wr => ∃ (j : Nat) (s : Int), j ≤ nk ∧ i = .int .i64 j ∧ q = .int .i64 s ∧ 0 ≤ s ∧ s + sizeF (kids.drop j) = 5 + sizeF kids ∧ Below (w.heap.size + 1) (w.alloc (.cells (valCells _ bits hi lo text more sub ab nb cb ak nk ck) 26)) wr) (fun _ i _ => nk - (intOf i).toNat)
      case atStart => exact ⟨0, 5, by omega, rfl, rfl, by omega, by simp [F.drop], Below.refl _ _⟩
      case round =>
        obtain ⟨j, s, hj, rfl, rfl, b0, hr, hbl⟩ := hrel
        have f0 := below_cell2 (p := ⟨w.heap.size, 0, none⟩) hbl (by simp [go_sem, valCells]; rfl) (by simp)
        have f4 : wr.cell? ⟨w.heap.size, 4, none⟩ = some (.string text) := below_cell2 hbl (by simp [go_sem, valCells]) (by simp)
        have f8 : wr.cell? ⟨w.heap.size, 8, none⟩ = some (.slice ak nk ck) := below_cell2 hbl (by simp [go_sem, valCells]) (by simp)
        have hsz : w.heap.size + 1 ≤ wr.heap.size := by have := hbl.size; simp at this; omega
        have HKW := Lib.hid (HKS.out.keep (((Below.refl w.heap.size w).alloc (Nat.le_refl _) _).trans (hbl.mono (by omega))))
        have HBW := Lib.hid hbl
        clear hbl
        by_cases hlt : j < nk
        · obtain ⟨⟨nm, t⟩, hx⟩ := F.get_some kids j (by rw [HL.out]; exact hlt)
          have hw := F.wt_get kids j nm t hx
          have hg := sizeF_get kids j nm t hx
          have hb1 := sizeT_bd t
          have hb2 := sizeF_bd (kids.drop (j + 1))
          obtain ⟨b, o, k', bits', hi', lo', text', more', sub', bs', kids', ab', nb', cb', ak', nk', ck', rfl, rfl, e1, e2, e3, g0, g1, g2, g3, g4, g5, g6, g7, g8, g9⟩ := (HKW.out.at hx).cells
          have HC := Lib.hid (HO.out _ (show T.wt (.mk k' bits' hi' lo' text' more' sub' bs' kids') ≤ d by omega))
          have E3 := Lib.hid e3
          have hs : s + ((nm.size + 2 + sizeT (.mk k' bits' hi' lo' text' more' sub' bs' kids')) + sizeF (kids.drop (j + 1))) = 5 + sizeF kids := by rw [← hg]; exact hr
          have HS := Lib.hid hs
          clear hx hg hr e3 hw
          generalize sizeT (.mk k' bits' hi' lo' text' more' sub' bs' kids') = z at hb1 hs HS HC
          have hz : s + (nm.size + 2 + z) ≤ 13000000000 := by omega
          have hj0 : (0 : Int) ≤ (j : Int) := by omega
          have hj1 : (j : Int) < (nk : Int) := by omega
          clear hs
          have q3 : IntKind.i64.wrap (s + (nm.size : Int) + 2 + z) = s + (nm.size : Int) + 2 + z := IntWalk.i64_in _ (by omega)
          have q2 : IntKind.i64.wrap (s + (nm.size : Int) + 2) = s + (nm.size : Int) + 2 := IntWalk.i64_in _ (by omega)
          have q1 : IntKind.i64.wrap (s + (nm.size : Int)) = s + (nm.size : Int) := IntWalk.i64_in _ (by omega)
          go_wp2_with fail
          go_region_held3 (fun w' => w'.cell? ⟨w.heap.size, 8, none⟩ = some (.slice (some ⟨b, o, none⟩) nk ck) ∧ w'.cell? ⟨b, o + j * 10, none⟩ = some (.string nm) ∧ w'.cell? ⟨b, o + j * 10 + 1, none⟩ = some (.int .i64 k') ∧ w'.cell? ⟨b, o + j * 10 + 2, none⟩ = some (.int .u64 (bits' : Nat)) ∧ w'.cell? ⟨b, o + j * 10 + 3, none⟩ = some (.int .u64 (hi' : Nat)) ∧ w'.cell? ⟨b, o + j * 10 + 4, none⟩ = some (.int .u64 (lo' : Nat)) ∧ w'.cell? ⟨b, o + j * 10 + 5, none⟩ = some (.string text') ∧ w'.cell? ⟨b, o + j * 10 + 6, none⟩ = some (.string more') ∧ w'.cell? ⟨b, o + j * 10 + 7, none⟩ = some (.int .i64 sub') ∧ w'.cell? ⟨b, o + j * 10 + 8, none⟩ = some (.slice ab' nb' cb') ∧ w'.cell? ⟨b, o + j * 10 + 9, none⟩ = some (.slice ak' nk' ck')) (first | go_keep | ((repeat' apply And.intro) <;> (refine below_cell ‹Below _ _ _› ?_; simp [*]))) ((go_at_call 31; refine (HC.out _ _ ?_).mono ?_; (exact E3.out.keep (Below.refl _ _).drew); rintro e w' ⟨rfl, hb⟩))
          go_wp2_with fail
          go_roundw
          case rel => exact ⟨j + 1, _, by omega, by simp, rfl, by omega, by rw [← HS.out]; omega, HBW.out.trans (((Below.refl _ _).drew).trans (hb.mono hsz))⟩
          case measure => simp [intOf]; omega
        · have hf : Hid (5 + sizeF kids = s) := by
            show 5 + sizeF kids = s
            rw [← hr, F.drop_len kids j (by rw [HL.out]; omega)]
            simp only [sizeF]
            omega
          have hsb : s ≤ 13000000000 := by have := hf.out; omega
          clear hr
          go_wp2_with fail
          go_ret
          exact ⟨by rw [HT.out, hf.out]; simp [tailS]; try omega, ((Below.refl w.heap.size w).alloc (Nat.le_refl _) _).trans (HBW.out.mono (by omega))⟩
  · have n1 : (k == 3) = false := by simp; omega
    have n2 : (k == 4) = false := by simp; omega
    have n3 : (k == 15) = false := by simp; omega
    clear h3
    go_enter Try.func31, Try.ntmps31
    go_wp2_with fail
    all_goals
      go_ret
      refine ⟨by rw [HF.out]; simp only [ownSize, *, cond_true, cond_false]; rfl, ?_⟩
      exact (Below.refl _ _).alloc (Nat.le_refl _) _

theorem rsize_all : ∀ d, d ≤ 1000000001 → RSizeSaid d
  | 0, _ => fun t ht => by cases t; simp only [T.wt] at ht; omega
  | d + 1, h => rsize_step d (by omega) (rsize_all d (by omega))

end Go.Proofs.Ytkcfkdmffbhljaa

namespace Go.Proofs.Ytkcfkdmffbhljaa
open Go.RowKit
set_option linter.unusedVariables false
set_option linter.unusedSimpArgs false

/-- Has a Kind Kids? -/
def isK (k : Int) : Bool := k == 3 || k == 4 || k == 15

mutual
def depT : T → Nat
  | .mk k _ _ _ _ _ _ _ kids => bif isK k then depF kids + 1 else 0
def depF : F → Nat
  | .nil => 0
  | .cons _ t r => max (depT t) (depF r)
end

mutual
theorem depT_wt : ∀ t : T, depT t + 1 ≤ t.wt
  | .mk k _ _ _ _ _ _ _ kids => by
    have := depF_wt kids
    simp only [depT, T.wt]
    cases isK k <;> simp <;> omega
theorem depF_wt : ∀ f : F, depF f ≤ f.wt
  | .nil => by simp [depF]
  | .cons n t r => by
    have h1 := depT_wt t
    have h2 := depF_wt r
    simp only [depF, F.wt]
    omega
end

theorem depF_get (f : F) (i : Nat) (n : ByteArray) (t : T) (h : f.get? i = some (n, t)) : depF (f.drop i) = max (depT t) (depF (f.drop (i + 1))) := by
  rw [F.drop_get f i n t h]; rfl

end Go.Proofs.Ytkcfkdmffbhljaa
