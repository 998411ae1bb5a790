/- A row of Kids of the call's own, one Kid's value laid anew; a path without its first number. -/
import Derived.Test.YtiodjhcjfbnocaaPaB
import Derived.Test.YtiodjhcjfbnocaaPathP
namespace Go.Proofs.Ytiodjhcjfbnocaa
open Go.RowKit
set_option linter.unusedVariables false
set_option linter.unusedSimpArgs false

theorem F.set_get : ∀ (f : F) (j i : Nat) (x : T), (f.set j x).get? i = if i = j then (f.get? j).map (fun y => (y.1, x)) else f.get? i
  | .nil, j, i, x => by simp [F.set, F.get?]
  | .cons n t r, 0, 0, x => by simp [F.set, F.get?]
  | .cons n t r, 0, i + 1, x => by simp [F.set, F.get?]
  | .cons n t r, j + 1, 0, x => by simp [F.set, F.get?]
  | .cons n t r, j + 1, i + 1, x => by
    simp only [F.set, F.get?, F.set_get r j i x]
    by_cases h : i = j
    · rw [if_pos h, if_pos (by omega)]
    · rw [if_neg h, if_neg (by omega)]

theorem KsC.kid {S : Nat → Prop} {w : World} : ∀ {f : F} {xs : List Value} {i : Nat} {n : ByteArray} {t : T}, KsC S w f xs → f.get? i = some (n, t) → ∃ c, n.size ≤ 9223372036854775807 ∧ RdTS S w t c ∧ xs[i * 10]? = some (.string n) ∧ ∀ m, m < 9 → xs[i * 10 + (m + 1)]? = c[m]?
  | .nil, xs, i, n, t, h, hi => by simp [F.get?] at hi
  | .cons n0 t0 r, xs, 0, n, t, h, hi => by
    simp only [F.get?, Option.some.injEq, Prod.mk.injEq] at hi
    obtain ⟨rfl, rfl⟩ := hi
    obtain ⟨c, ys, rfl, h1, h2, h3⟩ := h
    have hs := h1.size
    refine ⟨c, h2, h1, rfl, fun m hm => ?_⟩
    rw [List.getElem?_append_left (by simp [fcells, hs]; omega)]
    simp [fcells]
  | .cons n0 t0 r, xs, i + 1, n, t, h, hi => by
    obtain ⟨c, ys, rfl, h1, h2, h3⟩ := h
    have hs := h1.size
    have hl : (fcells n0 c).length = 10 := by simp [fcells, hs]
    obtain ⟨c', a1, a2, a3, a4⟩ := KsC.kid h3 (show r.get? i = some (n, t) from hi)
    refine ⟨c', a1, a2, ?_, fun m hm => ?_⟩
    · rw [List.getElem?_append_right (by omega), hl, ← a3]; congr 1; omega
    · rw [List.getElem?_append_right (by omega), hl, ← a4 m hm]; congr 1; omega

/-- A Kid of a row of the call's own. -/
theorem OwnK.kid {w : World} {B : Nat} {L : Nat → Prop} {g nk cp : Nat} {f : F} {i : Nat} {n : ByteArray} {t : T} (h : OwnK w B L (.slice (some ⟨g, 0, none⟩) nk cp) f) (hi : f.get? i = some (n, t)) :
    ∃ c, n.size ≤ 9223372036854775807 ∧ RdTS (fun k => L k ∧ k ≠ g) w t c ∧ w.cell? ⟨g, i * 10, none⟩ = some (.string n) ∧ (∀ m, m < 9 → w.cell? ⟨g, i * 10 + (m + 1), none⟩ = c[m]?) ∧ ∀ j, w.frozen? ⟨g, j, none⟩ = false := by
  obtain ⟨xs, S, ho, hk, hS⟩ := h
  have hil := (F.get_lt f i _ hi).1
  have hlen := hk.length
  obtain ⟨c, a1, a2, a3, a4⟩ := hk.kid hi
  have hs := a2.size
  have hn : f.len = nk := by
    rcases ho.2 with ⟨e, _⟩ | ⟨g2, cap2, cur2, e, _⟩
    · simp at e
    · simp only [Value.slice.injEq] at e; exact e.2.1.symm
  subst hn
  refine ⟨c, a1, a2.imp fun k _ hk => ⟨(hS k hk).1, fun e => (hS k hk).2 (by rw [e]; rfl)⟩, ?_, fun m hm => ?_, fun j => ho.frozenAt j⟩
  · rw [ho.cellAt _ (by omega)]; exact a3
  · rw [ho.cellAt _ (by omega)]; exact a4 m hm

/-- The Kids, when one's value was laid anew. -/
theorem set_kids {w w' : World} {B : Nat} {L : Nat → Prop} {g nk cp : Nat} {f : F} {j : Nat} {n : ByteArray} {u x : T} {cx : Array Value} (h : OwnK w B L (.slice (some ⟨g, 0, none⟩) nk cp) f) (hj : f.get? j = some (n, u)) (hx : RdT w' x cx) (hch : Chg (fun k => k = g) w w')
    (ho : ∀ off, (off < j * 10 + 1 ∨ j * 10 + 10 ≤ off) → w'.cell? ⟨g, off, none⟩ = w.cell? ⟨g, off, none⟩) (hc : ∀ m, m < 9 → w'.cell? ⟨g, j * 10 + (m + 1), none⟩ = cx[m]?) : RdKs w' (some ⟨g, 0, none⟩) 0 (f.set j x) := by
  refine RdKs.of fun i n' t' hi => ?_
  rw [F.set_get] at hi
  by_cases hij : i = j
  · subst hij
    rw [if_pos rfl, hj] at hi
    simp only [Option.map_some, Option.some.injEq, Prod.mk.injEq] at hi
    obtain ⟨rfl, rfl⟩ := hi
    obtain ⟨c, a1, a2, a3, a4, -⟩ := h.kid hj
    refine ⟨g, 0, cx, rfl, a1, ?_, fun m hm => ?_, hx⟩
    · rw [show 0 + (0 + i) * 10 = i * 10 by omega, ho _ (by omega)]; exact a3
    · rw [show 0 + (0 + i) * 10 + (m + 1) = i * 10 + (m + 1) by omega]; exact hc m hm
  · rw [if_neg hij] at hi
    obtain ⟨c, a1, a2, a3, a4, -⟩ := h.kid hi
    refine ⟨g, 0, c, rfl, a1, ?_, fun m hm => ?_, (a2.keep (KeepS.chg hch fun k hk => hk.2)).rd⟩
    · rw [show 0 + (0 + i) * 10 = i * 10 by omega, ho _ (by omega)]; exact a3
    · rw [show 0 + (0 + i) * 10 + (m + 1) = i * 10 + (m + 1) by omega, ho _ (by omega)]; exact a4 m hm

/-- A path without its first number. -/
theorem RdPS.tail {w : World} {b o : Nat} {i : Int} {p : List Int} (h : RdPS (fun _ => True) w (some ⟨b, o, none⟩) (i :: p)) : RdPS (fun _ => True) w (some ⟨b, o + 1, none⟩) p := by
  refine ⟨fun k hk => ?_, fun _ _ _ => trivial⟩
  obtain ⟨b', o', ha, hc⟩ := h.1 (k + 1) (by simpa using hk)
  simp only [Option.some.injEq, Addr.mk.injEq, and_true] at ha
  obtain ⟨rfl, rfl⟩ := ha
  refine ⟨b, o + 1, rfl, ?_⟩
  rw [show o + 1 + k = o + (k + 1) by omega, hc]
  rfl

theorem goT_cons {t x : T} {i : Int} {p : List Int} {l : List ByteArray} (h : goT t (i :: p) = some (x, l)) : ∃ j n v l', i = (j : Nat) ∧ t.kids.get? j = some (n, v) ∧ goT v p = some (x, l') := by
  simp only [goT] at h
  cases h1 : t.kids.at? i with
  | none => rw [h1] at h; simp at h
  | some y =>
    obtain ⟨n, v⟩ := y
    rw [h1] at h
    simp only at h
    cases h2 : goT v p with
    | none => rw [h2] at h; simp at h
    | some z =>
      obtain ⟨x', l'⟩ := z
      rw [h2] at h
      simp only [Option.some.injEq, Prod.mk.injEq] at h
      unfold F.at? at h1
      split at h1
      · simp at h1
      · exact ⟨i.toNat, n, v, l', by omega, h1, by rw [h2, h.1]⟩

theorem withT_cons (k b h l tx m s y f) (j : Nat) (n : ByteArray) (v : T) (p : List Int) (x : T) (hj : f.get? j = some (n, v)) : withT (.mk k b h l tx m s y f) ((j : Int) :: p) x = .mk k b h l tx m s y (f.set j (withT v p x)) := by
  have h1 : f.at? (j : Int) = some (n, v) := by
    unfold F.at?
    rw [if_neg (by omega)]
    simpa using hj
  simp only [withT, h1]
  simp

end Go.Proofs.Ytiodjhcjfbnocaa
