/- base64 read, plainly. -/
import Derived.Test.YtolmeimipchndaaBaseS
namespace Go.Proofs.Ytolmeimipchndaa
set_option linter.unusedVariables false
set_option linter.unusedSimpArgs false

/-- The program's reading, sign by sign: the bits that are left, how many, what has been read. 'last': the text's last byte. -/
def rd64 (last : UInt8) : Nat → Nat → List UInt8 → List UInt8 → Option (List UInt8)
  | _, _, out, [] => some out
  | bits, hv, out, c :: r =>
    if c = 61 then (if bits ≠ 0 ∨ hv = 0 ∨ hv = 6 ∨ r.length + 1 ≠ hv / 2 ∨ last ≠ 61 then none else some out)
    else if unI (c.toNat : Nat) < 0 then none
    else if hv + 6 < 8 then rd64 last (bits * 64 + (unI (c.toNat : Nat)).toNat) (hv + 6) out r
    else rd64 last ((bits * 64 + (unI (c.toNat : Nat)).toNat) % 2 ^ (hv - 2)) (hv - 2) (out ++ [UInt8.ofNat ((bits * 64 + (unI (c.toNat : Nat)).toNat) / 2 ^ (hv - 2))]) r

/-- A sign, or none. -/
theorem un_cases (c : UInt8) : unI (c.toNat : Nat) < 0 ∨ ∃ i, i < 64 ∧ unI (c.toNat : Nat) = (i : Nat) ∧ sg i = c := by
  by_cases h : unI (c.toNat : Nat) < 0
  · exact .inl h
  · have := sg_unI ⟨c.toNat, c.toNat_lt⟩ (by simpa using h)
    simp only at this
    refine .inr ⟨(unI (c.toNat : Nat)).toNat, by omega, by omega, ?_⟩
    exact UInt8.toNat_inj.1 this.2

theorem un_sg {i : Nat} (h : i < 64) : unI ((sg i).toNat : Nat) = (i : Nat) := unI_sg ⟨i, h⟩

theorem eq61 : unI ((61 : UInt8).toNat : Nat) = -1 := by decide

/-- One sign on. -/
theorem rd_sign {last : UInt8} {bits hv : Nat} {out r : List UInt8} {i : Nat} (h : i < 64) :
    rd64 last bits hv out (sg i :: r) = if hv + 6 < 8 then rd64 last (bits * 64 + i) (hv + 6) out r else rd64 last ((bits * 64 + i) % 2 ^ (hv - 2)) (hv - 2) (out ++ [UInt8.ofNat ((bits * 64 + i) / 2 ^ (hv - 2))]) r := by
  rw [rd64, if_neg (sg_ne h), un_sg h, if_neg (by omega)]
  simp

theorem rd_bad {last : UInt8} {bits hv : Nat} {out r : List UInt8} {c : UInt8} (hc : c ≠ 61) (h : unI (c.toNat : Nat) < 0) : rd64 last bits hv out (c :: r) = none := by
  rw [rd64, if_neg hc, if_pos h]

theorem rd_stop {last : UInt8} {bits hv : Nat} {out r : List UInt8} : rd64 last bits hv out (61 :: r) = if bits ≠ 0 ∨ hv = 0 ∨ hv = 6 ∨ r.length + 1 ≠ hv / 2 ∨ last ≠ 61 then none else some out := by
  rw [rd64, if_pos rfl]

theorem ofNat_eq {n : Nat} {x : UInt8} (h : n % 256 = x.toNat) : UInt8.ofNat n = x := by
  apply UInt8.toNat_inj.1; simp [h]

theorem toNat_of (n : Nat) : (UInt8.ofNat n).toNat = n % 256 := by simp

/-- A sign of six bits, '=', or neither. -/
inductive SignIs (c : UInt8) : Prop where
  | sign (i : Nat) (h : i < 64) (e : c = sg i)
  | eq (e : c = 61)
  | none (h1 : c ≠ 61) (h2 : unI (c.toNat : Nat) < 0) (h3 : ∀ i, i < 64 → c ≠ sg i)

theorem signIs (c : UInt8) : SignIs c := by
  by_cases h : c = 61
  · exact .eq h
  · rcases un_cases c with h1 | ⟨i, hi, _, e⟩
    · exact .none h h1 fun i hi e => by rw [e, un_sg hi] at h1; omega
    · exact .sign i hi e.symm

/-- The first four signs of a text that is not empty. -/
theorem b64_head : ∀ (t : List UInt8) (a b c d : UInt8) (r : List UInt8), b64 t = a :: b :: c :: d :: r →
    (∃ x y z t', t = x :: y :: z :: t' ∧ a = sg (x.toNat / 4) ∧ b = sg (x.toNat % 4 * 16 + y.toNat / 16) ∧ c = sg (y.toNat % 16 * 4 + z.toNat / 64) ∧ d = sg (z.toNat % 64) ∧ b64 t' = r) ∨
    (∃ x y, t = [x, y] ∧ a = sg (x.toNat / 4) ∧ b = sg (x.toNat % 4 * 16 + y.toNat / 16) ∧ c = sg (y.toNat % 16 * 4) ∧ d = 61 ∧ r = []) ∨
    (∃ x, t = [x] ∧ a = sg (x.toNat / 4) ∧ b = sg (x.toNat % 4 * 16) ∧ c = 61 ∧ d = 61 ∧ r = [])
  | x :: y :: z :: t', a, b, c, d, r, h => by
    simp only [b64, List.cons.injEq] at h
    obtain ⟨h1, h2, h3, h4, h5⟩ := h
    exact .inl ⟨x, y, z, t', rfl, h1.symm, h2.symm, h3.symm, h4.symm, h5⟩
  | [x, y], a, b, c, d, r, h => by
    simp only [b64, List.cons.injEq] at h
    obtain ⟨h1, h2, h3, h4, h5⟩ := h
    exact .inr (.inl ⟨x, y, rfl, h1.symm, h2.symm, h3.symm, h4.symm, h5.symm⟩)
  | [x], a, b, c, d, r, h => by
    simp only [b64, List.cons.injEq] at h
    obtain ⟨h1, h2, h3, h4, h5⟩ := h
    exact .inr (.inr ⟨x, rfl, h1.symm, h2.symm, h3.symm, h4.symm, h5.symm⟩)
  | [], a, b, c, d, r, h => by simp [b64] at h

/-- What comes of four signs. -/
theorem rd_four {last : UInt8} {out r : List UInt8} {i j k m : Nat} (hi : i < 64) (hj : j < 64) (hk : k < 64) (hm : m < 64) :
    rd64 last 0 0 out (sg i :: sg j :: sg k :: sg m :: r) = rd64 last 0 0 (out ++ [UInt8.ofNat (i * 4 + j / 16), UInt8.ofNat (j % 16 * 16 + k / 4), UInt8.ofNat (k % 4 * 64 + m)]) r := by
  rw [rd_sign hi, if_pos (by omega), rd_sign hj, if_neg (by omega), rd_sign hk, if_neg (by omega), rd_sign hm, if_neg (by omega)]
  simp only [Nat.zero_mul, Nat.zero_add, List.append_assoc, List.cons_append, List.nil_append]
  have e1 : (i * 64 + j) / 2 ^ (6 - 2) = i * 4 + j / 16 := by show _ / 16 = _; omega
  have e2 : (i * 64 + j) % 2 ^ (6 - 2) = j % 16 := by show _ % 16 = _; omega
  rw [e1, e2]
  have e3 : (j % 16 * 64 + k) / 2 ^ (6 - 2 - 2) = j % 16 * 16 + k / 4 := by show _ / 4 = _; omega
  have e4 : (j % 16 * 64 + k) % 2 ^ (6 - 2 - 2) = k % 4 := by show _ % 4 = _; omega
  rw [e3, e4]
  have e5 : (k % 4 * 64 + m) / 2 ^ (6 - 2 - 2 - 2) = k % 4 * 64 + m := by show _ / 1 = _; omega
  have e6 : (k % 4 * 64 + m) % 2 ^ (6 - 2 - 2 - 2) = 0 := by show _ % 1 = _; omega
  rw [e5, e6]

theorem last_cons {α} (x : α) (l : List α) (d : α) (h : l ≠ []) : (x :: l).getLastD d = l.getLastD d := by
  cases l with
  | nil => exact absurd rfl h
  | cons y r => rfl

/-- The reading, four signs at a time: it is right. -/
theorem rd_law : ∀ (n : Nat) (l : List UInt8), l.length = 4 * n → ∀ (out res : List UInt8), rd64 (l.getLastD 0) 0 0 out l = some res ↔ ∃ t, res = out ++ t ∧ b64 t = l
  | 0, l, h, out, res => by
    have : l = [] := List.eq_nil_of_length_eq_zero (by omega)
    subst this
    rw [rd64]
    constructor
    · intro e; exact ⟨[], by simpa using (Option.some.inj e).symm, rfl⟩
    · rintro ⟨t, rfl, ht⟩
      have : t = [] := by
        cases t with
        | nil => rfl
        | cons x t => exfalso; cases t with
          | nil => simp [b64] at ht
          | cons y t => cases t <;> simp [b64] at ht
      subst this; simp
  | n + 1, [], h, out, res => by simp at h
  | n + 1, [_], h, out, res => by simp at h; omega
  | n + 1, [_, _], h, out, res => by simp at h; omega
  | n + 1, [_, _, _], h, out, res => by simp at h; omega
  | n + 1, a :: b :: c :: d :: r, h, out, res => by
    have hr : r.length = 4 * n := by simp at h; omega
    generalize hlast : (a :: b :: c :: d :: r).getLastD 0 = last
    have no : ∀ (P : Prop), (∀ t, b64 t = a :: b :: c :: d :: r → P) → (P → False) → ¬ ∃ t, res = out ++ t ∧ b64 t = a :: b :: c :: d :: r := fun P h1 h2 ⟨t, _, ht⟩ => h2 (h1 t ht)
    rcases signIs a with ⟨i, hi, rfl⟩ | rfl | ⟨a1, a2, a3⟩
    · rcases signIs b with ⟨j, hj, rfl⟩ | rfl | ⟨b1, b2, b3⟩
      · rcases signIs c with ⟨k, hk, rfl⟩ | rfl | ⟨c1, c2, c3⟩
        · rcases signIs d with ⟨m, hm, rfl⟩ | rfl | ⟨d1, d2, d3⟩
          · -- four signs
            rw [rd_four hi hj hk hm]
            have ih := rd_law n r hr (out ++ [UInt8.ofNat (i * 4 + j / 16), UInt8.ofNat (j % 16 * 16 + k / 4), UInt8.ofNat (k % 4 * 64 + m)]) res
            have hl : rd64 last 0 0 (out ++ [UInt8.ofNat (i * 4 + j / 16), UInt8.ofNat (j % 16 * 16 + k / 4), UInt8.ofNat (k % 4 * 64 + m)]) r = rd64 (r.getLastD 0) 0 0 (out ++ [UInt8.ofNat (i * 4 + j / 16), UInt8.ofNat (j % 16 * 16 + k / 4), UInt8.ofNat (k % 4 * 64 + m)]) r := by
              cases r with
              | nil => rfl
              | cons y r => rw [← hlast]; rfl
            rw [hl, ih]
            constructor
            · rintro ⟨t, rfl, ht⟩
              refine ⟨UInt8.ofNat (i * 4 + j / 16) :: UInt8.ofNat (j % 16 * 16 + k / 4) :: UInt8.ofNat (k % 4 * 64 + m) :: t, by simp, ?_⟩
              simp only [b64, ht, toNat_of]
              congr 1
              · congr 1; omega
              · congr 1
                · congr 1; omega
                · congr 1
                  · congr 1; omega
                  · congr 1
                    congr 1; omega
            · rintro ⟨t, rfl, ht⟩
              rcases b64_head t _ _ _ _ _ ht with ⟨x, y, z, t', rfl, e1, e2, e3, e4, e5⟩ | ⟨x, y, rfl, e1, e2, e3, e4, e5⟩ | ⟨x, rfl, e1, e2, e3, e4, e5⟩
              · have bx := x.toNat_lt; have by' := y.toNat_lt; have bz := z.toNat_lt
                have f1 := sg_inj' hi (by omega) e1
                have f2 := sg_inj' hj (by omega) e2
                have f3 := sg_inj' hk (by omega) e3
                have f4 := sg_inj' hm (by omega) e4
                refine ⟨t', ?_, e5⟩
                rw [ofNat_eq (x := x) (by omega), ofNat_eq (x := y) (by omega), ofNat_eq (x := z) (by omega)]
                simp
              · exact absurd e4 (sg_ne hm)
              · exact absurd e4 (sg_ne hm)
          · -- three signs, =
            rw [rd_sign hi, if_pos (by omega), rd_sign hj, if_neg (by omega), rd_sign hk, if_neg (by omega), rd_stop]
            simp only [Nat.zero_mul, Nat.zero_add, List.append_assoc, List.cons_append, List.nil_append]
            have e1 : (i * 64 + j) / 2 ^ (6 - 2) = i * 4 + j / 16 := by show _ / 16 = _; omega
            have e2 : (i * 64 + j) % 2 ^ (6 - 2) = j % 16 := by show _ % 16 = _; omega
            rw [e1, e2]
            have e3 : (j % 16 * 64 + k) / 2 ^ (6 - 2 - 2) = j % 16 * 16 + k / 4 := by show _ / 4 = _; omega
            have e4 : (j % 16 * 64 + k) % 2 ^ (6 - 2 - 2) = k % 4 := by show _ % 4 = _; omega
            rw [e3, e4]
            by_cases hr0 : r = []
            · subst hr0
              have : last = 61 := by rw [← hlast]; rfl
              subst this
              by_cases hk0 : k % 4 = 0
              · rw [if_neg (by simp; omega)]
                constructor
                · intro e
                  refine ⟨[UInt8.ofNat (i * 4 + j / 16), UInt8.ofNat (j % 16 * 16 + k / 4)], (Option.some.inj e).symm, ?_⟩
                  simp only [b64, toNat_of]
                  congr 1
                  · congr 1; omega
                  · congr 1
                    · congr 1; omega
                    · congr 1
                      congr 1; omega
                · rintro ⟨t, rfl, ht⟩
                  rcases b64_head t _ _ _ _ _ ht with ⟨x, y, z, t', rfl, e1, e2, e3, e4, e5⟩ | ⟨x, y, rfl, e1, e2, e3, e4, e5⟩ | ⟨x, rfl, e1, e2, e3, e4, e5⟩
                  · have bz := z.toNat_lt
                    exact absurd e4.symm (sg_ne (by omega))
                  · have bx := x.toNat_lt; have by' := y.toNat_lt
                    have f1 := sg_inj' hi (by omega) e1
                    have f2 := sg_inj' hj (by omega) e2
                    have f3 := sg_inj' hk (by omega) e3
                    rw [ofNat_eq (x := x) (by omega), ofNat_eq (x := y) (by omega)]
                  · exact absurd e3 (sg_ne hk)
              · rw [if_pos (.inl hk0)]
                refine ⟨fun e => by simp at e, fun he => absurd he (no False (fun t ht => ?_) id)⟩
                rcases b64_head t _ _ _ _ _ ht with ⟨x, y, z, t', rfl, e1, e2, e3, e4, e5⟩ | ⟨x, y, rfl, e1, e2, e3, e4, e5⟩ | ⟨x, rfl, e1, e2, e3, e4, e5⟩
                · have bz := z.toNat_lt
                  exact absurd e4.symm (sg_ne (by omega))
                · have by' := y.toNat_lt
                  have f3 := sg_inj' hk (by omega) e3
                  omega
                · exact absurd e3 (sg_ne hk)
            · have hl : r.length + 1 ≠ (6 - 2 - 2) / 2 := by
                intro e
                exact hr0 (List.eq_nil_of_length_eq_zero (by omega))
              rw [if_pos (.inr (.inr (.inr (.inl hl))))]
              refine ⟨fun e => by simp at e, fun he => absurd he (no False (fun t ht => ?_) id)⟩
              rcases b64_head t _ _ _ _ _ ht with ⟨x, y, z, t', rfl, e1, e2, e3, e4, e5⟩ | ⟨x, y, rfl, e1, e2, e3, e4, e5⟩ | ⟨x, rfl, e1, e2, e3, e4, e5⟩
              · have bz := z.toNat_lt
                exact absurd e4.symm (sg_ne (by omega))
              · exact hr0 e5
              · exact hr0 e5
          · rw [rd_sign hi, if_pos (by omega), rd_sign hj, if_neg (by omega), rd_sign hk, if_neg (by omega), rd_bad d1 d2]
            refine ⟨fun e => by simp at e, fun he => absurd he (no False (fun t ht => ?_) id)⟩
            rcases b64_head t _ _ _ _ _ ht with ⟨x, y, z, t', rfl, e1, e2, e3, e4, e5⟩ | ⟨x, y, rfl, e1, e2, e3, e4, e5⟩ | ⟨x, rfl, e1, e2, e3, e4, e5⟩
            · have bz := z.toNat_lt
              exact d3 _ (by omega) e4
            · exact d1 e4
            · exact d1 e4
        · -- two signs, =
          rw [rd_sign hi, if_pos (by omega), rd_sign hj, if_neg (by omega), rd_stop]
          simp only [Nat.zero_mul, Nat.zero_add]
          have e1 : (i * 64 + j) / 2 ^ (6 - 2) = i * 4 + j / 16 := by show _ / 16 = _; omega
          have e2 : (i * 64 + j) % 2 ^ (6 - 2) = j % 16 := by show _ % 16 = _; omega
          rw [e1, e2]
          by_cases hok : r = [] ∧ d = 61 ∧ j % 16 = 0
          · obtain ⟨rfl, rfl, hj0⟩ := hok
            have : last = 61 := by rw [← hlast]; rfl
            subst this
            rw [if_neg (by simp; omega)]
            constructor
            · intro e
              refine ⟨[UInt8.ofNat (i * 4 + j / 16)], (Option.some.inj e).symm, ?_⟩
              simp only [b64, toNat_of]
              congr 1
              · congr 1; omega
              · congr 1
                congr 1; omega
            · rintro ⟨t, rfl, ht⟩
              rcases b64_head t _ _ _ _ _ ht with ⟨x, y, z, t', rfl, e1, e2, e3, e4, e5⟩ | ⟨x, y, rfl, e1, e2, e3, e4, e5⟩ | ⟨x, rfl, e1, e2, e3, e4, e5⟩
              · have by' := y.toNat_lt; have bz := z.toNat_lt
                exact absurd e3.symm (sg_ne (by omega))
              · have by' := y.toNat_lt
                exact absurd e3.symm (sg_ne (by omega))
              · have bx := x.toNat_lt
                have f1 := sg_inj' hi (by omega) e1
                have f2 := sg_inj' hj (by omega) e2
                rw [ofNat_eq (x := x) (by omega)]
          · have hbad : j % 16 ≠ 0 ∨ 6 - 2 = 0 ∨ 6 - 2 = 6 ∨ (d :: r).length + 1 ≠ (6 - 2) / 2 ∨ last ≠ 61 := by
              by_cases hj0 : j % 16 = 0
              · by_cases hr0 : r = []
                · subst hr0
                  refine .inr (.inr (.inr (.inr ?_)))
                  rw [← hlast]
                  intro e
                  exact hok ⟨rfl, e, hj0⟩
                · refine .inr (.inr (.inr (.inl ?_)))
                  intro e
                  simp only [List.length_cons] at e
                  exact hr0 (List.eq_nil_of_length_eq_zero (by omega))
              · exact .inl hj0
            rw [if_pos hbad]
            refine ⟨fun e => by simp at e, fun he => absurd he (no False (fun t ht => ?_) id)⟩
            rcases b64_head t _ _ _ _ _ ht with ⟨x, y, z, t', rfl, e1, e2, e3, e4, e5⟩ | ⟨x, y, rfl, e1, e2, e3, e4, e5⟩ | ⟨x, rfl, e1, e2, e3, e4, e5⟩
            · have by' := y.toNat_lt; have bz := z.toNat_lt
              exact absurd e3.symm (sg_ne (by omega))
            · have by' := y.toNat_lt
              exact absurd e3.symm (sg_ne (by omega))
            · have bx := x.toNat_lt
              have f2 := sg_inj' hj (by omega) e2
              exact hok ⟨e5, e4, by omega⟩
        · rw [rd_sign hi, if_pos (by omega), rd_sign hj, if_neg (by omega), rd_bad c1 c2]
          refine ⟨fun e => by simp at e, fun he => absurd he (no False (fun t ht => ?_) id)⟩
          rcases b64_head t _ _ _ _ _ ht with ⟨x, y, z, t', rfl, e1, e2, e3, e4, e5⟩ | ⟨x, y, rfl, e1, e2, e3, e4, e5⟩ | ⟨x, rfl, e1, e2, e3, e4, e5⟩
          · have by' := y.toNat_lt; have bz := z.toNat_lt
            exact c3 _ (by omega) e3
          · have by' := y.toNat_lt
            exact c3 _ (by omega) e3
          · exact c1 e3
      · rw [rd_sign hi, if_pos (by omega), rd_stop, if_pos (.inr (.inr (.inl rfl)))]
        refine ⟨fun e => by simp at e, fun he => absurd he (no False (fun t ht => ?_) id)⟩
        rcases b64_head t _ _ _ _ _ ht with ⟨x, y, z, t', rfl, e1, e2, e3, e4, e5⟩ | ⟨x, y, rfl, e1, e2, e3, e4, e5⟩ | ⟨x, rfl, e1, e2, e3, e4, e5⟩
        · have bx := x.toNat_lt; have by' := y.toNat_lt
          exact absurd e2.symm (sg_ne (by omega))
        · have bx := x.toNat_lt; have by' := y.toNat_lt
          exact absurd e2.symm (sg_ne (by omega))
        · have bx := x.toNat_lt
          exact absurd e2.symm (sg_ne (by omega))
      · rw [rd_sign hi, if_pos (by omega), rd_bad b1 b2]
        refine ⟨fun e => by simp at e, fun he => absurd he (no False (fun t ht => ?_) id)⟩
        rcases b64_head t _ _ _ _ _ ht with ⟨x, y, z, t', rfl, e1, e2, e3, e4, e5⟩ | ⟨x, y, rfl, e1, e2, e3, e4, e5⟩ | ⟨x, rfl, e1, e2, e3, e4, e5⟩
        · have bx := x.toNat_lt; have by' := y.toNat_lt
          exact b3 _ (by omega) e2
        · have bx := x.toNat_lt; have by' := y.toNat_lt
          exact b3 _ (by omega) e2
        · have bx := x.toNat_lt
          exact b3 _ (by omega) e2
    · rw [rd_stop, if_pos (.inr (.inl rfl))]
      refine ⟨fun e => by simp at e, fun he => absurd he (no False (fun t ht => ?_) id)⟩
      rcases b64_head t _ _ _ _ _ ht with ⟨x, y, z, t', rfl, e1, e2, e3, e4, e5⟩ | ⟨x, y, rfl, e1, e2, e3, e4, e5⟩ | ⟨x, rfl, e1, e2, e3, e4, e5⟩
      · have bx := x.toNat_lt
        exact absurd e1.symm (sg_ne (by omega))
      · have bx := x.toNat_lt
        exact absurd e1.symm (sg_ne (by omega))
      · have bx := x.toNat_lt
        exact absurd e1.symm (sg_ne (by omega))
    · rw [rd_bad a1 a2]
      refine ⟨fun e => by simp at e, fun he => absurd he (no False (fun t ht => ?_) id)⟩
      rcases b64_head t _ _ _ _ _ ht with ⟨x, y, z, t', rfl, e1, e2, e3, e4, e5⟩ | ⟨x, y, rfl, e1, e2, e3, e4, e5⟩ | ⟨x, rfl, e1, e2, e3, e4, e5⟩
      · have bx := x.toNat_lt
        exact a3 _ (by omega) e1
      · have bx := x.toNat_lt
        exact a3 _ (by omega) e1
      · have bx := x.toNat_lt
        exact a3 _ (by omega) e1

end Go.Proofs.Ytolmeimipchndaa
