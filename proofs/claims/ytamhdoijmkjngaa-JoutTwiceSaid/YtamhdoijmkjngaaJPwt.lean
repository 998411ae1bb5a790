/- What is parsed is no heavier than its text: plainly. -/
import Derived.Test.YtamhdoijmkjngaaJM1
import Derived.Test.YtamhdoijmkjngaaJWt
namespace Go.Proofs.Ytamhdoijmkjngaa
set_option linter.unusedVariables false
set_option linter.unusedSimpArgs false

theorem strGo_span : ∀ (f : Nat) (l : List UInt8) (p : Nat) (out : List UInt8) (kd a s : Nat) (t : List UInt8), strGo f l p out = .tok kd a s t → t.length + p ≤ out.length + s
  | 0, l, p, out, kd, a, s, t, h => by simp [strGo] at h
  | f + 1, l, p, out, kd, a, s, t, h => by
    rw [strGo] at h
    cases hs : strStep l with
    | stop => rw [hs] at h; simp only [LexR.tok.injEq] at h; rw [← h.2.2.2, ← h.2.2.1]; omega
    | bad e' => rw [hs] at h; simp at h
    | go n x =>
      rw [hs] at h
      have h1 := strGo_span f _ _ _ kd a s t h
      have h2 := step_out l n x hs
      rw [List.length_append] at h1
      omega

theorem tokS_span (l : List UInt8) (kd a s : Nat) (t : List UInt8) (h : tokS l = .tok kd a s t) : t.length ≤ s := by
  have sgn : ∀ k x y, LexR.tok k x y [] = .tok kd a s t → t.length ≤ s := by
    intro k x y e
    simp only [LexR.tok.injEq] at e
    obtain ⟨rfl, _, _, rfl⟩ := e
    simp
  cases l with
  | nil => exact sgn _ _ _ h
  | cons c r =>
    rw [tokS] at h
    by_cases e : c = 123
    · rw [if_pos e] at h; exact sgn _ _ _ h
    rw [if_neg e] at h
    by_cases e : c = 125
    · rw [if_pos e] at h; exact sgn _ _ _ h
    rw [if_neg e] at h
    by_cases e : c = 91
    · rw [if_pos e] at h; exact sgn _ _ _ h
    rw [if_neg e] at h
    by_cases e : c = 93
    · rw [if_pos e] at h; exact sgn _ _ _ h
    rw [if_neg e] at h
    by_cases e : c = 58
    · rw [if_pos e] at h; exact sgn _ _ _ h
    rw [if_neg e] at h
    by_cases e : c = 44
    · rw [if_pos e] at h; exact sgn _ _ _ h
    rw [if_neg e] at h
    by_cases e : pre [116, 114, 117, 101] (c :: r) = true
    · rw [if_pos e] at h; exact sgn _ _ _ h
    rw [if_neg e] at h
    by_cases e : pre [102, 97, 108, 115, 101] (c :: r) = true
    · rw [if_pos e] at h; exact sgn _ _ _ h
    rw [if_neg e] at h
    by_cases e : pre [110, 117, 108, 108] (c :: r) = true
    · rw [if_pos e] at h; exact sgn _ _ _ h
    rw [if_neg e] at h
    by_cases e : c = 34
    · rw [if_pos e] at h
      have := strGo_span _ _ _ _ _ _ _ _ h
      simp only [List.length_nil, Nat.zero_add] at this
      omega
    rw [if_neg e] at h
    by_cases e : c = 45 ∨ isDig c = true
    · rw [if_pos e] at h
      simp only at h
      by_cases h1 : lexeme (List.take (numLen (c :: r)) (c :: r)) = 0
      · rw [if_pos h1] at h; simp at h
      rw [if_neg h1] at h
      by_cases h2 : 300 < numLen (c :: r)
      · rw [if_pos h2] at h; simp at h
      rw [if_neg h2] at h
      injection h with h3 h4 h5 h6
      subst h6 h5
      rw [List.length_take]; omega
    · rw [if_neg e] at h; simp at h

theorem nextAt_span (l : List UInt8) (p kd a s : Nat) (t : List UInt8) (h : nextAt l p = .tok kd a s t) : t.length + p ≤ s := by
  unfold nextAt nextS at h
  split at h
  · simp at h
  · rw [LexR.shift_shift] at h
    cases ht : tokS (List.drop (blanks (List.drop p l)) (List.drop p l)) with
    | tok kd' a' s' t' =>
      rw [ht] at h
      simp only [LexR.shift, LexR.tok.injEq] at h
      obtain ⟨rfl, _, rfl, rfl⟩ := h
      have := tokS_span _ _ _ _ _ ht
      omega
    | err e b => rw [ht] at h; simp [LexR.shift] at h

theorem wtM_append : ∀ f g : M, wtM (f.append g) = wtM f + wtM g
  | .nil, g => by simp [M.append, wtM]
  | .cons n v r, g => by simp only [M.append, wtM, wtM_append r g]; omega

theorem parsed_wt (l : List UInt8) (dep : Nat) : ∀ (f : Nat),
    (∀ (w kd a s : Nat) (t : List UInt8) (v : J) (p : Nat), s ≤ l.length → valP l dep f w kd a s t = .ok v p → s ≤ p ∧ p ≤ l.length ∧ wtJ v ≤ 2 + t.length + 3 * (p - s)) ∧
    (∀ (w op : Nat) (ks : M) (kd a s : Nat) (t : List UInt8) (q : Nat) (m : M) (p : Nat), s ≤ l.length → (kd ≠ 1 → q < s) → t.length + q ≤ s → kidsP l dep f w op ks kd a s t = .ok m p → q ≤ p ∧ p ≤ l.length ∧ wtM m ≤ wtM ks + 3 * (p - q))
  | 0 => ⟨fun w kd a s t v p _ h => by rw [valP] at h; simp at h, fun w op ks kd a s t q m p _ _ _ h => by rw [kidsP] at h; simp at h⟩
  | f + 1 => by
    obtain ⟨ih1, ih2⟩ := parsed_wt l dep f
    refine ⟨?_, ?_⟩
    · intro w kd a s t v p hs h
      by_cases hk : (kd = 2 ∨ kd = 4) ∧ w < dep
      · rw [valP_brk l dep f w kd a s t hk.1 hk.2] at h
        unfold kidsQ at h
        cases h1 : nextAt l s with
        | err e b => rw [h1] at h; simp at h
        | tok kd1 a1 s1 t1 =>
          rw [h1] at h
          have hb := nextAt_tok l s kd1 a1 s1 t1 hs h1
          have hsp := nextAt_span l s kd1 a1 s1 t1 h1
          by_cases h2 : kd1 = kd + 1
          · simp only [if_pos h2] at h
            injection h with h3 h4
            subst h3 h4
            simp only [wtJ, wtM]
            exact ⟨by omega, by omega, by simp; omega⟩
          · simp only [if_neg h2] at h
            cases h3 : kidsP l dep f (w + 1) kd .nil kd1 a1 s1 t1 with
            | bad e b => rw [h3] at h; simp at h
            | ok ks p' =>
              rw [h3] at h
              injection h with h4 h5
              subst h4 h5
              have := ih2 _ _ _ _ _ _ _ s _ _ hb.2.1 hb.2.2.1 hsp h3
              simp only [wtJ, wtM, List.length_nil] at this ⊢
              exact ⟨by omega, by omega, by omega⟩
      · rw [valP] at h
        have one : ∀ (k : Int) (x : List UInt8), x.length ≤ t.length → PR.ok (J.mk k x .nil) s = .ok v p → s ≤ p ∧ p ≤ l.length ∧ wtJ v ≤ 2 + t.length + 3 * (p - s) := by
          intro k x hx e
          injection e with e1 e2
          subst e1 e2
          simp only [wtJ, wtM]
          exact ⟨by omega, by omega, by omega⟩
        by_cases e : kd = 12
        · rw [if_pos e] at h; exact one _ _ (by simp) h
        rw [if_neg e] at h
        by_cases e : kd = 11
        · rw [if_pos e] at h; exact one _ _ (by simp) h
        rw [if_neg e] at h
        by_cases e : kd = 10
        · rw [if_pos e] at h; exact one _ _ (by simp) h
        rw [if_neg e] at h
        by_cases e : kd = 9
        · rw [if_pos e] at h; exact one _ _ (by simp) h
        rw [if_neg e] at h
        by_cases e : kd = 8
        · rw [if_pos e] at h; exact one _ _ (by simp) h
        rw [if_neg e] at h
        by_cases e : kd = 2 ∨ kd = 4
        · rw [if_pos e, if_pos (by omega)] at h; simp at h
        · rw [if_neg e] at h; simp at h
    · intro w op ks kd a s t q m p hs hq ht h
      -- one round
      have rnd : ∀ (nm : List UInt8) (kd0 a0 s0 : Nat) (t0 : List UInt8), s0 ≤ l.length → q ≤ s0 → nm.length + 2 + t0.length ≤ 3 * (s0 - q) → kidsStep l dep f w op ks nm kd0 a0 s0 t0 = .ok m p → q ≤ p ∧ p ≤ l.length ∧ wtM m ≤ wtM ks + 3 * (p - q) := by
        intro nm kd0 a0 s0 t0 hs0 hqs hnm h
        unfold kidsStep at h
        cases h1 : valP l dep f w kd0 a0 s0 t0 with
        | bad e b => rw [h1] at h; simp at h
        | ok v p1 =>
          rw [h1] at h
          simp only at h
          obtain ⟨b1, b2, b3⟩ := ih1 w kd0 a0 s0 t0 v p1 hs0 h1
          cases h2 : nextAt l p1 with
          | err e b => rw [h2] at h; simp at h
          | tok kd1 a1 s1 t1 =>
            rw [h2] at h
            simp only at h
            have c := nextAt_tok l p1 kd1 a1 s1 t1 b2 h2
            have hw : wtM (ks.snoc nm v) = wtM ks + (nm.length + wtJ v) := by
              unfold M.snoc; rw [wtM_append]; simp [wtM]
            by_cases h3 : kd1 = op + 1
            · rw [if_pos h3] at h
              injection h with h4 h5
              subst h4 h5
              rw [hw]
              exact ⟨by omega, by omega, by omega⟩
            · rw [if_neg h3] at h
              by_cases h4 : kd1 = 7
              · rw [if_pos h4] at h
                cases h5 : nextAt l s1 with
                | err e b => rw [h5] at h; simp at h
                | tok kd2 a2 s2 t2 =>
                  rw [h5] at h
                  have d := nextAt_tok l s1 kd2 a2 s2 t2 c.2.1 h5
                  have dsp := nextAt_span l s1 kd2 a2 s2 t2 h5
                  have := ih2 _ _ _ _ _ _ _ s1 _ _ d.2.1 d.2.2.1 dsp h
                  rw [hw] at this
                  exact ⟨by omega, by omega, by omega⟩
              · rw [if_neg h4] at h; simp at h
      by_cases hop : op = 2
      · subst hop
        rw [kidsP_obj] at h
        cases h1 : nmQ l kd a s with
        | err e b => rw [h1] at h; simp at h
        | tok kd2 a2 s2 t2 =>
          rw [h1] at h
          unfold nmQ at h1
          by_cases h8 : kd = 8
          · rw [if_pos h8] at h1
            cases h3 : nextAt l s with
            | err e b => rw [h3] at h1; simp at h1
            | tok kd1 a1 s1 t1 =>
              rw [h3] at h1
              simp only at h1
              have c := nextAt_tok l s kd1 a1 s1 t1 hs h3
              by_cases h6 : kd1 = 6
              · rw [if_pos h6] at h1
                have d := nextAt_tok l s1 kd2 a2 s2 t2 c.2.1 h1
                have dsp := nextAt_span l s1 kd2 a2 s2 t2 h1
                have := c.2.2.1 (by omega)
                exact rnd t kd2 a2 s2 t2 d.2.1 (by omega) (by omega) h
              · rw [if_neg h6] at h1; simp at h1
          · rw [if_neg h8] at h1; simp at h1
      · rw [kidsP_arr l dep f w op ks kd a s t hop] at h
        by_cases h1 : kd = 1
        · exfalso
          subst h1
          unfold kidsStep at h
          cases h2 : valP l dep f w 1 a s t with
          | bad e b => rw [h2] at h; simp at h
          | ok v p1 =>
            cases f with
            | zero => rw [valP] at h2; simp at h2
            | succ f => rw [valP] at h2; simp at h2
        · have hq1 := hq h1
          exact rnd [] kd a s t hs (by omega) (by simp; omega) h

theorem parse_wt (l : List UInt8) (dep : Int) (j : J) (p : Nat) (h : parseP l dep = .ok j p) : wtJ j ≤ 2 + 4 * l.length := by
  unfold parseP at h
  by_cases h0 : dep < 0 ∨ 1000 < dep
  · rw [if_pos h0] at h; simp at h
  rw [if_neg h0] at h
  cases h1 : nextAt l 0 with
  | err e b => rw [h1] at h; simp at h
  | tok kd a s t =>
    rw [h1] at h
    have c := nextAt_tok l 0 kd a s t (Nat.zero_le _) h1
    have csp := nextAt_span l 0 kd a s t h1
    simp only at h
    cases h2 : valP l dep.toNat (2 * l.length + 10) 0 kd a s t with
    | bad e b => rw [h2] at h; simp at h
    | ok v p1 =>
      rw [h2] at h
      have := (parsed_wt l dep.toNat _).1 _ _ _ _ _ _ _ c.2.1 h2
      simp only at h
      cases h3 : nextAt l p1 with
      | err e b => rw [h3] at h; simp at h
      | tok kd1 a1 s1 t1 =>
        rw [h3] at h
        simp only at h
        by_cases h4 : kd1 = 1
        · rw [if_pos h4] at h
          injection h with h5 h6
          subst h5
          omega
        · rw [if_neg h4] at h; simp at h

end Go.Proofs.Ytamhdoijmkjngaa
