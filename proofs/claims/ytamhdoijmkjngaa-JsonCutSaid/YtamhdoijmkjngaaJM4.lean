/- propylonbook.Place: a number brought to 0 .. n - 1. JSON, plainly: a text that is one value, not a number, is none with fewer bytes; where an error stands. No program in sight. -/
import Derived.Test.YtamhdoijmkjngaaApp
import Derived.Test.YtamhdoijmkjngaaJsonP
namespace Go.Proofs.Ytamhdoijmkjngaa
open Go.RowKit
set_option linter.unusedVariables false
set_option linter.unusedSimpArgs false

def placeN (k : Int) (n : Nat) : Nat := (k % (n : Int)).toNat
theorem place_lt (k : Int) (n : Nat) (h : 0 < n) : placeN k n < n := by
  unfold placeN
  have h1 := Int.emod_nonneg k (show (n : Int) ≠ 0 by omega)
  have h2 := Int.emod_lt_of_pos k (show (0 : Int) < n by omega)
  omega
theorem place_eq (k : Int) (n : Nat) (h : 0 < n) : ((k.tmod n + n).tmod n) = (placeN k n : Nat) := by
  have h1 : 0 ≤ k.tmod n + n := by
    have := Int.lt_tmod_of_pos k (show (0 : Int) < n by omega)
    omega
  rw [Int.tmod_eq_emod_of_nonneg h1, Int.add_emod_right]
  have : (k.tmod n) % (n : Int) = k % n := by
    rw [Int.tmod_def, Int.sub_mul_emod_self_left]
  rw [this]
  unfold placeN
  have h1 := Int.emod_nonneg k (show (n : Int) ≠ 0 by omega)
  show k % (n : Int) = _
  rw [Int.toNat_of_nonneg h1]

set_option maxRecDepth 100000 in
set_option maxHeartbeats 2000000 in
theorem place_calls (k : Int) (n : Nat) (h0 : 0 < n) (h1 : n ≤ 1000000) (w : World) :
    Calls Try.prog 36 #[.int .i64 k, .int .i64 n] w fun e w' => e = .returned (.int .i64 (placeN k n : Nat)) ∧ w = w' := by
  have e := place_eq k n h0
  have b1 := Int.lt_tmod_of_pos k (show (0 : Int) < n by omega)
  have b2 := Int.tmod_lt_of_pos k (show (0 : Int) < n by omega)
  have hm := place_lt k n h0
  obtain ⟨m, hm1⟩ : ∃ m, m = placeN k n := ⟨_, rfl⟩
  rw [← hm1] at e hm ⊢
  have hn : ((n : Int) == 0) = false := by simp; omega
  have hn0 : n ≠ 0 := by omega
  have hn1 : ¬ ((n : Int) = 0) := by omega
  obtain ⟨q, hq⟩ : ∃ q, q = k.tmod n := ⟨_, rfl⟩
  rw [← hq] at e b1 b2
  have hq' := hq.symm
  have w1 : IntKind.i64.wrap q = q := by simp [IntKind.wrap, IntKind.bits, IntKind.signed]; omega
  have w2 : IntKind.i64.wrap (q + n) = q + n := by simp [IntKind.wrap, IntKind.bits, IntKind.signed]; omega
  have w3 : IntKind.i64.wrap (m : Int) = (m : Int) := by simp [IntKind.wrap, IntKind.bits, IntKind.signed]; omega
  go_enter Try.func36, Try.ntmps36
  go_wp2_with fail
  simp [go_sem, hn0, hn1, hq', w2, e]
  go_wp2_with fail
  simp [go_sem, hn0, hn1, hq', w2, e]
  go_wp2_with fail
  simp [go_sem, hn0, hn1, hq', w2, e]
  go_wp2_with fail
  go_ret
  exact ⟨rfl, rfl⟩

end Go.Proofs.Ytamhdoijmkjngaa

namespace Go.Proofs.Ytamhdoijmkjngaa
set_option linter.unusedVariables false
set_option linter.unusedSimpArgs false

/-! ### What is told is told with more behind it, too -/

theorem hexs_ext (r : List UInt8) : ∀ (k v : Nat) (l : List UInt8) (x : Nat), hexs k v l = .inl x → hexs k v (l ++ r) = .inl x
  | 0, v, l, x, h => by simpa [hexs] using h
  | k + 1, v, [], x, h => by simp [hexs] at h
  | k + 1, v, c :: l, x, h => by
    simp only [hexs, List.cons_append] at h ⊢
    cases hd : hexD c with
    | none => rw [hd] at h; simp at h
    | some d =>
      rw [hd] at h
      exact hexs_ext r k _ l x h

theorem low_ext (r l : List UInt8) (w : Nat) (h : lowHalf l = some w) : lowHalf (l ++ r) = some w := by
  match l, h with
  | [], h => simp [lowHalf] at h
  | [a], h => simp [lowHalf] at h
  | a :: b :: q, h =>
    unfold lowHalf at h
    split at h
    · rename_i r' he
      simp only [List.cons.injEq] at he
      obtain ⟨rfl, rfl, rfl⟩ := he
      simp only [List.cons_append, lowHalf]
      cases hv : hexs 4 0 q with
      | inl v => rw [hv] at h; rw [hexs_ext r 4 0 q v hv]; exact h
      | inr e => rw [hv] at h; simp at h
    · simp at h

theorem drop_append_le (a b : List UInt8) (n : Nat) (h : n ≤ a.length) : (a ++ b).drop n = a.drop n ++ b := by
  rw [List.drop_append, Nat.sub_eq_zero_of_le h, List.drop_zero]

theorem uni_ext (r l : List UInt8) (n v : Nat) (h : uni l = .inl (n, v)) : uni (l ++ r) = .inl (n, v) := by
  unfold uni at h ⊢
  cases hv : hexs 4 0 (l.drop 2) with
  | inr e => rw [hv] at h; simp at h
  | inl x =>
    have hl := hexs_len 4 0 _ x hv
    rw [List.length_drop] at hl
    rw [drop_append_le l r 2 (by omega), hexs_ext r 4 0 _ x hv]
    rw [drop_append_le l r 6 (by omega)]
    rw [hv] at h
    simp only at h ⊢
    by_cases hs : 55296 ≤ x ∧ x ≤ 57343
    · rw [if_pos hs] at h ⊢
      by_cases h2 : x ≤ 56319
      · rw [if_pos h2] at h ⊢
        cases hw : lowHalf (l.drop 6) with
        | none => rw [hw] at h; simp at h
        | some w => rw [hw] at h; rw [low_ext r _ w hw]; exact h
      · rw [if_neg h2] at h; simp at h
    · rw [if_neg hs] at h ⊢; exact h

theorem step_ext (r l : List UInt8) (n : Nat) (x : List UInt8) (h : strStep l = .go n x) : strStep (l ++ r) = .go n x := by
  have hg := step_go l n x h
  match l, h with
  | [], h => simp [strStep] at h
  | c :: q, h =>
    simp only [strStep, List.cons_append] at h ⊢
    by_cases h1 : c = 34
    · rw [if_pos h1] at h; simp at h
    rw [if_neg h1] at h ⊢
    by_cases h2 : c < 32
    · rw [if_pos h2] at h; simp at h
    rw [if_neg h2] at h ⊢
    by_cases h3 : c = 92
    · rw [if_pos h3] at h ⊢
      match q, h with
      | [], h => simp at h
      | d :: q', h =>
        simp only [List.cons_append] at h ⊢
        by_cases h4 : d = 117
        · rw [if_pos h4] at h ⊢
          cases hu : uni (c :: d :: q') with
          | inr e => rw [hu] at h; simp at h
          | inl y =>
            obtain ⟨n', v⟩ := y
            have := uni_ext r _ n' v hu
            simp only [List.cons_append] at this
            rw [this]
            rw [hu] at h
            exact h
        · rw [if_neg h4] at h ⊢; exact h
    · rw [if_neg h3] at h ⊢
      by_cases h5 : (runeAt ((c :: q).take 4) 0).2 = 0
      · rw [if_pos h5] at h; simp at h
      rw [if_neg h5] at h
      have he : (c :: (q ++ r)).take 4 = (c :: q).take 4 ++ r.take (4 - (c :: q).length) := by
        rw [show c :: (q ++ r) = (c :: q) ++ r from rfl, List.take_append]
      rw [he, runeAt_left _ _ 0 h5, if_neg h5]
      have hb : (runeAt ((c :: q).take 4) 0).2 ≤ (c :: q).length := by
        have := (runeAt_bd ((c :: q).take 4) 0).2.2 (by omega)
        rw [List.length_take] at this
        omega
      rw [show c :: (q ++ r) = (c :: q) ++ r from rfl, List.take_append, Nat.sub_eq_zero_of_le hb, List.take_zero, List.append_nil]
      exact h

theorem stop_ext (r l : List UInt8) (h : strStep l = .stop) : strStep (l ++ r) = .stop := by
  match l, h with
  | [], h => simp [strStep] at h
  | c :: q, h =>
    simp only [strStep, List.cons_append] at h ⊢
    by_cases h1 : c = 34
    · rw [if_pos h1]
    exfalso
    rw [if_neg h1] at h
    by_cases h2 : c < 32
    · rw [if_pos h2] at h; simp at h
    rw [if_neg h2] at h
    by_cases h3 : c = 92
    · rw [if_pos h3] at h
      match q, h with
      | [], h => simp at h
      | d :: q', h =>
        simp only at h
        split at h
        · split at h <;> simp at h
        · split at h <;> simp at h
    · rw [if_neg h3] at h
      split at h <;> simp at h

theorem strGo_ext (r : List UInt8) : ∀ (f g : Nat) (l : List UInt8) (p : Nat) (out : List UInt8) (kd a s : Nat) (t : List UInt8), f ≤ g → strGo f l p out = .tok kd a s t → strGo g (l ++ r) p out = .tok kd a s t
  | 0, g, l, p, out, kd, a, s, t, hf, h => by simp [strGo] at h
  | f + 1, 0, l, p, out, kd, a, s, t, hf, h => by omega
  | f + 1, g + 1, l, p, out, kd, a, s, t, hf, h => by
    unfold strGo at h ⊢
    cases hs : strStep l with
    | stop => rw [hs] at h; rw [stop_ext r l hs]; exact h
    | bad e => rw [hs] at h; simp at h
    | go n x =>
      rw [hs] at h
      rw [step_ext r l n x hs]
      simp only at h ⊢
      rw [drop_append_le l r n (step_go l n x hs).2]
      exact strGo_ext r f g _ _ _ kd a s t (by omega) h

theorem pre_ext (w l r : List UInt8) (h : pre w l = true) : pre w (l ++ r) = true := by
  have := pre_len h
  unfold pre at h ⊢
  rw [List.take_append, Nat.sub_eq_zero_of_le this, List.take_zero, List.append_nil]
  exact h

theorem pre_hd (w l : List UInt8) (c d : UInt8) (q : List UInt8) (hw : w = d :: q) (h : c ≠ d) : pre w (c :: l) = false := by
  subst hw
  unfold pre
  simp [h]

theorem numLen_ext (r : List UInt8) : ∀ l : List UInt8, numLen l < l.length → numLen (l ++ r) = numLen l
  | [], h => by simp at h
  | c :: l, h => by
    simp only [numLen, List.cons_append, List.length_cons] at h ⊢
    by_cases hc : numCh c = true
    · rw [if_pos hc] at h ⊢
      rw [if_pos hc, numLen_ext r l (by omega)]
    · rw [if_neg hc, if_neg hc]

/-- Is a token's end told by the token itself? -/
def Ends (n : Nat) : LexR → Prop
  | .tok kd _ s _ => kd ≠ 1 ∧ (kd = 9 → s < n)
  | .err _ _ => False

theorem tokS_ext (r : List UInt8) : ∀ l : List UInt8, Ends l.length (tokS l) → tokS (l ++ r) = tokS l
  | [], h => by simp [tokS, Ends] at h
  | c :: q, h => by
    rw [List.cons_append, tokS, tokS]
    rw [tokS] at h
    by_cases h1 : c = 123
    · rw [if_pos h1, if_pos h1]
    rw [if_neg h1] at h ⊢
    rw [if_neg h1]
    by_cases h1 : c = 125
    · rw [if_pos h1, if_pos h1]
    rw [if_neg h1] at h ⊢
    rw [if_neg h1]
    by_cases h1 : c = 91
    · rw [if_pos h1, if_pos h1]
    rw [if_neg h1] at h ⊢
    rw [if_neg h1]
    by_cases h1 : c = 93
    · rw [if_pos h1, if_pos h1]
    rw [if_neg h1] at h ⊢
    rw [if_neg h1]
    by_cases h1 : c = 58
    · rw [if_pos h1, if_pos h1]
    rw [if_neg h1] at h ⊢
    rw [if_neg h1]
    by_cases h1 : c = 44
    · rw [if_pos h1, if_pos h1]
    rw [if_neg h1] at h ⊢
    rw [if_neg h1]
    by_cases ht : pre [116, 114, 117, 101] (c :: q) = true
    · have := pre_ext _ _ r ht
      rw [List.cons_append] at this
      rw [if_pos this, if_pos ht]
    have step : ∀ w : List UInt8, ∀ d : UInt8, ∀ w', w = d :: w' → pre w (c :: q) = false → (c ≠ d ∨ pre w (c :: (q ++ r)) = true ∨ pre w (c :: (q ++ r)) = false) := fun w d w' _ _ => by
      cases pre w (c :: (q ++ r)) <;> simp
    by_cases hc : c = 34 ∨ c = 45 ∨ isDig c = true
    · have n1 : ∀ (d : UInt8) (w : List UInt8) (l : List UInt8), (d = 116 ∨ d = 102 ∨ d = 110) → pre (d :: w) (c :: l) = false := fun d w l hd => by
        refine pre_hd _ _ _ d w rfl ?_
        rintro rfl
        rcases hd with rfl | rfl | rfl <;> (rcases hc with h | h | h <;> (revert h; decide))
      rw [n1 116 _ _ (by simp), n1 102 _ _ (by simp), n1 110 _ _ (by simp)] at h ⊢
      rw [n1 116 _ _ (by simp), n1 102 _ _ (by simp), n1 110 _ _ (by simp)]
      simp only [Bool.false_eq_true, if_false] at h ⊢
      by_cases h1 : c = 34
      · rw [if_pos h1] at h ⊢
        rw [if_pos h1]
        cases hh : strGo ((c :: q).length + 1) q 1 [] with
        | tok kd a s t =>
          exact strGo_ext r _ _ q 1 [] kd a s t (by simp) hh
        | err e a => rw [hh] at h; exact h.elim
      rw [if_neg h1] at h ⊢
      rw [if_neg h1]
      have h2 : c = 45 ∨ isDig c = true := by rcases hc with h | h; exact absurd h h1; exact h
      rw [if_pos h2] at h ⊢
      rw [if_pos h2]
      by_cases h3 : lexeme (List.take (numLen (c :: q)) (c :: q)) = 0
      · rw [if_pos h3] at h; exact h.elim
      rw [if_neg h3] at h
      by_cases h4 : 300 < numLen (c :: q)
      · rw [if_pos h4] at h; exact h.elim
      rw [if_neg h4] at h
      have h5 := h.2 rfl
      have h6 := numLen_ext r (c :: q) h5
      rw [List.cons_append] at h6
      rw [h6]
      have h7 : (c :: (q ++ r)).take (numLen (c :: q)) = (c :: q).take (numLen (c :: q)) := by
        rw [show c :: (q ++ r) = (c :: q) ++ r from rfl, List.take_append, Nat.sub_eq_zero_of_le (by omega), List.take_zero, List.append_nil]
      rw [h7]
    · have hno : ¬ (c = 34) ∧ ¬ (c = 45 ∨ isDig c = true) := by
        constructor
        · exact fun h => hc (.inl h)
        · exact fun h => hc (.inr h)
      rw [if_neg ht] at h
      by_cases hf : pre [102, 97, 108, 115, 101] (c :: q) = true
      · have hx := pre_ext _ _ r hf
        rw [List.cons_append] at hx
        have hc2 : c = 102 := by
          by_cases e : c = 102
          · exact e
          · rw [pre_hd _ _ _ 102 _ rfl e] at hf; cases hf
        have : ∀ l, pre [116, 114, 117, 101] (c :: l) = false := fun l => pre_hd _ _ _ 116 _ rfl (by rw [hc2]; decide)
        rw [this, this, hx, hf]
        rfl
      rw [if_neg hf] at h
      by_cases hu : pre [110, 117, 108, 108] (c :: q) = true
      · have hx := pre_ext _ _ r hu
        rw [List.cons_append] at hx
        have hc2 : c = 110 := by
          by_cases e : c = 110
          · exact e
          · rw [pre_hd _ _ _ 110 _ rfl e] at hu; cases hu
        have : ∀ l, pre [116, 114, 117, 101] (c :: l) = false := fun l => pre_hd _ _ _ 116 _ rfl (by rw [hc2]; decide)
        have t2 : ∀ l, pre [102, 97, 108, 115, 101] (c :: l) = false := fun l => pre_hd _ _ _ 102 _ rfl (by rw [hc2]; decide)
        rw [this, this, t2, t2, hx, hu]
        rfl
      rw [if_neg hu, if_neg hno.1, if_neg hno.2] at h
      exact h.elim

theorem blanks_ext (r : List UInt8) : ∀ l : List UInt8, blanks l < l.length → blanks (l ++ r) = blanks l
  | [], h => by simp at h
  | c :: l, h => by
    simp only [blanks, List.cons_append, List.length_cons] at h ⊢
    by_cases hc : blank c = true
    · rw [if_pos hc] at h ⊢
      rw [if_pos hc, blanks_ext r l (by omega)]
    · rw [if_neg hc, if_neg hc]

theorem nextAt_ext (r l : List UInt8) (p kd a s : Nat) (t : List UInt8) (h : nextAt l p = .tok kd a s t) (h1 : kd ≠ 1) (h9 : kd = 9 → s < l.length) : nextAt (l ++ r) p = .tok kd a s t := by
  unfold nextAt at h ⊢
  by_cases hp : l.length < p
  · rw [if_pos hp] at h; simp at h
  rw [if_neg hp] at h
  rw [if_neg (by simp; omega)]
  rw [drop_append_le l r p (by omega)]
  unfold nextS at h ⊢
  have hb := blanks_le (l.drop p)
  cases hr : tokS ((l.drop p).drop (blanks (l.drop p))) with
  | err e b => rw [hr] at h; simp [LexR.shift] at h
  | tok kd' a' s' t' =>
    have ht := tokS_bd ((l.drop p).drop (blanks (l.drop p)))
    rw [hr] at h ht
    simp only [LexR.shift, LexR.tok.injEq] at h
    obtain ⟨rfl, rfl, rfl, rfl⟩ := h
    simp only [TokOk, List.length_drop] at ht
    rw [List.length_drop] at hb
    have hlt : blanks (l.drop p) < (l.drop p).length := by
      rw [List.length_drop]
      have := ht.2.2.2.1 h1
      omega
    rw [blanks_ext r _ hlt, drop_append_le _ r _ (by omega)]
    have he : Ends ((l.drop p).drop (blanks (l.drop p))).length (tokS ((l.drop p).drop (blanks (l.drop p)))) := by
      rw [hr]
      refine ⟨h1, fun h => ?_⟩
      have := h9 h
      rw [List.length_drop, List.length_drop]
      omega
    rw [tokS_ext r _ he, hr]
    rfl

/-! ### The parser, with more behind -/

theorem next_lt (l : List UInt8) (p kd a s : Nat) (t : List UInt8) (h : nextAt l p = .tok kd a s t) : p ≤ l.length ∧ (kd ≠ 1 → p < l.length) := by
  have hp : p ≤ l.length := by
    apply Nat.le_of_not_lt
    intro hp
    unfold nextAt at h
    rw [if_pos hp] at h
    simp at h
  refine ⟨hp, fun h1 => ?_⟩
  have := nextAt_bd l p hp
  rw [h] at this
  have h2 := this.2.2.2.1 h1
  have h3 := this.1
  have h4 := this.2.1
  omega

theorem val_ext (r l : List UInt8) (dep : Nat) : ∀ (f : Nat),
    (∀ (g w kd a s : Nat) (t : List UInt8) (j : J) (p : Nat), f ≤ g → valP l dep f w kd a s t = .ok j p → valP (l ++ r) dep g w kd a s t = .ok j p ∧ kd ≠ 1 ∧ (kd = 9 → p = s)) ∧
    (∀ (g w op : Nat) (ks : M) (kd a s : Nat) (t : List UInt8) (m : M) (p : Nat), f ≤ g → (op = 2 ∨ op = 4) → kidsP l dep f w op ks kd a s t = .ok m p → kidsP (l ++ r) dep g w op ks kd a s t = .ok m p ∧ kd ≠ 1 ∧ (kd = 9 → s < l.length))
  | 0 => ⟨fun g w kd a s t j p hf h => by simp [valP] at h, fun g w op ks kd a s t m p hf ho h => by simp [kidsP] at h⟩
  | f + 1 => by
    have ih := val_ext r l dep f
    refine ⟨fun g w kd a s t j p hf h => ?_, fun g w op ks kd a s t m p hf ho h => ?_⟩
    · obtain ⟨g, rfl⟩ : ∃ g', g = g' + 1 := ⟨g - 1, by omega⟩
      unfold valP at h ⊢
      by_cases h1 : kd = 12
      · rw [if_pos h1] at h ⊢; exact ⟨h, by omega, by omega⟩
      rw [if_neg h1] at h ⊢
      by_cases h1 : kd = 11
      · rw [if_pos h1] at h ⊢; exact ⟨h, by omega, by omega⟩
      rw [if_neg h1] at h ⊢
      by_cases h1 : kd = 10
      · rw [if_pos h1] at h ⊢; exact ⟨h, by omega, by omega⟩
      rw [if_neg h1] at h ⊢
      by_cases h1 : kd = 9
      · rw [if_pos h1] at h ⊢
        simp only [PR.ok.injEq] at h
        exact ⟨by rw [h.1, h.2], by omega, fun _ => h.2.symm⟩
      rw [if_neg h1] at h ⊢
      by_cases h1 : kd = 8
      · rw [if_pos h1] at h ⊢; exact ⟨h, by omega, by omega⟩
      rw [if_neg h1] at h ⊢
      by_cases h1 : kd = 2 ∨ kd = 4
      · refine ⟨?_, by omega, by omega⟩
        rw [if_pos h1] at h ⊢
        by_cases h2 : dep ≤ w
        · rw [if_pos h2] at h; simp at h
        rw [if_neg h2] at h ⊢
        cases hn : nextAt l s with
        | err e b => rw [hn] at h; simp at h
        | tok kd1 a1 s1 t1 =>
          rw [hn] at h
          simp only at h
          by_cases h3 : kd1 = kd + 1
          · rw [if_pos h3] at h
            rw [nextAt_ext r l s kd1 a1 s1 t1 hn (by omega) (by omega)]
            simp only
            rw [if_pos h3]
            exact h
          · rw [if_neg h3] at h
            cases hk : kidsP l dep f (w + 1) kd .nil kd1 a1 s1 t1 with
            | bad e b => rw [hk] at h; simp at h
            | ok ks q =>
              obtain ⟨i1, i2, i3⟩ := ih.2 g (w + 1) kd .nil kd1 a1 s1 t1 ks q (by omega) h1 hk
              rw [nextAt_ext r l s kd1 a1 s1 t1 hn i2 i3]
              simp only
              rw [if_neg h3, i1]
              rw [hk] at h
              exact h
      · rw [if_neg h1] at h; simp at h
    · obtain ⟨g, rfl⟩ : ∃ g', g = g' + 1 := ⟨g - 1, by omega⟩
      have rest : ∀ (nm : List UInt8) (kd0 a0 s0 : Nat) (t0 : List UInt8),
          (match valP l dep f w kd0 a0 s0 t0 with
            | .bad e b => PR.bad e b
            | .ok v p => match nextAt l p with
              | .err e b => PR.bad e b
              | .tok kd1 a1 s1 _ =>
                if kd1 = op + 1 then PR.ok (ks.snoc nm v) s1
                else if kd1 = 7 then match nextAt l s1 with
                  | .err e b => PR.bad e b
                  | .tok kd2 a2 s2 t2 => kidsP l dep f w op (ks.snoc nm v) kd2 a2 s2 t2
                else PR.bad (wrongT kd1 a1).1 (wrongT kd1 a1).2) = .ok m p →
          (match valP (l ++ r) dep g w kd0 a0 s0 t0 with
            | .bad e b => PR.bad e b
            | .ok v p => match nextAt (l ++ r) p with
              | .err e b => PR.bad e b
              | .tok kd1 a1 s1 _ =>
                if kd1 = op + 1 then PR.ok (ks.snoc nm v) s1
                else if kd1 = 7 then match nextAt (l ++ r) s1 with
                  | .err e b => PR.bad e b
                  | .tok kd2 a2 s2 t2 => kidsP (l ++ r) dep g w op (ks.snoc nm v) kd2 a2 s2 t2
                else PR.bad (wrongT kd1 a1).1 (wrongT kd1 a1).2) = .ok m p ∧ kd0 ≠ 1 ∧ (kd0 = 9 → s0 < l.length) := fun nm kd0 a0 s0 t0 h => by
        cases hv : valP l dep f w kd0 a0 s0 t0 with
        | bad e b => rw [hv] at h; simp at h
        | ok v q =>
          rw [hv] at h
          obtain ⟨i1, i2, i3⟩ := ih.1 g w kd0 a0 s0 t0 v q (by omega) hv
          rw [i1]
          simp only at h ⊢
          cases hn : nextAt l q with
          | err e b => rw [hn] at h; simp at h
          | tok kd1 a1 s1 t1 =>
            rw [hn] at h
            simp only at h
            have hq := next_lt l q kd1 a1 s1 t1 hn
            by_cases h3 : kd1 = op + 1
            · rw [if_pos h3] at h
              rw [nextAt_ext r l q kd1 a1 s1 t1 hn (by omega) (by omega)]
              simp only
              rw [if_pos h3]
              exact ⟨h, i2, fun h9 => by have := i3 h9; have := hq.2 (by omega); omega⟩
            rw [if_neg h3] at h
            by_cases h4 : kd1 = 7
            · rw [if_pos h4] at h
              rw [nextAt_ext r l q kd1 a1 s1 t1 hn (by omega) (by omega)]
              simp only
              rw [if_neg h3, if_pos h4]
              refine ⟨?_, i2, fun h9 => by have := i3 h9; have := hq.2 (by omega); omega⟩
              cases hn2 : nextAt l s1 with
              | err e b => rw [hn2] at h; simp at h
              | tok kd2 a2 s2 t2 =>
                rw [hn2] at h
                simp only at h
                obtain ⟨k1, k2, k3⟩ := ih.2 g w op (ks.snoc nm v) kd2 a2 s2 t2 m p (by omega) ho h
                rw [nextAt_ext r l s1 kd2 a2 s2 t2 hn2 k2 k3]
                exact k1
            · rw [if_neg h4] at h; simp at h
      unfold kidsP at h ⊢
      by_cases h2 : op = 2
      · rw [if_pos h2] at h ⊢
        by_cases h8 : kd = 8
        · refine ⟨?_, by omega, by omega⟩
          rw [if_pos h8] at h ⊢
          cases hn : nextAt l s with
          | err e b => rw [hn] at h; simp at h
          | tok kd1 a1 s1 t1 =>
            rw [hn] at h
            simp only at h
            by_cases h6 : kd1 = 6
            · rw [if_pos h6] at h
              rw [nextAt_ext r l s kd1 a1 s1 t1 hn (by omega) (by omega)]
              simp only
              rw [if_pos h6]
              cases hn2 : nextAt l s1 with
              | err e b => rw [hn2] at h; simp at h
              | tok kd2 a2 s2 t2 =>
                rw [hn2] at h
                obtain ⟨k1, k2, k3⟩ := rest t kd2 a2 s2 t2 h
                rw [nextAt_ext r l s1 kd2 a2 s2 t2 hn2 k2 k3]
                exact k1
            · rw [if_neg h6] at h; simp at h
        · rw [if_neg h8] at h; simp at h
      · rw [if_neg h2] at h ⊢
        exact rest [] kd a s t h

theorem tokS_num (c : UInt8) (q : List UInt8) (a s : Nat) (t : List UInt8) (h : tokS (c :: q) = .tok 9 a s t) : c = 45 ∨ isDig c = true := by
  by_cases hc : c = 45 ∨ isDig c = true
  · exact hc
  exfalso
  rw [tokS] at h
  by_cases h1 : c = 123
  · rw [if_pos h1] at h; simp at h
  rw [if_neg h1] at h
  by_cases h1 : c = 125
  · rw [if_pos h1] at h; simp at h
  rw [if_neg h1] at h
  by_cases h1 : c = 91
  · rw [if_pos h1] at h; simp at h
  rw [if_neg h1] at h
  by_cases h1 : c = 93
  · rw [if_pos h1] at h; simp at h
  rw [if_neg h1] at h
  by_cases h1 : c = 58
  · rw [if_pos h1] at h; simp at h
  rw [if_neg h1] at h
  by_cases h1 : c = 44
  · rw [if_pos h1] at h; simp at h
  rw [if_neg h1] at h
  by_cases h1 : pre [116, 114, 117, 101] (c :: q) = true
  · rw [if_pos h1] at h; simp at h
  rw [if_neg h1] at h
  by_cases h1 : pre [102, 97, 108, 115, 101] (c :: q) = true
  · rw [if_pos h1] at h; simp at h
  rw [if_neg h1] at h
  by_cases h1 : pre [110, 117, 108, 108] (c :: q) = true
  · rw [if_pos h1] at h; simp at h
  rw [if_neg h1] at h
  by_cases h1 : c = 34
  · rw [if_pos h1] at h
    have := strGo_bd ((c :: q).length + 1) q 1 []
    rw [h] at this
    have := this.1
    omega
  rw [if_neg h1, if_neg hc] at h
  simp at h

theorem tokS_num2 (c : UInt8) (q : List UInt8) (kd a s : Nat) (t : List UInt8) (hc : c = 45 ∨ isDig c = true) (h : tokS (c :: q) = .tok kd a s t) : kd = 9 := by
  have hn : ∀ d : UInt8, (d = 45 ∨ isDig d = true) = false → c ≠ d := by
    rintro d hd rfl
    rw [hd] at hc
    cases hc
  have hp : ∀ (d : UInt8) (w : List UInt8), (d = 45 ∨ isDig d = true) = false → pre (d :: w) (c :: q) = false := fun d w hd => pre_hd _ _ _ d w rfl (hn d hd)
  rw [tokS, if_neg (hn 123 (by decide)), if_neg (hn 125 (by decide)), if_neg (hn 91 (by decide)), if_neg (hn 93 (by decide)), if_neg (hn 58 (by decide)), if_neg (hn 44 (by decide)),
    hp 116 _ (by decide), hp 102 _ (by decide), hp 110 _ (by decide), if_neg (by simp), if_neg (by simp), if_neg (by simp), if_neg (hn 34 (by decide)), if_pos hc] at h
  simp only at h
  split at h
  · simp at h
  split at h
  · simp at h
  · simp only [LexR.tok.injEq] at h; exact h.1.symm

theorem blank_all : ∀ l : List UInt8, blanks l = l.length → ∀ c ∈ l, blank c = true
  | [], _, c, hc => by simp at hc
  | d :: l, h, c, hc => by
    simp only [blanks, List.length_cons] at h
    by_cases hd : blank d = true
    · rw [if_pos hd] at h
      simp only [List.mem_cons] at hc
      rcases hc with rfl | hc
      · exact hd
      · exact blank_all l (by omega) c hc
    · rw [if_neg hd] at h; omega

/-- Where the end is told, only blanks stand. -/
theorem end_blank (l : List UInt8) (p a s : Nat) (t : List UInt8) (h : nextAt l p = .tok 1 a s t) : ∀ c ∈ l.drop p, blank c = true := by
  have hp := (next_lt l p 1 a s t h).1
  unfold nextAt at h
  rw [if_neg (by omega)] at h
  unfold nextS at h
  rw [LexR.shift_shift] at h
  cases hr : tokS ((l.drop p).drop (blanks (l.drop p))) with
  | err e b => rw [hr] at h; simp [LexR.shift] at h
  | tok kd a' s' t' =>
    have ht := tokS_bd ((l.drop p).drop (blanks (l.drop p)))
    rw [hr] at h ht
    simp only [LexR.shift, LexR.tok.injEq] at h
    have h0 := ht.2.2.1 h.1
    rw [List.length_drop] at h0
    have hb := blanks_le (l.drop p)
    exact blank_all _ (by omega)

/-- A text that is one value, not a number, and ends with no blank, is none with fewer bytes. -/
theorem parse_cut (l r : List UInt8) (c : UInt8) (dep : Int) (j : J) (h : parseP (l ++ (r ++ [c])) dep = .ok j 0) (hc : blank c = false) (hk : j.kind ≠ 4) : ∃ e a, parseP l dep = .bad e a := by
  cases hp : parseP l dep with
  | bad e a => exact ⟨e, a, rfl⟩
  | ok j' p' =>
    exfalso
    unfold parseP at h hp
    by_cases hd : dep < 0 ∨ 1000 < dep
    · rw [if_pos hd] at h; simp at h
    rw [if_neg hd] at h hp
    cases hn : nextAt l 0 with
    | err e b => rw [hn] at hp; simp at hp
    | tok kd a s t =>
      rw [hn] at hp
      simp only at hp
      cases hv : valP l dep.toNat (2 * l.length + 10) 0 kd a s t with
      | bad e b => rw [hv] at hp; simp at hp
      | ok j1 p1 =>
        obtain ⟨i1, i2, i3⟩ := (val_ext (r ++ [c]) l dep.toNat (2 * l.length + 10)).1 (2 * (l ++ (r ++ [c])).length + 10) 0 kd a s t j1 p1 (by simp; omega) hv
        rw [hv] at hp
        simp only at hp
        have hp1 : p1 ≤ l.length := by
          cases hn2 : nextAt l p1 with
          | err e b => rw [hn2] at hp; simp at hp
          | tok kd1 a1 s1 t1 => exact (next_lt l p1 kd1 a1 s1 t1 hn2).1
        by_cases h9 : kd = 9
        · subst h9
          have hq : ∀ kd2 a2 s2 t2, nextAt (l ++ (r ++ [c])) 0 = .tok kd2 a2 s2 t2 → kd2 = 9 := by
            intro kd2 a2 s2 t2 h2
            unfold nextAt at hn h2
            rw [if_neg (by omega)] at hn h2
            rw [List.drop_zero] at hn h2
            unfold nextS at hn h2
            have hb := blanks_le l
            cases hr : tokS (l.drop (blanks l)) with
            | err e b => rw [hr] at hn; simp [LexR.shift] at hn
            | tok kd' a' s' t' =>
              have ht := tokS_bd (l.drop (blanks l))
              rw [hr] at hn ht
              simp only [LexR.shift, LexR.tok.injEq] at hn
              have hk9 : kd' = 9 := hn.1
              subst hk9
              have hlt := ht.2.2.2.1 (by omega)
              have hlt2 := ht.2.1
              rw [List.length_drop] at hlt2
              rw [blanks_ext _ l (by omega), drop_append_le l _ _ hb] at h2
              obtain ⟨c0, q0, hx⟩ : ∃ c0 q0, l.drop (blanks l) = c0 :: q0 := by
                cases hl : l.drop (blanks l) with
                | nil => have := congrArg List.length hl; rw [List.length_drop] at this; simp at this; omega
                | cons c0 q0 => exact ⟨c0, q0, rfl⟩
              rw [hx] at hr h2
              have hc0 := tokS_num c0 q0 a' s' t' hr
              rw [List.cons_append] at h2
              cases hr2 : tokS (c0 :: (q0 ++ (r ++ [c]))) with
              | err e b => rw [hr2] at h2; simp [LexR.shift] at h2
              | tok kd3 a3 s3 t3 =>
                have := tokS_num2 c0 _ kd3 a3 s3 t3 hc0 hr2
                rw [hr2] at h2
                simp only [LexR.shift, LexR.tok.injEq] at h2
                omega
          cases hn2 : nextAt (l ++ (r ++ [c])) 0 with
          | err e b => rw [hn2] at h; simp at h
          | tok kd2 a2 s2 t2 =>
            obtain rfl := hq _ _ _ _ hn2
            rw [hn2] at h
            have hval : valP (l ++ (r ++ [c])) dep.toNat (2 * (l ++ (r ++ [c])).length + 10) 0 9 a2 s2 t2 = .ok (.mk 4 t2 .nil) s2 := by
              simp [valP]
            simp only [hval] at h
            split at h
            · simp at h
            · split at h
              · simp only [PR.ok.injEq] at h
                rw [← h.1] at hk
                exact hk rfl
              · simp at h
        · rw [nextAt_ext (r ++ [c]) l 0 kd a s t hn i2 (by omega)] at h
          simp only [i1] at h
          cases hn2 : nextAt (l ++ (r ++ [c])) p1 with
          | err e b => rw [hn2] at h; simp at h
          | tok kd2 a2 s2 t2 =>
            rw [hn2] at h
            simp only at h
            by_cases hk2 : kd2 = 1
            · subst hk2
              have := end_blank _ _ _ _ _ hn2 c (by
                rw [drop_append_le l _ _ hp1]
                simp)
              rw [this] at hc
              cases hc
            · rw [if_neg hk2] at h; simp at h

theorem print_last (j : J) (hc : checkJ j = 0) (hk : j.kind ≠ 4) : ∃ q c, printJ j = q ++ [c] ∧ blank c = false := by
  obtain ⟨k, t, m⟩ := j
  have h := (checkJ_parts hc).1
  simp only [J.kind] at hk
  unfold printJ
  by_cases h1 : k = 1
  · rw [if_pos h1]; exact ⟨[110, 117, 108], 108, rfl, rfl⟩
  rw [if_neg h1]
  by_cases h1 : k = 2
  · rw [if_pos h1]; exact ⟨[102, 97, 108, 115], 101, rfl, rfl⟩
  rw [if_neg h1]
  by_cases h1 : k = 3
  · rw [if_pos h1]; exact ⟨[116, 114, 117], 101, rfl, rfl⟩
  rw [if_neg h1, if_neg hk]
  by_cases h1 : k = 5
  · rw [if_pos h1]; exact ⟨34 :: quoteM t, 34, by simp [quoteL], rfl⟩
  rw [if_neg h1]
  by_cases h1 : k = 7
  · rw [if_pos h1]; exact ⟨123 :: printM true true m, 125, by simp, rfl⟩
  · rw [if_neg h1]; exact ⟨91 :: printM false true m, 93, by simp, rfl⟩

theorem print_cut (j : J) (k : Nat) (hc : checkJ j = 0) (hk : j.kind ≠ 4) (hn : (nestJ j : Int) ≤ 1000) (hlt : k < (printJ j).length) : ∃ e a, parseP ((printJ j).take k) 1000 = .bad e a := by
  obtain ⟨q, c, hq, hb⟩ := print_last j hc hk
  have hp := parse_print j 1000 hc hn (by omega)
  rw [hq, List.length_append] at hlt
  simp only [List.length_cons, List.length_nil] at hlt
  have he : printJ j = q.take k ++ (q.drop k ++ [c]) := by rw [← List.append_assoc, List.take_append_drop, hq]
  have ht : (printJ j).take k = q.take k := by
    rw [hq, List.take_append, Nat.sub_eq_zero_of_le (by omega), List.take_zero, List.append_nil]
  rw [ht]
  rw [he] at hp
  exact parse_cut _ _ c 1000 j hp hb hk

/-! ### Where an error stands -/

theorem next_err (l : List UInt8) (p e b : Nat) (hp : p ≤ l.length) (h : nextAt l p = .err e b) : b ≤ l.length := by
  have := nextAt_bd l p hp
  rw [h] at this
  have := this.2
  omega

theorem next_tok (l : List UInt8) (p kd a s : Nat) (t : List UInt8) (hp : p ≤ l.length) (h : nextAt l p = .tok kd a s t) : a ≤ l.length ∧ s ≤ l.length := by
  have := nextAt_bd l p hp
  rw [h] at this
  obtain ⟨h1, h2, h3, h4, h5⟩ := this
  by_cases hk : kd = 1
  · have := h3 hk; omega
  · have := h4 hk; omega

def BadLe (n : Nat) {α : Type} : PR α → Prop
  | .ok _ p => p ≤ n
  | .bad _ a => a ≤ n

theorem wrong_le (kd a n : Nat) (h : a ≤ n) : (wrongT kd a).2 ≤ n := by unfold wrongT; split <;> exact h

theorem val_le (l : List UInt8) (dep : Nat) : ∀ f : Nat,
    (∀ (w kd a s : Nat) (t : List UInt8), a ≤ l.length → s ≤ l.length → BadLe l.length (valP l dep f w kd a s t)) ∧
    (∀ (w op : Nat) (ks : M) (kd a s : Nat) (t : List UInt8), a ≤ l.length → s ≤ l.length → BadLe l.length (kidsP l dep f w op ks kd a s t))
  | 0 => ⟨fun w kd a s t ha hs => by rw [valP]; exact ha, fun w op ks kd a s t ha hs => by rw [kidsP]; exact ha⟩
  | f + 1 => by
    have ih := val_le l dep f
    refine ⟨fun w kd a s t ha hs => ?_, fun w op ks kd a s t ha hs => ?_⟩
    · unfold valP
      split
      · exact hs
      split
      · exact hs
      split
      · exact hs
      split
      · exact hs
      split
      · exact hs
      split
      · split
        · exact ha
        · split
          · rename_i e b hn; exact next_err l s e b hs hn
          · rename_i kd1 a1 s1 t1 hn
            have hb := next_tok l s kd1 a1 s1 t1 hs hn
            split
            · exact hb.2
            · have := ih.2 (w + 1) kd .nil kd1 a1 s1 t1 hb.1 hb.2
              split
              · rename_i e b hk; rw [hk] at this; exact this
              · rename_i ks p hk; rw [hk] at this; exact this
      · exact wrong_le _ _ _ ha
    · have rest : ∀ (nm : List UInt8) (kd0 a0 s0 : Nat) (t0 : List UInt8), a0 ≤ l.length → s0 ≤ l.length → BadLe l.length
          (match valP l dep f w kd0 a0 s0 t0 with
            | .bad e b => PR.bad e b
            | .ok v p => match nextAt l p with
              | .err e b => PR.bad e b
              | .tok kd1 a1 s1 _ =>
                if kd1 = op + 1 then PR.ok (ks.snoc nm v) s1
                else if kd1 = 7 then match nextAt l s1 with
                  | .err e b => PR.bad e b
                  | .tok kd2 a2 s2 t2 => kidsP l dep f w op (ks.snoc nm v) kd2 a2 s2 t2
                else PR.bad (wrongT kd1 a1).1 (wrongT kd1 a1).2) := fun nm kd0 a0 s0 t0 ha0 hs0 => by
        have hv := ih.1 w kd0 a0 s0 t0 ha0 hs0
        cases hvv : valP l dep f w kd0 a0 s0 t0 with
        | bad e b => rw [hvv] at hv; exact hv
        | ok v q =>
          rw [hvv] at hv
          simp only [BadLe] at hv ⊢
          cases hn : nextAt l q with
          | err e b => exact next_err l q e b hv hn
          | tok kd1 a1 s1 t1 =>
            have hb := next_tok l q kd1 a1 s1 t1 hv hn
            simp only
            by_cases h1 : kd1 = op + 1
            · rw [if_pos h1]; exact hb.2
            rw [if_neg h1]
            by_cases h2 : kd1 = 7
            · rw [if_pos h2]
              cases hn2 : nextAt l s1 with
              | err e b => exact next_err l s1 e b hb.2 hn2
              | tok kd2 a2 s2 t2 =>
                have hb2 := next_tok l s1 kd2 a2 s2 t2 hb.2 hn2
                exact ih.2 w op (ks.snoc nm v) kd2 a2 s2 t2 hb2.1 hb2.2
            · rw [if_neg h2]; exact wrong_le _ _ _ hb.1
      unfold kidsP
      by_cases h2 : op = 2
      · rw [if_pos h2]
        by_cases h8 : kd = 8
        · rw [if_pos h8]
          cases hn : nextAt l s with
          | err e b => exact next_err l s e b hs hn
          | tok kd1 a1 s1 t1 =>
            have hb := next_tok l s kd1 a1 s1 t1 hs hn
            simp only
            by_cases h6 : kd1 = 6
            · rw [if_pos h6]
              cases hn2 : nextAt l s1 with
              | err e b => exact next_err l s1 e b hb.2 hn2
              | tok kd2 a2 s2 t2 =>
                have hb2 := next_tok l s1 kd2 a2 s2 t2 hb.2 hn2
                exact rest t kd2 a2 s2 t2 hb2.1 hb2.2
            · rw [if_neg h6]; exact wrong_le _ _ _ hb.1
        · rw [if_neg h8]; exact wrong_le _ _ _ ha
      · rw [if_neg h2]
        exact rest [] kd a s t ha hs

theorem parse_bad_le (l : List UInt8) (dep : Int) (e a : Nat) (h : parseP l dep = .bad e a) : a ≤ l.length := by
  unfold parseP at h
  split at h
  · simp only [PR.bad.injEq] at h; omega
  · cases hn : nextAt l 0 with
    | err e b => rw [hn] at h; simp only [PR.bad.injEq] at h; have := next_err l 0 e b (Nat.zero_le _) hn; omega
    | tok kd a1 s t =>
      rw [hn] at h
      have hb := next_tok l 0 kd a1 s t (Nat.zero_le _) hn
      have hv := (val_le l dep.toNat (2 * l.length + 10)).1 0 kd a1 s t hb.1 hb.2
      simp only at h
      cases hvv : valP l dep.toNat (2 * l.length + 10) 0 kd a1 s t with
      | bad e b => rw [hvv] at h hv; simp only [PR.bad.injEq] at h; simp only [BadLe] at hv; omega
      | ok j p =>
        rw [hvv] at h hv
        simp only [BadLe] at h hv
        cases hn2 : nextAt l p with
        | err e b => rw [hn2] at h; simp only [PR.bad.injEq] at h; have := next_err l p e b hv hn2; omega
        | tok kd1 a2 s1 t1 =>
          rw [hn2] at h
          simp only at h
          have hb2 := next_tok l p kd1 a2 s1 t1 hv hn2
          split at h
          · simp at h
          · simp only [PR.bad.injEq] at h; omega

end Go.Proofs.Ytamhdoijmkjngaa
