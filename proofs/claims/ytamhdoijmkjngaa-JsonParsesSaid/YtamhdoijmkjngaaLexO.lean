/- The lexer's answers: an error is one; the law's awake. -/
import Derived.Test.YtamhdoijmkjngaaLexN
namespace Go.Proofs.Ytamhdoijmkjngaa
open Go.RowKit
set_option linter.unusedVariables false
set_option linter.unusedSimpArgs false

theorem uni_err (l : List UInt8) (e : Nat) (h : uni l = .inr e) : 1 ≤ e ∧ e ≤ 10 := by
  unfold uni at h
  split at h
  · rename_i e' he
    simp only [Sum.inr.injEq] at h
    have := hexs_err _ _ _ _ he
    omega
  · split at h
    · split at h
      · simp at h
      · simp only [Sum.inr.injEq] at h; omega
    · simp at h

theorem step_err (l : List UInt8) (e : Nat) (h : strStep l = .bad e) : 1 ≤ e ∧ e ≤ 10 := by
  unfold strStep at h
  split at h
  · simp only [StrStep.bad.injEq] at h; omega
  · split at h
    · simp at h
    · split at h
      · simp only [StrStep.bad.injEq] at h; omega
      · split at h
        · split at h
          · simp only [StrStep.bad.injEq] at h; omega
          · split at h
            · split at h
              · rename_i e' he
                simp only [StrStep.bad.injEq] at h
                have := uni_err _ _ he
                omega
              · simp at h
            · split at h
              · simp only [StrStep.bad.injEq] at h; omega
              · simp at h
        · simp only at h
          split at h
          · simp only [StrStep.bad.injEq] at h; omega
          · simp at h

theorem strGo_err : ∀ (f : Nat) (l : List UInt8) (p : Nat) (out : List UInt8) (e a : Nat), strGo f l p out = .err e a → 1 ≤ e ∧ e ≤ 10
  | 0, l, p, out, e, a, h => by simp only [strGo, LexR.err.injEq] at h; omega
  | f + 1, l, p, out, e, a, h => by
    rw [strGo] at h
    cases hs : strStep l with
    | stop => rw [hs] at h; simp at h
    | bad e' => rw [hs] at h; simp only [LexR.err.injEq] at h; have := step_err _ _ hs; omega
    | go n x => rw [hs] at h; exact strGo_err f _ _ _ e a h

theorem tokS_err (l : List UInt8) (e a : Nat) (h : tokS l = .err e a) : 1 ≤ e ∧ e ≤ 10 := by
  cases l with
  | nil => simp [tokS] at h
  | cons c r =>
    obtain ⟨T1, T2⟩ := tok_plain c r
    rcases Nat.eq_zero_or_pos (plainN (c :: r)).1 with h0 | h0
    · rw [T2 h0] at h
      split at h
      · exact strGo_err _ _ _ _ _ _ h
      · split at h
        · unfold numR at h
          split at h
          · simp only [LexR.err.injEq] at h; omega
          · split at h
            · simp only [LexR.err.injEq] at h; omega
            · simp at h
        · simp only [LexR.err.injEq] at h; omega
    · rw [T1 h0] at h; simp at h

theorem shift_err {k : Nat} {r : LexR} {e a : Nat} (h : r.shift k = .err e a) : ∃ b, r = .err e b ∧ a = k + b := by
  cases r with
  | tok => simp [LexR.shift] at h
  | err e' b => simp only [LexR.shift, LexR.err.injEq] at h; exact ⟨b, by rw [h.1], h.2.symm⟩

theorem nextI_err (l : List UInt8) (p : Int) (e a : Nat) (h : nextI l p = .err e a) : 1 ≤ e ∧ e ≤ 10 := by
  unfold nextI at h
  split at h
  · simp only [LexR.err.injEq] at h; omega
  · unfold nextAt at h
    split at h
    · simp only [LexR.err.injEq] at h; omega
    · obtain ⟨b, h2, _⟩ := shift_err h
      unfold nextS at h2
      obtain ⟨b', h3, _⟩ := shift_err h2
      exact tokS_err _ _ _ h3

theorem nextI_nat (l : List UInt8) (p : Nat) : nextI l (p : Int) = nextAt l p := by
  unfold nextI; rw [if_neg (by omega), Int.toNat_natCast]

theorem toList_txt (l : List UInt8) : (txt l).toList = l := by rw [ByteArray.toList_eq]; rfl
theorem toList_sl (s : ByteArray) : s.toList = sl s := by rw [ByteArray.toList_eq]; rfl

theorem awake_tok : nextI (sl ⟨#[32, 34, 97, 92, 117, 48, 48, 54, 50, 34]⟩) 0 = .tok 8 1 10 [97, 98] := by rfl

set_option maxRecDepth 100000 in
set_option maxHeartbeats 2000000 in
theorem awake22 (w : World) : Calls Try.prog 25 #[] w fun e w' => e = .returned (.bool true) ∧ Below w.heap.size w w' := by
  have C := fun W => Lib.hid (next_calls ⟨#[32, 34, 97, 92, 117, 48, 48, 54, 50, 34]⟩ (by decide) 0 (by omega) W)
  rw [awake_tok] at C
  have ht := toList_txt [97, 98]
  go_enter Try.func25, Try.ntmps25
  go_wp2_with fail
  refine (C _).out.mono ?_
  rintro e w1 ⟨rfl, hb1⟩
  have HB1 := Lib.hid hb1
  clear hb1
  simp only [tokV, errV]
  go_wp2_with fail
  go_ret
  exact ⟨rfl, (HB1.out.alloc (HB1.out.size) _).alloc (by have := HB1.out.size; simp; omega) _⟩

end Go.Proofs.Ytamhdoijmkjngaa
