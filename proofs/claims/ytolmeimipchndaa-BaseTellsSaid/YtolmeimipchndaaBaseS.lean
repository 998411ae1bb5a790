/- The program's sign. -/
import Derived.Test.YtolmeimipchndaaBaseP
import Derived.Test.YtolmeimipchndaaApp
namespace Go.Proofs.Ytolmeimipchndaa
open Go.RowKit
set_option linter.unusedVariables false
set_option linter.unusedSimpArgs false

/-- A sign's six bits; -1: none. -/
def unI (c : Int) : Int :=
  if 65 ≤ c ∧ c ≤ 90 then c - 65 else if 97 ≤ c ∧ c ≤ 122 then c - 71 else if 48 ≤ c ∧ c ≤ 57 then c + 4 else if c = 43 then 62 else if c = 47 then 63 else -1

theorem unI_sg : ∀ i : Fin 64, unI ((sg i).toNat : Nat) = ((i : Nat) : Int) := by decide +kernel
theorem sg_unI : ∀ c : Fin 256, 0 ≤ unI ((c : Nat) : Int) → unI ((c : Nat) : Int) < 64 ∧ (sg (unI ((c : Nat) : Int)).toNat).toNat = c := by decide +kernel

set_option maxRecDepth 100000 in
set_option maxHeartbeats 1000000 in
theorem sign_calls (c : Int) (h0 : 0 ≤ c) (h1 : c < 256) (w : World) : Calls Try.prog 54 #[.int .u8 c] w fun e w' => e = .returned (.int .i64 (unI c)) ∧ w = w' := by
  by_cases a1 : 65 ≤ c ∧ c ≤ 90
  · have e : unI c = c - 65 := by unfold unI; rw [if_pos a1]
    rw [e]
    clear e
    obtain ⟨a2, a3⟩ := a1
    go_enter Try.func54, Try.ntmps54
    go_wp2
    go_ret
    exact ⟨rfl, rfl⟩
  by_cases b1 : 97 ≤ c ∧ c ≤ 122
  · have e : unI c = c - 71 := by unfold unI; rw [if_neg a1, if_pos b1]
    rw [e]
    clear e a1
    obtain ⟨a2, a3⟩ := b1
    have z1 : decide (c ≤ 90) = false := by simp; omega
    go_enter Try.func54, Try.ntmps54
    go_wp2
    go_ret
    exact ⟨by show Ending.returned (.int .i64 (c - 97 + 26)) = _; rw [show c - 97 + 26 = c - 71 by omega], rfl⟩
  by_cases c1 : 48 ≤ c ∧ c ≤ 57
  · have e : unI c = c + 4 := by unfold unI; rw [if_neg a1, if_neg b1, if_pos c1]
    rw [e]
    clear e a1 b1
    obtain ⟨a2, a3⟩ := c1
    have z1 : decide (65 ≤ c) = false := by simp; omega
    have z2 : decide (97 ≤ c) = false := by simp; omega
    go_enter Try.func54, Try.ntmps54
    go_wp2
    go_ret
    exact ⟨by show Ending.returned (.int .i64 (c - 48 + 52)) = _; rw [show c - 48 + 52 = c + 4 by omega], rfl⟩
  by_cases d1 : c = 43
  · subst d1
    have e : unI 43 = 62 := by decide
    rw [e]
    clear e a1 b1 c1
    go_enter Try.func54, Try.ntmps54
    go_wp2
    go_ret
    exact ⟨rfl, rfl⟩
  by_cases e1 : c = 47
  · subst e1
    have e : unI 47 = 63 := by decide
    rw [e]
    clear e a1 b1 c1 d1
    go_enter Try.func54, Try.ntmps54
    go_wp2
    go_ret
    exact ⟨rfl, rfl⟩
  have e : unI c = -1 := by unfold unI; rw [if_neg a1, if_neg b1, if_neg c1, if_neg d1, if_neg e1]
  rw [e]
  have f1 : (c == 43) = false := by simpa using d1
  have f2 : (c == 47) = false := by simpa using e1
  have cases3 : c < 48 ∨ (57 < c ∧ c < 65) ∨ (90 < c ∧ c < 97) ∨ 122 < c := by omega
  clear e a1 b1 c1 d1 e1
  rcases cases3 with g | ⟨g, g'⟩ | ⟨g, g'⟩ | g
  all_goals
    go_enter Try.func54, Try.ntmps54
    go_wp2
    go_ret
    exact ⟨rfl, rfl⟩

theorem unI_none {c : Int} (h : unI c < 0) : unI c = -1 := by
  unfold unI at *
  (repeat' split at h) <;> (repeat' split) <;> omega

end Go.Proofs.Ytolmeimipchndaa
