/- utf: may a number be a character? -/
import Derived.Test.YtambhapgjonmmaaApp
namespace Go.Proofs.Ytambhapgjonmmaa
open Go.RowKit
set_option linter.unusedVariables false
set_option linter.unusedSimpArgs false

def isCh (r : Int) : Bool := decide (0 ≤ r ∧ r ≤ 1114111 ∧ (r < 55296 ∨ 57343 < r))

set_option maxRecDepth 100000 in
set_option maxHeartbeats 1000000 in
theorem is_calls (r : Int) (w : World) : Calls Try.prog 58 #[.int .i64 r] w fun e w' => e = .returned (.bool (isCh r)) ∧ w = w' := by
  have hv : r < 0 ∨ (0 ≤ r ∧ r < 55296) ∨ (55296 ≤ r ∧ r ≤ 57343) ∨ (57343 < r ∧ r ≤ 1114111) ∨ 1114111 < r := by omega
  rcases hv with h | ⟨h, h'⟩ | ⟨h, h'⟩ | ⟨h, h'⟩ | h
  · have e : isCh r = false := by unfold isCh; simp; omega
    rw [e]; clear e
    have d : decide (0 ≤ r) = false := by simp; omega
    go_enter Try.func58, Try.ntmps58
    go_wp2
    go_ret
    exact ⟨rfl, rfl⟩
  · have e : isCh r = true := by unfold isCh; simp; omega
    rw [e]; clear e
    go_enter Try.func58, Try.ntmps58
    go_wp2
    go_ret
    exact ⟨rfl, rfl⟩
  · have e : isCh r = false := by unfold isCh; simp; omega
    rw [e]; clear e
    have d : decide (r < 55296) = false := by simp; omega
    have d2 : decide (57343 < r) = false := by simp; omega
    go_enter Try.func58, Try.ntmps58
    go_wp2
    go_ret
    exact ⟨rfl, rfl⟩
  · have e : isCh r = true := by unfold isCh; simp; omega
    rw [e]; clear e
    have d : decide (r < 55296) = false := by simp; omega
    go_enter Try.func58, Try.ntmps58
    go_wp2
    go_ret
    exact ⟨rfl, rfl⟩
  · have e : isCh r = false := by unfold isCh; simp; omega
    rw [e]; clear e
    have d : decide (r ≤ 1114111) = false := by simp; omega
    go_enter Try.func58, Try.ntmps58
    go_wp2
    go_ret
    exact ⟨rfl, rfl⟩

end Go.Proofs.Ytambhapgjonmmaa
