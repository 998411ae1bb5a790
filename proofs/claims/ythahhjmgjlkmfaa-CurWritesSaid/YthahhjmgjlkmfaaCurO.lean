/- CurWrites: the walk, whatever the script's length. -/
import Derived.Test.YthahhjmgjlkmfaaCurN
namespace Go.Proofs.Ythahhjmgjlkmfaa
open Go.RowKit
set_option linter.unusedVariables false
set_option linter.unusedSimpArgs false

set_option maxRecDepth 100000 in
set_option maxHeartbeats 1000000 in
theorem CurWrites_walk (w : World) (a : Option Addr) (len cap : Nat) (f : Nat → PutS) (h : RdP w a len f) :
    Calls Try.prog 4 #[.slice a len cap] w fun e w' => e = .returned (.bool true) ∧ Below w.heap.size w w' := by
  have hm := h.1
  by_cases hl : len ≤ 60
  · exact CurWrites_core w a len cap f h hl
  · clear h
    have d1 : decide ((60 : Int) < (len : Int)) = true := by simp; omega
    go_enter Try.func4, Try.ntmps4
    go_wp2_with (go_at_call 11; refine (awake1 _).mono ?_; rintro e w1 ⟨rfl, hb⟩)
    go_ret
    exact ⟨rfl, hb⟩
end Go.Proofs.Ythahhjmgjlkmfaa
