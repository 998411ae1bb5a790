/- The reference's sign. -/
import Derived.Test.YtolmeimipchndaaBaseD
import Derived.Test.YtolmeimipchndaaBaseT
namespace Go.Proofs.Ytolmeimipchndaa
open Go.RowKit
set_option linter.unusedVariables false
set_option linter.unusedSimpArgs false

/-- A sign's six bits; 0: none. -/
def un0 (c : UInt8) : Nat := (unI (c.toNat : Nat)).toNat

theorem un0_sg {i : Nat} (h : i < 64) : un0 (sg i) = i := by unfold un0; rw [un_sg h]; simp
theorem un0_none {c : UInt8} (h : ∀ i, i < 64 → sg i ≠ c) : un0 c = 0 := by
  rcases un_cases c with h1 | ⟨i, hi, _, e⟩
  · unfold un0; omega
  · exact absurd e (h i hi)

set_option maxRecDepth 100000 in
set_option maxHeartbeats 1000000 in
theorem rsign_calls (c : UInt8) (w : World) : Calls Try.prog 55 #[.int .u8 (c.toNat : Nat)] w fun e w' => e = .returned (.int .i64 (un0 c)) ∧ w = w' := by
  have hcb := u8_lt c
  go_enter Try.func55, Try.ntmps55
  go_wp2_with fail
  go_loop [3] (fun i => ∃ k : Nat, k ≤ 64 ∧ i = .int .i64 k ∧ ∀ j, j < k → sg j ≠ c) (fun i => 64 - (intOf i).toNat)
  case atStart => exact ⟨0, by omega, rfl, fun j hj => absurd hj (Nat.not_lt_zero j)⟩
  case round =>
    obtain ⟨k, hk, rfl, hno⟩ := hrel
    have HNO := Lib.hid hno
    clear hno
    by_cases hlt : k < 64
    · have hlt' : k < sgB.size := hlt
      go_wp2_with fail
      · rename_i hz _
        have hz' : (((sgB[k]'hlt').toNat : Int) == (c.toNat : Int)) = true := hz
        rw [sgB_at, beq_iff_eq] at hz'
        have he : sg k = c := UInt8.toNat_inj.1 (by omega)
        have hu : un0 c = k := by rw [← he]; exact un0_sg hlt
        go_ret
        exact ⟨by rw [hu]; rfl, rfl⟩
      · rename_i hz
        have hz' : (((sgB[k]'hlt').toNat : Int) == (c.toNat : Int)) = false := hz
        rw [sgB_at, beq_eq_false_iff_ne] at hz'
        go_round
        case rel =>
          refine ⟨k + 1, by omega, by simp, fun j hj => ?_⟩
          rcases Nat.lt_or_ge j k with h | h
          · exact HNO.out j h
          · have : j = k := by omega
            subst this
            intro e
            exact hz' (by rw [e])
        case measure => simp [intOf]; omega
    · have hu : un0 c = 0 := un0_none fun i hi => HNO.out i (by omega)
      have HU := Lib.hid hu
      clear hu
      go_wp2_with fail
      go_ret
      exact ⟨by rw [HU.out]; rfl, rfl⟩

end Go.Proofs.Ytolmeimipchndaa
