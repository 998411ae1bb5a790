/- One of two signs at a place of a text. -/
import Derived.Test.YtamhdoijmkjngaaLexA
namespace Go.Proofs.Ytamhdoijmkjngaa
open Go.RowKit
set_option linter.unusedVariables false
set_option linter.unusedSimpArgs false

/-- Does one of two signs stand there? -/
def atB (l : List UInt8) (p c d : Nat) : Bool := decide (p < l.length ∧ (bAt l p = c ∨ bAt l p = d))

set_option maxRecDepth 100000 in
set_option maxHeartbeats 1000000 in
theorem wis_calls (s : ByteArray) (hs : s.size ≤ 1000000) (p c d : Nat) (w : World) :
    Calls Try.prog 64 #[.string s, .int .i64 p, .int .u8 c, .int .u8 d] w fun e w' => e = .returned (.bool (atB (sl s) p c d)) ∧ w = w' := by
  by_cases hlt : p < s.size
  · have hb : bAt (sl s) p = (s[p]'hlt).toNat := by unfold bAt; rw [sl_at hlt]
    by_cases h1 : (s[p]'hlt).toNat = c
    · have e : atB (sl s) p c d = true := by unfold atB; rw [hb, sl_len]; simp [hlt, h1]
      rw [e]
      have d1 : (((s[p]'hlt).toNat : Int) == (c : Int)) = true := by simp; omega
      clear e hb h1
      go_enter Try.func64, Try.ntmps64
      go_wp2_with fail
      go_ret
      exact ⟨rfl, rfl⟩
    · have d1 : (((s[p]'hlt).toNat : Int) == (c : Int)) = false := by simp; omega
      by_cases h2 : (s[p]'hlt).toNat = d
      · have e : atB (sl s) p c d = true := by unfold atB; rw [hb, sl_len]; simp [hlt, h2]
        rw [e]
        have d2 : (((s[p]'hlt).toNat : Int) == (d : Int)) = true := by simp; omega
        clear e hb h1 h2
        go_enter Try.func64, Try.ntmps64
        go_wp2_with fail
        go_ret
        exact ⟨rfl, rfl⟩
      · have e : atB (sl s) p c d = false := by unfold atB; rw [hb]; simp [h1, h2]
        rw [e]
        have d2 : (((s[p]'hlt).toNat : Int) == (d : Int)) = false := by simp; omega
        clear e hb h1 h2
        go_enter Try.func64, Try.ntmps64
        go_wp2_with fail
        go_ret
        exact ⟨rfl, rfl⟩
  · have e : atB (sl s) p c d = false := by unfold atB; rw [sl_len]; simp [hlt]
    rw [e]
    clear e
    go_enter Try.func64, Try.ntmps64
    go_wp2_with fail
    go_ret
    exact ⟨rfl, rfl⟩

end Go.Proofs.Ytamhdoijmkjngaa
