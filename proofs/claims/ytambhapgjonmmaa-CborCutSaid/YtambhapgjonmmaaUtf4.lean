/- The reference's Rune, walked. -/
import Derived.Test.YtambhapgjonmmaaUtf2
namespace Go.Proofs.Ytambhapgjonmmaa
open Go.RowKit
set_option linter.unusedVariables false
set_option linter.unusedSimpArgs false

set_option maxRecDepth 100000 in
set_option maxHeartbeats 1000000 in
theorem rrune_out (a : Option Addr) (len cap : Nat) (p : Int) (w : World) (hm : len ≤ 9223372036854775807) (h : p < 0 ∨ (len : Int) ≤ p) :
    Calls Try.prog 59 #[.slice a len cap, .int .i64 p] w fun e w' => e = .returned (.tuple #[.int .i64 0, .int .i64 0]) ∧ w = w' := by
  by_cases h0 : p < 0
  · have d0 : decide (p < 0) = true := by simp; omega
    go_enter Try.func59, Try.ntmps59
    go_wp2_with fail
    go_ret2
    exact ⟨rfl, rfl⟩
  · have d0 : decide (p < 0) = false := by simp; omega
    have d1 : decide ((len : Int) ≤ p) = true := by simp; omega
    go_enter Try.func59, Try.ntmps59
    go_wp2_with fail
    go_ret2
    exact ⟨rfl, rfl⟩

set_option maxRecDepth 100000 in
set_option maxHeartbeats 1000000 in
theorem rrune_one (a : Option Addr) (len cap p : Nat) (w : World) (l : List UInt8) (h : RdB w a len l) (hp : p < len) (hc : bAt l p < 128) :
    Calls Try.prog 59 #[.slice a len cap, .int .i64 p] w fun e w' => e = .returned (.tuple #[.int .i64 (bAt l p : Nat), .int .i64 1]) ∧ w = w' := by
  have hm := h.2.1
  obtain ⟨b, o, rfl, hcc⟩ := h.at p hp
  clear h
  generalize bAt l p = c at hc hcc
  have d0 : decide ((p : Int) < 0) = false := by simp
  have d1 : decide ((len : Int) ≤ (p : Int)) = false := by simp; omega
  have hc' : (c : Int) < 128 := by omega
  go_enter Try.func59, Try.ntmps59
  go_wp2_with fail
  go_ret2
  exact ⟨rfl, rfl⟩

set_option maxRecDepth 100000 in
set_option maxHeartbeats 1000000 in
theorem rrune_bad (a : Option Addr) (len cap p : Nat) (w : World) (l : List UInt8) (h : RdB w a len l) (hp : p < len) (hc : (128 ≤ bAt l p ∧ bAt l p < 192) ∨ 248 ≤ bAt l p) :
    Calls Try.prog 59 #[.slice a len cap, .int .i64 p] w fun e w' => e = .returned (.tuple #[.int .i64 0, .int .i64 0]) ∧ w = w' := by
  have hm := h.2.1
  obtain ⟨b, o, rfl, hcc⟩ := h.at p hp
  have hb := bAt_bd l p
  clear h
  generalize bAt l p = c at hc hcc hb
  have d0 : decide ((p : Int) < 0) = false := by simp
  have d1 : decide ((len : Int) ≤ (p : Int)) = false := by simp; omega
  rcases hc with ⟨h1, h2⟩ | h1
  all_goals
    go_enter Try.func59, Try.ntmps59
    go_wp2_with fail
    go_ret2
    exact ⟨rfl, rfl⟩

end Go.Proofs.Ytambhapgjonmmaa
