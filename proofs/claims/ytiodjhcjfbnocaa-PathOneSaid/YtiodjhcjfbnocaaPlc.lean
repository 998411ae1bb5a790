/- propylonbook.Place: a number brought to 0 .. n - 1. -/
import Derived.Test.YtiodjhcjfbnocaaApp
namespace Go.Proofs.Ytiodjhcjfbnocaa
open Go.RowKit
set_option linter.unusedVariables false
set_option linter.unusedSimpArgs false

def placeN (k : Int) (n : Nat) : Nat := (k % (n : Int)).toNat
theorem place_lt (k : Int) (n : Nat) (h : 0 < n) : placeN k n < n := by
  unfold placeN
  have h1 := Int.emod_nonneg k (show (n : Int) ≠ 0 by omega)
  have h2 := Int.emod_lt_of_pos k (show (0 : Int) < n by omega)
  omega
theorem place_eq (k : Int) (n : Nat) (h : 0 < n) : ((k.tmod n + n).tmod n) = (placeN k n : Nat) := by
  have h1 : 0 ≤ k.tmod n + n := by
    have := Int.lt_tmod_of_pos k (show (0 : Int) < n by omega)
    omega
  rw [Int.tmod_eq_emod_of_nonneg h1, Int.add_emod_right]
  have : (k.tmod n) % (n : Int) = k % n := by
    rw [Int.tmod_def, Int.sub_mul_emod_self_left]
  rw [this]
  unfold placeN
  have h1 := Int.emod_nonneg k (show (n : Int) ≠ 0 by omega)
  show k % (n : Int) = _
  rw [Int.toNat_of_nonneg h1]

set_option maxRecDepth 100000 in
set_option maxHeartbeats 2000000 in
theorem place_calls (k : Int) (n : Nat) (h0 : 0 < n) (h1 : n ≤ 1000000) (w : World) :
    Calls Try.prog 31 #[.int .i64 k, .int .i64 n] w fun e w' => e = .returned (.int .i64 (placeN k n : Nat)) ∧ w = w' := by
  have e := place_eq k n h0
  have b1 := Int.lt_tmod_of_pos k (show (0 : Int) < n by omega)
  have b2 := Int.tmod_lt_of_pos k (show (0 : Int) < n by omega)
  have hm := place_lt k n h0
  obtain ⟨m, hm1⟩ : ∃ m, m = placeN k n := ⟨_, rfl⟩
  rw [← hm1] at e hm ⊢
  have hn : ((n : Int) == 0) = false := by simp; omega
  have hn0 : n ≠ 0 := by omega
  have hn1 : ¬ ((n : Int) = 0) := by omega
  obtain ⟨q, hq⟩ : ∃ q, q = k.tmod n := ⟨_, rfl⟩
  rw [← hq] at e b1 b2
  have hq' := hq.symm
  have w1 : IntKind.i64.wrap q = q := by simp [IntKind.wrap, IntKind.bits, IntKind.signed]; omega
  have w2 : IntKind.i64.wrap (q + n) = q + n := by simp [IntKind.wrap, IntKind.bits, IntKind.signed]; omega
  have w3 : IntKind.i64.wrap (m : Int) = (m : Int) := by simp [IntKind.wrap, IntKind.bits, IntKind.signed]; omega
  go_enter Try.func31, Try.ntmps31
  go_wp2_with fail
  simp [go_sem, hn0, hn1, hq', w2, e]
  go_wp2_with fail
  simp [go_sem, hn0, hn1, hq', w2, e]
  go_wp2_with fail
  simp [go_sem, hn0, hn1, hq', w2, e]
  go_wp2_with fail
  go_ret
  exact ⟨rfl, rfl⟩

end Go.Proofs.Ytiodjhcjfbnocaa
