/- The reference's Low: the number of n bytes from a place on. -/
import Derived.Test.YtikjmlidgiphjaaDoorRows
import Derived.Test.YtikjmlidgiphjaaDoorLib
namespace Go.Proofs.YtikjmlidgiphjaaDoor
open Go.RowKit
set_option linter.unusedVariables false
set_option linter.unusedSimpArgs false

/-- n bytes from a place on, if there are so many. -/
def seg (l : List UInt8) (p n : Nat) : List UInt8 := (l.drop p).take n

theorem seg_length (l : List UInt8) (p n : Nat) (h : p + n ≤ l.length) : (seg l p n).length = n := by simp [seg]; omega

theorem seg_drop (l : List UInt8) (p n k : Nat) (h : p + n ≤ l.length) (hk : k < n) : (seg l p n).drop k = l.getD (p + k) 0 :: (seg l p n).drop (k + 1) := by
  rw [drop_getD _ 0 _ (by rw [seg_length _ _ _ h]; exact hk)]
  congr 1
  simp only [seg]
  rw [getD_take _ _ _ _ hk, getD_drop]

theorem le_seg_drop (l : List UInt8) (p n k : Nat) (h : p + n ≤ l.length) (hk : k < n) : le ((seg l p n).drop k) = bAt l (p + k) + 256 * le ((seg l p n).drop (k + 1)) := by
  rw [seg_drop l p n k h hk]; rfl

theorem le_seg_small (l : List UInt8) (p n k : Nat) (h : p + n ≤ l.length) (hn : n ≤ 8) : le ((seg l p n).drop k) < okSize := by
  refine Nat.lt_of_lt_of_le (le_lt _) ?_
  rw [List.length_drop, seg_length _ _ _ h]
  show 256 ^ _ ≤ 256 ^ 8
  exact Nat.pow_le_pow_right (by omega) (by omega)

theorem low_round (l : List UInt8) (p n k : Nat) (h : p + n ≤ l.length) (hn : n ≤ 8) (hk : k ≤ n) (h0 : 0 < k) :
    IntKind.u64.wrap (IntKind.u64.wrap ((le ((seg l p n).drop k) : Nat) * 256 : Int) + IntKind.u64.wrap ((bAt l (p + (k - 1)) : Nat) : Int)) = (le ((seg l p n).drop (k - 1)) : Int) := by
  have e := le_seg_drop l p n (k - 1) h (by omega)
  have s := le_seg_small l p n (k - 1) h hn
  rw [show k - 1 + 1 = k from by omega] at e
  have b := bAt_lt l (p + (k - 1))
  unfold okSize at s
  generalize le ((seg l p n).drop (k - 1)) = A at *
  generalize le ((seg l p n).drop k) = C at *
  generalize bAt l (p + (k - 1)) = D at *
  rw [wrap_u64_of (n := (C : Int) * 256) (by omega) (by omega), wrap_u64_of (n := (D : Int)) (by omega) (by omega), wrap_u64_of (by omega) (by omega)]
  omega

set_option maxHeartbeats 1000000 in
theorem low_yes (a : Option Addr) (len cap p n : Nat) (w : World) (l : List UInt8) (h : RdB w a len l) (h0 : p + n ≤ len) (hn1 : 1 ≤ n) (hn8 : n ≤ 8) :
    Calls Tryd.prog 13 #[.slice a len cap, .int .i64 p, .int .i64 n] w fun e w' => e = .returned (.tuple #[.int .u64 (le (seg l p n)), .bool true]) ∧ w = w' := by
  have HC := Lib.hid h
  have hm := h.2.1
  clear h
  go_enter Tryd.func13, Tryd.ntmps13
  go_wp2
  go_loop [8, 9] (fun v i => ∃ k : Nat, k ≤ n ∧ i = .int .i64 ((k : Int) - 1) ∧ v = .int .u64 (le ((seg l p n).drop k))) (fun _ i => (intOf i + 1).toNat)
  case atStart => exact ⟨n, Nat.le_refl _, rfl, by rw [List.drop_of_length_le (by rw [seg_length _ _ _ (by rw [HC.out.1]; exact h0)]; omega)]; rfl⟩
  case round =>
    obtain ⟨k, hk, rfl, rfl⟩ := hrel
    by_cases hlt : 0 < k
    · obtain ⟨b, o, rfl, hcc⟩ := HC.out.at (p + (k - 1)) (by omega)
      go_wp2
      go_round
      case rel => exact ⟨k - 1, by omega, by rw [show ((k - 1 : Nat) : Int) = (k : Int) - 1 from by omega], by rw [low_round l p n k (by rw [HC.out.1]; exact h0) hn8 hk hlt]⟩
      case measure => simp [intOf]; omega
    · obtain rfl : k = 0 := by omega
      go_wp2
      go_ret2
      exact ⟨rfl, rfl⟩

set_option maxHeartbeats 1000000 in
theorem low_no (a : Option Addr) (len cap : Nat) (p n : Int) (w : World) (hm : len ≤ 9223372036854775807) (h : n < 1 ∨ 8 < n ∨ p < 0 ∨ (len : Int) < p + n) (hn : n ≤ 9223372036854775807) (hp : p ≤ 9223372036854775807) :
    Calls Tryd.prog 13 #[.slice a len cap, .int .i64 p, .int .i64 n] w fun e w' => e = .returned (.tuple #[.int .u64 0, .bool false]) ∧ w = w' := by
  by_cases h1 : n < 1
  · go_enter Tryd.func13, Tryd.ntmps13
    go_wp2
    go_ret2
    exact ⟨rfl, rfl⟩
  by_cases h2 : 8 < n
  · go_enter Tryd.func13, Tryd.ntmps13
    go_wp2
    go_ret2
    exact ⟨rfl, rfl⟩
  by_cases h3 : p < 0
  · go_enter Tryd.func13, Tryd.ntmps13
    go_wp2
    go_ret2
    exact ⟨rfl, rfl⟩
  by_cases h4 : (len : Int) < p
  · go_enter Tryd.func13, Tryd.ntmps13
    go_wp2
    go_ret2
    exact ⟨rfl, rfl⟩
  have h5 : (len : Int) - p < n := by omega
  clear h
  go_enter Tryd.func13, Tryd.ntmps13
  go_wp2
  go_ret2
  exact ⟨rfl, rfl⟩

end Go.Proofs.YtikjmlidgiphjaaDoor
