/- The Reader: Low and High; Take of nothing. -/
import Derived.Test.YthahhjmgjlkmfaaCur1
namespace Go.Proofs.Ythahhjmgjlkmfaa
open Go.RowKit
set_option linter.unusedVariables false
set_option linter.unusedSimpArgs false

theorem le_snoc (l : List UInt8) (b : UInt8) : le (l ++ [b]) = le l + 256 ^ l.length * b.toNat := by rw [le_append]; simp [le]

theorem le_seg_take (l : List UInt8) (p n k : Nat) (h : p + n ≤ l.length) (hk : k < n) : le ((seg l p n).take (k + 1)) = le ((seg l p n).take k) + 256 ^ k * bAt l (p + k) := by
  rw [seg_snoc l p n k h hk, le_snoc]
  rw [List.length_take, seg_length _ _ _ h, Nat.min_eq_left (by omega)]
  rfl

theorem le_take_lt (l : List UInt8) (k : Nat) (hk : k ≤ l.length) : le (l.take k) < 256 ^ k := by
  have := le_lt (l.take k)
  rwa [List.length_take, Nat.min_eq_left hk] at this

theorem pow256 (k : Nat) : 256 ^ k = 2 ^ (8 * k) := by rw [show (256 : Nat) = 2 ^ 8 from rfl, ← Nat.pow_mul]

/-- v | x << 8k, x a byte, v below 256^k. -/
theorem or_step (v x k : Nat) (hv : v < 256 ^ k) (hx : x < 256) (hk : k < 8) : bits BinOp.or IntKind.u64 (v : Int) ((256 ^ k * x : Nat) : Int) = ((v + 256 ^ k * x : Nat) : Int) := by
  have h8 : 256 ^ (k + 1) ≤ 256 ^ 8 := Nat.pow_le_pow_right (by omega) (by omega)
  have hp : 256 ^ k * x < 256 ^ (k + 1) := by rw [Nat.pow_succ]; exact Nat.mul_lt_mul_of_pos_left hx (Nat.pow_pos (by omega))
  have hv8 : v < 256 ^ 8 := Nat.lt_of_lt_of_le hv (Nat.pow_le_pow_right (by omega) (by omega))
  rw [u64_or_nat v (256 ^ k * x) (by omega) (by omega), Nat.or_comm, nat_join (8 * k) _ v (by rw [← pow256]; exact Nat.mul_mod_right _ _) (by rw [← pow256]; exact hv)]
  rw [Nat.add_comm]

theorem bAt_seg (l : List UInt8) (p n k : Nat) (hk : k < n) : bAt (seg l p n) k = bAt l (p + k) := by
  unfold bAt seg
  rw [getD_take _ _ _ _ hk, getD_drop]

theorem low_or (l : List UInt8) (p n k : Nat) (h : p + n ≤ l.length) (hk : k < n) (hn : n ≤ 8) :
    bits BinOp.or IntKind.u64 ((le ((seg l p n).take k) : Nat) : Int) (IntKind.u64.wrap ((bAt (seg l p n) k : Int) * 2 ^ (8 * k))) = (le ((seg l p n).take (k + 1)) : Int) := by
  rw [le_seg_take l p n k h hk, bAt_seg l p n k hk]
  have hb := bAt_lt l (p + k)
  have hv := le_take_lt (seg l p n) k (by rw [seg_length _ _ _ h]; omega)
  generalize bAt l (p + k) = x at hb
  generalize le ((seg l p n).take k) = v at hv
  have e : (x : Int) * 2 ^ (8 * k) = ((256 ^ k * x : Nat) : Int) := by
    rw [pow256, Int.natCast_mul, Int.natCast_pow, Int.mul_comm]; rfl
  have hp : 256 ^ k * x < 256 ^ 8 := by
    have h8 : 256 ^ (k + 1) ≤ 256 ^ 8 := Nat.pow_le_pow_right (by omega) (by omega)
    have : 256 ^ k * x < 256 ^ (k + 1) := by rw [Nat.pow_succ]; exact Nat.mul_lt_mul_of_pos_left hb (Nat.pow_pos (by omega))
    omega
  rw [e, wrap_u64_nat (by unfold okSize; omega), or_step v x k hv hb (by omega)]

/-- v << 8 | x. -/
theorem high_or (l : List UInt8) (p n k : Nat) (h : p + n ≤ l.length) (hk : k < n) (hn : n ≤ 8) :
    bits BinOp.or IntKind.u64 (IntKind.u64.wrap (((be ((seg l p n).take k) : Nat) : Int) * 256)) (bAt (seg l p n) k : Int) = (be ((seg l p n).take (k + 1)) : Int) := by
  rw [be_seg_step l p n k h hk, bAt_seg l p n k hk]
  have hb := bAt_lt l (p + k)
  have hs := be_seg_small l p n (k + 1) h hk hn
  rw [be_seg_step l p n k h hk] at hs
  generalize bAt l (p + k) = x at hb hs
  generalize be ((seg l p n).take k) = v at hs
  unfold okSize at hs
  have e : IntKind.u64.wrap ((v : Int) * 256) = ((v * 256 : Nat) : Int) := by rw [wrap_u64_of (by omega) (by omega)]; omega
  have h1 : v * 256 < 18446744073709551616 := Nat.lt_of_le_of_lt (Nat.le_add_right _ _) hs
  have h2 : x < 18446744073709551616 := Nat.lt_of_le_of_lt (Nat.le_add_left _ _) hs
  have h3 : v * 256 % 2 ^ 8 = 0 := Nat.mul_mod_left _ _
  have h4 : x < 2 ^ 8 := hb
  rw [e, u64_or_nat (v * 256) x h1 h2, nat_join 8 (v * 256) x h3 h4]

set_option maxRecDepth 100000 in
set_option maxHeartbeats 1000000 in
theorem rlow_yes (r p : Nat) (bs : List UInt8) (w : World) (h : Rdr w r bs p) (n : Nat) (h1 : 1 ≤ n) (h8 : n ≤ 8) (hn : p + n ≤ bs.length) :
    Calls Try.prog 15 #[.pointer (some ⟨r, 0, none⟩), .int .i64 n] w (StepPost w r bs (.tuple #[.int .u64 (le (seg bs p n)), .bool true]) (p + n)) := by
  have C := Lib.hid (rnext_yes r p bs w h n h1 h8 hn)
  have HN := Lib.hid hn
  clear h hn
  go_enter Try.func15, Try.ntmps15
  go_wp2_with fail
  refine C.out.mono ?_
  rintro e w1 ⟨a, cap, rfl, hr, ha, hrd, hch⟩
  have HR := Lib.hid hr
  have HF : Hid (Rdr w1 r bs (p + n) ∧ Chg (fun k => k = r) w w1) := ⟨hrd, hch⟩
  clear hr ha hrd hch
  go_wp2_with fail
  go_loop [8, 19] (fun v i => ∃ k : Nat, k ≤ n ∧ i = .int .i64 k ∧ v = .int .u64 (le ((seg bs p n).take k))) (fun _ i => n - (intOf i).toNat)
  case atStart => exact ⟨0, by omega, rfl, rfl⟩
  case round =>
    obtain ⟨k, hk, rfl, rfl⟩ := hrel
    by_cases hlt : k < n
    · obtain ⟨b, o, rfl, hcc⟩ := HR.out.at k hlt
      have q := bAt_bd (seg bs p n) k
      go_wp2_with fail
      go_round
      case rel => exact ⟨k + 1, by omega, by simp, by rw [low_or bs p n k HN.out hlt h8]⟩
      case measure => simp [intOf]; omega
    · obtain rfl : k = n := by omega
      have hf : Hid ((seg bs p k).take k = seg bs p k) := List.take_of_length_le (by rw [seg_length _ _ _ HN.out]; omega)
      go_wp2_with fail
      go_ret2
      exact ⟨by rw [hf.out]; rfl, HF.out⟩

set_option maxRecDepth 100000 in
set_option maxHeartbeats 1000000 in
theorem rhigh_yes (r p : Nat) (bs : List UInt8) (w : World) (h : Rdr w r bs p) (n : Nat) (h1 : 1 ≤ n) (h8 : n ≤ 8) (hn : p + n ≤ bs.length) :
    Calls Try.prog 17 #[.pointer (some ⟨r, 0, none⟩), .int .i64 n] w (StepPost w r bs (.tuple #[.int .u64 (be (seg bs p n)), .bool true]) (p + n)) := by
  have C := Lib.hid (rnext_yes r p bs w h n h1 h8 hn)
  have HN := Lib.hid hn
  clear h hn
  go_enter Try.func17, Try.ntmps17
  go_wp2_with fail
  refine C.out.mono ?_
  rintro e w1 ⟨a, cap, rfl, hr, ha, hrd, hch⟩
  have HR := Lib.hid hr
  have HF : Hid (Rdr w1 r bs (p + n) ∧ Chg (fun k => k = r) w w1) := ⟨hrd, hch⟩
  clear hr ha hrd hch
  go_wp2_with fail
  go_loop [8, 19] (fun v i => ∃ k : Nat, k ≤ n ∧ i = .int .i64 k ∧ v = .int .u64 (be ((seg bs p n).take k))) (fun _ i => n - (intOf i).toNat)
  case atStart => exact ⟨0, by omega, rfl, rfl⟩
  case round =>
    obtain ⟨k, hk, rfl, rfl⟩ := hrel
    by_cases hlt : k < n
    · obtain ⟨b, o, rfl, hcc⟩ := HR.out.at k hlt
      have q := bAt_bd (seg bs p n) k
      go_wp2_with fail
      go_round
      case rel => exact ⟨k + 1, by omega, by simp, by rw [high_or bs p n k HN.out hlt h8]⟩
      case measure => simp [intOf]; omega
    · obtain rfl : k = n := by omega
      have hf : Hid ((seg bs p k).take k = seg bs p k) := List.take_of_length_le (by rw [seg_length _ _ _ HN.out]; omega)
      go_wp2_with fail
      go_ret2
      exact ⟨by rw [hf.out]; rfl, HF.out⟩

set_option maxRecDepth 100000 in
set_option maxHeartbeats 1000000 in
theorem rlow_no (r p : Nat) (bs : List UInt8) (w : World) (h : Rdr w r bs p) (n : Int) (hn : n < 1 ∨ 8 < n ∨ (bs.length : Int) - p < n) :
    Calls Try.prog 15 #[.pointer (some ⟨r, 0, none⟩), .int .i64 n] w fun e w' => e = .returned (.tuple #[.int .u64 0, .bool false]) ∧ ∃ n, w.drewN n = w' := by
  have C := Lib.hid (rnext_no r p bs w h n hn)
  clear h hn
  go_enter Try.func15, Try.ntmps15
  go_wp2_with fail
  refine C.out.mono ?_
  rintro e w1 ⟨rfl, nd, rfl⟩
  go_wp2_with fail
  refine wp_loop_once ?_
  go_wp2_with fail
  go_ret2
  exact ⟨rfl, _, rfl⟩

set_option maxRecDepth 100000 in
set_option maxHeartbeats 1000000 in
theorem rhigh_no (r p : Nat) (bs : List UInt8) (w : World) (h : Rdr w r bs p) (n : Int) (hn : n < 1 ∨ 8 < n ∨ (bs.length : Int) - p < n) :
    Calls Try.prog 17 #[.pointer (some ⟨r, 0, none⟩), .int .i64 n] w fun e w' => e = .returned (.tuple #[.int .u64 0, .bool false]) ∧ ∃ n, w.drewN n = w' := by
  have C := Lib.hid (rnext_no r p bs w h n hn)
  clear h hn
  go_enter Try.func17, Try.ntmps17
  go_wp2_with fail
  refine C.out.mono ?_
  rintro e w1 ⟨rfl, nd, rfl⟩
  go_wp2_with fail
  refine wp_loop_once ?_
  go_wp2_with fail
  go_ret2
  exact ⟨rfl, _, rfl⟩

end Go.Proofs.Ythahhjmgjlkmfaa
