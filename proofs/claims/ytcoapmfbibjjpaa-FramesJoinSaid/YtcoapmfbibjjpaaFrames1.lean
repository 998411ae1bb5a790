/- The length of a frame: the program's and the reference's Length tell the same. -/
import Derived.Test.YtcoapmfbibjjpaaNum
namespace Go.Proofs.Ytcoapmfbibjjpaa
open Go.RowKit
set_option linter.unusedVariables false
set_option linter.unusedSimpArgs false

/-- The number of four bytes, with its sign. -/
def len4 (l : List UInt8) (p : Nat) : Int := if le (seg l p 4) < 2147483648 then (le (seg l p 4) : Int) else (le (seg l p 4) : Int) - 4294967296

theorem le_seg4 (l : List UInt8) (p : Nat) (h : p + 4 ≤ l.length) : le (seg l p 4) = bAt l p + 256 * (bAt l (p + 1) + 256 * (bAt l (p + 2) + 256 * bAt l (p + 3))) := by
  have e0 := le_seg_drop l p 4 0 h (by omega)
  have e1 := le_seg_drop l p 4 1 h (by omega)
  have e2 := le_seg_drop l p 4 2 h (by omega)
  have e3 := le_seg_drop l p 4 3 h (by omega)
  have e4 : (seg l p 4).drop 4 = [] := List.drop_of_length_le (by rw [seg_length _ _ _ h]; omega)
  simp only [Nat.reduceAdd, List.drop_zero, Nat.add_zero] at e0 e1 e2 e3
  rw [e4] at e3
  simp only [le] at e3
  omega

theorem or_four (a b c d : Nat) (ha : a < 256) (hb : b < 256) (hc : c < 256) (hd : d < 256) :
    bits BinOp.or IntKind.u32 (bits BinOp.or IntKind.u32 (bits BinOp.or IntKind.u32 (a : Int) ((b : Int) * 256)) ((c : Int) * 65536)) ((d : Int) * 16777216) = ((a + 256 * (b + 256 * (c + 256 * d)) : Nat) : Int) := by
  rw [show (b : Int) * 256 = ((b * 256 : Nat) : Int) from by omega, show (c : Int) * 65536 = ((c * 65536 : Nat) : Int) from by omega, show (d : Int) * 16777216 = ((d * 16777216 : Nat) : Int) from by omega]
  rw [u32_or_nat a (b * 256) (by omega) (by omega), Nat.or_comm, nat_join 8 (b * 256) a (by omega) (by omega)]
  rw [u32_or_nat _ (c * 65536) (by omega) (by omega), Nat.or_comm, nat_join 16 (c * 65536) _ (by omega) (by omega)]
  rw [u32_or_nat _ (d * 16777216) (by omega) (by omega), Nat.or_comm, nat_join 24 (d * 16777216) _ (by omega) (by omega)]
  omega

theorem len4_wraps (l : List UInt8) (p : Nat) (h : p + 4 ≤ l.length) :
    wrap64 (wrap32 (bits BinOp.or IntKind.u32 (bits BinOp.or IntKind.u32 (bits BinOp.or IntKind.u32 (bAt l p : Int) ((bAt l (p + 1) : Int) * 256)) ((bAt l (p + 2) : Int) * 65536)) ((bAt l (p + 3) : Int) * 16777216))) = len4 l p := by
  have h0 := bAt_lt l p
  have h1 := bAt_lt l (p + 1)
  have h2 := bAt_lt l (p + 2)
  have h3 := bAt_lt l (p + 3)
  rw [or_four _ _ _ _ h0 h1 h2 h3]
  unfold len4
  rw [le_seg4 l p h]
  unfold wrap64 wrap32
  split <;> omega

theorem len4_bd (l : List UInt8) (p : Nat) (h : p + 4 ≤ l.length) : -2147483648 ≤ len4 l p ∧ len4 l p ≤ 2147483647 := by
  have := le_lt (seg l p 4)
  rw [seg_length l p 4 h] at this
  unfold len4
  split <;> omega

set_option maxRecDepth 100000 in
set_option maxHeartbeats 1000000 in
theorem length_yes (a : Option Addr) (len cap p : Nat) (w : World) (l : List UInt8) (h : RdB w a len l) (h0 : p + 4 ≤ len) :
    Calls Try.prog 16 #[.slice a len cap, .int .i64 p] w fun e w' => e = .returned (.tuple #[.int .i64 (len4 l p), .bool true]) ∧ ∃ n, w.drewN n = w' := by
  have hm := h.2.1
  obtain ⟨b, o, rfl, c0⟩ := h.at p (by omega)
  obtain ⟨b1, o1, e1, c1⟩ := h.at (p + 1) (by omega)
  obtain ⟨b2, o2, e2, c2⟩ := h.at (p + 2) (by omega)
  obtain ⟨b3, o3, e3, c3⟩ := h.at (p + 3) (by omega)
  simp only [Option.some.injEq, Addr.mk.injEq, and_true] at e1 e2 e3
  obtain ⟨rfl, rfl⟩ := e1
  obtain ⟨rfl, rfl⟩ := e2
  obtain ⟨rfl, rfl⟩ := e3
  have H := Lib.hid h
  have q0 := bAt_bd l p
  have q1 := bAt_bd l (p + 1)
  have q2 := bAt_bd l (p + 2)
  have q3 := bAt_bd l (p + 3)
  have k1 : ((p : Int) + 1).toNat = p + 1 := by omega
  have k2 : ((p : Int) + 2).toNat = p + 2 := by omega
  have k3 : ((p : Int) + 3).toNat = p + 3 := by omega
  clear h
  go_enter Try.func16, Try.ntmps16
  go_wp2
  go_quiet (fail)
  go_wp2
  go_ret2
  refine ⟨?_, _, rfl⟩
  rw [← len4_wraps l p (by rw [H.out.1]; exact h0)]
  rfl

set_option maxRecDepth 100000 in
set_option maxHeartbeats 1000000 in
theorem length_no (a : Option Addr) (len cap : Nat) (p : Int) (w : World) (hm : len ≤ 9223372036854775807) (h : p < 0 ∨ (len : Int) < p + 4) (hp : p ≤ 9223372036854775807) :
    Calls Try.prog 16 #[.slice a len cap, .int .i64 p] w fun e w' => e = .returned (.tuple #[.int .i64 0, .bool false]) ∧ w = w' := by
  by_cases h1 : p < 0
  · go_enter Try.func16, Try.ntmps16
    go_wp2
    go_ret2
    exact ⟨rfl, rfl⟩
  · have h2 : (len : Int) - 4 < p := by omega
    clear h
    go_enter Try.func16, Try.ntmps16
    go_wp2
    go_ret2
    exact ⟨rfl, rfl⟩

set_option maxRecDepth 100000 in
set_option maxHeartbeats 1000000 in
theorem rlength_core (a : Option Addr) (len cap p : Nat) (w : World) (m : Nat) (r : Int) (hm : (m : Int) < 4294967296) (hr : Hid (r = if (m : Int) < 2147483648 then (m : Int) else (m : Int) - 4294967296))
    (c : Hid (Calls Try.prog 21 #[.slice a len cap, .int .i64 p, .int .i64 4] w fun e w' => e = .returned (.tuple #[.int .u64 m, .bool true]) ∧ w = w')) :
    Calls Try.prog 17 #[.slice a len cap, .int .i64 p] w fun e w' => e = .returned (.tuple #[.int .i64 r, .bool true]) ∧ w = w' := by
  by_cases hs : (m : Int) < 2147483648
  · have hR := Lib.hid (hr.out.trans (if_pos hs))
    have hd : decide ((2147483648 : Int) ≤ (m : Int)) = false := by simpa using hs
    clear hs hr
    go_enter Try.func17, Try.ntmps17
    go_wp2_with (go_at_call 21; refine c.out.mono ?_; rintro e w' ⟨rfl, rfl⟩)
    go_ret2
    exact ⟨by rw [hR.out]; rfl, rfl⟩
  · have hR := Lib.hid (hr.out.trans (if_neg hs))
    have hs' : 2147483648 ≤ (m : Int) := by omega
    clear hs hr
    go_enter Try.func17, Try.ntmps17
    go_wp2_with (go_at_call 21; refine c.out.mono ?_; rintro e w' ⟨rfl, rfl⟩)
    go_ret2
    exact ⟨by rw [hR.out]; rfl, rfl⟩

theorem rlength_yes (a : Option Addr) (len cap p : Nat) (w : World) (l : List UInt8) (h : RdB w a len l) (h0 : p + 4 ≤ len) :
    Calls Try.prog 17 #[.slice a len cap, .int .i64 p] w fun e w' => e = .returned (.tuple #[.int .i64 (len4 l p), .bool true]) ∧ w = w' := by
  have s := le_lt (seg l p 4)
  rw [seg_length l p 4 (by rw [h.1]; omega)] at s
  refine rlength_core a len cap p w (le (seg l p 4)) (len4 l p) (by omega) ?_ (low_yes a len cap p 4 w l h h0 (by omega) (by omega))
  show len4 l p = _
  unfold len4
  by_cases hs : le (seg l p 4) < 2147483648
  · rw [if_pos hs, if_pos (by omega)]
  · rw [if_neg hs, if_neg (by omega)]

set_option maxRecDepth 100000 in
set_option maxHeartbeats 1000000 in
theorem rlength_no (a : Option Addr) (len cap : Nat) (p : Int) (w : World) (hm : len ≤ 9223372036854775807) (h : p < 0 ∨ (len : Int) < p + 4) (hp : p ≤ 9223372036854775807) :
    Calls Try.prog 17 #[.slice a len cap, .int .i64 p] w fun e w' => e = .returned (.tuple #[.int .i64 0, .bool false]) ∧ w = w' := by
  have c' := Lib.hid (low_no a len cap p 4 w hm (by omega) (by omega) hp)
  clear h
  go_enter Try.func17, Try.ntmps17
  go_wp2_with (go_at_call 21; refine c'.out.mono ?_; rintro e w' ⟨rfl, rfl⟩)
  go_ret2
  exact ⟨rfl, rfl⟩

end Go.Proofs.Ytcoapmfbibjjpaa
