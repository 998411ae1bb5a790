/- The first zero; a text that is whole (out of the texts of layers 2, 22). -/
import Derived.Test.YtkcfkdmffbhljaaConv
import Derived.Test.YtkcfkdmffbhljaaUtf9
import Derived.Lib.Bytealg
import Derived.Lib.Strings
namespace Go.Proofs.Ytkcfkdmffbhljaa
open Go.RowKit
set_option linter.unusedVariables false
set_option linter.unusedSimpArgs false

/-- How many bytes stand ahead of a byte 0. -/
def zeroIn : List UInt8 → Nat
  | [] => 0
  | b :: r => if b = 0 then 0 else zeroIn r + 1

theorem zeroIn_le : ∀ l, zeroIn l ≤ l.length
  | [] => by simp [zeroIn]
  | b :: r => by
    have := zeroIn_le r
    simp only [zeroIn, List.length_cons]
    split <;> omega

theorem index_zero : ∀ l : List UInt8, Lib.indexByte l 0 = if zeroIn l < l.length then (zeroIn l : Int) else -1
  | [] => rfl
  | b :: r => by
    have ih := index_zero r
    have hle := zeroIn_le r
    unfold Lib.indexByte
    rw [ih]
    by_cases hb : b = 0
    · subst hb
      simp [zeroIn]
    · have hz : zeroIn (b :: r) = zeroIn r + 1 := by simp only [zeroIn]; rw [if_neg hb]
      rw [if_neg (by simpa using hb), hz]
      by_cases h : zeroIn r < r.length
      · have e : ((zeroIn r : Int) == -1) = false := by rw [beq_eq_false_iff_ne]; omega
        simp [h, e]
      · simp [h]

theorem zeroIn_drop : ∀ (l : List UInt8) (k : Nat), k ≤ zeroIn l → zeroIn l = k + zeroIn (l.drop k)
  | l, 0, _ => by simp
  | [], k + 1, h => by simp [zeroIn] at h
  | b :: r, k + 1, h => by
    simp only [zeroIn] at h ⊢
    split at h
    · omega
    · rename_i hb
      rw [if_neg hb, List.drop_succ_cons, zeroIn_drop r k (by omega)]
      omega

set_option maxRecDepth 100000 in
set_option maxHeartbeats 2000000 in
theorem rwhole_calls (s : ByteArray) (hs : s.size ≤ 1048576) (w : World) :
    Calls Try.prog 90 #[.string s] w fun e w' => e = .returned (.bool (wholeTo (sl s) == s.size)) ∧ Below w.heap.size w w' := by
  obtain ⟨cap3, w3, hrun, hb3, hs3, hr3, hz1, hz2⟩ := conv_bytes w s hs
  have C := Lib.hid (rcheck_calls _ _ cap3 w3 _ hr3)
  have HB := Lib.hid hb3
  generalize (wholeTo (sl s) == s.size) = b at C
  generalize wholeTo (sl s) = n at C
  clear hr3 hz1 hz2 hb3
  go_enter Try.func90, Try.ntmps90
  go_wp2_with fail
  refine C.out.mono ?_
  rintro e w4 ⟨rfl, rfl⟩
  go_wp2_with fail
  go_ret
  exact ⟨rfl, HB.out⟩

set_option maxHeartbeats 1000000 in
set_option maxRecDepth 100000 in
theorem sidx0_calls (s : ByteArray) (cv : Int) (w : World) :
    Calls Try.prog 109 #[.string s, .int .u8 cv] w fun e w' => e = .returned (.int .i64 (Lib.indexByte (sl s) cv.toNat.toUInt8)) ∧ w = w' := by
  have R := Lib.run_indexByteString (P := Try.prog) s cv w
  rw [show s.data.toList = sl s from rfl] at R
  generalize Lib.indexByte (sl s) cv.toNat.toUInt8 = k at R
  go_enter Try.func109, Try.ntmps109
  go_wp2
  rw [run_callFunc_extern Try.func113 (by kernel_rfl) (by kernel_rfl) (by kernel_rfl) (e := Extern.BytealgIndexByte.indexByte) (by kernel_rfl), R]
  simp only [Result.andThen]
  rw [Oper.upon_value]
  go_wp2
  go_ret
  exact ⟨rfl, rfl⟩

end Go.Proofs.Ytkcfkdmffbhljaa
