/- The first zero; a text that is whole (out of the texts of layers 2, 22). tree.whole; the reference's Zero and Named. -/
import Derived.Test.YtkcfkdmffbhljaaMU
import Derived.Lib.Bytealg
import Derived.Lib.Strings
namespace Go.Proofs.Ytkcfkdmffbhljaa
open Go.RowKit
set_option linter.unusedVariables false
set_option linter.unusedSimpArgs false

/-- How many bytes stand ahead of a byte 0. -/
def zeroIn : List UInt8 → Nat
  | [] => 0
  | b :: r => if b = 0 then 0 else zeroIn r + 1

theorem zeroIn_le : ∀ l, zeroIn l ≤ l.length
  | [] => by simp [zeroIn]
  | b :: r => by
    have := zeroIn_le r
    simp only [zeroIn, List.length_cons]
    split <;> omega

theorem index_zero : ∀ l : List UInt8, Lib.indexByte l 0 = if zeroIn l < l.length then (zeroIn l : Int) else -1
  | [] => rfl
  | b :: r => by
    have ih := index_zero r
    have hle := zeroIn_le r
    unfold Lib.indexByte
    rw [ih]
    by_cases hb : b = 0
    · subst hb
      simp [zeroIn]
    · have hz : zeroIn (b :: r) = zeroIn r + 1 := by simp only [zeroIn]; rw [if_neg hb]
      rw [if_neg (by simpa using hb), hz]
      by_cases h : zeroIn r < r.length
      · have e : ((zeroIn r : Int) == -1) = false := by rw [beq_eq_false_iff_ne]; omega
        simp [h, e]
      · simp [h]

theorem zeroIn_drop : ∀ (l : List UInt8) (k : Nat), k ≤ zeroIn l → zeroIn l = k + zeroIn (l.drop k)
  | l, 0, _ => by simp
  | [], k + 1, h => by simp [zeroIn] at h
  | b :: r, k + 1, h => by
    simp only [zeroIn] at h ⊢
    split at h
    · omega
    · rename_i hb
      rw [if_neg hb, List.drop_succ_cons, zeroIn_drop r k (by omega)]
      omega

set_option maxRecDepth 100000 in
set_option maxHeartbeats 2000000 in
theorem rwhole_calls (s : ByteArray) (hs : s.size ≤ 1048576) (w : World) :
    Calls Try.prog 90 #[.string s] w fun e w' => e = .returned (.bool (wholeTo (sl s) == s.size)) ∧ Below w.heap.size w w' := by
  obtain ⟨cap3, w3, hrun, hb3, hs3, hr3, hz1, hz2⟩ := conv_bytes w s hs
  have C := Lib.hid (rcheck_calls _ _ cap3 w3 _ hr3)
  have HB := Lib.hid hb3
  generalize (wholeTo (sl s) == s.size) = b at C
  generalize wholeTo (sl s) = n at C
  clear hr3 hz1 hz2 hb3
  go_enter Try.func90, Try.ntmps90
  go_wp2_with fail
  refine C.out.mono ?_
  rintro e w4 ⟨rfl, rfl⟩
  go_wp2_with fail
  go_ret
  exact ⟨rfl, HB.out⟩

set_option maxHeartbeats 1000000 in
set_option maxRecDepth 100000 in
theorem sidx0_calls (s : ByteArray) (cv : Int) (w : World) :
    Calls Try.prog 109 #[.string s, .int .u8 cv] w fun e w' => e = .returned (.int .i64 (Lib.indexByte (sl s) cv.toNat.toUInt8)) ∧ w = w' := by
  have R := Lib.run_indexByteString (P := Try.prog) s cv w
  rw [show s.data.toList = sl s from rfl] at R
  generalize Lib.indexByte (sl s) cv.toNat.toUInt8 = k at R
  go_enter Try.func109, Try.ntmps109
  go_wp2
  rw [run_callFunc_extern Try.func113 (by kernel_rfl) (by kernel_rfl) (by kernel_rfl) (e := Extern.BytealgIndexByte.indexByte) (by kernel_rfl), R]
  simp only [Result.andThen]
  rw [Oper.upon_value]
  go_wp2
  go_ret
  exact ⟨rfl, rfl⟩

end Go.Proofs.Ytkcfkdmffbhljaa

namespace Go.Proofs.Ytkcfkdmffbhljaa
open Go.RowKit
set_option linter.unusedVariables false
set_option linter.unusedSimpArgs false

/-- Is there a zero? -/
def hasZ (l : List UInt8) : Bool := decide (zeroIn l < l.length)
theorem hasZ_index (l : List UInt8) : decide (0 ≤ Lib.indexByte l 0) = hasZ l := by
  unfold hasZ
  rw [index_zero]
  by_cases h : zeroIn l < l.length
  · rw [if_pos h]; simp [h]
  · rw [if_neg h]; simp [h]
theorem hasZ_one : hasZ [0] = true := by decide

set_option maxHeartbeats 1000000 in
set_option maxRecDepth 100000 in
theorem contains_calls (s : ByteArray) (w : World) :
    Calls Try.prog 102 #[.string s, .string ⟨#[0]⟩] w fun e w' => e = .returned (.bool (hasZ (sl s))) ∧ w = w' := by
  have C0 : ∃ r : Int, decide (0 ≤ r) = hasZ (sl s) ∧ Calls Try.prog 108 #[.string s, .string ⟨#[0]⟩] w fun e w' => e = .returned (.int .i64 r) ∧ w = w' := by
    cases hs : (([0] : List UInt8) == s.toList) with
    | true =>
      refine ⟨0, ?_, ?_⟩
      · have h1 : [0] = s.toList := by simpa using hs
        rw [ByteArray.toList_eq] at h1
        show _ = hasZ s.data.toList
        rw [← h1]; decide
      · go_enter Try.func108, Try.ntmps108
        go_wp2_with fail
        go_ret
        exact ⟨rfl, rfl⟩
    | false =>
      refine ⟨Lib.indexByte (sl s) 0, hasZ_index _, ?_⟩
      have C : Hid (∀ x : Int, x = 0 → Calls Try.prog 109 #[.string s, .int .u8 x] w fun e w' => e = .returned (.int .i64 (Lib.indexByte (sl s) 0)) ∧ w = w') := by
        show ∀ x, _
        rintro x rfl
        exact sidx0_calls s 0 w
      generalize Lib.indexByte (sl s) 0 = k at C ⊢
      go_enter Try.func108, Try.ntmps108
      go_wp2_with fail
      refine (C.out _ (by rfl)).mono ?_
      rintro e w' ⟨rfl, rfl⟩
      go_wp2_with fail
      go_ret
      exact ⟨rfl, rfl⟩
  obtain ⟨r, hr, hc⟩ := C0
  rw [← hr]
  have C := Lib.hid hc
  clear hr hc
  have C1 : Hid (Calls Try.prog 105 #[.string s, .string ⟨#[0]⟩] w fun e w' => e = .returned (.int .i64 r) ∧ w = w') := by
    show Calls ..
    go_enter Try.func105, Try.ntmps105
    go_wp2_with fail
    refine C.out.mono ?_
    rintro e w' ⟨rfl, rfl⟩
    go_wp2_with fail
    go_ret
    exact ⟨rfl, rfl⟩
  go_enter Try.func102, Try.ntmps102
  go_wp2_with fail
  refine C1.out.mono ?_
  rintro e w' ⟨rfl, rfl⟩
  go_wp2_with fail
  go_ret
  exact ⟨rfl, rfl⟩

/-- May a text be? -/
def textOk (plain : Bool) (l : List UInt8) : Bool := (wholeTo l == l.length) && !(plain && hasZ l)

set_option maxHeartbeats 1000000 in
set_option maxRecDepth 100000 in
theorem twhole_calls (s : ByteArray) (plain : Bool) (hs : s.size ≤ 1048576) (w : World) :
    Calls Try.prog 85 #[.string s, .bool plain] w fun e w' => e = .returned (.bool (textOk plain (sl s))) ∧ Below w.heap.size w w' := by
  obtain ⟨cap3, w3, hrun, hb3, hs3, hr3, hz1, hz2⟩ := conv_bytes w s hs
  have C := Lib.hid (check_calls _ _ cap3 w3 _ hr3)
  have CC := Lib.hid (contains_calls s w3)
  have HB := Lib.hid hb3
  have ht : textOk plain (sl s) = ((wholeTo (sl s) == s.size) && !(plain && hasZ (sl s))) := by unfold textOk; rw [sl_len]
  rw [ht]
  generalize (wholeTo (sl s) == s.size) = b at C
  generalize wholeTo (sl s) = n at C
  generalize hasZ (sl s) = z at CC
  clear hr3 hz1 hz2 hb3 ht
  cases b with
  | false =>
    go_enter Try.func85, Try.ntmps85
    go_wp2_with fail
    refine C.out.mono ?_
    rintro e w4 ⟨rfl, rfl⟩
    go_wp2_with fail
    go_ret
    exact ⟨rfl, HB.out⟩
  | true =>
    cases plain with
    | false =>
      go_enter Try.func85, Try.ntmps85
      go_wp2_with fail
      refine C.out.mono ?_
      rintro e w4 ⟨rfl, rfl⟩
      go_wp2_with fail
      go_ret
      exact ⟨rfl, HB.out⟩
    | true =>
      go_enter Try.func85, Try.ntmps85
      go_wp2_with fail
      refine C.out.mono ?_
      rintro e w4 ⟨rfl, rfl⟩
      go_wp2_with fail
      refine CC.out.mono ?_
      rintro e w5 ⟨rfl, rfl⟩
      go_wp2_with fail
      go_ret
      exact ⟨by cases z <;> rfl, HB.out⟩

theorem zero_here : ∀ (l : List UInt8) (k : Nat), k ≤ zeroIn l → k < l.length → (l.getD k 0 = 0 ↔ k = zeroIn l)
  | [], k, _, h => by simp at h
  | b :: r, 0, hk, h => by
    simp only [zeroIn, List.getD_cons_zero]
    by_cases hb : b = 0
    · simp [hb]
    · simp [hb]
  | b :: r, k + 1, hk, h => by
    have hb : b ≠ 0 := by
      rintro rfl
      simp [zeroIn] at hk
    have hz : zeroIn (b :: r) = zeroIn r + 1 := by simp only [zeroIn]; rw [if_neg hb]
    rw [hz, List.getD_cons_succ, zero_here r k (by omega) (by simpa using h)]
    omega

def ZerRel (w : World) (l : List UInt8) (i : Value) (wr : World) : Prop := ∃ k : Nat, i = .int .i64 k ∧ k ≤ zeroIn l ∧ wr = w

set_option maxHeartbeats 1000000 in
set_option maxRecDepth 100000 in
theorem rzero_calls (s : ByteArray) (w : World) (hs : s.size ≤ 1048576) :
    Calls Try.prog 91 #[.string s] w fun e w' => e = .returned (.bool (hasZ (sl s))) ∧ w = w' := by
  have HL := Lib.hid (zeroIn_le (sl s))
  have HS := Lib.hid (sl_len s)
  go_enter Try.func91, Try.ntmps91
  go_wp2_with fail
  go_loopw [3] (fun i wr => ZerRel w (sl s) i wr) (fun i _ => s.size - (intOf i).toNat)
  case atStart => exact ⟨0, rfl, Nat.zero_le _, rfl⟩
  case round =>
    obtain ⟨k, rfl, hk, rfl⟩ := hrel
    have HK := Lib.hid hk
    by_cases hlt : k < s.size
    · have hh := zero_here (sl s) k hk (by rw [sl_len]; exact hlt)
      rw [sl_at hlt] at hh
      by_cases hz : k = zeroIn (sl s)
      · have h0 : s[k]'hlt = 0 := hh.2 hz
        have hb : (((s[k]'hlt).toNat : Int) == 0) = true := by rw [h0]; rfl
        have HZ : Hid (hasZ (sl s) = true) := by
          show _ = _
          unfold hasZ
          rw [← hz, sl_len]
          simpa using hlt
        clear hh hz h0 hk
        go_wp2_with fail
        go_ret
        exact ⟨by rw [HZ.out]; rfl, rfl⟩
      · have h0 : ¬ s[k]'hlt = 0 := fun e => hz (hh.1 e)
        have hb : (((s[k]'hlt).toNat : Int) == 0) = false := by
          rw [beq_eq_false_iff_ne]
          intro e
          apply h0
          apply UInt8.toNat_inj.1
          have : (s[k]'hlt).toNat = 0 := by omega
          rw [this]; rfl
        have HKN : Hid (k + 1 ≤ zeroIn (sl s)) := by show _ ≤ _; omega
        clear hh hz h0 hk
        go_wp2_with fail
        go_roundw
        case rel => exact ⟨k + 1, by simp, HKN.out, rfl⟩
        case measure => simp [intOf]; omega
    · have HZ : Hid (hasZ (sl s) = false) := by
        show _ = _
        unfold hasZ
        rw [HS.out]
        simp only [decide_eq_false_iff_not]
        omega
      clear hk
      go_wp2_with fail
      go_ret
      exact ⟨by rw [HZ.out]; rfl, rfl⟩

set_option maxHeartbeats 1000000 in
set_option maxRecDepth 100000 in
theorem named_calls (s : ByteArray) (w : World) (hs : s.size ≤ 1048576) :
    Calls Try.prog 67 #[.string s] w fun e w' => e = .returned (.bool (textOk true (sl s))) ∧ Below w.heap.size w w' := by
  have C := Lib.hid (rwhole_calls s hs w)
  have CZ := Lib.hid (fun W => rzero_calls s W hs)
  have ht : textOk true (sl s) = ((wholeTo (sl s) == s.size) && !hasZ (sl s)) := by unfold textOk; rw [sl_len]; simp
  rw [ht]
  generalize (wholeTo (sl s) == s.size) = b at C
  generalize hasZ (sl s) = z at CZ
  clear ht
  cases b with
  | false =>
    go_enter Try.func67, Try.ntmps67
    go_wp2_with fail
    refine C.out.mono ?_
    rintro e w1 ⟨rfl, hb1⟩
    go_wp2_with fail
    go_ret
    exact ⟨rfl, hb1⟩
  | true =>
    go_enter Try.func67, Try.ntmps67
    go_wp2_with fail
    refine C.out.mono ?_
    rintro e w1 ⟨rfl, hb1⟩
    go_wp2_with fail
    refine (CZ.out w1).mono ?_
    rintro e w2 ⟨rfl, rfl⟩
    go_wp2_with fail
    go_ret
    exact ⟨by cases z <;> rfl, hb1⟩

end Go.Proofs.Ytkcfkdmffbhljaa
