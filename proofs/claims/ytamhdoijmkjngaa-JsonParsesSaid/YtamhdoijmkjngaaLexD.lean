/- strings.IndexByte and strings.HasPrefix, walked; the signs behind a backslash. -/
import Derived.Test.YtamhdoijmkjngaaLexC
import Derived.Lib.Bytealg
import Derived.Lib.Strings
namespace Go.Proofs.Ytamhdoijmkjngaa
open Go.RowKit
set_option linter.unusedVariables false
set_option linter.unusedSimpArgs false

set_option maxHeartbeats 1000000 in
set_option maxRecDepth 100000 in
theorem sidx0_calls (s : ByteArray) (cv : Int) (w : World) :
    Calls Try.prog 80 #[.string s, .int .u8 cv] w fun e w' => e = .returned (.int .i64 (Lib.indexByte (sl s) cv.toNat.toUInt8)) ∧ w = w' := by
  have R := Lib.run_indexByteString (P := Try.prog) s cv w
  rw [show s.data.toList = sl s from rfl] at R
  generalize Lib.indexByte (sl s) cv.toNat.toUInt8 = k at R
  go_enter Try.func80, Try.ntmps80
  go_wp2
  rw [run_callFunc_extern Try.func87 (by kernel_rfl) (by kernel_rfl) (by kernel_rfl) (e := Extern.BytealgIndexByte.indexByte) (by kernel_rfl), R]
  simp only [Result.andThen]
  rw [Oper.upon_value]
  go_wp2
  go_ret
  exact ⟨rfl, rfl⟩

set_option maxHeartbeats 1000000 in
set_option maxRecDepth 100000 in
theorem sidx_calls (s : ByteArray) (cv : Int) (w : World) :
    Calls Try.prog 60 #[.string s, .int .u8 cv] w fun e w' => e = .returned (.int .i64 (Lib.indexByte (sl s) cv.toNat.toUInt8)) ∧ w = w' := by
  have C := Lib.hid (sidx0_calls s cv w)
  generalize Lib.indexByte (sl s) cv.toNat.toUInt8 = k at C
  go_enter Try.func60, Try.ntmps60
  go_wp2_with fail
  refine C.out.mono ?_
  rintro e w' ⟨rfl, rfl⟩
  go_wp2_with fail
  go_ret
  exact ⟨rfl, rfl⟩

theorem ext_eq {s p : ByteArray} (h : p.size ≤ s.size) : ((s.extract 0 p.size).toList == p.toList) = pre (sl p) (sl s) := by
  have e1 := Lib.hasPrefix_raw s p
  have e2 := Lib.hasPrefix_of_take (sl s) (sl p)
  rw [decide_eq_true h, Bool.true_and] at e1
  rw [decide_eq_true (by rw [sl_len, sl_len]; exact h), Bool.true_and] at e2
  rw [e1]
  exact e2.symm

set_option maxHeartbeats 1000000 in
set_option maxRecDepth 100000 in
theorem hasp0_calls (s p : ByteArray) (w : World) :
    Calls Try.prog 82 #[.string s, .string p] w fun e w' => e = .returned (.bool (pre (sl p) (sl s))) ∧ w = w' := by
  by_cases h : p.size ≤ s.size
  · have E := ext_eq h
    generalize pre (sl p) (sl s) = b at E
    go_enter Try.func82, Try.ntmps82
    go_wp2_with fail
    go_ret
    exact ⟨rfl, rfl⟩
  · have E : pre (sl p) (sl s) = false := by
      cases hb : pre (sl p) (sl s) with
      | false => rfl
      | true => have := pre_len hb; rw [sl_len, sl_len] at this; omega
    rw [E]
    clear E
    go_enter Try.func82, Try.ntmps82
    go_wp2_with fail
    go_ret
    exact ⟨rfl, rfl⟩

set_option maxHeartbeats 1000000 in
set_option maxRecDepth 100000 in
theorem hasp_calls (s p : ByteArray) (b : Bool) (hb : pre (sl p) (sl s) = b) (w : World) :
    Calls Try.prog 69 #[.string s, .string p] w fun e w' => e = .returned (.bool b) ∧ w = w' := by
  have C := Lib.hid (hasp0_calls s p w)
  rw [hb] at C
  clear hb
  go_enter Try.func69, Try.ntmps69
  go_wp2_with fail
  refine C.out.mono ?_
  rintro e w' ⟨rfl, rfl⟩
  go_wp2_with fail
  go_ret
  exact ⟨rfl, rfl⟩

end Go.Proofs.Ytamhdoijmkjngaa
