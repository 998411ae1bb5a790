/- bytes.IndexByte, walked; the library's own entry stands in for what has no body. -/
import Derived.Lib.BytesEntry
import Derived.Lib.SlFresh
import Derived.Lib.Strings
import Derived.Test.YtkcfkdmffbhljaaMA
namespace Go.Proofs.Ytkcfkdmffbhljaa
open Go.RowKit
set_option linter.unusedVariables false
set_option linter.unusedSimpArgs false

theorem run_index {P : Program} (a : Option Addr) (n cap : Nat) (l : List UInt8) (cv : Int) (w : World) (h : RdB w a n l) :
    (Extern.BytealgIndexByte.indexByte #[.slice a n cap, .int .u8 cv]).run P w = .ok (.int .i64 (Lib.indexByte l cv.toNat.toUInt8)) w := by
  by_cases hn : n = 0
  · subst hn
    have hl : l = [] := List.eq_nil_of_length_eq_zero h.1
    subst hl
    have hs := Lib.run_indexByteString (P := P) .empty cv w
    cases a <;> exact hs
  · obtain ⟨b, o, rfl, _⟩ := h.at 0 (by omega)
    have := Lib.run_indexByteSlice (P := P) w b o n cap (l.map fun x => ((x.toNat : Nat) : Int)) (by simpa using h.1) (fun i hi => by
      obtain ⟨b', o', ha, hc⟩ := h.at i hi
      simp only [Option.some.injEq, Addr.mk.injEq, and_true] at ha
      obtain ⟨rfl, rfl⟩ := ha
      rw [hc]
      have hl : i < l.length := by rw [h.1]; exact hi
      simp only [bAt, List.getD_eq_getElem?_getD, List.getElem?_map, List.getElem?_eq_getElem hl]
      rfl) cv
    rw [this]
    congr 3
    simp [Lib.bytesOf, List.map_map, Function.comp_def]

set_option maxHeartbeats 1000000 in
set_option maxRecDepth 100000 in
theorem index_calls (a : Option Addr) (n cap : Nat) (l : List UInt8) (cv : Int) (w : World) (h : RdB w a n l) :
    Calls Try.prog 72 #[.slice a n cap, .int .u8 cv] w fun e w' => e = .returned (.int .i64 (Lib.indexByte l cv.toNat.toUInt8)) ∧ w = w' := by
  have R := run_index (P := Try.prog) a n cap l cv w h
  generalize Lib.indexByte l cv.toNat.toUInt8 = k at R
  clear h
  go_enter Try.func72, Try.ntmps72
  go_wp2
  rw [run_callFunc_extern Try.func93 (by kernel_rfl) (by kernel_rfl) (by kernel_rfl) (e := Extern.BytealgIndexByte.indexByte) (by kernel_rfl), R]
  simp only [Result.andThen]
  rw [Oper.upon_value]
  go_wp2
  go_ret
  exact ⟨rfl, rfl⟩
end Go.Proofs.Ytkcfkdmffbhljaa
