/- Bytes made a string. -/
import Derived.Test.YtiodjhcjfbnocaaOwn
namespace Go.Proofs.Ytiodjhcjfbnocaa
open Go.RowKit
set_option linter.unusedVariables false
set_option linter.unusedSimpArgs false

/-- Bytes as a text. -/
def txt (l : List UInt8) : ByteArray := ⟨l.toArray⟩

theorem strNums (l : List UInt8) : strOfNums (l.map fun b => ((b.toNat : Nat) : Int)) = txt l := by
  unfold strOfNums txt
  congr 2
  rw [List.map_map]
  conv => rhs; rw [← List.map_id l]
  apply List.map_congr_left
  intro b _
  simp

theorem conv_str {w : World} {a : Option Addr} {len : Nat} {l : List UInt8} (h : RdB w a len l) (cap : Nat) :
    (convert 23 9 (.slice a len cap)).run Try.prog w = .ok (.string (txt l)) w := by
  rcases Nat.eq_zero_or_pos len with h0 | h0
  · subst h0
    have hl : l = [] := List.eq_nil_of_length_eq_zero h.1
    subst hl
    cases a with
    | none => exact run_convert_bytes_nil w 23 5 Try.underlying23 Try.underlying5 0 cap 9 Try.underlying9
    | some ad =>
      rw [run_convert_bytes_string w 23 9 5 _ 0 cap Try.underlying23 Try.underlying5 Try.underlying9]
      rw [run_bytesToString w ad 0 cap [] (by simp [loadCells, loadCellsFrom])]
      rfl
  · obtain ⟨b, o, rfl, _⟩ := h.at 0 h0
    rw [← strNums l]
    refine run_convert_bytes_arg w 23 5 Try.underlying23 Try.underlying5 b o len cap _ (by simpa using h.1) (fun i hi => ?_) 9 Try.underlying9
    obtain ⟨b', o', ha, hc⟩ := h.at i hi
    simp only [Option.some.injEq, Addr.mk.injEq, and_true] at ha
    obtain ⟨rfl, rfl⟩ := ha
    rw [hc]
    have hl : i < l.length := by rw [h.1]; exact hi
    simp [bAt, hl]

end Go.Proofs.Ytiodjhcjfbnocaa
