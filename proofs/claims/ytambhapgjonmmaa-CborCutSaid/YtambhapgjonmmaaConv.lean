/- A text made bytes. -/
import Derived.Test.YtambhapgjonmmaaSl
import Derived.Laws.IdiomStrings
namespace Go.Proofs.Ytambhapgjonmmaa
open Go.RowKit
set_option linter.unusedVariables false
set_option linter.unusedSimpArgs false

/-- A text as bytes: a new row. -/
theorem conv_bytes (w : World) (s : ByteArray) (hs : s.size ≤ 1048576) : ∃ cap w', (convert 9 23 (.string s)).run Try.prog w = .ok (.slice (some ⟨w.heap.size, 0, none⟩) s.size cap) w' ∧ Below w.heap.size w w' ∧ w.heap.size < w'.heap.size ∧
    RdB w' (some ⟨w.heap.size, 0, none⟩) s.size (sl s) ∧ s.size ≤ cap ∧ ∀ j, j < s.size → w'.frozen? ⟨w.heap.size, j, none⟩ = false := by
  have hr := run_bytes_of_string (P := Try.prog) w 9 23 5 s Try.underlying9 Try.underlying23 Try.underlying5
  have hcap := grownCap_ge w s.size 0 5
  generalize grownCap w s.size 0 5 = cap at hr hcap
  have hbs : (bytesRow s cap).size = cap := by unfold bytesRow; simp; omega
  rw [hbs] at hr
  have hn : (w.drew.alloc (.cells (bytesRow s cap) 5 (cap, cap + 1))).heap[w.heap.size]? = some (.cells (bytesRow s cap) 5 (cap, cap + 1)) := heap_alloc_new w.drew _
  refine ⟨cap, _, hr, ((Below.refl w.heap.size w).drew).alloc (Nat.le_refl _) _, by simp, ⟨sl_len s, ?_, fun i hi => ⟨w.heap.size, 0, rfl, ?_⟩⟩, hcap, fun j hj => ?_⟩
  · omega
  · rw [Nat.zero_add, cell_of_row _ w.heap.size i _ _ _ hn]
    have h1 : i < (sl s).length := by rw [sl_len]; exact hi
    have e : (bytesRow s cap)[i]? = some (.int .u8 (((sl s)[i]'h1).toNat : Nat)) := by
      unfold bytesRow
      rw [Array.getElem?_append_left (by simpa using hi)]
      rw [Array.getElem?_map]
      have h2 : s.data[i]? = some ((sl s)[i]'h1) := by
        rw [Array.getElem?_eq_getElem (by simpa using hi)]
        rfl
      rw [h2]
      rfl
    rw [e]
    simp only [bAt, List.getD_eq_getElem?_getD, List.getElem?_eq_getElem h1, Option.getD_some]
  · unfold World.frozen?
    simp only [hn]
    simp
    omega

end Go.Proofs.Ytambhapgjonmmaa
