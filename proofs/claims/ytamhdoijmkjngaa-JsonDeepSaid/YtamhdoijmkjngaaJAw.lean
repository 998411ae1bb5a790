/- The law's awake (json). -/
import Derived.Test.YtamhdoijmkjngaaJBk
namespace Go.Proofs.Ytamhdoijmkjngaa
open Go.RowKit
set_option linter.unusedVariables false
set_option linter.unusedSimpArgs false

theorem aw23a : parseP (sl ⟨#[91, 49, 44, 93]⟩) 5 = .bad 3 3 := by kernel_rfl
theorem aw23b : parseP (sl ⟨#[123, 34, 97, 34, 58, 91, 93, 125]⟩) 2 = .ok (.mk 7 [] (.cons [97] (.mk 6 [] .nil) .nil)) 0 := by kernel_rfl

set_option maxRecDepth 100000 in
set_option maxHeartbeats 4000000 in
theorem awake23 (w : World) : Calls Try.prog 32 #[] w fun e w' => e = .returned (.bool true) ∧ Below w.heap.size w w' := by
  have CA := fun W => Lib.hid (parse_no ⟨#[91, 49, 44, 93]⟩ (by decide) 5 (by omega) 3 3 aw23a W)
  have CB := fun W => Lib.hid (parse_yes ⟨#[123, 34, 97, 34, 58, 91, 93, 125]⟩ (by decide) 2 (by omega) _ 0 aw23b W)
  go_enter Try.func32, Try.ntmps32
  go_wp2_with fail
  refine (CA _).out.mono ?_
  rintro e w1 ⟨rfl, _, hb1⟩
  simp only [jCells]
  have hB2 : Below w1.heap.size w1 ((w1.alloc (.cells #[.int .i64 0, .string ⟨#[]⟩, .slice none 0 0] 24)).alloc (.cells #[.int .i64 3, .int .i64 3, .slice none 0 0] 36)) := ((Below.refl _ _).alloc (Nat.le_refl _) _).alloc (by simp) _
  have HB2 := Lib.hid (hb1.trans (hB2.mono hb1.size))
  clear hb1 hB2
  go_wp2_with fail
  refine (CB _).out.mono ?_
  rintro e w3 ⟨⟨k, x, ak, nk, ck, rfl, hrd⟩, hb3⟩
  obtain ⟨x', ak', nk', ck', hcc, _, _, _, hml, _, hm⟩ := hrd
  simp only [jCells] at hcc
  injection hcc with hcc
  simp only [List.cons.injEq, Value.int.injEq, Value.slice.injEq, true_and, and_true] at hcc
  obtain ⟨rfl, _, rfl, rfl, rfl⟩ := hcc
  obtain ⟨⟨b, o, c, y, rfl, hSb, hy, hys, hc0, _, _⟩, _⟩ := hm
  obtain rfl : nk = 1 := hml.symm
  have e0 : w3.cell? ⟨w1.heap.size + 1, 0, none⟩ = some (.int .i64 3) := cell_below hb3 (by simp [go_sem])
  have e1 : w3.cell? ⟨w1.heap.size + 1, 1, none⟩ = some (.int .i64 3) := cell_below hb3 (by simp [go_sem])
  have hz : w1.heap.size + 2 ≤ w3.heap.size := by have := hb3.size; simp at this; omega
  have l1 : w1.heap.size + 1 < w3.heap.size := by omega
  have lb : b < w3.heap.size := by simpa using cell_block hc0
  have lb2 : b < w3.heap.size + 1 := by omega
  have l0 : w1.heap.size < w3.heap.size := by omega
  simp only [Nat.zero_mul, Nat.add_zero] at hc0
  have HB3 := Lib.hid (HB2.out.trans (hb3.mono HB2.out.size))
  have hyb : (y.toList == [97]) = true := by rw [toList_sl, hy]; rfl
  clear hb3 hSb hy hml CA CB
  go_wp2_with fail
  go_ret
  exact ⟨rfl, ((HB3.out.alloc HB3.out.size _).alloc (by have := HB3.out.size; simp; omega) _)⟩

end Go.Proofs.Ytamhdoijmkjngaa
