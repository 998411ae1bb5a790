/- tree.Name: which Kinds there are. -/
import Derived.Test.YtkcfkdmffbhljaaOwn
import Derived.Lib.Hide
import Derived.Deep.CutBlock
import Derived.Deep.WholeRow
namespace Go.Proofs.Ytkcfkdmffbhljaa
open Go.RowKit
set_option linter.unusedVariables false
set_option linter.unusedSimpArgs false

theorem new_cell (w : World) (cs : Array Value) (t : TypeId) (j : Nat) : (w.alloc (.cells cs t)).cell? ⟨w.heap.size, j, none⟩ = cs[j]? := by
  unfold World.cell?
  rw [heap_alloc_new w (.cells cs t)]
  simp

theorem wp_val {P : Program} {o : Oper} {a : Act} {w w' : World} {K : Act → World → Prop} {Q : Exit → Act → World → Prop} {v : Value} (h : (execOp a.eval o).run P w = .ok (.value v) w') (hk : K (a.put o.dst v) w') : o.wp P a w K Q := by
  unfold Oper.wp; rw [h]; exact hk
theorem wp_store_new {P : Program} {op : Oper} {a : Act} {w : World} {K : Act → World → Prop} {Q : Exit → Act → World → Prop} (ty : TypeId) (x y : Operand) (ho : op.op = .store ty x y)
    (c c' : Array Value) (hx : a.eval x = .pointer (some ⟨w.heap.size, 0, none⟩)) (hy : a.eval y = .agg c') (hi : (P.info? ty).map (·.size) = some c'.size) (hc : c.size = c'.size) (h1 : c'.all (·.oneCell') = true)
    (h : K (a.put op.dst undef) (w.alloc (.cells c' ty))) : op.wp P a (w.alloc (.cells c ty)) K Q := by
  unfold Oper.wp execOp
  simp only [ho, hx, hy, Instr.storeAt, Instr.sureAddr, Sem.run_bind, Sem.run_pure, Result.andThen_ok, run_storeVar_new w ty c c' hi hc h1]
  exact h
def zCells : Array Value := Array.replicate 20 (.string ⟨#[]⟩)

/-- Is there such a Kind? -/
def knownK (k : Int) : Bool := (decide (1 ≤ k) && decide (k < 20)) || k == 127 || k == 255
def noTxt (s : ByteArray) : Bool := s.toList == []
def nmCells : Array Value := #[.string ⟨#[]⟩, .string ⟨#[100, 111, 117, 98, 108, 101]⟩, .string ⟨#[115, 116, 114, 105, 110, 103]⟩, .string ⟨#[100, 111, 99, 117, 109, 101, 110, 116]⟩, .string ⟨#[97, 114, 114, 97, 121]⟩, .string ⟨#[98, 105, 110, 97, 114, 121]⟩, .string ⟨#[117, 110, 100, 101, 102, 105, 110, 101, 100]⟩, .string ⟨#[111, 98, 106, 101, 99, 116, 105, 100]⟩, .string ⟨#[98, 111, 111, 108]⟩, .string ⟨#[100, 97, 116, 101]⟩, .string ⟨#[110, 117, 108, 108]⟩, .string ⟨#[114, 101, 103, 101, 120]⟩, .string ⟨#[112, 111, 105, 110, 116, 101, 114]⟩, .string ⟨#[99, 111, 100, 101]⟩, .string ⟨#[115, 121, 109, 98, 111, 108]⟩, .string ⟨#[115, 99, 111, 112, 101, 100]⟩, .string ⟨#[105, 110, 116, 51, 50]⟩, .string ⟨#[116, 105, 109, 101, 115, 116, 97, 109, 112]⟩, .string ⟨#[105, 110, 116, 54, 52]⟩, .string ⟨#[100, 101, 99, 105, 109, 97, 108]⟩]
def nmS (n : Nat) : ByteArray := match nmCells[n]? with | some (.string s) => s | _ => ⟨#[]⟩
theorem nm_at (n : Nat) (h : n < 20) : nmCells[n]? = some (.string (nmS n)) ∧ ((nmS n).toList == []) = (n == 0) := by
  have : n = 0 ∨ n = 1 ∨ n = 2 ∨ n = 3 ∨ n = 4 ∨ n = 5 ∨ n = 6 ∨ n = 7 ∨ n = 8 ∨ n = 9 ∨ n = 10 ∨ n = 11 ∨ n = 12 ∨ n = 13 ∨ n = 14 ∨ n = 15 ∨ n = 16 ∨ n = 17 ∨ n = 18 ∨ n = 19 := by omega
  rcases this with rfl | rfl | rfl | rfl | rfl | rfl | rfl | rfl | rfl | rfl | rfl | rfl | rfl | rfl | rfl | rfl | rfl | rfl | rfl | rfl <;> exact ⟨rfl, by kernel_rfl⟩

set_option maxRecDepth 100000 in
set_option maxHeartbeats 2000000 in
theorem name_a (w : World) :
    Calls Try.prog 51 #[.int .i64 127] w fun e w' => ∃ s, e = .returned (.string s) ∧ noTxt s = !knownK 127 ∧ Below w.heap.size w w' := by
  go_enter Try.func51, Try.ntmps51
  go_upto_region 1 with fail
  refine wp_region_lit ?_
  refine wpList_plain rfl (fun K hK => ?_)
  refine wp_val (v := .agg nmCells) (w' := w) (by kernel_rfl) (hK _ _ ?_)
  clear hK
  refine wpList_plain rfl (fun K hK => ?_)
  refine wp_val (v := .pointer (some ⟨w.heap.size, 0, none⟩)) (w' := w.alloc (.cells zCells 108)) (by kernel_rfl) (hK _ _ ?_)
  clear hK
  refine wpList_plain rfl (fun K hK => ?_)
  refine wp_store_new 108 (.tmp 3) (.tmp 4) rfl zCells nmCells (by kernel_rfl) (by kernel_rfl) (by kernel_rfl) (by kernel_rfl) (by kernel_rfl) (hK _ _ ?_)
  clear hK
  refine wpList_nil ?_
  obtain ⟨W, hW⟩ : ∃ W, W = w.alloc (.cells nmCells 108) := ⟨_, rfl⟩
  have HB : Hid (Below w.heap.size w W) := by rw [hW]; exact (Below.refl _ _).alloc (Nat.le_refl _) _
  rw [← hW]
  clear hW
  go_wp2_with fail
  go_ret
  exact ⟨_, rfl, by kernel_rfl, HB.out⟩

set_option maxRecDepth 100000 in
set_option maxHeartbeats 2000000 in
theorem name_b (w : World) :
    Calls Try.prog 51 #[.int .i64 255] w fun e w' => ∃ s, e = .returned (.string s) ∧ noTxt s = !knownK 255 ∧ Below w.heap.size w w' := by
  go_enter Try.func51, Try.ntmps51
  go_upto_region 1 with fail
  refine wp_region_lit ?_
  refine wpList_plain rfl (fun K hK => ?_)
  refine wp_val (v := .agg nmCells) (w' := w) (by kernel_rfl) (hK _ _ ?_)
  clear hK
  refine wpList_plain rfl (fun K hK => ?_)
  refine wp_val (v := .pointer (some ⟨w.heap.size, 0, none⟩)) (w' := w.alloc (.cells zCells 108)) (by kernel_rfl) (hK _ _ ?_)
  clear hK
  refine wpList_plain rfl (fun K hK => ?_)
  refine wp_store_new 108 (.tmp 3) (.tmp 4) rfl zCells nmCells (by kernel_rfl) (by kernel_rfl) (by kernel_rfl) (by kernel_rfl) (by kernel_rfl) (hK _ _ ?_)
  clear hK
  refine wpList_nil ?_
  obtain ⟨W, hW⟩ : ∃ W, W = w.alloc (.cells nmCells 108) := ⟨_, rfl⟩
  have HB : Hid (Below w.heap.size w W) := by rw [hW]; exact (Below.refl _ _).alloc (Nat.le_refl _) _
  rw [← hW]
  clear hW
  go_wp2_with fail
  go_ret
  exact ⟨_, rfl, by kernel_rfl, HB.out⟩

set_option maxRecDepth 100000 in
set_option maxHeartbeats 2000000 in
theorem name_c (k : Int) (e1 : (k == 127) = false) (e2 : (k == 255) = false) (e3 : decide (k < 0) = true) (hk : Hid (knownK k = false)) (w : World) :
    Calls Try.prog 51 #[.int .i64 k] w fun e w' => ∃ s, e = .returned (.string s) ∧ noTxt s = !knownK k ∧ Below w.heap.size w w' := by
  go_enter Try.func51, Try.ntmps51
  go_upto_region 1 with fail
  refine wp_region_lit ?_
  refine wpList_plain rfl (fun K hK => ?_)
  refine wp_val (v := .agg nmCells) (w' := w) (by kernel_rfl) (hK _ _ ?_)
  clear hK
  refine wpList_plain rfl (fun K hK => ?_)
  refine wp_val (v := .pointer (some ⟨w.heap.size, 0, none⟩)) (w' := w.alloc (.cells zCells 108)) (by kernel_rfl) (hK _ _ ?_)
  clear hK
  refine wpList_plain rfl (fun K hK => ?_)
  refine wp_store_new 108 (.tmp 3) (.tmp 4) rfl zCells nmCells (by kernel_rfl) (by kernel_rfl) (by kernel_rfl) (by kernel_rfl) (by kernel_rfl) (hK _ _ ?_)
  clear hK
  refine wpList_nil ?_
  obtain ⟨W, hW⟩ : ∃ W, W = w.alloc (.cells nmCells 108) := ⟨_, rfl⟩
  have HB : Hid (Below w.heap.size w W) := by rw [hW]; exact (Below.refl _ _).alloc (Nat.le_refl _) _
  rw [← hW]
  clear hW
  go_wp2_with fail
  go_ret
  exact ⟨_, rfl, by rw [hk.out]; kernel_rfl, HB.out⟩

set_option maxRecDepth 100000 in
set_option maxHeartbeats 2000000 in
theorem name_d (k : Int) (e1 : (k == 127) = false) (e2 : (k == 255) = false) (e3 : decide (k < 0) = false) (e4 : decide (20 ≤ k) = true) (hk : Hid (knownK k = false)) (w : World) :
    Calls Try.prog 51 #[.int .i64 k] w fun e w' => ∃ s, e = .returned (.string s) ∧ noTxt s = !knownK k ∧ Below w.heap.size w w' := by
  go_enter Try.func51, Try.ntmps51
  go_upto_region 1 with fail
  refine wp_region_lit ?_
  refine wpList_plain rfl (fun K hK => ?_)
  refine wp_val (v := .agg nmCells) (w' := w) (by kernel_rfl) (hK _ _ ?_)
  clear hK
  refine wpList_plain rfl (fun K hK => ?_)
  refine wp_val (v := .pointer (some ⟨w.heap.size, 0, none⟩)) (w' := w.alloc (.cells zCells 108)) (by kernel_rfl) (hK _ _ ?_)
  clear hK
  refine wpList_plain rfl (fun K hK => ?_)
  refine wp_store_new 108 (.tmp 3) (.tmp 4) rfl zCells nmCells (by kernel_rfl) (by kernel_rfl) (by kernel_rfl) (by kernel_rfl) (by kernel_rfl) (hK _ _ ?_)
  clear hK
  refine wpList_nil ?_
  obtain ⟨W, hW⟩ : ∃ W, W = w.alloc (.cells nmCells 108) := ⟨_, rfl⟩
  have HB : Hid (Below w.heap.size w W) := by rw [hW]; exact (Below.refl _ _).alloc (Nat.le_refl _) _
  rw [← hW]
  clear hW
  go_wp2_with fail
  go_ret
  exact ⟨_, rfl, by rw [hk.out]; kernel_rfl, HB.out⟩

set_option maxRecDepth 100000 in
set_option maxHeartbeats 2000000 in
theorem name_e (n : Nat) (s : ByteArray) (hcell : nmCells[n]? = some (.string s)) (e1 : ((n : Int) == 127) = false) (e2 : ((n : Int) == 255) = false) (e3 : decide ((n : Int) < 0) = false) (e4 : decide (20 ≤ (n : Int)) = false) (hj0 : (0 : Int) ≤ (n : Int)) (hj1 : (n : Int) < 20) (hk : Hid (noTxt s = !knownK (n : Int))) (w : World) :
    Calls Try.prog 51 #[.int .i64 (n : Int)] w fun e w' => ∃ s, e = .returned (.string s) ∧ noTxt s = !knownK (n : Int) ∧ Below w.heap.size w w' := by
  go_enter Try.func51, Try.ntmps51
  go_upto_region 1 with fail
  refine wp_region_lit ?_
  refine wpList_plain rfl (fun K hK => ?_)
  refine wp_val (v := .agg nmCells) (w' := w) (by kernel_rfl) (hK _ _ ?_)
  clear hK
  refine wpList_plain rfl (fun K hK => ?_)
  refine wp_val (v := .pointer (some ⟨w.heap.size, 0, none⟩)) (w' := w.alloc (.cells zCells 108)) (by kernel_rfl) (hK _ _ ?_)
  clear hK
  refine wpList_plain rfl (fun K hK => ?_)
  refine wp_store_new 108 (.tmp 3) (.tmp 4) rfl zCells nmCells (by kernel_rfl) (by kernel_rfl) (by kernel_rfl) (by kernel_rfl) (by kernel_rfl) (hK _ _ ?_)
  clear hK
  refine wpList_nil ?_
  obtain ⟨W, hW⟩ : ∃ W, W = w.alloc (.cells nmCells 108) := ⟨_, rfl⟩
  have HB : Hid (Below w.heap.size w W) := by rw [hW]; exact (Below.refl _ _).alloc (Nat.le_refl _) _
  have hc : W.cell? ⟨w.heap.size, n, none⟩ = some (.string s) := by rw [hW, new_cell, hcell]
  rw [← hW]
  clear hW
  go_wp2_with fail
  go_ret
  exact ⟨_, rfl, hk.out, HB.out⟩

theorem name_calls (k : Int) (w : World) :
    Calls Try.prog 51 #[.int .i64 k] w fun e w' => ∃ s, e = .returned (.string s) ∧ noTxt s = !knownK k ∧ Below w.heap.size w w' := by
  by_cases h1 : k = 127
  · subst h1; exact name_a w
  by_cases h2 : k = 255
  · subst h2; exact name_b w
  have e1 : (k == 127) = false := by simpa using h1
  have e2 : (k == 255) = false := by simpa using h2
  by_cases h3 : k < 0
  · exact name_c k e1 e2 (by simpa using h3) (by show _ = _; simp [knownK]; omega) w
  have e3 : decide (k < 0) = false := by simpa using h3
  by_cases h4 : 20 ≤ k
  · exact name_d k e1 e2 e3 (by simpa using h4) (by show _ = _; simp [knownK]; omega) w
  have e4 : decide (20 ≤ k) = false := by simpa using h4
  obtain ⟨n, rfl⟩ : ∃ n : Nat, k = n := ⟨k.toNat, by omega⟩
  have hn : n < 20 := by omega
  obtain ⟨hc, hs⟩ := nm_at n hn
  refine name_e n (nmS n) hc e1 e2 e3 e4 (by omega) (by omega) ?_ w
  show ((nmS n).toList == []) = _
  rw [hs]
  by_cases h0 : n = 0
  · subst h0; rfl
  · have : knownK (n : Int) = true := by simp [knownK]; omega
    rw [this]; simpa using h0

end Go.Proofs.Ytkcfkdmffbhljaa
