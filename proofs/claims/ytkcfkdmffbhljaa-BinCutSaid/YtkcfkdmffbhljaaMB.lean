/- A value's box. tree.Name: which Kinds there are. tree.fields: has a value what its Kind has, and nothing else? The reference's kinds, Name and has. -/
import Derived.Test.YtkcfkdmffbhljaaMA
import Derived.Lib.Hide
import Derived.Deep.CutBlock
import Derived.Deep.WholeRow
namespace Go.Proofs.Ytkcfkdmffbhljaa
open Go.RowKit
set_option linter.unusedVariables false
set_option linter.unusedSimpArgs false

/-- A value's box: its nine cells, none of them frozen. -/
def BoxV (W : World) (g : Nat) (c : Array Value) : Prop := g < W.heap.size ∧ ∀ j, j < 9 → W.cell? ⟨g, j, none⟩ = c[j]? ∧ W.frozen? ⟨g, j, none⟩ = false

theorem BoxV.block {W W' : World} {g : Nat} {c : Array Value} (h : BoxV W g c) (hs : W.heap.size ≤ W'.heap.size) (hb : W'.heap[g]? = W.heap[g]?) : BoxV W' g c :=
  ⟨Nat.lt_of_lt_of_le h.1 hs, fun j hj => ⟨(World.cell?_of_block (w := W) hb).trans (h.2 j hj).1, (World.frozen?_of_block (w := W) hb).trans (h.2 j hj).2⟩⟩

theorem BoxV.below {B : Nat} {W W' : World} {g : Nat} {c : Array Value} (h : BoxV W g c) (hb : Below B W W') (hg : g < B) : BoxV W' g c := h.block hb.size (hb.block g hg)

theorem BoxV.keep {W W' : World} {g : Nat} {c : Array Value} (h : BoxV W g c) (hb : Below W.heap.size W W') : BoxV W' g c := h.block hb.size (hb.block g h.1)

theorem BoxV.chg {X : Nat → Prop} {W W' : World} {g : Nat} {c : Array Value} (h : BoxV W g c) (hb : Chg X W W') (hg : ¬ X g) : BoxV W' g c := h.block hb.size (hb.block g h.1 hg)

theorem BoxV.new (w : World) (c : Array Value) (t : TypeId) : BoxV (w.alloc (.cells c t)) w.heap.size c :=
  ⟨by simp, fun j _ => ⟨by simp [go_sem], by simp⟩⟩

theorem BoxV.set {W : World} {g : Nat} {c : Array Value} (h : BoxV W g c) (i : Nat) (v : Value) (hi : i < c.size) (h9 : i < 9) : BoxV (W.setCell ⟨g, i, none⟩ v) g (c.setIfInBounds i v) := by
  refine ⟨by simpa [World.setCell] using h.1, fun j hj => ⟨?_, by rw [World.frozen?_setCell]; exact (h.2 j hj).2⟩⟩
  by_cases e : i = j
  · subst e
    rw [World.cell?_setCell_same _ _ _ (u := c[i]) (by rw [(h.2 i h9).1, Array.getElem?_eq_getElem hi])]
    simp [Array.getElem?_setIfInBounds, hi]
  · rw [World.cell?_setCell_other _ _ _ _ (fun q => e (Addr.mk.inj q).2.1), (h.2 j hj).1]
    simp [Array.getElem?_setIfInBounds, e]

theorem Chg.set1 (w : World) (g i : Nat) (v : Value) : Chg (fun k => k = g) w (w.setCell ⟨g, i, none⟩ v) := (Chg.refl (fun k => k = g) w).setCell (p := ⟨g, i, none⟩) (fun _ => rfl) v

theorem Chg.set2 {X : Nat → Prop} {w w' : World} {g : Nat} (h : Chg X w w') (hg : X g) (i : Nat) (v : Value) : Chg X w (w'.setCell ⟨g, i, none⟩ v) := h.setCell (p := ⟨g, i, none⟩) (fun _ => hg) v

theorem BoxV.nine {W : World} {g : Nat} {k : Int} {bits hi lo : Nat} {text more : ByteArray} {sub : Int} {ab : Option Addr} {nb cb : Nat} {ak : Option Addr} {nk ck : Nat} (h : BoxV W g (valCells k bits hi lo text more sub ab nb cb ak nk ck)) :
    W.cell? ⟨g, 0, none⟩ = some (.int .i64 k) ∧ W.cell? ⟨g, 1, none⟩ = some (.int .u64 (bits : Nat)) ∧ W.cell? ⟨g, 2, none⟩ = some (.int .u64 (hi : Nat)) ∧ W.cell? ⟨g, 3, none⟩ = some (.int .u64 (lo : Nat)) ∧ W.cell? ⟨g, 4, none⟩ = some (.string text) ∧ W.cell? ⟨g, 5, none⟩ = some (.string more) ∧ W.cell? ⟨g, 6, none⟩ = some (.int .i64 sub) ∧ W.cell? ⟨g, 7, none⟩ = some (.slice ab nb cb) ∧ W.cell? ⟨g, 8, none⟩ = some (.slice ak nk ck) ∧ g < W.heap.size :=
  ⟨(h.2 0 (by omega)).1, (h.2 1 (by omega)).1, (h.2 2 (by omega)).1, (h.2 3 (by omega)).1, (h.2 4 (by omega)).1, (h.2 5 (by omega)).1, (h.2 6 (by omega)).1, (h.2 7 (by omega)).1, (h.2 8 (by omega)).1, h.1⟩

/-- A tree's cells, by their letters. -/
theorem RdT.shape {W : World} {t : T} {c : Array Value} (h : RdT W t c) : ∃ k bits hi lo text more sub ab nb cb ak nk ck, c = (valCells k bits hi lo text more sub ab nb cb ak nk ck) := by
  obtain ⟨k, bits, hi, lo, text, more, sub, bs, kids⟩ := t
  obtain ⟨ab, nb, cb, ak, nk, ck, rfl, -⟩ := h
  exact ⟨_, _, _, _, _, _, _, _, _, _, _, _, _, rfl⟩

end Go.Proofs.Ytkcfkdmffbhljaa

namespace Go.Proofs.Ytkcfkdmffbhljaa
open Go.RowKit
set_option linter.unusedVariables false
set_option linter.unusedSimpArgs false

theorem new_cell (w : World) (cs : Array Value) (t : TypeId) (j : Nat) : (w.alloc (.cells cs t)).cell? ⟨w.heap.size, j, none⟩ = cs[j]? := by
  unfold World.cell?
  rw [heap_alloc_new w (.cells cs t)]
  simp

theorem wp_val {P : Program} {o : Oper} {a : Act} {w w' : World} {K : Act → World → Prop} {Q : Exit → Act → World → Prop} {v : Value} (h : (execOp a.eval o).run P w = .ok (.value v) w') (hk : K (a.put o.dst v) w') : o.wp P a w K Q := by
  unfold Oper.wp; rw [h]; exact hk
theorem wp_store_new {P : Program} {op : Oper} {a : Act} {w : World} {K : Act → World → Prop} {Q : Exit → Act → World → Prop} (ty : TypeId) (x y : Operand) (ho : op.op = .store ty x y)
    (c c' : Array Value) (hx : a.eval x = .pointer (some ⟨w.heap.size, 0, none⟩)) (hy : a.eval y = .agg c') (hi : (P.info? ty).map (·.size) = some c'.size) (hc : c.size = c'.size) (h1 : c'.all (·.oneCell') = true)
    (h : K (a.put op.dst undef) (w.alloc (.cells c' ty))) : op.wp P a (w.alloc (.cells c ty)) K Q := by
  unfold Oper.wp execOp
  simp only [ho, hx, hy, Instr.storeAt, Instr.sureAddr, Sem.run_bind, Sem.run_pure, Result.andThen_ok, run_storeVar_new w ty c c' hi hc h1]
  exact h
def zCells : Array Value := Array.replicate 20 (.string ⟨#[]⟩)

/-- Is there such a Kind? -/
def knownK (k : Int) : Bool := (decide (1 ≤ k) && decide (k < 20)) || k == 127 || k == 255
def noTxt (s : ByteArray) : Bool := s.toList == []
def nmCells : Array Value := #[.string ⟨#[]⟩, .string ⟨#[100, 111, 117, 98, 108, 101]⟩, .string ⟨#[115, 116, 114, 105, 110, 103]⟩, .string ⟨#[100, 111, 99, 117, 109, 101, 110, 116]⟩, .string ⟨#[97, 114, 114, 97, 121]⟩, .string ⟨#[98, 105, 110, 97, 114, 121]⟩, .string ⟨#[117, 110, 100, 101, 102, 105, 110, 101, 100]⟩, .string ⟨#[111, 98, 106, 101, 99, 116, 105, 100]⟩, .string ⟨#[98, 111, 111, 108]⟩, .string ⟨#[100, 97, 116, 101]⟩, .string ⟨#[110, 117, 108, 108]⟩, .string ⟨#[114, 101, 103, 101, 120]⟩, .string ⟨#[112, 111, 105, 110, 116, 101, 114]⟩, .string ⟨#[99, 111, 100, 101]⟩, .string ⟨#[115, 121, 109, 98, 111, 108]⟩, .string ⟨#[115, 99, 111, 112, 101, 100]⟩, .string ⟨#[105, 110, 116, 51, 50]⟩, .string ⟨#[116, 105, 109, 101, 115, 116, 97, 109, 112]⟩, .string ⟨#[105, 110, 116, 54, 52]⟩, .string ⟨#[100, 101, 99, 105, 109, 97, 108]⟩]
def nmS (n : Nat) : ByteArray := match nmCells[n]? with | some (.string s) => s | _ => ⟨#[]⟩
theorem nm_at (n : Nat) (h : n < 20) : nmCells[n]? = some (.string (nmS n)) ∧ ((nmS n).toList == []) = (n == 0) := by
  have : n = 0 ∨ n = 1 ∨ n = 2 ∨ n = 3 ∨ n = 4 ∨ n = 5 ∨ n = 6 ∨ n = 7 ∨ n = 8 ∨ n = 9 ∨ n = 10 ∨ n = 11 ∨ n = 12 ∨ n = 13 ∨ n = 14 ∨ n = 15 ∨ n = 16 ∨ n = 17 ∨ n = 18 ∨ n = 19 := by omega
  rcases this with rfl | rfl | rfl | rfl | rfl | rfl | rfl | rfl | rfl | rfl | rfl | rfl | rfl | rfl | rfl | rfl | rfl | rfl | rfl | rfl <;> exact ⟨rfl, by kernel_rfl⟩

set_option maxRecDepth 100000 in
set_option maxHeartbeats 2000000 in
theorem name_a (w : World) :
    Calls Try.prog 51 #[.int .i64 127] w fun e w' => ∃ s, e = .returned (.string s) ∧ noTxt s = !knownK 127 ∧ Below w.heap.size w w' := by
  go_enter Try.func51, Try.ntmps51
  go_upto_region 1 with fail
  refine wp_region_lit ?_
  refine wpList_plain rfl (fun K hK => ?_)
  refine wp_val (v := .agg nmCells) (w' := w) (by kernel_rfl) (hK _ _ ?_)
  clear hK
  refine wpList_plain rfl (fun K hK => ?_)
  refine wp_val (v := .pointer (some ⟨w.heap.size, 0, none⟩)) (w' := w.alloc (.cells zCells 108)) (by kernel_rfl) (hK _ _ ?_)
  clear hK
  refine wpList_plain rfl (fun K hK => ?_)
  refine wp_store_new 108 (.tmp 3) (.tmp 4) rfl zCells nmCells (by kernel_rfl) (by kernel_rfl) (by kernel_rfl) (by kernel_rfl) (by kernel_rfl) (hK _ _ ?_)
  clear hK
  refine wpList_nil ?_
  obtain ⟨W, hW⟩ : ∃ W, W = w.alloc (.cells nmCells 108) := ⟨_, rfl⟩
  have HB : Hid (Below w.heap.size w W) := by rw [hW]; exact (Below.refl _ _).alloc (Nat.le_refl _) _
  rw [← hW]
  clear hW
  go_wp2_with fail
  go_ret
  exact ⟨_, rfl, by kernel_rfl, HB.out⟩

set_option maxRecDepth 100000 in
set_option maxHeartbeats 2000000 in
theorem name_b (w : World) :
    Calls Try.prog 51 #[.int .i64 255] w fun e w' => ∃ s, e = .returned (.string s) ∧ noTxt s = !knownK 255 ∧ Below w.heap.size w w' := by
  go_enter Try.func51, Try.ntmps51
  go_upto_region 1 with fail
  refine wp_region_lit ?_
  refine wpList_plain rfl (fun K hK => ?_)
  refine wp_val (v := .agg nmCells) (w' := w) (by kernel_rfl) (hK _ _ ?_)
  clear hK
  refine wpList_plain rfl (fun K hK => ?_)
  refine wp_val (v := .pointer (some ⟨w.heap.size, 0, none⟩)) (w' := w.alloc (.cells zCells 108)) (by kernel_rfl) (hK _ _ ?_)
  clear hK
  refine wpList_plain rfl (fun K hK => ?_)
  refine wp_store_new 108 (.tmp 3) (.tmp 4) rfl zCells nmCells (by kernel_rfl) (by kernel_rfl) (by kernel_rfl) (by kernel_rfl) (by kernel_rfl) (hK _ _ ?_)
  clear hK
  refine wpList_nil ?_
  obtain ⟨W, hW⟩ : ∃ W, W = w.alloc (.cells nmCells 108) := ⟨_, rfl⟩
  have HB : Hid (Below w.heap.size w W) := by rw [hW]; exact (Below.refl _ _).alloc (Nat.le_refl _) _
  rw [← hW]
  clear hW
  go_wp2_with fail
  go_ret
  exact ⟨_, rfl, by kernel_rfl, HB.out⟩

set_option maxRecDepth 100000 in
set_option maxHeartbeats 2000000 in
theorem name_c (k : Int) (e1 : (k == 127) = false) (e2 : (k == 255) = false) (e3 : decide (k < 0) = true) (hk : Hid (knownK k = false)) (w : World) :
    Calls Try.prog 51 #[.int .i64 k] w fun e w' => ∃ s, e = .returned (.string s) ∧ noTxt s = !knownK k ∧ Below w.heap.size w w' := by
  go_enter Try.func51, Try.ntmps51
  go_upto_region 1 with fail
  refine wp_region_lit ?_
  refine wpList_plain rfl (fun K hK => ?_)
  refine wp_val (v := .agg nmCells) (w' := w) (by kernel_rfl) (hK _ _ ?_)
  clear hK
  refine wpList_plain rfl (fun K hK => ?_)
  refine wp_val (v := .pointer (some ⟨w.heap.size, 0, none⟩)) (w' := w.alloc (.cells zCells 108)) (by kernel_rfl) (hK _ _ ?_)
  clear hK
  refine wpList_plain rfl (fun K hK => ?_)
  refine wp_store_new 108 (.tmp 3) (.tmp 4) rfl zCells nmCells (by kernel_rfl) (by kernel_rfl) (by kernel_rfl) (by kernel_rfl) (by kernel_rfl) (hK _ _ ?_)
  clear hK
  refine wpList_nil ?_
  obtain ⟨W, hW⟩ : ∃ W, W = w.alloc (.cells nmCells 108) := ⟨_, rfl⟩
  have HB : Hid (Below w.heap.size w W) := by rw [hW]; exact (Below.refl _ _).alloc (Nat.le_refl _) _
  rw [← hW]
  clear hW
  go_wp2_with fail
  go_ret
  exact ⟨_, rfl, by rw [hk.out]; kernel_rfl, HB.out⟩

set_option maxRecDepth 100000 in
set_option maxHeartbeats 2000000 in
theorem name_d (k : Int) (e1 : (k == 127) = false) (e2 : (k == 255) = false) (e3 : decide (k < 0) = false) (e4 : decide (20 ≤ k) = true) (hk : Hid (knownK k = false)) (w : World) :
    Calls Try.prog 51 #[.int .i64 k] w fun e w' => ∃ s, e = .returned (.string s) ∧ noTxt s = !knownK k ∧ Below w.heap.size w w' := by
  go_enter Try.func51, Try.ntmps51
  go_upto_region 1 with fail
  refine wp_region_lit ?_
  refine wpList_plain rfl (fun K hK => ?_)
  refine wp_val (v := .agg nmCells) (w' := w) (by kernel_rfl) (hK _ _ ?_)
  clear hK
  refine wpList_plain rfl (fun K hK => ?_)
  refine wp_val (v := .pointer (some ⟨w.heap.size, 0, none⟩)) (w' := w.alloc (.cells zCells 108)) (by kernel_rfl) (hK _ _ ?_)
  clear hK
  refine wpList_plain rfl (fun K hK => ?_)
  refine wp_store_new 108 (.tmp 3) (.tmp 4) rfl zCells nmCells (by kernel_rfl) (by kernel_rfl) (by kernel_rfl) (by kernel_rfl) (by kernel_rfl) (hK _ _ ?_)
  clear hK
  refine wpList_nil ?_
  obtain ⟨W, hW⟩ : ∃ W, W = w.alloc (.cells nmCells 108) := ⟨_, rfl⟩
  have HB : Hid (Below w.heap.size w W) := by rw [hW]; exact (Below.refl _ _).alloc (Nat.le_refl _) _
  rw [← hW]
  clear hW
  go_wp2_with fail
  go_ret
  exact ⟨_, rfl, by rw [hk.out]; kernel_rfl, HB.out⟩

set_option maxRecDepth 100000 in
set_option maxHeartbeats 2000000 in
theorem name_e (n : Nat) (s : ByteArray) (hcell : nmCells[n]? = some (.string s)) (e1 : ((n : Int) == 127) = false) (e2 : ((n : Int) == 255) = false) (e3 : decide ((n : Int) < 0) = false) (e4 : decide (20 ≤ (n : Int)) = false) (hj0 : (0 : Int) ≤ (n : Int)) (hj1 : (n : Int) < 20) (hk : Hid (noTxt s = !knownK (n : Int))) (w : World) :
    Calls Try.prog 51 #[.int .i64 (n : Int)] w fun e w' => ∃ s, e = .returned (.string s) ∧ noTxt s = !knownK (n : Int) ∧ Below w.heap.size w w' := by
  go_enter Try.func51, Try.ntmps51
  go_upto_region 1 with fail
  refine wp_region_lit ?_
  refine wpList_plain rfl (fun K hK => ?_)
  refine wp_val (v := .agg nmCells) (w' := w) (by kernel_rfl) (hK _ _ ?_)
  clear hK
  refine wpList_plain rfl (fun K hK => ?_)
  refine wp_val (v := .pointer (some ⟨w.heap.size, 0, none⟩)) (w' := w.alloc (.cells zCells 108)) (by kernel_rfl) (hK _ _ ?_)
  clear hK
  refine wpList_plain rfl (fun K hK => ?_)
  refine wp_store_new 108 (.tmp 3) (.tmp 4) rfl zCells nmCells (by kernel_rfl) (by kernel_rfl) (by kernel_rfl) (by kernel_rfl) (by kernel_rfl) (hK _ _ ?_)
  clear hK
  refine wpList_nil ?_
  obtain ⟨W, hW⟩ : ∃ W, W = w.alloc (.cells nmCells 108) := ⟨_, rfl⟩
  have HB : Hid (Below w.heap.size w W) := by rw [hW]; exact (Below.refl _ _).alloc (Nat.le_refl _) _
  have hc : W.cell? ⟨w.heap.size, n, none⟩ = some (.string s) := by rw [hW, new_cell, hcell]
  rw [← hW]
  clear hW
  go_wp2_with fail
  go_ret
  exact ⟨_, rfl, hk.out, HB.out⟩

theorem name_calls (k : Int) (w : World) :
    Calls Try.prog 51 #[.int .i64 k] w fun e w' => ∃ s, e = .returned (.string s) ∧ noTxt s = !knownK k ∧ Below w.heap.size w w' := by
  by_cases h1 : k = 127
  · subst h1; exact name_a w
  by_cases h2 : k = 255
  · subst h2; exact name_b w
  have e1 : (k == 127) = false := by simpa using h1
  have e2 : (k == 255) = false := by simpa using h2
  by_cases h3 : k < 0
  · exact name_c k e1 e2 (by simpa using h3) (by show _ = _; simp [knownK]; omega) w
  have e3 : decide (k < 0) = false := by simpa using h3
  by_cases h4 : 20 ≤ k
  · exact name_d k e1 e2 e3 (by simpa using h4) (by show _ = _; simp [knownK]; omega) w
  have e4 : decide (20 ≤ k) = false := by simpa using h4
  obtain ⟨n, rfl⟩ : ∃ n : Nat, k = n := ⟨k.toNat, by omega⟩
  have hn : n < 20 := by omega
  obtain ⟨hc, hs⟩ := nm_at n hn
  refine name_e n (nmS n) hc e1 e2 e3 e4 (by omega) (by omega) ?_ w
  show ((nmS n).toList == []) = _
  rw [hs]
  by_cases h0 : n = 0
  · subst h0; rfl
  · have : knownK (n : Int) = true := by simp [knownK]; omega
    rw [this]; simpa using h0

end Go.Proofs.Ytkcfkdmffbhljaa

namespace Go.Proofs.Ytkcfkdmffbhljaa
open Go.RowKit
set_option linter.unusedVariables false
set_option linter.unusedSimpArgs false

def hasBits (k : Int) : Bool := k == 1 || k == 9 || k == 17 || k == 18 || k == 16 || k == 8
def hasWide (k : Int) : Bool := k == 19
def hasText (k : Int) : Bool := k == 2 || k == 13 || k == 14 || k == 11 || k == 12 || k == 15
def hasMore (k : Int) : Bool := k == 11
def hasSub (k : Int) : Bool := k == 5
def hasBytes (k : Int) : Bool := k == 5 || k == 7 || k == 12
def hasKids (k : Int) : Bool := k == 3 || k == 4 || k == 15
/-- Bounds of what a Kind has. -/
def okK (k : Int) (bits : Nat) (sub : Int) (nb : Nat) : Bool := !(k == 16 && decide (4294967296 ≤ bits)) && !(k == 8 && decide (2 ≤ bits)) && !(k == 5 && !(decide (0 ≤ sub) && decide (sub ≤ 255))) && !((k == 7 || k == 12) && !(nb == 12))
def fieldsOf (k : Int) (bits hi lo : Nat) (text more : ByteArray) (sub : Int) (nb nk : Nat) : Bool :=
  okK k bits sub nb && (hasBits k || bits == 0) && (hasWide k || hi == 0) && (hasWide k || lo == 0) && (hasText k || text.toList == []) && (hasMore k || more.toList == []) && (hasSub k || sub == 0) && (hasBytes k || nb == 0) && (hasKids k || nk == 0)

def FCut (w : World) (r : Bool) (p3 : Value) (W : World) : Prop :=
  ∃ (k2 : Int) (bits2 hi2 lo2 : Nat) (text2 more2 : ByteArray) (sub2 : Int) (ab2 : Option Addr) (nb2 cb2 : Nat) (ak2 : Option Addr) (nk2 ck2 : Nat) (ok : Bool), p3 = .bool ok ∧ BoxV W w.heap.size (valCells k2 bits2 hi2 lo2 text2 more2 sub2 ab2 nb2 cb2 ak2 nk2 ck2) ∧ Below w.heap.size w W ∧
    Hid (r = (ok && bits2 == 0 && hi2 == 0 && lo2 == 0 && text2.toList == [] && more2.toList == [] && sub2 == 0 && nb2 == 0 && nk2 == 0))

set_option maxRecDepth 100000 in
set_option maxHeartbeats 16000000 in
theorem fields_calls (w : World) (k : Int) (bits hi lo : Nat) (text more : ByteArray) (sub : Int) (ab : Option Addr) (nb cb : Nat) (ak : Option Addr) (nk ck : Nat) :
    Calls Try.prog 84 #[.agg (valCells k bits hi lo text more sub ab nb cb ak nk ck)] w fun e w' => e = .returned (.bool (fieldsOf k bits hi lo text more sub nb nk)) ∧ Below w.heap.size w w' := by
  obtain ⟨r, hr⟩ : ∃ r, r = fieldsOf k bits hi lo text more sub nb nk := ⟨_, rfl⟩
  rw [← hr]
  have HR := Lib.hid hr
  clear hr
  go_enter Try.func84, Try.ntmps84
  go_upto_block 0 with fail
  go_cut [3] from 4 (fun p3 W => FCut w r p3 W)
  case first =>
    by_cases h1 : k = 1
    · subst h1
      · go_wp2_with fail
        go_meet
        case rel => exact ⟨1, 0, hi, lo, text, more, sub, ab, nb, cb, ak, nk, ck, true, rfl, BoxV.new w (valCells 1 0 hi lo text more sub ab nb cb ak nk ck) 26, (Below.refl _ _).alloc (Nat.le_refl _) _, by show _ = _; rw [HR.out]; simp [fieldsOf, okK, hasBits, hasWide, hasText, hasMore, hasSub, hasBytes, hasKids]⟩
    by_cases h9 : k = 9
    · subst h9
      · go_wp2_with fail
        go_meet
        case rel => exact ⟨9, 0, hi, lo, text, more, sub, ab, nb, cb, ak, nk, ck, true, rfl, BoxV.new w (valCells 9 0 hi lo text more sub ab nb cb ak nk ck) 26, (Below.refl _ _).alloc (Nat.le_refl _) _, by show _ = _; rw [HR.out]; simp [fieldsOf, okK, hasBits, hasWide, hasText, hasMore, hasSub, hasBytes, hasKids]⟩
    by_cases h17 : k = 17
    · subst h17
      · go_wp2_with fail
        go_meet
        case rel => exact ⟨17, 0, hi, lo, text, more, sub, ab, nb, cb, ak, nk, ck, true, rfl, BoxV.new w (valCells 17 0 hi lo text more sub ab nb cb ak nk ck) 26, (Below.refl _ _).alloc (Nat.le_refl _) _, by show _ = _; rw [HR.out]; simp [fieldsOf, okK, hasBits, hasWide, hasText, hasMore, hasSub, hasBytes, hasKids]⟩
    by_cases h18 : k = 18
    · subst h18
      · go_wp2_with fail
        go_meet
        case rel => exact ⟨18, 0, hi, lo, text, more, sub, ab, nb, cb, ak, nk, ck, true, rfl, BoxV.new w (valCells 18 0 hi lo text more sub ab nb cb ak nk ck) 26, (Below.refl _ _).alloc (Nat.le_refl _) _, by show _ = _; rw [HR.out]; simp [fieldsOf, okK, hasBits, hasWide, hasText, hasMore, hasSub, hasBytes, hasKids]⟩
    by_cases h16 : k = 16
    · subst h16
      have f0 : (decide (4294967296 ≤ bits)) = !(decide ((bits : Int) < 4294967296)) := by rw [Bool.eq_iff_iff]; simp; try omega
      cases e0 : decide ((bits : Int) < 4294967296)
      · go_wp2_with fail
        go_meet
        case rel => exact ⟨16, 0, hi, lo, text, more, sub, ab, nb, cb, ak, nk, ck, false, rfl, BoxV.new w (valCells 16 0 hi lo text more sub ab nb cb ak nk ck) 26, (Below.refl _ _).alloc (Nat.le_refl _) _, by show _ = _; rw [HR.out]; simp [fieldsOf, okK, hasBits, hasWide, hasText, hasMore, hasSub, hasBytes, hasKids, f0, e0]⟩
      · go_wp2_with fail
        go_meet
        case rel => exact ⟨16, 0, hi, lo, text, more, sub, ab, nb, cb, ak, nk, ck, true, rfl, BoxV.new w (valCells 16 0 hi lo text more sub ab nb cb ak nk ck) 26, (Below.refl _ _).alloc (Nat.le_refl _) _, by show _ = _; rw [HR.out]; simp [fieldsOf, okK, hasBits, hasWide, hasText, hasMore, hasSub, hasBytes, hasKids, f0, e0]⟩
    by_cases h8 : k = 8
    · subst h8
      have f0 : (decide (2 ≤ bits)) = !(decide ((bits : Int) < 2)) := by rw [Bool.eq_iff_iff]; simp; try omega
      cases e0 : decide ((bits : Int) < 2)
      · go_wp2_with fail
        go_meet
        case rel => exact ⟨8, 0, hi, lo, text, more, sub, ab, nb, cb, ak, nk, ck, false, rfl, BoxV.new w (valCells 8 0 hi lo text more sub ab nb cb ak nk ck) 26, (Below.refl _ _).alloc (Nat.le_refl _) _, by show _ = _; rw [HR.out]; simp [fieldsOf, okK, hasBits, hasWide, hasText, hasMore, hasSub, hasBytes, hasKids, f0, e0]⟩
      · go_wp2_with fail
        go_meet
        case rel => exact ⟨8, 0, hi, lo, text, more, sub, ab, nb, cb, ak, nk, ck, true, rfl, BoxV.new w (valCells 8 0 hi lo text more sub ab nb cb ak nk ck) 26, (Below.refl _ _).alloc (Nat.le_refl _) _, by show _ = _; rw [HR.out]; simp [fieldsOf, okK, hasBits, hasWide, hasText, hasMore, hasSub, hasBytes, hasKids, f0, e0]⟩
    by_cases h19 : k = 19
    · subst h19
      · go_wp2_with fail
        go_meet
        case rel => exact ⟨19, bits, 0, 0, text, more, sub, ab, nb, cb, ak, nk, ck, true, rfl, BoxV.new w (valCells 19 bits 0 0 text more sub ab nb cb ak nk ck) 26, (Below.refl _ _).alloc (Nat.le_refl _) _, by show _ = _; rw [HR.out]; simp [fieldsOf, okK, hasBits, hasWide, hasText, hasMore, hasSub, hasBytes, hasKids]⟩
    by_cases h2 : k = 2
    · subst h2
      · go_wp2_with fail
        go_meet
        case rel => exact ⟨2, bits, hi, lo, ⟨#[]⟩, more, sub, ab, nb, cb, ak, nk, ck, true, rfl, BoxV.new w (valCells 2 bits hi lo ⟨#[]⟩ more sub ab nb cb ak nk ck) 26, (Below.refl _ _).alloc (Nat.le_refl _) _, by show _ = _; rw [HR.out]; simp [fieldsOf, okK, hasBits, hasWide, hasText, hasMore, hasSub, hasBytes, hasKids]⟩
    by_cases h13 : k = 13
    · subst h13
      · go_wp2_with fail
        go_meet
        case rel => exact ⟨13, bits, hi, lo, ⟨#[]⟩, more, sub, ab, nb, cb, ak, nk, ck, true, rfl, BoxV.new w (valCells 13 bits hi lo ⟨#[]⟩ more sub ab nb cb ak nk ck) 26, (Below.refl _ _).alloc (Nat.le_refl _) _, by show _ = _; rw [HR.out]; simp [fieldsOf, okK, hasBits, hasWide, hasText, hasMore, hasSub, hasBytes, hasKids]⟩
    by_cases h14 : k = 14
    · subst h14
      · go_wp2_with fail
        go_meet
        case rel => exact ⟨14, bits, hi, lo, ⟨#[]⟩, more, sub, ab, nb, cb, ak, nk, ck, true, rfl, BoxV.new w (valCells 14 bits hi lo ⟨#[]⟩ more sub ab nb cb ak nk ck) 26, (Below.refl _ _).alloc (Nat.le_refl _) _, by show _ = _; rw [HR.out]; simp [fieldsOf, okK, hasBits, hasWide, hasText, hasMore, hasSub, hasBytes, hasKids]⟩
    by_cases h11 : k = 11
    · subst h11
      · go_wp2_with fail
        go_meet
        case rel => exact ⟨11, bits, hi, lo, ⟨#[]⟩, ⟨#[]⟩, sub, ab, nb, cb, ak, nk, ck, true, rfl, BoxV.new w (valCells 11 bits hi lo ⟨#[]⟩ ⟨#[]⟩ sub ab nb cb ak nk ck) 26, (Below.refl _ _).alloc (Nat.le_refl _) _, by show _ = _; rw [HR.out]; simp [fieldsOf, okK, hasBits, hasWide, hasText, hasMore, hasSub, hasBytes, hasKids]⟩
    by_cases h5 : k = 5
    · subst h5
      cases e0 : decide (0 ≤ sub)
      · go_wp2_with fail
        go_meet
        case rel => exact ⟨5, bits, hi, lo, text, more, 0, none, 0, 0, ak, nk, ck, false, rfl, BoxV.new w (valCells 5 bits hi lo text more 0 none 0 0 ak nk ck) 26, (Below.refl _ _).alloc (Nat.le_refl _) _, by show _ = _; rw [HR.out]; simp [fieldsOf, okK, e0]⟩
      · cases e1 : decide (sub ≤ 255)
        · go_wp2_with fail
          go_meet
          case rel => exact ⟨5, bits, hi, lo, text, more, 0, none, 0, 0, ak, nk, ck, false, rfl, BoxV.new w (valCells 5 bits hi lo text more 0 none 0 0 ak nk ck) 26, (Below.refl _ _).alloc (Nat.le_refl _) _, by show _ = _; rw [HR.out]; simp [fieldsOf, okK, e0, e1]⟩
        · go_wp2_with fail
          go_meet
          case rel => exact ⟨5, bits, hi, lo, text, more, 0, none, 0, 0, ak, nk, ck, true, rfl, BoxV.new w (valCells 5 bits hi lo text more 0 none 0 0 ak nk ck) 26, (Below.refl _ _).alloc (Nat.le_refl _) _, by show _ = _; rw [HR.out]; simp [fieldsOf, okK, e0, e1, hasBits, hasWide, hasText, hasMore, hasSub, hasBytes, hasKids]⟩
    by_cases h7 : k = 7
    · subst h7
      have f0 : (nb == 12) = ((nb : Int) == 12) := by rw [Bool.eq_iff_iff]; simp; try omega
      cases e0 : ((nb : Int) == 12)
      · go_wp2_with fail
        go_meet
        case rel => exact ⟨7, bits, hi, lo, text, more, sub, none, 0, 0, ak, nk, ck, false, rfl, BoxV.new w (valCells 7 bits hi lo text more sub none 0 0 ak nk ck) 26, (Below.refl _ _).alloc (Nat.le_refl _) _, by show _ = _; rw [HR.out]; simp [fieldsOf, okK, hasBits, hasWide, hasText, hasMore, hasSub, hasBytes, hasKids, f0, e0]⟩
      · go_wp2_with fail
        go_meet
        case rel => exact ⟨7, bits, hi, lo, text, more, sub, none, 0, 0, ak, nk, ck, true, rfl, BoxV.new w (valCells 7 bits hi lo text more sub none 0 0 ak nk ck) 26, (Below.refl _ _).alloc (Nat.le_refl _) _, by show _ = _; rw [HR.out]; simp [fieldsOf, okK, hasBits, hasWide, hasText, hasMore, hasSub, hasBytes, hasKids, f0, e0]⟩
    by_cases h12 : k = 12
    · subst h12
      have f0 : (nb == 12) = ((nb : Int) == 12) := by rw [Bool.eq_iff_iff]; simp; try omega
      cases e0 : ((nb : Int) == 12)
      · go_wp2_with fail
        go_meet
        case rel => exact ⟨12, bits, hi, lo, ⟨#[]⟩, more, sub, none, 0, 0, ak, nk, ck, false, rfl, BoxV.new w (valCells 12 bits hi lo ⟨#[]⟩ more sub none 0 0 ak nk ck) 26, (Below.refl _ _).alloc (Nat.le_refl _) _, by show _ = _; rw [HR.out]; simp [fieldsOf, okK, hasBits, hasWide, hasText, hasMore, hasSub, hasBytes, hasKids, f0, e0]⟩
      · go_wp2_with fail
        go_meet
        case rel => exact ⟨12, bits, hi, lo, ⟨#[]⟩, more, sub, none, 0, 0, ak, nk, ck, true, rfl, BoxV.new w (valCells 12 bits hi lo ⟨#[]⟩ more sub none 0 0 ak nk ck) 26, (Below.refl _ _).alloc (Nat.le_refl _) _, by show _ = _; rw [HR.out]; simp [fieldsOf, okK, hasBits, hasWide, hasText, hasMore, hasSub, hasBytes, hasKids, f0, e0]⟩
    by_cases h3 : k = 3
    · subst h3
      · go_wp2_with fail
        go_meet
        case rel => exact ⟨3, bits, hi, lo, text, more, sub, ab, nb, cb, none, 0, 0, true, rfl, BoxV.new w (valCells 3 bits hi lo text more sub ab nb cb none 0 0) 26, (Below.refl _ _).alloc (Nat.le_refl _) _, by show _ = _; rw [HR.out]; simp [fieldsOf, okK, hasBits, hasWide, hasText, hasMore, hasSub, hasBytes, hasKids]⟩
    by_cases h4 : k = 4
    · subst h4
      · go_wp2_with fail
        go_meet
        case rel => exact ⟨4, bits, hi, lo, text, more, sub, ab, nb, cb, none, 0, 0, true, rfl, BoxV.new w (valCells 4 bits hi lo text more sub ab nb cb none 0 0) 26, (Below.refl _ _).alloc (Nat.le_refl _) _, by show _ = _; rw [HR.out]; simp [fieldsOf, okK, hasBits, hasWide, hasText, hasMore, hasSub, hasBytes, hasKids]⟩
    by_cases h15 : k = 15
    · subst h15
      · go_wp2_with fail
        go_meet
        case rel => exact ⟨15, bits, hi, lo, ⟨#[]⟩, more, sub, ab, nb, cb, none, 0, 0, true, rfl, BoxV.new w (valCells 15 bits hi lo ⟨#[]⟩ more sub ab nb cb none 0 0) 26, (Below.refl _ _).alloc (Nat.le_refl _) _, by show _ = _; rw [HR.out]; simp [fieldsOf, okK, hasBits, hasWide, hasText, hasMore, hasSub, hasBytes, hasKids]⟩
    have n1 : (k == 1) = false := by simpa using h1
    have n9 : (k == 9) = false := by simpa using h9
    have n17 : (k == 17) = false := by simpa using h17
    have n18 : (k == 18) = false := by simpa using h18
    have n16 : (k == 16) = false := by simpa using h16
    have n8 : (k == 8) = false := by simpa using h8
    have n19 : (k == 19) = false := by simpa using h19
    have n2 : (k == 2) = false := by simpa using h2
    have n13 : (k == 13) = false := by simpa using h13
    have n14 : (k == 14) = false := by simpa using h14
    have n11 : (k == 11) = false := by simpa using h11
    have n5 : (k == 5) = false := by simpa using h5
    have n7 : (k == 7) = false := by simpa using h7
    have n12 : (k == 12) = false := by simpa using h12
    have n3 : (k == 3) = false := by simpa using h3
    have n4 : (k == 4) = false := by simpa using h4
    have n15 : (k == 15) = false := by simpa using h15
    go_wp2_with fail
    go_meet
    case rel => exact ⟨k, bits, hi, lo, text, more, sub, ab, nb, cb, ak, nk, ck, true, rfl, BoxV.new w (valCells k bits hi lo text more sub ab nb cb ak nk ck) 26, (Below.refl _ _).alloc (Nat.le_refl _) _, by show _ = _; rw [HR.out]; simp [fieldsOf, okK, hasBits, hasWide, hasText, hasMore, hasSub, hasBytes, hasKids, n1, n9, n17, n18, n16, n8, n19, n2, n13, n14, n11, n5, n7, n12, n3, n4, n15]⟩
  case rest =>
    obtain ⟨k2, bits2, hi2, lo2, text2, more2, sub2, ab2, nb2, cb2, ak2, nk2, ck2, ok, rfl, hx, hb, hrr⟩ := hcut
    have HRR := Lib.hid hrr.out
    obtain ⟨f0, f1, f2, f3, f4, f5, f6, f7, f8, l0⟩ := hx.nine
    have HB := Lib.hid hb
    clear HR hrr hx hb
    have key : ∀ b, r = b → Hid (r = b) := fun b h => h
    cases ok with
    | false =>
      have HF : Hid (r = false) := by show _ = _; rw [HRR.out]; rfl
      clear HRR key
      go_wp2_with fail
      go_ret
      exact ⟨by rw [HF.out]; rfl, HB.out⟩
    | true =>
      have c0 : (bits2 == 0) = ((bits2 : Int) == 0) := by rw [Bool.eq_iff_iff]; simp
      rw [c0] at HRR
      cases t0 : ((bits2 : Int) == 0) with
      | false =>
        have HF : Hid (r = false) := by show _ = _; rw [HRR.out, t0]; simp
        clear HRR key
        go_wp2_with fail
        go_ret
        exact ⟨by rw [HF.out]; rfl, HB.out⟩
      | true =>
      have c1 : (hi2 == 0) = ((hi2 : Int) == 0) := by rw [Bool.eq_iff_iff]; simp
      rw [c1] at HRR
      cases t1 : ((hi2 : Int) == 0) with
      | false =>
        have HF : Hid (r = false) := by show _ = _; rw [HRR.out, t0, t1]; simp
        clear HRR key
        go_wp2_with fail
        go_ret
        exact ⟨by rw [HF.out]; rfl, HB.out⟩
      | true =>
      have c2 : (lo2 == 0) = ((lo2 : Int) == 0) := by rw [Bool.eq_iff_iff]; simp
      rw [c2] at HRR
      cases t2 : ((lo2 : Int) == 0) with
      | false =>
        have HF : Hid (r = false) := by show _ = _; rw [HRR.out, t0, t1, t2]; simp
        clear HRR key
        go_wp2_with fail
        go_ret
        exact ⟨by rw [HF.out]; rfl, HB.out⟩
      | true =>
      cases t3 : (text2.toList == []) with
      | false =>
        have HF : Hid (r = false) := by show _ = _; rw [HRR.out, t0, t1, t2, t3]; simp
        clear HRR key
        go_wp2_with fail
        go_ret
        exact ⟨by rw [HF.out]; rfl, HB.out⟩
      | true =>
      cases t4 : (more2.toList == []) with
      | false =>
        have HF : Hid (r = false) := by show _ = _; rw [HRR.out, t0, t1, t2, t3, t4]; simp
        clear HRR key
        go_wp2_with fail
        go_ret
        exact ⟨by rw [HF.out]; rfl, HB.out⟩
      | true =>
      cases t5 : (sub2 == 0) with
      | false =>
        have HF : Hid (r = false) := by show _ = _; rw [HRR.out, t0, t1, t2, t3, t4, t5]; simp
        clear HRR key
        go_wp2_with fail
        go_ret
        exact ⟨by rw [HF.out]; rfl, HB.out⟩
      | true =>
      have c6 : (nb2 == 0) = ((nb2 : Int) == 0) := by rw [Bool.eq_iff_iff]; simp
      rw [c6] at HRR
      cases t6 : ((nb2 : Int) == 0) with
      | false =>
        have HF : Hid (r = false) := by show _ = _; rw [HRR.out, t0, t1, t2, t3, t4, t5, t6]; simp
        clear HRR key
        go_wp2_with fail
        go_ret
        exact ⟨by rw [HF.out]; rfl, HB.out⟩
      | true =>
      have c7 : (nk2 == 0) = ((nk2 : Int) == 0) := by rw [Bool.eq_iff_iff]; simp
      rw [c7] at HRR
      cases t7 : ((nk2 : Int) == 0) with
      | false =>
        have HF : Hid (r = false) := by show _ = _; rw [HRR.out, t0, t1, t2, t3, t4, t5, t6, t7]; simp
        clear HRR key
        go_wp2_with fail
        go_ret
        exact ⟨by rw [HF.out]; rfl, HB.out⟩
      | true =>
      have HF : Hid (r = true) := by show _ = _; rw [HRR.out, t0, t1, t2, t3, t4, t5, t6, t7]; rfl
      clear HRR key
      go_wp2_with fail
      go_ret
      exact ⟨by rw [HF.out]; rfl, HB.out⟩

end Go.Proofs.Ytkcfkdmffbhljaa

namespace Go.Proofs.Ytkcfkdmffbhljaa
open Go.RowKit
set_option linter.unusedVariables false
set_option linter.unusedSimpArgs false

def kdCells : Array Value := #[.int .i64 1, .int .i64 2, .int .i64 3, .int .i64 4, .int .i64 5, .int .i64 6, .int .i64 7, .int .i64 8, .int .i64 9, .int .i64 10, .int .i64 11, .int .i64 12, .int .i64 13, .int .i64 14, .int .i64 15, .int .i64 16, .int .i64 17, .int .i64 18, .int .i64 19, .int .i64 127, .int .i64 255]
def rnCells : Array Value := #[.string ⟨#[100, 111, 117, 98, 108, 101]⟩, .string ⟨#[115, 116, 114, 105, 110, 103]⟩, .string ⟨#[100, 111, 99, 117, 109, 101, 110, 116]⟩, .string ⟨#[97, 114, 114, 97, 121]⟩, .string ⟨#[98, 105, 110, 97, 114, 121]⟩, .string ⟨#[117, 110, 100, 101, 102, 105, 110, 101, 100]⟩, .string ⟨#[111, 98, 106, 101, 99, 116, 105, 100]⟩, .string ⟨#[98, 111, 111, 108]⟩, .string ⟨#[100, 97, 116, 101]⟩, .string ⟨#[110, 117, 108, 108]⟩, .string ⟨#[114, 101, 103, 101, 120]⟩, .string ⟨#[112, 111, 105, 110, 116, 101, 114]⟩, .string ⟨#[99, 111, 100, 101]⟩, .string ⟨#[115, 121, 109, 98, 111, 108]⟩, .string ⟨#[115, 99, 111, 112, 101, 100]⟩, .string ⟨#[105, 110, 116, 51, 50]⟩, .string ⟨#[116, 105, 109, 101, 115, 116, 97, 109, 112]⟩, .string ⟨#[105, 110, 116, 54, 52]⟩, .string ⟨#[100, 101, 99, 105, 109, 97, 108]⟩, .string ⟨#[109, 97, 120, 107, 101, 121]⟩, .string ⟨#[109, 105, 110, 107, 101, 121]⟩]
def kdL : List Int := [1, 2, 3, 4, 5, 6, 7, 8, 9, 10, 11, 12, 13, 14, 15, 16, 17, 18, 19, 127, 255]
def kdAt (j : Nat) : Int := kdL.getD j 0
def rnS (n : Nat) : ByteArray := match rnCells[n]? with | some (.string s) => s | _ => ⟨#[]⟩
theorem kd_at (n : Nat) (h : n < 21) : kdCells[n]? = some (.int .i64 (kdAt n)) ∧ rnCells[n]? = some (.string (rnS n)) ∧ noTxt (rnS n) = false ∧ knownK (kdAt n) = true := by
  have : n = 0 ∨ n = 1 ∨ n = 2 ∨ n = 3 ∨ n = 4 ∨ n = 5 ∨ n = 6 ∨ n = 7 ∨ n = 8 ∨ n = 9 ∨ n = 10 ∨ n = 11 ∨ n = 12 ∨ n = 13 ∨ n = 14 ∨ n = 15 ∨ n = 16 ∨ n = 17 ∨ n = 18 ∨ n = 19 ∨ n = 20 := by omega
  rcases this with rfl | rfl | rfl | rfl | rfl | rfl | rfl | rfl | rfl | rfl | rfl | rfl | rfl | rfl | rfl | rfl | rfl | rfl | rfl | rfl | rfl <;> exact ⟨rfl, rfl, by kernel_rfl, by decide⟩
theorem kd_none (k : Int) (h : ∀ m, m < 21 → kdAt m ≠ k) : knownK k = false := by
  have h0 : 1 ≠ k := h 0 (by omega)
  have h1 : 2 ≠ k := h 1 (by omega)
  have h2 : 3 ≠ k := h 2 (by omega)
  have h3 : 4 ≠ k := h 3 (by omega)
  have h4 : 5 ≠ k := h 4 (by omega)
  have h5 : 6 ≠ k := h 5 (by omega)
  have h6 : 7 ≠ k := h 6 (by omega)
  have h7 : 8 ≠ k := h 7 (by omega)
  have h8 : 9 ≠ k := h 8 (by omega)
  have h9 : 10 ≠ k := h 9 (by omega)
  have h10 : 11 ≠ k := h 10 (by omega)
  have h11 : 12 ≠ k := h 11 (by omega)
  have h12 : 13 ≠ k := h 12 (by omega)
  have h13 : 14 ≠ k := h 13 (by omega)
  have h14 : 15 ≠ k := h 14 (by omega)
  have h15 : 16 ≠ k := h 15 (by omega)
  have h16 : 17 ≠ k := h 16 (by omega)
  have h17 : 18 ≠ k := h 17 (by omega)
  have h18 : 19 ≠ k := h 18 (by omega)
  have h19 : 127 ≠ k := h 19 (by omega)
  have h20 : 255 ≠ k := h 20 (by omega)
  simp [knownK]
  omega

set_option maxRecDepth 100000 in
theorem kinds_calls (w : World) : Calls Try.prog 96 #[] w fun e w' => e = .returned (.slice (some ⟨w.heap.size, 0, none⟩) 21 21) ∧ w' = w.alloc (.cells kdCells 3) := by
  go_enter Try.func96, Try.ntmps96
  go_upto_region 1 with fail
  refine wp_region_lit ?_
  refine wpList_plain rfl (fun K hK => ?_)
  refine wp_val (v := .slice (some ⟨w.heap.size, 0, none⟩) 21 21) (w' := w.alloc (.cells kdCells 3)) (by kernel_rfl) (hK _ _ ?_)
  clear hK
  obtain ⟨W, hW⟩ : ∃ W, W = w.alloc (.cells kdCells 3) := ⟨_, rfl⟩
  rw [← hW]
  have HW := Lib.hid hW
  clear hW
  go_wp2_with fail
  go_ret
  exact ⟨rfl, HW.out⟩

def RnRel (w1 : World) (k : Int) (i : Value) (wr : World) : Prop := ∃ j : Nat, i = .int .i64 j ∧ j ≤ 21 ∧ Hid (∀ m, m < j → kdAt m ≠ k) ∧ wr = w1

set_option maxRecDepth 100000 in
set_option maxHeartbeats 4000000 in
theorem rname_calls (k : Int) (w : World) :
    Calls Try.prog 80 #[.int .i64 k] w fun e w' => ∃ s, e = .returned (.string s) ∧ noTxt s = !knownK k ∧ Below w.heap.size w w' := by
  have CK := Lib.hid (fun W => kinds_calls W)
  go_enter Try.func80, Try.ntmps80
  go_upto_region 1 with fail
  refine wp_region_lit ?_
  refine wpList_plain rfl (fun K hK => ?_)
  refine wp_val (v := .slice (some ⟨w.heap.size, 0, none⟩) 21 21) (w' := w.alloc (.cells rnCells 9)) (by kernel_rfl) (hK _ _ ?_)
  clear hK
  obtain ⟨W, hW⟩ : ∃ W, W = w.alloc (.cells rnCells 9) := ⟨_, rfl⟩
  have hb : Below w.heap.size w W := by rw [hW]; exact (Below.refl _ _).alloc (Nat.le_refl _) _
  have hn : Hid (∀ n, n < 21 → W.cell? ⟨w.heap.size, n, none⟩ = some (.string (rnS n))) := by
    show ∀ n, _
    intro n h
    rw [hW, new_cell]
    exact (kd_at n h).2.1
  have hsz : w.heap.size < W.heap.size := by rw [hW]; simp
  rw [← hW]
  clear hW
  go_wp2_with fail
  refine (CK.out W).mono ?_
  rintro e w1 ⟨rfl, hw1⟩
  have hb1 : Below W.heap.size W w1 := by rw [hw1]; exact (Below.refl _ _).alloc (Nat.le_refl _) _
  have HB : Hid (Below w.heap.size w w1) := hb.trans (hb1.mono hb.size)
  have HN : Hid (∀ n, n < 21 → w1.cell? ⟨w.heap.size, n, none⟩ = some (.string (rnS n))) := fun n h => cell_below hb1 (hn.out n h)
  have HK : Hid (∀ n, n < 21 → w1.cell? ⟨W.heap.size, n, none⟩ = some (.int .i64 (kdAt n))) := by
    show ∀ n, _
    intro n h
    rw [hw1, new_cell]
    exact (kd_at n h).1
  clear hw1 hb hb1 hn
  go_wp2_with fail
  go_loopw [5] (fun i wr => RnRel w1 k i wr) (fun i _ => 21 - (intOf i).toNat)
  case atStart => exact ⟨0, rfl, by omega, fun m hm => absurd hm (Nat.not_lt_zero m), rfl⟩
  case round =>
    obtain ⟨j, rfl, hj, hm, rfl⟩ := hrel
    by_cases hlt : j < 21
    · have c1 := HK.out j hlt
      have c2 := HN.out j hlt
      obtain ⟨-, -, hs, hk⟩ := kd_at j hlt
      have hj0 : (0 : Int) ≤ (j : Int) := by omega
      have hj1 : (j : Int) < 21 := by omega
      obtain ⟨x, hx⟩ : ∃ x, x = kdAt j := ⟨_, rfl⟩
      rw [← hx] at c1 hk
      have HX := Lib.hid hx
      clear hx
      by_cases he : x = k
      · have e1 : (x == k) = true := by simpa using he
        have HS : Hid (noTxt (rnS j) = !knownK k) := by show _ = _; rw [hs, ← he, hk]; rfl
        generalize rnS j = s at c2 HS
        clear he hs hk
        go_wp2_with fail
        go_ret
        exact ⟨_, rfl, HS.out, HB.out⟩
      · have e1 : (x == k) = false := by simpa using he
        have HM : Hid (∀ m, m < j + 1 → kdAt m ≠ k) := by
          show ∀ m, _
          intro m h1
          by_cases h2 : m = j
          · subst h2; rw [← HX.out]; exact he
          · exact hm.out m (by omega)
        clear he hs hk c2
        go_wp2_with fail
        go_roundw
        case rel => exact ⟨j + 1, by simp, by omega, HM, rfl⟩
        case measure => simp [intOf]; omega
    · have HS : Hid (knownK k = false) := kd_none k (fun m h => hm.out m (by omega))
      have hd : decide ((j : Int) < 21) = false := by simp; omega
      go_wp2_with fail
      go_ret
      exact ⟨_, rfl, by rw [HS.out]; kernel_rfl, HB.out⟩

def hasV (k : Int) : Array Value := #[.bool (hasBits k), .bool (hasWide k), .bool (hasText k), .bool (hasMore k), .bool (hasSub k), .bool (hasBytes k), .bool (hasKids k)]

set_option maxRecDepth 100000 in
set_option maxHeartbeats 8000000 in
theorem has_calls (k : Int) (w : World) :
    Calls Try.prog 89 #[.int .i64 k] w fun e w' => e = .returned (.tuple (hasV k)) ∧ w = w' := by
  by_cases h1 : k = 1
  · subst h1
    go_enter Try.func89, Try.ntmps89
    go_wp2_with fail
    refine bodyPost_ret (v := .tuple #[.bool true, .bool false, .bool false, .bool false, .bool false, .bool false, .bool false]) (by simp [results, Try.results89, go_sem]) rfl ?_
    exact ⟨rfl, rfl⟩
  by_cases h9 : k = 9
  · subst h9
    go_enter Try.func89, Try.ntmps89
    go_wp2_with fail
    refine bodyPost_ret (v := .tuple #[.bool true, .bool false, .bool false, .bool false, .bool false, .bool false, .bool false]) (by simp [results, Try.results89, go_sem]) rfl ?_
    exact ⟨rfl, rfl⟩
  by_cases h17 : k = 17
  · subst h17
    go_enter Try.func89, Try.ntmps89
    go_wp2_with fail
    refine bodyPost_ret (v := .tuple #[.bool true, .bool false, .bool false, .bool false, .bool false, .bool false, .bool false]) (by simp [results, Try.results89, go_sem]) rfl ?_
    exact ⟨rfl, rfl⟩
  by_cases h18 : k = 18
  · subst h18
    go_enter Try.func89, Try.ntmps89
    go_wp2_with fail
    refine bodyPost_ret (v := .tuple #[.bool true, .bool false, .bool false, .bool false, .bool false, .bool false, .bool false]) (by simp [results, Try.results89, go_sem]) rfl ?_
    exact ⟨rfl, rfl⟩
  by_cases h16 : k = 16
  · subst h16
    go_enter Try.func89, Try.ntmps89
    go_wp2_with fail
    refine bodyPost_ret (v := .tuple #[.bool true, .bool false, .bool false, .bool false, .bool false, .bool false, .bool false]) (by simp [results, Try.results89, go_sem]) rfl ?_
    exact ⟨rfl, rfl⟩
  by_cases h8 : k = 8
  · subst h8
    go_enter Try.func89, Try.ntmps89
    go_wp2_with fail
    refine bodyPost_ret (v := .tuple #[.bool true, .bool false, .bool false, .bool false, .bool false, .bool false, .bool false]) (by simp [results, Try.results89, go_sem]) rfl ?_
    exact ⟨rfl, rfl⟩
  by_cases h19 : k = 19
  · subst h19
    go_enter Try.func89, Try.ntmps89
    go_wp2_with fail
    refine bodyPost_ret (v := .tuple #[.bool false, .bool true, .bool false, .bool false, .bool false, .bool false, .bool false]) (by simp [results, Try.results89, go_sem]) rfl ?_
    exact ⟨rfl, rfl⟩
  by_cases h2 : k = 2
  · subst h2
    go_enter Try.func89, Try.ntmps89
    go_wp2_with fail
    refine bodyPost_ret (v := .tuple #[.bool false, .bool false, .bool true, .bool false, .bool false, .bool false, .bool false]) (by simp [results, Try.results89, go_sem]) rfl ?_
    exact ⟨rfl, rfl⟩
  by_cases h13 : k = 13
  · subst h13
    go_enter Try.func89, Try.ntmps89
    go_wp2_with fail
    refine bodyPost_ret (v := .tuple #[.bool false, .bool false, .bool true, .bool false, .bool false, .bool false, .bool false]) (by simp [results, Try.results89, go_sem]) rfl ?_
    exact ⟨rfl, rfl⟩
  by_cases h14 : k = 14
  · subst h14
    go_enter Try.func89, Try.ntmps89
    go_wp2_with fail
    refine bodyPost_ret (v := .tuple #[.bool false, .bool false, .bool true, .bool false, .bool false, .bool false, .bool false]) (by simp [results, Try.results89, go_sem]) rfl ?_
    exact ⟨rfl, rfl⟩
  by_cases h11 : k = 11
  · subst h11
    go_enter Try.func89, Try.ntmps89
    go_wp2_with fail
    refine bodyPost_ret (v := .tuple #[.bool false, .bool false, .bool true, .bool true, .bool false, .bool false, .bool false]) (by simp [results, Try.results89, go_sem]) rfl ?_
    exact ⟨rfl, rfl⟩
  by_cases h5 : k = 5
  · subst h5
    go_enter Try.func89, Try.ntmps89
    go_wp2_with fail
    refine bodyPost_ret (v := .tuple #[.bool false, .bool false, .bool false, .bool false, .bool true, .bool true, .bool false]) (by simp [results, Try.results89, go_sem]) rfl ?_
    exact ⟨rfl, rfl⟩
  by_cases h7 : k = 7
  · subst h7
    go_enter Try.func89, Try.ntmps89
    go_wp2_with fail
    refine bodyPost_ret (v := .tuple #[.bool false, .bool false, .bool false, .bool false, .bool false, .bool true, .bool false]) (by simp [results, Try.results89, go_sem]) rfl ?_
    exact ⟨rfl, rfl⟩
  by_cases h12 : k = 12
  · subst h12
    go_enter Try.func89, Try.ntmps89
    go_wp2_with fail
    refine bodyPost_ret (v := .tuple #[.bool false, .bool false, .bool true, .bool false, .bool false, .bool true, .bool false]) (by simp [results, Try.results89, go_sem]) rfl ?_
    exact ⟨rfl, rfl⟩
  by_cases h3 : k = 3
  · subst h3
    go_enter Try.func89, Try.ntmps89
    go_wp2_with fail
    refine bodyPost_ret (v := .tuple #[.bool false, .bool false, .bool false, .bool false, .bool false, .bool false, .bool true]) (by simp [results, Try.results89, go_sem]) rfl ?_
    exact ⟨rfl, rfl⟩
  by_cases h4 : k = 4
  · subst h4
    go_enter Try.func89, Try.ntmps89
    go_wp2_with fail
    refine bodyPost_ret (v := .tuple #[.bool false, .bool false, .bool false, .bool false, .bool false, .bool false, .bool true]) (by simp [results, Try.results89, go_sem]) rfl ?_
    exact ⟨rfl, rfl⟩
  by_cases h15 : k = 15
  · subst h15
    go_enter Try.func89, Try.ntmps89
    go_wp2_with fail
    refine bodyPost_ret (v := .tuple #[.bool false, .bool false, .bool true, .bool false, .bool false, .bool false, .bool true]) (by simp [results, Try.results89, go_sem]) rfl ?_
    exact ⟨rfl, rfl⟩
  have n1 : (k == 1) = false := by simpa using h1
  have n9 : (k == 9) = false := by simpa using h9
  have n17 : (k == 17) = false := by simpa using h17
  have n18 : (k == 18) = false := by simpa using h18
  have n16 : (k == 16) = false := by simpa using h16
  have n8 : (k == 8) = false := by simpa using h8
  have n19 : (k == 19) = false := by simpa using h19
  have n2 : (k == 2) = false := by simpa using h2
  have n13 : (k == 13) = false := by simpa using h13
  have n14 : (k == 14) = false := by simpa using h14
  have n11 : (k == 11) = false := by simpa using h11
  have n5 : (k == 5) = false := by simpa using h5
  have n7 : (k == 7) = false := by simpa using h7
  have n12 : (k == 12) = false := by simpa using h12
  have n3 : (k == 3) = false := by simpa using h3
  have n4 : (k == 4) = false := by simpa using h4
  have n15 : (k == 15) = false := by simpa using h15
  have hv : hasV k = #[.bool false, .bool false, .bool false, .bool false, .bool false, .bool false, .bool false] := by simp [hasV, hasBits, hasWide, hasText, hasMore, hasSub, hasBytes, hasKids, n1, n9, n17, n18, n16, n8, n19, n2, n13, n14, n11, n5, n7, n12, n3, n4, n15]
  rw [hv]
  clear hv
  go_enter Try.func89, Try.ntmps89
  go_wp2_with fail
  refine bodyPost_ret (v := .tuple #[.bool false, .bool false, .bool false, .bool false, .bool false, .bool false, .bool false]) (by simp [results, Try.results89, go_sem]) rfl ?_
  exact ⟨rfl, rfl⟩

end Go.Proofs.Ytkcfkdmffbhljaa
