/- cbor: an error's place; the number of a head. -/
import Derived.Test.YtambhapgjonmmaaCbE
import Derived.Test.YtambhapgjonmmaaCbR
namespace Go.Proofs.Ytambhapgjonmmaa
open Go.RowKit
set_option linter.unusedVariables false
set_option linter.unusedSimpArgs false

abbrev zIt : Value := .agg #[.int .i64 0, .int .u64 0, .slice none 0 0, .string ⟨#[]⟩, .slice none 0 0]
abbrev fltV (e a : Nat) : Value := .agg #[.int .i64 (e : Nat), .int .i64 (a : Nat), .slice none 0 0]

set_option maxRecDepth 100000 in
set_option maxHeartbeats 1000000 in
theorem wrong28 (er a : Nat) (w : World) : Calls Try.prog 29 #[.int .i64 er, .int .i64 a] w fun e w' => e = .returned (.tuple #[zIt, fltV er a]) ∧ Below w.heap.size w w' := by
  go_enter Try.func29, Try.ntmps29
  go_upto_region 1 with fail
  (repeat (first | go_values | go_skip | go_guarded | go_step | go_upon | (go_simp; go_at_K)))
  refine bodyPost_ret (v := .tuple #[zIt, fltV er a]) (by simp [results, Try.results29, go_sem, *]) rfl ?_
  refine ⟨rfl, ?_⟩
  (repeat' (first | with_reducible exact Below.refl _ _ | with_reducible refine Below.setCell ?_ (by simp) _ | with_reducible refine Below.alloc ?_ (by simp) _))

/-- The number of a head whose first byte says it. -/
theorem num28_small (r : Nat) (low : Nat) (hl : low < 24) (w : World) : Calls Try.prog 47 #[.pointer (some ⟨r, 0, none⟩), .int .i64 low] w fun e w' => e = .returned (.tuple #[.int .u64 (low : Nat), .bool true]) ∧ w = w' := by
  have d0 : decide ((low : Int) < 24) = true := by simp; omega
  have wl : IntKind.u64.wrap (low : Int) = low := IntWalk.u64_in _ (by omega)
  clear hl
  go_enter Try.func47, Try.ntmps47
  go_wp2_with fail
  go_ret2
  exact ⟨rfl, rfl⟩
/-- How many bytes the number stands in. -/
def wideB (low : Nat) : Nat := if low = 24 then 1 else if low = 25 then 2 else if low = 26 then 4 else 8
theorem wideB_le (low : Nat) : 1 ≤ wideB low ∧ wideB low ≤ 8 := by unfold wideB; (repeat' split) <;> omega
set_option maxRecDepth 100000 in
set_option maxHeartbeats 1000000 in
theorem num28_yes (r p : Nat) (bs : List UInt8) (low : Nat) (h1 : 24 ≤ low) (h2 : low ≤ 27) (w : World) (h : Rdr w r bs p) (hn : p + wideB low ≤ bs.length) :
    Calls Try.prog 47 #[.pointer (some ⟨r, 0, none⟩), .int .i64 low] w (StepPost w r bs (.tuple #[.int .u64 (be (seg bs p (wideB low))), .bool true]) (p + wideB low)) := by
  have C := Lib.hid (rhigh_yes r p bs w h (wideB low) (wideB_le _).1 (wideB_le _).2 hn)
  clear h hn
  have : low = 24 ∨ low = 25 ∨ low = 26 ∨ low = 27 := by omega
  clear h1 h2
  rcases this with rfl | rfl | rfl | rfl
  all_goals
    simp only [wideB, if_pos, if_neg, Nat.reduceEqDiff, if_true, if_false] at C ⊢
    go_enter Try.func47, Try.ntmps47
    go_wp2_with fail
    refine C.out.mono ?_
    rintro e w' ⟨rfl, hr, hc⟩
    have HR := Lib.hid hr
    have HC := Lib.hid hc
    clear hr hc C
    go_wp2_with fail
    go_ret2
    exact ⟨rfl, HR.out, HC.out⟩
set_option maxRecDepth 100000 in
set_option maxHeartbeats 1000000 in
theorem num28_no (r p : Nat) (bs : List UInt8) (low : Nat) (h1 : 24 ≤ low) (h2 : low ≤ 27) (w : World) (h : Rdr w r bs p) (hn : bs.length < p + wideB low) :
    Calls Try.prog 47 #[.pointer (some ⟨r, 0, none⟩), .int .i64 low] w fun e w' => e = .returned (.tuple #[.int .u64 0, .bool false]) ∧ ∃ n, w.drewN n = w' := by
  have C := Lib.hid (rhigh_no r p bs w h (wideB low) (by omega))
  clear h hn
  have : low = 24 ∨ low = 25 ∨ low = 26 ∨ low = 27 := by omega
  clear h1 h2
  rcases this with rfl | rfl | rfl | rfl
  all_goals
    simp only [wideB, if_pos, if_neg, Nat.reduceEqDiff, if_true, if_false] at C ⊢
    go_enter Try.func47, Try.ntmps47
    go_wp2_with fail
    refine C.out.mono ?_
    rintro e w' ⟨rfl, nq, rfl⟩
    clear C
    go_wp2_with fail
    go_ret2
    exact ⟨rfl, nq, rfl⟩

/-- The boxes of a function's results, an item and a fault, as they are at its start. -/
def RBx (w : World) (g h : Nat) : Prop :=
  (w.cell? ⟨g, 0, none⟩ = some (.int .i64 0) ∧ w.cell? ⟨g, 1, none⟩ = some (.int .u64 0) ∧ w.cell? ⟨g, 2, none⟩ = some (.slice none 0 0) ∧ w.cell? ⟨g, 3, none⟩ = some (.string ⟨#[]⟩) ∧ w.cell? ⟨g, 4, none⟩ = some (.slice none 0 0)) ∧
  (w.frozen? ⟨g, 0, none⟩ = false ∧ w.frozen? ⟨g, 1, none⟩ = false ∧ w.frozen? ⟨g, 2, none⟩ = false ∧ w.frozen? ⟨g, 3, none⟩ = false ∧ w.frozen? ⟨g, 4, none⟩ = false) ∧
  (w.cell? ⟨h, 0, none⟩ = some (.int .i64 0) ∧ w.cell? ⟨h, 1, none⟩ = some (.int .i64 0) ∧ w.cell? ⟨h, 2, none⟩ = some (.slice none 0 0)) ∧
  (w.frozen? ⟨h, 0, none⟩ = false ∧ w.frozen? ⟨h, 1, none⟩ = false ∧ w.frozen? ⟨h, 2, none⟩ = false)
theorem Chg.frozen {S : Nat → Prop} {a b : World} (h : Chg S a b) {p : Addr} (hp : ¬ S p.block) (hl : p.block < a.heap.size) : b.frozen? p = a.frozen? p := World.frozen?_of_block (w := a) (h.block p.block hl hp)
theorem RBx.chg {S : Nat → Prop} {w w' : World} {g h : Nat} (hc : Chg S w w') (hg : ¬ S g) (hh : ¬ S h) (b : RBx w g h) : RBx w' g h := by
  obtain ⟨⟨h0, h1, h2, h3, h4⟩, ⟨f0, f1, f2, f3, f4⟩, ⟨k0, k1, k2⟩, ⟨l0, l1, l2⟩⟩ := b
  have hl : g < w.heap.size := by simpa using cell_block h0
  have hm : h < w.heap.size := by simpa using cell_block k0
  refine ⟨⟨hc.cell hg h0, hc.cell hg h1, hc.cell hg h2, hc.cell hg h3, hc.cell hg h4⟩, ⟨?_, ?_, ?_, ?_, ?_⟩, ⟨hc.cell hh k0, hc.cell hh k1, hc.cell hh k2⟩, ⟨?_, ?_, ?_⟩⟩
  all_goals first | (rw [hc.frozen (by exact hg) (by exact hl)]; assumption) | (rw [hc.frozen (by exact hh) (by exact hm)]; assumption)
theorem RBx.keep {w w' : World} {g h : Nat} (b : RBx w g h) (hb : Below w.heap.size w w') : RBx w' g h := b.chg (S := fun _ => False) (Chg.of_below hb) (fun h => h) (fun h => h)
theorem RBx.new (w : World) (t u : TypeId) : RBx ((w.alloc (.cells #[.int .i64 0, .int .u64 0, .slice none 0 0, .string ⟨#[]⟩, .slice none 0 0] t)).alloc (.cells #[.int .i64 0, .int .i64 0, .slice none 0 0] u)) w.heap.size (w.heap.size + 1) := by
  refine ⟨⟨?_, ?_, ?_, ?_, ?_⟩, ⟨?_, ?_, ?_, ?_, ?_⟩, ⟨?_, ?_, ?_⟩, ⟨?_, ?_, ?_⟩⟩ <;> simp [go_sem]

end Go.Proofs.Ytambhapgjonmmaa
