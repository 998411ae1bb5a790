/- What Decode answers, in one form: a value that lies, an error and its place. -/
import Derived.Test.YtkcfkdmffbhljaaBiL
import Derived.Test.YtkcfkdmffbhljaaMB
namespace Go.Proofs.Ytkcfkdmffbhljaa
open Go.RowKit
set_option linter.unusedVariables false
set_option linter.unusedSimpArgs false

/-- An answer's value. -/
def treeOf : Except (Nat × Nat) F → T
  | .error _ => .mk 0 0 0 0 nt nt 0 [] .nil
  | .ok f => docT f
theorem zero_rd (w : World) : RdT w (.mk 0 0 0 0 nt nt 0 [] .nil) zCellsV :=
  ⟨none, 0, 0, none, 0, 0, rfl, ⟨by omega, by unfold okSize; omega, by unfold okSize; omega, by unfold okSize; omega, by decide, by decide, by omega⟩, RdB.nil _ _, rfl, ⟨by omega, ⟨fun _ => rfl, Nat.le_refl _⟩, ⟨fun _ => rfl, Nat.le_refl _⟩⟩, trivial⟩

/-- What Decode answers. -/
def DecU (d s o : Int) (L : List UInt8) (w : World) (e : Ending) (w' : World) : Prop :=
  ∃ r k bits hi lo text more sub ab nb cb ak nk ck, DecQ d s o L r ∧ e = .returned (.tuple #[.agg (valCells k bits hi lo text more sub ab nb cb ak nk ck), fltV (fltOf r).1 (fltOf r).2]) ∧ RdT w' (treeOf r) (valCells k bits hi lo text more sub ab nb cb ak nk ck) ∧ Below w.heap.size w w'
theorem decU_calls (ab : Option Addr) (n c : Nat) (d s o : Int) (L : List UInt8) (w : World) (hr : RdB w ab n L) (hc : n ≤ c) (hn : n ≤ 1000000) :
    Calls Try.prog 16 #[.slice ab n c, .agg (limCells d s o)] w (DecU d s o L w) := by
  refine (decode_calls ab n c d s o L w hr hc hn).mono ?_
  rintro e w' ⟨r, hq, hout, hb⟩
  cases r with
  | error p => exact ⟨.error p, 0, 0, 0, 0, ⟨#[]⟩, ⟨#[]⟩, 0, none, 0, 0, none, 0, 0, hq, hout, zero_rd w', hb⟩
  | ok f =>
    obtain ⟨c, rfl, hrd⟩ := hout
    have hrd2 : RdT w' (docT f) c := hrd.rd
    obtain ⟨ab2, nb2, cb2, ak2, nk2, ck2, rfl, -⟩ := hrd
    exact ⟨.ok f, 3, 0, 0, 0, nt, nt, 0, ab2, nb2, cb2, ak2, nk2, ck2, hq, rfl, hrd2, hb⟩

/-- Three limits in a box. -/
def LBx (W : World) (g : Nat) (d s o : Int) : Prop := W.cell? ⟨g, 0, none⟩ = some (.int .i64 d) ∧ W.cell? ⟨g, 1, none⟩ = some (.int .i64 s) ∧ W.cell? ⟨g, 2, none⟩ = some (.int .i64 o) ∧ g < W.heap.size
theorem LBx.keep {W W' : World} {g : Nat} {d s o : Int} (h : LBx W g d s o) (hb : Below W.heap.size W W') : LBx W' g d s o :=
  ⟨cell_below hb h.1, cell_below hb h.2.1, cell_below hb h.2.2.1, Nat.lt_of_lt_of_le h.2.2.2 hb.size⟩
theorem LBx.new (W : World) (d s o : Int) (ty : TypeId) : LBx (W.alloc (.cells #[.int .i64 d, .int .i64 s, .int .i64 o] ty)) W.heap.size d s o := by
  refine ⟨?_, ?_, ?_, ?_⟩ <;> simp [go_sem]
theorem FBx.new (W : World) (e a : Nat) (ty : TypeId) : FBx (W.alloc (.cells #[.int .i64 (e : Nat), .int .i64 (a : Nat), .slice none 0 0] ty)) W.heap.size e a := by
  refine ⟨?_, ?_, ?_, ?_, ?_, ?_, ?_⟩ <;> simp [go_sem]

end Go.Proofs.Ytkcfkdmffbhljaa
