/- The Writer: Lay, Byte, Low, High. -/
import Derived.Test.YthahhjmgjlkmfaaCur2
import Derived.StillTailTactics
namespace Go.Proofs.Ythahhjmgjlkmfaa
open Go.RowKit
set_option linter.unusedVariables false
set_option linter.unusedSimpArgs false

/-- A Writer in block g, with the slice v, which holds these bytes in memory from block B on. -/
def Wtr (w : World) (B g : Nat) (v : Value) (bs : List UInt8) : Prop :=
  w.cell? ⟨g, 0, none⟩ = some v ∧ w.frozen? ⟨g, 0, none⟩ = false ∧ OwnB w B v bs ∧ v.ownBlock ≠ some g

/-- What laying more leaves: the Writer holds bs; nothing but its own blocks has turned. -/
def WStep (w : World) (B g : Nat) (v : Value) (bs : List UInt8) (w' : World) : Prop :=
  ∃ v', Wtr w' B g v' bs ∧ Chg (fun k => k = g ∨ v.ownBlock = some k) w w' ∧ (∀ k, v'.ownBlock = some k → v.ownBlock = some k ∨ w.heap.size ≤ k)

theorem WStep.refl {w : World} {B g v bs} (h : Wtr w B g v bs) : WStep w B g v bs w := ⟨v, h, Chg.refl _ _, fun k hk => .inl hk⟩

theorem wtr_grow {w w1 : World} {B g : Nat} {v : Value} {bs : List UInt8} {o : Obj} {g' cap x k : Nat} (h : Wtr w B g v bs) (hx : x < 256)
    (hown : w1.ownsRow B 5 1 (.slice (some ⟨g', 0, none⟩) (bs.length + 1) cap) (bs.length + 1) (byteCells bs ++ [.int .u8 (x : Nat)]))
    (hg : ((w.drewN k).alloc o).grownBy w1 v.ownBlock) (hat : v.ownBlock = some g' ∨ g' = w.heap.size + 1) :
    WStep w B g v (bs ++ [UInt8.ofNat x]) (w1.setCell ⟨g, 0, none⟩ (.slice (some ⟨g', 0, none⟩) (bs.length + 1) cap)) := by
  obtain ⟨h1, h2, h3, h4⟩ := h
  have hlt := cell_block h1
  simp only at hlt
  have hne : g' ≠ g := by
    rcases hat with e | e
    · intro e'; subst e'; exact h4 e
    · omega
  have c0 : Chg (fun j => j = g ∨ v.ownBlock = some j) w w1 := ((Chg.of_below (below_drewN w k _)).alloc o).grown hg (fun j hj _ => .inr hj)
  have c1 : w1.cell? ⟨g, 0, none⟩ = some v := by
    have : Chg (fun j => v.ownBlock = some j) w w1 := ((Chg.of_below (below_drewN w k _)).alloc o).grown hg (fun j hj _ => hj)
    exact this.cell h4 h1
  have c2 : w1.frozen? ⟨g, 0, none⟩ = false := by
    have : Chg (fun j => v.ownBlock = some j) w w1 := ((Chg.of_below (below_drewN w k _)).alloc o).grown hg (fun j hj _ => hj)
    rw [← h2]
    exact World.frozen?_of_block (w := w) (this.block g hlt h4)
  refine ⟨.slice (some ⟨g', 0, none⟩) (bs.length + 1) cap, ⟨World.cell?_setCell_same _ _ _ c1, by rw [World.frozen?_setCell]; exact c2, ?_, ?_⟩, ?_, ?_⟩
  · refine OwnB.chg (S := fun j => j = g) (own_snoc hx hown) (Chg.setCell (S := fun j => j = g) (Chg.refl _ w1) (p := ⟨g, 0, none⟩) (fun _ => rfl) _) ?_
    intro j hj e
    simp only [Value.ownBlock, Option.some.injEq] at hj
    subst e
    exact hne hj
  · simp only [Value.ownBlock]
    intro e
    exact hne (Option.some.inj e)
  · exact c0.setCell (fun _ => .inl rfl) _
  · intro j hj
    simp only [Value.ownBlock, Option.some.injEq] at hj
    subst hj
    rcases hat with e | e
    · exact .inl e
    · exact .inr (by omega)

theorem wtr_own {w : World} {B g v bs} (h : Wtr w B g v bs) (k : Nat) (o : Obj) : ((w.drewN k).alloc o).ownsRow B 5 1 v bs.length (byteCells bs) := World.ownsRow.alloc (ownsRow_drewN h.2.2.1) o

set_option maxRecDepth 100000 in
set_option maxHeartbeats 1000000 in
theorem wbyte_calls (g : Nat) (v : Value) (bs : List UInt8) (w : World) (B : Nat) (h : Wtr w B g v bs) (hB : B ≤ w.heap.size) (hn : bs.length ≤ 1000000000) (x : Int) :
    Calls Try.prog 22 #[.pointer (some ⟨g, 0, none⟩), .int .i64 x] w fun e w' => e = .returned (.tuple #[]) ∧ WStep w B g v (bs ++ [UInt8.ofNat (x % 256).toNat]) w' := by
  obtain ⟨i0, hi, hz0, hz1, hz2⟩ := info_parts infoU8
  have HI := Lib.hid hi
  have H := Lib.hid h
  clear hi
  obtain ⟨h1, h2, h3, h4⟩ := h
  have hlt := cell_block h1
  simp only at hlt
  obtain ⟨a, cap, rfl, _⟩ := h3.reads
  have h5 := h3.2
  obtain ⟨y, hy⟩ : ∃ y : Nat, y = (x % 256).toNat := ⟨_, rfl⟩
  have hyx : IntKind.u8.wrap x = (y : Int) := by rw [IntKind.wrap_u8']; omega
  have HY := Lib.hid hy
  have HYl : Hid (y < 256) := by show y < 256; omega
  clear h3 h5 hy h4
  go_enter Try.func22, Try.ntmps22
  go_wp2_with (at_builtin; refine wpList_append_lies _ rfl _ _ _ rfl B 5 i0 (.int .u8 0) 1 1 Try.underlying22 HI.out hz0 hz1 hz2 rfl (by omega) _ bs.length (byteCells bs) rfl ?own ⟨w.heap.size, 0, none⟩ 1 1 [.int .u8 (y : Nat)] rfl rfl ?c1 ?c2 (by omega) ?c3 ?c4 ?c5 (w.heap.size + 1) ?c6 ?_)
  case own => exact wtr_own H.out 0 _
  case c1 => exact cell_one_new _ _ _
  case c2 => simp [Value.oneCell']
  case c3 => unfold maxLen; omega
  case c4 => omega
  case c5 => simp; omega
  case c6 => simp
  intro g' cap' w1 hown hgrow hat hlt1
  have hst := wtr_grow (k := 0) H.out HYl.out hown hgrow hat
  have HS := Lib.hid hst
  have f1 : w1.cell? ⟨g, 0, none⟩ = some (.slice a bs.length cap) := by
    have : Chg (fun j => (Value.slice a bs.length cap).ownBlock = some j) w w1 := ((Chg.of_below (below_drewN w 0 _)).alloc _).grown hgrow (fun j hj _ => hj)
    exact this.cell H.out.2.2.2 h1
  have f2 : w1.frozen? ⟨g, 0, none⟩ = false := by
    have : Chg (fun j => (Value.slice a bs.length cap).ownBlock = some j) w w1 := ((Chg.of_below (below_drewN w 0 _)).alloc _).grown hgrow (fun j hj _ => hj)
    rw [← h2]
    exact World.frozen?_of_block (w := w) (this.block g hlt H.out.2.2.2)
  clear hown hgrow hat hst hlt1
  go_wp2_with fail
  go_end0
  exact ⟨rfl, by rw [← HY.out]; exact HS.out⟩

end Go.Proofs.Ythahhjmgjlkmfaa
