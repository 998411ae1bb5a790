/- A Writer on its way. -/
import Derived.Test.YtambhapgjonmmaaCbW
namespace Go.Proofs.Ytambhapgjonmmaa
open Go.RowKit
set_option linter.unusedVariables false
set_option linter.unusedSimpArgs false

theorem Wtr.below {w w3 : World} {B g : Nat} {v : Value} {bs : List UInt8} (h : Wtr w B g v bs) (hb : Below w.heap.size w w3) : Wtr w3 B g v bs :=
  h.chg (S := fun _ => False) (Chg.of_below hb) (fun h => h) (fun _ _ h => h)

/-- A Writer on its way: where it stands, what has turned since. -/
def WGo (w : World) (B g : Nat) (v : Value) (bs : List UInt8) (vr : Value) (wr : World) : Prop :=
  Wtr wr B g vr bs ∧ Chg (fun k => k = g ∨ v.ownBlock = some k) w wr ∧ (∀ k, vr.ownBlock = some k → v.ownBlock = some k ∨ w.heap.size ≤ k)

theorem WGo.refl {w : World} {B g : Nat} {v : Value} {bs : List UInt8} (h : Wtr w B g v bs) : WGo w B g v bs v w := ⟨h, Chg.refl _ _, fun k hk => .inl hk⟩

theorem WGo.step {w wr w' : World} {B g : Nat} {v vr : Value} {bs bs' : List UInt8} (h : WGo w B g v bs vr wr) (hs : WStep wr B g vr bs' w') : ∃ v', WGo w B g v bs' v' w' := WStep.trans h.2.1 h.2.2 hs

theorem WGo.below {w wr w' : World} {B g : Nat} {v vr : Value} {bs : List UInt8} (h : WGo w B g v bs vr wr) (hb : Below wr.heap.size wr w') : WGo w B g v bs vr w' :=
  ⟨h.1.below hb, h.2.1.trans (Chg.of_below (S := fun _ => False) hb) (fun _ _ h => h.elim), h.2.2⟩

theorem WGo.wstep {w wr : World} {B g : Nat} {v vr : Value} {bs : List UInt8} (h : WGo w B g v bs vr wr) : WStep w B g v bs wr := ⟨vr, h⟩

theorem WGo.under {w0 w wr : World} {B g : Nat} {v vr : Value} {bs bs0 : List UInt8} (h : WGo w B g v bs vr wr) (h0 : Wtr w B g v bs0) (hb : Below w0.heap.size w0 w) (hB : w0.heap.size ≤ B) (hg : w0.heap.size ≤ g) : Below w0.heap.size w0 wr :=
  hb.trans (h.2.1.below hb.size (fun i hi => by
    rcases hi with rfl | hi
    · exact hg
    · have := (owns_lt h0.2.2.1 i hi).1; omega))

end Go.Proofs.Ytambhapgjonmmaa
