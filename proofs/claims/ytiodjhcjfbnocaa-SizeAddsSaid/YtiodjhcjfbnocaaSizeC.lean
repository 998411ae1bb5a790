/- SizeAdds: what its walk needs. -/
import Derived.Test.YtiodjhcjfbnocaaSizeF
import Derived.Test.YtiodjhcjfbnocaaTreeS
namespace Go.Proofs.Ytiodjhcjfbnocaa
open Go.RowKit
set_option linter.unusedVariables false
set_option linter.unusedSimpArgs false

theorem F.len_wt : ∀ f : F, f.len ≤ f.wt
  | .nil => by simp [F.len]
  | .cons n t r => by
    have h1 := F.len_wt r
    have h2 : 2 ≤ t.wt := by cases t; simp only [T.wt]; omega
    simp only [F.len, F.wt]; omega
theorem F.wt_append : ∀ f g : F, (f.append g).wt = f.wt + g.wt
  | .nil, g => by simp [F.append, F.wt]
  | .cons n t r, g => by simp only [F.append, F.wt, F.wt_append r g]; omega
theorem sizeF_append : ∀ f g : F, sizeF (f.append g) = sizeF f + sizeF g
  | .nil, g => by simp [F.append, sizeF]
  | .cons n t r, g => by simp only [F.append, sizeF, sizeF_append r g]; omega
theorem size_snoc (k : Int) (hk : k = 3 ∨ k = 4 ∨ k = 15) (bits hi lo : Nat) (text more : ByteArray) (sub : Int) (bs : List UInt8) (kids : F) (nm : ByteArray) (f : T) :
    sizeT (.mk k bits hi lo text more sub bs (kids.append (.cons nm f .nil))) = sizeT (.mk k bits hi lo text more sub bs kids) + nm.size + 2 + sizeT f := by
  have := sizeF_append kids (.cons nm f .nil)
  simp only [sizeF] at this
  rcases hk with rfl | rfl | rfl <;> simp only [sizeT, ownSize] <;> simp <;> omega

/-- New memory, and one cell of a block: nothing else is changed. -/
structure Fr (w : World) (q : Addr) (W : World) : Prop where
  chg : Chg (fun k => k = q.block) w W
  cell : ∀ j v, ⟨q.block, j, none⟩ ≠ q → w.cell? ⟨q.block, j, none⟩ = some v → W.cell? ⟨q.block, j, none⟩ = some v
  inn : q.block < w.heap.size

theorem Fr.refl {w : World} {q : Addr} (h : q.block < w.heap.size) : Fr w q w := ⟨Chg.refl _ _, fun _ _ _ h => h, h⟩
theorem Fr.drew {w W : World} {q : Addr} (h : Fr w q W) : Fr w q W.drew := ⟨h.chg.drew, h.cell, h.inn⟩
theorem Fr.alloc {w W : World} {q : Addr} (h : Fr w q W) (o : Obj) : Fr w q (W.alloc o) :=
  ⟨h.chg.alloc o, fun j v hj hc => cell_below ((Below.refl _ _).alloc (Nat.le_refl _) o) (h.cell j v hj hc), h.inn⟩
theorem Fr.app {w W W' : World} {q : Addr} {v v' : Value} (h : Fr w q W) (ha : AppF W W' v v') (hv : ∀ k, v.ownBlock = some k → w.heap.size ≤ k) : Fr w q W' := by
  have hi := h.inn
  refine ⟨h.chg.trans ha.chg (fun i hi' e => by have := hv i e; omega), fun j u hj hc => ha.cell (h.cell j u hj hc) (fun e => by have := hv _ e; simp at this; omega), h.inn⟩
theorem Fr.setCell {w W : World} {q : Addr} (h : Fr w q W) (u : Value) : Fr w q (W.setCell q u) :=
  ⟨h.chg.setCell (fun _ => rfl) u, fun j v hj hc => by rw [World.cell?_setCell_other _ _ _ _ hj.symm]; exact h.cell j v hj hc, h.inn⟩
theorem Fr.of {w W : World} {q : Addr} (h : Below w.heap.size w W) (hq : q.block < w.heap.size) : Fr w q W := ⟨Chg.of_below h, fun j v _ hc => cell_below h hc, hq⟩
theorem Fr.below {w W : World} {q : Addr} (h : Fr w q W) {B : Nat} (hB : B ≤ q.block) : Below B w W := h.chg.below (by have := h.inn; omega) (fun i e => by omega)
theorem Fr.at {w W : World} {q p : Addr} {v : Value} (h : Fr w q W) (hc : w.cell? p = some v) (hp : p.block ≠ q.block) : W.cell? p = some v := h.chg.cell hp hc

end Go.Proofs.Ytiodjhcjfbnocaa
