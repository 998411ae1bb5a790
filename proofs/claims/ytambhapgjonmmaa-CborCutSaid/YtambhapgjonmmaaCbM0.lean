/- cbor: what laying an item answers. -/
import Derived.Test.YtambhapgjonmmaaCbL
import Derived.Deep.CutRange
import Derived.Deep.RegionHeld3
namespace Go.Proofs.Ytambhapgjonmmaa
open Go.RowKit
set_option linter.unusedVariables false
set_option linter.unusedSimpArgs false

theorem errIs_get : ∀ (f : IL) (i : Nat) (x : I), errIs f = 0 → f.get? i = some x → errI x = 0
  | .nil, i, x, h, hx => by simp [IL.get?] at hx
  | .cons y r, 0, x, h, hx => by
    simp only [IL.get?, Option.some.injEq] at hx
    subst hx
    simp only [errIs] at h
    split at h
    · rename_i h1; exact absurd h h1
    · rename_i h1; omega
  | .cons y r, i + 1, x, h, hx => by
    simp only [errIs] at h
    split at h
    · rename_i h1; exact absurd h h1
    · exact errIs_get r i x h hx

/-- An item in a box. -/
def ItBx (W : World) (g : Nat) (k : Int) (n : Nat) (ab : Option Addr) (nb cb : Nat) (text : ByteArray) (ak : Option Addr) (nk ck : Nat) : Prop :=
  W.cell? ⟨g, 0, none⟩ = some (.int .i64 k) ∧ W.cell? ⟨g, 1, none⟩ = some (.int .u64 (n : Nat)) ∧ W.cell? ⟨g, 2, none⟩ = some (.slice ab nb cb) ∧ W.cell? ⟨g, 3, none⟩ = some (.string text) ∧ W.cell? ⟨g, 4, none⟩ = some (.slice ak nk ck) ∧ g < W.heap.size
theorem ItBx.chg {S : Nat → Prop} {W W' : World} {g : Nat} {k : Int} {n : Nat} {ab : Option Addr} {nb cb : Nat} {text : ByteArray} {ak : Option Addr} {nk ck : Nat} (h : ItBx W g k n ab nb cb text ak nk ck) (hc : Chg S W W') (hg : ¬ S g) : ItBx W' g k n ab nb cb text ak nk ck :=
  ⟨hc.cell hg h.1, hc.cell hg h.2.1, hc.cell hg h.2.2.1, hc.cell hg h.2.2.2.1, hc.cell hg h.2.2.2.2.1, Nat.lt_of_lt_of_le h.2.2.2.2.2 hc.size⟩
theorem ItBx.keep {W W' : World} {g : Nat} {k : Int} {n : Nat} {ab : Option Addr} {nb cb : Nat} {text : ByteArray} {ak : Option Addr} {nk ck : Nat} (h : ItBx W g k n ab nb cb text ak nk ck) (hb : Below W.heap.size W W') : ItBx W' g k n ab nb cb text ak nk ck := h.chg (Chg.of_below (S := fun _ => False) hb) (fun x => x)
theorem ItBx.new (W : World) (k : Int) (n : Nat) (ab : Option Addr) (nb cb : Nat) (text : ByteArray) (ak : Option Addr) (nk ck : Nat) (ty : TypeId) : ItBx (W.alloc (.cells #[.int .i64 k, .int .u64 (n : Nat), .slice ab nb cb, .string text, .slice ak nk ck] ty)) W.heap.size k n ab nb cb text ak nk ck := by
  refine ⟨?_, ?_, ?_, ?_, ?_, ?_⟩ <;> simp [go_sem]

def LaySaid (d : Nat) : Prop := ∀ x : I, x.wt ≤ d → errI x = 0 → ∀ (w0 w : World) (B g : Nat) (v : Value) (bs : List UInt8) (c : Array Value), RdIt (fun _ => True) w0 x c → Below w0.heap.size w0 w → w0.heap.size ≤ B → w0.heap.size ≤ g → Wtr w B g v bs → B ≤ w.heap.size → bs.length + 9 * x.wt ≤ 80000000 →
  Calls Try.prog 23 #[.pointer (some ⟨g, 0, none⟩), .agg c] w fun e w' => e = .returned (.tuple #[]) ∧ WStep w B g v (bs ++ layI x) w'
def LRel (wa : World) (B g : Nat) (v : Value) (tot : List UInt8) (kids : IL) (M : Nat) (i : Value) (wr : World) : Prop :=
  ∃ (j : Nat) (vr : Value) (cur : List UInt8), i = .int .i64 j ∧ j ≤ kids.len ∧ Hid (tot = cur ++ layIs (kids.drop j)) ∧ WGo wa B g v cur vr wr ∧ cur.length + 9 * (kids.drop j).wt ≤ M

end Go.Proofs.Ytambhapgjonmmaa
