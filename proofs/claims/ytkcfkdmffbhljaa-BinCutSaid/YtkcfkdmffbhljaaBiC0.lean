/- bin's reader: what its answers are. -/
import Derived.Test.YtkcfkdmffbhljaaBiB
import Derived.Test.YtkcfkdmffbhljaaMA
import Derived.Test.YtkcfkdmffbhljaaMB
namespace Go.Proofs.Ytkcfkdmffbhljaa
open Go.RowKit
set_option linter.unusedVariables false
set_option linter.unusedSimpArgs false

/-- A value's cells, all zero. -/
abbrev zCellsV : Array Value := valCells 0 0 0 0 ⟨#[]⟩ ⟨#[]⟩ 0 none 0 0 none 0 0

/-- A value and the place behind, or a fault. -/
def ValOut (x : Ans) (w : World) (e : Ending) (w' : World) : Prop :=
  (match x with
   | .val t nx => ∃ c, e = .returned (.tuple #[.agg c, .int .i64 (nx : Nat), fltV 0 0]) ∧ RdTS (fun k => w.heap.size ≤ k) w' t c
   | .bad er a => e = .returned (.tuple #[.agg zCellsV, .int .i64 0, fltV er a])
   | .kids _ _ => False) ∧ Below w.heap.size w w'
/-- Kids and the place behind, or a fault. -/
def DocOut (x : Ans) (w : World) (e : Ending) (w' : World) : Prop :=
  (match x with
   | .kids f nx => ∃ a c, e = .returned (.tuple #[.slice a f.len c, .int .i64 (nx : Nat), fltV 0 0]) ∧ RdKsS (fun k => w.heap.size ≤ k) w' a 0 f ∧ Roomy a f.len c ∧ f.len ≤ 9223372036854775807
   | .bad er a => e = .returned (.tuple #[.slice none 0 0, .int .i64 0, fltV er a])
   | .val _ _ => False) ∧ Below w.heap.size w w'
/-- A code, its scope's Kids and the place behind, or a fault. -/
def ScoOut (x : Ans) (w : World) (e : Ending) (w' : World) : Prop :=
  (match x with
   | .val t nx => ∃ s f a c, t = .mk ((15 : Nat) : Int) 0 0 0 s nt 0 [] f ∧ s.size ≤ 1000000 ∧ e = .returned (.tuple #[.string s, .slice a f.len c, .int .i64 (nx : Nat), fltV 0 0]) ∧ RdKsS (fun k => w.heap.size ≤ k) w' a 0 f ∧ Roomy a f.len c ∧ f.len ≤ 9223372036854775807
   | .bad er a => ∃ s, s.size ≤ 1000000 ∧ e = .returned (.tuple #[.string s, .slice none 0 0, .int .i64 0, fltV er a])
   | .kids _ _ => False) ∧ Below w.heap.size w w'

def VlSaid (d : Nat) : Prop := ∀ (rb b o n c : Nat) (L : List UInt8) (deep : Nat) (w : World), BRd w rb b o n c L deep → ∀ (k q z win : Nat), knownK (k : Nat) = true → q ≤ z → z < n → z - q ≤ d → win + (z - q) ≤ 2000000 →
  Calls Try.prog 53 #[.pointer (some ⟨rb, 0, none⟩), .int .i64 (k : Nat), .int .i64 (q : Nat), .int .i64 (z : Nat), .int .i64 (win : Nat)] w fun e w' => ∃ r, Q L deep (.val k q z win) r ∧ ValOut r w e w'
def DcSaid (d : Nat) : Prop := ∀ (rb b o n c : Nat) (L : List UInt8) (deep : Nat) (w : World), BRd w rb b o n c L deep → ∀ (p z win how : Nat), p ≤ z → z ≤ n → z - p ≤ d → win + (z - p) ≤ 2000001 → how ≤ 2 →
  Calls Try.prog 35 #[.pointer (some ⟨rb, 0, none⟩), .int .i64 (p : Nat), .int .i64 (z : Nat), .int .i64 (win : Nat), .int .i64 (how : Nat)] w fun e w' => ∃ r, Q L deep (.doc p z win how) r ∧ DocOut r w e w'
def ScSaid (d : Nat) : Prop := ∀ (rb b o n c : Nat) (L : List UInt8) (deep : Nat) (w : World), BRd w rb b o n c L deep → ∀ (q z win : Nat), q + 4 ≤ z → z < n → z - q ≤ d → win + (z - q) ≤ 2000000 →
  Calls Try.prog 79 #[.pointer (some ⟨rb, 0, none⟩), .int .i64 (q : Nat), .int .i64 (z : Nat), .int .i64 (win : Nat)] w fun e w' => ∃ r, Q L deep (.val 15 q z win) r ∧ ScoOut r w e w'

/-- A fault's box, with what it holds. -/
def FBx (W : World) (g e a : Nat) : Prop := W.cell? ⟨g, 0, none⟩ = some (.int .i64 (e : Nat)) ∧ W.cell? ⟨g, 1, none⟩ = some (.int .i64 (a : Nat)) ∧ W.cell? ⟨g, 2, none⟩ = some (.slice none 0 0) ∧ W.frozen? ⟨g, 0, none⟩ = false ∧ W.frozen? ⟨g, 1, none⟩ = false ∧ W.frozen? ⟨g, 2, none⟩ = false ∧ g < W.heap.size
theorem FBx.block {W W' : World} {g e a : Nat} (h : FBx W g e a) (hs : W.heap.size ≤ W'.heap.size) (hb : W'.heap[g]? = W.heap[g]?) : FBx W' g e a := by
  obtain ⟨h0, h1, h2, f0, f1, f2, hg⟩ := h
  have hc : ∀ j, W'.cell? ⟨g, j, none⟩ = W.cell? ⟨g, j, none⟩ := fun j => World.cell?_of_block (w := W) (a := ⟨g, j, none⟩) hb
  have hf : ∀ j, W'.frozen? ⟨g, j, none⟩ = W.frozen? ⟨g, j, none⟩ := fun j => World.frozen?_of_block (w := W) (a := ⟨g, j, none⟩) hb
  exact ⟨(hc 0).trans h0, (hc 1).trans h1, (hc 2).trans h2, (hf 0).trans f0, (hf 1).trans f1, (hf 2).trans f2, Nat.lt_of_lt_of_le hg hs⟩
theorem FBx.keep {W W' : World} {g e a : Nat} (h : FBx W g e a) (hb : Below W.heap.size W W') : FBx W' g e a := h.block hb.size (hb.block g h.2.2.2.2.2.2)
theorem FBx.other {W : World} {g e a : Nat} (h : FBx W g e a) {p : Addr} (hp : p.block ≠ g) (v : Value) : FBx (W.setCell p v) g e a :=
  h.block (by simp [World.setCell]) (Below.heap_setCell _ _ _ _ (fun x => hp x.symm))
theorem BoxV.other {W : World} {g : Nat} {c : Array Value} (h : BoxV W g c) {p : Addr} (hp : p.block ≠ g) (v : Value) : BoxV (W.setCell p v) g c :=
  h.block (by simp [World.setCell]) (Below.heap_setCell _ _ _ _ (fun x => hp x.symm))
theorem BRd.block {W W' : World} {rb b o n c : Nat} {L : List UInt8} {deep : Nat} {S : Nat → Prop} (h : BRd W rb b o n c L deep) (hc : Chg S W W') (h1 : ¬ S rb) (h2 : ¬ S b) : BRd W' rb b o n c L deep :=
  ⟨hc.cell h1 h.1, hc.cell h1 h.2.1, h.2.2.1.chg hc (fun p hp => by have := Option.some.inj hp; subst this; exact h2), h.2.2.2⟩

end Go.Proofs.Ytkcfkdmffbhljaa
