/- CurWrites: a Writer, and the bytes that are wanted of it. -/
import Derived.Test.YthahhjmgjlkmfaaCurK
import Derived.Test.YthahhjmgjlkmfaaPuts
namespace Go.Proofs.Ythahhjmgjlkmfaa
open Go.ChangeShapes Go.WideShapes Go.ChangeAt Go.RowKit
set_option linter.unusedVariables false
set_option linter.unusedSimpArgs false

/-- The Writer at g holds bs, the row 'want' holds bt, apart. -/
structure WX (w0 : World) (g : Nat) (vw want : Value) (bs bt : List UInt8) (wr : World) : Prop where
  wtr : Wtr wr w0.heap.size g vw bs
  own : OwnB wr w0.heap.size want bt
  sep : Sep vw want
  ng : want.ownBlock ≠ some g
  below : Below w0.heap.size w0 wr
  hg : w0.heap.size ≤ g

theorem WX.glt {w0 wr : World} {g vw want bs bt} (h : WX w0 g vw want bs bt wr) : g < wr.heap.size := by simpa using cell_block h.wtr.1

theorem WX.chg {w0 wr w2 : World} {g vw want bs bt} (h : WX w0 g vw want bs bt wr) (hb : Below wr.heap.size wr w2) : WX w0 g vw want bs bt w2 :=
  ⟨h.wtr.chg (S := fun _ => False) (Chg.of_below hb) id (fun _ _ => id), h.own.keep hb, h.sep, h.ng, h.below.trans (hb.mono h.below.size), h.hg⟩

theorem WX.step {w0 wr w2 : World} {g vw want bs bt bs2} (h : WX w0 g vw want bs bt wr) (hs : WStep wr w0.heap.size g vw bs2 w2) :
    ∃ v2, WX w0 g v2 want bs2 bt w2 ∧ Chg (fun k => k = g ∨ vw.ownBlock = some k) wr w2 := by
  obtain ⟨v2, h1, h2, h3⟩ := hs
  refine ⟨v2, ⟨h1, h.own.chg h2 ?_, ?_, h.ng, h.below.trans (h2.below h.below.size ?_), h.hg⟩, h2⟩
  · rintro k hk (e | e)
    · exact h.ng (by rw [hk, e])
    · exact h.sep k e hk
  · intro k hk hw
    rcases h3 k hk with e | e
    · exact h.sep k e hw
    · have := (owns_lt h.own k hw).2; omega
  · rintro k (e | e)
    · rw [e]; exact h.hg
    · exact (owns_lt h.wtr.2.2.1 k e).1

theorem WX.app {w0 wr w2 : World} {g vw want want2 bs bt bt2} (h : WX w0 g vw want bs bt wr) (ha : AppF wr w2 want want2) (ho : OwnB w2 w0.heap.size want2 bt2) : WX w0 g vw want2 bs bt2 w2 :=
  ⟨h.wtr.chg ha.chg h.ng (fun k hk e => h.sep k hk e), ho, (ha.sep h.sep.symm h.wtr.2.2.1).symm, ha.far h.ng h.glt, ha.below h.below h.below.size (fun k hk => (owns_lt h.own k hk).1), h.hg⟩

theorem WX.set {w0 wr w2 : World} {g vw want bs bt bs2} (h : WX w0 g vw want bs bt wr) (hs : SetPost wr w0.heap.size g vw bs2 w2) : WX w0 g vw want bs2 bt w2 :=
  ⟨hs.1, h.own.chg hs.2 (fun k hk e => h.sep k e hk), h.sep, h.ng, h.below.trans (hs.2.below h.below.size (fun k hk => (owns_lt h.wtr.2.2.1 k hk).1)), h.hg⟩

/-- A byte of the wanted row is set. -/
theorem WX.put {w0 wr : World} {g gb cap k p m n : Nat} {vw : Value} {bs bt ct : List UInt8} {y : Nat} (h : WX w0 g vw (.slice (some ⟨gb, 0, none⟩) n cap) bs bt wr) (hy : y < 256) (hn : bt.length = n) (he : bt.set p (UInt8.ofNat y) = ct) :
    WX w0 g vw (.slice (some ⟨gb, 0, none⟩) n cap) bs ct (((wr.drewN k).setCell ⟨gb, p, none⟩ (.int .u8 (y : Nat))).drewN m) := by
  have hch : Chg (fun j => (Value.slice (some ⟨gb, 0, none⟩) n cap).ownBlock = some j) wr (((wr.drewN k).setCell ⟨gb, p, none⟩ (.int .u8 (y : Nat))).drewN m) :=
    Chg.trans (Chg.setCell (S := fun j => (Value.slice (some ⟨gb, 0, none⟩) n cap).ownBlock = some j) (Chg.of_below (below_drewN wr k _)) (p := ⟨gb, p, none⟩) (fun _ => rfl) _) (Chg.of_below (S := fun _ => False) (below_drewN _ m _)) (fun _ _ h => h.elim)
  refine ⟨h.wtr.chg hch h.ng (fun k hk e => h.sep k hk e), ?_, h.sep, h.ng, h.below.trans (hch.below h.below.size (fun k hk => (owns_lt h.own k hk).1)), h.hg⟩
  have h5 : (wr.drewN k).ownsRow w0.heap.size 5 1 (.slice (some ⟨gb, 0, none⟩) n cap) n (byteCells bt) := by have := h.own; unfold OwnB at this; rw [hn] at this; exact this
  have h6 := (World.ownsRow.stored h5 p (.int .u8 (y : Nat))).1
  have e8 : (UInt8.ofNat y).toNat = y := by simp; omega
  have h7 : byteCells ct = (byteCells bt).set p (.int .u8 (y : Nat)) := by rw [← he, byteCells_set, e8]
  have h9 : ct.length = n := by rw [← he, List.length_set, hn]
  unfold OwnB
  rw [h7, h9]
  exact ownsRow_drewN h6

/-- An act's box. -/
def BoxP (w : World) (b : Nat) (s : PutS) (a : Option Addr) (m z : Nat) : Prop :=
  w.cell? ⟨b, 0, none⟩ = some (.int .i64 s.k) ∧ w.cell? ⟨b, 1, none⟩ = some (.int .i64 s.n) ∧ w.cell? ⟨b, 2, none⟩ = some (.int .i64 s.p) ∧ w.cell? ⟨b, 3, none⟩ = some (.int .u64 (s.v : Nat)) ∧ w.cell? ⟨b, 4, none⟩ = some (.slice a m z)

theorem BoxP.chg {S : Nat → Prop} {w w' : World} {b s a m z} (h : BoxP w b s a m z) (hc : Chg S w w') (hb : ¬ S b) : BoxP w' b s a m z :=
  ⟨hc.cell hb h.1, hc.cell hb h.2.1, hc.cell hb h.2.2.1, hc.cell hb h.2.2.2.1, hc.cell hb h.2.2.2.2⟩

theorem box_new (w : World) (s : PutS) (a : Option Addr) (m z t : Nat) : BoxP (w.alloc (.cells #[.int .i64 s.k, .int .i64 s.n, .int .i64 s.p, .int .u64 (s.v : Nat), .slice a m z] t)) w.heap.size s a m z := by
  refine ⟨?_, ?_, ?_, ?_, ?_⟩ <;> simp [go_sem]

/-- A slice of acts. -/
def RdP (w : World) (a : Option Addr) (len : Nat) (f : Nat → PutS) : Prop :=
  len ≤ 9223372036854775807 ∧ ∀ i, i < len → inI64p (f i).k ∧ inI64p (f i).n ∧ inI64p (f i).p ∧ (f i).v < okSize ∧ ∃ b o x m z, a = some ⟨b, o, none⟩ ∧ RdB w x m (f i).l ∧ (x = none → z = 0) ∧
    w.cell? ⟨b, o + i * 5, none⟩ = some (.int .i64 (f i).k) ∧ w.cell? ⟨b, o + i * 5 + 1, none⟩ = some (.int .i64 (f i).n) ∧ w.cell? ⟨b, o + i * 5 + 2, none⟩ = some (.int .i64 (f i).p) ∧ w.cell? ⟨b, o + i * 5 + 3, none⟩ = some (.int .u64 ((f i).v : Nat)) ∧ w.cell? ⟨b, o + i * 5 + 4, none⟩ = some (.slice x m z)

theorem RdP.keep {w w' : World} {a len f} (h : RdP w a len f) (hb : Below w.heap.size w w') : RdP w' a len f := by
  refine ⟨h.1, fun i hi => ?_⟩
  obtain ⟨h1, h2, h3, h4, b, o, x, m, z, h5, h6, h7, c0, c1, c2, c3, c4⟩ := h.2 i hi
  exact ⟨h1, h2, h3, h4, b, o, x, m, z, h5, h6.keep hb, h7, cell_below hb c0, cell_below hb c1, cell_below hb c2, cell_below hb c3, cell_below hb c4⟩

set_option maxRecDepth 100000 in
theorem open_puts {H : Type} {enc : TypeId × Value → H} {W : World} {a : Option Addr} {len cap : Nat} {d : DataW H} {p : List MemPlace}
    (h : DataW.Trod enc Try.prog W 0 (fun _ => true) true 39 (.slice a len cap) d p) : ∃ f, RdP W a len f := by
  obtain ⟨fuel, hf⟩ := h
  rcases DataW.trod_slice Try.underlying39 hf with ⟨e, _⟩ | ⟨x, l, c, elems, rest, m, hm, e, _, _, hlc, hcm, hel, hat, _⟩
  · simp [Value.cells] at e
    obtain ⟨rfl, rfl, rfl⟩ := e
    exact ⟨fun _ => ⟨0, 0, 0, 0, []⟩, by omega, fun i hi => absurd hi (Nat.not_lt_zero i)⟩
  · simp [Value.cells] at e
    obtain ⟨rfl, rfl, rfl⟩ := e
    rw [cellsPut] at hat
    have key : ∀ i, i < len → ∃ s : PutS, inI64p s.k ∧ inI64p s.n ∧ inI64p s.p ∧ s.v < okSize ∧ ∃ b o y m z, (some x : Option Addr) = some ⟨b, o, none⟩ ∧ RdB W y m s.l ∧ (y = none → z = 0) ∧
        W.cell? ⟨b, o + i * 5, none⟩ = some (.int .i64 s.k) ∧ W.cell? ⟨b, o + i * 5 + 1, none⟩ = some (.int .i64 s.n) ∧ W.cell? ⟨b, o + i * 5 + 2, none⟩ = some (.int .i64 s.p) ∧ W.cell? ⟨b, o + i * 5 + 3, none⟩ = some (.int .u64 (s.v : Nat)) ∧ W.cell? ⟨b, o + i * 5 + 4, none⟩ = some (.slice y m z) := by
      intro i hi
      have ha := (hat i hi).trans (List.getElem?_eq_getElem (show i < elems.length by omega))
      obtain ⟨cs', hc, ht⟩ := Option.bind_eq_some_iff.1 ha
      obtain ⟨_, hcl, hcell⟩ := World.cells?_some hc
      obtain ⟨s, k1, k2, k3, k4, y, q, z, rfl, k5, k6, k7⟩ := put_of ht
      obtain ⟨b, o, sp⟩ := x
      have hs : sp = none := by
        have hy0 : elems[0]? = some (elems[0]'(by omega)) := List.getElem?_eq_getElem (by omega)
        obtain ⟨cs0, hc0, _⟩ := Option.bind_eq_some_iff.1 ((hat 0 (by omega)).trans hy0)
        obtain ⟨_, hcl0, hcell0⟩ := World.cells?_some hc0
        have := hcell0 0 (by omega)
        rw [List.getElem?_eq_getElem (by omega)] at this
        have := World.cell?_spot this
        simpa [Addr.add] using this
      subst hs
      refine ⟨s, k1, k2, k3, k4, b, o, y, q, z, rfl, k5, k6, ?_, ?_, ?_, ?_, ?_⟩
      · have := hcell 0 (by omega); rw [add_at, add_at] at this; simpa using this
      · have := hcell 1 (by omega); rw [add_at, add_at] at this; simpa using this
      · have := hcell 2 (by omega); rw [add_at, add_at] at this; simpa using this
      · have := hcell 3 (by omega); rw [add_at, add_at] at this; simpa using this
      · have := hcell 4 (by omega); rw [add_at, add_at] at this; simpa using this
    refine ⟨fun i => if hi : i < len then Classical.choose (key i hi) else ⟨0, 0, 0, 0, []⟩, by unfold maxLen at hcm; omega, fun i hi => ?_⟩
    have := Classical.choose_spec (key i hi)
    simp only [hi, dif_pos]
    exact this

end Go.Proofs.Ythahhjmgjlkmfaa
