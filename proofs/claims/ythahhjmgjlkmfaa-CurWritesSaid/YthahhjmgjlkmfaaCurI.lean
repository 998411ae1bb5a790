/- The Reader once more: where its bytes lie. -/
import Derived.Test.YthahhjmgjlkmfaaCurA
import Derived.Test.YthahhjmgjlkmfaaCur7
import Derived.Test.YthahhjmgjlkmfaaApp
namespace Go.Proofs.Ythahhjmgjlkmfaa
open Go.RowKit
set_option linter.unusedVariables false
set_option linter.unusedSimpArgs false

/-- A Reader whose slice is known. -/
def RdrA (w : World) (r : Nat) (a : Option Addr) (cap : Nat) (bs : List UInt8) (p : Nat) : Prop :=
  w.cell? ⟨r, 0, none⟩ = some (.slice a bs.length cap) ∧ w.cell? ⟨r, 1, none⟩ = some (.int .i64 (p : Nat)) ∧ w.frozen? ⟨r, 1, none⟩ = false ∧
    RdB w a bs.length bs ∧ (∀ x, a = some x → x.block ≠ r) ∧ (a = none → cap = 0) ∧ p ≤ bs.length ∧ bs.length ≤ cap ∧ bs.length ≤ 140737488355328

theorem RdrA.rdr {w : World} {r a cap bs p} (h : RdrA w r a cap bs p) : Rdr w r bs p := ⟨a, cap, h⟩

theorem RdrA.chg {S : Nat → Prop} {w w' : World} {r a cap bs p} (h : RdrA w r a cap bs p) (hc : Chg S w w') (hr : ¬ S r) (ha : ∀ x, a = some x → ¬ S x.block) : RdrA w' r a cap bs p := by
  obtain ⟨h1, h2, h3, h4, h5⟩ := h
  refine ⟨hc.cell hr h1, hc.cell hr h2, ?_, h4.chg hc ha, h5⟩
  rw [← h3]
  exact World.frozen?_of_block (w := w) (hc.block r (by simpa using cell_block h2) hr)

theorem Wtr.chg {S : Nat → Prop} {w w' : World} {B g v bs} (h : Wtr w B g v bs) (hc : Chg S w w') (hg : ¬ S g) (hv : ∀ k, v.ownBlock = some k → ¬ S k) : Wtr w' B g v bs := by
  obtain ⟨h1, h2, h3, h4⟩ := h
  refine ⟨hc.cell hg h1, ?_, h3.chg hc hv, h4⟩
  rw [← h2]
  exact World.frozen?_of_block (w := w) (hc.block g (by simpa using cell_block h1) hg)

/-- A new Reader, answered, and where its bytes lie. -/
def NewPost2 (w : World) (bs : List UInt8) (e : Ending) (w' : World) : Prop :=
  ∃ r a cap, e = .returned (.pointer (some ⟨r, 0, none⟩)) ∧ RdrA w' r a cap bs 0 ∧ Below w.heap.size w w' ∧ w.heap.size ≤ r ∧ (∀ x, a = some x → w.heap.size ≤ x.block)

set_option maxRecDepth 100000 in
set_option maxHeartbeats 1000000 in
theorem new_calls2 (a : Option Addr) (len cap : Nat) (l : List UInt8) (w : World) (h : RdB w a len l) (hc : a = none → cap = 0) (hb : len ≤ 140737488355328) :
    Calls Try.prog 12 #[.slice a len cap] w (NewPost2 w l) := by
  have C := Lib.hid (clone_calls a len cap l w h hc hb)
  have hl := h.1
  have HL := Lib.hid hl
  clear h hl
  go_enter Try.func12, Try.ntmps12
  go_wp2_with fail
  refine C.out.mono ?_
  rintro e w1 ⟨v, rfl, hown, hb1⟩
  have hsz := hb1.size
  obtain ⟨a1, c1, hve, hr⟩ := hown.reads
  have hform := hown.2
  rw [hve] at hform
  rw [hve]
  have HB := Lib.hid hb1
  have HR := Lib.hid hr
  have HO := Lib.hid hform
  clear hown hve hr hb1 hform
  go_wp2_with fail
  go_ret
  refine ⟨w1.heap.size, a1, c1, rfl, ?rd, HB.out.alloc hsz _, hsz, ?far⟩
  case far =>
    rintro x rfl
    rcases HO.out with ⟨h, _⟩ | ⟨g, cp, cur, h, hBg, hg, _⟩
    · simp at h
    · simp only [Value.slice.injEq, Option.some.injEq] at h
      rw [h.1]
      exact hBg
  refine ⟨by simp [go_sem], by simp [go_sem], by simp [go_sem], HR.out.keep ((Below.refl _ _).alloc (Nat.le_refl _) _), ?_, ?_, by omega, ?_, by rw [HL.out]; exact hb⟩
  · rintro x rfl
    rcases HO.out with ⟨h, _⟩ | ⟨g, cp, cur, h, _, hg, _⟩
    · simp at h
    · simp only [Value.slice.injEq, Option.some.injEq] at h
      rw [h.1]
      have := (Array.getElem?_eq_some_iff.1 hg).1
      simp only
      omega
  · rintro rfl
    rcases HO.out with ⟨h, _⟩ | ⟨g, cp, cur, h, _⟩
    · simp only [Value.slice.injEq] at h; exact h.2.2
    · simp at h
  · rcases HO.out with ⟨h, h0⟩ | ⟨g, cp, cur, h, _, _, hle, _⟩
    · omega
    · simp only [Value.slice.injEq] at h; rw [h.2.2]; exact hle


/-- Raw at whatever bytes. -/
theorem wraw_calls (g : Nat) (v : Value) (bs l : List UInt8) (w : World) (B : Nat) (h : Wtr w B g v bs) (hB : B ≤ w.heap.size) (hn : bs.length ≤ 1000000000) (sv : Value) (hs : SrcB w sv l) (hm : l.length ≤ 1000000000) :
    Calls Try.prog 23 #[.pointer (some ⟨g, 0, none⟩), sv] w fun e w' => e = .returned (.tuple #[]) ∧ WStep w B g v (bs ++ l) w' := by
  have H := Lib.hid h
  have HS := Lib.hid hs
  clear hs
  obtain ⟨h1, h2, h3, h4⟩ := h
  clear h3 h4
  go_enter Try.func23, Try.ntmps23
  go_wp2_with (at_builtin; refine wpList_appB (v := v) (bs := bs) (sv := sv) (l := l) (B := B) (by rfl) _ _ (by rfl) (by rfl) H.out.2.2.1 (by rfl) HS.out ?c1 ?c2 ?_)
  case c1 => omega
  case c2 => exact hB
  intro v' w1 hown ha
  obtain ⟨f1, f2⟩ := wtr_far H.out (Below.refl _ _) ha.1
  have HT := Lib.hid (wtr_grow2 H.out (Below.refl _ _) hown ha.1 ha.2)
  obtain ⟨a', c', hve, _⟩ := hown.reads
  generalize (bs ++ l).length = N at hve
  subst hve
  clear hown ha
  go_wp2_with fail
  go_end0
  exact ⟨rfl, HT.out⟩

end Go.Proofs.Ythahhjmgjlkmfaa
