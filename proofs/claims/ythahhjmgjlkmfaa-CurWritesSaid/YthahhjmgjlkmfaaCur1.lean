/- The Reader: New, At, Left, Byte, next, Take. -/
import Derived.Test.YthahhjmgjlkmfaaClone
import Derived.Deep.RegionHeld3
import Derived.StillTailTactics
namespace Go.Proofs.Ythahhjmgjlkmfaa
open Go.RowKit
set_option linter.unusedVariables false
set_option linter.unusedSimpArgs false

/-- A Reader in block r: its bytes, and how many it has gone past. -/
def Rdr (w : World) (r : Nat) (bs : List UInt8) (p : Nat) : Prop :=
  ∃ a cap, w.cell? ⟨r, 0, none⟩ = some (.slice a bs.length cap) ∧ w.cell? ⟨r, 1, none⟩ = some (.int .i64 (p : Nat)) ∧ w.frozen? ⟨r, 1, none⟩ = false ∧
    RdB w a bs.length bs ∧ (∀ x, a = some x → x.block ≠ r) ∧ (a = none → cap = 0) ∧ p ≤ bs.length ∧ bs.length ≤ cap ∧ bs.length ≤ 140737488355328

theorem Rdr.keep {w w' : World} {r bs p} (h : Rdr w r bs p) (hb : Below w.heap.size w w') : Rdr w' r bs p := by
  obtain ⟨a, cap, h1, h2, h3, h4, h5⟩ := h
  exact ⟨a, cap, cell_below hb h1, cell_below hb h2, by rw [hb.frozen (p := ⟨r, 1, none⟩) (by simpa using cell_block h2)]; exact h3, h4.keep hb, h5⟩

/-- Only r's place is set. -/
theorem Rdr.set {w : World} {r bs p} (h : Rdr w r bs p) (q : Nat) (hq : q ≤ bs.length) : Rdr (w.setCell ⟨r, 1, none⟩ (.int .i64 (q : Nat))) r bs q := by
  obtain ⟨a, cap, h1, h2, h3, h4, h5, h6, h7, h8⟩ := h
  refine ⟨a, cap, ?_, ?_, ?_, ?_, h5, h6, hq, h8⟩
  · rw [World.cell?_setCell_other _ _ _ _ (by simp)]; exact h1
  · exact World.cell?_setCell_same _ _ _ h2
  · rw [World.frozen?_setCell]; exact h3
  · exact h4.chg (S := fun k => k = r) (Chg.setCell (S := fun k => k = r) (Chg.refl _ w) (p := ⟨r, 1, none⟩) (fun _ => rfl) _) (fun x hx e => h5 x hx e)

/-- A new Reader, answered. -/
def NewPost (w : World) (bs : List UInt8) (e : Ending) (w' : World) : Prop :=
  ∃ r, e = .returned (.pointer (some ⟨r, 0, none⟩)) ∧ Rdr w' r bs 0 ∧ Below w.heap.size w w' ∧ w.heap.size ≤ r

set_option maxRecDepth 100000 in
set_option maxHeartbeats 1000000 in
theorem new_calls (a : Option Addr) (len cap : Nat) (l : List UInt8) (w : World) (h : RdB w a len l) (hc : a = none → cap = 0) (hb : len ≤ 140737488355328) :
    Calls Try.prog 12 #[.slice a len cap] w (NewPost w l) := by
  have C := Lib.hid (clone_calls a len cap l w h hc hb)
  have hl := h.1
  have HL := Lib.hid hl
  clear h hl
  go_enter Try.func12, Try.ntmps12
  go_wp2_with fail
  refine C.out.mono ?_
  rintro e w1 ⟨v, rfl, hown, hb1⟩
  have hsz := hb1.size
  obtain ⟨a1, c1, hve, hr⟩ := hown.reads
  have hform := hown.2
  rw [hve] at hform
  rw [hve]
  have HB := Lib.hid hb1
  have HR := Lib.hid hr
  have HO := Lib.hid hform
  clear hown hve hr hb1 hform
  go_wp2_with fail
  go_ret
  refine ⟨w1.heap.size, rfl, ?_, HB.out.alloc hsz _, hsz⟩
  refine ⟨a1, c1, by simp [go_sem], by simp [go_sem], by simp [go_sem], HR.out.keep ((Below.refl _ _).alloc (Nat.le_refl _) _), ?_, ?_, by omega, ?_, by rw [HL.out]; exact hb⟩
  · rintro x rfl
    rcases HO.out with ⟨h, _⟩ | ⟨g, cp, cur, h, _, hg, _⟩
    · simp at h
    · simp only [Value.slice.injEq, Option.some.injEq] at h
      rw [h.1]
      have := (Array.getElem?_eq_some_iff.1 hg).1
      simp only
      omega
  · rintro rfl
    rcases HO.out with ⟨h, _⟩ | ⟨g, cp, cur, h, _⟩
    · simp only [Value.slice.injEq] at h; exact h.2.2
    · simp at h
  · rcases HO.out with ⟨h, h0⟩ | ⟨g, cp, cur, h, _, _, hle, _⟩
    · omega
    · simp only [Value.slice.injEq] at h; rw [h.2.2]; exact hle

set_option maxRecDepth 100000 in
set_option maxHeartbeats 1000000 in
theorem rat_calls (r p : Nat) (bs : List UInt8) (w : World) (h : Rdr w r bs p) :
    Calls Try.prog 19 #[.pointer (some ⟨r, 0, none⟩)] w fun e w' => e = .returned (.int .i64 (p : Nat)) ∧ w = w' := by
  obtain ⟨a, cap, h1, h2, _⟩ := h
  go_enter Try.func19, Try.ntmps19
  go_wp2
  go_ret
  exact ⟨rfl, rfl⟩

set_option maxRecDepth 100000 in
set_option maxHeartbeats 1000000 in
theorem rleft_calls (r p : Nat) (bs : List UInt8) (w : World) (h : Rdr w r bs p) :
    Calls Try.prog 20 #[.pointer (some ⟨r, 0, none⟩)] w fun e w' => e = .returned (.int .i64 ((bs.length : Int) - p)) ∧ ∃ n, w.drewN n = w' := by
  obtain ⟨a, cap, h1, h2, _, _, _, _, h7, h8, h9⟩ := h
  go_enter Try.func20, Try.ntmps20
  go_wp2
  go_quiet (fail)
  go_wp2
  go_ret
  exact ⟨rfl, _, rfl⟩

set_option maxRecDepth 100000 in
set_option maxHeartbeats 1000000 in
theorem rbyte_no (r : Nat) (bs : List UInt8) (w : World) (h : Rdr w r bs bs.length) :
    Calls Try.prog 13 #[.pointer (some ⟨r, 0, none⟩)] w fun e w' => e = .returned (.tuple #[.int .i64 0, .bool false]) ∧ ∃ n, w.drewN n = w' := by
  obtain ⟨a, cap, h1, h2, _, _, _, _, h7, h8, h9⟩ := h
  have hb : ((bs.length : Int) == bs.length) = true := by simp
  go_enter Try.func13, Try.ntmps13
  go_wp2
  go_quiet (fail)
  go_wp2
  go_ret2
  exact ⟨rfl, _, rfl⟩

theorem rdr_step {w : World} {r : Nat} {bs : List UInt8} {p : Nat} (h : Rdr w r bs p) (q a b : Nat) (hq : q ≤ bs.length) (z : Int) (hz : z = (q : Int)) :
    Rdr (((w.drewN a).setCell ⟨r, 1, none⟩ (.int .i64 z)).drewN b) r bs q ∧ Chg (fun k => k = r) w (((w.drewN a).setCell ⟨r, 1, none⟩ (.int .i64 z)).drewN b) := by
  subst hz
  refine ⟨((h.keep (below_drewN _ _ _)).set q hq).keep (below_drewN _ _ _), ?_⟩
  refine Chg.trans (Chg.setCell (S := fun k => k = r) (Chg.of_below (below_drewN w a _)) (p := ⟨r, 1, none⟩) (fun _ => rfl) _) (Chg.of_below (S := fun _ => False) (below_drewN _ b _)) (fun _ _ h => h.elim)

/-- A step of a Reader: it answers v and stands at q. -/
def StepPost (w : World) (r : Nat) (bs : List UInt8) (v : Value) (q : Nat) (e : Ending) (w' : World) : Prop :=
  e = .returned v ∧ Rdr w' r bs q ∧ Chg (fun k => k = r) w w'

set_option maxRecDepth 100000 in
set_option maxHeartbeats 1000000 in
theorem rbyte_yes (r p : Nat) (bs : List UInt8) (w : World) (h : Rdr w r bs p) (hp : p < bs.length) :
    Calls Try.prog 13 #[.pointer (some ⟨r, 0, none⟩)] w (StepPost w r bs (.tuple #[.int .i64 (bAt bs p : Nat), .bool true]) (p + 1)) := by
  have H := Lib.hid h
  have HP : Hid (p + 1 ≤ bs.length) := hp
  obtain ⟨a, cap, h1, h2, h3, h4, h5, h6, h7, h8, h9⟩ := h
  obtain ⟨b, o, rfl, hcc⟩ := h4.at p hp
  have hbr : b ≠ r := h5 _ rfl
  have hb : ((p : Int) == bs.length) = false := by simp; omega
  have q := bAt_bd bs p
  clear h4 h5 h6
  generalize bs.length = n at h1 h7 h8 h9 hp hb
  go_enter Try.func13, Try.ntmps13
  go_wp2
  go_quiet (fail)
  go_wp2
  go_quiet (fail)
  go_wp2
  go_ret2
  exact ⟨rfl, rdr_step H.out (p + 1) _ _ HP.out _ rfl⟩

set_option maxRecDepth 100000 in
set_option maxHeartbeats 1000000 in
theorem rnext_no (r p : Nat) (bs : List UInt8) (w : World) (h : Rdr w r bs p) (n : Int) (hn : n < 1 ∨ 8 < n ∨ (bs.length : Int) - p < n) :
    Calls Try.prog 43 #[.pointer (some ⟨r, 0, none⟩), .int .i64 n] w fun e w' => e = .returned (.tuple #[.slice none 0 0, .bool false]) ∧ ∃ n, w.drewN n = w' := by
  have C := Lib.hid (rleft_calls r p bs w h)
  by_cases h1 : n < 1
  · go_enter Try.func43, Try.ntmps43
    go_wp2_with fail
    go_ret2
    exact ⟨rfl, 0, rfl⟩
  by_cases h2 : 8 < n
  · go_enter Try.func43, Try.ntmps43
    go_wp2_with fail
    go_ret2
    exact ⟨rfl, 0, rfl⟩
  have h3 : (bs.length : Int) - p < n := by omega
  clear hn
  generalize (bs.length : Int) - p = m at C h3
  go_enter Try.func43, Try.ntmps43
  go_wp2_with (go_at_call 20; refine C.out.mono ?_; rintro e w' ⟨rfl, nd, rfl⟩)
  go_ret2
  exact ⟨rfl, _, rfl⟩

/-- What next answers. -/
def NextPost (w : World) (r : Nat) (bs : List UInt8) (p n : Nat) (e : Ending) (w' : World) : Prop :=
  ∃ a cap, e = .returned (.tuple #[.slice a n cap, .bool true]) ∧ RdB w' a n (seg bs p n) ∧ (∀ x, a = some x → x.block ≠ r) ∧ Rdr w' r bs (p + n) ∧ Chg (fun k => k = r) w w'

set_option maxRecDepth 100000 in
set_option maxHeartbeats 1000000 in
theorem rnext_yes (r p : Nat) (bs : List UInt8) (w : World) (h : Rdr w r bs p) (n : Nat) (h1 : 1 ≤ n) (h8 : n ≤ 8) (hn : p + n ≤ bs.length) :
    Calls Try.prog 43 #[.pointer (some ⟨r, 0, none⟩), .int .i64 n] w (NextPost w r bs p n) := by
  have C := Lib.hid (rleft_calls r p bs w h)
  have H := Lib.hid h
  have HN := Lib.hid hn
  obtain ⟨a, cap, f1, f2, f3, f4, f5, f6, f7, f8, f9⟩ := h
  obtain ⟨b, o, rfl, hcc⟩ := f4.at p (by omega)
  have hbr : b ≠ r := f5 _ rfl
  have F4 := Lib.hid f4
  clear f4 f5 f6 hcc
  generalize bs.length = m at f1 f7 f8 f9 hn C
  have hcp : ¬ cap = p := by omega
  go_enter Try.func43, Try.ntmps43
  go_wp2_with (go_at_call 20; refine C.out.mono ?_; rintro e w' ⟨rfl, nd, rfl⟩)
  go_quiet (fail)
  go_wp2
  go_ret2
  have hrd := rdr_step H.out (p + n) nd nq HN.out _ rfl
  refine ⟨some ⟨b, o + p, none⟩, cap - p, by show Ending.returned (.tuple #[.slice _ (p + n - p) _, _]) = _; rw [Nat.add_sub_cancel_left]; rfl, ?_, ?_, hrd.1, hrd.2⟩
  · refine ⟨seg_length _ _ _ HN.out, by omega, fun i hi => ⟨b, o + p, rfl, ?_⟩⟩
    obtain ⟨b', o', ha, hc⟩ := F4.out.at (p + i) (by have := HN.out; omega)
    simp only [Option.some.injEq, Addr.mk.injEq, and_true] at ha
    obtain ⟨rfl, rfl⟩ := ha
    have e : bAt (seg bs p n) i = bAt bs (p + i) := by
      unfold bAt seg
      rw [getD_take _ _ _ _ hi, getD_drop]
    simp only [e]
    rw [Nat.add_assoc]
    exact hrd.2.cell (p := ⟨b, o + (p + i), none⟩) hbr hc
  · intro x hx
    simp only [Option.some.injEq] at hx
    subst hx
    exact hbr

set_option maxRecDepth 100000 in
set_option maxHeartbeats 1000000 in
theorem rtake_no (r p : Nat) (bs : List UInt8) (w : World) (h : Rdr w r bs p) (n : Int) (hn : n < 0 ∨ (bs.length : Int) - p < n) :
    Calls Try.prog 14 #[.pointer (some ⟨r, 0, none⟩), .int .i64 n] w fun e w' => e = .returned (.tuple #[.slice none 0 0, .bool false]) ∧ ∃ n, w.drewN n = w' := by
  have C := Lib.hid (rleft_calls r p bs w h)
  by_cases h1 : n < 0
  · go_enter Try.func14, Try.ntmps14
    go_wp2_with fail
    go_ret2
    exact ⟨rfl, 0, rfl⟩
  have h3 : (bs.length : Int) - p < n := by omega
  clear hn
  generalize (bs.length : Int) - p = m at C h3
  go_enter Try.func14, Try.ntmps14
  go_wp2_with (go_at_call 20; refine C.out.mono ?_; rintro e w' ⟨rfl, nd, rfl⟩)
  go_ret2
  exact ⟨rfl, _, rfl⟩

/-- What Take answers. -/
def TakePost (w : World) (r : Nat) (bs : List UInt8) (p n : Nat) (e : Ending) (w' : World) : Prop :=
  ∃ v, e = .returned (.tuple #[v, .bool true]) ∧ OwnB w' w.heap.size v (seg bs p n) ∧ Rdr w' r bs (p + n) ∧ Chg (fun k => k = r) w w'

theorem seg_rd {w : World} {b o : Nat} {bs : List UInt8} (h : RdB w (some ⟨b, o, none⟩) bs.length bs) (p n : Nat) (hn : p + n ≤ bs.length) : RdB w (some ⟨b, o + p, none⟩) n (seg bs p n) := by
  refine ⟨seg_length _ _ _ hn, by have := h.2.1; omega, fun i hi => ⟨b, o + p, rfl, ?_⟩⟩
  obtain ⟨b', o', ha, hc⟩ := h.at (p + i) (by omega)
  simp only [Option.some.injEq, Addr.mk.injEq, and_true] at ha
  obtain ⟨rfl, rfl⟩ := ha
  have e : bAt (seg bs p n) i = bAt bs (p + i) := by
    unfold bAt seg
    rw [getD_take _ _ _ _ hi, getD_drop]
  simp only [e]
  rw [Nat.add_assoc]
  exact hc

set_option maxRecDepth 100000 in
set_option maxHeartbeats 1000000 in
theorem rtake_yes (r p : Nat) (bs : List UInt8) (w : World) (h : Rdr w r bs p) (n : Nat) (h1 : 1 ≤ n) (hn : p + n ≤ bs.length) :
    Calls Try.prog 14 #[.pointer (some ⟨r, 0, none⟩), .int .i64 n] w (TakePost w r bs p n) := by
  have C := Lib.hid (rleft_calls r p bs w h)
  have H := Lib.hid h
  have HN := Lib.hid hn
  obtain ⟨a, cap, f1, f2, f3, f4, f5, f6, f7, f8, f9⟩ := h
  obtain ⟨b, o, rfl, hcc⟩ := f4.at p (by omega)
  have hbr : b ≠ r := f5 _ rfl
  have F4 := Lib.hid f4
  clear f4 f5 f6 hcc
  generalize bs.length = m at f1 f7 f8 f9 hn C
  have hcp : ¬ cap = p := by omega
  have hst := fun nd a => rdr_step H.out (p + n) nd a HN.out ((p : Int) + n) rfl
  have HST := Lib.hid hst
  clear hst
  go_enter Try.func14, Try.ntmps14
  go_wp2_with (go_at_call 20; refine C.out.mono ?_; rintro e w' ⟨rfl, nd, rfl⟩)
  have f1' : ((w.drewN nd).setCell ⟨r, 1, none⟩ (.int .i64 ((p : Int) + n))).cell? ⟨r, 0, none⟩ = some (.slice (some ⟨b, o, none⟩) m cap) := by simp [go_sem, f1]
  have f2' : ((w.drewN nd).setCell ⟨r, 1, none⟩ (.int .i64 ((p : Int) + n))).cell? ⟨r, 1, none⟩ = some (.int .i64 ((p : Int) + n)) := World.cell?_setCell_same _ _ _ (u := .int .i64 p) (by exact f2)
  have i0 : (0 : Int) ≤ (p : Int) := by omega
  have i1 : (p : Int) ≤ (p : Int) + (n : Int) := by omega
  have i2 : (p : Int) + (n : Int) ≤ (cap : Int) := by omega
  have i3 : p + n ≤ cap := by omega
  have i4 : p ≤ p + n := by omega
  have i5 : p ≤ cap := by omega
  have q1 : IntKind.i64.wrap ((p : Int) + n - n) = (p : Int) := by rw [Int.add_sub_cancel]; exact IntWalk.i64_in _ (by omega)
  have q0 : IntKind.i64.wrap (p : Int) = (p : Int) := IntWalk.i64_in _ (by omega)
  have HSR : Hid (∀ a, RdB (((w.drewN nd).setCell ⟨r, 1, none⟩ (.int .i64 ((p : Int) + n))).drewN a) (some ⟨b, o + p, none⟩) n (seg bs p n)) := fun a => (seg_rd F4.out p n HN.out).chg (HST.out nd a).2 (fun x hx => by simp only [Option.some.injEq] at hx; subst hx; exact hbr)
  go_region_held3 (fun w' => w'.cell? ⟨r, 0, none⟩ = some (.slice (some ⟨b, o, none⟩) m cap) ∧ w'.cell? ⟨r, 1, none⟩ = some (.int .i64 ((p : Int) + n))) (first | go_keep | ((repeat' apply And.intro) <;> (refine cell_below ‹Below _ _ _› ?_; simp [*]))) ((go_at_call 42; refine (clone_calls _ _ _ (seg bs p n) _ ?_ (by simp) (by omega)).mono ?_; (rw [show ((p : Int) + n).toNat - p = n from by omega]; exact HSR.out 1); rintro e w' ⟨v, rfl, hown, hb⟩))
  go_wp2
  go_ret2
  exact ⟨v, rfl, hown.weaken (by simp), (HST.out nd 1).1.keep hb, (HST.out nd 1).2.trans (Chg.of_below (S := fun _ => False) hb) (fun _ _ h => h.elim)⟩

end Go.Proofs.Ythahhjmgjlkmfaa
