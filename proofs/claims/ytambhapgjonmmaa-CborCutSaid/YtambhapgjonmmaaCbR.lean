/- Readers of bytes (out of the texts of layer 1). -/
import Derived.Test.YtambhapgjonmmaaCbN
import Derived.Test.YtambhapgjonmmaaOpen
import Derived.Deep.RegionHeld3
import Derived.StillTailTactics
namespace Go.Proofs.Ytambhapgjonmmaa
open Go.RowKit
set_option linter.unusedVariables false
set_option linter.unusedSimpArgs false

theorem clone_nil (w : World) : Calls Try.prog 41 #[.slice none 0 0] w fun e w' => e = .returned (.slice none 0 0) ∧ w = w' := by
  have hn := Lib.run_eql_slice_nil (P := Try.prog)
  go_enter Try.func41, Try.ntmps41
  go_wp2
  go_ret
  exact ⟨rfl, rfl⟩

theorem news_of {w : World} {ad : Addr} {len : Nat} {l : List UInt8} (h : RdB w (some ad) len l) : ∀ j u, (byteCells l)[j]? = some u → w.cell? (ad.add j) = some u := by
  intro j u hj
  have hlt : j < l.length := by
    have := (List.getElem?_eq_some_iff.1 hj).1
    rwa [byteCells_length] at this
  obtain ⟨b, o, ha, hc⟩ := h.at j (by rw [← h.1]; exact hlt)
  simp only [Option.some.injEq] at ha
  subst ha
  have := byteCells_at l j hlt
  rw [List.getD_eq_getElem?_getD, hj] at this
  rw [add_at, hc]
  exact congrArg some this.symm

set_option maxRecDepth 100000 in
set_option maxHeartbeats 1000000 in
theorem clone_some (ad : Addr) (len cap : Nat) (l : List UInt8) (w : World) (h : RdB w (some ad) len l) (hb : len ≤ 140737488355328) :
    Calls Try.prog 41 #[.slice (some ad) len cap] w (BytesPost w l) := by
  obtain ⟨i0, hi, hz0, hz1, hz2⟩ := info_parts infoU8
  have HI := Lib.hid hi
  have H := Lib.hid h
  clear hi h
  have hn := Lib.run_eql_slice_nil (P := Try.prog)
  go_enter Try.func41, Try.ntmps41
  go_wp2_with (at_builtin; refine wpList_append_own _ rfl _ _ 23 rfl w.heap.size 5 i0 (.int .u8 0) 1 1 Try.underlying23 HI.out hz0 hz1 hz2 rfl (by decide) _ 0 [] rfl ?own ad len cap (byteCells l) rfl ?c0 ?c1 ?c2 ?c3 ?c4 ?c5 ?_)
  case own => exact World.ownsRow_lit w #[] 0 (Nat.le_refl _) (by unfold maxLen; omega) rfl
  case c0 => rw [byteCells_length, H.out.1, Nat.mul_one]
  case c1 => exact news_of (H.out.keep ((Below.refl _ _).alloc (Nat.le_refl _) _))
  case c2 => exact byteCells_one l
  case c3 => unfold maxLen; omega
  case c4 => omega
  case c5 => simp
  intro v' w1 hown' hgrow _
  have HO' := Lib.hid hown'
  have HG := Lib.hid hgrow
  clear hown' hgrow
  go_wp2_with fail
  go_ret
  refine ⟨v', rfl, ?_, ?_⟩
  · have := HO'.out
    unfold OwnB
    rw [H.out.1]
    simpa using this
  · exact ((Below.refl w.heap.size w).alloc (Nat.le_refl _) _).grown HG.out (by simp) fun k hk => by simp [Value.ownBlock] at hk; omega

/-- Clone at whatever slice of bytes. -/
theorem clone_calls (a : Option Addr) (len cap : Nat) (l : List UInt8) (w : World) (h : RdB w a len l) (hc : a = none → cap = 0) (hb : len ≤ 140737488355328) :
    Calls Try.prog 41 #[.slice a len cap] w (BytesPost w l) := by
  cases a with
  | some ad => exact clone_some ad len cap l w h hb
  | none =>
    have h0 : len = 0 := by
      rcases Nat.eq_zero_or_pos len with h0 | h0
      · exact h0
      · obtain ⟨b, o, ha, _⟩ := h.at 0 h0
        cases ha
    subst h0
    obtain rfl := hc rfl
    have hl : l = [] := List.eq_nil_of_length_eq_zero h.1
    subst hl
    refine (clone_nil w).mono ?_
    rintro e w' ⟨rfl, rfl⟩
    exact ⟨_, rfl, World.ownsRow_nil _ _ _ _, Below.refl _ _⟩

/-- A Reader in block r: its bytes, and how many it has gone past. -/
def Rdr (w : World) (r : Nat) (bs : List UInt8) (p : Nat) : Prop :=
  ∃ a cap, w.cell? ⟨r, 0, none⟩ = some (.slice a bs.length cap) ∧ w.cell? ⟨r, 1, none⟩ = some (.int .i64 (p : Nat)) ∧ w.frozen? ⟨r, 1, none⟩ = false ∧
    RdB w a bs.length bs ∧ (∀ x, a = some x → x.block ≠ r) ∧ (a = none → cap = 0) ∧ p ≤ bs.length ∧ bs.length ≤ cap ∧ bs.length ≤ 140737488355328

theorem Rdr.keep {w w' : World} {r bs p} (h : Rdr w r bs p) (hb : Below w.heap.size w w') : Rdr w' r bs p := by
  obtain ⟨a, cap, h1, h2, h3, h4, h5⟩ := h
  exact ⟨a, cap, cell_below hb h1, cell_below hb h2, by rw [hb.frozen (p := ⟨r, 1, none⟩) (by simpa using cell_block h2)]; exact h3, h4.keep hb, h5⟩

/-- Only r's place is set. -/
theorem Rdr.set {w : World} {r bs p} (h : Rdr w r bs p) (q : Nat) (hq : q ≤ bs.length) : Rdr (w.setCell ⟨r, 1, none⟩ (.int .i64 (q : Nat))) r bs q := by
  obtain ⟨a, cap, h1, h2, h3, h4, h5, h6, h7, h8⟩ := h
  refine ⟨a, cap, ?_, ?_, ?_, ?_, h5, h6, hq, h8⟩
  · rw [World.cell?_setCell_other _ _ _ _ (by simp)]; exact h1
  · exact World.cell?_setCell_same _ _ _ h2
  · rw [World.frozen?_setCell]; exact h3
  · exact h4.chg (S := fun k => k = r) (Chg.setCell (S := fun k => k = r) (Chg.refl _ w) (p := ⟨r, 1, none⟩) (fun _ => rfl) _) (fun x hx e => h5 x hx e)

/-- A new Reader, answered. -/
def NewPost (w : World) (bs : List UInt8) (e : Ending) (w' : World) : Prop :=
  ∃ r, e = .returned (.pointer (some ⟨r, 0, none⟩)) ∧ Rdr w' r bs 0 ∧ Below w.heap.size w w' ∧ w.heap.size ≤ r

set_option maxRecDepth 100000 in
set_option maxHeartbeats 1000000 in
theorem new_calls (a : Option Addr) (len cap : Nat) (l : List UInt8) (w : World) (h : RdB w a len l) (hc : a = none → cap = 0) (hb : len ≤ 140737488355328) :
    Calls Try.prog 30 #[.slice a len cap] w (NewPost w l) := by
  have C := Lib.hid (clone_calls a len cap l w h hc hb)
  have hl := h.1
  have HL := Lib.hid hl
  clear h hl
  go_enter Try.func30, Try.ntmps30
  go_wp2_with fail
  refine C.out.mono ?_
  rintro e w1 ⟨v, rfl, hown, hb1⟩
  have hsz := hb1.size
  obtain ⟨a1, c1, hve, hr⟩ := hown.reads
  have hform := hown.2
  rw [hve] at hform
  rw [hve]
  have HB := Lib.hid hb1
  have HR := Lib.hid hr
  have HO := Lib.hid hform
  clear hown hve hr hb1 hform
  go_wp2_with fail
  go_ret
  refine ⟨w1.heap.size, rfl, ?_, HB.out.alloc hsz _, hsz⟩
  refine ⟨a1, c1, by simp [go_sem], by simp [go_sem], by simp [go_sem], HR.out.keep ((Below.refl _ _).alloc (Nat.le_refl _) _), ?_, ?_, by omega, ?_, by rw [HL.out]; exact hb⟩
  · rintro x rfl
    rcases HO.out with ⟨h, _⟩ | ⟨g, cp, cur, h, _, hg, _⟩
    · simp at h
    · simp only [Value.slice.injEq, Option.some.injEq] at h
      rw [h.1]
      have := (Array.getElem?_eq_some_iff.1 hg).1
      simp only
      omega
  · rintro rfl
    rcases HO.out with ⟨h, _⟩ | ⟨g, cp, cur, h, _⟩
    · simp only [Value.slice.injEq] at h; exact h.2.2
    · simp at h
  · rcases HO.out with ⟨h, h0⟩ | ⟨g, cp, cur, h, _, _, hle, _⟩
    · omega
    · simp only [Value.slice.injEq] at h; rw [h.2.2]; exact hle

set_option maxRecDepth 100000 in
set_option maxHeartbeats 1000000 in
theorem rat_calls (r p : Nat) (bs : List UInt8) (w : World) (h : Rdr w r bs p) :
    Calls Try.prog 33 #[.pointer (some ⟨r, 0, none⟩)] w fun e w' => e = .returned (.int .i64 (p : Nat)) ∧ w = w' := by
  obtain ⟨a, cap, h1, h2, _⟩ := h
  go_enter Try.func33, Try.ntmps33
  go_wp2
  go_ret
  exact ⟨rfl, rfl⟩

set_option maxRecDepth 100000 in
set_option maxHeartbeats 1000000 in
theorem rleft_calls (r p : Nat) (bs : List UInt8) (w : World) (h : Rdr w r bs p) :
    Calls Try.prog 32 #[.pointer (some ⟨r, 0, none⟩)] w fun e w' => e = .returned (.int .i64 ((bs.length : Int) - p)) ∧ ∃ n, w.drewN n = w' := by
  obtain ⟨a, cap, h1, h2, _, _, _, _, h7, h8, h9⟩ := h
  go_enter Try.func32, Try.ntmps32
  go_wp2
  go_quiet (fail)
  go_wp2
  go_ret
  exact ⟨rfl, _, rfl⟩

set_option maxRecDepth 100000 in
set_option maxHeartbeats 1000000 in
theorem rbyte_no (r : Nat) (bs : List UInt8) (w : World) (h : Rdr w r bs bs.length) :
    Calls Try.prog 46 #[.pointer (some ⟨r, 0, none⟩)] w fun e w' => e = .returned (.tuple #[.int .i64 0, .bool false]) ∧ ∃ n, w.drewN n = w' := by
  obtain ⟨a, cap, h1, h2, _, _, _, _, h7, h8, h9⟩ := h
  have hb : ((bs.length : Int) == bs.length) = true := by simp
  go_enter Try.func46, Try.ntmps46
  go_wp2
  go_quiet (fail)
  go_wp2
  go_ret2
  exact ⟨rfl, _, rfl⟩

/-- The reader alone has changed, and not where its bytes lie. -/
def ChgR (r : Nat) (w w' : World) : Prop := r < w.heap.size ∧ Chg (fun k => k = r) w w' ∧ w'.cell? ⟨r, 0, none⟩ = w.cell? ⟨r, 0, none⟩
theorem cell_eq_below {w w' : World} {r i : Nat} (hb : Below w.heap.size w w') (hr : r < w.heap.size) : w'.cell? ⟨r, i, none⟩ = w.cell? ⟨r, i, none⟩ := World.cell?_of_block (hb.block r hr)
theorem ChgR.trans {r : Nat} {a b c : World} (h : ChgR r a b) (k : Chg (fun _ => False) b c) (_ : ∀ i, i < a.heap.size → False → i = r) : ChgR r a c :=
  ⟨h.1, h.2.1.trans k fun _ _ h => h.elim, (World.cell?_of_block (k.block r (Nat.lt_of_lt_of_le h.1 h.2.1.size) id)).trans h.2.2⟩
theorem rdr_step {w : World} {r : Nat} {bs : List UInt8} {p : Nat} (h : Rdr w r bs p) (q a b : Nat) (hq : q ≤ bs.length) (z : Int) (hz : z = (q : Int)) :
    Rdr (((w.drewN a).setCell ⟨r, 1, none⟩ (.int .i64 z)).drewN b) r bs q ∧ ChgR r w (((w.drewN a).setCell ⟨r, 1, none⟩ (.int .i64 z)).drewN b) := by
  subst hz
  obtain ⟨a0, cap0, h1, -⟩ := id h
  refine ⟨((h.keep (below_drewN _ _ _)).set q hq).keep (below_drewN _ _ _), by simpa using cell_block h1, ?_, ?_⟩
  · refine Chg.trans (Chg.setCell (S := fun k => k = r) (Chg.of_below (below_drewN w a _)) (p := ⟨r, 1, none⟩) (fun _ => rfl) _) (Chg.of_below (S := fun _ => False) (below_drewN _ b _)) (fun _ _ h => h.elim)
  · rw [h1]
    refine cell_below (below_drewN _ b _) ?_
    rw [World.cell?_setCell_other _ _ _ _ (by simp)]
    exact cell_below (below_drewN w a _) h1

/-- A step of a Reader: it answers v and stands at q. -/
def StepPost (w : World) (r : Nat) (bs : List UInt8) (v : Value) (q : Nat) (e : Ending) (w' : World) : Prop :=
  e = .returned v ∧ Rdr w' r bs q ∧ ChgR r w w'

set_option maxRecDepth 100000 in
set_option maxHeartbeats 1000000 in
theorem rbyte_yes (r p : Nat) (bs : List UInt8) (w : World) (h : Rdr w r bs p) (hp : p < bs.length) :
    Calls Try.prog 46 #[.pointer (some ⟨r, 0, none⟩)] w (StepPost w r bs (.tuple #[.int .i64 (bAt bs p : Nat), .bool true]) (p + 1)) := by
  have H := Lib.hid h
  have HP : Hid (p + 1 ≤ bs.length) := hp
  obtain ⟨a, cap, h1, h2, h3, h4, h5, h6, h7, h8, h9⟩ := h
  obtain ⟨b, o, rfl, hcc⟩ := h4.at p hp
  have hbr : b ≠ r := h5 _ rfl
  have hb : ((p : Int) == bs.length) = false := by simp; omega
  have q := bAt_bd bs p
  clear h4 h5 h6
  generalize bs.length = n at h1 h7 h8 h9 hp hb
  go_enter Try.func46, Try.ntmps46
  go_wp2
  go_quiet (fail)
  go_wp2
  go_quiet (fail)
  go_wp2
  go_ret2
  exact ⟨rfl, rdr_step H.out (p + 1) _ _ HP.out _ rfl⟩

set_option maxRecDepth 100000 in
set_option maxHeartbeats 1000000 in
theorem rnext_no (r p : Nat) (bs : List UInt8) (w : World) (h : Rdr w r bs p) (n : Int) (hn : n < 1 ∨ 8 < n ∨ (bs.length : Int) - p < n) :
    Calls Try.prog 60 #[.pointer (some ⟨r, 0, none⟩), .int .i64 n] w fun e w' => e = .returned (.tuple #[.slice none 0 0, .bool false]) ∧ ∃ n, w.drewN n = w' := by
  have C := Lib.hid (rleft_calls r p bs w h)
  by_cases h1 : n < 1
  · go_enter Try.func60, Try.ntmps60
    go_wp2_with fail
    go_ret2
    exact ⟨rfl, 0, rfl⟩
  by_cases h2 : 8 < n
  · go_enter Try.func60, Try.ntmps60
    go_wp2_with fail
    go_ret2
    exact ⟨rfl, 0, rfl⟩
  have h3 : (bs.length : Int) - p < n := by omega
  clear hn
  generalize (bs.length : Int) - p = m at C h3
  go_enter Try.func60, Try.ntmps60
  go_wp2_with (go_at_call 32; refine C.out.mono ?_; rintro e w' ⟨rfl, nd, rfl⟩)
  go_ret2
  exact ⟨rfl, _, rfl⟩

/-- What next answers. -/
def NextPost (w : World) (r : Nat) (bs : List UInt8) (p n : Nat) (e : Ending) (w' : World) : Prop :=
  ∃ a cap, e = .returned (.tuple #[.slice a n cap, .bool true]) ∧ RdB w' a n (seg bs p n) ∧ (∀ x, a = some x → x.block ≠ r) ∧ Rdr w' r bs (p + n) ∧ ChgR r w w'

set_option maxRecDepth 100000 in
set_option maxHeartbeats 1000000 in
theorem rnext_yes (r p : Nat) (bs : List UInt8) (w : World) (h : Rdr w r bs p) (n : Nat) (h1 : 1 ≤ n) (h8 : n ≤ 8) (hn : p + n ≤ bs.length) :
    Calls Try.prog 60 #[.pointer (some ⟨r, 0, none⟩), .int .i64 n] w (NextPost w r bs p n) := by
  have C := Lib.hid (rleft_calls r p bs w h)
  have H := Lib.hid h
  have HN := Lib.hid hn
  obtain ⟨a, cap, f1, f2, f3, f4, f5, f6, f7, f8, f9⟩ := h
  obtain ⟨b, o, rfl, hcc⟩ := f4.at p (by omega)
  have hbr : b ≠ r := f5 _ rfl
  have F4 := Lib.hid f4
  clear f4 f5 f6 hcc
  generalize bs.length = m at f1 f7 f8 f9 hn C
  have hcp : ¬ cap = p := by omega
  go_enter Try.func60, Try.ntmps60
  go_wp2_with (go_at_call 32; refine C.out.mono ?_; rintro e w' ⟨rfl, nd, rfl⟩)
  go_quiet (fail)
  go_wp2
  go_ret2
  have hrd := rdr_step H.out (p + n) nd nq HN.out _ rfl
  refine ⟨some ⟨b, o + p, none⟩, cap - p, by show Ending.returned (.tuple #[.slice _ (p + n - p) _, _]) = _; rw [Nat.add_sub_cancel_left]; rfl, ?_, ?_, hrd.1, hrd.2⟩
  · refine ⟨seg_length _ _ _ HN.out, by omega, fun i hi => ⟨b, o + p, rfl, ?_⟩⟩
    obtain ⟨b', o', ha, hc⟩ := F4.out.at (p + i) (by have := HN.out; omega)
    simp only [Option.some.injEq, Addr.mk.injEq, and_true] at ha
    obtain ⟨rfl, rfl⟩ := ha
    have e : bAt (seg bs p n) i = bAt bs (p + i) := by
      unfold bAt seg
      rw [getD_take _ _ _ _ hi, getD_drop]
    simp only [e]
    rw [Nat.add_assoc]
    exact hrd.2.2.1.cell (p := ⟨b, o + (p + i), none⟩) hbr hc
  · intro x hx
    simp only [Option.some.injEq] at hx
    subst hx
    exact hbr

set_option maxRecDepth 100000 in
set_option maxHeartbeats 1000000 in
theorem rtake_no (r p : Nat) (bs : List UInt8) (w : World) (h : Rdr w r bs p) (n : Int) (hn : n < 0 ∨ (bs.length : Int) - p < n) :
    Calls Try.prog 57 #[.pointer (some ⟨r, 0, none⟩), .int .i64 n] w fun e w' => e = .returned (.tuple #[.slice none 0 0, .bool false]) ∧ ∃ n, w.drewN n = w' := by
  have C := Lib.hid (rleft_calls r p bs w h)
  by_cases h1 : n < 0
  · go_enter Try.func57, Try.ntmps57
    go_wp2_with fail
    go_ret2
    exact ⟨rfl, 0, rfl⟩
  have h3 : (bs.length : Int) - p < n := by omega
  clear hn
  generalize (bs.length : Int) - p = m at C h3
  go_enter Try.func57, Try.ntmps57
  go_wp2_with (go_at_call 32; refine C.out.mono ?_; rintro e w' ⟨rfl, nd, rfl⟩)
  go_ret2
  exact ⟨rfl, _, rfl⟩

/-- What Take answers. -/
def TakePost (w : World) (r : Nat) (bs : List UInt8) (p n : Nat) (e : Ending) (w' : World) : Prop :=
  ∃ v, e = .returned (.tuple #[v, .bool true]) ∧ OwnB w' w.heap.size v (seg bs p n) ∧ Rdr w' r bs (p + n) ∧ ChgR r w w'

theorem seg_rd {w : World} {b o : Nat} {bs : List UInt8} (h : RdB w (some ⟨b, o, none⟩) bs.length bs) (p n : Nat) (hn : p + n ≤ bs.length) : RdB w (some ⟨b, o + p, none⟩) n (seg bs p n) := by
  refine ⟨seg_length _ _ _ hn, by have := h.2.1; omega, fun i hi => ⟨b, o + p, rfl, ?_⟩⟩
  obtain ⟨b', o', ha, hc⟩ := h.at (p + i) (by omega)
  simp only [Option.some.injEq, Addr.mk.injEq, and_true] at ha
  obtain ⟨rfl, rfl⟩ := ha
  have e : bAt (seg bs p n) i = bAt bs (p + i) := by
    unfold bAt seg
    rw [getD_take _ _ _ _ hi, getD_drop]
  simp only [e]
  rw [Nat.add_assoc]
  exact hc

set_option maxRecDepth 100000 in
set_option maxHeartbeats 1000000 in
theorem rtake_yes (r p : Nat) (bs : List UInt8) (w : World) (h : Rdr w r bs p) (n : Nat) (h1 : 1 ≤ n) (hn : p + n ≤ bs.length) :
    Calls Try.prog 57 #[.pointer (some ⟨r, 0, none⟩), .int .i64 n] w (TakePost w r bs p n) := by
  have C := Lib.hid (rleft_calls r p bs w h)
  have H := Lib.hid h
  have HN := Lib.hid hn
  obtain ⟨a, cap, f1, f2, f3, f4, f5, f6, f7, f8, f9⟩ := h
  obtain ⟨b, o, rfl, hcc⟩ := f4.at p (by omega)
  have hbr : b ≠ r := f5 _ rfl
  have F4 := Lib.hid f4
  clear f4 f5 f6 hcc
  generalize bs.length = m at f1 f7 f8 f9 hn C
  have hcp : ¬ cap = p := by omega
  have hst := fun nd a => rdr_step H.out (p + n) nd a HN.out ((p : Int) + n) rfl
  have HST := Lib.hid hst
  clear hst
  go_enter Try.func57, Try.ntmps57
  go_wp2_with (go_at_call 32; refine C.out.mono ?_; rintro e w' ⟨rfl, nd, rfl⟩)
  have f1' : ((w.drewN nd).setCell ⟨r, 1, none⟩ (.int .i64 ((p : Int) + n))).cell? ⟨r, 0, none⟩ = some (.slice (some ⟨b, o, none⟩) m cap) := by simp [go_sem, f1]
  have f2' : ((w.drewN nd).setCell ⟨r, 1, none⟩ (.int .i64 ((p : Int) + n))).cell? ⟨r, 1, none⟩ = some (.int .i64 ((p : Int) + n)) := World.cell?_setCell_same _ _ _ (u := .int .i64 p) (by exact f2)
  have i0 : (0 : Int) ≤ (p : Int) := by omega
  have i1 : (p : Int) ≤ (p : Int) + (n : Int) := by omega
  have i2 : (p : Int) + (n : Int) ≤ (cap : Int) := by omega
  have i3 : p + n ≤ cap := by omega
  have i4 : p ≤ p + n := by omega
  have i5 : p ≤ cap := by omega
  have q1 : IntKind.i64.wrap ((p : Int) + n - n) = (p : Int) := by rw [Int.add_sub_cancel]; exact IntWalk.i64_in _ (by omega)
  have q0 : IntKind.i64.wrap (p : Int) = (p : Int) := IntWalk.i64_in _ (by omega)
  have HSR : Hid (∀ a, RdB (((w.drewN nd).setCell ⟨r, 1, none⟩ (.int .i64 ((p : Int) + n))).drewN a) (some ⟨b, o + p, none⟩) n (seg bs p n)) := fun a => (seg_rd F4.out p n HN.out).chg (HST.out nd a).2.2.1 (fun x hx => by simp only [Option.some.injEq] at hx; subst hx; exact hbr)
  go_region_held3 (fun w' => w'.cell? ⟨r, 0, none⟩ = some (.slice (some ⟨b, o, none⟩) m cap) ∧ w'.cell? ⟨r, 1, none⟩ = some (.int .i64 ((p : Int) + n))) (first | go_keep | ((repeat' apply And.intro) <;> (refine cell_below ‹Below _ _ _› ?_; simp [*]))) ((go_at_call 41; refine (clone_calls _ _ _ (seg bs p n) _ ?_ (by simp) (by omega)).mono ?_; (rw [show ((p : Int) + n).toNat - p = n from by omega]; exact HSR.out 1); rintro e w' ⟨v, rfl, hown, hb⟩))
  go_wp2
  go_ret2
  exact ⟨v, rfl, hown.weaken (by simp), (HST.out nd 1).1.keep hb, (HST.out nd 1).2.trans (Chg.of_below (S := fun _ => False) hb) (fun _ _ h => h.elim)⟩

theorem le_snoc (l : List UInt8) (b : UInt8) : le (l ++ [b]) = le l + 256 ^ l.length * b.toNat := by rw [le_append]; simp [le]

theorem le_seg_take (l : List UInt8) (p n k : Nat) (h : p + n ≤ l.length) (hk : k < n) : le ((seg l p n).take (k + 1)) = le ((seg l p n).take k) + 256 ^ k * bAt l (p + k) := by
  rw [seg_snoc l p n k h hk, le_snoc]
  rw [List.length_take, seg_length _ _ _ h, Nat.min_eq_left (by omega)]
  rfl

theorem le_take_lt (l : List UInt8) (k : Nat) (hk : k ≤ l.length) : le (l.take k) < 256 ^ k := by
  have := le_lt (l.take k)
  rwa [List.length_take, Nat.min_eq_left hk] at this

theorem pow256 (k : Nat) : 256 ^ k = 2 ^ (8 * k) := by rw [show (256 : Nat) = 2 ^ 8 from rfl, ← Nat.pow_mul]

/-- v | x << 8k, x a byte, v below 256^k. -/
theorem or_step (v x k : Nat) (hv : v < 256 ^ k) (hx : x < 256) (hk : k < 8) : bits BinOp.or IntKind.u64 (v : Int) ((256 ^ k * x : Nat) : Int) = ((v + 256 ^ k * x : Nat) : Int) := by
  have h8 : 256 ^ (k + 1) ≤ 256 ^ 8 := Nat.pow_le_pow_right (by omega) (by omega)
  have hp : 256 ^ k * x < 256 ^ (k + 1) := by rw [Nat.pow_succ]; exact Nat.mul_lt_mul_of_pos_left hx (Nat.pow_pos (by omega))
  have hv8 : v < 256 ^ 8 := Nat.lt_of_lt_of_le hv (Nat.pow_le_pow_right (by omega) (by omega))
  rw [u64_or_nat v (256 ^ k * x) (by omega) (by omega), Nat.or_comm, nat_join (8 * k) _ v (by rw [← pow256]; exact Nat.mul_mod_right _ _) (by rw [← pow256]; exact hv)]
  rw [Nat.add_comm]

theorem bAt_seg (l : List UInt8) (p n k : Nat) (hk : k < n) : bAt (seg l p n) k = bAt l (p + k) := by
  unfold bAt seg
  rw [getD_take _ _ _ _ hk, getD_drop]

theorem low_or (l : List UInt8) (p n k : Nat) (h : p + n ≤ l.length) (hk : k < n) (hn : n ≤ 8) :
    bits BinOp.or IntKind.u64 ((le ((seg l p n).take k) : Nat) : Int) (IntKind.u64.wrap ((bAt (seg l p n) k : Int) * 2 ^ (8 * k))) = (le ((seg l p n).take (k + 1)) : Int) := by
  rw [le_seg_take l p n k h hk, bAt_seg l p n k hk]
  have hb := bAt_lt l (p + k)
  have hv := le_take_lt (seg l p n) k (by rw [seg_length _ _ _ h]; omega)
  generalize bAt l (p + k) = x at hb
  generalize le ((seg l p n).take k) = v at hv
  have e : (x : Int) * 2 ^ (8 * k) = ((256 ^ k * x : Nat) : Int) := by
    rw [pow256, Int.natCast_mul, Int.natCast_pow, Int.mul_comm]; rfl
  have hp : 256 ^ k * x < 256 ^ 8 := by
    have h8 : 256 ^ (k + 1) ≤ 256 ^ 8 := Nat.pow_le_pow_right (by omega) (by omega)
    have : 256 ^ k * x < 256 ^ (k + 1) := by rw [Nat.pow_succ]; exact Nat.mul_lt_mul_of_pos_left hb (Nat.pow_pos (by omega))
    omega
  rw [e, wrap_u64_nat (by unfold okSize; omega), or_step v x k hv hb (by omega)]

/-- v << 8 | x. -/
theorem high_or (l : List UInt8) (p n k : Nat) (h : p + n ≤ l.length) (hk : k < n) (hn : n ≤ 8) :
    bits BinOp.or IntKind.u64 (IntKind.u64.wrap (((be ((seg l p n).take k) : Nat) : Int) * 256)) (bAt (seg l p n) k : Int) = (be ((seg l p n).take (k + 1)) : Int) := by
  rw [be_seg_step l p n k h hk, bAt_seg l p n k hk]
  have hb := bAt_lt l (p + k)
  have hs := be_seg_small l p n (k + 1) h hk hn
  rw [be_seg_step l p n k h hk] at hs
  generalize bAt l (p + k) = x at hb hs
  generalize be ((seg l p n).take k) = v at hs
  unfold okSize at hs
  have e : IntKind.u64.wrap ((v : Int) * 256) = ((v * 256 : Nat) : Int) := by rw [wrap_u64_of (by omega) (by omega)]; omega
  have h1 : v * 256 < 18446744073709551616 := Nat.lt_of_le_of_lt (Nat.le_add_right _ _) hs
  have h2 : x < 18446744073709551616 := Nat.lt_of_le_of_lt (Nat.le_add_left _ _) hs
  have h3 : v * 256 % 2 ^ 8 = 0 := Nat.mul_mod_left _ _
  have h4 : x < 2 ^ 8 := hb
  rw [e, u64_or_nat (v * 256) x h1 h2, nat_join 8 (v * 256) x h3 h4]

set_option maxRecDepth 100000 in
set_option maxHeartbeats 1000000 in
theorem rhigh_yes (r p : Nat) (bs : List UInt8) (w : World) (h : Rdr w r bs p) (n : Nat) (h1 : 1 ≤ n) (h8 : n ≤ 8) (hn : p + n ≤ bs.length) :
    Calls Try.prog 56 #[.pointer (some ⟨r, 0, none⟩), .int .i64 n] w (StepPost w r bs (.tuple #[.int .u64 (be (seg bs p n)), .bool true]) (p + n)) := by
  have C := Lib.hid (rnext_yes r p bs w h n h1 h8 hn)
  have HN := Lib.hid hn
  clear h hn
  go_enter Try.func56, Try.ntmps56
  go_wp2_with fail
  refine C.out.mono ?_
  rintro e w1 ⟨a, cap, rfl, hr, ha, hrd, hch⟩
  have HR := Lib.hid hr
  have HF : Hid (Rdr w1 r bs (p + n) ∧ ChgR r w w1) := ⟨hrd, hch⟩
  clear hr ha hrd hch
  go_wp2_with fail
  go_loop [8, 19] (fun v i => ∃ k : Nat, k ≤ n ∧ i = .int .i64 k ∧ v = .int .u64 (be ((seg bs p n).take k))) (fun _ i => n - (intOf i).toNat)
  case atStart => exact ⟨0, by omega, rfl, rfl⟩
  case round =>
    obtain ⟨k, hk, rfl, rfl⟩ := hrel
    by_cases hlt : k < n
    · obtain ⟨b, o, rfl, hcc⟩ := HR.out.at k hlt
      have q := bAt_bd (seg bs p n) k
      go_wp2_with fail
      go_round
      case rel => exact ⟨k + 1, by omega, by simp, by rw [high_or bs p n k HN.out hlt h8]⟩
      case measure => simp [intOf]; omega
    · obtain rfl : k = n := by omega
      have hf : Hid ((seg bs p k).take k = seg bs p k) := List.take_of_length_le (by rw [seg_length _ _ _ HN.out]; omega)
      go_wp2_with fail
      go_ret2
      exact ⟨by rw [hf.out]; rfl, HF.out⟩

set_option maxRecDepth 100000 in
set_option maxHeartbeats 1000000 in
theorem rhigh_no (r p : Nat) (bs : List UInt8) (w : World) (h : Rdr w r bs p) (n : Int) (hn : n < 1 ∨ 8 < n ∨ (bs.length : Int) - p < n) :
    Calls Try.prog 56 #[.pointer (some ⟨r, 0, none⟩), .int .i64 n] w fun e w' => e = .returned (.tuple #[.int .u64 0, .bool false]) ∧ ∃ n, w.drewN n = w' := by
  have C := Lib.hid (rnext_no r p bs w h n hn)
  clear h hn
  go_enter Try.func56, Try.ntmps56
  go_wp2_with fail
  refine C.out.mono ?_
  rintro e w1 ⟨rfl, nd, rfl⟩
  go_wp2_with fail
  refine wp_loop_once ?_
  go_wp2_with fail
  go_ret2
  exact ⟨rfl, _, rfl⟩

theorem rdr_stay {w : World} {r : Nat} {bs : List UInt8} {p : Nat} (h : Rdr w r bs p) (a b : Nat) :
    Rdr (((w.drewN a).setCell ⟨r, 1, none⟩ (.int .i64 (p : Nat))).drewN b) r bs p ∧ ChgR r w (((w.drewN a).setCell ⟨r, 1, none⟩ (.int .i64 (p : Nat))).drewN b) :=
  rdr_step h p a b (by obtain ⟨_, _, _, _, _, _, _, _, h7, _⟩ := h; exact h7) _ rfl

set_option maxRecDepth 100000 in
set_option maxHeartbeats 1000000 in
theorem rtake_zero (r p : Nat) (bs : List UInt8) (w : World) (h : Rdr w r bs p) :
    Calls Try.prog 57 #[.pointer (some ⟨r, 0, none⟩), .int .i64 0] w (TakePost w r bs p 0) := by
  have C := Lib.hid (rleft_calls r p bs w h)
  have H := Lib.hid h
  have hst := fun nd a => rdr_stay h nd a
  have HST := Lib.hid hst
  obtain ⟨a, cap, f1, f2, f3, f4, f5, f6, f7, f8, f9⟩ := h
  clear f4 hst
  have hs0 : seg bs p 0 = [] := by simp [seg]
  generalize bs.length = m at f1 f7 f8 f9 C
  cases a with
  | none =>
    have hc := f6 rfl
    subst hc
    have hm : m = 0 := by omega
    subst hm
    have hp : p = 0 := by omega
    subst hp
    go_enter Try.func57, Try.ntmps57
    go_wp2_with (go_at_call 32; refine C.out.mono ?_; rintro e w' ⟨rfl, nd, rfl⟩)
    have f1' : ((w.drewN nd).setCell ⟨r, 1, none⟩ (.int .i64 0)).cell? ⟨r, 0, none⟩ = some (.slice none 0 0) := by simp [go_sem, f1]
    have f2' : ((w.drewN nd).setCell ⟨r, 1, none⟩ (.int .i64 0)).cell? ⟨r, 1, none⟩ = some (.int .i64 0) := World.cell?_setCell_same _ _ _ (u := .int .i64 0) (by exact f2)
    go_region_with ((go_at_call 41; refine (clone_nil _).mono ?_; rintro e w' ⟨rfl, rfl⟩))
    all_goals
      go_wp2
      go_ret2
      exact ⟨_, rfl, hs0 ▸ World.ownsRow_nil _ _ _ _, (HST.out nd 1).1, (HST.out nd 1).2⟩
  | some ad =>
    have i9 : cap = p ∨ ¬ cap = p := by omega
    rcases i9 with hcp | hcp
    · subst hcp
      go_enter Try.func57, Try.ntmps57
      go_wp2_with (go_at_call 32; refine C.out.mono ?_; rintro e w' ⟨rfl, nd, rfl⟩)
      have f1' : ((w.drewN nd).setCell ⟨r, 1, none⟩ (.int .i64 (cap : Nat))).cell? ⟨r, 0, none⟩ = some (.slice (some ad) m cap) := by simp [go_sem, f1]
      have f2' : ((w.drewN nd).setCell ⟨r, 1, none⟩ (.int .i64 (cap : Nat))).cell? ⟨r, 1, none⟩ = some (.int .i64 (cap : Nat)) := World.cell?_setCell_same _ _ _ (u := .int .i64 (cap : Nat)) (by exact f2)
      have i0 : (0 : Int) ≤ (cap : Int) := by omega
      have i2 : (cap : Int) ≤ (cap : Int) := by omega
      have i5 : cap ≤ cap := by omega
      have q0 : IntKind.i64.wrap (cap : Int) = (cap : Int) := IntWalk.i64_in _ (by omega)
      go_region_held3 (fun w' => w'.cell? ⟨r, 0, none⟩ = some (.slice (some ad) m cap) ∧ w'.cell? ⟨r, 1, none⟩ = some (.int .i64 (cap : Nat))) (first | go_keep | ((repeat' apply And.intro) <;> (refine cell_below ‹Below _ _ _› ?_; simp [*]))) ((go_at_call 41; refine (clone_calls _ _ _ [] _ ?_ (by simp) (by omega)).mono ?_; (first | exact RdB.nil _ _ | (simp only [Int.toNat_natCast, Nat.sub_self]; exact RdB.nil _ _)); rintro e w' ⟨v, rfl, hown, hb⟩))
      go_wp2
      go_ret2
      exact ⟨v, rfl, hs0 ▸ hown.weaken (by simp), (HST.out nd 1).1.keep hb, (HST.out nd 1).2.trans (Chg.of_below (S := fun _ => False) hb) (fun _ _ h => h.elim)⟩
    · go_enter Try.func57, Try.ntmps57
      go_wp2_with (go_at_call 32; refine C.out.mono ?_; rintro e w' ⟨rfl, nd, rfl⟩)
      have f1' : ((w.drewN nd).setCell ⟨r, 1, none⟩ (.int .i64 (p : Nat))).cell? ⟨r, 0, none⟩ = some (.slice (some ad) m cap) := by simp [go_sem, f1]
      have f2' : ((w.drewN nd).setCell ⟨r, 1, none⟩ (.int .i64 (p : Nat))).cell? ⟨r, 1, none⟩ = some (.int .i64 (p : Nat)) := World.cell?_setCell_same _ _ _ (u := .int .i64 (p : Nat)) (by exact f2)
      have i0 : (0 : Int) ≤ (p : Int) := by omega
      have i2 : (p : Int) ≤ (cap : Int) := by omega
      have i5 : p ≤ cap := by omega
      have q0 : IntKind.i64.wrap (p : Int) = (p : Int) := IntWalk.i64_in _ (by omega)
      go_region_held3 (fun w' => w'.cell? ⟨r, 0, none⟩ = some (.slice (some ad) m cap) ∧ w'.cell? ⟨r, 1, none⟩ = some (.int .i64 (p : Nat))) (first | go_keep | ((repeat' apply And.intro) <;> (refine cell_below ‹Below _ _ _› ?_; simp [*]))) ((go_at_call 41; refine (clone_calls _ _ _ [] _ ?_ (by simp) (by omega)).mono ?_; (first | exact RdB.nil _ _ | (simp only [Int.toNat_natCast, Nat.sub_self]; exact RdB.nil _ _)); rintro e w' ⟨v, rfl, hown, hb⟩))
      go_wp2
      go_ret2
      exact ⟨v, rfl, hs0 ▸ hown.weaken (by simp), (HST.out nd 1).1.keep hb, (HST.out nd 1).2.trans (Chg.of_below (S := fun _ => False) hb) (fun _ _ h => h.elim)⟩

end Go.Proofs.Ytambhapgjonmmaa
