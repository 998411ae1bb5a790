/- path.Get and path.Names, walked. -/
import Derived.Test.YtiodjhcjfbnocaaPaC
namespace Go.Proofs.Ytiodjhcjfbnocaa
open Go.RowKit
set_option linter.unusedVariables false
set_option linter.unusedSimpArgs false

/-- No value. -/
def T0 : T := .mk 0 0 0 0 ByteArray.empty ByteArray.empty 0 [] .nil
theorem rd_T0 (w : World) : RdT w T0 (valCells 0 0 0 0 ByteArray.empty ByteArray.empty 0 none 0 0 none 0 0) := by
  refine ⟨none, 0, 0, none, 0, 0, rfl, ?_, ⟨rfl, by omega, fun i hi => absurd hi (Nat.not_lt_zero i)⟩, rfl, ⟨by omega, ⟨fun _ => rfl, Nat.le_refl _⟩, ⟨fun _ => rfl, Nat.le_refl _⟩⟩, trivial⟩
  unfold OwnOk okSize
  decide
def goX (t : T) (p : List Int) : T := match goT t p with | none => T0 | some (x, _) => x
def goN (t : T) (p : List Int) : List ByteArray := match goT t p with | none => [] | some (_, l) => l
theorem goT_wt : ∀ (p : List Int) (t x : T) (l : List ByteArray), goT t p = some (x, l) → x.wt ≤ t.wt
  | [], t, x, l, h => by
    simp only [goT, Option.some.injEq, Prod.mk.injEq] at h
    rw [h.1]; exact Nat.le_refl _
  | i :: p, t, x, l, h => by
    simp only [goT] at h
    cases h1 : t.kids.at? i with
    | none => rw [h1] at h; simp at h
    | some y =>
      obtain ⟨n, u⟩ := y
      rw [h1] at h
      simp only at h
      cases h2 : goT u p with
      | none => rw [h2] at h; simp at h
      | some z =>
        obtain ⟨x', l'⟩ := z
        rw [h2] at h
        simp only [Option.some.injEq, Prod.mk.injEq] at h
        have h3 := goT_wt p u x' l' h2
        rw [h.1] at h3
        unfold F.at? at h1
        split at h1
        · simp at h1
        · have h4 := F.wt_get t.kids _ n u h1
          have h5 : t.kids.wt ≤ t.wt := by cases t; simp only [T.kids, T.wt]; omega
          omega
theorem goX_wt (t : T) (p : List Int) : (goX t p).wt ≤ t.wt + 2 := by
  unfold goX
  cases h : goT t p with
  | none => simp [T0, T.wt, F.wt, ByteArray.size]
  | some y => obtain ⟨x, l⟩ := y; have := goT_wt p t x l h; simp only; omega
theorem walk_shape {w0 w w' : World} {t : T} {p : List Int} {e : Ending} (h : WalkOut w0 w (goT t p) e w') : ∃ c v, e = .returned (.tuple #[.agg c, v, .bool (goT t p).isSome]) ∧ RdT w0 (goX t p) c ∧ OwnS w' w.heap.size v (goN t p) ∧ Below w.heap.size w w' := by
  obtain ⟨hb, h2⟩ := h
  unfold goX goN
  cases h1 : goT t p with
  | none => rw [h1] at h2; exact ⟨_, _, h2, rd_T0 _, World.ownsRow_nil _ _ _ _, hb⟩
  | some y =>
    obtain ⟨x, l⟩ := y
    rw [h1] at h2
    obtain ⟨c, v, h3, h4, h5⟩ := h2
    exact ⟨c, v, h3, h4, h5, hb⟩

set_option maxRecDepth 100000 in
set_option maxHeartbeats 8000000 in
theorem names_calls (t : T) (w : World) (c : Array Value) (h : RdT w t c) (a : Option Addr) (p : List Int) (n cap : Nat) (S : Nat → Prop) (hp : RdPS S w a p) (hn : p.length = n) (hnb : n ≤ 1000000) :
    Calls Try.prog 20 #[.agg c, .slice a n cap] w fun e w' => ∃ v, e = .returned (.tuple #[v, .bool (goT t p).isSome]) ∧ OwnS w' w.heap.size v (goN t p) ∧ Below w.heap.size w w' := by
  have C := fun W (hW : Below w.heap.size w W) => Lib.hid ((walk_calls w t W hW c h a p n cap S (hp.keep (KeepS.below hW)) hn hnb).mono fun e w' => walk_shape)
  obtain ⟨ok, hok⟩ : ∃ ok, ok = (goT t p).isSome := ⟨_, rfl⟩
  obtain ⟨nm, hnm⟩ : ∃ nm, nm = goN t p := ⟨_, rfl⟩
  obtain ⟨x, hx⟩ : ∃ x, x = goX t p := ⟨_, rfl⟩
  rw [← hok, ← hnm, ← hx] at C
  rw [← hok, ← hnm]
  clear hok hnm hx hp hn
  obtain ⟨k, bits, hi, lo, text, more, sub, bs, kids⟩ := t
  obtain ⟨ab, nb, cb, ak, nk, ck, rfl, -⟩ := h
  have HB0 : Hid (Below w.heap.size w (w.alloc (.cells (valCells k bits hi lo text more sub ab nb cb ak nk ck) 26))) := (Below.refl _ _).alloc (Nat.le_refl _) _
  go_enter Try.func20, Try.ntmps20
  go_wp2_with fail
  refine (C _ HB0.out).out.mono ?_
  rintro e w1 ⟨c1, v, rfl, hr, ho, hb⟩
  have HB1 := Lib.hid (HB0.out.trans (hb.mono HB0.out.size))
  have HO1 := Lib.hid ho
  have hz : w.heap.size + 1 ≤ w1.heap.size := by have := hb.size; simpa using this
  obtain ⟨k3, bits3, hi3, lo3, text3, more3, sub3, bs3, kids3⟩ := x
  obtain ⟨ab3, nb3, cb3, ak3, nk3, ck3, rfl, -⟩ := hr
  clear ho hb C
  go_wp2_with fail
  go_ret2
  refine ⟨_, rfl, ?_, ?_⟩
  · exact (HO1.out.chg (X := fun _ => False) ((Chg.refl _ _).alloc _) (fun k hk e => e)).mono (by simp)
  · exact HB1.out.alloc (by omega) _

set_option maxRecDepth 100000 in
set_option maxHeartbeats 16000000 in
theorem get_calls (t : T) (w : World) (c : Array Value) (h : RdT w t c) (a : Option Addr) (p : List Int) (n cap : Nat) (S : Nat → Prop) (hp : RdPS S w a p) (hn : p.length = n) (hnb : n ≤ 1000000) (hw : t.wt ≤ 90000) :
    Calls Try.prog 18 #[.agg c, .slice a n cap] w fun e w' => ∃ c', e = .returned (.tuple #[.agg c', .bool (goT t p).isSome]) ∧ RdTS (fun k => w.heap.size ≤ k) w' (goX t p) c' ∧ Below w.heap.size w w' := by
  have C := fun W (hW : Below w.heap.size w W) => Lib.hid ((walk_calls w t W hW c h a p n cap S (hp.keep (KeepS.below hW)) hn hnb).mono fun e w' => walk_shape)
  have hxw := goX_wt t p
  obtain ⟨ok, hok⟩ : ∃ ok, ok = (goT t p).isSome := ⟨_, rfl⟩
  obtain ⟨nm, hnm⟩ : ∃ nm, nm = goN t p := ⟨_, rfl⟩
  obtain ⟨x, hx⟩ : ∃ x, x = goX t p := ⟨_, rfl⟩
  rw [← hok, ← hnm, ← hx] at C
  rw [← hx] at hxw
  rw [← hok, ← hx]
  have CC := fun W cc hr => Lib.hid (copy_all x.wt x (Nat.le_refl _) (by omega) W cc hr)
  clear hok hnm hx hp hn hxw hw
  obtain ⟨k, bits, hi, lo, text, more, sub, bs, kids⟩ := t
  obtain ⟨ab, nb, cb, ak, nk, ck, rfl, -⟩ := h
  have HB0 : Hid (Below w.heap.size w ((w.alloc (.cells (valCells k bits hi lo text more sub ab nb cb ak nk ck) 26)).alloc (.cells (valCells 0 0 0 0 ByteArray.empty ByteArray.empty 0 none 0 0 none 0 0) 26))) := ((Below.refl _ _).alloc (Nat.le_refl _) _).alloc (by simp) _
  go_enter Try.func18, Try.ntmps18
  go_wp2_with fail
  refine (C _ HB0.out).out.mono ?_
  rintro e w1 ⟨c1, v, rfl, hr, ho, hb⟩
  have hBX : BoxV w1 w.heap.size (valCells k bits hi lo text more sub ab nb cb ak nk ck) := ((BoxV.new w _ _).keep ((Below.refl _ _).alloc (Nat.le_refl _) _)).keep hb
  have hBZ : BoxV w1 (w.heap.size + 1) (valCells 0 0 0 0 ByteArray.empty ByteArray.empty 0 none 0 0 none 0 0) := by
    refine BoxV.keep ?_ hb
    rw [show w.heap.size + 1 = (w.alloc (.cells (valCells k bits hi lo text more sub ab nb cb ak nk ck) 26)).heap.size by simp]
    exact BoxV.new _ _ _
  have HB1 := Lib.hid (HB0.out.trans (hb.mono HB0.out.size))
  have HR1 := Lib.hid hr
  have HBX := Lib.hid hBX
  have HBZ := Lib.hid hBZ
  have hz : w.heap.size + 2 ≤ w1.heap.size := by have := hb.size; simpa using this
  obtain ⟨k3, bits3, hi3, lo3, text3, more3, sub3, bs3, kids3⟩ := x
  obtain ⟨ab3, nb3, cb3, ak3, nk3, ck3, rfl, -⟩ := hr
  clear ho hb C hBX hBZ
  have f0 : w1.frozen? ⟨w.heap.size, 0, none⟩ = false := (HBX.out.2 0 (by omega)).2
  have f1 : w1.frozen? ⟨w.heap.size, 1, none⟩ = false := (HBX.out.2 1 (by omega)).2
  have f2 : w1.frozen? ⟨w.heap.size, 2, none⟩ = false := (HBX.out.2 2 (by omega)).2
  have f3 : w1.frozen? ⟨w.heap.size, 3, none⟩ = false := (HBX.out.2 3 (by omega)).2
  have f4 : w1.frozen? ⟨w.heap.size, 4, none⟩ = false := (HBX.out.2 4 (by omega)).2
  have f5 : w1.frozen? ⟨w.heap.size, 5, none⟩ = false := (HBX.out.2 5 (by omega)).2
  have f6 : w1.frozen? ⟨w.heap.size, 6, none⟩ = false := (HBX.out.2 6 (by omega)).2
  have f7 : w1.frozen? ⟨w.heap.size, 7, none⟩ = false := (HBX.out.2 7 (by omega)).2
  have f8 : w1.frozen? ⟨w.heap.size, 8, none⟩ = false := (HBX.out.2 8 (by omega)).2
  have c0 : w1.cell? ⟨w.heap.size, 0, none⟩ = some (.int .i64 k) := (HBX.out.2 0 (by omega)).1
  have c1 : w1.cell? ⟨w.heap.size, 1, none⟩ = some (.int .u64 (bits : Nat)) := (HBX.out.2 1 (by omega)).1
  have c2 : w1.cell? ⟨w.heap.size, 2, none⟩ = some (.int .u64 (hi : Nat)) := (HBX.out.2 2 (by omega)).1
  have c3 : w1.cell? ⟨w.heap.size, 3, none⟩ = some (.int .u64 (lo : Nat)) := (HBX.out.2 3 (by omega)).1
  have c4 : w1.cell? ⟨w.heap.size, 4, none⟩ = some (.string text) := (HBX.out.2 4 (by omega)).1
  have c5 : w1.cell? ⟨w.heap.size, 5, none⟩ = some (.string more) := (HBX.out.2 5 (by omega)).1
  have c6 : w1.cell? ⟨w.heap.size, 6, none⟩ = some (.int .i64 sub) := (HBX.out.2 6 (by omega)).1
  have c7 : w1.cell? ⟨w.heap.size, 7, none⟩ = some (.slice ab nb cb) := (HBX.out.2 7 (by omega)).1
  have c8 : w1.cell? ⟨w.heap.size, 8, none⟩ = some (.slice ak nk ck) := (HBX.out.2 8 (by omega)).1
  have g1 : w.heap.size < w1.heap.size := by omega
  go_wp2_with fail
  refine (CC _ _ ?hR).out.mono ?_
  case hR =>
    refine HR1.out.keep ?_
    (repeat' (first | with_reducible exact HB1.out | with_reducible apply Below.drew | with_reducible refine Below.alloc ?_ (by first | omega | (simp; done) | (simp; omega)) _ | with_reducible refine Below.setCell ?_ (by first | omega | (simp only []; omega)) _))
  rintro e w2 ⟨c5, rfl, hr5, hb5⟩
  have hB2 : Below w.heap.size w w2 := by
    refine Below.trans ?_ (hb5.mono (by first | omega | (simp; omega)))
    (repeat' (first | with_reducible exact HB1.out | with_reducible apply Below.drew | with_reducible refine Below.alloc ?_ (by first | omega | (simp; done) | (simp; omega)) _ | with_reducible refine Below.setCell ?_ (by first | omega | (simp only []; omega)) _))
  have hBZ2 : BoxV w2 (w.heap.size + 1) (valCells 0 0 0 0 ByteArray.empty ByteArray.empty 0 none 0 0 none 0 0) := by
    refine BoxV.keep ?_ hb5
    refine HBZ.out.chg (X := fun k => k = w.heap.size) ?_ (by omega)
    (repeat' (first | with_reducible exact Chg.refl _ _ | with_reducible apply Chg.drew | with_reducible refine Chg.alloc ?_ _ | with_reducible refine Chg.setCell ?_ (fun h => ?_) _))
    all_goals rfl
  have hz2 : w.heap.size + 2 ≤ w2.heap.size := by have := hb5.size; simp at this; omega
  have hr6 := hr5.imp (S' := fun k => w.heap.size + 2 ≤ k) (fun k _ h => by simp at h; omega)
  have HR5 := Lib.hid hr6
  have HB2 := Lib.hid hB2
  have HBZ2 := Lib.hid hBZ2
  obtain ⟨ab5, nb5, cb5, ak5, nk5, ck5, rfl, -⟩ := hr5
  clear hr6 hb5 hB2 hBZ2 f0 f1 f2 f3 f4 f5 f6 f7 f8 c0 c1 c2 c3 c4 c5 c6 c7 c8
  have r0 : w2.frozen? ⟨w.heap.size + 1, 0, none⟩ = false := (HBZ2.out.2 0 (by omega)).2
  have z0 : w2.cell? ⟨w.heap.size + 1, 0, none⟩ = some (.int .i64 0) := (HBZ2.out.2 0 (by omega)).1
  have r1 : w2.frozen? ⟨w.heap.size + 1, 1, none⟩ = false := (HBZ2.out.2 1 (by omega)).2
  have z1 : w2.cell? ⟨w.heap.size + 1, 1, none⟩ = some (.int .u64 0) := (HBZ2.out.2 1 (by omega)).1
  have r2 : w2.frozen? ⟨w.heap.size + 1, 2, none⟩ = false := (HBZ2.out.2 2 (by omega)).2
  have z2 : w2.cell? ⟨w.heap.size + 1, 2, none⟩ = some (.int .u64 0) := (HBZ2.out.2 2 (by omega)).1
  have r3 : w2.frozen? ⟨w.heap.size + 1, 3, none⟩ = false := (HBZ2.out.2 3 (by omega)).2
  have z3 : w2.cell? ⟨w.heap.size + 1, 3, none⟩ = some (.int .u64 0) := (HBZ2.out.2 3 (by omega)).1
  have r4 : w2.frozen? ⟨w.heap.size + 1, 4, none⟩ = false := (HBZ2.out.2 4 (by omega)).2
  have z4 : w2.cell? ⟨w.heap.size + 1, 4, none⟩ = some (.string ByteArray.empty) := (HBZ2.out.2 4 (by omega)).1
  have r5 : w2.frozen? ⟨w.heap.size + 1, 5, none⟩ = false := (HBZ2.out.2 5 (by omega)).2
  have z5 : w2.cell? ⟨w.heap.size + 1, 5, none⟩ = some (.string ByteArray.empty) := (HBZ2.out.2 5 (by omega)).1
  have r6 : w2.frozen? ⟨w.heap.size + 1, 6, none⟩ = false := (HBZ2.out.2 6 (by omega)).2
  have z6 : w2.cell? ⟨w.heap.size + 1, 6, none⟩ = some (.int .i64 0) := (HBZ2.out.2 6 (by omega)).1
  have r7 : w2.frozen? ⟨w.heap.size + 1, 7, none⟩ = false := (HBZ2.out.2 7 (by omega)).2
  have z7 : w2.cell? ⟨w.heap.size + 1, 7, none⟩ = some (.slice none 0 0) := (HBZ2.out.2 7 (by omega)).1
  have r8 : w2.frozen? ⟨w.heap.size + 1, 8, none⟩ = false := (HBZ2.out.2 8 (by omega)).2
  have z8 : w2.cell? ⟨w.heap.size + 1, 8, none⟩ = some (.slice none 0 0) := (HBZ2.out.2 8 (by omega)).1
  have g2 : w.heap.size + 1 < w2.heap.size := by omega
  (repeat (first | go_values | go_skip | go_guarded | go_step | go_upon | (go_simp; go_at_K)))
  refine bodyPost_ret (v := .tuple #[.agg (valCells k3 bits3 hi3 lo3 text3 more3 sub3 ab5 nb5 cb5 ak5 nk5 ck5), .bool ok]) (by simp [results, Try.results18, go_sem, *]) rfl ?_
  refine ⟨_, rfl, ?_, ?_⟩
  · refine RdTS.imp (S := fun k => w.heap.size + 2 ≤ k) (fun k _ h => by omega) (RdTS.keep (KeepS.chg (X := fun k => k = w.heap.size + 1) ?_ (fun k h => by omega)) HR5.out)
    (repeat' (first | with_reducible exact Chg.refl _ _ | with_reducible apply Chg.drew | with_reducible refine Chg.alloc ?_ _ | with_reducible refine Chg.setCell ?_ (fun h => ?_) _))
    all_goals rfl
  · skip
    (repeat' (first | with_reducible exact HB2.out | with_reducible apply Below.drew | with_reducible refine Below.alloc ?_ (by first | omega | (simp; done) | (simp; omega)) _ | with_reducible refine Below.setCell ?_ (by first | omega | (simp only []; omega)) _))

end Go.Proofs.Ytiodjhcjfbnocaa
