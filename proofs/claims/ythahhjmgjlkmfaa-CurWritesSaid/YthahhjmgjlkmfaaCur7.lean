/- The Reader: Take of nothing. -/
import Derived.Test.YthahhjmgjlkmfaaCur2
import Derived.Deep.RegionHeld3
namespace Go.Proofs.Ythahhjmgjlkmfaa
open Go.RowKit
set_option linter.unusedVariables false
set_option linter.unusedSimpArgs false

theorem rdr_stay {w : World} {r : Nat} {bs : List UInt8} {p : Nat} (h : Rdr w r bs p) (a b : Nat) :
    Rdr (((w.drewN a).setCell ⟨r, 1, none⟩ (.int .i64 (p : Nat))).drewN b) r bs p ∧ Chg (fun k => k = r) w (((w.drewN a).setCell ⟨r, 1, none⟩ (.int .i64 (p : Nat))).drewN b) :=
  rdr_step h p a b (by obtain ⟨_, _, _, _, _, _, _, _, h7, _⟩ := h; exact h7) _ rfl

set_option maxRecDepth 100000 in
set_option maxHeartbeats 1000000 in
theorem rtake_zero (r p : Nat) (bs : List UInt8) (w : World) (h : Rdr w r bs p) :
    Calls Try.prog 14 #[.pointer (some ⟨r, 0, none⟩), .int .i64 0] w (TakePost w r bs p 0) := by
  have C := Lib.hid (rleft_calls r p bs w h)
  have H := Lib.hid h
  have hst := fun nd a => rdr_stay h nd a
  have HST := Lib.hid hst
  obtain ⟨a, cap, f1, f2, f3, f4, f5, f6, f7, f8, f9⟩ := h
  clear f4 hst
  have hs0 : seg bs p 0 = [] := by simp [seg]
  generalize bs.length = m at f1 f7 f8 f9 C
  cases a with
  | none =>
    have hc := f6 rfl
    subst hc
    have hm : m = 0 := by omega
    subst hm
    have hp : p = 0 := by omega
    subst hp
    go_enter Try.func14, Try.ntmps14
    go_wp2_with (go_at_call 20; refine C.out.mono ?_; rintro e w' ⟨rfl, nd, rfl⟩)
    have f1' : ((w.drewN nd).setCell ⟨r, 1, none⟩ (.int .i64 0)).cell? ⟨r, 0, none⟩ = some (.slice none 0 0) := by simp [go_sem, f1]
    have f2' : ((w.drewN nd).setCell ⟨r, 1, none⟩ (.int .i64 0)).cell? ⟨r, 1, none⟩ = some (.int .i64 0) := World.cell?_setCell_same _ _ _ (u := .int .i64 0) (by exact f2)
    go_region_with ((go_at_call 42; refine (clone_nil _).mono ?_; rintro e w' ⟨rfl, rfl⟩))
    all_goals
      go_wp2
      go_ret2
      exact ⟨_, rfl, hs0 ▸ World.ownsRow_nil _ _ _ _, (HST.out nd 1).1, (HST.out nd 1).2⟩
  | some ad =>
    have i9 : cap = p ∨ ¬ cap = p := by omega
    rcases i9 with hcp | hcp
    · subst hcp
      go_enter Try.func14, Try.ntmps14
      go_wp2_with (go_at_call 20; refine C.out.mono ?_; rintro e w' ⟨rfl, nd, rfl⟩)
      have f1' : ((w.drewN nd).setCell ⟨r, 1, none⟩ (.int .i64 (cap : Nat))).cell? ⟨r, 0, none⟩ = some (.slice (some ad) m cap) := by simp [go_sem, f1]
      have f2' : ((w.drewN nd).setCell ⟨r, 1, none⟩ (.int .i64 (cap : Nat))).cell? ⟨r, 1, none⟩ = some (.int .i64 (cap : Nat)) := World.cell?_setCell_same _ _ _ (u := .int .i64 (cap : Nat)) (by exact f2)
      have i0 : (0 : Int) ≤ (cap : Int) := by omega
      have i2 : (cap : Int) ≤ (cap : Int) := by omega
      have i5 : cap ≤ cap := by omega
      have q0 : IntKind.i64.wrap (cap : Int) = (cap : Int) := IntWalk.i64_in _ (by omega)
      go_region_held3 (fun w' => w'.cell? ⟨r, 0, none⟩ = some (.slice (some ad) m cap) ∧ w'.cell? ⟨r, 1, none⟩ = some (.int .i64 (cap : Nat))) (first | go_keep | ((repeat' apply And.intro) <;> (refine cell_below ‹Below _ _ _› ?_; simp [*]))) ((go_at_call 42; refine (clone_calls _ _ _ [] _ ?_ (by simp) (by omega)).mono ?_; (first | exact RdB.nil _ _ | (simp only [Int.toNat_natCast, Nat.sub_self]; exact RdB.nil _ _)); rintro e w' ⟨v, rfl, hown, hb⟩))
      go_wp2
      go_ret2
      exact ⟨v, rfl, hs0 ▸ hown.weaken (by simp), (HST.out nd 1).1.keep hb, (HST.out nd 1).2.trans (Chg.of_below (S := fun _ => False) hb) (fun _ _ h => h.elim)⟩
    · go_enter Try.func14, Try.ntmps14
      go_wp2_with (go_at_call 20; refine C.out.mono ?_; rintro e w' ⟨rfl, nd, rfl⟩)
      have f1' : ((w.drewN nd).setCell ⟨r, 1, none⟩ (.int .i64 (p : Nat))).cell? ⟨r, 0, none⟩ = some (.slice (some ad) m cap) := by simp [go_sem, f1]
      have f2' : ((w.drewN nd).setCell ⟨r, 1, none⟩ (.int .i64 (p : Nat))).cell? ⟨r, 1, none⟩ = some (.int .i64 (p : Nat)) := World.cell?_setCell_same _ _ _ (u := .int .i64 (p : Nat)) (by exact f2)
      have i0 : (0 : Int) ≤ (p : Int) := by omega
      have i2 : (p : Int) ≤ (cap : Int) := by omega
      have i5 : p ≤ cap := by omega
      have q0 : IntKind.i64.wrap (p : Int) = (p : Int) := IntWalk.i64_in _ (by omega)
      go_region_held3 (fun w' => w'.cell? ⟨r, 0, none⟩ = some (.slice (some ad) m cap) ∧ w'.cell? ⟨r, 1, none⟩ = some (.int .i64 (p : Nat))) (first | go_keep | ((repeat' apply And.intro) <;> (refine cell_below ‹Below _ _ _› ?_; simp [*]))) ((go_at_call 42; refine (clone_calls _ _ _ [] _ ?_ (by simp) (by omega)).mono ?_; (first | exact RdB.nil _ _ | (simp only [Int.toNat_natCast, Nat.sub_self]; exact RdB.nil _ _)); rintro e w' ⟨v, rfl, hown, hb⟩))
      go_wp2
      go_ret2
      exact ⟨v, rfl, hs0 ▸ hown.weaken (by simp), (HST.out nd 1).1.keep hb, (HST.out nd 1).2.trans (Chg.of_below (S := fun _ => False) hb) (fun _ _ h => h.elim)⟩

end Go.Proofs.Ythahhjmgjlkmfaa
