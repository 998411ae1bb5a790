/- The statements' own look. -/
import Derived.Test.YthahhjmgjlkmfaaCur6
import Derived.Test.YthahhjmgjlkmfaaStr
namespace Go.Proofs.Ythahhjmgjlkmfaa
open Go.RowKit
set_option linter.unusedVariables false
set_option linter.unusedSimpArgs false

theorem rd12 (w : World) (g : Nat) (hg : g = w.heap.size) : RdB (w.alloc (.cells #[.int .u8 1, .int .u8 2] 5)) (some ⟨g, 0, none⟩) 2 [1, 2] := by
  subst hg
  refine ⟨rfl, by omega, fun i hi => ⟨_, _, rfl, ?_⟩⟩
  match i, hi with
  | 0, _ | 1, _ => simp [bAt]

theorem txt_list (l : List UInt8) : (txt l).toList = l := by rw [ByteArray.toList_eq]; rfl

set_option maxRecDepth 100000 in
set_option maxHeartbeats 1000000 in
theorem awake1 (w : World) : Calls Try.prog 11 #[] w fun e w' => e = .returned (.bool true) ∧ Below w.heap.size w w' := by
  go_enter Try.func11, Try.ntmps11
  go_wp2_with fail
  refine (new_calls _ 2 2 _ _ (rd12 w _ rfl) (by simp) (by omega)).mono ?_
  rintro e w1 ⟨r1, rfl, hr1, hb1, hs1⟩
  go_wp2_with fail
  refine (rlow_yes r1 0 _ _ hr1 2 (by omega) (by omega) (by decide)).mono ?_
  rintro e w2 ⟨rfl, hr2, hc2⟩
  have B2 : Below w.heap.size w w2 := (((Below.refl w.heap.size w).alloc (Nat.le_refl _) _).trans (hb1.mono (by simp))).trans (hc2.below (by have := hb1.size; simp at this; omega) (by rintro i rfl; simp at hs1; omega))
  have H2 := Lib.hid B2
  have v2 : Hid (le (seg [1, 2] 0 2) = 513) := by show _ = _; decide
  rw [v2.out]
  clear hr1 hr2 hc2 hb1 hs1 B2
  go_wp2_with fail
  refine (new_calls _ 2 2 _ _ (rd12 w2 _ rfl) (by simp) (by omega)).mono ?_
  rintro e w3 ⟨r3, rfl, hr3, hb3, hs3⟩
  go_wp2_with fail
  refine (rhigh_yes r3 0 _ _ hr3 2 (by omega) (by omega) (by decide)).mono ?_
  rintro e w4 ⟨rfl, hr4, hc4⟩
  have B4 : Below w2.heap.size w2 w4 := (((Below.refl w2.heap.size w2).alloc (Nat.le_refl _) _).trans (hb3.mono (by simp))).trans (hc4.below (by have := hb3.size; simp at this; omega) (by rintro i rfl; simp at hs3; omega))
  have H4 := Lib.hid (H2.out.trans (B4.mono H2.out.size))
  have v4 : Hid (be (seg [1, 2] 0 2) = 258) := by show _ = _; decide
  rw [v4.out]
  clear hr3 hr4 hc4 hb3 hs3 B4
  go_wp2_with fail
  refine (lay_calls _).mono ?_
  rintro e w5 ⟨g, rfl, hw5, hb5, hg5⟩
  have H5 := Lib.hid (H4.out.trans (hb5.mono H4.out.size))
  have HW5 := Lib.hid hw5
  have hgs : w.heap.size ≤ g := Nat.le_trans H4.out.size hg5
  have hs5 := hb5.size
  clear hw5 hb5 hg5
  go_wp2_with fail
  refine (whigh_yes g _ _ _ _ HW5.out hs5 (by simp) 258 2 (by unfold okSize; omega) (by omega) (by omega)).mono ?_
  rintro e w6 ⟨rfl, v6, hw6, hc6, hv6⟩
  have H6 := Lib.hid (H5.out.trans (hc6.below H5.out.size (by rintro i (rfl | h); exact hgs; simp [Value.ownBlock] at h)))
  have hs6 := H6.out.size
  have HW6 := Lib.hid hw6
  clear hw6 hc6 hv6
  go_wp2_with fail
  refine (wbytes_calls g _ _ _ _ HW6.out (by decide)).mono ?_
  rintro e w7 ⟨v7, rfl, ho7, hb7⟩
  obtain ⟨a7, c7, hve, hr7⟩ := ho7.reads
  have hcv := conv_str hr7 c7
  have e7 : Hid ([] ++ (leBytes 2 258).reverse = [1, 2]) := by show _ = _; decide
  rw [e7.out] at hcv hve
  change (convert 22 9 (.slice a7 2 c7)).run Try.prog w7 = _ at hcv
  rw [hve]
  have hx : ((txt [1, 2]).toList == [1, 2]) = true := by rw [txt_list]; rfl
  clear ho7 hr7 hve
  go_wp2_with fail
  go_ret
  refine ⟨rfl, H6.out.trans (hb7.mono hs6)⟩

end Go.Proofs.Ythahhjmgjlkmfaa
