/- bin's reader's document: its contract. -/
import Derived.Test.YtkcfkdmffbhljaaBiF
namespace Go.Proofs.Ytkcfkdmffbhljaa
open Go.RowKit
set_option linter.unusedVariables false
set_option linter.unusedSimpArgs false

theorem wp_code_eq' {P : Program} {c c' : Code} {Q : Exit → Act → World → Prop} {a : Act} {w : World} (h : c = c') (hw : c'.wp P Q a w) : c.wp P Q a w := h ▸ hw
theorem djump_weaken {rb b o n c : Nat} {L : List UInt8} {deep p z win how last g : Nat} {w w' : World} {a : Act} {Q : Exit → Act → World → Prop} : ∀ (e : Exit) (a' : Act) (w'' : World),
    JumpTo DL (fun l' a' w'' => DJ rb b o n c L deep p z win how last g w l' a' w'' ∧ dmu last l' a' w'' < dmu last 1 a w') Q e a' w'' → JumpTo DL (DJ rb b o n c L deep p z win how last g w) Q e a' w'' := by
  intro e a' w'' h
  cases e <;> first | exact h | exact ⟨h.1, h.2.1⟩

set_option maxRecDepth 100000 in
set_option maxHeartbeats 16000000 in
theorem dc_step (d : Nat) (hof : ∀ d', d' < d → VlSaid d') : DcSaid d := by
  intro rb b o n c L deep w h p z win how hpz hzn hd hwin hhow
  have hL : L.length = n := h.2.2.1.1
  have hnc : n ≤ c := h.2.2.2.1
  have hnb : n ≤ 1000000 := h.2.2.2.2
  obtain ⟨g, hg⟩ : ∃ g, g = w.heap.size := ⟨_, rfl⟩
  have hrb : rb < g := by rw [hg]; simpa using cell_block h.1
  obtain ⟨wa, hwa⟩ : ∃ W, W = (w.alloc (.cells #[.int .i64 0, .int .i64 0, .slice none 0 0] 34)).alloc (.cells #[.int .i64 0, .int .u64 0, .int .u64 0, .int .u64 0, .string ⟨#[]⟩, .string ⟨#[]⟩, .int .i64 0, .slice none 0 0, .slice none 0 0] 26) := ⟨_, rfl⟩
  have hb0 : Below w.heap.size w (w.alloc (.cells #[.int .i64 0, .int .i64 0, .slice none 0 0] 34)) := (Below.refl _ _).alloc (Nat.le_refl _) _
  have hba : Below w.heap.size w wa := by rw [hwa]; exact hb0.alloc hb0.size _
  have hs0 : (w.alloc (.cells #[.int .i64 0, .int .i64 0, .slice none 0 0] 34)).heap.size = g + 1 := by rw [hg]; simp
  have hxa : BoxV wa (g + 1) (valCells 0 0 0 0 ⟨#[]⟩ ⟨#[]⟩ 0 none 0 0 none 0 0) := by rw [hwa, ← hs0]; exact BoxV.new _ _ _
  have hfa : FBx wa g 0 0 := by
    rw [hwa, hg]
    refine ⟨?_, ?_, ?_, ?_, ?_, ?_, ?_⟩ <;> simp [go_sem]
  have hwz : wa.heap.size = g + 2 := by rw [hwa, hg]; simp
  have HA : Hid (DW rb b o n c L deep g 0 0 (valCells 0 0 0 0 ⟨#[]⟩ ⟨#[]⟩ 0 none 0 0 none 0 0) (.slice none 0 0) .nil w wa) := Lib.hid ⟨h.keep hba, hfa, hxa, OwnK.nil _ _ _, hba, by omega⟩
  have GW : Hid (w.heap.size = g) := hg.symm
  have CW := Lib.hid wrong_calls
  have CL := Lib.hid (fun W (h : BRd W rb b o n c L deep) p hp => length_calls rb b o n c L deep W h p hp)
  have HBB : Hid (∀ i, i < n → b < g) := Lib.hid (fun i hi => by rw [hg]; simpa using cell_block (h.at i hi))
  obtain ⟨N, hN⟩ : ∃ N, N = len4 L p := ⟨_, rfl⟩
  have HN := Lib.hid hN
  have hNb : -2147483648 ≤ N ∧ N < 2147483648 := by
    rw [hN]; unfold len4
    have := le_seg_lt L p 4
    split <;> omega
  have e1 : IntKind.i64.wrap ((z : Int) - (p : Int)) = (z : Int) - (p : Int) := IntWalk.i64_in _ (by omega)
  have e2 : IntKind.i64.wrap ((p : Int) + 4) = ((p + 4 : Nat) : Int) := (IntWalk.i64_in _ (by omega)).trans (by omega)
  have e3 : IntKind.i64.wrap ((p : Int) + N) = (p : Int) + N := IntWalk.i64_in _ (by omega)
  obtain ⟨r0, r1, -⟩ := HA.out.1
  obtain ⟨z0, z1, z2, q0, q1, q2, hg1⟩ := hfa
  clear hb0 hba hs0 hxa hwz h
  by_cases h1 : deep ≤ win
  · have HX : Hid (Q L deep (.doc p z win how) (.bad 8 p)) := .doc_bad (by unfold docH; rw [if_pos h1])
    have d1 : decide ((deep : Int) ≤ (win : Int)) = true := by simpa using h1
    clear hN
    go_enter Try.func35, Try.ntmps35
    go_wp2_with fail
    refine wp_scope_many DL drest (fun _ _ _ => False) (fun _ _ _ => 0) (fun l hl => by rcases hl with rfl | rfl <;> rfl) ?first (fun l a w' hl hJ => hJ.elim)
    case first =>
      go_upto_region 5 with fail
      rw [← hwa, ← hg]
      clear hwa hg
      have gw := GW.out
      go_wp2_with fail
      refine (CW.out _ _ _).mono ?_
      rintro e w7 ⟨rfl, hb7⟩
      have H7 := Lib.hid (HA.out.keep hb7)
      clear hb7
      clear z0 z1 z2 q0 q1 q2 hg1 r0 r1
      obtain ⟨r0, r1, -⟩ := H7.out.1
      obtain ⟨z0, z1, z2, q0, q1, q2, hg1⟩ := H7.out.2.1
      go_wp2_with fail
      simp only [JumpTo]
      refine bodyPost_ret (v := .tuple #[.slice none 0 0, .int .i64 0, fltV (8) (p)]) (by simp [results, Try.results35, go_sem, *]) rfl ?_
      refine ⟨_, HX.out, rfl, ?_⟩
      have hfin := H7.out.2.2.2.2.1
      (repeat' (first | with_reducible exact hfin | with_reducible refine Below.setCell ?_ (by exact Nat.le_of_eq gw) _))
  have d1 : decide ((deep : Int) ≤ (win : Int)) = false := by simp; omega
  by_cases h2 : z < p + 4
  · have HX : Hid (Q L deep (.doc p z win how) (.bad 2 p)) := .doc_bad (by unfold docH; rw [if_neg h1, if_pos h2])
    have d2 : decide ((z : Int) - (p : Int) < 4) = true := by simp; omega
    clear hN
    go_enter Try.func35, Try.ntmps35
    go_wp2_with fail
    refine wp_scope_many DL drest (fun _ _ _ => False) (fun _ _ _ => 0) (fun l hl => by rcases hl with rfl | rfl <;> rfl) ?first (fun l a w' hl hJ => hJ.elim)
    case first =>
      go_upto_region 5 with fail
      rw [← hwa, ← hg]
      clear hwa hg
      have gw := GW.out
      go_wp2_with fail
      refine (CW.out _ _ _).mono ?_
      rintro e w7 ⟨rfl, hb7⟩
      have H7 := Lib.hid (HA.out.keep hb7)
      clear hb7
      clear z0 z1 z2 q0 q1 q2 hg1 r0 r1
      obtain ⟨r0, r1, -⟩ := H7.out.1
      obtain ⟨z0, z1, z2, q0, q1, q2, hg1⟩ := H7.out.2.1
      go_wp2_with fail
      simp only [JumpTo]
      refine bodyPost_ret (v := .tuple #[.slice none 0 0, .int .i64 0, fltV (2) (p)]) (by simp [results, Try.results35, go_sem, *]) rfl ?_
      refine ⟨_, HX.out, rfl, ?_⟩
      have hfin := H7.out.2.2.2.2.1
      (repeat' (first | with_reducible exact hfin | with_reducible refine Below.setCell ?_ (by exact Nat.le_of_eq gw) _))
  have d2 : decide ((z : Int) - (p : Int) < 4) = false := by simp; omega
  have hbg := HBB.out p (by omega)
  by_cases h3 : N < 5
  · have HX : Hid (Q L deep (.doc p z win how) (.bad 6 p)) := .doc_bad (by unfold docH; rw [if_neg h1, if_neg h2, if_pos (.inl (by rw [← hN]; exact h3))])
    have d3 : decide (N < 5) = true := by simpa using h3
    clear hN
    go_enter Try.func35, Try.ntmps35
    go_wp2_with fail
    refine wp_scope_many DL drest (fun _ _ _ => False) (fun _ _ _ => 0) (fun l hl => by rcases hl with rfl | rfl <;> rfl) ?first (fun l a w' hl hJ => hJ.elim)
    case first =>
      go_upto_region 5 with fail
      rw [← hwa, ← hg]
      clear hwa hg
      have gw := GW.out
      go_wp2_with fail
      refine (CL.out _ HA.out.1 p (by omega)).mono ?_
      rintro e w1 ⟨rfl, hb1⟩
      have H1 := Lib.hid (HA.out.keep hb1)
      clear hb1
      rw [← HN.out]
      clear z0 z1 z2 q0 q1 q2 hg1 r0 r1
      obtain ⟨r0, r1, -⟩ := H1.out.1
      obtain ⟨z0, z1, z2, q0, q1, q2, hg1⟩ := H1.out.2.1
      go_wp2_with fail
      refine (CW.out _ _ _).mono ?_
      rintro e w7 ⟨rfl, hb7⟩
      have H7 := Lib.hid (H1.out.keep hb7)
      clear hb7
      clear z0 z1 z2 q0 q1 q2 hg1 r0 r1
      obtain ⟨r0, r1, -⟩ := H7.out.1
      obtain ⟨z0, z1, z2, q0, q1, q2, hg1⟩ := H7.out.2.1
      go_wp2_with fail
      simp only [JumpTo]
      refine bodyPost_ret (v := .tuple #[.slice none 0 0, .int .i64 0, fltV (6) (p)]) (by simp [results, Try.results35, go_sem, *]) rfl ?_
      refine ⟨_, HX.out, rfl, ?_⟩
      have hfin := H7.out.2.2.2.2.1
      (repeat' (first | with_reducible exact hfin | with_reducible refine Below.setCell ?_ (by exact Nat.le_of_eq gw) _))
  have d3 : decide (N < 5) = false := by simp; omega
  by_cases h4 : (z : Int) - p < N
  · have HX : Hid (Q L deep (.doc p z win how) (.bad 6 p)) := .doc_bad (by unfold docH; rw [if_neg h1, if_neg h2, if_pos (.inr (.inl (by rw [← hN]; exact h4)))])
    have d4 : decide ((z : Int) - (p : Int) < N) = true := by simpa using h4
    clear hN
    go_enter Try.func35, Try.ntmps35
    go_wp2_with fail
    refine wp_scope_many DL drest (fun _ _ _ => False) (fun _ _ _ => 0) (fun l hl => by rcases hl with rfl | rfl <;> rfl) ?first (fun l a w' hl hJ => hJ.elim)
    case first =>
      go_upto_region 5 with fail
      rw [← hwa, ← hg]
      clear hwa hg
      have gw := GW.out
      go_wp2_with fail
      refine (CL.out _ HA.out.1 p (by omega)).mono ?_
      rintro e w1 ⟨rfl, hb1⟩
      have H1 := Lib.hid (HA.out.keep hb1)
      clear hb1
      rw [← HN.out]
      clear z0 z1 z2 q0 q1 q2 hg1 r0 r1
      obtain ⟨r0, r1, -⟩ := H1.out.1
      obtain ⟨z0, z1, z2, q0, q1, q2, hg1⟩ := H1.out.2.1
      go_wp2_with fail
      refine (CW.out _ _ _).mono ?_
      rintro e w7 ⟨rfl, hb7⟩
      have H7 := Lib.hid (H1.out.keep hb7)
      clear hb7
      clear z0 z1 z2 q0 q1 q2 hg1 r0 r1
      obtain ⟨r0, r1, -⟩ := H7.out.1
      obtain ⟨z0, z1, z2, q0, q1, q2, hg1⟩ := H7.out.2.1
      go_wp2_with fail
      simp only [JumpTo]
      refine bodyPost_ret (v := .tuple #[.slice none 0 0, .int .i64 0, fltV (6) (p)]) (by simp [results, Try.results35, go_sem, *]) rfl ?_
      refine ⟨_, HX.out, rfl, ?_⟩
      have hfin := H7.out.2.2.2.2.1
      (repeat' (first | with_reducible exact hfin | with_reducible refine Below.setCell ?_ (by exact Nat.le_of_eq gw) _))
  have d4 : decide ((z : Int) - (p : Int) < N) = false := by simp; omega
  by_cases h5 : how = 2 ∧ (p : Int) + N ≠ z
  · have HX : Hid (Q L deep (.doc p z win how) (.bad 6 p)) := .doc_bad (by unfold docH; rw [if_neg h1, if_neg h2, if_pos (.inr (.inr (by rw [← hN]; exact h5)))])
    obtain ⟨rfl, h5⟩ := h5
    have d5 : ((p : Int) + N != (z : Int)) = true := by simpa using h5
    clear hN
    go_enter Try.func35, Try.ntmps35
    go_wp2_with fail
    refine wp_scope_many DL drest (fun _ _ _ => False) (fun _ _ _ => 0) (fun l hl => by rcases hl with rfl | rfl <;> rfl) ?first (fun l a w' hl hJ => hJ.elim)
    case first =>
      go_upto_region 5 with fail
      rw [← hwa, ← hg]
      clear hwa hg
      have gw := GW.out
      go_wp2_with fail
      refine (CL.out _ HA.out.1 p (by omega)).mono ?_
      rintro e w1 ⟨rfl, hb1⟩
      have H1 := Lib.hid (HA.out.keep hb1)
      clear hb1
      rw [← HN.out]
      clear z0 z1 z2 q0 q1 q2 hg1 r0 r1
      obtain ⟨r0, r1, -⟩ := H1.out.1
      obtain ⟨z0, z1, z2, q0, q1, q2, hg1⟩ := H1.out.2.1
      go_wp2_with fail
      refine (CW.out _ _ _).mono ?_
      rintro e w7 ⟨rfl, hb7⟩
      have H7 := Lib.hid (H1.out.keep hb7)
      clear hb7
      clear z0 z1 z2 q0 q1 q2 hg1 r0 r1
      obtain ⟨r0, r1, -⟩ := H7.out.1
      obtain ⟨z0, z1, z2, q0, q1, q2, hg1⟩ := H7.out.2.1
      go_wp2_with fail
      simp only [JumpTo]
      refine bodyPost_ret (v := .tuple #[.slice none 0 0, .int .i64 0, fltV (6) (p)]) (by simp [results, Try.results35, go_sem, *]) rfl ?_
      refine ⟨_, HX.out, rfl, ?_⟩
      have hfin := H7.out.2.2.2.2.1
      (repeat' (first | with_reducible exact hfin | with_reducible refine Below.setCell ?_ (by exact Nat.le_of_eq gw) _))
  by_cases h6 : how = 1 ∧ (p : Int) + N < z
  · obtain ⟨rfl, h6⟩ := h6
    obtain ⟨en, hen⟩ : ∃ x : Nat, x = p + N.toNat := ⟨_, rfl⟩
    have e4 : (p : Int) + N = (en : Int) := by omega
    have HX : Hid (Q L deep (.doc p z win 1) (.bad 7 en)) := .doc_bad (by unfold docH; rw [if_neg h1, if_neg h2, if_neg (by rw [← hN]; omega), if_pos ⟨rfl, by rw [← hN]; exact h6⟩, ← hN, hen])
    rw [e4] at e3 h6
    have d6 : decide ((en : Int) < (z : Int)) = true := by simpa using h6
    have h6n : en < z := by omega
    clear h6 hN hen
    go_enter Try.func35, Try.ntmps35
    go_wp2_with fail
    refine wp_scope_many DL drest (fun _ _ _ => False) (fun _ _ _ => 0) (fun l hl => by rcases hl with rfl | rfl <;> rfl) ?first (fun l a w' hl hJ => hJ.elim)
    case first =>
      go_upto_region 5 with fail
      rw [← hwa, ← hg]
      clear hwa hg
      have gw := GW.out
      go_wp2_with fail
      refine (CL.out _ HA.out.1 p (by omega)).mono ?_
      rintro e w1 ⟨rfl, hb1⟩
      have H1 := Lib.hid (HA.out.keep hb1)
      clear hb1
      rw [← HN.out]
      clear z0 z1 z2 q0 q1 q2 hg1 r0 r1
      obtain ⟨r0, r1, -⟩ := H1.out.1
      obtain ⟨z0, z1, z2, q0, q1, q2, hg1⟩ := H1.out.2.1
      go_wp2_with fail
      refine (CW.out _ _ _).mono ?_
      rintro e w7 ⟨rfl, hb7⟩
      have H7 := Lib.hid (H1.out.keep hb7)
      clear hb7
      clear z0 z1 z2 q0 q1 q2 hg1 r0 r1
      obtain ⟨r0, r1, -⟩ := H7.out.1
      obtain ⟨z0, z1, z2, q0, q1, q2, hg1⟩ := H7.out.2.1
      go_wp2_with fail
      simp only [JumpTo]
      refine bodyPost_ret (v := .tuple #[.slice none 0 0, .int .i64 0, fltV (7) (en)]) (by simp [results, Try.results35, go_sem, *]) rfl ?_
      refine ⟨_, HX.out, rfl, ?_⟩
      have hfin := H7.out.2.2.2.2.1
      (repeat' (first | with_reducible exact hfin | with_reducible refine Below.setCell ?_ (by exact Nat.le_of_eq gw) _))
  obtain ⟨last, hlast⟩ : ∃ x : Nat, x = p + N.toNat - 1 := ⟨_, rfl⟩
  have e4 : (p : Int) + N = (last : Int) + 1 := by omega
  have hgo : Hid (∀ r, Q L deep (.els (p + 4) last win) r → Q L deep (.doc p z win how) (preF .nil r)) := Lib.hid (fun r hr => by
    rw [preF_nil]
    exact .doc_go (by unfold docH; rw [if_neg h1, if_neg h2, if_neg (by rw [← hN]; omega), if_neg (by rw [← hN]; omega), ← hN, hlast]) hr)
  rw [e4] at e3 h5 h6
  have HV := Lib.hid (hof (d - 1) (by omega))
  have hlz : last < z := by omega
  have hl4 : p + 4 ≤ last := by omega
  have hw2 : win + (last - p) ≤ 2000000 := by omega
  clear hN hlast
  have hcs : (how = 0 ∨ ((how = 1 ∨ how = 2) ∧ z = last + 1)) := by omega
  clear h5 h6
  have hgz : z ≤ n := hzn
  rcases hcs with rfl | ⟨rfl | rfl, rfl⟩
  · skip
    go_enter Try.func35, Try.ntmps35
    go_wp2_with fail
    refine wp_scope_many DL drest (DJ rb b o n c L deep p z win 0 last g w) (dmu last) (fun l hl => by rcases hl with rfl | rfl <;> rfl) ?first (fun l a w' hl hJ => by
      rcases hl with rfl | rfl
      · rw [drest_last]; exact wp_seq (wp_skip (dpass0 rb b o n c L deep p z win 0 last g (by omega) w a w' hJ _))
      · rw [drest_next]; exact wp_seq (wp_skip (dpass1 rb b o n c L deep p z win 0 last g (by omega) hw2 (d - 1) HV.out (by omega) w a w' hJ)))
    case first =>
      go_upto_region 5 with fail
      rw [← hwa, ← hg]
      clear hwa hg
      have gw := GW.out
      go_wp2_with fail
      refine (CL.out _ HA.out.1 p (by omega)).mono ?_
      rintro e w1 ⟨rfl, hb1⟩
      have H1 := Lib.hid (HA.out.keep hb1)
      clear hb1
      rw [← HN.out]
      clear z0 z1 z2 q0 q1 q2 hg1 r0 r1
      obtain ⟨r0, r1, -⟩ := H1.out.1
      obtain ⟨z0, z1, z2, q0, q1, q2, hg1⟩ := H1.out.2.1
      go_wp2_with fail
      rename_i K hK
      go_step3
      refine hK _ _ (wp_code_eq' (c' := dnext) (by kernel_rfl) (Code.wp_mono djump_weaken (dpass1 rb b o n c L deep p z win 0 last g (by omega) hw2 (d - 1) HV.out (by omega) w _ _ ?_)))
      exact ⟨_, p + 4, .nil, .slice none 0 0, _, DFr.of _ rfl, ⟨rfl, rfl, rfl, rfl, rfl, rfl, rfl, H1.out.1, H1.out.2.1, H1.out.2.2.1, ⟨_, _, _, _, _, _, _, _, _, _, _, _, _, rfl⟩, H1.out.2.2.2.1, by simp [F.len], Nat.le_refl _, hl4, hgo.out, H1.out.2.2.2.2.1, ⟨hrb, hbg⟩, H1.out.2.2.2.2.2, gw⟩⟩
  · skip
    go_enter Try.func35, Try.ntmps35
    go_wp2_with fail
    refine wp_scope_many DL drest (DJ rb b o n c L deep p (last + 1) win 1 last g w) (dmu last) (fun l hl => by rcases hl with rfl | rfl <;> rfl) ?first (fun l a w' hl hJ => by
      rcases hl with rfl | rfl
      · rw [drest_last]; exact wp_seq (wp_skip (dpass0 rb b o n c L deep p (last + 1) win 1 last g (by omega) w a w' hJ _))
      · rw [drest_next]; exact wp_seq (wp_skip (dpass1 rb b o n c L deep p (last + 1) win 1 last g (by omega) hw2 (d - 1) HV.out (by omega) w a w' hJ)))
    case first =>
      go_upto_region 5 with fail
      rw [← hwa, ← hg]
      clear hwa hg
      have gw := GW.out
      go_wp2_with fail
      refine (CL.out _ HA.out.1 p (by omega)).mono ?_
      rintro e w1 ⟨rfl, hb1⟩
      have H1 := Lib.hid (HA.out.keep hb1)
      clear hb1
      rw [← HN.out]
      clear z0 z1 z2 q0 q1 q2 hg1 r0 r1
      obtain ⟨r0, r1, -⟩ := H1.out.1
      obtain ⟨z0, z1, z2, q0, q1, q2, hg1⟩ := H1.out.2.1
      go_wp2_with fail
      rename_i K hK
      go_step3
      refine hK _ _ (wp_code_eq' (c' := dnext) (by kernel_rfl) (Code.wp_mono djump_weaken (dpass1 rb b o n c L deep p (last + 1) win 1 last g (by omega) hw2 (d - 1) HV.out (by omega) w _ _ ?_)))
      exact ⟨_, p + 4, .nil, .slice none 0 0, _, DFr.of _ rfl, ⟨rfl, rfl, rfl, rfl, rfl, rfl, rfl, H1.out.1, H1.out.2.1, H1.out.2.2.1, ⟨_, _, _, _, _, _, _, _, _, _, _, _, _, rfl⟩, H1.out.2.2.2.1, by simp [F.len], Nat.le_refl _, hl4, hgo.out, H1.out.2.2.2.2.1, ⟨hrb, hbg⟩, H1.out.2.2.2.2.2, gw⟩⟩
  · skip
    go_enter Try.func35, Try.ntmps35
    go_wp2_with fail
    refine wp_scope_many DL drest (DJ rb b o n c L deep p (last + 1) win 2 last g w) (dmu last) (fun l hl => by rcases hl with rfl | rfl <;> rfl) ?first (fun l a w' hl hJ => by
      rcases hl with rfl | rfl
      · rw [drest_last]; exact wp_seq (wp_skip (dpass0 rb b o n c L deep p (last + 1) win 2 last g (by omega) w a w' hJ _))
      · rw [drest_next]; exact wp_seq (wp_skip (dpass1 rb b o n c L deep p (last + 1) win 2 last g (by omega) hw2 (d - 1) HV.out (by omega) w a w' hJ)))
    case first =>
      go_upto_region 5 with fail
      rw [← hwa, ← hg]
      clear hwa hg
      have gw := GW.out
      go_wp2_with fail
      refine (CL.out _ HA.out.1 p (by omega)).mono ?_
      rintro e w1 ⟨rfl, hb1⟩
      have H1 := Lib.hid (HA.out.keep hb1)
      clear hb1
      rw [← HN.out]
      clear z0 z1 z2 q0 q1 q2 hg1 r0 r1
      obtain ⟨r0, r1, -⟩ := H1.out.1
      obtain ⟨z0, z1, z2, q0, q1, q2, hg1⟩ := H1.out.2.1
      go_wp2_with fail
      rename_i K hK
      go_step3
      refine hK _ _ (wp_code_eq' (c' := dnext) (by kernel_rfl) (Code.wp_mono djump_weaken (dpass1 rb b o n c L deep p (last + 1) win 2 last g (by omega) hw2 (d - 1) HV.out (by omega) w _ _ ?_)))
      exact ⟨_, p + 4, .nil, .slice none 0 0, _, DFr.of _ rfl, ⟨rfl, rfl, rfl, rfl, rfl, rfl, rfl, H1.out.1, H1.out.2.1, H1.out.2.2.1, ⟨_, _, _, _, _, _, _, _, _, _, _, _, _, rfl⟩, H1.out.2.2.2.1, by simp [F.len], Nat.le_refl _, hl4, hgo.out, H1.out.2.2.2.2.1, ⟨hrb, hbg⟩, H1.out.2.2.2.2.2, gw⟩⟩

end Go.Proofs.Ytkcfkdmffbhljaa
