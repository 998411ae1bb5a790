/- bin's reader: a code and its scope. -/
import Derived.Test.YtkcfkdmffbhljaaBiC0
import Derived.Deep.CutRange
namespace Go.Proofs.Ytkcfkdmffbhljaa
open Go.RowKit
set_option linter.unusedVariables false
set_option linter.unusedSimpArgs false

theorem FBx.set3 {W : World} {g e a : Nat} (h : FBx W g e a) (e' a' : Nat) : FBx (((W.setCell ⟨g, 0, none⟩ (.int .i64 (e' : Nat))).setCell ⟨g, 1, none⟩ (.int .i64 (a' : Nat))).setCell ⟨g, 2, none⟩ (.slice none 0 0)) g e' a' := by
  obtain ⟨h0, h1, h2, f0, f1, f2, hg⟩ := h
  refine ⟨?_, ?_, ?_, ?_, ?_, ?_, ?_⟩ <;> simp [go_sem, *]
theorem FBx.newOne (w : World) (e a : Nat) (g : Nat) (hg : g = w.heap.size) (ty : TypeId) : FBx (w.alloc (.cells #[.int .i64 (e : Nat), .int .i64 (a : Nat), .slice none 0 0] ty)) g e a := by
  subst hg
  refine ⟨?_, ?_, ?_, ?_, ?_, ?_, ?_⟩ <;> simp [go_sem]
theorem textQ_len2 {b : List UInt8} {q z n : Nat} {s : List UInt8} (h : textQ b q z = .ok (s, n)) : s.length ≤ b.length := by
  unfold textQ at h
  (repeat' split at h) <;> simp at h
  obtain ⟨rfl, _⟩ := h
  unfold seg
  simp
  omega

/-- A scope's end behind its text. -/
def scoTo (R : Except (Nat × Nat) (List UInt8 × Nat)) (zz : Nat) : Except (Nat × Nat) (List UInt8 × Nat × Nat) := match R with
  | .error e => .error e
  | .ok (s, n) => .ok (s, n, zz)

set_option maxRecDepth 100000 in
set_option maxHeartbeats 16000000 in
theorem sc_step (d : Nat) (hof : DcSaid d) : ScSaid d := by
  intro rb b o n c L deep w h q z win hq hz hd hw
  obtain ⟨wa, hwa⟩ : ∃ W, W = w.alloc (.cells #[.int .i64 0, .int .i64 0, .slice none 0 0] 34) := ⟨_, rfl⟩
  have hba : Below w.heap.size w wa := by rw [hwa]; exact (Below.refl _ _).alloc (Nat.le_refl _) _
  have HBA := Lib.hid hba
  obtain ⟨g, hg⟩ : ∃ g, g = w.heap.size := ⟨_, rfl⟩
  have hfb : FBx wa g 0 0 := by rw [hwa]; exact FBx.newOne w 0 0 g hg _
  have HFA := Lib.hid hfb
  have HRA := Lib.hid (h.keep hba)
  have HG : Hid (g = w.heap.size) := hg
  have hL : L.length = n := h.2.2.1.1
  have hnc : n ≤ c := h.2.2.2.1
  have hnb : n ≤ 1000000 := h.2.2.2.2
  have HRB : Hid (rb < w.heap.size) := by
    show rb < _
    simpa using cell_block h.1
  have HBB : Hid (b < w.heap.size) := by
    show b < _
    simpa using cell_block (h.at q (by omega))
  have CW := Lib.hid wrong_calls
  have CL := Lib.hid (fun W (h : BRd W rb b o n c L deep) p hp => length_calls rb b o n c L deep W h p hp)
  have CT := Lib.hid (fun W (h : BRd W rb b o n c L deep) q z hq hz => text_calls rb b o n c L deep W h q z hq hz)
  have CD := Lib.hid (fun W (h : BRd W rb b o n c L deep) => hof rb b o n c L deep W h)
  obtain ⟨z0, z1, z2, q0, q1, q2, hg1⟩ := hfb
  have e1 : IntKind.i64.wrap ((z : Int) - (q : Int)) = (z : Int) - (q : Int) := IntWalk.i64_in _ (by omega)
  have hq4n : q + 4 ≤ n := by omega
  obtain ⟨N, hN⟩ : ∃ N, N = len4 L q := ⟨_, rfl⟩
  have HN := Lib.hid hN
  clear h hba
  by_cases h2 : N < 14
  · have HX : Hid (Q L deep (.val 15 q z win) (.bad 6 q)) := .val_bad (by unfold scoH; rw [if_neg (by omega), if_pos (by rw [← hN]; exact .inl h2)])
    have d2 : decide (N < 14) = true := by simpa using h2
    clear h2 hN
    go_enter Try.func79, Try.ntmps79
    go_upto_region 1 with fail
    rw [← hwa, ← hg]
    clear hwa hg
    go_wp2_with fail
    refine (CL.out _ HRA.out q (by omega)).mono ?_
    rintro e w1 ⟨rfl, hb1⟩
    have HB1 : Hid (Below wa.heap.size wa w1) := hb1
    have HF1 := Lib.hid (HFA.out.keep HB1.out)
    have HR1 := Lib.hid (HRA.out.keep HB1.out)
    clear z0 z1 z2 q0 q1 q2 hg1
    clear hb1
    obtain ⟨z0, z1, z2, q0, q1, q2, hg1⟩ := HF1.out
    rw [← HN.out]
    go_wp2_with fail
    refine (CW.out _ _ _).mono ?_
    rintro e w2 ⟨rfl, hb2⟩
    have HB2 : Hid (Below wa.heap.size wa w2) := HB1.out.trans (hb2.mono HB1.out.size)
    have HF2 := Lib.hid (HFA.out.keep HB2.out)
    have HR2 := Lib.hid (HRA.out.keep HB2.out)
    clear z0 z1 z2 q0 q1 q2 hg1
    clear hb2
    obtain ⟨z0, z1, z2, q0, q1, q2, hg1⟩ := HF2.out
    go_wp2_with fail
    refine bodyPost_ret (v := .tuple #[.string ⟨#[]⟩, .slice none 0 0, .int .i64 0, fltV 6 q]) (by simp [results, Try.results79, go_sem, *]) rfl ?_
    refine ⟨_, HX.out, ⟨⟨#[]⟩, by decide, rfl⟩, ?_⟩
    have hfin : Below w.heap.size w w2 := HBA.out.trans (HB2.out.mono HBA.out.size)
    (repeat' (first | with_reducible exact hfin | with_reducible refine Below.setCell ?_ (by rw [HG.out]; exact Nat.le_refl _) _))
  have d2 : decide (N < 14) = false := by simp; omega
  by_cases h3 : (z : Int) - q < N
  · have HX : Hid (Q L deep (.val 15 q z win) (.bad 6 q)) := .val_bad (by unfold scoH; rw [if_neg (by omega), if_pos (by rw [← hN]; exact .inr h3)])
    have d3 : decide ((z : Int) - (q : Int) < N) = true := by simpa using h3
    clear h2 h3 hN
    go_enter Try.func79, Try.ntmps79
    go_upto_region 1 with fail
    rw [← hwa, ← hg]
    clear hwa hg
    go_wp2_with fail
    refine (CL.out _ HRA.out q (by omega)).mono ?_
    rintro e w1 ⟨rfl, hb1⟩
    have HB1 : Hid (Below wa.heap.size wa w1) := hb1
    have HF1 := Lib.hid (HFA.out.keep HB1.out)
    have HR1 := Lib.hid (HRA.out.keep HB1.out)
    clear z0 z1 z2 q0 q1 q2 hg1
    clear hb1
    obtain ⟨z0, z1, z2, q0, q1, q2, hg1⟩ := HF1.out
    rw [← HN.out]
    go_wp2_with fail
    refine (CW.out _ _ _).mono ?_
    rintro e w2 ⟨rfl, hb2⟩
    have HB2 : Hid (Below wa.heap.size wa w2) := HB1.out.trans (hb2.mono HB1.out.size)
    have HF2 := Lib.hid (HFA.out.keep HB2.out)
    have HR2 := Lib.hid (HRA.out.keep HB2.out)
    clear z0 z1 z2 q0 q1 q2 hg1
    clear hb2
    obtain ⟨z0, z1, z2, q0, q1, q2, hg1⟩ := HF2.out
    go_wp2_with fail
    refine bodyPost_ret (v := .tuple #[.string ⟨#[]⟩, .slice none 0 0, .int .i64 0, fltV 6 q]) (by simp [results, Try.results79, go_sem, *]) rfl ?_
    refine ⟨_, HX.out, ⟨⟨#[]⟩, by decide, rfl⟩, ?_⟩
    have hfin : Below w.heap.size w w2 := HBA.out.trans (HB2.out.mono HBA.out.size)
    (repeat' (first | with_reducible exact hfin | with_reducible refine Below.setCell ?_ (by rw [HG.out]; exact Nat.le_refl _) _))
  have d3 : decide ((z : Int) - (q : Int) < N) = false := by simp; omega
  obtain ⟨N1, rfl⟩ : ∃ N1 : Nat, N = (N1 : Int) := ⟨N.toNat, by omega⟩
  have hMt : (len4 L q).toNat = N1 := by rw [← hN]; omega
  obtain ⟨q4, hq4⟩ : ∃ x, x = q + 4 := ⟨_, rfl⟩
  obtain ⟨zz, hzz⟩ : ∃ x, x = q + N1 := ⟨_, rfl⟩
  have w1 : IntKind.i64.wrap ((q : Int) + 4) = (q4 : Int) := (IntWalk.i64_in _ (by omega)).trans (by omega)
  have w2 : IntKind.i64.wrap ((q : Int) + (N1 : Int)) = (zz : Int) := (IntWalk.i64_in _ (by omega)).trans (by omega)
  obtain ⟨W1, hW1⟩ : ∃ x, x = win + 1 := ⟨_, rfl⟩
  have wW : IntKind.i64.wrap ((win : Int) + 1) = (W1 : Int) := (IntWalk.i64_in _ (by omega)).trans (by omega)
  obtain ⟨R, hR⟩ : ∃ R, R = textQ L q4 zz := ⟨_, rfl⟩
  have hSC : scoH L q z = scoTo R zz := by
    unfold scoH scoTo
    rw [if_neg (by omega), if_neg (by rw [← hN]; omega), hMt, hR, hq4, hzz]
    rfl
  have hqz4 : q4 ≤ zz := by omega
  have hzzn : zz ≤ n := by omega
  have hzzz : zz < n := by omega
  have hbt := textQ_bd (b := L) hqz4 (by omega)
  have C1 := Lib.hid (fun W (h : BRd W rb b o n c L deep) => CT.out W h q4 zz hqz4 hzzn)
  have HSZ : Hid (∀ s nx, R = .ok (s, nx) → s.length ≤ 1000000) := by
    show ∀ s nx, _
    intro s nx hs
    have := textQ_len2 (b := L) (q := q4) (z := zz) (s := s) (n := nx) (by rw [← hR]; exact hs)
    omega
  rw [← hR] at C1 hbt
  have hzd : zz - q4 ≤ d := by omega
  have hzw : win + (zz - q4) ≤ 2000000 := by omega
  clear hN hMt hR hq4 hzz CT h2 h3
  go_enter Try.func79, Try.ntmps79
  go_upto_region 1 with fail
  rw [← hwa, ← hg]
  clear hwa hg
  go_wp2_with fail
  refine (CL.out _ HRA.out q (by omega)).mono ?_
  rintro e w1 ⟨rfl, hb1⟩
  have HB1 : Hid (Below wa.heap.size wa w1) := hb1
  have HF1 := Lib.hid (HFA.out.keep HB1.out)
  have HR1 := Lib.hid (HRA.out.keep HB1.out)
  clear z0 z1 z2 q0 q1 q2 hg1
  clear hb1
  obtain ⟨z0, z1, z2, q0, q1, q2, hg1⟩ := HF1.out
  rw [← HN.out]
  go_wp2_with fail
  cases R with
  | error ea =>
    obtain ⟨er, a⟩ := ea
    have her : er ≠ 0 := by have := hbt.1 er a rfl; omega
    have hne : ((er : Int) != 0) = true := by simpa using her
    have HX : Hid (Q L deep (.val 15 q z win) (.bad er a)) := .val_bad hSC
    clear hSC hbt her
    refine (C1.out _ HR1.out).mono ?_
    rintro e w2 ⟨rfl, hb2⟩
    have HB2 : Hid (Below wa.heap.size wa w2) := HB1.out.trans (hb2.mono HB1.out.size)
    have HF2 := Lib.hid (HFA.out.keep HB2.out)
    have HR2 := Lib.hid (HRA.out.keep HB2.out)
    clear z0 z1 z2 q0 q1 q2 hg1
    clear hb2
    obtain ⟨z0, z1, z2, q0, q1, q2, hg1⟩ := HF2.out
    obtain ⟨g5, hg5⟩ : ∃ x, x = w2.heap.size := ⟨_, rfl⟩
    obtain ⟨w3, hw3⟩ : ∃ W, W = w2.alloc (.cells #[.int .i64 (er : Nat), .int .i64 (a : Nat), .slice none 0 0] 34) := ⟨_, rfl⟩
    have hb3 : Below w2.heap.size w2 w3 := by rw [hw3]; exact (Below.refl _ _).alloc (Nat.le_refl _) _
    have hf5 : FBx w3 g5 er a := by rw [hw3]; exact FBx.newOne w2 er a g5 hg5 _
    have hng : ¬ g = g5 := by omega
    have hng2 : ¬ g5 = g := by omega
    have HB3 : Hid (Below wa.heap.size wa w3) := HB2.out.trans (hb3.mono HB2.out.size)
    have HF3 := Lib.hid (HFA.out.keep HB3.out)
    clear hb3
    go_upto_region 5 with fail
    rw [← hw3, ← hg5]
    clear hw3 hg5
    clear z0 z1 z2 q0 q1 q2 hg1
    obtain ⟨z0, z1, z2, q0, q1, q2, hg1⟩ := HF3.out
    obtain ⟨y0, y1, y2, u0, u1, u2, hg6⟩ := hf5
    go_upto_region 6 with fail
    go_region
    all_goals
      go_wp2_with fail
      refine bodyPost_ret (v := .tuple #[.string ⟨#[]⟩, .slice none 0 0, .int .i64 0, fltV er a]) (by simp [results, Try.results79, go_sem, *]) rfl ?_
      refine ⟨_, HX.out, ⟨⟨#[]⟩, by decide, rfl⟩, ?_⟩
      have hfin : Below w.heap.size w w3 := HBA.out.trans (HB3.out.mono HBA.out.size)
      (repeat' (first | with_reducible exact hfin | with_reducible refine Below.drew ?_ | with_reducible refine Below.setCell ?_ (by rw [HG.out]; exact Nat.le_refl _) _))
  | ok sn =>
    obtain ⟨s, nx⟩ := sn
    have hnx := hbt.2 s nx rfl
    have hsz : s.length ≤ 1000000 := HSZ.out s nx rfl
    have hts : (txt s).size ≤ 1000000 := by rw [← sl_len, sl_txt]; omega
    have HQD : Hid (∀ r, Q L deep (.doc nx zz W1 2) r → Q L deep (.val 15 q z win) (mkA 15 (txt s) r)) := by
      show ∀ r, _
      intro r hr
      rw [hW1] at hr
      exact .val_sco hSC hr
    have C2 := Lib.hid (fun W (h : BRd W rb b o n c L deep) => CD.out W h nx zz W1 2 (by omega) hzzn (by omega) (by omega) (by omega))
    clear hSC hbt HSZ hW1
    refine (C1.out _ HR1.out).mono ?_
    rintro e w2 ⟨rfl, hb2⟩
    have HB2 : Hid (Below wa.heap.size wa w2) := HB1.out.trans (hb2.mono HB1.out.size)
    have HF2 := Lib.hid (HFA.out.keep HB2.out)
    have HR2 := Lib.hid (HRA.out.keep HB2.out)
    clear z0 z1 z2 q0 q1 q2 hg1
    clear hb2
    obtain ⟨z0, z1, z2, q0, q1, q2, hg1⟩ := HF2.out
    obtain ⟨g5, hg5⟩ : ∃ x, x = w2.heap.size := ⟨_, rfl⟩
    obtain ⟨w3, hw3⟩ : ∃ W, W = w2.alloc (.cells #[.int .i64 ((0 : Nat) : Int), .int .i64 ((0 : Nat) : Int), .slice none 0 0] 34) := ⟨_, rfl⟩
    have hb3 : Below w2.heap.size w2 w3 := by rw [hw3]; exact (Below.refl _ _).alloc (Nat.le_refl _) _
    have hf5 : FBx w3 g5 0 0 := by rw [hw3]; exact FBx.newOne w2 0 0 g5 hg5 _
    have hng : ¬ g = g5 := by omega
    have hng2 : ¬ g5 = g := by omega
    have hgg : g < g5 := by omega
    have HB3 : Hid (Below wa.heap.size wa w3) := HB2.out.trans (hb3.mono HB2.out.size)
    have HF3 := Lib.hid (HFA.out.keep HB3.out)
    have HR3 := Lib.hid (HRA.out.keep HB3.out)
    have HF5 := Lib.hid hf5
    clear hb3
    have hzc : ((0 : Nat) : Int) = 0 := rfl
    rw [hzc] at hw3
    go_upto_region 5 with fail
    rw [← hw3, ← hg5]
    clear hw3 hg5 hzc
    clear z0 z1 z2 q0 q1 q2 hg1
    obtain ⟨z0, z1, z2, q0, q1, q2, hg1⟩ := HF3.out
    obtain ⟨y0, y1, y2, u0, u1, u2, hg6⟩ := hf5
    go_wp2_with fail
    refine (C2.out _ HR3.out).mono ?_
    rintro e w4 ⟨r, hq1, hout, hb4⟩
    have HQL := Lib.hid (HQD.out r hq1)
    have HB4 : Hid (Below wa.heap.size wa w4) := HB3.out.trans (hb4.mono HB3.out.size)
    have HF4 := Lib.hid (HFA.out.keep HB4.out)
    have hf54 := HF5.out.keep hb4
    have hs34 := HB3.out.size
    have hga : g < wa.heap.size := HFA.out.2.2.2.2.2.2
    have hg53 : g5 < w3.heap.size := HF5.out.2.2.2.2.2.2
    clear y0 y1 y2 u0 u1 u2 hg6 hb4 hq1
    clear z0 z1 z2 q0 q1 q2 hg1
    obtain ⟨z0, z1, z2, q0, q1, q2, hg1⟩ := HF4.out
    obtain ⟨y0, y1, y2, u0, u1, u2, hg6⟩ := hf54
    have hfin : Below w.heap.size w w4 := HBA.out.trans (HB4.out.mono HBA.out.size)
    have HFIN := Lib.hid hfin
    have hgw : w.heap.size ≤ g5 := by have := HG.out; omega
    clear hfin
    cases r with
    | val t nx => exact hout.elim
    | bad er a =>
      obtain rfl := hout
      go_upto_region 8 with fail
      go_region
      all_goals
        go_wp2_with fail
        refine bodyPost_ret (v := .tuple #[.string (txt s), .slice none 0 0, .int .i64 0, fltV er a]) (by simp [results, Try.results79, go_sem, *]) rfl ?_
        refine ⟨_, HQL.out, ⟨_, hts, rfl⟩, ?_⟩
        have hfin := HFIN.out
        (repeat' (first | with_reducible exact hfin | with_reducible refine Below.drew ?_ | with_reducible refine Below.setCell ?_ (by first | exact hgw | (rw [HG.out]; exact Nat.le_refl _)) _))
    | kids f nx2 =>
      obtain ⟨a2, c2, rfl, hks, hroom, hfl⟩ := hout
      have HKS := Lib.hid hks
      obtain ⟨nk, hnk⟩ : ∃ x, x = f.len := ⟨_, rfl⟩
      have HNK := Lib.hid hnk
      rw [← hnk] at hroom hfl ⊢
      have HRO := Lib.hid hroom
      clear hks hnk hroom
      go_upto_region 8 with fail
      go_region
      all_goals
        go_wp2_with fail
        refine bodyPost_ret (v := .tuple #[.string (txt s), .slice a2 nk c2, .int .i64 (nx2 : Nat), fltV 0 0]) (by simp [results, Try.results79, go_sem, *]) rfl ?_
        have key : ∀ W', Chg (fun j => j = g ∨ j = g5) w4 W' → ScoOut (mkA 15 (txt s) (.kids f nx2)) w (.returned (.tuple #[.string (txt s), .slice a2 nk c2, .int .i64 (nx2 : Nat), fltV 0 0])) W' := fun W' hW => by
          refine ⟨⟨txt s, f, a2, c2, rfl, hts, by rw [HNK.out], ?_, by rw [← HNK.out]; exact HRO.out, by rw [← HNK.out]; exact hfl⟩, HFIN.out.trans (hW.below HFIN.out.size ?_)⟩
          · refine (HKS.out.imp (S' := fun j => g5 < j) (fun j _ hj => ?_)).keep (KeepS.chg hW (fun j hj e => ?_)) |>.imp (fun j _ hj => ?_)
            · have h7 : w3.heap.size ≤ j := hj
              show g5 < j
              omega
            · have h7 : g5 < j := hj
              rcases e with e | e <;> omega
            · have h7 : g5 < j := hj
              show w.heap.size ≤ j
              omega
          · intro j e
            have := HG.out
            rcases e with e | e <;> omega
        exact ⟨_, HQL.out, key _ (by (repeat' (first | with_reducible exact Chg.refl _ _ | with_reducible refine Chg.drew ?_ | with_reducible refine Chg.setCell ?_ (fun _ => by first | exact Or.inl rfl | exact Or.inr rfl) _)))⟩

end Go.Proofs.Ytkcfkdmffbhljaa
