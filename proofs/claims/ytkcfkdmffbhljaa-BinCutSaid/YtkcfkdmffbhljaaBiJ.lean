/- bin.Decode, through document. -/
import Derived.Test.YtkcfkdmffbhljaaBiI
import Derived.Test.YtkcfkdmffbhljaaDecP
import Derived.Test.YtkcfkdmffbhljaaBiC
namespace Go.Proofs.Ytkcfkdmffbhljaa
open Go.RowKit
set_option linter.unusedVariables false
set_option linter.unusedSimpArgs false

set_option maxRecDepth 100000 in
set_option maxHeartbeats 8000000 in
theorem dec_main (ab : Option Addr) (n c dn : Nat) (s o : Int) (L : List UInt8) (w : World) (hL : L.length = n) (hn : n ≤ 1000000) (hm : mayS dn s o = true) (hs : (n : Int) ≤ s)
    (hC : ∀ (W : World) (rb : Nat), Below w.heap.size w W → W.cell? ⟨rb, 0, none⟩ = some (.slice ab n c) → W.cell? ⟨rb, 1, none⟩ = some (.int .i64 (dn : Nat)) →
      Calls Try.prog 35 #[.pointer (some ⟨rb, 0, none⟩), .int .i64 ((0 : Nat) : Int), .int .i64 (n : Nat), .int .i64 ((0 : Nat) : Int), .int .i64 ((1 : Nat) : Int)] W fun e w' => ∃ r, Q L dn (.doc 0 n 0 1) r ∧ DocOut r W e w') :
    Calls Try.prog 16 #[.slice ab n c, .agg (limCells (dn : Nat) s o)] w (DecOut (dn : Nat) s o L w) := by
  have HC := Lib.hid hC
  clear hC
  have CM := Lib.hid (fun W => may_calls (dn : Int) s o W)
  obtain ⟨wa, hwa⟩ : ∃ W, W = ((w.alloc (.cells #[.int .i64 (dn : Nat), .int .i64 s, .int .i64 o] 28)).alloc (.cells #[.int .i64 0, .int .u64 0, .int .u64 0, .int .u64 0, .string ⟨#[]⟩, .string ⟨#[]⟩, .int .i64 0, .slice none 0 0, .slice none 0 0] 26)).alloc (.cells #[.int .i64 0, .int .i64 0, .slice none 0 0] 34) := ⟨_, rfl⟩
  have hba : Below w.heap.size w wa := by
    rw [hwa]
    have h1 : Below w.heap.size w (w.alloc (.cells #[.int .i64 (dn : Nat), .int .i64 s, .int .i64 o] 28)) := (Below.refl _ _).alloc (Nat.le_refl _) _
    have h2 := h1.alloc h1.size (.cells #[.int .i64 0, .int .u64 0, .int .u64 0, .int .u64 0, .string ⟨#[]⟩, .string ⟨#[]⟩, .int .i64 0, .slice none 0 0, .slice none 0 0] 26)
    exact h2.alloc h2.size _
  have hfa : FBx wa (w.heap.size + 1 + 1) 0 0 := by
    rw [hwa]
    refine ⟨?_, ?_, ?_, ?_, ?_, ?_, ?_⟩ <;> simp [go_sem]
  have hxa : BoxV wa (w.heap.size + 1) zCellsV := by
    rw [hwa]
    have h1 : (w.alloc (.cells #[.int .i64 (dn : Nat), .int .i64 s, .int .i64 o] 28)).heap.size = w.heap.size + 1 := by simp
    rw [← h1]
    exact (BoxV.new _ _ _).keep ((Below.refl _ _).alloc (Nat.le_refl _) _)
  have hla : wa.cell? ⟨w.heap.size, 0, none⟩ = some (.int .i64 (dn : Nat)) ∧ wa.cell? ⟨w.heap.size, 1, none⟩ = some (.int .i64 s) ∧ wa.cell? ⟨w.heap.size, 2, none⟩ = some (.int .i64 o) := by rw [hwa]; simp [go_sem]
  have HBA := Lib.hid hba
  have HFA := Lib.hid hfa
  have HXA := Lib.hid hxa
  have HLA := Lib.hid hla
  clear hba hfa hxa hla
  have fin : ∀ (e0 : Nat) (W W' : World), Below w.heap.size w W → Chg (fun j => j = w.heap.size + 1 ∨ j = w.heap.size + 1 + 1) W W' → Below w.heap.size w W' := fun e0 W W' h hc => h.trans (hc.below h.size (fun j e => by rcases e with e | e <;> omega))
  rw [hm] at CM
  have ds : decide (s < (n : Int)) = false := by simp; omega
  have hns : ¬ s < (n : Int) := by omega
  go_enter Try.func16, Try.ntmps16
  go_upto_region 1 with fail
  rw [← hwa]
  clear hwa
  obtain ⟨y0, y1, y2⟩ := HLA.out
  go_wp2_with fail
  refine (CM.out _).mono ?_
  rintro e w1 ⟨rfl, hb1⟩
  have HB1 : Hid (Below w.heap.size w w1) := HBA.out.trans (hb1.mono HBA.out.size)
  have y0 := cell_below hb1 HLA.out.1
  have y1 := cell_below hb1 HLA.out.2.1
  have y2 := cell_below hb1 HLA.out.2.2
  obtain ⟨f0, f1, f2, f3, f4, f5, f6, f7, f8, l0⟩ := (HXA.out.keep hb1).nine
  obtain ⟨z0, z1, z2, q0, q1, q2, hg1⟩ := HFA.out.keep hb1
  have hg1' := hg1
  have hv1 := HXA.out.keep hb1
  have p0 := (hv1.2 0 (by omega)).2
  have p1 := (hv1.2 1 (by omega)).2
  have p2 := (hv1.2 2 (by omega)).2
  have p3 := (hv1.2 3 (by omega)).2
  have p4 := (hv1.2 4 (by omega)).2
  have p5 := (hv1.2 5 (by omega)).2
  have p6 := (hv1.2 6 (by omega)).2
  have p7 := (hv1.2 7 (by omega)).2
  have p8 := (hv1.2 8 (by omega)).2
  have HX1 := Lib.hid hv1
  have HF1 := Lib.hid (HFA.out.keep hb1)
  clear hv1 hb1
  go_upto_region 6 with fail
  obtain ⟨w2, hw2⟩ : ∃ W, W = w1.alloc (.cells #[.slice ab n c, .int .i64 (dn : Nat)] 63) := ⟨_, rfl⟩
  have hb2 : Below w1.heap.size w1 w2 := by rw [hw2]; exact (Below.refl _ _).alloc (Nat.le_refl _) _
  have HB2 : Hid (Below w.heap.size w w2) := HB1.out.trans (hb2.mono HB1.out.size)
  have CD := Lib.hid (HC.out w2 w1.heap.size HB2.out (by rw [hw2]; simp [go_sem]) (by rw [hw2]; simp [go_sem]))
  rw [← hw2]
  clear hw2
  go_wp2_with fail
  refine CD.out.mono ?_
  rintro e w3 ⟨r, hq, hout, hb3⟩
  have HB3 : Hid (Below w.heap.size w w3) := HB2.out.trans (hb3.mono HB2.out.size)
  have HX3 := Lib.hid ((HX1.out.keep hb2).keep hb3)
  have HF3 := Lib.hid ((HF1.out.keep hb2).keep hb3)
  have HQ := Lib.hid hq
  clear hq hb3
  clear f0 f1 f2 f3 f4 f5 f6 f7 f8 l0 z0 z1 z2 q0 q1 q2 hg1 p0 p1 p2 p3 p4 p5 p6 p7 p8
  obtain ⟨f0, f1, f2, f3, f4, f5, f6, f7, f8, l0⟩ := HX3.out.nine
  obtain ⟨z0, z1, z2, q0, q1, q2, hg1⟩ := HF3.out
  have p0 := (HX3.out.2 0 (by omega)).2
  have p1 := (HX3.out.2 1 (by omega)).2
  have p2 := (HX3.out.2 2 (by omega)).2
  have p3 := (HX3.out.2 3 (by omega)).2
  have p4 := (HX3.out.2 4 (by omega)).2
  have p5 := (HX3.out.2 5 (by omega)).2
  have p6 := (HX3.out.2 6 (by omega)).2
  have p7 := (HX3.out.2 7 (by omega)).2
  have p8 := (HX3.out.2 8 (by omega)).2
  have FIN := Lib.hid fin
  have HMM := Lib.hid hm
  have HSS := Lib.hid hs
  clear fin hm hs
  cases r with
  | val t nx => exact hout.elim
  | bad er a =>
    obtain rfl := hout
    have hbd := HQ.out.bd (by omega) (by omega)
    have hne : ((er : Int) != 0) = true := by simp; omega
    clear hbd
    go_upto_region 8 with fail
    go_region
    all_goals
      (repeat (first | go_values | go_skip | go_guarded | go_step | go_upon | (go_simp; go_at_K)))
      refine bodyPost_ret (v := .tuple #[.agg zCellsV, fltV er a]) (by simp [results, Try.results16, go_sem, *]) rfl ?_
      refine ⟨by rw [if_neg (by rw [HMM.out]; simp), if_neg (by rw [hL]; have := HSS.out; omega)]; exact ⟨.bad er a, by rw [hL]; exact HQ.out, rfl⟩, FIN.out 0 w3 _ HB3.out ?_⟩
      (repeat' (first | with_reducible exact Chg.refl _ _ | with_reducible refine Chg.drew ?_ | with_reducible refine Chg.alloc ?_ _ | with_reducible refine Chg.setCell ?_ (fun _ => by first | exact Or.inl rfl | exact Or.inr rfl) _))
  | kids f nx =>
    obtain ⟨a2, c2, rfl, hks, hroom, hfl⟩ := hout
    have HKS := Lib.hid hks
    have HRM := Lib.hid hroom
    clear hks hroom
    have h12 : w.heap.size ≤ w2.heap.size := HB2.out.size
    have HKEY : Hid (∀ W', Chg (fun j => j = w.heap.size + 1 ∨ j = w.heap.size + 1 + 1) w3 W' → RdTS (fun k => w.heap.size ≤ k) W' (.mk 3 0 0 0 nt nt 0 [] f) (valCells 3 0 0 0 ⟨#[]⟩ ⟨#[]⟩ 0 none 0 0 a2 f.len c2)) := by
      show ∀ W', _
      intro W' hW
      have hb : w.heap.size + 1 + 1 < w2.heap.size := Nat.lt_of_lt_of_le hg1' hb2.size
      have hk2 := (HKS.out.keep (KeepS.chg hW (fun j hj e => by have hj2 : w2.heap.size ≤ j := hj; rcases e with e | e <;> omega))).imp (S' := fun k => w.heap.size ≤ k) (fun j _ hj => by have hj2 : w2.heap.size ≤ j := hj; show w.heap.size ≤ j; omega)
      exact rdTS_of _ _ (ownOk_k (k := 3) (sub := 0) (by omega) okz okz okz (by decide) (by decide) (by omega)) (rdBS_nil _ _) roomy_nil hk2 rfl hfl HRM.out
    clear hfl h12
    obtain ⟨fl, hfl⟩ : ∃ x, x = f.len := ⟨_, rfl⟩
    rw [← hfl] at HKEY
    rw [← hfl]
    clear hfl HRM
    go_upto_region 9 with fail
    (repeat (first | go_values | go_skip | go_guarded | go_step | go_upon | (go_simp; go_at_K)))
    refine bodyPost_ret (v := .tuple #[.agg (valCells 3 0 0 0 ⟨#[]⟩ ⟨#[]⟩ 0 none 0 0 a2 fl c2), fltV 0 0]) (by simp [results, Try.results16, go_sem, valCells, *]) rfl ?_
    have key : ∀ W', Chg (fun j => j = w.heap.size + 1 ∨ j = w.heap.size + 1 + 1) w3 W' → DecOut (dn : Nat) s o L w (.returned (.tuple #[.agg (valCells 3 0 0 0 ⟨#[]⟩ ⟨#[]⟩ 0 none 0 0 a2 fl c2), fltV 0 0])) W' := fun W' hW =>
      ⟨by rw [if_neg (by rw [HMM.out]; simp), if_neg (by rw [hL]; have := HSS.out; omega)]; exact ⟨.kids f nx, by rw [hL]; exact HQ.out, _, rfl, HKEY.out W' hW⟩, FIN.out 0 w3 _ HB3.out hW⟩
    refine key _ ?_
    (repeat' (first | with_reducible exact Chg.refl _ _ | with_reducible refine Chg.drew ?_ | with_reducible refine Chg.alloc ?_ _ | with_reducible refine Chg.setCell ?_ (fun _ => by first | exact Or.inl rfl | exact Or.inr rfl) _))

end Go.Proofs.Ytkcfkdmffbhljaa
