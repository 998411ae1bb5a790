/- The reference's value: the Kinds 19, 7, 6, 10, 127, 255. -/
import Derived.Test.YtkcfkdmffbhljaaRbV0
namespace Go.Proofs.Ytkcfkdmffbhljaa
open Go.RowKit
set_option linter.unusedVariables false
set_option linter.unusedSimpArgs false

set_option maxRecDepth 100000 in
set_option maxHeartbeats 8000000 in
theorem rvl_19 (dd : Nat) (hof : RDcSaid dd) (hsc : RScSaid dd) {rb b o n c : Nat} {L : List UInt8} {d : Nat} {w : World} (h : RRd w rb b o n c L d 0 0) (q z win : Nat) (hq : q ≤ z) (hz : z < n) (hd : z - q ≤ dd) (hw : win + (z - q) ≤ 2000000) :
    Calls Try.prog 82 #[.pointer (some ⟨rb, 0, none⟩), .int .i64 19, .int .i64 (q : Nat), .int .i64 (z : Nat), .int .i64 (win : Nat)] w fun e w' => ∃ r, Q L d (.val 19 q z win) r ∧ RValO rb b o n c L d r w e w' := by
  have hL : L.length = n := h.rd.1
  have hnc := h.nc
  have hnb := h.nb
  obtain ⟨wa, hwa⟩ : ∃ W, W = (w.alloc (.cells #[.int .i64 0, .int .u64 0, .int .u64 0, .int .u64 0, .string ⟨#[]⟩, .string ⟨#[]⟩, .int .i64 0, .slice none 0 0, .slice none 0 0] 26)).alloc (.cells #[.int .i64 19, .int .u64 0, .int .u64 0, .int .u64 0, .string ⟨#[]⟩, .string ⟨#[]⟩, .int .i64 0, .slice none 0 0, .slice none 0 0] 26) := ⟨_, rfl⟩
  have hb0 : Below w.heap.size w (w.alloc (.cells #[.int .i64 0, .int .u64 0, .int .u64 0, .int .u64 0, .string ⟨#[]⟩, .string ⟨#[]⟩, .int .i64 0, .slice none 0 0, .slice none 0 0] 26)) := (Below.refl _ _).alloc (Nat.le_refl _) _
  have hba : Below w.heap.size w wa := by rw [hwa]; exact hb0.alloc hb0.size _
  obtain ⟨g, hg⟩ : ∃ g, g = w.heap.size := ⟨_, rfl⟩
  obtain ⟨g1, hg1⟩ : ∃ g1, g1 = w.heap.size + 1 := ⟨_, rfl⟩
  have hxa : BoxV wa g zCellsV := by rw [hwa, hg]; exact (BoxV.new _ #[.int .i64 0, .int .u64 0, .int .u64 0, .int .u64 0, .string ⟨#[]⟩, .string ⟨#[]⟩, .int .i64 0, .slice none 0 0, .slice none 0 0] _).keep ((Below.refl _ _).alloc (Nat.le_refl _) _)
  have hya : BoxV wa g1 (valCells 19 0 0 0 ⟨#[]⟩ ⟨#[]⟩ 0 none 0 0 none 0 0) := by
    have e : (w.alloc (.cells #[.int .i64 0, .int .u64 0, .int .u64 0, .int .u64 0, .string ⟨#[]⟩, .string ⟨#[]⟩, .int .i64 0, .slice none 0 0, .slice none 0 0] 26)).heap.size = w.heap.size + 1 := by simp
    rw [hwa, hg1, ← e]
    exact BoxV.new _ #[.int .i64 19, .int .u64 0, .int .u64 0, .int .u64 0, .string ⟨#[]⟩, .string ⟨#[]⟩, .int .i64 0, .slice none 0 0, .slice none 0 0] _
  have HGa := Lib.hid hxa
  have HVa := Lib.hid hya
  have HBA := Lib.hid hba
  have HRA := Lib.hid (h.keep hba)
  have HWG : Hid (w.heap.size = g) := hg.symm
  have HG1 : Hid (g1 = g + 1) := by show _ = _; rw [hg, hg1]
  have hwz : wa.heap.size = g1 + 1 := by rw [hwa, hg1]; simp
  have HWZ := Lib.hid hwz
  have hrb : rb < g := by rw [hg]; exact h.lt
  have hbb : b < g := by rw [hg]; simpa using cell_block (h.at q (by omega))
  have HRB := Lib.hid hrb
  have HBB := Lib.hid hbb
  have hng : ¬ g1 = g := by rw [hg, hg1]; omega
  have hng2 : ¬ g = g1 := by rw [hg, hg1]; omega
  have hr1 : ¬ rb = g := by omega
  have hr2 : ¬ rb = g1 := by rw [hg] at hrb; rw [hg1]; omega
  have hr3 : ¬ g = rb := by omega
  have hr4 : ¬ g1 = rb := by rw [hg] at hrb; rw [hg1]; omega
  have hr5 : ¬ b = g1 := by rw [hg] at hbb; rw [hg1]; omega
  have hr6 : ¬ b = g := by omega
  have CB := Lib.hid (fun W (h : RRd W rb b o n c L d 0 0) er a => rdbad_calls h er a)
  have CF : Hid (Calls Try.prog 98 #[.int .i64 19] wa fun e w' => e = .returned (.int .i64 16) ∧ wa = w') := rdfixed_calls 19 wa
  have e1z : IntKind.i64.wrap ((z : Int) - (q : Int)) = (z : Int) - (q : Int) := IntWalk.i64_in _ (by omega)
  have c0 := HRA.out.c0
  have c4 := HRA.out.c4
  obtain ⟨f0, f1, f2, f3, f4, f5, f6, f7, f8, l0⟩ := HGa.out.nine
  obtain ⟨e0, e1, e2, e3, e4, e5, e6, e7, e8, l1⟩ := HVa.out.nine
  have p0 := (HGa.out.2 0 (by omega)).2
  have o0 := (HVa.out.2 0 (by omega)).2
  have p1 := (HGa.out.2 1 (by omega)).2
  have o1 := (HVa.out.2 1 (by omega)).2
  have p2 := (HGa.out.2 2 (by omega)).2
  have o2 := (HVa.out.2 2 (by omega)).2
  have p3 := (HGa.out.2 3 (by omega)).2
  have o3 := (HVa.out.2 3 (by omega)).2
  have p4 := (HGa.out.2 4 (by omega)).2
  have o4 := (HVa.out.2 4 (by omega)).2
  have p5 := (HGa.out.2 5 (by omega)).2
  have o5 := (HVa.out.2 5 (by omega)).2
  have p6 := (HGa.out.2 6 (by omega)).2
  have o6 := (HVa.out.2 6 (by omega)).2
  have p7 := (HGa.out.2 7 (by omega)).2
  have o7 := (HVa.out.2 7 (by omega)).2
  have p8 := (HGa.out.2 8 (by omega)).2
  have o8 := (HVa.out.2 8 (by omega)).2
  clear hba hxa hya hb0 hrb hbb hwz h
  go_enter Try.func82, Try.ntmps82
  go_upto_region 2 with fail
  rw [← hwa, ← hg1, ← hg]
  clear hwa hg1 hg
  go_wp2_with fail
  refine CF.out.mono ?_
  rintro e wx ⟨rfl, rfl⟩
  by_cases hsh : z < q + 16
  · have HX : Hid (Q L d (.val 19 q z win) (.bad 2 q)) := by
      have hl : leafQ L 19 q z = .bad 2 q := by unfold leafQ; rw [if_pos (by simp [fixN]; omega)]
      rw [← hl]
      exact .val_leaf (by omega) (by omega) (by omega)
    have d1 : decide ((z : Int) - (q : Int) < 16) = true := by simp; omega
    clear hsh
    go_wp2_with fail
    refine (CB.out _ HRA.out 2 q).mono ?_
    rintro e wx ⟨rfl, hE⟩
    have HEx := Lib.hid hE
    have HGx := Lib.hid (HGa.out.chg hE.2 (fun e => hr3 e))
    have HVx := Lib.hid (HVa.out.chg hE.2 (fun e => hr4 e))
    have c4 := hE.1.c4
    clear hE
    clear f0 f1 f2 f3 f4 f5 f6 f7 f8 l0 e0 e1 e2 e3 e4 e5 e6 e7 e8 l1 p0 o0 p1 o1 p2 o2 p3 o3 p4 o4 p5 o5 p6 o6 p7 o7 p8 o8
    obtain ⟨f0, f1, f2, f3, f4, f5, f6, f7, f8, l0⟩ := HGx.out.nine
    obtain ⟨e0, e1, e2, e3, e4, e5, e6, e7, e8, l1⟩ := HVx.out.nine
    have p0 := (HGx.out.2 0 (by omega)).2
    have o0 := (HVx.out.2 0 (by omega)).2
    have p1 := (HGx.out.2 1 (by omega)).2
    have o1 := (HVx.out.2 1 (by omega)).2
    have p2 := (HGx.out.2 2 (by omega)).2
    have o2 := (HVx.out.2 2 (by omega)).2
    have p3 := (HGx.out.2 3 (by omega)).2
    have o3 := (HVx.out.2 3 (by omega)).2
    have p4 := (HGx.out.2 4 (by omega)).2
    have o4 := (HVx.out.2 4 (by omega)).2
    have p5 := (HGx.out.2 5 (by omega)).2
    have o5 := (HVx.out.2 5 (by omega)).2
    have p6 := (HGx.out.2 6 (by omega)).2
    have o6 := (HVx.out.2 6 (by omega)).2
    have p7 := (HGx.out.2 7 (by omega)).2
    have o7 := (HVx.out.2 7 (by omega)).2
    have p8 := (HGx.out.2 8 (by omega)).2
    have o8 := (HVx.out.2 8 (by omega)).2
    go_upto_region 5 with fail
    (repeat (first | go_values | go_skip | go_guarded | go_step | go_upon | (go_simp; go_at_K)))
    refine bodyPost_ret (v := .tuple #[.agg zCellsV, .int .i64 0]) (by simp [results, Try.results82, go_sem, valCells, *]) rfl ?_
    exact rval_bad (nx := 0) HX.out HBA.out HEx.out HWG.out HG1.out HRB.out HBB.out (by (repeat' (first | with_reducible exact Chg.refl _ _ | with_reducible refine Chg.drew ?_ | with_reducible refine Chg.setCell ?_ (fun _ => by first | exact Or.inl rfl | exact Or.inr rfl) _))) (isV_mk 0 0 0 0 ⟨#[]⟩ ⟨#[]⟩ 0 none 0 0 none 0 0)
  have d1 : decide ((z : Int) - (q : Int) < 16) = false := by simp; omega
  have hsh2 : q + 16 ≤ z := by omega
  obtain ⟨qm, hqm⟩ : ∃ x, x = q + 16 := ⟨_, rfl⟩
  have e2z : IntKind.i64.wrap ((q : Int) + 16) = (qm : Int) := (IntWalk.i64_in _ (by omega)).trans (by omega)
  have HQM := Lib.hid hqm
  obtain ⟨X, hX⟩ : ∃ X, X = le (seg L q 8) := ⟨_, rfl⟩
  obtain ⟨Y, hY⟩ : ∃ Y, Y = le (seg L (q + 8) 8) := ⟨_, rfl⟩
  obtain ⟨q8, hq8⟩ : ∃ x, x = q + 8 := ⟨_, rfl⟩
  have e3z : IntKind.i64.wrap ((q : Int) + 8) = (q8 : Int) := (IntWalk.i64_in _ (by omega)).trans (by omega)
  have CL : Hid (Calls Try.prog 30 #[.slice (some ⟨b, o, none⟩) n c, .int .i64 (q : Nat), .int .i64 8] wa fun e w' => e = .returned (.tuple #[.int .u64 (X : Nat), .bool true]) ∧ wa = w') := by
    rw [hX]
    exact low_yes (some ⟨b, o, none⟩) n c q 8 wa L HRA.out.rd (by omega) (by omega) (by omega)
  obtain ⟨w2, hw2⟩ : ∃ W, W = wa.setCell ⟨g1, 3, none⟩ (.int .u64 (X : Nat)) := ⟨_, rfl⟩
  have hch : Chg (fun j => j = g1) wa w2 := by rw [hw2]; exact (Chg.refl (fun j => j = g1) wa).setCell (p := ⟨g1, 3, none⟩) (fun _ => rfl) _
  have HG2 : Hid (BoxV w2 g zCellsV) := HGa.out.chg hch (fun e => hng2 e)
  have HV2 : Hid (BoxV w2 g1 (valCells 19 0 0 X ⟨#[]⟩ ⟨#[]⟩ 0 none 0 0 none 0 0)) := by show BoxV _ _ _; rw [hw2]; exact HVa.out.set 3 _ (by simp [valCells]) (by omega)
  have HR2 : Hid (RRd w2 rb b o n c L d 0 0) := HRA.out.chg hch (fun e => hr2 e) (fun e => hr5 e)
  have HB2 : Hid (Below w.heap.size w w2) := HBA.out.trans (hch.below HBA.out.size (fun j e => by have e2 : j = g1 := e; have := HWG.out; have := HG1.out; omega))
  have CM : Hid (Calls Try.prog 30 #[.slice (some ⟨b, o, none⟩) n c, .int .i64 (q8 : Nat), .int .i64 8] w2 fun e w' => e = .returned (.tuple #[.int .u64 (Y : Nat), .bool true]) ∧ w2 = w') := by
    rw [hY, hq8]
    exact low_yes (some ⟨b, o, none⟩) n c (q + 8) 8 w2 L HR2.out.rd (by omega) (by omega) (by omega)
  have HXo : Hid (X < okSize) := by show _ < _; rw [hX]; exact le_pow8 _ _ _ (by omega)
  have HYo : Hid (Y < okSize) := by show _ < _; rw [hY]; exact le_pow8 _ _ _ (by omega)
  have HXX := Lib.hid hX
  have HYY := Lib.hid hY
  have HQ : Hid (Q L d (.val 19 q z win) (.val (.mk ((19 : Nat) : Int) 0 Y X nt nt 0 [] .nil) qm)) := by
    show Q _ _ _ _
    have hl : leafQ L 19 q z = .val (.mk ((19 : Nat) : Int) 0 Y X nt nt 0 [] .nil) qm := by
      have hz2 : ¬ z < q + 16 := by omega
      have hx : X = le (seg L q 8) := HXX.out
      have hy : Y = le (seg L (q + 8) 8) := HYY.out
      have hmq : qm = q + 16 := HQM.out
      simp [leafQ, fixN, hz2, hx, hy, hmq]
    rw [← hl]
    exact .val_leaf (by omega) (by omega) (by omega)
  clear hX hY hq8 hch hsh hsh2 hqm
  go_wp2_with fail
  refine CL.out.mono ?_
  rintro e wy ⟨rfl, rfl⟩
  go_upto_region 19 with fail
  rw [← hw2]
  clear hw2
  have c0 := HR2.out.c0
  clear f0 f1 f2 f3 f4 f5 f6 f7 f8 l0 e0 e1 e2 e3 e4 e5 e6 e7 e8 l1 p0 o0 p1 o1 p2 o2 p3 o3 p4 o4 p5 o5 p6 o6 p7 o7 p8 o8
  obtain ⟨f0, f1, f2, f3, f4, f5, f6, f7, f8, l0⟩ := HG2.out.nine
  obtain ⟨e0, e1, e2, e3, e4, e5, e6, e7, e8, l1⟩ := HV2.out.nine
  have p0 := (HG2.out.2 0 (by omega)).2
  have o0 := (HV2.out.2 0 (by omega)).2
  have p1 := (HG2.out.2 1 (by omega)).2
  have o1 := (HV2.out.2 1 (by omega)).2
  have p2 := (HG2.out.2 2 (by omega)).2
  have o2 := (HV2.out.2 2 (by omega)).2
  have p3 := (HG2.out.2 3 (by omega)).2
  have o3 := (HV2.out.2 3 (by omega)).2
  have p4 := (HG2.out.2 4 (by omega)).2
  have o4 := (HV2.out.2 4 (by omega)).2
  have p5 := (HG2.out.2 5 (by omega)).2
  have o5 := (HV2.out.2 5 (by omega)).2
  have p6 := (HG2.out.2 6 (by omega)).2
  have o6 := (HV2.out.2 6 (by omega)).2
  have p7 := (HG2.out.2 7 (by omega)).2
  have o7 := (HV2.out.2 7 (by omega)).2
  have p8 := (HG2.out.2 8 (by omega)).2
  have o8 := (HV2.out.2 8 (by omega)).2
  go_wp2_with fail
  refine CM.out.mono ?_
  rintro e wy ⟨rfl, rfl⟩
  go_upto_region 44 with fail
  (repeat (first | go_values | go_skip | go_guarded | go_step | go_upon | (go_simp; go_at_K)))
  refine bodyPost_ret (v := .tuple #[.agg (valCells 19 0 Y X ⟨#[]⟩ ⟨#[]⟩ 0 none 0 0 none 0 0), .int .i64 (qm : Nat)]) (by simp [results, Try.results82, go_sem, valCells, *]) rfl ?_
  exact rval_ok HQ.out HB2.out HWG.out HG1.out (rdTS_leaf _ _ (ownOk_k (k := 19) (by omega) okz HYo.out HXo.out (by decide) (by decide) (Nat.zero_le _))) (by (repeat' (first | with_reducible exact Chg.refl _ _ | with_reducible refine Chg.drew ?_ | with_reducible refine Chg.setCell ?_ (fun _ => by first | exact Or.inl rfl | exact Or.inr rfl) _)))

set_option maxRecDepth 100000 in
set_option maxHeartbeats 8000000 in
theorem rvl_7 (dd : Nat) (hof : RDcSaid dd) (hsc : RScSaid dd) {rb b o n c : Nat} {L : List UInt8} {d : Nat} {w : World} (h : RRd w rb b o n c L d 0 0) (q z win : Nat) (hq : q ≤ z) (hz : z < n) (hd : z - q ≤ dd) (hw : win + (z - q) ≤ 2000000) :
    Calls Try.prog 82 #[.pointer (some ⟨rb, 0, none⟩), .int .i64 7, .int .i64 (q : Nat), .int .i64 (z : Nat), .int .i64 (win : Nat)] w fun e w' => ∃ r, Q L d (.val 7 q z win) r ∧ RValO rb b o n c L d r w e w' := by
  have hL : L.length = n := h.rd.1
  have hnc := h.nc
  have hnb := h.nb
  obtain ⟨wa, hwa⟩ : ∃ W, W = (w.alloc (.cells #[.int .i64 0, .int .u64 0, .int .u64 0, .int .u64 0, .string ⟨#[]⟩, .string ⟨#[]⟩, .int .i64 0, .slice none 0 0, .slice none 0 0] 26)).alloc (.cells #[.int .i64 7, .int .u64 0, .int .u64 0, .int .u64 0, .string ⟨#[]⟩, .string ⟨#[]⟩, .int .i64 0, .slice none 0 0, .slice none 0 0] 26) := ⟨_, rfl⟩
  have hb0 : Below w.heap.size w (w.alloc (.cells #[.int .i64 0, .int .u64 0, .int .u64 0, .int .u64 0, .string ⟨#[]⟩, .string ⟨#[]⟩, .int .i64 0, .slice none 0 0, .slice none 0 0] 26)) := (Below.refl _ _).alloc (Nat.le_refl _) _
  have hba : Below w.heap.size w wa := by rw [hwa]; exact hb0.alloc hb0.size _
  obtain ⟨g, hg⟩ : ∃ g, g = w.heap.size := ⟨_, rfl⟩
  obtain ⟨g1, hg1⟩ : ∃ g1, g1 = w.heap.size + 1 := ⟨_, rfl⟩
  have hxa : BoxV wa g zCellsV := by rw [hwa, hg]; exact (BoxV.new _ #[.int .i64 0, .int .u64 0, .int .u64 0, .int .u64 0, .string ⟨#[]⟩, .string ⟨#[]⟩, .int .i64 0, .slice none 0 0, .slice none 0 0] _).keep ((Below.refl _ _).alloc (Nat.le_refl _) _)
  have hya : BoxV wa g1 (valCells 7 0 0 0 ⟨#[]⟩ ⟨#[]⟩ 0 none 0 0 none 0 0) := by
    have e : (w.alloc (.cells #[.int .i64 0, .int .u64 0, .int .u64 0, .int .u64 0, .string ⟨#[]⟩, .string ⟨#[]⟩, .int .i64 0, .slice none 0 0, .slice none 0 0] 26)).heap.size = w.heap.size + 1 := by simp
    rw [hwa, hg1, ← e]
    exact BoxV.new _ #[.int .i64 7, .int .u64 0, .int .u64 0, .int .u64 0, .string ⟨#[]⟩, .string ⟨#[]⟩, .int .i64 0, .slice none 0 0, .slice none 0 0] _
  have HGa := Lib.hid hxa
  have HVa := Lib.hid hya
  have HBA := Lib.hid hba
  have HRA := Lib.hid (h.keep hba)
  have HWG : Hid (w.heap.size = g) := hg.symm
  have HG1 : Hid (g1 = g + 1) := by show _ = _; rw [hg, hg1]
  have hwz : wa.heap.size = g1 + 1 := by rw [hwa, hg1]; simp
  have HWZ := Lib.hid hwz
  have hrb : rb < g := by rw [hg]; exact h.lt
  have hbb : b < g := by rw [hg]; simpa using cell_block (h.at q (by omega))
  have HRB := Lib.hid hrb
  have HBB := Lib.hid hbb
  have hng : ¬ g1 = g := by rw [hg, hg1]; omega
  have hng2 : ¬ g = g1 := by rw [hg, hg1]; omega
  have hr1 : ¬ rb = g := by omega
  have hr2 : ¬ rb = g1 := by rw [hg] at hrb; rw [hg1]; omega
  have hr3 : ¬ g = rb := by omega
  have hr4 : ¬ g1 = rb := by rw [hg] at hrb; rw [hg1]; omega
  have hr5 : ¬ b = g1 := by rw [hg] at hbb; rw [hg1]; omega
  have hr6 : ¬ b = g := by omega
  have CB := Lib.hid (fun W (h : RRd W rb b o n c L d 0 0) er a => rdbad_calls h er a)
  have CF : Hid (Calls Try.prog 98 #[.int .i64 7] wa fun e w' => e = .returned (.int .i64 12) ∧ wa = w') := rdfixed_calls 7 wa
  have e1z : IntKind.i64.wrap ((z : Int) - (q : Int)) = (z : Int) - (q : Int) := IntWalk.i64_in _ (by omega)
  have c0 := HRA.out.c0
  have c4 := HRA.out.c4
  obtain ⟨f0, f1, f2, f3, f4, f5, f6, f7, f8, l0⟩ := HGa.out.nine
  obtain ⟨e0, e1, e2, e3, e4, e5, e6, e7, e8, l1⟩ := HVa.out.nine
  have p0 := (HGa.out.2 0 (by omega)).2
  have o0 := (HVa.out.2 0 (by omega)).2
  have p1 := (HGa.out.2 1 (by omega)).2
  have o1 := (HVa.out.2 1 (by omega)).2
  have p2 := (HGa.out.2 2 (by omega)).2
  have o2 := (HVa.out.2 2 (by omega)).2
  have p3 := (HGa.out.2 3 (by omega)).2
  have o3 := (HVa.out.2 3 (by omega)).2
  have p4 := (HGa.out.2 4 (by omega)).2
  have o4 := (HVa.out.2 4 (by omega)).2
  have p5 := (HGa.out.2 5 (by omega)).2
  have o5 := (HVa.out.2 5 (by omega)).2
  have p6 := (HGa.out.2 6 (by omega)).2
  have o6 := (HVa.out.2 6 (by omega)).2
  have p7 := (HGa.out.2 7 (by omega)).2
  have o7 := (HVa.out.2 7 (by omega)).2
  have p8 := (HGa.out.2 8 (by omega)).2
  have o8 := (HVa.out.2 8 (by omega)).2
  clear hba hxa hya hb0 hrb hbb hwz h
  go_enter Try.func82, Try.ntmps82
  go_upto_region 2 with fail
  rw [← hwa, ← hg1, ← hg]
  clear hwa hg1 hg
  go_wp2_with fail
  refine CF.out.mono ?_
  rintro e wx ⟨rfl, rfl⟩
  by_cases hsh : z < q + 12
  · have HX : Hid (Q L d (.val 7 q z win) (.bad 2 q)) := by
      have hl : leafQ L 7 q z = .bad 2 q := by unfold leafQ; rw [if_pos (by simp [fixN]; omega)]
      rw [← hl]
      exact .val_leaf (by omega) (by omega) (by omega)
    have d1 : decide ((z : Int) - (q : Int) < 12) = true := by simp; omega
    clear hsh
    go_wp2_with fail
    refine (CB.out _ HRA.out 2 q).mono ?_
    rintro e wx ⟨rfl, hE⟩
    have HEx := Lib.hid hE
    have HGx := Lib.hid (HGa.out.chg hE.2 (fun e => hr3 e))
    have HVx := Lib.hid (HVa.out.chg hE.2 (fun e => hr4 e))
    have c4 := hE.1.c4
    clear hE
    clear f0 f1 f2 f3 f4 f5 f6 f7 f8 l0 e0 e1 e2 e3 e4 e5 e6 e7 e8 l1 p0 o0 p1 o1 p2 o2 p3 o3 p4 o4 p5 o5 p6 o6 p7 o7 p8 o8
    obtain ⟨f0, f1, f2, f3, f4, f5, f6, f7, f8, l0⟩ := HGx.out.nine
    obtain ⟨e0, e1, e2, e3, e4, e5, e6, e7, e8, l1⟩ := HVx.out.nine
    have p0 := (HGx.out.2 0 (by omega)).2
    have o0 := (HVx.out.2 0 (by omega)).2
    have p1 := (HGx.out.2 1 (by omega)).2
    have o1 := (HVx.out.2 1 (by omega)).2
    have p2 := (HGx.out.2 2 (by omega)).2
    have o2 := (HVx.out.2 2 (by omega)).2
    have p3 := (HGx.out.2 3 (by omega)).2
    have o3 := (HVx.out.2 3 (by omega)).2
    have p4 := (HGx.out.2 4 (by omega)).2
    have o4 := (HVx.out.2 4 (by omega)).2
    have p5 := (HGx.out.2 5 (by omega)).2
    have o5 := (HVx.out.2 5 (by omega)).2
    have p6 := (HGx.out.2 6 (by omega)).2
    have o6 := (HVx.out.2 6 (by omega)).2
    have p7 := (HGx.out.2 7 (by omega)).2
    have o7 := (HVx.out.2 7 (by omega)).2
    have p8 := (HGx.out.2 8 (by omega)).2
    have o8 := (HVx.out.2 8 (by omega)).2
    go_upto_region 5 with fail
    (repeat (first | go_values | go_skip | go_guarded | go_step | go_upon | (go_simp; go_at_K)))
    refine bodyPost_ret (v := .tuple #[.agg zCellsV, .int .i64 0]) (by simp [results, Try.results82, go_sem, valCells, *]) rfl ?_
    exact rval_bad (nx := 0) HX.out HBA.out HEx.out HWG.out HG1.out HRB.out HBB.out (by (repeat' (first | with_reducible exact Chg.refl _ _ | with_reducible refine Chg.drew ?_ | with_reducible refine Chg.setCell ?_ (fun _ => by first | exact Or.inl rfl | exact Or.inr rfl) _))) (isV_mk 0 0 0 0 ⟨#[]⟩ ⟨#[]⟩ 0 none 0 0 none 0 0)
  have d1 : decide ((z : Int) - (q : Int) < 12) = false := by simp; omega
  have hsh2 : q + 12 ≤ z := by omega
  obtain ⟨qm, hqm⟩ : ∃ x, x = q + 12 := ⟨_, rfl⟩
  have e2z : IntKind.i64.wrap ((q : Int) + 12) = (qm : Int) := (IntWalk.i64_in _ (by omega)).trans (by omega)
  have HQM := Lib.hid hqm
  obtain ⟨S, hS⟩ : ∃ S, S = seg L q (qm - q) := ⟨_, rfl⟩
  have hsg := HRA.out.part q qm (by omega) (by omega)
  rw [← hS] at hsg
  have hSn : S.length = qm - q := hsg.1
  have HLS : Hid (S.length = 12) := by show _ = _; omega
  have HSE : Hid (SrcB (wa.alloc (.cells #[] 5)) (.slice (some ⟨b, o + q, none⟩) (qm - q) (c - q)) S) := ⟨_, _, _, rfl, hsg.keep ((Below.refl _ _).alloc (Nat.le_refl _) _), by simp⟩
  have j1 : (q : Int) ≤ (qm : Int) := by omega
  have j2 : (qm : Int) ≤ (c : Int) := by omega
  have j3 : ¬ c = q := by omega
  have HS12 := Lib.hid hS
  have HQ : Hid (Q L d (.val 7 q z win) (.val (.mk ((7 : Nat) : Int) 0 0 0 nt nt 0 S .nil) qm)) := by
    show Q _ _ _ _
    have hl : leafQ L 7 q z = .val (.mk ((7 : Nat) : Int) 0 0 0 nt nt 0 S .nil) qm := by
      have hz2 : ¬ z < q + 12 := by omega
      have hmq : qm = q + 12 := HQM.out
      have hx : S = seg L q 12 := by rw [hS, hmq, show q + 12 - q = 12 from by omega]
      simp [leafQ, fixN, hz2, hx, hmq]
    rw [← hl]
    exact .val_leaf (by omega) (by omega) (by omega)
  have hrl := HRA.out.lt
  clear hS hsg hSn hsh hsh2 hqm
  have HE : Hid (OwnB (wa.alloc (.cells #[] 5)) wa.heap.size (.slice (some ⟨wa.heap.size, 0, none⟩) 0 0) []) := ownB_empty2 (heap_alloc_new wa _) (Nat.le_refl _)
  go_wp2_with (at_builtin; refine wpList_appB (v := .slice (some ⟨wa.heap.size, 0, none⟩) 0 0) (bs := []) (sv := .slice (some ⟨b, o + q, none⟩) (qm - q) (c - q)) (l := S) (B := wa.heap.size) (by rfl) _ _ (by rfl) (by rfl) HE.out (by rfl) HSE.out ?o2 ?o3 ?_)
  case o2 => have := HLS.out; simp only [List.length_nil]; omega
  case o3 => simp
  intro v1 w2 ho1 ha1
  have hbn : Below wa.heap.size wa w2 := ha1.below ((Below.refl _ _).alloc (Nat.le_refl _) _) (by simp) (fun i hi => by have : wa.heap.size = i := Option.some.inj hi; omega)
  obtain ⟨a1, c1, rfl, hrd1⟩ := ho1.reads
  have HO1 := Lib.hid ho1
  have HB2 := Lib.hid hbn
  have HG2 := Lib.hid (HGa.out.keep hbn)
  have HV2 := Lib.hid (HVa.out.keep hbn)
  clear ho1 ha1 hbn hrd1
  clear f0 f1 f2 f3 f4 f5 f6 f7 f8 l0 e0 e1 e2 e3 e4 e5 e6 e7 e8 l1 p0 o0 p1 o1 p2 o2 p3 o3 p4 o4 p5 o5 p6 o6 p7 o7 p8 o8
  obtain ⟨f0, f1, f2, f3, f4, f5, f6, f7, f8, l0⟩ := HG2.out.nine
  obtain ⟨e0, e1, e2, e3, e4, e5, e6, e7, e8, l1⟩ := HV2.out.nine
  have p0 := (HG2.out.2 0 (by omega)).2
  have o0 := (HV2.out.2 0 (by omega)).2
  have p1 := (HG2.out.2 1 (by omega)).2
  have o1 := (HV2.out.2 1 (by omega)).2
  have p2 := (HG2.out.2 2 (by omega)).2
  have o2 := (HV2.out.2 2 (by omega)).2
  have p3 := (HG2.out.2 3 (by omega)).2
  have o3 := (HV2.out.2 3 (by omega)).2
  have p4 := (HG2.out.2 4 (by omega)).2
  have o4 := (HV2.out.2 4 (by omega)).2
  have p5 := (HG2.out.2 5 (by omega)).2
  have o5 := (HV2.out.2 5 (by omega)).2
  have p6 := (HG2.out.2 6 (by omega)).2
  have o6 := (HV2.out.2 6 (by omega)).2
  have p7 := (HG2.out.2 7 (by omega)).2
  have o7 := (HV2.out.2 7 (by omega)).2
  have p8 := (HG2.out.2 8 (by omega)).2
  have o8 := (HV2.out.2 8 (by omega)).2
  have HRM : Hid (Roomy a1 12 c1) := by have := own_roomy HO1.out; rw [HLS.out] at this; exact this
  have HRB2 : Hid (RdBS (fun j => g1 < j) w2 a1 12 S) := by
    have h3 := rdBS_own (S := fun j => g1 < j) HO1.out (fun k hk => by have h7 := (owns_lt HO1.out k hk).1; have h9 := HWZ.out; show g1 < k; omega)
    rw [HLS.out] at h3
    exact h3
  rw [HLS.out]
  go_upto_region 44 with fail
  (repeat (first | go_values | go_skip | go_guarded | go_step | go_upon | (go_simp; go_at_K)))
  refine bodyPost_ret (v := .tuple #[.agg (valCells 7 0 0 0 ⟨#[]⟩ ⟨#[]⟩ 0 a1 12 c1 none 0 0), .int .i64 (qm : Nat)]) (by simp [results, Try.results82, go_sem, valCells, *]) rfl ?_
  exact rval_ok HQ.out (HBA.out.trans (HB2.out.mono HBA.out.size)) HWG.out HG1.out (rdTS_of _ _ (ownOk_k (k := 7) (by omega) okz okz okz (by decide) (by decide) (Nat.zero_le _)) HRB2.out HRM.out trivial rfl (by omega) roomy_nil) (by (repeat' (first | with_reducible exact Chg.refl _ _ | with_reducible refine Chg.drew ?_ | with_reducible refine Chg.setCell ?_ (fun _ => by first | exact Or.inl rfl | exact Or.inr rfl) _)))

set_option maxRecDepth 100000 in
set_option maxHeartbeats 8000000 in
theorem rvl_6 (dd : Nat) (hof : RDcSaid dd) (hsc : RScSaid dd) {rb b o n c : Nat} {L : List UInt8} {d : Nat} {w : World} (h : RRd w rb b o n c L d 0 0) (q z win : Nat) (hq : q ≤ z) (hz : z < n) (hd : z - q ≤ dd) (hw : win + (z - q) ≤ 2000000) :
    Calls Try.prog 82 #[.pointer (some ⟨rb, 0, none⟩), .int .i64 6, .int .i64 (q : Nat), .int .i64 (z : Nat), .int .i64 (win : Nat)] w fun e w' => ∃ r, Q L d (.val 6 q z win) r ∧ RValO rb b o n c L d r w e w' := by
  have hL : L.length = n := h.rd.1
  have hnc := h.nc
  have hnb := h.nb
  obtain ⟨wa, hwa⟩ : ∃ W, W = (w.alloc (.cells #[.int .i64 0, .int .u64 0, .int .u64 0, .int .u64 0, .string ⟨#[]⟩, .string ⟨#[]⟩, .int .i64 0, .slice none 0 0, .slice none 0 0] 26)).alloc (.cells #[.int .i64 6, .int .u64 0, .int .u64 0, .int .u64 0, .string ⟨#[]⟩, .string ⟨#[]⟩, .int .i64 0, .slice none 0 0, .slice none 0 0] 26) := ⟨_, rfl⟩
  have hb0 : Below w.heap.size w (w.alloc (.cells #[.int .i64 0, .int .u64 0, .int .u64 0, .int .u64 0, .string ⟨#[]⟩, .string ⟨#[]⟩, .int .i64 0, .slice none 0 0, .slice none 0 0] 26)) := (Below.refl _ _).alloc (Nat.le_refl _) _
  have hba : Below w.heap.size w wa := by rw [hwa]; exact hb0.alloc hb0.size _
  obtain ⟨g, hg⟩ : ∃ g, g = w.heap.size := ⟨_, rfl⟩
  obtain ⟨g1, hg1⟩ : ∃ g1, g1 = w.heap.size + 1 := ⟨_, rfl⟩
  have hxa : BoxV wa g zCellsV := by rw [hwa, hg]; exact (BoxV.new _ #[.int .i64 0, .int .u64 0, .int .u64 0, .int .u64 0, .string ⟨#[]⟩, .string ⟨#[]⟩, .int .i64 0, .slice none 0 0, .slice none 0 0] _).keep ((Below.refl _ _).alloc (Nat.le_refl _) _)
  have hya : BoxV wa g1 (valCells 6 0 0 0 ⟨#[]⟩ ⟨#[]⟩ 0 none 0 0 none 0 0) := by
    have e : (w.alloc (.cells #[.int .i64 0, .int .u64 0, .int .u64 0, .int .u64 0, .string ⟨#[]⟩, .string ⟨#[]⟩, .int .i64 0, .slice none 0 0, .slice none 0 0] 26)).heap.size = w.heap.size + 1 := by simp
    rw [hwa, hg1, ← e]
    exact BoxV.new _ #[.int .i64 6, .int .u64 0, .int .u64 0, .int .u64 0, .string ⟨#[]⟩, .string ⟨#[]⟩, .int .i64 0, .slice none 0 0, .slice none 0 0] _
  have HGa := Lib.hid hxa
  have HVa := Lib.hid hya
  have HBA := Lib.hid hba
  have HRA := Lib.hid (h.keep hba)
  have HWG : Hid (w.heap.size = g) := hg.symm
  have HG1 : Hid (g1 = g + 1) := by show _ = _; rw [hg, hg1]
  have hwz : wa.heap.size = g1 + 1 := by rw [hwa, hg1]; simp
  have HWZ := Lib.hid hwz
  have hrb : rb < g := by rw [hg]; exact h.lt
  have hbb : b < g := by rw [hg]; simpa using cell_block (h.at q (by omega))
  have HRB := Lib.hid hrb
  have HBB := Lib.hid hbb
  have hng : ¬ g1 = g := by rw [hg, hg1]; omega
  have hng2 : ¬ g = g1 := by rw [hg, hg1]; omega
  have hr1 : ¬ rb = g := by omega
  have hr2 : ¬ rb = g1 := by rw [hg] at hrb; rw [hg1]; omega
  have hr3 : ¬ g = rb := by omega
  have hr4 : ¬ g1 = rb := by rw [hg] at hrb; rw [hg1]; omega
  have hr5 : ¬ b = g1 := by rw [hg] at hbb; rw [hg1]; omega
  have hr6 : ¬ b = g := by omega
  have CB := Lib.hid (fun W (h : RRd W rb b o n c L d 0 0) er a => rdbad_calls h er a)
  have CF : Hid (Calls Try.prog 98 #[.int .i64 6] wa fun e w' => e = .returned (.int .i64 0) ∧ wa = w') := rdfixed_calls 6 wa
  have e1z : IntKind.i64.wrap ((z : Int) - (q : Int)) = (z : Int) - (q : Int) := IntWalk.i64_in _ (by omega)
  have c0 := HRA.out.c0
  have c4 := HRA.out.c4
  obtain ⟨f0, f1, f2, f3, f4, f5, f6, f7, f8, l0⟩ := HGa.out.nine
  obtain ⟨e0, e1, e2, e3, e4, e5, e6, e7, e8, l1⟩ := HVa.out.nine
  have p0 := (HGa.out.2 0 (by omega)).2
  have o0 := (HVa.out.2 0 (by omega)).2
  have p1 := (HGa.out.2 1 (by omega)).2
  have o1 := (HVa.out.2 1 (by omega)).2
  have p2 := (HGa.out.2 2 (by omega)).2
  have o2 := (HVa.out.2 2 (by omega)).2
  have p3 := (HGa.out.2 3 (by omega)).2
  have o3 := (HVa.out.2 3 (by omega)).2
  have p4 := (HGa.out.2 4 (by omega)).2
  have o4 := (HVa.out.2 4 (by omega)).2
  have p5 := (HGa.out.2 5 (by omega)).2
  have o5 := (HVa.out.2 5 (by omega)).2
  have p6 := (HGa.out.2 6 (by omega)).2
  have o6 := (HVa.out.2 6 (by omega)).2
  have p7 := (HGa.out.2 7 (by omega)).2
  have o7 := (HVa.out.2 7 (by omega)).2
  have p8 := (HGa.out.2 8 (by omega)).2
  have o8 := (HVa.out.2 8 (by omega)).2
  clear hba hxa hya hb0 hrb hbb hwz h
  go_enter Try.func82, Try.ntmps82
  go_upto_region 2 with fail
  rw [← hwa, ← hg1, ← hg]
  clear hwa hg1 hg
  go_wp2_with fail
  refine CF.out.mono ?_
  rintro e wx ⟨rfl, rfl⟩
  have d1 : decide ((z : Int) - (q : Int) < 0) = false := by simp; omega
  have d1n : ¬ ((z : Int) < (q : Int)) := by omega
  have d1m : ¬ z < q := by omega
  have e2z : IntKind.i64.wrap (q : Int) = (q : Int) := IntWalk.i64_in _ (by omega)
  have HQ : Hid (Q L d (.val 6 q z win) (.val (.mk ((6 : Nat) : Int) 0 0 0 nt nt 0 [] .nil) q)) := by
    show Q _ _ _ _
    have hl : leafQ L 6 q z = .val (.mk ((6 : Nat) : Int) 0 0 0 nt nt 0 [] .nil) q := by
      have hz2 : ¬ z < q := by omega
      simp [leafQ, fixN, hz2]
    rw [← hl]
    exact .val_leaf (by omega) (by omega) (by omega)
  go_upto_region 44 with fail
  (repeat (first | go_values | go_skip | go_guarded | go_step | go_upon | (go_simp; go_at_K)))
  refine bodyPost_ret (v := .tuple #[.agg (valCells 6 0 0 0 ⟨#[]⟩ ⟨#[]⟩ 0 none 0 0 none 0 0), .int .i64 (q : Nat)]) (by simp [results, Try.results82, go_sem, valCells, *]) rfl ?_
  exact rval_ok HQ.out HBA.out HWG.out HG1.out (rdTS_leaf _ _ (ownOk_k (k := 6) (by omega) okz okz okz (by decide) (by decide) (Nat.zero_le _))) (by (repeat' (first | with_reducible exact Chg.refl _ _ | with_reducible refine Chg.drew ?_ | with_reducible refine Chg.setCell ?_ (fun _ => by first | exact Or.inl rfl | exact Or.inr rfl) _)))

set_option maxRecDepth 100000 in
set_option maxHeartbeats 8000000 in
theorem rvl_10 (dd : Nat) (hof : RDcSaid dd) (hsc : RScSaid dd) {rb b o n c : Nat} {L : List UInt8} {d : Nat} {w : World} (h : RRd w rb b o n c L d 0 0) (q z win : Nat) (hq : q ≤ z) (hz : z < n) (hd : z - q ≤ dd) (hw : win + (z - q) ≤ 2000000) :
    Calls Try.prog 82 #[.pointer (some ⟨rb, 0, none⟩), .int .i64 10, .int .i64 (q : Nat), .int .i64 (z : Nat), .int .i64 (win : Nat)] w fun e w' => ∃ r, Q L d (.val 10 q z win) r ∧ RValO rb b o n c L d r w e w' := by
  have hL : L.length = n := h.rd.1
  have hnc := h.nc
  have hnb := h.nb
  obtain ⟨wa, hwa⟩ : ∃ W, W = (w.alloc (.cells #[.int .i64 0, .int .u64 0, .int .u64 0, .int .u64 0, .string ⟨#[]⟩, .string ⟨#[]⟩, .int .i64 0, .slice none 0 0, .slice none 0 0] 26)).alloc (.cells #[.int .i64 10, .int .u64 0, .int .u64 0, .int .u64 0, .string ⟨#[]⟩, .string ⟨#[]⟩, .int .i64 0, .slice none 0 0, .slice none 0 0] 26) := ⟨_, rfl⟩
  have hb0 : Below w.heap.size w (w.alloc (.cells #[.int .i64 0, .int .u64 0, .int .u64 0, .int .u64 0, .string ⟨#[]⟩, .string ⟨#[]⟩, .int .i64 0, .slice none 0 0, .slice none 0 0] 26)) := (Below.refl _ _).alloc (Nat.le_refl _) _
  have hba : Below w.heap.size w wa := by rw [hwa]; exact hb0.alloc hb0.size _
  obtain ⟨g, hg⟩ : ∃ g, g = w.heap.size := ⟨_, rfl⟩
  obtain ⟨g1, hg1⟩ : ∃ g1, g1 = w.heap.size + 1 := ⟨_, rfl⟩
  have hxa : BoxV wa g zCellsV := by rw [hwa, hg]; exact (BoxV.new _ #[.int .i64 0, .int .u64 0, .int .u64 0, .int .u64 0, .string ⟨#[]⟩, .string ⟨#[]⟩, .int .i64 0, .slice none 0 0, .slice none 0 0] _).keep ((Below.refl _ _).alloc (Nat.le_refl _) _)
  have hya : BoxV wa g1 (valCells 10 0 0 0 ⟨#[]⟩ ⟨#[]⟩ 0 none 0 0 none 0 0) := by
    have e : (w.alloc (.cells #[.int .i64 0, .int .u64 0, .int .u64 0, .int .u64 0, .string ⟨#[]⟩, .string ⟨#[]⟩, .int .i64 0, .slice none 0 0, .slice none 0 0] 26)).heap.size = w.heap.size + 1 := by simp
    rw [hwa, hg1, ← e]
    exact BoxV.new _ #[.int .i64 10, .int .u64 0, .int .u64 0, .int .u64 0, .string ⟨#[]⟩, .string ⟨#[]⟩, .int .i64 0, .slice none 0 0, .slice none 0 0] _
  have HGa := Lib.hid hxa
  have HVa := Lib.hid hya
  have HBA := Lib.hid hba
  have HRA := Lib.hid (h.keep hba)
  have HWG : Hid (w.heap.size = g) := hg.symm
  have HG1 : Hid (g1 = g + 1) := by show _ = _; rw [hg, hg1]
  have hwz : wa.heap.size = g1 + 1 := by rw [hwa, hg1]; simp
  have HWZ := Lib.hid hwz
  have hrb : rb < g := by rw [hg]; exact h.lt
  have hbb : b < g := by rw [hg]; simpa using cell_block (h.at q (by omega))
  have HRB := Lib.hid hrb
  have HBB := Lib.hid hbb
  have hng : ¬ g1 = g := by rw [hg, hg1]; omega
  have hng2 : ¬ g = g1 := by rw [hg, hg1]; omega
  have hr1 : ¬ rb = g := by omega
  have hr2 : ¬ rb = g1 := by rw [hg] at hrb; rw [hg1]; omega
  have hr3 : ¬ g = rb := by omega
  have hr4 : ¬ g1 = rb := by rw [hg] at hrb; rw [hg1]; omega
  have hr5 : ¬ b = g1 := by rw [hg] at hbb; rw [hg1]; omega
  have hr6 : ¬ b = g := by omega
  have CB := Lib.hid (fun W (h : RRd W rb b o n c L d 0 0) er a => rdbad_calls h er a)
  have CF : Hid (Calls Try.prog 98 #[.int .i64 10] wa fun e w' => e = .returned (.int .i64 0) ∧ wa = w') := rdfixed_calls 10 wa
  have e1z : IntKind.i64.wrap ((z : Int) - (q : Int)) = (z : Int) - (q : Int) := IntWalk.i64_in _ (by omega)
  have c0 := HRA.out.c0
  have c4 := HRA.out.c4
  obtain ⟨f0, f1, f2, f3, f4, f5, f6, f7, f8, l0⟩ := HGa.out.nine
  obtain ⟨e0, e1, e2, e3, e4, e5, e6, e7, e8, l1⟩ := HVa.out.nine
  have p0 := (HGa.out.2 0 (by omega)).2
  have o0 := (HVa.out.2 0 (by omega)).2
  have p1 := (HGa.out.2 1 (by omega)).2
  have o1 := (HVa.out.2 1 (by omega)).2
  have p2 := (HGa.out.2 2 (by omega)).2
  have o2 := (HVa.out.2 2 (by omega)).2
  have p3 := (HGa.out.2 3 (by omega)).2
  have o3 := (HVa.out.2 3 (by omega)).2
  have p4 := (HGa.out.2 4 (by omega)).2
  have o4 := (HVa.out.2 4 (by omega)).2
  have p5 := (HGa.out.2 5 (by omega)).2
  have o5 := (HVa.out.2 5 (by omega)).2
  have p6 := (HGa.out.2 6 (by omega)).2
  have o6 := (HVa.out.2 6 (by omega)).2
  have p7 := (HGa.out.2 7 (by omega)).2
  have o7 := (HVa.out.2 7 (by omega)).2
  have p8 := (HGa.out.2 8 (by omega)).2
  have o8 := (HVa.out.2 8 (by omega)).2
  clear hba hxa hya hb0 hrb hbb hwz h
  go_enter Try.func82, Try.ntmps82
  go_upto_region 2 with fail
  rw [← hwa, ← hg1, ← hg]
  clear hwa hg1 hg
  go_wp2_with fail
  refine CF.out.mono ?_
  rintro e wx ⟨rfl, rfl⟩
  have d1 : decide ((z : Int) - (q : Int) < 0) = false := by simp; omega
  have d1n : ¬ ((z : Int) < (q : Int)) := by omega
  have d1m : ¬ z < q := by omega
  have e2z : IntKind.i64.wrap (q : Int) = (q : Int) := IntWalk.i64_in _ (by omega)
  have HQ : Hid (Q L d (.val 10 q z win) (.val (.mk ((10 : Nat) : Int) 0 0 0 nt nt 0 [] .nil) q)) := by
    show Q _ _ _ _
    have hl : leafQ L 10 q z = .val (.mk ((10 : Nat) : Int) 0 0 0 nt nt 0 [] .nil) q := by
      have hz2 : ¬ z < q := by omega
      simp [leafQ, fixN, hz2]
    rw [← hl]
    exact .val_leaf (by omega) (by omega) (by omega)
  go_upto_region 44 with fail
  (repeat (first | go_values | go_skip | go_guarded | go_step | go_upon | (go_simp; go_at_K)))
  refine bodyPost_ret (v := .tuple #[.agg (valCells 10 0 0 0 ⟨#[]⟩ ⟨#[]⟩ 0 none 0 0 none 0 0), .int .i64 (q : Nat)]) (by simp [results, Try.results82, go_sem, valCells, *]) rfl ?_
  exact rval_ok HQ.out HBA.out HWG.out HG1.out (rdTS_leaf _ _ (ownOk_k (k := 10) (by omega) okz okz okz (by decide) (by decide) (Nat.zero_le _))) (by (repeat' (first | with_reducible exact Chg.refl _ _ | with_reducible refine Chg.drew ?_ | with_reducible refine Chg.setCell ?_ (fun _ => by first | exact Or.inl rfl | exact Or.inr rfl) _)))

set_option maxRecDepth 100000 in
set_option maxHeartbeats 8000000 in
theorem rvl_127 (dd : Nat) (hof : RDcSaid dd) (hsc : RScSaid dd) {rb b o n c : Nat} {L : List UInt8} {d : Nat} {w : World} (h : RRd w rb b o n c L d 0 0) (q z win : Nat) (hq : q ≤ z) (hz : z < n) (hd : z - q ≤ dd) (hw : win + (z - q) ≤ 2000000) :
    Calls Try.prog 82 #[.pointer (some ⟨rb, 0, none⟩), .int .i64 127, .int .i64 (q : Nat), .int .i64 (z : Nat), .int .i64 (win : Nat)] w fun e w' => ∃ r, Q L d (.val 127 q z win) r ∧ RValO rb b o n c L d r w e w' := by
  have hL : L.length = n := h.rd.1
  have hnc := h.nc
  have hnb := h.nb
  obtain ⟨wa, hwa⟩ : ∃ W, W = (w.alloc (.cells #[.int .i64 0, .int .u64 0, .int .u64 0, .int .u64 0, .string ⟨#[]⟩, .string ⟨#[]⟩, .int .i64 0, .slice none 0 0, .slice none 0 0] 26)).alloc (.cells #[.int .i64 127, .int .u64 0, .int .u64 0, .int .u64 0, .string ⟨#[]⟩, .string ⟨#[]⟩, .int .i64 0, .slice none 0 0, .slice none 0 0] 26) := ⟨_, rfl⟩
  have hb0 : Below w.heap.size w (w.alloc (.cells #[.int .i64 0, .int .u64 0, .int .u64 0, .int .u64 0, .string ⟨#[]⟩, .string ⟨#[]⟩, .int .i64 0, .slice none 0 0, .slice none 0 0] 26)) := (Below.refl _ _).alloc (Nat.le_refl _) _
  have hba : Below w.heap.size w wa := by rw [hwa]; exact hb0.alloc hb0.size _
  obtain ⟨g, hg⟩ : ∃ g, g = w.heap.size := ⟨_, rfl⟩
  obtain ⟨g1, hg1⟩ : ∃ g1, g1 = w.heap.size + 1 := ⟨_, rfl⟩
  have hxa : BoxV wa g zCellsV := by rw [hwa, hg]; exact (BoxV.new _ #[.int .i64 0, .int .u64 0, .int .u64 0, .int .u64 0, .string ⟨#[]⟩, .string ⟨#[]⟩, .int .i64 0, .slice none 0 0, .slice none 0 0] _).keep ((Below.refl _ _).alloc (Nat.le_refl _) _)
  have hya : BoxV wa g1 (valCells 127 0 0 0 ⟨#[]⟩ ⟨#[]⟩ 0 none 0 0 none 0 0) := by
    have e : (w.alloc (.cells #[.int .i64 0, .int .u64 0, .int .u64 0, .int .u64 0, .string ⟨#[]⟩, .string ⟨#[]⟩, .int .i64 0, .slice none 0 0, .slice none 0 0] 26)).heap.size = w.heap.size + 1 := by simp
    rw [hwa, hg1, ← e]
    exact BoxV.new _ #[.int .i64 127, .int .u64 0, .int .u64 0, .int .u64 0, .string ⟨#[]⟩, .string ⟨#[]⟩, .int .i64 0, .slice none 0 0, .slice none 0 0] _
  have HGa := Lib.hid hxa
  have HVa := Lib.hid hya
  have HBA := Lib.hid hba
  have HRA := Lib.hid (h.keep hba)
  have HWG : Hid (w.heap.size = g) := hg.symm
  have HG1 : Hid (g1 = g + 1) := by show _ = _; rw [hg, hg1]
  have hwz : wa.heap.size = g1 + 1 := by rw [hwa, hg1]; simp
  have HWZ := Lib.hid hwz
  have hrb : rb < g := by rw [hg]; exact h.lt
  have hbb : b < g := by rw [hg]; simpa using cell_block (h.at q (by omega))
  have HRB := Lib.hid hrb
  have HBB := Lib.hid hbb
  have hng : ¬ g1 = g := by rw [hg, hg1]; omega
  have hng2 : ¬ g = g1 := by rw [hg, hg1]; omega
  have hr1 : ¬ rb = g := by omega
  have hr2 : ¬ rb = g1 := by rw [hg] at hrb; rw [hg1]; omega
  have hr3 : ¬ g = rb := by omega
  have hr4 : ¬ g1 = rb := by rw [hg] at hrb; rw [hg1]; omega
  have hr5 : ¬ b = g1 := by rw [hg] at hbb; rw [hg1]; omega
  have hr6 : ¬ b = g := by omega
  have CB := Lib.hid (fun W (h : RRd W rb b o n c L d 0 0) er a => rdbad_calls h er a)
  have CF : Hid (Calls Try.prog 98 #[.int .i64 127] wa fun e w' => e = .returned (.int .i64 0) ∧ wa = w') := rdfixed_calls 127 wa
  have e1z : IntKind.i64.wrap ((z : Int) - (q : Int)) = (z : Int) - (q : Int) := IntWalk.i64_in _ (by omega)
  have c0 := HRA.out.c0
  have c4 := HRA.out.c4
  obtain ⟨f0, f1, f2, f3, f4, f5, f6, f7, f8, l0⟩ := HGa.out.nine
  obtain ⟨e0, e1, e2, e3, e4, e5, e6, e7, e8, l1⟩ := HVa.out.nine
  have p0 := (HGa.out.2 0 (by omega)).2
  have o0 := (HVa.out.2 0 (by omega)).2
  have p1 := (HGa.out.2 1 (by omega)).2
  have o1 := (HVa.out.2 1 (by omega)).2
  have p2 := (HGa.out.2 2 (by omega)).2
  have o2 := (HVa.out.2 2 (by omega)).2
  have p3 := (HGa.out.2 3 (by omega)).2
  have o3 := (HVa.out.2 3 (by omega)).2
  have p4 := (HGa.out.2 4 (by omega)).2
  have o4 := (HVa.out.2 4 (by omega)).2
  have p5 := (HGa.out.2 5 (by omega)).2
  have o5 := (HVa.out.2 5 (by omega)).2
  have p6 := (HGa.out.2 6 (by omega)).2
  have o6 := (HVa.out.2 6 (by omega)).2
  have p7 := (HGa.out.2 7 (by omega)).2
  have o7 := (HVa.out.2 7 (by omega)).2
  have p8 := (HGa.out.2 8 (by omega)).2
  have o8 := (HVa.out.2 8 (by omega)).2
  clear hba hxa hya hb0 hrb hbb hwz h
  go_enter Try.func82, Try.ntmps82
  go_upto_region 2 with fail
  rw [← hwa, ← hg1, ← hg]
  clear hwa hg1 hg
  go_wp2_with fail
  refine CF.out.mono ?_
  rintro e wx ⟨rfl, rfl⟩
  have d1 : decide ((z : Int) - (q : Int) < 0) = false := by simp; omega
  have d1n : ¬ ((z : Int) < (q : Int)) := by omega
  have d1m : ¬ z < q := by omega
  have e2z : IntKind.i64.wrap (q : Int) = (q : Int) := IntWalk.i64_in _ (by omega)
  have HQ : Hid (Q L d (.val 127 q z win) (.val (.mk ((127 : Nat) : Int) 0 0 0 nt nt 0 [] .nil) q)) := by
    show Q _ _ _ _
    have hl : leafQ L 127 q z = .val (.mk ((127 : Nat) : Int) 0 0 0 nt nt 0 [] .nil) q := by
      have hz2 : ¬ z < q := by omega
      simp [leafQ, fixN, hz2]
    rw [← hl]
    exact .val_leaf (by omega) (by omega) (by omega)
  go_upto_region 44 with fail
  (repeat (first | go_values | go_skip | go_guarded | go_step | go_upon | (go_simp; go_at_K)))
  refine bodyPost_ret (v := .tuple #[.agg (valCells 127 0 0 0 ⟨#[]⟩ ⟨#[]⟩ 0 none 0 0 none 0 0), .int .i64 (q : Nat)]) (by simp [results, Try.results82, go_sem, valCells, *]) rfl ?_
  exact rval_ok HQ.out HBA.out HWG.out HG1.out (rdTS_leaf _ _ (ownOk_k (k := 127) (by omega) okz okz okz (by decide) (by decide) (Nat.zero_le _))) (by (repeat' (first | with_reducible exact Chg.refl _ _ | with_reducible refine Chg.drew ?_ | with_reducible refine Chg.setCell ?_ (fun _ => by first | exact Or.inl rfl | exact Or.inr rfl) _)))

set_option maxRecDepth 100000 in
set_option maxHeartbeats 8000000 in
theorem rvl_255 (dd : Nat) (hof : RDcSaid dd) (hsc : RScSaid dd) {rb b o n c : Nat} {L : List UInt8} {d : Nat} {w : World} (h : RRd w rb b o n c L d 0 0) (q z win : Nat) (hq : q ≤ z) (hz : z < n) (hd : z - q ≤ dd) (hw : win + (z - q) ≤ 2000000) :
    Calls Try.prog 82 #[.pointer (some ⟨rb, 0, none⟩), .int .i64 255, .int .i64 (q : Nat), .int .i64 (z : Nat), .int .i64 (win : Nat)] w fun e w' => ∃ r, Q L d (.val 255 q z win) r ∧ RValO rb b o n c L d r w e w' := by
  have hL : L.length = n := h.rd.1
  have hnc := h.nc
  have hnb := h.nb
  obtain ⟨wa, hwa⟩ : ∃ W, W = (w.alloc (.cells #[.int .i64 0, .int .u64 0, .int .u64 0, .int .u64 0, .string ⟨#[]⟩, .string ⟨#[]⟩, .int .i64 0, .slice none 0 0, .slice none 0 0] 26)).alloc (.cells #[.int .i64 255, .int .u64 0, .int .u64 0, .int .u64 0, .string ⟨#[]⟩, .string ⟨#[]⟩, .int .i64 0, .slice none 0 0, .slice none 0 0] 26) := ⟨_, rfl⟩
  have hb0 : Below w.heap.size w (w.alloc (.cells #[.int .i64 0, .int .u64 0, .int .u64 0, .int .u64 0, .string ⟨#[]⟩, .string ⟨#[]⟩, .int .i64 0, .slice none 0 0, .slice none 0 0] 26)) := (Below.refl _ _).alloc (Nat.le_refl _) _
  have hba : Below w.heap.size w wa := by rw [hwa]; exact hb0.alloc hb0.size _
  obtain ⟨g, hg⟩ : ∃ g, g = w.heap.size := ⟨_, rfl⟩
  obtain ⟨g1, hg1⟩ : ∃ g1, g1 = w.heap.size + 1 := ⟨_, rfl⟩
  have hxa : BoxV wa g zCellsV := by rw [hwa, hg]; exact (BoxV.new _ #[.int .i64 0, .int .u64 0, .int .u64 0, .int .u64 0, .string ⟨#[]⟩, .string ⟨#[]⟩, .int .i64 0, .slice none 0 0, .slice none 0 0] _).keep ((Below.refl _ _).alloc (Nat.le_refl _) _)
  have hya : BoxV wa g1 (valCells 255 0 0 0 ⟨#[]⟩ ⟨#[]⟩ 0 none 0 0 none 0 0) := by
    have e : (w.alloc (.cells #[.int .i64 0, .int .u64 0, .int .u64 0, .int .u64 0, .string ⟨#[]⟩, .string ⟨#[]⟩, .int .i64 0, .slice none 0 0, .slice none 0 0] 26)).heap.size = w.heap.size + 1 := by simp
    rw [hwa, hg1, ← e]
    exact BoxV.new _ #[.int .i64 255, .int .u64 0, .int .u64 0, .int .u64 0, .string ⟨#[]⟩, .string ⟨#[]⟩, .int .i64 0, .slice none 0 0, .slice none 0 0] _
  have HGa := Lib.hid hxa
  have HVa := Lib.hid hya
  have HBA := Lib.hid hba
  have HRA := Lib.hid (h.keep hba)
  have HWG : Hid (w.heap.size = g) := hg.symm
  have HG1 : Hid (g1 = g + 1) := by show _ = _; rw [hg, hg1]
  have hwz : wa.heap.size = g1 + 1 := by rw [hwa, hg1]; simp
  have HWZ := Lib.hid hwz
  have hrb : rb < g := by rw [hg]; exact h.lt
  have hbb : b < g := by rw [hg]; simpa using cell_block (h.at q (by omega))
  have HRB := Lib.hid hrb
  have HBB := Lib.hid hbb
  have hng : ¬ g1 = g := by rw [hg, hg1]; omega
  have hng2 : ¬ g = g1 := by rw [hg, hg1]; omega
  have hr1 : ¬ rb = g := by omega
  have hr2 : ¬ rb = g1 := by rw [hg] at hrb; rw [hg1]; omega
  have hr3 : ¬ g = rb := by omega
  have hr4 : ¬ g1 = rb := by rw [hg] at hrb; rw [hg1]; omega
  have hr5 : ¬ b = g1 := by rw [hg] at hbb; rw [hg1]; omega
  have hr6 : ¬ b = g := by omega
  have CB := Lib.hid (fun W (h : RRd W rb b o n c L d 0 0) er a => rdbad_calls h er a)
  have CF : Hid (Calls Try.prog 98 #[.int .i64 255] wa fun e w' => e = .returned (.int .i64 0) ∧ wa = w') := rdfixed_calls 255 wa
  have e1z : IntKind.i64.wrap ((z : Int) - (q : Int)) = (z : Int) - (q : Int) := IntWalk.i64_in _ (by omega)
  have c0 := HRA.out.c0
  have c4 := HRA.out.c4
  obtain ⟨f0, f1, f2, f3, f4, f5, f6, f7, f8, l0⟩ := HGa.out.nine
  obtain ⟨e0, e1, e2, e3, e4, e5, e6, e7, e8, l1⟩ := HVa.out.nine
  have p0 := (HGa.out.2 0 (by omega)).2
  have o0 := (HVa.out.2 0 (by omega)).2
  have p1 := (HGa.out.2 1 (by omega)).2
  have o1 := (HVa.out.2 1 (by omega)).2
  have p2 := (HGa.out.2 2 (by omega)).2
  have o2 := (HVa.out.2 2 (by omega)).2
  have p3 := (HGa.out.2 3 (by omega)).2
  have o3 := (HVa.out.2 3 (by omega)).2
  have p4 := (HGa.out.2 4 (by omega)).2
  have o4 := (HVa.out.2 4 (by omega)).2
  have p5 := (HGa.out.2 5 (by omega)).2
  have o5 := (HVa.out.2 5 (by omega)).2
  have p6 := (HGa.out.2 6 (by omega)).2
  have o6 := (HVa.out.2 6 (by omega)).2
  have p7 := (HGa.out.2 7 (by omega)).2
  have o7 := (HVa.out.2 7 (by omega)).2
  have p8 := (HGa.out.2 8 (by omega)).2
  have o8 := (HVa.out.2 8 (by omega)).2
  clear hba hxa hya hb0 hrb hbb hwz h
  go_enter Try.func82, Try.ntmps82
  go_upto_region 2 with fail
  rw [← hwa, ← hg1, ← hg]
  clear hwa hg1 hg
  go_wp2_with fail
  refine CF.out.mono ?_
  rintro e wx ⟨rfl, rfl⟩
  have d1 : decide ((z : Int) - (q : Int) < 0) = false := by simp; omega
  have d1n : ¬ ((z : Int) < (q : Int)) := by omega
  have d1m : ¬ z < q := by omega
  have e2z : IntKind.i64.wrap (q : Int) = (q : Int) := IntWalk.i64_in _ (by omega)
  have HQ : Hid (Q L d (.val 255 q z win) (.val (.mk ((255 : Nat) : Int) 0 0 0 nt nt 0 [] .nil) q)) := by
    show Q _ _ _ _
    have hl : leafQ L 255 q z = .val (.mk ((255 : Nat) : Int) 0 0 0 nt nt 0 [] .nil) q := by
      have hz2 : ¬ z < q := by omega
      simp [leafQ, fixN, hz2]
    rw [← hl]
    exact .val_leaf (by omega) (by omega) (by omega)
  go_upto_region 44 with fail
  (repeat (first | go_values | go_skip | go_guarded | go_step | go_upon | (go_simp; go_at_K)))
  refine bodyPost_ret (v := .tuple #[.agg (valCells 255 0 0 0 ⟨#[]⟩ ⟨#[]⟩ 0 none 0 0 none 0 0), .int .i64 (q : Nat)]) (by simp [results, Try.results82, go_sem, valCells, *]) rfl ?_
  exact rval_ok HQ.out HBA.out HWG.out HG1.out (rdTS_leaf _ _ (ownOk_k (k := 255) (by omega) okz okz okz (by decide) (by decide) (Nat.zero_le _))) (by (repeat' (first | with_reducible exact Chg.refl _ _ | with_reducible refine Chg.drew ?_ | with_reducible refine Chg.setCell ?_ (fun _ => by first | exact Or.inl rfl | exact Or.inr rfl) _)))

end Go.Proofs.Ytkcfkdmffbhljaa
