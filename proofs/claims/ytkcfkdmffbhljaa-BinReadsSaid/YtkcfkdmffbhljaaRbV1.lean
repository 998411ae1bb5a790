/- The reference's value: the Kinds 1, 9, 17, 18, 16, 8. -/
import Derived.Test.YtkcfkdmffbhljaaRbV0
namespace Go.Proofs.Ytkcfkdmffbhljaa
open Go.RowKit
set_option linter.unusedVariables false
set_option linter.unusedSimpArgs false

set_option maxRecDepth 100000 in
set_option maxHeartbeats 8000000 in
theorem rvl_1 (dd : Nat) (hof : RDcSaid dd) (hsc : RScSaid dd) {rb b o n c : Nat} {L : List UInt8} {d : Nat} {w : World} (h : RRd w rb b o n c L d 0 0) (q z win : Nat) (hq : q ≤ z) (hz : z < n) (hd : z - q ≤ dd) (hw : win + (z - q) ≤ 2000000) :
    Calls Try.prog 82 #[.pointer (some ⟨rb, 0, none⟩), .int .i64 1, .int .i64 (q : Nat), .int .i64 (z : Nat), .int .i64 (win : Nat)] w fun e w' => ∃ r, Q L d (.val 1 q z win) r ∧ RValO rb b o n c L d r w e w' := by
  have hL : L.length = n := h.rd.1
  have hnc := h.nc
  have hnb := h.nb
  obtain ⟨wa, hwa⟩ : ∃ W, W = (w.alloc (.cells #[.int .i64 0, .int .u64 0, .int .u64 0, .int .u64 0, .string ⟨#[]⟩, .string ⟨#[]⟩, .int .i64 0, .slice none 0 0, .slice none 0 0] 26)).alloc (.cells #[.int .i64 1, .int .u64 0, .int .u64 0, .int .u64 0, .string ⟨#[]⟩, .string ⟨#[]⟩, .int .i64 0, .slice none 0 0, .slice none 0 0] 26) := ⟨_, rfl⟩
  have hb0 : Below w.heap.size w (w.alloc (.cells #[.int .i64 0, .int .u64 0, .int .u64 0, .int .u64 0, .string ⟨#[]⟩, .string ⟨#[]⟩, .int .i64 0, .slice none 0 0, .slice none 0 0] 26)) := (Below.refl _ _).alloc (Nat.le_refl _) _
  have hba : Below w.heap.size w wa := by rw [hwa]; exact hb0.alloc hb0.size _
  obtain ⟨g, hg⟩ : ∃ g, g = w.heap.size := ⟨_, rfl⟩
  obtain ⟨g1, hg1⟩ : ∃ g1, g1 = w.heap.size + 1 := ⟨_, rfl⟩
  have hxa : BoxV wa g zCellsV := by rw [hwa, hg]; exact (BoxV.new _ #[.int .i64 0, .int .u64 0, .int .u64 0, .int .u64 0, .string ⟨#[]⟩, .string ⟨#[]⟩, .int .i64 0, .slice none 0 0, .slice none 0 0] _).keep ((Below.refl _ _).alloc (Nat.le_refl _) _)
  have hya : BoxV wa g1 (valCells 1 0 0 0 ⟨#[]⟩ ⟨#[]⟩ 0 none 0 0 none 0 0) := by
    have e : (w.alloc (.cells #[.int .i64 0, .int .u64 0, .int .u64 0, .int .u64 0, .string ⟨#[]⟩, .string ⟨#[]⟩, .int .i64 0, .slice none 0 0, .slice none 0 0] 26)).heap.size = w.heap.size + 1 := by simp
    rw [hwa, hg1, ← e]
    exact BoxV.new _ #[.int .i64 1, .int .u64 0, .int .u64 0, .int .u64 0, .string ⟨#[]⟩, .string ⟨#[]⟩, .int .i64 0, .slice none 0 0, .slice none 0 0] _
  have HGa := Lib.hid hxa
  have HVa := Lib.hid hya
  have HBA := Lib.hid hba
  have HRA := Lib.hid (h.keep hba)
  have HWG : Hid (w.heap.size = g) := hg.symm
  have HG1 : Hid (g1 = g + 1) := by show _ = _; rw [hg, hg1]
  have hwz : wa.heap.size = g1 + 1 := by rw [hwa, hg1]; simp
  have HWZ := Lib.hid hwz
  have hrb : rb < g := by rw [hg]; exact h.lt
  have hbb : b < g := by rw [hg]; simpa using cell_block (h.at q (by omega))
  have HRB := Lib.hid hrb
  have HBB := Lib.hid hbb
  have hng : ¬ g1 = g := by rw [hg, hg1]; omega
  have hng2 : ¬ g = g1 := by rw [hg, hg1]; omega
  have hr1 : ¬ rb = g := by omega
  have hr2 : ¬ rb = g1 := by rw [hg] at hrb; rw [hg1]; omega
  have hr3 : ¬ g = rb := by omega
  have hr4 : ¬ g1 = rb := by rw [hg] at hrb; rw [hg1]; omega
  have hr5 : ¬ b = g1 := by rw [hg] at hbb; rw [hg1]; omega
  have hr6 : ¬ b = g := by omega
  have CB := Lib.hid (fun W (h : RRd W rb b o n c L d 0 0) er a => rdbad_calls h er a)
  have CF : Hid (Calls Try.prog 98 #[.int .i64 1] wa fun e w' => e = .returned (.int .i64 8) ∧ wa = w') := rdfixed_calls 1 wa
  have e1z : IntKind.i64.wrap ((z : Int) - (q : Int)) = (z : Int) - (q : Int) := IntWalk.i64_in _ (by omega)
  have c0 := HRA.out.c0
  have c4 := HRA.out.c4
  obtain ⟨f0, f1, f2, f3, f4, f5, f6, f7, f8, l0⟩ := HGa.out.nine
  obtain ⟨e0, e1, e2, e3, e4, e5, e6, e7, e8, l1⟩ := HVa.out.nine
  have p0 := (HGa.out.2 0 (by omega)).2
  have o0 := (HVa.out.2 0 (by omega)).2
  have p1 := (HGa.out.2 1 (by omega)).2
  have o1 := (HVa.out.2 1 (by omega)).2
  have p2 := (HGa.out.2 2 (by omega)).2
  have o2 := (HVa.out.2 2 (by omega)).2
  have p3 := (HGa.out.2 3 (by omega)).2
  have o3 := (HVa.out.2 3 (by omega)).2
  have p4 := (HGa.out.2 4 (by omega)).2
  have o4 := (HVa.out.2 4 (by omega)).2
  have p5 := (HGa.out.2 5 (by omega)).2
  have o5 := (HVa.out.2 5 (by omega)).2
  have p6 := (HGa.out.2 6 (by omega)).2
  have o6 := (HVa.out.2 6 (by omega)).2
  have p7 := (HGa.out.2 7 (by omega)).2
  have o7 := (HVa.out.2 7 (by omega)).2
  have p8 := (HGa.out.2 8 (by omega)).2
  have o8 := (HVa.out.2 8 (by omega)).2
  clear hba hxa hya hb0 hrb hbb hwz h
  go_enter Try.func82, Try.ntmps82
  go_upto_region 2 with fail
  rw [← hwa, ← hg1, ← hg]
  clear hwa hg1 hg
  go_wp2_with fail
  refine CF.out.mono ?_
  rintro e wx ⟨rfl, rfl⟩
  by_cases hsh : z < q + 8
  · have HX : Hid (Q L d (.val 1 q z win) (.bad 2 q)) := by
      have hl : leafQ L 1 q z = .bad 2 q := by unfold leafQ; rw [if_pos (by simp [fixN]; omega)]
      rw [← hl]
      exact .val_leaf (by omega) (by omega) (by omega)
    have d1 : decide ((z : Int) - (q : Int) < 8) = true := by simp; omega
    clear hsh
    go_wp2_with fail
    refine (CB.out _ HRA.out 2 q).mono ?_
    rintro e wx ⟨rfl, hE⟩
    have HEx := Lib.hid hE
    have HGx := Lib.hid (HGa.out.chg hE.2 (fun e => hr3 e))
    have HVx := Lib.hid (HVa.out.chg hE.2 (fun e => hr4 e))
    have c4 := hE.1.c4
    clear hE
    clear f0 f1 f2 f3 f4 f5 f6 f7 f8 l0 e0 e1 e2 e3 e4 e5 e6 e7 e8 l1 p0 o0 p1 o1 p2 o2 p3 o3 p4 o4 p5 o5 p6 o6 p7 o7 p8 o8
    obtain ⟨f0, f1, f2, f3, f4, f5, f6, f7, f8, l0⟩ := HGx.out.nine
    obtain ⟨e0, e1, e2, e3, e4, e5, e6, e7, e8, l1⟩ := HVx.out.nine
    have p0 := (HGx.out.2 0 (by omega)).2
    have o0 := (HVx.out.2 0 (by omega)).2
    have p1 := (HGx.out.2 1 (by omega)).2
    have o1 := (HVx.out.2 1 (by omega)).2
    have p2 := (HGx.out.2 2 (by omega)).2
    have o2 := (HVx.out.2 2 (by omega)).2
    have p3 := (HGx.out.2 3 (by omega)).2
    have o3 := (HVx.out.2 3 (by omega)).2
    have p4 := (HGx.out.2 4 (by omega)).2
    have o4 := (HVx.out.2 4 (by omega)).2
    have p5 := (HGx.out.2 5 (by omega)).2
    have o5 := (HVx.out.2 5 (by omega)).2
    have p6 := (HGx.out.2 6 (by omega)).2
    have o6 := (HVx.out.2 6 (by omega)).2
    have p7 := (HGx.out.2 7 (by omega)).2
    have o7 := (HVx.out.2 7 (by omega)).2
    have p8 := (HGx.out.2 8 (by omega)).2
    have o8 := (HVx.out.2 8 (by omega)).2
    go_upto_region 5 with fail
    (repeat (first | go_values | go_skip | go_guarded | go_step | go_upon | (go_simp; go_at_K)))
    refine bodyPost_ret (v := .tuple #[.agg zCellsV, .int .i64 0]) (by simp [results, Try.results82, go_sem, valCells, *]) rfl ?_
    exact rval_bad (nx := 0) HX.out HBA.out HEx.out HWG.out HG1.out HRB.out HBB.out (by (repeat' (first | with_reducible exact Chg.refl _ _ | with_reducible refine Chg.drew ?_ | with_reducible refine Chg.setCell ?_ (fun _ => by first | exact Or.inl rfl | exact Or.inr rfl) _))) (isV_mk 0 0 0 0 ⟨#[]⟩ ⟨#[]⟩ 0 none 0 0 none 0 0)
  have d1 : decide ((z : Int) - (q : Int) < 8) = false := by simp; omega
  have hsh2 : q + 8 ≤ z := by omega
  obtain ⟨qm, hqm⟩ : ∃ x, x = q + 8 := ⟨_, rfl⟩
  have e2z : IntKind.i64.wrap ((q : Int) + 8) = (qm : Int) := (IntWalk.i64_in _ (by omega)).trans (by omega)
  have HQM := Lib.hid hqm
  obtain ⟨X, hX⟩ : ∃ X, X = le (seg L q 8) := ⟨_, rfl⟩
  have CL : Hid (Calls Try.prog 30 #[.slice (some ⟨b, o, none⟩) n c, .int .i64 (q : Nat), .int .i64 8] wa fun e w' => e = .returned (.tuple #[.int .u64 (X : Nat), .bool true]) ∧ wa = w') := by
    rw [hX]
    exact low_yes (some ⟨b, o, none⟩) n c q 8 wa L HRA.out.rd (by omega) (by omega) (by omega)
  have hXo : X < okSize := by rw [hX]; exact le_pow8 _ _ _ (by omega)
  have HXo := Lib.hid hXo
  have HXX := Lib.hid hX
  clear hX hXo hqm
  go_wp2_with fail
  refine CL.out.mono ?_
  rintro e wy ⟨rfl, rfl⟩
  have HQ : Hid (Q L d (.val 1 q z win) (.val (.mk ((1 : Nat) : Int) X 0 0 nt nt 0 [] .nil) qm)) := by
    show Q _ _ _ _
    have hl : leafQ L 1 q z = .val (.mk ((1 : Nat) : Int) X 0 0 nt nt 0 [] .nil) qm := by
      have hz2 : ¬ z < q + 8 := by omega
      have hx : X = le (seg L q 8) := HXX.out
      have hmq : qm = q + 8 := HQM.out
      simp [leafQ, fixN, hz2, hx, hmq]
    rw [← hl]
    exact .val_leaf (by omega) (by omega) (by omega)
  clear hsh hsh2
  go_upto_region 44 with fail
  (repeat (first | go_values | go_skip | go_guarded | go_step | go_upon | (go_simp; go_at_K)))
  refine bodyPost_ret (v := .tuple #[.agg (valCells 1 X 0 0 ⟨#[]⟩ ⟨#[]⟩ 0 none 0 0 none 0 0), .int .i64 (qm : Nat)]) (by simp [results, Try.results82, go_sem, valCells, *]) rfl ?_
  exact rval_ok HQ.out HBA.out HWG.out HG1.out (rdTS_leaf _ _ (ownOk_k (k := 1) (by omega) HXo.out okz okz (by decide) (by decide) (Nat.zero_le _))) (by (repeat' (first | with_reducible exact Chg.refl _ _ | with_reducible refine Chg.drew ?_ | with_reducible refine Chg.setCell ?_ (fun _ => by first | exact Or.inl rfl | exact Or.inr rfl) _)))

set_option maxRecDepth 100000 in
set_option maxHeartbeats 8000000 in
theorem rvl_9 (dd : Nat) (hof : RDcSaid dd) (hsc : RScSaid dd) {rb b o n c : Nat} {L : List UInt8} {d : Nat} {w : World} (h : RRd w rb b o n c L d 0 0) (q z win : Nat) (hq : q ≤ z) (hz : z < n) (hd : z - q ≤ dd) (hw : win + (z - q) ≤ 2000000) :
    Calls Try.prog 82 #[.pointer (some ⟨rb, 0, none⟩), .int .i64 9, .int .i64 (q : Nat), .int .i64 (z : Nat), .int .i64 (win : Nat)] w fun e w' => ∃ r, Q L d (.val 9 q z win) r ∧ RValO rb b o n c L d r w e w' := by
  have hL : L.length = n := h.rd.1
  have hnc := h.nc
  have hnb := h.nb
  obtain ⟨wa, hwa⟩ : ∃ W, W = (w.alloc (.cells #[.int .i64 0, .int .u64 0, .int .u64 0, .int .u64 0, .string ⟨#[]⟩, .string ⟨#[]⟩, .int .i64 0, .slice none 0 0, .slice none 0 0] 26)).alloc (.cells #[.int .i64 9, .int .u64 0, .int .u64 0, .int .u64 0, .string ⟨#[]⟩, .string ⟨#[]⟩, .int .i64 0, .slice none 0 0, .slice none 0 0] 26) := ⟨_, rfl⟩
  have hb0 : Below w.heap.size w (w.alloc (.cells #[.int .i64 0, .int .u64 0, .int .u64 0, .int .u64 0, .string ⟨#[]⟩, .string ⟨#[]⟩, .int .i64 0, .slice none 0 0, .slice none 0 0] 26)) := (Below.refl _ _).alloc (Nat.le_refl _) _
  have hba : Below w.heap.size w wa := by rw [hwa]; exact hb0.alloc hb0.size _
  obtain ⟨g, hg⟩ : ∃ g, g = w.heap.size := ⟨_, rfl⟩
  obtain ⟨g1, hg1⟩ : ∃ g1, g1 = w.heap.size + 1 := ⟨_, rfl⟩
  have hxa : BoxV wa g zCellsV := by rw [hwa, hg]; exact (BoxV.new _ #[.int .i64 0, .int .u64 0, .int .u64 0, .int .u64 0, .string ⟨#[]⟩, .string ⟨#[]⟩, .int .i64 0, .slice none 0 0, .slice none 0 0] _).keep ((Below.refl _ _).alloc (Nat.le_refl _) _)
  have hya : BoxV wa g1 (valCells 9 0 0 0 ⟨#[]⟩ ⟨#[]⟩ 0 none 0 0 none 0 0) := by
    have e : (w.alloc (.cells #[.int .i64 0, .int .u64 0, .int .u64 0, .int .u64 0, .string ⟨#[]⟩, .string ⟨#[]⟩, .int .i64 0, .slice none 0 0, .slice none 0 0] 26)).heap.size = w.heap.size + 1 := by simp
    rw [hwa, hg1, ← e]
    exact BoxV.new _ #[.int .i64 9, .int .u64 0, .int .u64 0, .int .u64 0, .string ⟨#[]⟩, .string ⟨#[]⟩, .int .i64 0, .slice none 0 0, .slice none 0 0] _
  have HGa := Lib.hid hxa
  have HVa := Lib.hid hya
  have HBA := Lib.hid hba
  have HRA := Lib.hid (h.keep hba)
  have HWG : Hid (w.heap.size = g) := hg.symm
  have HG1 : Hid (g1 = g + 1) := by show _ = _; rw [hg, hg1]
  have hwz : wa.heap.size = g1 + 1 := by rw [hwa, hg1]; simp
  have HWZ := Lib.hid hwz
  have hrb : rb < g := by rw [hg]; exact h.lt
  have hbb : b < g := by rw [hg]; simpa using cell_block (h.at q (by omega))
  have HRB := Lib.hid hrb
  have HBB := Lib.hid hbb
  have hng : ¬ g1 = g := by rw [hg, hg1]; omega
  have hng2 : ¬ g = g1 := by rw [hg, hg1]; omega
  have hr1 : ¬ rb = g := by omega
  have hr2 : ¬ rb = g1 := by rw [hg] at hrb; rw [hg1]; omega
  have hr3 : ¬ g = rb := by omega
  have hr4 : ¬ g1 = rb := by rw [hg] at hrb; rw [hg1]; omega
  have hr5 : ¬ b = g1 := by rw [hg] at hbb; rw [hg1]; omega
  have hr6 : ¬ b = g := by omega
  have CB := Lib.hid (fun W (h : RRd W rb b o n c L d 0 0) er a => rdbad_calls h er a)
  have CF : Hid (Calls Try.prog 98 #[.int .i64 9] wa fun e w' => e = .returned (.int .i64 8) ∧ wa = w') := rdfixed_calls 9 wa
  have e1z : IntKind.i64.wrap ((z : Int) - (q : Int)) = (z : Int) - (q : Int) := IntWalk.i64_in _ (by omega)
  have c0 := HRA.out.c0
  have c4 := HRA.out.c4
  obtain ⟨f0, f1, f2, f3, f4, f5, f6, f7, f8, l0⟩ := HGa.out.nine
  obtain ⟨e0, e1, e2, e3, e4, e5, e6, e7, e8, l1⟩ := HVa.out.nine
  have p0 := (HGa.out.2 0 (by omega)).2
  have o0 := (HVa.out.2 0 (by omega)).2
  have p1 := (HGa.out.2 1 (by omega)).2
  have o1 := (HVa.out.2 1 (by omega)).2
  have p2 := (HGa.out.2 2 (by omega)).2
  have o2 := (HVa.out.2 2 (by omega)).2
  have p3 := (HGa.out.2 3 (by omega)).2
  have o3 := (HVa.out.2 3 (by omega)).2
  have p4 := (HGa.out.2 4 (by omega)).2
  have o4 := (HVa.out.2 4 (by omega)).2
  have p5 := (HGa.out.2 5 (by omega)).2
  have o5 := (HVa.out.2 5 (by omega)).2
  have p6 := (HGa.out.2 6 (by omega)).2
  have o6 := (HVa.out.2 6 (by omega)).2
  have p7 := (HGa.out.2 7 (by omega)).2
  have o7 := (HVa.out.2 7 (by omega)).2
  have p8 := (HGa.out.2 8 (by omega)).2
  have o8 := (HVa.out.2 8 (by omega)).2
  clear hba hxa hya hb0 hrb hbb hwz h
  go_enter Try.func82, Try.ntmps82
  go_upto_region 2 with fail
  rw [← hwa, ← hg1, ← hg]
  clear hwa hg1 hg
  go_wp2_with fail
  refine CF.out.mono ?_
  rintro e wx ⟨rfl, rfl⟩
  by_cases hsh : z < q + 8
  · have HX : Hid (Q L d (.val 9 q z win) (.bad 2 q)) := by
      have hl : leafQ L 9 q z = .bad 2 q := by unfold leafQ; rw [if_pos (by simp [fixN]; omega)]
      rw [← hl]
      exact .val_leaf (by omega) (by omega) (by omega)
    have d1 : decide ((z : Int) - (q : Int) < 8) = true := by simp; omega
    clear hsh
    go_wp2_with fail
    refine (CB.out _ HRA.out 2 q).mono ?_
    rintro e wx ⟨rfl, hE⟩
    have HEx := Lib.hid hE
    have HGx := Lib.hid (HGa.out.chg hE.2 (fun e => hr3 e))
    have HVx := Lib.hid (HVa.out.chg hE.2 (fun e => hr4 e))
    have c4 := hE.1.c4
    clear hE
    clear f0 f1 f2 f3 f4 f5 f6 f7 f8 l0 e0 e1 e2 e3 e4 e5 e6 e7 e8 l1 p0 o0 p1 o1 p2 o2 p3 o3 p4 o4 p5 o5 p6 o6 p7 o7 p8 o8
    obtain ⟨f0, f1, f2, f3, f4, f5, f6, f7, f8, l0⟩ := HGx.out.nine
    obtain ⟨e0, e1, e2, e3, e4, e5, e6, e7, e8, l1⟩ := HVx.out.nine
    have p0 := (HGx.out.2 0 (by omega)).2
    have o0 := (HVx.out.2 0 (by omega)).2
    have p1 := (HGx.out.2 1 (by omega)).2
    have o1 := (HVx.out.2 1 (by omega)).2
    have p2 := (HGx.out.2 2 (by omega)).2
    have o2 := (HVx.out.2 2 (by omega)).2
    have p3 := (HGx.out.2 3 (by omega)).2
    have o3 := (HVx.out.2 3 (by omega)).2
    have p4 := (HGx.out.2 4 (by omega)).2
    have o4 := (HVx.out.2 4 (by omega)).2
    have p5 := (HGx.out.2 5 (by omega)).2
    have o5 := (HVx.out.2 5 (by omega)).2
    have p6 := (HGx.out.2 6 (by omega)).2
    have o6 := (HVx.out.2 6 (by omega)).2
    have p7 := (HGx.out.2 7 (by omega)).2
    have o7 := (HVx.out.2 7 (by omega)).2
    have p8 := (HGx.out.2 8 (by omega)).2
    have o8 := (HVx.out.2 8 (by omega)).2
    go_upto_region 5 with fail
    (repeat (first | go_values | go_skip | go_guarded | go_step | go_upon | (go_simp; go_at_K)))
    refine bodyPost_ret (v := .tuple #[.agg zCellsV, .int .i64 0]) (by simp [results, Try.results82, go_sem, valCells, *]) rfl ?_
    exact rval_bad (nx := 0) HX.out HBA.out HEx.out HWG.out HG1.out HRB.out HBB.out (by (repeat' (first | with_reducible exact Chg.refl _ _ | with_reducible refine Chg.drew ?_ | with_reducible refine Chg.setCell ?_ (fun _ => by first | exact Or.inl rfl | exact Or.inr rfl) _))) (isV_mk 0 0 0 0 ⟨#[]⟩ ⟨#[]⟩ 0 none 0 0 none 0 0)
  have d1 : decide ((z : Int) - (q : Int) < 8) = false := by simp; omega
  have hsh2 : q + 8 ≤ z := by omega
  obtain ⟨qm, hqm⟩ : ∃ x, x = q + 8 := ⟨_, rfl⟩
  have e2z : IntKind.i64.wrap ((q : Int) + 8) = (qm : Int) := (IntWalk.i64_in _ (by omega)).trans (by omega)
  have HQM := Lib.hid hqm
  obtain ⟨X, hX⟩ : ∃ X, X = le (seg L q 8) := ⟨_, rfl⟩
  have CL : Hid (Calls Try.prog 30 #[.slice (some ⟨b, o, none⟩) n c, .int .i64 (q : Nat), .int .i64 8] wa fun e w' => e = .returned (.tuple #[.int .u64 (X : Nat), .bool true]) ∧ wa = w') := by
    rw [hX]
    exact low_yes (some ⟨b, o, none⟩) n c q 8 wa L HRA.out.rd (by omega) (by omega) (by omega)
  have hXo : X < okSize := by rw [hX]; exact le_pow8 _ _ _ (by omega)
  have HXo := Lib.hid hXo
  have HXX := Lib.hid hX
  clear hX hXo hqm
  go_wp2_with fail
  refine CL.out.mono ?_
  rintro e wy ⟨rfl, rfl⟩
  have HQ : Hid (Q L d (.val 9 q z win) (.val (.mk ((9 : Nat) : Int) X 0 0 nt nt 0 [] .nil) qm)) := by
    show Q _ _ _ _
    have hl : leafQ L 9 q z = .val (.mk ((9 : Nat) : Int) X 0 0 nt nt 0 [] .nil) qm := by
      have hz2 : ¬ z < q + 8 := by omega
      have hx : X = le (seg L q 8) := HXX.out
      have hmq : qm = q + 8 := HQM.out
      simp [leafQ, fixN, hz2, hx, hmq]
    rw [← hl]
    exact .val_leaf (by omega) (by omega) (by omega)
  clear hsh hsh2
  go_upto_region 44 with fail
  (repeat (first | go_values | go_skip | go_guarded | go_step | go_upon | (go_simp; go_at_K)))
  refine bodyPost_ret (v := .tuple #[.agg (valCells 9 X 0 0 ⟨#[]⟩ ⟨#[]⟩ 0 none 0 0 none 0 0), .int .i64 (qm : Nat)]) (by simp [results, Try.results82, go_sem, valCells, *]) rfl ?_
  exact rval_ok HQ.out HBA.out HWG.out HG1.out (rdTS_leaf _ _ (ownOk_k (k := 9) (by omega) HXo.out okz okz (by decide) (by decide) (Nat.zero_le _))) (by (repeat' (first | with_reducible exact Chg.refl _ _ | with_reducible refine Chg.drew ?_ | with_reducible refine Chg.setCell ?_ (fun _ => by first | exact Or.inl rfl | exact Or.inr rfl) _)))

set_option maxRecDepth 100000 in
set_option maxHeartbeats 8000000 in
theorem rvl_17 (dd : Nat) (hof : RDcSaid dd) (hsc : RScSaid dd) {rb b o n c : Nat} {L : List UInt8} {d : Nat} {w : World} (h : RRd w rb b o n c L d 0 0) (q z win : Nat) (hq : q ≤ z) (hz : z < n) (hd : z - q ≤ dd) (hw : win + (z - q) ≤ 2000000) :
    Calls Try.prog 82 #[.pointer (some ⟨rb, 0, none⟩), .int .i64 17, .int .i64 (q : Nat), .int .i64 (z : Nat), .int .i64 (win : Nat)] w fun e w' => ∃ r, Q L d (.val 17 q z win) r ∧ RValO rb b o n c L d r w e w' := by
  have hL : L.length = n := h.rd.1
  have hnc := h.nc
  have hnb := h.nb
  obtain ⟨wa, hwa⟩ : ∃ W, W = (w.alloc (.cells #[.int .i64 0, .int .u64 0, .int .u64 0, .int .u64 0, .string ⟨#[]⟩, .string ⟨#[]⟩, .int .i64 0, .slice none 0 0, .slice none 0 0] 26)).alloc (.cells #[.int .i64 17, .int .u64 0, .int .u64 0, .int .u64 0, .string ⟨#[]⟩, .string ⟨#[]⟩, .int .i64 0, .slice none 0 0, .slice none 0 0] 26) := ⟨_, rfl⟩
  have hb0 : Below w.heap.size w (w.alloc (.cells #[.int .i64 0, .int .u64 0, .int .u64 0, .int .u64 0, .string ⟨#[]⟩, .string ⟨#[]⟩, .int .i64 0, .slice none 0 0, .slice none 0 0] 26)) := (Below.refl _ _).alloc (Nat.le_refl _) _
  have hba : Below w.heap.size w wa := by rw [hwa]; exact hb0.alloc hb0.size _
  obtain ⟨g, hg⟩ : ∃ g, g = w.heap.size := ⟨_, rfl⟩
  obtain ⟨g1, hg1⟩ : ∃ g1, g1 = w.heap.size + 1 := ⟨_, rfl⟩
  have hxa : BoxV wa g zCellsV := by rw [hwa, hg]; exact (BoxV.new _ #[.int .i64 0, .int .u64 0, .int .u64 0, .int .u64 0, .string ⟨#[]⟩, .string ⟨#[]⟩, .int .i64 0, .slice none 0 0, .slice none 0 0] _).keep ((Below.refl _ _).alloc (Nat.le_refl _) _)
  have hya : BoxV wa g1 (valCells 17 0 0 0 ⟨#[]⟩ ⟨#[]⟩ 0 none 0 0 none 0 0) := by
    have e : (w.alloc (.cells #[.int .i64 0, .int .u64 0, .int .u64 0, .int .u64 0, .string ⟨#[]⟩, .string ⟨#[]⟩, .int .i64 0, .slice none 0 0, .slice none 0 0] 26)).heap.size = w.heap.size + 1 := by simp
    rw [hwa, hg1, ← e]
    exact BoxV.new _ #[.int .i64 17, .int .u64 0, .int .u64 0, .int .u64 0, .string ⟨#[]⟩, .string ⟨#[]⟩, .int .i64 0, .slice none 0 0, .slice none 0 0] _
  have HGa := Lib.hid hxa
  have HVa := Lib.hid hya
  have HBA := Lib.hid hba
  have HRA := Lib.hid (h.keep hba)
  have HWG : Hid (w.heap.size = g) := hg.symm
  have HG1 : Hid (g1 = g + 1) := by show _ = _; rw [hg, hg1]
  have hwz : wa.heap.size = g1 + 1 := by rw [hwa, hg1]; simp
  have HWZ := Lib.hid hwz
  have hrb : rb < g := by rw [hg]; exact h.lt
  have hbb : b < g := by rw [hg]; simpa using cell_block (h.at q (by omega))
  have HRB := Lib.hid hrb
  have HBB := Lib.hid hbb
  have hng : ¬ g1 = g := by rw [hg, hg1]; omega
  have hng2 : ¬ g = g1 := by rw [hg, hg1]; omega
  have hr1 : ¬ rb = g := by omega
  have hr2 : ¬ rb = g1 := by rw [hg] at hrb; rw [hg1]; omega
  have hr3 : ¬ g = rb := by omega
  have hr4 : ¬ g1 = rb := by rw [hg] at hrb; rw [hg1]; omega
  have hr5 : ¬ b = g1 := by rw [hg] at hbb; rw [hg1]; omega
  have hr6 : ¬ b = g := by omega
  have CB := Lib.hid (fun W (h : RRd W rb b o n c L d 0 0) er a => rdbad_calls h er a)
  have CF : Hid (Calls Try.prog 98 #[.int .i64 17] wa fun e w' => e = .returned (.int .i64 8) ∧ wa = w') := rdfixed_calls 17 wa
  have e1z : IntKind.i64.wrap ((z : Int) - (q : Int)) = (z : Int) - (q : Int) := IntWalk.i64_in _ (by omega)
  have c0 := HRA.out.c0
  have c4 := HRA.out.c4
  obtain ⟨f0, f1, f2, f3, f4, f5, f6, f7, f8, l0⟩ := HGa.out.nine
  obtain ⟨e0, e1, e2, e3, e4, e5, e6, e7, e8, l1⟩ := HVa.out.nine
  have p0 := (HGa.out.2 0 (by omega)).2
  have o0 := (HVa.out.2 0 (by omega)).2
  have p1 := (HGa.out.2 1 (by omega)).2
  have o1 := (HVa.out.2 1 (by omega)).2
  have p2 := (HGa.out.2 2 (by omega)).2
  have o2 := (HVa.out.2 2 (by omega)).2
  have p3 := (HGa.out.2 3 (by omega)).2
  have o3 := (HVa.out.2 3 (by omega)).2
  have p4 := (HGa.out.2 4 (by omega)).2
  have o4 := (HVa.out.2 4 (by omega)).2
  have p5 := (HGa.out.2 5 (by omega)).2
  have o5 := (HVa.out.2 5 (by omega)).2
  have p6 := (HGa.out.2 6 (by omega)).2
  have o6 := (HVa.out.2 6 (by omega)).2
  have p7 := (HGa.out.2 7 (by omega)).2
  have o7 := (HVa.out.2 7 (by omega)).2
  have p8 := (HGa.out.2 8 (by omega)).2
  have o8 := (HVa.out.2 8 (by omega)).2
  clear hba hxa hya hb0 hrb hbb hwz h
  go_enter Try.func82, Try.ntmps82
  go_upto_region 2 with fail
  rw [← hwa, ← hg1, ← hg]
  clear hwa hg1 hg
  go_wp2_with fail
  refine CF.out.mono ?_
  rintro e wx ⟨rfl, rfl⟩
  by_cases hsh : z < q + 8
  · have HX : Hid (Q L d (.val 17 q z win) (.bad 2 q)) := by
      have hl : leafQ L 17 q z = .bad 2 q := by unfold leafQ; rw [if_pos (by simp [fixN]; omega)]
      rw [← hl]
      exact .val_leaf (by omega) (by omega) (by omega)
    have d1 : decide ((z : Int) - (q : Int) < 8) = true := by simp; omega
    clear hsh
    go_wp2_with fail
    refine (CB.out _ HRA.out 2 q).mono ?_
    rintro e wx ⟨rfl, hE⟩
    have HEx := Lib.hid hE
    have HGx := Lib.hid (HGa.out.chg hE.2 (fun e => hr3 e))
    have HVx := Lib.hid (HVa.out.chg hE.2 (fun e => hr4 e))
    have c4 := hE.1.c4
    clear hE
    clear f0 f1 f2 f3 f4 f5 f6 f7 f8 l0 e0 e1 e2 e3 e4 e5 e6 e7 e8 l1 p0 o0 p1 o1 p2 o2 p3 o3 p4 o4 p5 o5 p6 o6 p7 o7 p8 o8
    obtain ⟨f0, f1, f2, f3, f4, f5, f6, f7, f8, l0⟩ := HGx.out.nine
    obtain ⟨e0, e1, e2, e3, e4, e5, e6, e7, e8, l1⟩ := HVx.out.nine
    have p0 := (HGx.out.2 0 (by omega)).2
    have o0 := (HVx.out.2 0 (by omega)).2
    have p1 := (HGx.out.2 1 (by omega)).2
    have o1 := (HVx.out.2 1 (by omega)).2
    have p2 := (HGx.out.2 2 (by omega)).2
    have o2 := (HVx.out.2 2 (by omega)).2
    have p3 := (HGx.out.2 3 (by omega)).2
    have o3 := (HVx.out.2 3 (by omega)).2
    have p4 := (HGx.out.2 4 (by omega)).2
    have o4 := (HVx.out.2 4 (by omega)).2
    have p5 := (HGx.out.2 5 (by omega)).2
    have o5 := (HVx.out.2 5 (by omega)).2
    have p6 := (HGx.out.2 6 (by omega)).2
    have o6 := (HVx.out.2 6 (by omega)).2
    have p7 := (HGx.out.2 7 (by omega)).2
    have o7 := (HVx.out.2 7 (by omega)).2
    have p8 := (HGx.out.2 8 (by omega)).2
    have o8 := (HVx.out.2 8 (by omega)).2
    go_upto_region 5 with fail
    (repeat (first | go_values | go_skip | go_guarded | go_step | go_upon | (go_simp; go_at_K)))
    refine bodyPost_ret (v := .tuple #[.agg zCellsV, .int .i64 0]) (by simp [results, Try.results82, go_sem, valCells, *]) rfl ?_
    exact rval_bad (nx := 0) HX.out HBA.out HEx.out HWG.out HG1.out HRB.out HBB.out (by (repeat' (first | with_reducible exact Chg.refl _ _ | with_reducible refine Chg.drew ?_ | with_reducible refine Chg.setCell ?_ (fun _ => by first | exact Or.inl rfl | exact Or.inr rfl) _))) (isV_mk 0 0 0 0 ⟨#[]⟩ ⟨#[]⟩ 0 none 0 0 none 0 0)
  have d1 : decide ((z : Int) - (q : Int) < 8) = false := by simp; omega
  have hsh2 : q + 8 ≤ z := by omega
  obtain ⟨qm, hqm⟩ : ∃ x, x = q + 8 := ⟨_, rfl⟩
  have e2z : IntKind.i64.wrap ((q : Int) + 8) = (qm : Int) := (IntWalk.i64_in _ (by omega)).trans (by omega)
  have HQM := Lib.hid hqm
  obtain ⟨X, hX⟩ : ∃ X, X = le (seg L q 8) := ⟨_, rfl⟩
  have CL : Hid (Calls Try.prog 30 #[.slice (some ⟨b, o, none⟩) n c, .int .i64 (q : Nat), .int .i64 8] wa fun e w' => e = .returned (.tuple #[.int .u64 (X : Nat), .bool true]) ∧ wa = w') := by
    rw [hX]
    exact low_yes (some ⟨b, o, none⟩) n c q 8 wa L HRA.out.rd (by omega) (by omega) (by omega)
  have hXo : X < okSize := by rw [hX]; exact le_pow8 _ _ _ (by omega)
  have HXo := Lib.hid hXo
  have HXX := Lib.hid hX
  clear hX hXo hqm
  go_wp2_with fail
  refine CL.out.mono ?_
  rintro e wy ⟨rfl, rfl⟩
  have HQ : Hid (Q L d (.val 17 q z win) (.val (.mk ((17 : Nat) : Int) X 0 0 nt nt 0 [] .nil) qm)) := by
    show Q _ _ _ _
    have hl : leafQ L 17 q z = .val (.mk ((17 : Nat) : Int) X 0 0 nt nt 0 [] .nil) qm := by
      have hz2 : ¬ z < q + 8 := by omega
      have hx : X = le (seg L q 8) := HXX.out
      have hmq : qm = q + 8 := HQM.out
      simp [leafQ, fixN, hz2, hx, hmq]
    rw [← hl]
    exact .val_leaf (by omega) (by omega) (by omega)
  clear hsh hsh2
  go_upto_region 44 with fail
  (repeat (first | go_values | go_skip | go_guarded | go_step | go_upon | (go_simp; go_at_K)))
  refine bodyPost_ret (v := .tuple #[.agg (valCells 17 X 0 0 ⟨#[]⟩ ⟨#[]⟩ 0 none 0 0 none 0 0), .int .i64 (qm : Nat)]) (by simp [results, Try.results82, go_sem, valCells, *]) rfl ?_
  exact rval_ok HQ.out HBA.out HWG.out HG1.out (rdTS_leaf _ _ (ownOk_k (k := 17) (by omega) HXo.out okz okz (by decide) (by decide) (Nat.zero_le _))) (by (repeat' (first | with_reducible exact Chg.refl _ _ | with_reducible refine Chg.drew ?_ | with_reducible refine Chg.setCell ?_ (fun _ => by first | exact Or.inl rfl | exact Or.inr rfl) _)))

set_option maxRecDepth 100000 in
set_option maxHeartbeats 8000000 in
theorem rvl_18 (dd : Nat) (hof : RDcSaid dd) (hsc : RScSaid dd) {rb b o n c : Nat} {L : List UInt8} {d : Nat} {w : World} (h : RRd w rb b o n c L d 0 0) (q z win : Nat) (hq : q ≤ z) (hz : z < n) (hd : z - q ≤ dd) (hw : win + (z - q) ≤ 2000000) :
    Calls Try.prog 82 #[.pointer (some ⟨rb, 0, none⟩), .int .i64 18, .int .i64 (q : Nat), .int .i64 (z : Nat), .int .i64 (win : Nat)] w fun e w' => ∃ r, Q L d (.val 18 q z win) r ∧ RValO rb b o n c L d r w e w' := by
  have hL : L.length = n := h.rd.1
  have hnc := h.nc
  have hnb := h.nb
  obtain ⟨wa, hwa⟩ : ∃ W, W = (w.alloc (.cells #[.int .i64 0, .int .u64 0, .int .u64 0, .int .u64 0, .string ⟨#[]⟩, .string ⟨#[]⟩, .int .i64 0, .slice none 0 0, .slice none 0 0] 26)).alloc (.cells #[.int .i64 18, .int .u64 0, .int .u64 0, .int .u64 0, .string ⟨#[]⟩, .string ⟨#[]⟩, .int .i64 0, .slice none 0 0, .slice none 0 0] 26) := ⟨_, rfl⟩
  have hb0 : Below w.heap.size w (w.alloc (.cells #[.int .i64 0, .int .u64 0, .int .u64 0, .int .u64 0, .string ⟨#[]⟩, .string ⟨#[]⟩, .int .i64 0, .slice none 0 0, .slice none 0 0] 26)) := (Below.refl _ _).alloc (Nat.le_refl _) _
  have hba : Below w.heap.size w wa := by rw [hwa]; exact hb0.alloc hb0.size _
  obtain ⟨g, hg⟩ : ∃ g, g = w.heap.size := ⟨_, rfl⟩
  obtain ⟨g1, hg1⟩ : ∃ g1, g1 = w.heap.size + 1 := ⟨_, rfl⟩
  have hxa : BoxV wa g zCellsV := by rw [hwa, hg]; exact (BoxV.new _ #[.int .i64 0, .int .u64 0, .int .u64 0, .int .u64 0, .string ⟨#[]⟩, .string ⟨#[]⟩, .int .i64 0, .slice none 0 0, .slice none 0 0] _).keep ((Below.refl _ _).alloc (Nat.le_refl _) _)
  have hya : BoxV wa g1 (valCells 18 0 0 0 ⟨#[]⟩ ⟨#[]⟩ 0 none 0 0 none 0 0) := by
    have e : (w.alloc (.cells #[.int .i64 0, .int .u64 0, .int .u64 0, .int .u64 0, .string ⟨#[]⟩, .string ⟨#[]⟩, .int .i64 0, .slice none 0 0, .slice none 0 0] 26)).heap.size = w.heap.size + 1 := by simp
    rw [hwa, hg1, ← e]
    exact BoxV.new _ #[.int .i64 18, .int .u64 0, .int .u64 0, .int .u64 0, .string ⟨#[]⟩, .string ⟨#[]⟩, .int .i64 0, .slice none 0 0, .slice none 0 0] _
  have HGa := Lib.hid hxa
  have HVa := Lib.hid hya
  have HBA := Lib.hid hba
  have HRA := Lib.hid (h.keep hba)
  have HWG : Hid (w.heap.size = g) := hg.symm
  have HG1 : Hid (g1 = g + 1) := by show _ = _; rw [hg, hg1]
  have hwz : wa.heap.size = g1 + 1 := by rw [hwa, hg1]; simp
  have HWZ := Lib.hid hwz
  have hrb : rb < g := by rw [hg]; exact h.lt
  have hbb : b < g := by rw [hg]; simpa using cell_block (h.at q (by omega))
  have HRB := Lib.hid hrb
  have HBB := Lib.hid hbb
  have hng : ¬ g1 = g := by rw [hg, hg1]; omega
  have hng2 : ¬ g = g1 := by rw [hg, hg1]; omega
  have hr1 : ¬ rb = g := by omega
  have hr2 : ¬ rb = g1 := by rw [hg] at hrb; rw [hg1]; omega
  have hr3 : ¬ g = rb := by omega
  have hr4 : ¬ g1 = rb := by rw [hg] at hrb; rw [hg1]; omega
  have hr5 : ¬ b = g1 := by rw [hg] at hbb; rw [hg1]; omega
  have hr6 : ¬ b = g := by omega
  have CB := Lib.hid (fun W (h : RRd W rb b o n c L d 0 0) er a => rdbad_calls h er a)
  have CF : Hid (Calls Try.prog 98 #[.int .i64 18] wa fun e w' => e = .returned (.int .i64 8) ∧ wa = w') := rdfixed_calls 18 wa
  have e1z : IntKind.i64.wrap ((z : Int) - (q : Int)) = (z : Int) - (q : Int) := IntWalk.i64_in _ (by omega)
  have c0 := HRA.out.c0
  have c4 := HRA.out.c4
  obtain ⟨f0, f1, f2, f3, f4, f5, f6, f7, f8, l0⟩ := HGa.out.nine
  obtain ⟨e0, e1, e2, e3, e4, e5, e6, e7, e8, l1⟩ := HVa.out.nine
  have p0 := (HGa.out.2 0 (by omega)).2
  have o0 := (HVa.out.2 0 (by omega)).2
  have p1 := (HGa.out.2 1 (by omega)).2
  have o1 := (HVa.out.2 1 (by omega)).2
  have p2 := (HGa.out.2 2 (by omega)).2
  have o2 := (HVa.out.2 2 (by omega)).2
  have p3 := (HGa.out.2 3 (by omega)).2
  have o3 := (HVa.out.2 3 (by omega)).2
  have p4 := (HGa.out.2 4 (by omega)).2
  have o4 := (HVa.out.2 4 (by omega)).2
  have p5 := (HGa.out.2 5 (by omega)).2
  have o5 := (HVa.out.2 5 (by omega)).2
  have p6 := (HGa.out.2 6 (by omega)).2
  have o6 := (HVa.out.2 6 (by omega)).2
  have p7 := (HGa.out.2 7 (by omega)).2
  have o7 := (HVa.out.2 7 (by omega)).2
  have p8 := (HGa.out.2 8 (by omega)).2
  have o8 := (HVa.out.2 8 (by omega)).2
  clear hba hxa hya hb0 hrb hbb hwz h
  go_enter Try.func82, Try.ntmps82
  go_upto_region 2 with fail
  rw [← hwa, ← hg1, ← hg]
  clear hwa hg1 hg
  go_wp2_with fail
  refine CF.out.mono ?_
  rintro e wx ⟨rfl, rfl⟩
  by_cases hsh : z < q + 8
  · have HX : Hid (Q L d (.val 18 q z win) (.bad 2 q)) := by
      have hl : leafQ L 18 q z = .bad 2 q := by unfold leafQ; rw [if_pos (by simp [fixN]; omega)]
      rw [← hl]
      exact .val_leaf (by omega) (by omega) (by omega)
    have d1 : decide ((z : Int) - (q : Int) < 8) = true := by simp; omega
    clear hsh
    go_wp2_with fail
    refine (CB.out _ HRA.out 2 q).mono ?_
    rintro e wx ⟨rfl, hE⟩
    have HEx := Lib.hid hE
    have HGx := Lib.hid (HGa.out.chg hE.2 (fun e => hr3 e))
    have HVx := Lib.hid (HVa.out.chg hE.2 (fun e => hr4 e))
    have c4 := hE.1.c4
    clear hE
    clear f0 f1 f2 f3 f4 f5 f6 f7 f8 l0 e0 e1 e2 e3 e4 e5 e6 e7 e8 l1 p0 o0 p1 o1 p2 o2 p3 o3 p4 o4 p5 o5 p6 o6 p7 o7 p8 o8
    obtain ⟨f0, f1, f2, f3, f4, f5, f6, f7, f8, l0⟩ := HGx.out.nine
    obtain ⟨e0, e1, e2, e3, e4, e5, e6, e7, e8, l1⟩ := HVx.out.nine
    have p0 := (HGx.out.2 0 (by omega)).2
    have o0 := (HVx.out.2 0 (by omega)).2
    have p1 := (HGx.out.2 1 (by omega)).2
    have o1 := (HVx.out.2 1 (by omega)).2
    have p2 := (HGx.out.2 2 (by omega)).2
    have o2 := (HVx.out.2 2 (by omega)).2
    have p3 := (HGx.out.2 3 (by omega)).2
    have o3 := (HVx.out.2 3 (by omega)).2
    have p4 := (HGx.out.2 4 (by omega)).2
    have o4 := (HVx.out.2 4 (by omega)).2
    have p5 := (HGx.out.2 5 (by omega)).2
    have o5 := (HVx.out.2 5 (by omega)).2
    have p6 := (HGx.out.2 6 (by omega)).2
    have o6 := (HVx.out.2 6 (by omega)).2
    have p7 := (HGx.out.2 7 (by omega)).2
    have o7 := (HVx.out.2 7 (by omega)).2
    have p8 := (HGx.out.2 8 (by omega)).2
    have o8 := (HVx.out.2 8 (by omega)).2
    go_upto_region 5 with fail
    (repeat (first | go_values | go_skip | go_guarded | go_step | go_upon | (go_simp; go_at_K)))
    refine bodyPost_ret (v := .tuple #[.agg zCellsV, .int .i64 0]) (by simp [results, Try.results82, go_sem, valCells, *]) rfl ?_
    exact rval_bad (nx := 0) HX.out HBA.out HEx.out HWG.out HG1.out HRB.out HBB.out (by (repeat' (first | with_reducible exact Chg.refl _ _ | with_reducible refine Chg.drew ?_ | with_reducible refine Chg.setCell ?_ (fun _ => by first | exact Or.inl rfl | exact Or.inr rfl) _))) (isV_mk 0 0 0 0 ⟨#[]⟩ ⟨#[]⟩ 0 none 0 0 none 0 0)
  have d1 : decide ((z : Int) - (q : Int) < 8) = false := by simp; omega
  have hsh2 : q + 8 ≤ z := by omega
  obtain ⟨qm, hqm⟩ : ∃ x, x = q + 8 := ⟨_, rfl⟩
  have e2z : IntKind.i64.wrap ((q : Int) + 8) = (qm : Int) := (IntWalk.i64_in _ (by omega)).trans (by omega)
  have HQM := Lib.hid hqm
  obtain ⟨X, hX⟩ : ∃ X, X = le (seg L q 8) := ⟨_, rfl⟩
  have CL : Hid (Calls Try.prog 30 #[.slice (some ⟨b, o, none⟩) n c, .int .i64 (q : Nat), .int .i64 8] wa fun e w' => e = .returned (.tuple #[.int .u64 (X : Nat), .bool true]) ∧ wa = w') := by
    rw [hX]
    exact low_yes (some ⟨b, o, none⟩) n c q 8 wa L HRA.out.rd (by omega) (by omega) (by omega)
  have hXo : X < okSize := by rw [hX]; exact le_pow8 _ _ _ (by omega)
  have HXo := Lib.hid hXo
  have HXX := Lib.hid hX
  clear hX hXo hqm
  go_wp2_with fail
  refine CL.out.mono ?_
  rintro e wy ⟨rfl, rfl⟩
  have HQ : Hid (Q L d (.val 18 q z win) (.val (.mk ((18 : Nat) : Int) X 0 0 nt nt 0 [] .nil) qm)) := by
    show Q _ _ _ _
    have hl : leafQ L 18 q z = .val (.mk ((18 : Nat) : Int) X 0 0 nt nt 0 [] .nil) qm := by
      have hz2 : ¬ z < q + 8 := by omega
      have hx : X = le (seg L q 8) := HXX.out
      have hmq : qm = q + 8 := HQM.out
      simp [leafQ, fixN, hz2, hx, hmq]
    rw [← hl]
    exact .val_leaf (by omega) (by omega) (by omega)
  clear hsh hsh2
  go_upto_region 44 with fail
  (repeat (first | go_values | go_skip | go_guarded | go_step | go_upon | (go_simp; go_at_K)))
  refine bodyPost_ret (v := .tuple #[.agg (valCells 18 X 0 0 ⟨#[]⟩ ⟨#[]⟩ 0 none 0 0 none 0 0), .int .i64 (qm : Nat)]) (by simp [results, Try.results82, go_sem, valCells, *]) rfl ?_
  exact rval_ok HQ.out HBA.out HWG.out HG1.out (rdTS_leaf _ _ (ownOk_k (k := 18) (by omega) HXo.out okz okz (by decide) (by decide) (Nat.zero_le _))) (by (repeat' (first | with_reducible exact Chg.refl _ _ | with_reducible refine Chg.drew ?_ | with_reducible refine Chg.setCell ?_ (fun _ => by first | exact Or.inl rfl | exact Or.inr rfl) _)))

set_option maxRecDepth 100000 in
set_option maxHeartbeats 8000000 in
theorem rvl_16 (dd : Nat) (hof : RDcSaid dd) (hsc : RScSaid dd) {rb b o n c : Nat} {L : List UInt8} {d : Nat} {w : World} (h : RRd w rb b o n c L d 0 0) (q z win : Nat) (hq : q ≤ z) (hz : z < n) (hd : z - q ≤ dd) (hw : win + (z - q) ≤ 2000000) :
    Calls Try.prog 82 #[.pointer (some ⟨rb, 0, none⟩), .int .i64 16, .int .i64 (q : Nat), .int .i64 (z : Nat), .int .i64 (win : Nat)] w fun e w' => ∃ r, Q L d (.val 16 q z win) r ∧ RValO rb b o n c L d r w e w' := by
  have hL : L.length = n := h.rd.1
  have hnc := h.nc
  have hnb := h.nb
  obtain ⟨wa, hwa⟩ : ∃ W, W = (w.alloc (.cells #[.int .i64 0, .int .u64 0, .int .u64 0, .int .u64 0, .string ⟨#[]⟩, .string ⟨#[]⟩, .int .i64 0, .slice none 0 0, .slice none 0 0] 26)).alloc (.cells #[.int .i64 16, .int .u64 0, .int .u64 0, .int .u64 0, .string ⟨#[]⟩, .string ⟨#[]⟩, .int .i64 0, .slice none 0 0, .slice none 0 0] 26) := ⟨_, rfl⟩
  have hb0 : Below w.heap.size w (w.alloc (.cells #[.int .i64 0, .int .u64 0, .int .u64 0, .int .u64 0, .string ⟨#[]⟩, .string ⟨#[]⟩, .int .i64 0, .slice none 0 0, .slice none 0 0] 26)) := (Below.refl _ _).alloc (Nat.le_refl _) _
  have hba : Below w.heap.size w wa := by rw [hwa]; exact hb0.alloc hb0.size _
  obtain ⟨g, hg⟩ : ∃ g, g = w.heap.size := ⟨_, rfl⟩
  obtain ⟨g1, hg1⟩ : ∃ g1, g1 = w.heap.size + 1 := ⟨_, rfl⟩
  have hxa : BoxV wa g zCellsV := by rw [hwa, hg]; exact (BoxV.new _ #[.int .i64 0, .int .u64 0, .int .u64 0, .int .u64 0, .string ⟨#[]⟩, .string ⟨#[]⟩, .int .i64 0, .slice none 0 0, .slice none 0 0] _).keep ((Below.refl _ _).alloc (Nat.le_refl _) _)
  have hya : BoxV wa g1 (valCells 16 0 0 0 ⟨#[]⟩ ⟨#[]⟩ 0 none 0 0 none 0 0) := by
    have e : (w.alloc (.cells #[.int .i64 0, .int .u64 0, .int .u64 0, .int .u64 0, .string ⟨#[]⟩, .string ⟨#[]⟩, .int .i64 0, .slice none 0 0, .slice none 0 0] 26)).heap.size = w.heap.size + 1 := by simp
    rw [hwa, hg1, ← e]
    exact BoxV.new _ #[.int .i64 16, .int .u64 0, .int .u64 0, .int .u64 0, .string ⟨#[]⟩, .string ⟨#[]⟩, .int .i64 0, .slice none 0 0, .slice none 0 0] _
  have HGa := Lib.hid hxa
  have HVa := Lib.hid hya
  have HBA := Lib.hid hba
  have HRA := Lib.hid (h.keep hba)
  have HWG : Hid (w.heap.size = g) := hg.symm
  have HG1 : Hid (g1 = g + 1) := by show _ = _; rw [hg, hg1]
  have hwz : wa.heap.size = g1 + 1 := by rw [hwa, hg1]; simp
  have HWZ := Lib.hid hwz
  have hrb : rb < g := by rw [hg]; exact h.lt
  have hbb : b < g := by rw [hg]; simpa using cell_block (h.at q (by omega))
  have HRB := Lib.hid hrb
  have HBB := Lib.hid hbb
  have hng : ¬ g1 = g := by rw [hg, hg1]; omega
  have hng2 : ¬ g = g1 := by rw [hg, hg1]; omega
  have hr1 : ¬ rb = g := by omega
  have hr2 : ¬ rb = g1 := by rw [hg] at hrb; rw [hg1]; omega
  have hr3 : ¬ g = rb := by omega
  have hr4 : ¬ g1 = rb := by rw [hg] at hrb; rw [hg1]; omega
  have hr5 : ¬ b = g1 := by rw [hg] at hbb; rw [hg1]; omega
  have hr6 : ¬ b = g := by omega
  have CB := Lib.hid (fun W (h : RRd W rb b o n c L d 0 0) er a => rdbad_calls h er a)
  have CF : Hid (Calls Try.prog 98 #[.int .i64 16] wa fun e w' => e = .returned (.int .i64 4) ∧ wa = w') := rdfixed_calls 16 wa
  have e1z : IntKind.i64.wrap ((z : Int) - (q : Int)) = (z : Int) - (q : Int) := IntWalk.i64_in _ (by omega)
  have c0 := HRA.out.c0
  have c4 := HRA.out.c4
  obtain ⟨f0, f1, f2, f3, f4, f5, f6, f7, f8, l0⟩ := HGa.out.nine
  obtain ⟨e0, e1, e2, e3, e4, e5, e6, e7, e8, l1⟩ := HVa.out.nine
  have p0 := (HGa.out.2 0 (by omega)).2
  have o0 := (HVa.out.2 0 (by omega)).2
  have p1 := (HGa.out.2 1 (by omega)).2
  have o1 := (HVa.out.2 1 (by omega)).2
  have p2 := (HGa.out.2 2 (by omega)).2
  have o2 := (HVa.out.2 2 (by omega)).2
  have p3 := (HGa.out.2 3 (by omega)).2
  have o3 := (HVa.out.2 3 (by omega)).2
  have p4 := (HGa.out.2 4 (by omega)).2
  have o4 := (HVa.out.2 4 (by omega)).2
  have p5 := (HGa.out.2 5 (by omega)).2
  have o5 := (HVa.out.2 5 (by omega)).2
  have p6 := (HGa.out.2 6 (by omega)).2
  have o6 := (HVa.out.2 6 (by omega)).2
  have p7 := (HGa.out.2 7 (by omega)).2
  have o7 := (HVa.out.2 7 (by omega)).2
  have p8 := (HGa.out.2 8 (by omega)).2
  have o8 := (HVa.out.2 8 (by omega)).2
  clear hba hxa hya hb0 hrb hbb hwz h
  go_enter Try.func82, Try.ntmps82
  go_upto_region 2 with fail
  rw [← hwa, ← hg1, ← hg]
  clear hwa hg1 hg
  go_wp2_with fail
  refine CF.out.mono ?_
  rintro e wx ⟨rfl, rfl⟩
  by_cases hsh : z < q + 4
  · have HX : Hid (Q L d (.val 16 q z win) (.bad 2 q)) := by
      have hl : leafQ L 16 q z = .bad 2 q := by unfold leafQ; rw [if_pos (by simp [fixN]; omega)]
      rw [← hl]
      exact .val_leaf (by omega) (by omega) (by omega)
    have d1 : decide ((z : Int) - (q : Int) < 4) = true := by simp; omega
    clear hsh
    go_wp2_with fail
    refine (CB.out _ HRA.out 2 q).mono ?_
    rintro e wx ⟨rfl, hE⟩
    have HEx := Lib.hid hE
    have HGx := Lib.hid (HGa.out.chg hE.2 (fun e => hr3 e))
    have HVx := Lib.hid (HVa.out.chg hE.2 (fun e => hr4 e))
    have c4 := hE.1.c4
    clear hE
    clear f0 f1 f2 f3 f4 f5 f6 f7 f8 l0 e0 e1 e2 e3 e4 e5 e6 e7 e8 l1 p0 o0 p1 o1 p2 o2 p3 o3 p4 o4 p5 o5 p6 o6 p7 o7 p8 o8
    obtain ⟨f0, f1, f2, f3, f4, f5, f6, f7, f8, l0⟩ := HGx.out.nine
    obtain ⟨e0, e1, e2, e3, e4, e5, e6, e7, e8, l1⟩ := HVx.out.nine
    have p0 := (HGx.out.2 0 (by omega)).2
    have o0 := (HVx.out.2 0 (by omega)).2
    have p1 := (HGx.out.2 1 (by omega)).2
    have o1 := (HVx.out.2 1 (by omega)).2
    have p2 := (HGx.out.2 2 (by omega)).2
    have o2 := (HVx.out.2 2 (by omega)).2
    have p3 := (HGx.out.2 3 (by omega)).2
    have o3 := (HVx.out.2 3 (by omega)).2
    have p4 := (HGx.out.2 4 (by omega)).2
    have o4 := (HVx.out.2 4 (by omega)).2
    have p5 := (HGx.out.2 5 (by omega)).2
    have o5 := (HVx.out.2 5 (by omega)).2
    have p6 := (HGx.out.2 6 (by omega)).2
    have o6 := (HVx.out.2 6 (by omega)).2
    have p7 := (HGx.out.2 7 (by omega)).2
    have o7 := (HVx.out.2 7 (by omega)).2
    have p8 := (HGx.out.2 8 (by omega)).2
    have o8 := (HVx.out.2 8 (by omega)).2
    go_upto_region 5 with fail
    (repeat (first | go_values | go_skip | go_guarded | go_step | go_upon | (go_simp; go_at_K)))
    refine bodyPost_ret (v := .tuple #[.agg zCellsV, .int .i64 0]) (by simp [results, Try.results82, go_sem, valCells, *]) rfl ?_
    exact rval_bad (nx := 0) HX.out HBA.out HEx.out HWG.out HG1.out HRB.out HBB.out (by (repeat' (first | with_reducible exact Chg.refl _ _ | with_reducible refine Chg.drew ?_ | with_reducible refine Chg.setCell ?_ (fun _ => by first | exact Or.inl rfl | exact Or.inr rfl) _))) (isV_mk 0 0 0 0 ⟨#[]⟩ ⟨#[]⟩ 0 none 0 0 none 0 0)
  have d1 : decide ((z : Int) - (q : Int) < 4) = false := by simp; omega
  have hsh2 : q + 4 ≤ z := by omega
  obtain ⟨qm, hqm⟩ : ∃ x, x = q + 4 := ⟨_, rfl⟩
  have e2z : IntKind.i64.wrap ((q : Int) + 4) = (qm : Int) := (IntWalk.i64_in _ (by omega)).trans (by omega)
  have HQM := Lib.hid hqm
  obtain ⟨X, hX⟩ : ∃ X, X = le (seg L q 4) := ⟨_, rfl⟩
  have CL : Hid (Calls Try.prog 30 #[.slice (some ⟨b, o, none⟩) n c, .int .i64 (q : Nat), .int .i64 4] wa fun e w' => e = .returned (.tuple #[.int .u64 (X : Nat), .bool true]) ∧ wa = w') := by
    rw [hX]
    exact low_yes (some ⟨b, o, none⟩) n c q 4 wa L HRA.out.rd (by omega) (by omega) (by omega)
  have hXo : X < okSize := by rw [hX]; exact le_pow8 _ _ _ (by omega)
  have HXo := Lib.hid hXo
  have HXX := Lib.hid hX
  clear hX hXo hqm
  go_wp2_with fail
  refine CL.out.mono ?_
  rintro e wy ⟨rfl, rfl⟩
  have HQ : Hid (Q L d (.val 16 q z win) (.val (.mk ((16 : Nat) : Int) X 0 0 nt nt 0 [] .nil) qm)) := by
    show Q _ _ _ _
    have hl : leafQ L 16 q z = .val (.mk ((16 : Nat) : Int) X 0 0 nt nt 0 [] .nil) qm := by
      have hz2 : ¬ z < q + 4 := by omega
      have hx : X = le (seg L q 4) := HXX.out
      have hmq : qm = q + 4 := HQM.out
      simp [leafQ, fixN, hz2, hx, hmq]
    rw [← hl]
    exact .val_leaf (by omega) (by omega) (by omega)
  clear hsh hsh2
  go_upto_region 44 with fail
  (repeat (first | go_values | go_skip | go_guarded | go_step | go_upon | (go_simp; go_at_K)))
  refine bodyPost_ret (v := .tuple #[.agg (valCells 16 X 0 0 ⟨#[]⟩ ⟨#[]⟩ 0 none 0 0 none 0 0), .int .i64 (qm : Nat)]) (by simp [results, Try.results82, go_sem, valCells, *]) rfl ?_
  exact rval_ok HQ.out HBA.out HWG.out HG1.out (rdTS_leaf _ _ (ownOk_k (k := 16) (by omega) HXo.out okz okz (by decide) (by decide) (Nat.zero_le _))) (by (repeat' (first | with_reducible exact Chg.refl _ _ | with_reducible refine Chg.drew ?_ | with_reducible refine Chg.setCell ?_ (fun _ => by first | exact Or.inl rfl | exact Or.inr rfl) _)))

set_option maxRecDepth 100000 in
set_option maxHeartbeats 8000000 in
theorem rvl_8 (dd : Nat) (hof : RDcSaid dd) (hsc : RScSaid dd) {rb b o n c : Nat} {L : List UInt8} {d : Nat} {w : World} (h : RRd w rb b o n c L d 0 0) (q z win : Nat) (hq : q ≤ z) (hz : z < n) (hd : z - q ≤ dd) (hw : win + (z - q) ≤ 2000000) :
    Calls Try.prog 82 #[.pointer (some ⟨rb, 0, none⟩), .int .i64 8, .int .i64 (q : Nat), .int .i64 (z : Nat), .int .i64 (win : Nat)] w fun e w' => ∃ r, Q L d (.val 8 q z win) r ∧ RValO rb b o n c L d r w e w' := by
  have hL : L.length = n := h.rd.1
  have hnc := h.nc
  have hnb := h.nb
  obtain ⟨wa, hwa⟩ : ∃ W, W = (w.alloc (.cells #[.int .i64 0, .int .u64 0, .int .u64 0, .int .u64 0, .string ⟨#[]⟩, .string ⟨#[]⟩, .int .i64 0, .slice none 0 0, .slice none 0 0] 26)).alloc (.cells #[.int .i64 8, .int .u64 0, .int .u64 0, .int .u64 0, .string ⟨#[]⟩, .string ⟨#[]⟩, .int .i64 0, .slice none 0 0, .slice none 0 0] 26) := ⟨_, rfl⟩
  have hb0 : Below w.heap.size w (w.alloc (.cells #[.int .i64 0, .int .u64 0, .int .u64 0, .int .u64 0, .string ⟨#[]⟩, .string ⟨#[]⟩, .int .i64 0, .slice none 0 0, .slice none 0 0] 26)) := (Below.refl _ _).alloc (Nat.le_refl _) _
  have hba : Below w.heap.size w wa := by rw [hwa]; exact hb0.alloc hb0.size _
  obtain ⟨g, hg⟩ : ∃ g, g = w.heap.size := ⟨_, rfl⟩
  obtain ⟨g1, hg1⟩ : ∃ g1, g1 = w.heap.size + 1 := ⟨_, rfl⟩
  have hxa : BoxV wa g zCellsV := by rw [hwa, hg]; exact (BoxV.new _ #[.int .i64 0, .int .u64 0, .int .u64 0, .int .u64 0, .string ⟨#[]⟩, .string ⟨#[]⟩, .int .i64 0, .slice none 0 0, .slice none 0 0] _).keep ((Below.refl _ _).alloc (Nat.le_refl _) _)
  have hya : BoxV wa g1 (valCells 8 0 0 0 ⟨#[]⟩ ⟨#[]⟩ 0 none 0 0 none 0 0) := by
    have e : (w.alloc (.cells #[.int .i64 0, .int .u64 0, .int .u64 0, .int .u64 0, .string ⟨#[]⟩, .string ⟨#[]⟩, .int .i64 0, .slice none 0 0, .slice none 0 0] 26)).heap.size = w.heap.size + 1 := by simp
    rw [hwa, hg1, ← e]
    exact BoxV.new _ #[.int .i64 8, .int .u64 0, .int .u64 0, .int .u64 0, .string ⟨#[]⟩, .string ⟨#[]⟩, .int .i64 0, .slice none 0 0, .slice none 0 0] _
  have HGa := Lib.hid hxa
  have HVa := Lib.hid hya
  have HBA := Lib.hid hba
  have HRA := Lib.hid (h.keep hba)
  have HWG : Hid (w.heap.size = g) := hg.symm
  have HG1 : Hid (g1 = g + 1) := by show _ = _; rw [hg, hg1]
  have hwz : wa.heap.size = g1 + 1 := by rw [hwa, hg1]; simp
  have HWZ := Lib.hid hwz
  have hrb : rb < g := by rw [hg]; exact h.lt
  have hbb : b < g := by rw [hg]; simpa using cell_block (h.at q (by omega))
  have HRB := Lib.hid hrb
  have HBB := Lib.hid hbb
  have hng : ¬ g1 = g := by rw [hg, hg1]; omega
  have hng2 : ¬ g = g1 := by rw [hg, hg1]; omega
  have hr1 : ¬ rb = g := by omega
  have hr2 : ¬ rb = g1 := by rw [hg] at hrb; rw [hg1]; omega
  have hr3 : ¬ g = rb := by omega
  have hr4 : ¬ g1 = rb := by rw [hg] at hrb; rw [hg1]; omega
  have hr5 : ¬ b = g1 := by rw [hg] at hbb; rw [hg1]; omega
  have hr6 : ¬ b = g := by omega
  have CB := Lib.hid (fun W (h : RRd W rb b o n c L d 0 0) er a => rdbad_calls h er a)
  have CF : Hid (Calls Try.prog 98 #[.int .i64 8] wa fun e w' => e = .returned (.int .i64 1) ∧ wa = w') := rdfixed_calls 8 wa
  have e1z : IntKind.i64.wrap ((z : Int) - (q : Int)) = (z : Int) - (q : Int) := IntWalk.i64_in _ (by omega)
  have c0 := HRA.out.c0
  have c4 := HRA.out.c4
  obtain ⟨f0, f1, f2, f3, f4, f5, f6, f7, f8, l0⟩ := HGa.out.nine
  obtain ⟨e0, e1, e2, e3, e4, e5, e6, e7, e8, l1⟩ := HVa.out.nine
  have p0 := (HGa.out.2 0 (by omega)).2
  have o0 := (HVa.out.2 0 (by omega)).2
  have p1 := (HGa.out.2 1 (by omega)).2
  have o1 := (HVa.out.2 1 (by omega)).2
  have p2 := (HGa.out.2 2 (by omega)).2
  have o2 := (HVa.out.2 2 (by omega)).2
  have p3 := (HGa.out.2 3 (by omega)).2
  have o3 := (HVa.out.2 3 (by omega)).2
  have p4 := (HGa.out.2 4 (by omega)).2
  have o4 := (HVa.out.2 4 (by omega)).2
  have p5 := (HGa.out.2 5 (by omega)).2
  have o5 := (HVa.out.2 5 (by omega)).2
  have p6 := (HGa.out.2 6 (by omega)).2
  have o6 := (HVa.out.2 6 (by omega)).2
  have p7 := (HGa.out.2 7 (by omega)).2
  have o7 := (HVa.out.2 7 (by omega)).2
  have p8 := (HGa.out.2 8 (by omega)).2
  have o8 := (HVa.out.2 8 (by omega)).2
  clear hba hxa hya hb0 hrb hbb hwz h
  go_enter Try.func82, Try.ntmps82
  go_upto_region 2 with fail
  rw [← hwa, ← hg1, ← hg]
  clear hwa hg1 hg
  go_wp2_with fail
  refine CF.out.mono ?_
  rintro e wx ⟨rfl, rfl⟩
  by_cases hsh : z < q + 1
  · have HX : Hid (Q L d (.val 8 q z win) (.bad 2 q)) := by
      have hl : leafQ L 8 q z = .bad 2 q := by unfold leafQ; rw [if_pos (by simp [fixN]; omega)]
      rw [← hl]
      exact .val_leaf (by omega) (by omega) (by omega)
    have d1 : decide ((z : Int) - (q : Int) < 1) = true := by simp; omega
    clear hsh
    go_wp2_with fail
    refine (CB.out _ HRA.out 2 q).mono ?_
    rintro e wx ⟨rfl, hE⟩
    have HEx := Lib.hid hE
    have HGx := Lib.hid (HGa.out.chg hE.2 (fun e => hr3 e))
    have HVx := Lib.hid (HVa.out.chg hE.2 (fun e => hr4 e))
    have c4 := hE.1.c4
    clear hE
    clear f0 f1 f2 f3 f4 f5 f6 f7 f8 l0 e0 e1 e2 e3 e4 e5 e6 e7 e8 l1 p0 o0 p1 o1 p2 o2 p3 o3 p4 o4 p5 o5 p6 o6 p7 o7 p8 o8
    obtain ⟨f0, f1, f2, f3, f4, f5, f6, f7, f8, l0⟩ := HGx.out.nine
    obtain ⟨e0, e1, e2, e3, e4, e5, e6, e7, e8, l1⟩ := HVx.out.nine
    have p0 := (HGx.out.2 0 (by omega)).2
    have o0 := (HVx.out.2 0 (by omega)).2
    have p1 := (HGx.out.2 1 (by omega)).2
    have o1 := (HVx.out.2 1 (by omega)).2
    have p2 := (HGx.out.2 2 (by omega)).2
    have o2 := (HVx.out.2 2 (by omega)).2
    have p3 := (HGx.out.2 3 (by omega)).2
    have o3 := (HVx.out.2 3 (by omega)).2
    have p4 := (HGx.out.2 4 (by omega)).2
    have o4 := (HVx.out.2 4 (by omega)).2
    have p5 := (HGx.out.2 5 (by omega)).2
    have o5 := (HVx.out.2 5 (by omega)).2
    have p6 := (HGx.out.2 6 (by omega)).2
    have o6 := (HVx.out.2 6 (by omega)).2
    have p7 := (HGx.out.2 7 (by omega)).2
    have o7 := (HVx.out.2 7 (by omega)).2
    have p8 := (HGx.out.2 8 (by omega)).2
    have o8 := (HVx.out.2 8 (by omega)).2
    go_upto_region 5 with fail
    (repeat (first | go_values | go_skip | go_guarded | go_step | go_upon | (go_simp; go_at_K)))
    refine bodyPost_ret (v := .tuple #[.agg zCellsV, .int .i64 0]) (by simp [results, Try.results82, go_sem, valCells, *]) rfl ?_
    exact rval_bad (nx := 0) HX.out HBA.out HEx.out HWG.out HG1.out HRB.out HBB.out (by (repeat' (first | with_reducible exact Chg.refl _ _ | with_reducible refine Chg.drew ?_ | with_reducible refine Chg.setCell ?_ (fun _ => by first | exact Or.inl rfl | exact Or.inr rfl) _))) (isV_mk 0 0 0 0 ⟨#[]⟩ ⟨#[]⟩ 0 none 0 0 none 0 0)
  have d1 : decide ((z : Int) - (q : Int) < 1) = false := by simp; omega
  have hsh2 : q + 1 ≤ z := by omega
  obtain ⟨qm, hqm⟩ : ∃ x, x = q + 1 := ⟨_, rfl⟩
  have e2z : IntKind.i64.wrap ((q : Int) + 1) = (qm : Int) := (IntWalk.i64_in _ (by omega)).trans (by omega)
  have HQM := Lib.hid hqm
  obtain ⟨X, hX⟩ : ∃ X, X = le (seg L q 1) := ⟨_, rfl⟩
  have CL : Hid (Calls Try.prog 30 #[.slice (some ⟨b, o, none⟩) n c, .int .i64 (q : Nat), .int .i64 1] wa fun e w' => e = .returned (.tuple #[.int .u64 (X : Nat), .bool true]) ∧ wa = w') := by
    rw [hX]
    exact low_yes (some ⟨b, o, none⟩) n c q 1 wa L HRA.out.rd (by omega) (by omega) (by omega)
  have hXo : X < okSize := by rw [hX]; exact le_pow8 _ _ _ (by omega)
  have HXo := Lib.hid hXo
  have HXX := Lib.hid hX
  clear hX hXo hqm
  go_wp2_with fail
  refine CL.out.mono ?_
  rintro e wy ⟨rfl, rfl⟩
  by_cases hx1 : 1 < X
  · have d2 : decide ((1 : Int) < (X : Int)) = true := by simp; omega
    have HQ : Hid (Q L d (.val 8 q z win) (.bad 3 q)) := by
      show Q _ _ _ _
      have hl : leafQ L 8 q z = .bad 3 q := by
        have hz2 : ¬ z < q + 1 := by omega
        have hx : X = le (seg L q 1) := HXX.out
        have hmq : qm = q + 1 := HQM.out
        have h3 : 1 < le (seg L q 1) := by rw [← hx]; exact hx1
        simp [leafQ, fixN, hz2, h3]
      rw [← hl]
      exact .val_leaf (by omega) (by omega) (by omega)
    obtain ⟨w2, hw2⟩ : ∃ W, W = wa.setCell ⟨g1, 1, none⟩ (.int .u64 (X : Nat)) := ⟨_, rfl⟩
    have hch : Chg (fun j => j = g1) wa w2 := by rw [hw2]; exact (Chg.refl (fun j => j = g1) wa).setCell (p := ⟨g1, 1, none⟩) (fun _ => rfl) _
    have HG2 : Hid (BoxV w2 g zCellsV) := HGa.out.chg hch (fun e => hng2 e)
    have HV2 : Hid (BoxV w2 g1 (valCells 8 X 0 0 ⟨#[]⟩ ⟨#[]⟩ 0 none 0 0 none 0 0)) := by show BoxV _ _ _; rw [hw2]; exact HVa.out.set 1 _ (by simp [valCells]) (by omega)
    have HR2 : Hid (RRd w2 rb b o n c L d 0 0) := HRA.out.chg hch (fun e => hr2 e) (fun e => hr5 e)
    have HB2 : Hid (Below w.heap.size w w2) := HBA.out.trans (hch.below HBA.out.size (fun j e => by have e2 : j = g1 := e; have := HWG.out; have := HG1.out; omega))
    clear hch hsh hsh2 hx1
    go_upto_region 15 with fail
    rw [← hw2]
    clear hw2
    clear f0 f1 f2 f3 f4 f5 f6 f7 f8 l0 e0 e1 e2 e3 e4 e5 e6 e7 e8 l1 p0 o0 p1 o1 p2 o2 p3 o3 p4 o4 p5 o5 p6 o6 p7 o7 p8 o8
    obtain ⟨f0, f1, f2, f3, f4, f5, f6, f7, f8, l0⟩ := HG2.out.nine
    obtain ⟨e0, e1, e2, e3, e4, e5, e6, e7, e8, l1⟩ := HV2.out.nine
    have p0 := (HG2.out.2 0 (by omega)).2
    have o0 := (HV2.out.2 0 (by omega)).2
    have p1 := (HG2.out.2 1 (by omega)).2
    have o1 := (HV2.out.2 1 (by omega)).2
    have p2 := (HG2.out.2 2 (by omega)).2
    have o2 := (HV2.out.2 2 (by omega)).2
    have p3 := (HG2.out.2 3 (by omega)).2
    have o3 := (HV2.out.2 3 (by omega)).2
    have p4 := (HG2.out.2 4 (by omega)).2
    have o4 := (HV2.out.2 4 (by omega)).2
    have p5 := (HG2.out.2 5 (by omega)).2
    have o5 := (HV2.out.2 5 (by omega)).2
    have p6 := (HG2.out.2 6 (by omega)).2
    have o6 := (HV2.out.2 6 (by omega)).2
    have p7 := (HG2.out.2 7 (by omega)).2
    have o7 := (HV2.out.2 7 (by omega)).2
    have p8 := (HG2.out.2 8 (by omega)).2
    have o8 := (HV2.out.2 8 (by omega)).2
    go_wp2_with fail
    refine (CB.out _ HR2.out 3 q).mono ?_
    rintro e w3 ⟨rfl, hE⟩
    have HE3 := Lib.hid hE
    have HG3 := Lib.hid (HG2.out.chg hE.2 (fun e => hr3 e))
    have HV3 := Lib.hid (HV2.out.chg hE.2 (fun e => hr4 e))
    have c4 := hE.1.c4
    clear hE
    clear f0 f1 f2 f3 f4 f5 f6 f7 f8 l0 e0 e1 e2 e3 e4 e5 e6 e7 e8 l1 p0 o0 p1 o1 p2 o2 p3 o3 p4 o4 p5 o5 p6 o6 p7 o7 p8 o8
    obtain ⟨f0, f1, f2, f3, f4, f5, f6, f7, f8, l0⟩ := HG3.out.nine
    obtain ⟨e0, e1, e2, e3, e4, e5, e6, e7, e8, l1⟩ := HV3.out.nine
    have p0 := (HG3.out.2 0 (by omega)).2
    have o0 := (HV3.out.2 0 (by omega)).2
    have p1 := (HG3.out.2 1 (by omega)).2
    have o1 := (HV3.out.2 1 (by omega)).2
    have p2 := (HG3.out.2 2 (by omega)).2
    have o2 := (HV3.out.2 2 (by omega)).2
    have p3 := (HG3.out.2 3 (by omega)).2
    have o3 := (HV3.out.2 3 (by omega)).2
    have p4 := (HG3.out.2 4 (by omega)).2
    have o4 := (HV3.out.2 4 (by omega)).2
    have p5 := (HG3.out.2 5 (by omega)).2
    have o5 := (HV3.out.2 5 (by omega)).2
    have p6 := (HG3.out.2 6 (by omega)).2
    have o6 := (HV3.out.2 6 (by omega)).2
    have p7 := (HG3.out.2 7 (by omega)).2
    have o7 := (HV3.out.2 7 (by omega)).2
    have p8 := (HG3.out.2 8 (by omega)).2
    have o8 := (HV3.out.2 8 (by omega)).2
    go_upto_region 44 with fail
    (repeat (first | go_values | go_skip | go_guarded | go_step | go_upon | (go_simp; go_at_K)))
    refine bodyPost_ret (v := .tuple #[.agg (valCells 8 X 0 0 ⟨#[]⟩ ⟨#[]⟩ 0 none 0 0 none 0 0), .int .i64 (qm : Nat)]) (by simp [results, Try.results82, go_sem, valCells, *]) rfl ?_
    exact rval_bad (nx := (qm : Nat)) HQ.out HB2.out HE3.out HWG.out HG1.out HRB.out HBB.out (by (repeat' (first | with_reducible exact Chg.refl _ _ | with_reducible refine Chg.drew ?_ | with_reducible refine Chg.setCell ?_ (fun _ => by first | exact Or.inl rfl | exact Or.inr rfl) _))) (isV_mk ..)
  have d2 : decide ((1 : Int) < (X : Int)) = false := by simp; omega
  have HQ : Hid (Q L d (.val 8 q z win) (.val (.mk ((8 : Nat) : Int) X 0 0 nt nt 0 [] .nil) qm)) := by
    show Q _ _ _ _
    have hl : leafQ L 8 q z = .val (.mk ((8 : Nat) : Int) X 0 0 nt nt 0 [] .nil) qm := by
      have hz2 : ¬ z < q + 1 := by omega
      have hx : X = le (seg L q 1) := HXX.out
      have hmq : qm = q + 1 := HQM.out
      have h3 : ¬ 1 < le (seg L q 1) := by rw [← hx]; exact hx1
      simp [leafQ, fixN, hz2, h3, hx, hmq]
    rw [← hl]
    exact .val_leaf (by omega) (by omega) (by omega)
  clear hsh hsh2 hx1
  go_upto_region 44 with fail
  (repeat (first | go_values | go_skip | go_guarded | go_step | go_upon | (go_simp; go_at_K)))
  refine bodyPost_ret (v := .tuple #[.agg (valCells 8 X 0 0 ⟨#[]⟩ ⟨#[]⟩ 0 none 0 0 none 0 0), .int .i64 (qm : Nat)]) (by simp [results, Try.results82, go_sem, valCells, *]) rfl ?_
  exact rval_ok HQ.out HBA.out HWG.out HG1.out (rdTS_leaf _ _ (ownOk_k (k := 8) (by omega) HXo.out okz okz (by decide) (by decide) (Nat.zero_le _))) (by (repeat' (first | with_reducible exact Chg.refl _ _ | with_reducible refine Chg.drew ?_ | with_reducible refine Chg.setCell ?_ (fun _ => by first | exact Or.inl rfl | exact Or.inr rfl) _)))

end Go.Proofs.Ytkcfkdmffbhljaa
