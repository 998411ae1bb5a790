/- The reference's value: the Kinds 2, 13, 14, 12. -/
import Derived.Test.YtkcfkdmffbhljaaRbV0
namespace Go.Proofs.Ytkcfkdmffbhljaa
open Go.RowKit
set_option linter.unusedVariables false
set_option linter.unusedSimpArgs false

set_option maxRecDepth 100000 in
set_option maxHeartbeats 8000000 in
theorem rvl_2 (dd : Nat) (hof : RDcSaid dd) (hsc : RScSaid dd) {rb b o n c : Nat} {L : List UInt8} {d : Nat} {w : World} (h : RRd w rb b o n c L d 0 0) (q z win : Nat) (hq : q ≤ z) (hz : z < n) (hd : z - q ≤ dd) (hw : win + (z - q) ≤ 2000000) :
    Calls Try.prog 82 #[.pointer (some ⟨rb, 0, none⟩), .int .i64 2, .int .i64 (q : Nat), .int .i64 (z : Nat), .int .i64 (win : Nat)] w fun e w' => ∃ r, Q L d (.val 2 q z win) r ∧ RValO rb b o n c L d r w e w' := by
  have hL : L.length = n := h.rd.1
  have hnc := h.nc
  have hnb := h.nb
  obtain ⟨wa, hwa⟩ : ∃ W, W = (w.alloc (.cells #[.int .i64 0, .int .u64 0, .int .u64 0, .int .u64 0, .string ⟨#[]⟩, .string ⟨#[]⟩, .int .i64 0, .slice none 0 0, .slice none 0 0] 26)).alloc (.cells #[.int .i64 2, .int .u64 0, .int .u64 0, .int .u64 0, .string ⟨#[]⟩, .string ⟨#[]⟩, .int .i64 0, .slice none 0 0, .slice none 0 0] 26) := ⟨_, rfl⟩
  have hb0 : Below w.heap.size w (w.alloc (.cells #[.int .i64 0, .int .u64 0, .int .u64 0, .int .u64 0, .string ⟨#[]⟩, .string ⟨#[]⟩, .int .i64 0, .slice none 0 0, .slice none 0 0] 26)) := (Below.refl _ _).alloc (Nat.le_refl _) _
  have hba : Below w.heap.size w wa := by rw [hwa]; exact hb0.alloc hb0.size _
  obtain ⟨g, hg⟩ : ∃ g, g = w.heap.size := ⟨_, rfl⟩
  obtain ⟨g1, hg1⟩ : ∃ g1, g1 = w.heap.size + 1 := ⟨_, rfl⟩
  have hxa : BoxV wa g zCellsV := by rw [hwa, hg]; exact (BoxV.new _ #[.int .i64 0, .int .u64 0, .int .u64 0, .int .u64 0, .string ⟨#[]⟩, .string ⟨#[]⟩, .int .i64 0, .slice none 0 0, .slice none 0 0] _).keep ((Below.refl _ _).alloc (Nat.le_refl _) _)
  have hya : BoxV wa g1 (valCells 2 0 0 0 ⟨#[]⟩ ⟨#[]⟩ 0 none 0 0 none 0 0) := by
    have e : (w.alloc (.cells #[.int .i64 0, .int .u64 0, .int .u64 0, .int .u64 0, .string ⟨#[]⟩, .string ⟨#[]⟩, .int .i64 0, .slice none 0 0, .slice none 0 0] 26)).heap.size = w.heap.size + 1 := by simp
    rw [hwa, hg1, ← e]
    exact BoxV.new _ #[.int .i64 2, .int .u64 0, .int .u64 0, .int .u64 0, .string ⟨#[]⟩, .string ⟨#[]⟩, .int .i64 0, .slice none 0 0, .slice none 0 0] _
  have HGa := Lib.hid hxa
  have HVa := Lib.hid hya
  have HBA := Lib.hid hba
  have HRA := Lib.hid (h.keep hba)
  have HWG : Hid (w.heap.size = g) := hg.symm
  have HG1 : Hid (g1 = g + 1) := by show _ = _; rw [hg, hg1]
  have hwz : wa.heap.size = g1 + 1 := by rw [hwa, hg1]; simp
  have HWZ := Lib.hid hwz
  have hrb : rb < g := by rw [hg]; exact h.lt
  have hbb : b < g := by rw [hg]; simpa using cell_block (h.at q (by omega))
  have HRB := Lib.hid hrb
  have HBB := Lib.hid hbb
  have hng : ¬ g1 = g := by rw [hg, hg1]; omega
  have hng2 : ¬ g = g1 := by rw [hg, hg1]; omega
  have hr1 : ¬ rb = g := by omega
  have hr2 : ¬ rb = g1 := by rw [hg] at hrb; rw [hg1]; omega
  have hr3 : ¬ g = rb := by omega
  have hr4 : ¬ g1 = rb := by rw [hg] at hrb; rw [hg1]; omega
  have hr5 : ¬ b = g1 := by rw [hg] at hbb; rw [hg1]; omega
  have hr6 : ¬ b = g := by omega
  have CB := Lib.hid (fun W (h : RRd W rb b o n c L d 0 0) er a => rdbad_calls h er a)
  have CF : Hid (Calls Try.prog 98 #[.int .i64 2] wa fun e w' => e = .returned (.int .i64 0) ∧ wa = w') := rdfixed_calls 2 wa
  have e1z : IntKind.i64.wrap ((z : Int) - (q : Int)) = (z : Int) - (q : Int) := IntWalk.i64_in _ (by omega)
  have c0 := HRA.out.c0
  have c4 := HRA.out.c4
  obtain ⟨f0, f1, f2, f3, f4, f5, f6, f7, f8, l0⟩ := HGa.out.nine
  obtain ⟨e0, e1, e2, e3, e4, e5, e6, e7, e8, l1⟩ := HVa.out.nine
  have p0 := (HGa.out.2 0 (by omega)).2
  have o0 := (HVa.out.2 0 (by omega)).2
  have p1 := (HGa.out.2 1 (by omega)).2
  have o1 := (HVa.out.2 1 (by omega)).2
  have p2 := (HGa.out.2 2 (by omega)).2
  have o2 := (HVa.out.2 2 (by omega)).2
  have p3 := (HGa.out.2 3 (by omega)).2
  have o3 := (HVa.out.2 3 (by omega)).2
  have p4 := (HGa.out.2 4 (by omega)).2
  have o4 := (HVa.out.2 4 (by omega)).2
  have p5 := (HGa.out.2 5 (by omega)).2
  have o5 := (HVa.out.2 5 (by omega)).2
  have p6 := (HGa.out.2 6 (by omega)).2
  have o6 := (HVa.out.2 6 (by omega)).2
  have p7 := (HGa.out.2 7 (by omega)).2
  have o7 := (HVa.out.2 7 (by omega)).2
  have p8 := (HGa.out.2 8 (by omega)).2
  have o8 := (HVa.out.2 8 (by omega)).2
  clear hba hxa hya hb0 hrb hbb hwz h
  go_enter Try.func82, Try.ntmps82
  go_upto_region 2 with fail
  rw [← hwa, ← hg1, ← hg]
  clear hwa hg1 hg
  go_wp2_with fail
  refine CF.out.mono ?_
  rintro e wx ⟨rfl, rfl⟩
  have d1 : decide ((z : Int) - (q : Int) < 0) = false := by simp; omega
  have d1n : ¬ ((z : Int) < (q : Int)) := by omega
  have d1m : ¬ z < q := by omega
  have e2z : IntKind.i64.wrap (q : Int) = (q : Int) := IntWalk.i64_in _ (by omega)
  obtain ⟨R, hR⟩ : ∃ R, R = textQ L q z := ⟨_, rfl⟩
  have CR := Lib.hid (rdtext_calls HRA.out q z hq (by omega))
  rw [← hR] at CR
  have HR := Lib.hid hR
  have hbdT := textQ_bd (b := L) hq (by omega : z ≤ L.length)
  rw [← hR] at hbdT
  have HSZ : Hid (∀ s nx, R = .ok (s, nx) → (txt s).size ≤ 9223372036854775807) := by
    show ∀ s nx, _
    intro s nx hs
    have := textQ_len (b := L) (q := q) (z := z) (s := s) (n := nx) (by rw [← hR]; exact hs)
    rw [txt_size]
    omega
  clear hR
  go_wp2_with fail
  refine CR.out.mono ?_
  cases R with
  | error ea =>
    obtain ⟨er, a⟩ := ea
    have HQ : Hid (Q L d (.val 2 q z win) (.bad er a)) := by
      show Q _ _ _ _
      have hl : leafQ L 2 q z = .bad er a := by
        have hz2 : ¬ z < q := by omega
        simp [leafQ, fixN, hz2, ← HR.out]
      rw [← hl]
      exact .val_leaf (by omega) (by omega) (by omega)
    clear hbdT
    rintro e w2 ⟨⟨s0, m0, rfl⟩, hE⟩
    have HE2 := Lib.hid hE
    have HG2 := Lib.hid (HGa.out.chg hE.2 (fun e => hr3 e))
    have HV2 := Lib.hid (HVa.out.chg hE.2 (fun e => hr4 e))
    have c4 := hE.1.c4
    clear hE
    clear f0 f1 f2 f3 f4 f5 f6 f7 f8 l0 e0 e1 e2 e3 e4 e5 e6 e7 e8 l1 p0 o0 p1 o1 p2 o2 p3 o3 p4 o4 p5 o5 p6 o6 p7 o7 p8 o8
    obtain ⟨f0, f1, f2, f3, f4, f5, f6, f7, f8, l0⟩ := HG2.out.nine
    obtain ⟨e0, e1, e2, e3, e4, e5, e6, e7, e8, l1⟩ := HV2.out.nine
    have p0 := (HG2.out.2 0 (by omega)).2
    have o0 := (HV2.out.2 0 (by omega)).2
    have p1 := (HG2.out.2 1 (by omega)).2
    have o1 := (HV2.out.2 1 (by omega)).2
    have p2 := (HG2.out.2 2 (by omega)).2
    have o2 := (HV2.out.2 2 (by omega)).2
    have p3 := (HG2.out.2 3 (by omega)).2
    have o3 := (HV2.out.2 3 (by omega)).2
    have p4 := (HG2.out.2 4 (by omega)).2
    have o4 := (HV2.out.2 4 (by omega)).2
    have p5 := (HG2.out.2 5 (by omega)).2
    have o5 := (HV2.out.2 5 (by omega)).2
    have p6 := (HG2.out.2 6 (by omega)).2
    have o6 := (HV2.out.2 6 (by omega)).2
    have p7 := (HG2.out.2 7 (by omega)).2
    have o7 := (HV2.out.2 7 (by omega)).2
    have p8 := (HG2.out.2 8 (by omega)).2
    have o8 := (HV2.out.2 8 (by omega)).2
    go_upto_region 44 with fail
    (repeat (first | go_values | go_skip | go_guarded | go_step | go_upon | (go_simp; go_at_K)))
    refine bodyPost_ret (v := .tuple #[.agg (valCells 2 0 0 0 s0 ⟨#[]⟩ 0 none 0 0 none 0 0), .int .i64 (m0 : Nat)]) (by simp [results, Try.results82, go_sem, valCells, *]) rfl ?_
    exact rval_bad (nx := (m0 : Nat)) HQ.out HBA.out HE2.out HWG.out HG1.out HRB.out HBB.out (by (repeat' (first | with_reducible exact Chg.refl _ _ | with_reducible refine Chg.drew ?_ | with_reducible refine Chg.setCell ?_ (fun _ => by first | exact Or.inl rfl | exact Or.inr rfl) _))) (isV_mk ..)
  | ok sn =>
    obtain ⟨s, m⟩ := sn
    have HQ : Hid (Q L d (.val 2 q z win) (.val (.mk ((2 : Nat) : Int) 0 0 0 (txt s) nt 0 [] .nil) m)) := by
      show Q _ _ _ _
      have hl : leafQ L 2 q z = .val (.mk ((2 : Nat) : Int) 0 0 0 (txt s) nt 0 [] .nil) m := by
        have hz2 : ¬ z < q := by omega
        simp [leafQ, fixN, hz2, ← HR.out]
      rw [← hl]
      exact .val_leaf (by omega) (by omega) (by omega)
    clear hbdT
    have HSS := Lib.hid (HSZ.out s m rfl)
    rintro e w2 ⟨rfl, hb⟩
    have HG2 := Lib.hid (HGa.out.keep hb)
    have HV2 := Lib.hid (HVa.out.keep hb)
    have HR2 := Lib.hid (HRA.out.keep hb)
    have HB2 := Lib.hid hb
    have c4 := HR2.out.c4
    have c0 := HR2.out.c0
    clear hb
    clear f0 f1 f2 f3 f4 f5 f6 f7 f8 l0 e0 e1 e2 e3 e4 e5 e6 e7 e8 l1 p0 o0 p1 o1 p2 o2 p3 o3 p4 o4 p5 o5 p6 o6 p7 o7 p8 o8
    obtain ⟨f0, f1, f2, f3, f4, f5, f6, f7, f8, l0⟩ := HG2.out.nine
    obtain ⟨e0, e1, e2, e3, e4, e5, e6, e7, e8, l1⟩ := HV2.out.nine
    have p0 := (HG2.out.2 0 (by omega)).2
    have o0 := (HV2.out.2 0 (by omega)).2
    have p1 := (HG2.out.2 1 (by omega)).2
    have o1 := (HV2.out.2 1 (by omega)).2
    have p2 := (HG2.out.2 2 (by omega)).2
    have o2 := (HV2.out.2 2 (by omega)).2
    have p3 := (HG2.out.2 3 (by omega)).2
    have o3 := (HV2.out.2 3 (by omega)).2
    have p4 := (HG2.out.2 4 (by omega)).2
    have o4 := (HV2.out.2 4 (by omega)).2
    have p5 := (HG2.out.2 5 (by omega)).2
    have o5 := (HV2.out.2 5 (by omega)).2
    have p6 := (HG2.out.2 6 (by omega)).2
    have o6 := (HV2.out.2 6 (by omega)).2
    have p7 := (HG2.out.2 7 (by omega)).2
    have o7 := (HV2.out.2 7 (by omega)).2
    have p8 := (HG2.out.2 8 (by omega)).2
    have o8 := (HV2.out.2 8 (by omega)).2
    go_upto_region 44 with fail
    (repeat (first | go_values | go_skip | go_guarded | go_step | go_upon | (go_simp; go_at_K)))
    refine bodyPost_ret (v := .tuple #[.agg (valCells 2 0 0 0 (txt s) ⟨#[]⟩ 0 none 0 0 none 0 0), .int .i64 (m : Nat)]) (by simp [results, Try.results82, go_sem, valCells, *]) rfl ?_
    exact rval_ok HQ.out (HBA.out.trans (HB2.out.mono HBA.out.size)) HWG.out HG1.out (rdTS_leaf _ _ (ownOk_k (k := 2) (by omega) okz okz okz HSS.out (by decide) (Nat.zero_le _))) (by (repeat' (first | with_reducible exact Chg.refl _ _ | with_reducible refine Chg.drew ?_ | with_reducible refine Chg.setCell ?_ (fun _ => by first | exact Or.inl rfl | exact Or.inr rfl) _)))

set_option maxRecDepth 100000 in
set_option maxHeartbeats 8000000 in
theorem rvl_13 (dd : Nat) (hof : RDcSaid dd) (hsc : RScSaid dd) {rb b o n c : Nat} {L : List UInt8} {d : Nat} {w : World} (h : RRd w rb b o n c L d 0 0) (q z win : Nat) (hq : q ≤ z) (hz : z < n) (hd : z - q ≤ dd) (hw : win + (z - q) ≤ 2000000) :
    Calls Try.prog 82 #[.pointer (some ⟨rb, 0, none⟩), .int .i64 13, .int .i64 (q : Nat), .int .i64 (z : Nat), .int .i64 (win : Nat)] w fun e w' => ∃ r, Q L d (.val 13 q z win) r ∧ RValO rb b o n c L d r w e w' := by
  have hL : L.length = n := h.rd.1
  have hnc := h.nc
  have hnb := h.nb
  obtain ⟨wa, hwa⟩ : ∃ W, W = (w.alloc (.cells #[.int .i64 0, .int .u64 0, .int .u64 0, .int .u64 0, .string ⟨#[]⟩, .string ⟨#[]⟩, .int .i64 0, .slice none 0 0, .slice none 0 0] 26)).alloc (.cells #[.int .i64 13, .int .u64 0, .int .u64 0, .int .u64 0, .string ⟨#[]⟩, .string ⟨#[]⟩, .int .i64 0, .slice none 0 0, .slice none 0 0] 26) := ⟨_, rfl⟩
  have hb0 : Below w.heap.size w (w.alloc (.cells #[.int .i64 0, .int .u64 0, .int .u64 0, .int .u64 0, .string ⟨#[]⟩, .string ⟨#[]⟩, .int .i64 0, .slice none 0 0, .slice none 0 0] 26)) := (Below.refl _ _).alloc (Nat.le_refl _) _
  have hba : Below w.heap.size w wa := by rw [hwa]; exact hb0.alloc hb0.size _
  obtain ⟨g, hg⟩ : ∃ g, g = w.heap.size := ⟨_, rfl⟩
  obtain ⟨g1, hg1⟩ : ∃ g1, g1 = w.heap.size + 1 := ⟨_, rfl⟩
  have hxa : BoxV wa g zCellsV := by rw [hwa, hg]; exact (BoxV.new _ #[.int .i64 0, .int .u64 0, .int .u64 0, .int .u64 0, .string ⟨#[]⟩, .string ⟨#[]⟩, .int .i64 0, .slice none 0 0, .slice none 0 0] _).keep ((Below.refl _ _).alloc (Nat.le_refl _) _)
  have hya : BoxV wa g1 (valCells 13 0 0 0 ⟨#[]⟩ ⟨#[]⟩ 0 none 0 0 none 0 0) := by
    have e : (w.alloc (.cells #[.int .i64 0, .int .u64 0, .int .u64 0, .int .u64 0, .string ⟨#[]⟩, .string ⟨#[]⟩, .int .i64 0, .slice none 0 0, .slice none 0 0] 26)).heap.size = w.heap.size + 1 := by simp
    rw [hwa, hg1, ← e]
    exact BoxV.new _ #[.int .i64 13, .int .u64 0, .int .u64 0, .int .u64 0, .string ⟨#[]⟩, .string ⟨#[]⟩, .int .i64 0, .slice none 0 0, .slice none 0 0] _
  have HGa := Lib.hid hxa
  have HVa := Lib.hid hya
  have HBA := Lib.hid hba
  have HRA := Lib.hid (h.keep hba)
  have HWG : Hid (w.heap.size = g) := hg.symm
  have HG1 : Hid (g1 = g + 1) := by show _ = _; rw [hg, hg1]
  have hwz : wa.heap.size = g1 + 1 := by rw [hwa, hg1]; simp
  have HWZ := Lib.hid hwz
  have hrb : rb < g := by rw [hg]; exact h.lt
  have hbb : b < g := by rw [hg]; simpa using cell_block (h.at q (by omega))
  have HRB := Lib.hid hrb
  have HBB := Lib.hid hbb
  have hng : ¬ g1 = g := by rw [hg, hg1]; omega
  have hng2 : ¬ g = g1 := by rw [hg, hg1]; omega
  have hr1 : ¬ rb = g := by omega
  have hr2 : ¬ rb = g1 := by rw [hg] at hrb; rw [hg1]; omega
  have hr3 : ¬ g = rb := by omega
  have hr4 : ¬ g1 = rb := by rw [hg] at hrb; rw [hg1]; omega
  have hr5 : ¬ b = g1 := by rw [hg] at hbb; rw [hg1]; omega
  have hr6 : ¬ b = g := by omega
  have CB := Lib.hid (fun W (h : RRd W rb b o n c L d 0 0) er a => rdbad_calls h er a)
  have CF : Hid (Calls Try.prog 98 #[.int .i64 13] wa fun e w' => e = .returned (.int .i64 0) ∧ wa = w') := rdfixed_calls 13 wa
  have e1z : IntKind.i64.wrap ((z : Int) - (q : Int)) = (z : Int) - (q : Int) := IntWalk.i64_in _ (by omega)
  have c0 := HRA.out.c0
  have c4 := HRA.out.c4
  obtain ⟨f0, f1, f2, f3, f4, f5, f6, f7, f8, l0⟩ := HGa.out.nine
  obtain ⟨e0, e1, e2, e3, e4, e5, e6, e7, e8, l1⟩ := HVa.out.nine
  have p0 := (HGa.out.2 0 (by omega)).2
  have o0 := (HVa.out.2 0 (by omega)).2
  have p1 := (HGa.out.2 1 (by omega)).2
  have o1 := (HVa.out.2 1 (by omega)).2
  have p2 := (HGa.out.2 2 (by omega)).2
  have o2 := (HVa.out.2 2 (by omega)).2
  have p3 := (HGa.out.2 3 (by omega)).2
  have o3 := (HVa.out.2 3 (by omega)).2
  have p4 := (HGa.out.2 4 (by omega)).2
  have o4 := (HVa.out.2 4 (by omega)).2
  have p5 := (HGa.out.2 5 (by omega)).2
  have o5 := (HVa.out.2 5 (by omega)).2
  have p6 := (HGa.out.2 6 (by omega)).2
  have o6 := (HVa.out.2 6 (by omega)).2
  have p7 := (HGa.out.2 7 (by omega)).2
  have o7 := (HVa.out.2 7 (by omega)).2
  have p8 := (HGa.out.2 8 (by omega)).2
  have o8 := (HVa.out.2 8 (by omega)).2
  clear hba hxa hya hb0 hrb hbb hwz h
  go_enter Try.func82, Try.ntmps82
  go_upto_region 2 with fail
  rw [← hwa, ← hg1, ← hg]
  clear hwa hg1 hg
  go_wp2_with fail
  refine CF.out.mono ?_
  rintro e wx ⟨rfl, rfl⟩
  have d1 : decide ((z : Int) - (q : Int) < 0) = false := by simp; omega
  have d1n : ¬ ((z : Int) < (q : Int)) := by omega
  have d1m : ¬ z < q := by omega
  have e2z : IntKind.i64.wrap (q : Int) = (q : Int) := IntWalk.i64_in _ (by omega)
  obtain ⟨R, hR⟩ : ∃ R, R = textQ L q z := ⟨_, rfl⟩
  have CR := Lib.hid (rdtext_calls HRA.out q z hq (by omega))
  rw [← hR] at CR
  have HR := Lib.hid hR
  have hbdT := textQ_bd (b := L) hq (by omega : z ≤ L.length)
  rw [← hR] at hbdT
  have HSZ : Hid (∀ s nx, R = .ok (s, nx) → (txt s).size ≤ 9223372036854775807) := by
    show ∀ s nx, _
    intro s nx hs
    have := textQ_len (b := L) (q := q) (z := z) (s := s) (n := nx) (by rw [← hR]; exact hs)
    rw [txt_size]
    omega
  clear hR
  go_wp2_with fail
  refine CR.out.mono ?_
  cases R with
  | error ea =>
    obtain ⟨er, a⟩ := ea
    have HQ : Hid (Q L d (.val 13 q z win) (.bad er a)) := by
      show Q _ _ _ _
      have hl : leafQ L 13 q z = .bad er a := by
        have hz2 : ¬ z < q := by omega
        simp [leafQ, fixN, hz2, ← HR.out]
      rw [← hl]
      exact .val_leaf (by omega) (by omega) (by omega)
    clear hbdT
    rintro e w2 ⟨⟨s0, m0, rfl⟩, hE⟩
    have HE2 := Lib.hid hE
    have HG2 := Lib.hid (HGa.out.chg hE.2 (fun e => hr3 e))
    have HV2 := Lib.hid (HVa.out.chg hE.2 (fun e => hr4 e))
    have c4 := hE.1.c4
    clear hE
    clear f0 f1 f2 f3 f4 f5 f6 f7 f8 l0 e0 e1 e2 e3 e4 e5 e6 e7 e8 l1 p0 o0 p1 o1 p2 o2 p3 o3 p4 o4 p5 o5 p6 o6 p7 o7 p8 o8
    obtain ⟨f0, f1, f2, f3, f4, f5, f6, f7, f8, l0⟩ := HG2.out.nine
    obtain ⟨e0, e1, e2, e3, e4, e5, e6, e7, e8, l1⟩ := HV2.out.nine
    have p0 := (HG2.out.2 0 (by omega)).2
    have o0 := (HV2.out.2 0 (by omega)).2
    have p1 := (HG2.out.2 1 (by omega)).2
    have o1 := (HV2.out.2 1 (by omega)).2
    have p2 := (HG2.out.2 2 (by omega)).2
    have o2 := (HV2.out.2 2 (by omega)).2
    have p3 := (HG2.out.2 3 (by omega)).2
    have o3 := (HV2.out.2 3 (by omega)).2
    have p4 := (HG2.out.2 4 (by omega)).2
    have o4 := (HV2.out.2 4 (by omega)).2
    have p5 := (HG2.out.2 5 (by omega)).2
    have o5 := (HV2.out.2 5 (by omega)).2
    have p6 := (HG2.out.2 6 (by omega)).2
    have o6 := (HV2.out.2 6 (by omega)).2
    have p7 := (HG2.out.2 7 (by omega)).2
    have o7 := (HV2.out.2 7 (by omega)).2
    have p8 := (HG2.out.2 8 (by omega)).2
    have o8 := (HV2.out.2 8 (by omega)).2
    go_upto_region 44 with fail
    (repeat (first | go_values | go_skip | go_guarded | go_step | go_upon | (go_simp; go_at_K)))
    refine bodyPost_ret (v := .tuple #[.agg (valCells 13 0 0 0 s0 ⟨#[]⟩ 0 none 0 0 none 0 0), .int .i64 (m0 : Nat)]) (by simp [results, Try.results82, go_sem, valCells, *]) rfl ?_
    exact rval_bad (nx := (m0 : Nat)) HQ.out HBA.out HE2.out HWG.out HG1.out HRB.out HBB.out (by (repeat' (first | with_reducible exact Chg.refl _ _ | with_reducible refine Chg.drew ?_ | with_reducible refine Chg.setCell ?_ (fun _ => by first | exact Or.inl rfl | exact Or.inr rfl) _))) (isV_mk ..)
  | ok sn =>
    obtain ⟨s, m⟩ := sn
    have HQ : Hid (Q L d (.val 13 q z win) (.val (.mk ((13 : Nat) : Int) 0 0 0 (txt s) nt 0 [] .nil) m)) := by
      show Q _ _ _ _
      have hl : leafQ L 13 q z = .val (.mk ((13 : Nat) : Int) 0 0 0 (txt s) nt 0 [] .nil) m := by
        have hz2 : ¬ z < q := by omega
        simp [leafQ, fixN, hz2, ← HR.out]
      rw [← hl]
      exact .val_leaf (by omega) (by omega) (by omega)
    clear hbdT
    have HSS := Lib.hid (HSZ.out s m rfl)
    rintro e w2 ⟨rfl, hb⟩
    have HG2 := Lib.hid (HGa.out.keep hb)
    have HV2 := Lib.hid (HVa.out.keep hb)
    have HR2 := Lib.hid (HRA.out.keep hb)
    have HB2 := Lib.hid hb
    have c4 := HR2.out.c4
    have c0 := HR2.out.c0
    clear hb
    clear f0 f1 f2 f3 f4 f5 f6 f7 f8 l0 e0 e1 e2 e3 e4 e5 e6 e7 e8 l1 p0 o0 p1 o1 p2 o2 p3 o3 p4 o4 p5 o5 p6 o6 p7 o7 p8 o8
    obtain ⟨f0, f1, f2, f3, f4, f5, f6, f7, f8, l0⟩ := HG2.out.nine
    obtain ⟨e0, e1, e2, e3, e4, e5, e6, e7, e8, l1⟩ := HV2.out.nine
    have p0 := (HG2.out.2 0 (by omega)).2
    have o0 := (HV2.out.2 0 (by omega)).2
    have p1 := (HG2.out.2 1 (by omega)).2
    have o1 := (HV2.out.2 1 (by omega)).2
    have p2 := (HG2.out.2 2 (by omega)).2
    have o2 := (HV2.out.2 2 (by omega)).2
    have p3 := (HG2.out.2 3 (by omega)).2
    have o3 := (HV2.out.2 3 (by omega)).2
    have p4 := (HG2.out.2 4 (by omega)).2
    have o4 := (HV2.out.2 4 (by omega)).2
    have p5 := (HG2.out.2 5 (by omega)).2
    have o5 := (HV2.out.2 5 (by omega)).2
    have p6 := (HG2.out.2 6 (by omega)).2
    have o6 := (HV2.out.2 6 (by omega)).2
    have p7 := (HG2.out.2 7 (by omega)).2
    have o7 := (HV2.out.2 7 (by omega)).2
    have p8 := (HG2.out.2 8 (by omega)).2
    have o8 := (HV2.out.2 8 (by omega)).2
    go_upto_region 44 with fail
    (repeat (first | go_values | go_skip | go_guarded | go_step | go_upon | (go_simp; go_at_K)))
    refine bodyPost_ret (v := .tuple #[.agg (valCells 13 0 0 0 (txt s) ⟨#[]⟩ 0 none 0 0 none 0 0), .int .i64 (m : Nat)]) (by simp [results, Try.results82, go_sem, valCells, *]) rfl ?_
    exact rval_ok HQ.out (HBA.out.trans (HB2.out.mono HBA.out.size)) HWG.out HG1.out (rdTS_leaf _ _ (ownOk_k (k := 13) (by omega) okz okz okz HSS.out (by decide) (Nat.zero_le _))) (by (repeat' (first | with_reducible exact Chg.refl _ _ | with_reducible refine Chg.drew ?_ | with_reducible refine Chg.setCell ?_ (fun _ => by first | exact Or.inl rfl | exact Or.inr rfl) _)))

set_option maxRecDepth 100000 in
set_option maxHeartbeats 8000000 in
theorem rvl_14 (dd : Nat) (hof : RDcSaid dd) (hsc : RScSaid dd) {rb b o n c : Nat} {L : List UInt8} {d : Nat} {w : World} (h : RRd w rb b o n c L d 0 0) (q z win : Nat) (hq : q ≤ z) (hz : z < n) (hd : z - q ≤ dd) (hw : win + (z - q) ≤ 2000000) :
    Calls Try.prog 82 #[.pointer (some ⟨rb, 0, none⟩), .int .i64 14, .int .i64 (q : Nat), .int .i64 (z : Nat), .int .i64 (win : Nat)] w fun e w' => ∃ r, Q L d (.val 14 q z win) r ∧ RValO rb b o n c L d r w e w' := by
  have hL : L.length = n := h.rd.1
  have hnc := h.nc
  have hnb := h.nb
  obtain ⟨wa, hwa⟩ : ∃ W, W = (w.alloc (.cells #[.int .i64 0, .int .u64 0, .int .u64 0, .int .u64 0, .string ⟨#[]⟩, .string ⟨#[]⟩, .int .i64 0, .slice none 0 0, .slice none 0 0] 26)).alloc (.cells #[.int .i64 14, .int .u64 0, .int .u64 0, .int .u64 0, .string ⟨#[]⟩, .string ⟨#[]⟩, .int .i64 0, .slice none 0 0, .slice none 0 0] 26) := ⟨_, rfl⟩
  have hb0 : Below w.heap.size w (w.alloc (.cells #[.int .i64 0, .int .u64 0, .int .u64 0, .int .u64 0, .string ⟨#[]⟩, .string ⟨#[]⟩, .int .i64 0, .slice none 0 0, .slice none 0 0] 26)) := (Below.refl _ _).alloc (Nat.le_refl _) _
  have hba : Below w.heap.size w wa := by rw [hwa]; exact hb0.alloc hb0.size _
  obtain ⟨g, hg⟩ : ∃ g, g = w.heap.size := ⟨_, rfl⟩
  obtain ⟨g1, hg1⟩ : ∃ g1, g1 = w.heap.size + 1 := ⟨_, rfl⟩
  have hxa : BoxV wa g zCellsV := by rw [hwa, hg]; exact (BoxV.new _ #[.int .i64 0, .int .u64 0, .int .u64 0, .int .u64 0, .string ⟨#[]⟩, .string ⟨#[]⟩, .int .i64 0, .slice none 0 0, .slice none 0 0] _).keep ((Below.refl _ _).alloc (Nat.le_refl _) _)
  have hya : BoxV wa g1 (valCells 14 0 0 0 ⟨#[]⟩ ⟨#[]⟩ 0 none 0 0 none 0 0) := by
    have e : (w.alloc (.cells #[.int .i64 0, .int .u64 0, .int .u64 0, .int .u64 0, .string ⟨#[]⟩, .string ⟨#[]⟩, .int .i64 0, .slice none 0 0, .slice none 0 0] 26)).heap.size = w.heap.size + 1 := by simp
    rw [hwa, hg1, ← e]
    exact BoxV.new _ #[.int .i64 14, .int .u64 0, .int .u64 0, .int .u64 0, .string ⟨#[]⟩, .string ⟨#[]⟩, .int .i64 0, .slice none 0 0, .slice none 0 0] _
  have HGa := Lib.hid hxa
  have HVa := Lib.hid hya
  have HBA := Lib.hid hba
  have HRA := Lib.hid (h.keep hba)
  have HWG : Hid (w.heap.size = g) := hg.symm
  have HG1 : Hid (g1 = g + 1) := by show _ = _; rw [hg, hg1]
  have hwz : wa.heap.size = g1 + 1 := by rw [hwa, hg1]; simp
  have HWZ := Lib.hid hwz
  have hrb : rb < g := by rw [hg]; exact h.lt
  have hbb : b < g := by rw [hg]; simpa using cell_block (h.at q (by omega))
  have HRB := Lib.hid hrb
  have HBB := Lib.hid hbb
  have hng : ¬ g1 = g := by rw [hg, hg1]; omega
  have hng2 : ¬ g = g1 := by rw [hg, hg1]; omega
  have hr1 : ¬ rb = g := by omega
  have hr2 : ¬ rb = g1 := by rw [hg] at hrb; rw [hg1]; omega
  have hr3 : ¬ g = rb := by omega
  have hr4 : ¬ g1 = rb := by rw [hg] at hrb; rw [hg1]; omega
  have hr5 : ¬ b = g1 := by rw [hg] at hbb; rw [hg1]; omega
  have hr6 : ¬ b = g := by omega
  have CB := Lib.hid (fun W (h : RRd W rb b o n c L d 0 0) er a => rdbad_calls h er a)
  have CF : Hid (Calls Try.prog 98 #[.int .i64 14] wa fun e w' => e = .returned (.int .i64 0) ∧ wa = w') := rdfixed_calls 14 wa
  have e1z : IntKind.i64.wrap ((z : Int) - (q : Int)) = (z : Int) - (q : Int) := IntWalk.i64_in _ (by omega)
  have c0 := HRA.out.c0
  have c4 := HRA.out.c4
  obtain ⟨f0, f1, f2, f3, f4, f5, f6, f7, f8, l0⟩ := HGa.out.nine
  obtain ⟨e0, e1, e2, e3, e4, e5, e6, e7, e8, l1⟩ := HVa.out.nine
  have p0 := (HGa.out.2 0 (by omega)).2
  have o0 := (HVa.out.2 0 (by omega)).2
  have p1 := (HGa.out.2 1 (by omega)).2
  have o1 := (HVa.out.2 1 (by omega)).2
  have p2 := (HGa.out.2 2 (by omega)).2
  have o2 := (HVa.out.2 2 (by omega)).2
  have p3 := (HGa.out.2 3 (by omega)).2
  have o3 := (HVa.out.2 3 (by omega)).2
  have p4 := (HGa.out.2 4 (by omega)).2
  have o4 := (HVa.out.2 4 (by omega)).2
  have p5 := (HGa.out.2 5 (by omega)).2
  have o5 := (HVa.out.2 5 (by omega)).2
  have p6 := (HGa.out.2 6 (by omega)).2
  have o6 := (HVa.out.2 6 (by omega)).2
  have p7 := (HGa.out.2 7 (by omega)).2
  have o7 := (HVa.out.2 7 (by omega)).2
  have p8 := (HGa.out.2 8 (by omega)).2
  have o8 := (HVa.out.2 8 (by omega)).2
  clear hba hxa hya hb0 hrb hbb hwz h
  go_enter Try.func82, Try.ntmps82
  go_upto_region 2 with fail
  rw [← hwa, ← hg1, ← hg]
  clear hwa hg1 hg
  go_wp2_with fail
  refine CF.out.mono ?_
  rintro e wx ⟨rfl, rfl⟩
  have d1 : decide ((z : Int) - (q : Int) < 0) = false := by simp; omega
  have d1n : ¬ ((z : Int) < (q : Int)) := by omega
  have d1m : ¬ z < q := by omega
  have e2z : IntKind.i64.wrap (q : Int) = (q : Int) := IntWalk.i64_in _ (by omega)
  obtain ⟨R, hR⟩ : ∃ R, R = textQ L q z := ⟨_, rfl⟩
  have CR := Lib.hid (rdtext_calls HRA.out q z hq (by omega))
  rw [← hR] at CR
  have HR := Lib.hid hR
  have hbdT := textQ_bd (b := L) hq (by omega : z ≤ L.length)
  rw [← hR] at hbdT
  have HSZ : Hid (∀ s nx, R = .ok (s, nx) → (txt s).size ≤ 9223372036854775807) := by
    show ∀ s nx, _
    intro s nx hs
    have := textQ_len (b := L) (q := q) (z := z) (s := s) (n := nx) (by rw [← hR]; exact hs)
    rw [txt_size]
    omega
  clear hR
  go_wp2_with fail
  refine CR.out.mono ?_
  cases R with
  | error ea =>
    obtain ⟨er, a⟩ := ea
    have HQ : Hid (Q L d (.val 14 q z win) (.bad er a)) := by
      show Q _ _ _ _
      have hl : leafQ L 14 q z = .bad er a := by
        have hz2 : ¬ z < q := by omega
        simp [leafQ, fixN, hz2, ← HR.out]
      rw [← hl]
      exact .val_leaf (by omega) (by omega) (by omega)
    clear hbdT
    rintro e w2 ⟨⟨s0, m0, rfl⟩, hE⟩
    have HE2 := Lib.hid hE
    have HG2 := Lib.hid (HGa.out.chg hE.2 (fun e => hr3 e))
    have HV2 := Lib.hid (HVa.out.chg hE.2 (fun e => hr4 e))
    have c4 := hE.1.c4
    clear hE
    clear f0 f1 f2 f3 f4 f5 f6 f7 f8 l0 e0 e1 e2 e3 e4 e5 e6 e7 e8 l1 p0 o0 p1 o1 p2 o2 p3 o3 p4 o4 p5 o5 p6 o6 p7 o7 p8 o8
    obtain ⟨f0, f1, f2, f3, f4, f5, f6, f7, f8, l0⟩ := HG2.out.nine
    obtain ⟨e0, e1, e2, e3, e4, e5, e6, e7, e8, l1⟩ := HV2.out.nine
    have p0 := (HG2.out.2 0 (by omega)).2
    have o0 := (HV2.out.2 0 (by omega)).2
    have p1 := (HG2.out.2 1 (by omega)).2
    have o1 := (HV2.out.2 1 (by omega)).2
    have p2 := (HG2.out.2 2 (by omega)).2
    have o2 := (HV2.out.2 2 (by omega)).2
    have p3 := (HG2.out.2 3 (by omega)).2
    have o3 := (HV2.out.2 3 (by omega)).2
    have p4 := (HG2.out.2 4 (by omega)).2
    have o4 := (HV2.out.2 4 (by omega)).2
    have p5 := (HG2.out.2 5 (by omega)).2
    have o5 := (HV2.out.2 5 (by omega)).2
    have p6 := (HG2.out.2 6 (by omega)).2
    have o6 := (HV2.out.2 6 (by omega)).2
    have p7 := (HG2.out.2 7 (by omega)).2
    have o7 := (HV2.out.2 7 (by omega)).2
    have p8 := (HG2.out.2 8 (by omega)).2
    have o8 := (HV2.out.2 8 (by omega)).2
    go_upto_region 44 with fail
    (repeat (first | go_values | go_skip | go_guarded | go_step | go_upon | (go_simp; go_at_K)))
    refine bodyPost_ret (v := .tuple #[.agg (valCells 14 0 0 0 s0 ⟨#[]⟩ 0 none 0 0 none 0 0), .int .i64 (m0 : Nat)]) (by simp [results, Try.results82, go_sem, valCells, *]) rfl ?_
    exact rval_bad (nx := (m0 : Nat)) HQ.out HBA.out HE2.out HWG.out HG1.out HRB.out HBB.out (by (repeat' (first | with_reducible exact Chg.refl _ _ | with_reducible refine Chg.drew ?_ | with_reducible refine Chg.setCell ?_ (fun _ => by first | exact Or.inl rfl | exact Or.inr rfl) _))) (isV_mk ..)
  | ok sn =>
    obtain ⟨s, m⟩ := sn
    have HQ : Hid (Q L d (.val 14 q z win) (.val (.mk ((14 : Nat) : Int) 0 0 0 (txt s) nt 0 [] .nil) m)) := by
      show Q _ _ _ _
      have hl : leafQ L 14 q z = .val (.mk ((14 : Nat) : Int) 0 0 0 (txt s) nt 0 [] .nil) m := by
        have hz2 : ¬ z < q := by omega
        simp [leafQ, fixN, hz2, ← HR.out]
      rw [← hl]
      exact .val_leaf (by omega) (by omega) (by omega)
    clear hbdT
    have HSS := Lib.hid (HSZ.out s m rfl)
    rintro e w2 ⟨rfl, hb⟩
    have HG2 := Lib.hid (HGa.out.keep hb)
    have HV2 := Lib.hid (HVa.out.keep hb)
    have HR2 := Lib.hid (HRA.out.keep hb)
    have HB2 := Lib.hid hb
    have c4 := HR2.out.c4
    have c0 := HR2.out.c0
    clear hb
    clear f0 f1 f2 f3 f4 f5 f6 f7 f8 l0 e0 e1 e2 e3 e4 e5 e6 e7 e8 l1 p0 o0 p1 o1 p2 o2 p3 o3 p4 o4 p5 o5 p6 o6 p7 o7 p8 o8
    obtain ⟨f0, f1, f2, f3, f4, f5, f6, f7, f8, l0⟩ := HG2.out.nine
    obtain ⟨e0, e1, e2, e3, e4, e5, e6, e7, e8, l1⟩ := HV2.out.nine
    have p0 := (HG2.out.2 0 (by omega)).2
    have o0 := (HV2.out.2 0 (by omega)).2
    have p1 := (HG2.out.2 1 (by omega)).2
    have o1 := (HV2.out.2 1 (by omega)).2
    have p2 := (HG2.out.2 2 (by omega)).2
    have o2 := (HV2.out.2 2 (by omega)).2
    have p3 := (HG2.out.2 3 (by omega)).2
    have o3 := (HV2.out.2 3 (by omega)).2
    have p4 := (HG2.out.2 4 (by omega)).2
    have o4 := (HV2.out.2 4 (by omega)).2
    have p5 := (HG2.out.2 5 (by omega)).2
    have o5 := (HV2.out.2 5 (by omega)).2
    have p6 := (HG2.out.2 6 (by omega)).2
    have o6 := (HV2.out.2 6 (by omega)).2
    have p7 := (HG2.out.2 7 (by omega)).2
    have o7 := (HV2.out.2 7 (by omega)).2
    have p8 := (HG2.out.2 8 (by omega)).2
    have o8 := (HV2.out.2 8 (by omega)).2
    go_upto_region 44 with fail
    (repeat (first | go_values | go_skip | go_guarded | go_step | go_upon | (go_simp; go_at_K)))
    refine bodyPost_ret (v := .tuple #[.agg (valCells 14 0 0 0 (txt s) ⟨#[]⟩ 0 none 0 0 none 0 0), .int .i64 (m : Nat)]) (by simp [results, Try.results82, go_sem, valCells, *]) rfl ?_
    exact rval_ok HQ.out (HBA.out.trans (HB2.out.mono HBA.out.size)) HWG.out HG1.out (rdTS_leaf _ _ (ownOk_k (k := 14) (by omega) okz okz okz HSS.out (by decide) (Nat.zero_le _))) (by (repeat' (first | with_reducible exact Chg.refl _ _ | with_reducible refine Chg.drew ?_ | with_reducible refine Chg.setCell ?_ (fun _ => by first | exact Or.inl rfl | exact Or.inr rfl) _)))

set_option maxRecDepth 100000 in
set_option maxHeartbeats 8000000 in
theorem rvl_12 (dd : Nat) (hof : RDcSaid dd) (hsc : RScSaid dd) {rb b o n c : Nat} {L : List UInt8} {d : Nat} {w : World} (h : RRd w rb b o n c L d 0 0) (q z win : Nat) (hq : q ≤ z) (hz : z < n) (hd : z - q ≤ dd) (hw : win + (z - q) ≤ 2000000) :
    Calls Try.prog 82 #[.pointer (some ⟨rb, 0, none⟩), .int .i64 12, .int .i64 (q : Nat), .int .i64 (z : Nat), .int .i64 (win : Nat)] w fun e w' => ∃ r, Q L d (.val 12 q z win) r ∧ RValO rb b o n c L d r w e w' := by
  have hL : L.length = n := h.rd.1
  have hnc := h.nc
  have hnb := h.nb
  obtain ⟨wa, hwa⟩ : ∃ W, W = (w.alloc (.cells #[.int .i64 0, .int .u64 0, .int .u64 0, .int .u64 0, .string ⟨#[]⟩, .string ⟨#[]⟩, .int .i64 0, .slice none 0 0, .slice none 0 0] 26)).alloc (.cells #[.int .i64 12, .int .u64 0, .int .u64 0, .int .u64 0, .string ⟨#[]⟩, .string ⟨#[]⟩, .int .i64 0, .slice none 0 0, .slice none 0 0] 26) := ⟨_, rfl⟩
  have hb0 : Below w.heap.size w (w.alloc (.cells #[.int .i64 0, .int .u64 0, .int .u64 0, .int .u64 0, .string ⟨#[]⟩, .string ⟨#[]⟩, .int .i64 0, .slice none 0 0, .slice none 0 0] 26)) := (Below.refl _ _).alloc (Nat.le_refl _) _
  have hba : Below w.heap.size w wa := by rw [hwa]; exact hb0.alloc hb0.size _
  obtain ⟨g, hg⟩ : ∃ g, g = w.heap.size := ⟨_, rfl⟩
  obtain ⟨g1, hg1⟩ : ∃ g1, g1 = w.heap.size + 1 := ⟨_, rfl⟩
  have hxa : BoxV wa g zCellsV := by rw [hwa, hg]; exact (BoxV.new _ #[.int .i64 0, .int .u64 0, .int .u64 0, .int .u64 0, .string ⟨#[]⟩, .string ⟨#[]⟩, .int .i64 0, .slice none 0 0, .slice none 0 0] _).keep ((Below.refl _ _).alloc (Nat.le_refl _) _)
  have hya : BoxV wa g1 (valCells 12 0 0 0 ⟨#[]⟩ ⟨#[]⟩ 0 none 0 0 none 0 0) := by
    have e : (w.alloc (.cells #[.int .i64 0, .int .u64 0, .int .u64 0, .int .u64 0, .string ⟨#[]⟩, .string ⟨#[]⟩, .int .i64 0, .slice none 0 0, .slice none 0 0] 26)).heap.size = w.heap.size + 1 := by simp
    rw [hwa, hg1, ← e]
    exact BoxV.new _ #[.int .i64 12, .int .u64 0, .int .u64 0, .int .u64 0, .string ⟨#[]⟩, .string ⟨#[]⟩, .int .i64 0, .slice none 0 0, .slice none 0 0] _
  have HGa := Lib.hid hxa
  have HVa := Lib.hid hya
  have HBA := Lib.hid hba
  have HRA := Lib.hid (h.keep hba)
  have HWG : Hid (w.heap.size = g) := hg.symm
  have HG1 : Hid (g1 = g + 1) := by show _ = _; rw [hg, hg1]
  have hwz : wa.heap.size = g1 + 1 := by rw [hwa, hg1]; simp
  have HWZ := Lib.hid hwz
  have hrb : rb < g := by rw [hg]; exact h.lt
  have hbb : b < g := by rw [hg]; simpa using cell_block (h.at q (by omega))
  have HRB := Lib.hid hrb
  have HBB := Lib.hid hbb
  have hng : ¬ g1 = g := by rw [hg, hg1]; omega
  have hng2 : ¬ g = g1 := by rw [hg, hg1]; omega
  have hr1 : ¬ rb = g := by omega
  have hr2 : ¬ rb = g1 := by rw [hg] at hrb; rw [hg1]; omega
  have hr3 : ¬ g = rb := by omega
  have hr4 : ¬ g1 = rb := by rw [hg] at hrb; rw [hg1]; omega
  have hr5 : ¬ b = g1 := by rw [hg] at hbb; rw [hg1]; omega
  have hr6 : ¬ b = g := by omega
  have CB := Lib.hid (fun W (h : RRd W rb b o n c L d 0 0) er a => rdbad_calls h er a)
  have CF : Hid (Calls Try.prog 98 #[.int .i64 12] wa fun e w' => e = .returned (.int .i64 0) ∧ wa = w') := rdfixed_calls 12 wa
  have e1z : IntKind.i64.wrap ((z : Int) - (q : Int)) = (z : Int) - (q : Int) := IntWalk.i64_in _ (by omega)
  have c0 := HRA.out.c0
  have c4 := HRA.out.c4
  obtain ⟨f0, f1, f2, f3, f4, f5, f6, f7, f8, l0⟩ := HGa.out.nine
  obtain ⟨e0, e1, e2, e3, e4, e5, e6, e7, e8, l1⟩ := HVa.out.nine
  have p0 := (HGa.out.2 0 (by omega)).2
  have o0 := (HVa.out.2 0 (by omega)).2
  have p1 := (HGa.out.2 1 (by omega)).2
  have o1 := (HVa.out.2 1 (by omega)).2
  have p2 := (HGa.out.2 2 (by omega)).2
  have o2 := (HVa.out.2 2 (by omega)).2
  have p3 := (HGa.out.2 3 (by omega)).2
  have o3 := (HVa.out.2 3 (by omega)).2
  have p4 := (HGa.out.2 4 (by omega)).2
  have o4 := (HVa.out.2 4 (by omega)).2
  have p5 := (HGa.out.2 5 (by omega)).2
  have o5 := (HVa.out.2 5 (by omega)).2
  have p6 := (HGa.out.2 6 (by omega)).2
  have o6 := (HVa.out.2 6 (by omega)).2
  have p7 := (HGa.out.2 7 (by omega)).2
  have o7 := (HVa.out.2 7 (by omega)).2
  have p8 := (HGa.out.2 8 (by omega)).2
  have o8 := (HVa.out.2 8 (by omega)).2
  clear hba hxa hya hb0 hrb hbb hwz h
  go_enter Try.func82, Try.ntmps82
  go_upto_region 2 with fail
  rw [← hwa, ← hg1, ← hg]
  clear hwa hg1 hg
  go_wp2_with fail
  refine CF.out.mono ?_
  rintro e wx ⟨rfl, rfl⟩
  have d1 : decide ((z : Int) - (q : Int) < 0) = false := by simp; omega
  have d1n : ¬ ((z : Int) < (q : Int)) := by omega
  have d1m : ¬ z < q := by omega
  have e2z : IntKind.i64.wrap (q : Int) = (q : Int) := IntWalk.i64_in _ (by omega)
  obtain ⟨R, hR⟩ : ∃ R, R = textQ L q z := ⟨_, rfl⟩
  have CR := Lib.hid (rdtext_calls HRA.out q z hq (by omega))
  rw [← hR] at CR
  have HR := Lib.hid hR
  have hbdT := textQ_bd (b := L) hq (by omega : z ≤ L.length)
  rw [← hR] at hbdT
  have HSZ : Hid (∀ s nx, R = .ok (s, nx) → (txt s).size ≤ 9223372036854775807) := by
    show ∀ s nx, _
    intro s nx hs
    have := textQ_len (b := L) (q := q) (z := z) (s := s) (n := nx) (by rw [← hR]; exact hs)
    rw [txt_size]
    omega
  clear hR
  go_wp2_with fail
  refine CR.out.mono ?_
  cases R with
  | error ea =>
    obtain ⟨er, a⟩ := ea
    have HQ : Hid (Q L d (.val 12 q z win) (.bad er a)) := by
      show Q _ _ _ _
      have hl : leafQ L 12 q z = .bad er a := by
        have hz2 : ¬ z < q := by omega
        simp [leafQ, fixN, hz2, ← HR.out]
      rw [← hl]
      exact .val_leaf (by omega) (by omega) (by omega)
    have her : ((er : Int) == 0) = false := by have := (hbdT.1 er a rfl).1; simp; omega
    clear hbdT
    rintro e w2 ⟨⟨s0, m0, rfl⟩, hE⟩
    have HE2 := Lib.hid hE
    have HG2 := Lib.hid (HGa.out.chg hE.2 (fun e => hr3 e))
    have HV2 := Lib.hid (HVa.out.chg hE.2 (fun e => hr4 e))
    have c4 := hE.1.c4
    clear hE
    clear f0 f1 f2 f3 f4 f5 f6 f7 f8 l0 e0 e1 e2 e3 e4 e5 e6 e7 e8 l1 p0 o0 p1 o1 p2 o2 p3 o3 p4 o4 p5 o5 p6 o6 p7 o7 p8 o8
    obtain ⟨f0, f1, f2, f3, f4, f5, f6, f7, f8, l0⟩ := HG2.out.nine
    obtain ⟨e0, e1, e2, e3, e4, e5, e6, e7, e8, l1⟩ := HV2.out.nine
    have p0 := (HG2.out.2 0 (by omega)).2
    have o0 := (HV2.out.2 0 (by omega)).2
    have p1 := (HG2.out.2 1 (by omega)).2
    have o1 := (HV2.out.2 1 (by omega)).2
    have p2 := (HG2.out.2 2 (by omega)).2
    have o2 := (HV2.out.2 2 (by omega)).2
    have p3 := (HG2.out.2 3 (by omega)).2
    have o3 := (HV2.out.2 3 (by omega)).2
    have p4 := (HG2.out.2 4 (by omega)).2
    have o4 := (HV2.out.2 4 (by omega)).2
    have p5 := (HG2.out.2 5 (by omega)).2
    have o5 := (HV2.out.2 5 (by omega)).2
    have p6 := (HG2.out.2 6 (by omega)).2
    have o6 := (HV2.out.2 6 (by omega)).2
    have p7 := (HG2.out.2 7 (by omega)).2
    have o7 := (HV2.out.2 7 (by omega)).2
    have p8 := (HG2.out.2 8 (by omega)).2
    have o8 := (HV2.out.2 8 (by omega)).2
    go_upto_region 44 with fail
    (repeat (first | go_values | go_skip | go_guarded | go_step | go_upon | (go_simp; go_at_K)))
    refine bodyPost_ret (v := .tuple #[.agg (valCells 12 0 0 0 s0 ⟨#[]⟩ 0 none 0 0 none 0 0), .int .i64 (m0 : Nat)]) (by simp [results, Try.results82, go_sem, valCells, *]) rfl ?_
    exact rval_bad (nx := (m0 : Nat)) HQ.out HBA.out HE2.out HWG.out HG1.out HRB.out HBB.out (by (repeat' (first | with_reducible exact Chg.refl _ _ | with_reducible refine Chg.drew ?_ | with_reducible refine Chg.setCell ?_ (fun _ => by first | exact Or.inl rfl | exact Or.inr rfl) _))) (isV_mk ..)
  | ok sn =>
    obtain ⟨s, m⟩ := sn
    have hbm := hbdT.2 s m rfl
    have e4z : IntKind.i64.wrap ((z : Int) - (m : Int)) = (z : Int) - (m : Int) := IntWalk.i64_in _ (by omega)
    have HSS := Lib.hid (HSZ.out s m rfl)
    have HRT := HR
    clear hbdT HSZ
    rintro e w2 ⟨rfl, hb⟩
    have HG2 := Lib.hid (HGa.out.keep hb)
    have HV2 := Lib.hid (HVa.out.keep hb)
    have HR2 := Lib.hid (HRA.out.keep hb)
    have HB2 := Lib.hid hb
    have c4 := HR2.out.c4
    have c0 := HR2.out.c0
    clear hb
    clear f0 f1 f2 f3 f4 f5 f6 f7 f8 l0 e0 e1 e2 e3 e4 e5 e6 e7 e8 l1 p0 o0 p1 o1 p2 o2 p3 o3 p4 o4 p5 o5 p6 o6 p7 o7 p8 o8
    obtain ⟨f0, f1, f2, f3, f4, f5, f6, f7, f8, l0⟩ := HG2.out.nine
    obtain ⟨e0, e1, e2, e3, e4, e5, e6, e7, e8, l1⟩ := HV2.out.nine
    have p0 := (HG2.out.2 0 (by omega)).2
    have o0 := (HV2.out.2 0 (by omega)).2
    have p1 := (HG2.out.2 1 (by omega)).2
    have o1 := (HV2.out.2 1 (by omega)).2
    have p2 := (HG2.out.2 2 (by omega)).2
    have o2 := (HV2.out.2 2 (by omega)).2
    have p3 := (HG2.out.2 3 (by omega)).2
    have o3 := (HV2.out.2 3 (by omega)).2
    have p4 := (HG2.out.2 4 (by omega)).2
    have o4 := (HV2.out.2 4 (by omega)).2
    have p5 := (HG2.out.2 5 (by omega)).2
    have o5 := (HV2.out.2 5 (by omega)).2
    have p6 := (HG2.out.2 6 (by omega)).2
    have o6 := (HV2.out.2 6 (by omega)).2
    have p7 := (HG2.out.2 7 (by omega)).2
    have o7 := (HV2.out.2 7 (by omega)).2
    have p8 := (HG2.out.2 8 (by omega)).2
    have o8 := (HV2.out.2 8 (by omega)).2
    obtain ⟨w3, hw3⟩ : ∃ W, W = w2.setCell ⟨g1, 4, none⟩ (.string (txt s)) := ⟨_, rfl⟩
    have hch : Chg (fun j => j = g1) w2 w3 := by rw [hw3]; exact (Chg.refl (fun j => j = g1) w2).setCell (p := ⟨g1, 4, none⟩) (fun _ => rfl) _
    have HG3 : Hid (BoxV w3 g zCellsV) := HG2.out.chg hch (fun e => hng2 e)
    have HV3 : Hid (BoxV w3 g1 (valCells 12 0 0 0 (txt s) ⟨#[]⟩ 0 none 0 0 none 0 0)) := by show BoxV _ _ _; rw [hw3]; exact HV2.out.set 4 _ (by simp [valCells]) (by omega)
    have HR3 : Hid (RRd w3 rb b o n c L d 0 0) := HR2.out.chg hch (fun e => hr2 e) (fun e => hr5 e)
    have HN3 : Hid (Below w.heap.size w w3) := (HBA.out.trans (HB2.out.mono HBA.out.size)).trans (hch.below (HBA.out.trans (HB2.out.mono HBA.out.size)).size (fun j e => by have e2 : j = g1 := e; have := HWG.out; have := HG1.out; omega))
    have HZ3 : Hid (g1 < w3.heap.size) := HV3.out.1
    clear hch
    go_upto_region 28 with fail
    rw [← hw3]
    clear hw3
    have c4 := HR3.out.c4
    have c0 := HR3.out.c0
    clear f0 f1 f2 f3 f4 f5 f6 f7 f8 l0 e0 e1 e2 e3 e4 e5 e6 e7 e8 l1 p0 o0 p1 o1 p2 o2 p3 o3 p4 o4 p5 o5 p6 o6 p7 o7 p8 o8
    obtain ⟨f0, f1, f2, f3, f4, f5, f6, f7, f8, l0⟩ := HG3.out.nine
    obtain ⟨e0, e1, e2, e3, e4, e5, e6, e7, e8, l1⟩ := HV3.out.nine
    have p0 := (HG3.out.2 0 (by omega)).2
    have o0 := (HV3.out.2 0 (by omega)).2
    have p1 := (HG3.out.2 1 (by omega)).2
    have o1 := (HV3.out.2 1 (by omega)).2
    have p2 := (HG3.out.2 2 (by omega)).2
    have o2 := (HV3.out.2 2 (by omega)).2
    have p3 := (HG3.out.2 3 (by omega)).2
    have o3 := (HV3.out.2 3 (by omega)).2
    have p4 := (HG3.out.2 4 (by omega)).2
    have o4 := (HV3.out.2 4 (by omega)).2
    have p5 := (HG3.out.2 5 (by omega)).2
    have o5 := (HV3.out.2 5 (by omega)).2
    have p6 := (HG3.out.2 6 (by omega)).2
    have o6 := (HV3.out.2 6 (by omega)).2
    have p7 := (HG3.out.2 7 (by omega)).2
    have o7 := (HV3.out.2 7 (by omega)).2
    have p8 := (HG3.out.2 8 (by omega)).2
    have o8 := (HV3.out.2 8 (by omega)).2
    by_cases h12 : z < m + 12
    · have d2 : decide ((z : Int) - (m : Int) < 12) = true := by simp; omega
      have HQ : Hid (Q L d (.val 12 q z win) (.bad 2 m)) := by
        show Q _ _ _ _
        have hl : leafQ L 12 q z = .bad 2 m := by
          have hz2 : ¬ z < q := by omega
          simp [leafQ, fixN, hz2, ← HRT.out, h12]
        rw [← hl]
        exact .val_leaf (by omega) (by omega) (by omega)
      clear h12 hbm
      go_wp2_with fail
      refine (CB.out _ HR3.out 2 m).mono ?_
      rintro e w4 ⟨rfl, hE⟩
      have HE4 := Lib.hid hE
      have HG4 := Lib.hid (HG3.out.chg hE.2 (fun e => hr3 e))
      have HV4 := Lib.hid (HV3.out.chg hE.2 (fun e => hr4 e))
      have c4 := hE.1.c4
      clear hE
      clear f0 f1 f2 f3 f4 f5 f6 f7 f8 l0 e0 e1 e2 e3 e4 e5 e6 e7 e8 l1 p0 o0 p1 o1 p2 o2 p3 o3 p4 o4 p5 o5 p6 o6 p7 o7 p8 o8
      obtain ⟨f0, f1, f2, f3, f4, f5, f6, f7, f8, l0⟩ := HG4.out.nine
      obtain ⟨e0, e1, e2, e3, e4, e5, e6, e7, e8, l1⟩ := HV4.out.nine
      have p0 := (HG4.out.2 0 (by omega)).2
      have o0 := (HV4.out.2 0 (by omega)).2
      have p1 := (HG4.out.2 1 (by omega)).2
      have o1 := (HV4.out.2 1 (by omega)).2
      have p2 := (HG4.out.2 2 (by omega)).2
      have o2 := (HV4.out.2 2 (by omega)).2
      have p3 := (HG4.out.2 3 (by omega)).2
      have o3 := (HV4.out.2 3 (by omega)).2
      have p4 := (HG4.out.2 4 (by omega)).2
      have o4 := (HV4.out.2 4 (by omega)).2
      have p5 := (HG4.out.2 5 (by omega)).2
      have o5 := (HV4.out.2 5 (by omega)).2
      have p6 := (HG4.out.2 6 (by omega)).2
      have o6 := (HV4.out.2 6 (by omega)).2
      have p7 := (HG4.out.2 7 (by omega)).2
      have o7 := (HV4.out.2 7 (by omega)).2
      have p8 := (HG4.out.2 8 (by omega)).2
      have o8 := (HV4.out.2 8 (by omega)).2
      go_upto_region 44 with fail
      (repeat (first | go_values | go_skip | go_guarded | go_step | go_upon | (go_simp; go_at_K)))
      refine bodyPost_ret (v := .tuple #[.agg (valCells 12 0 0 0 (txt s) ⟨#[]⟩ 0 none 0 0 none 0 0), .int .i64 (m : Nat)]) (by simp [results, Try.results82, go_sem, valCells, *]) rfl ?_
      exact rval_bad (nx := (m : Nat)) HQ.out HN3.out HE4.out HWG.out HG1.out HRB.out HBB.out (by (repeat' (first | with_reducible exact Chg.refl _ _ | with_reducible refine Chg.drew ?_ | with_reducible refine Chg.setCell ?_ (fun _ => by first | exact Or.inl rfl | exact Or.inr rfl) _))) (isV_mk ..)
    have d2 : decide ((z : Int) - (m : Int) < 12) = false := by simp; omega
    obtain ⟨qm, hqm⟩ : ∃ x, x = m + 12 := ⟨_, rfl⟩
    have e5z : IntKind.i64.wrap ((m : Int) + 12) = (qm : Int) := (IntWalk.i64_in _ (by omega)).trans (by omega)
    obtain ⟨S, hS⟩ : ∃ S, S = seg L m (qm - m) := ⟨_, rfl⟩
    have hsg := HR3.out.part m qm (by omega) (by omega)
    rw [← hS] at hsg
    have hSn : S.length = qm - m := hsg.1
    have HLS : Hid (S.length = 12) := by show _ = _; omega
    have HSE : Hid (SrcB (w3.alloc (.cells #[] 5)) (.slice (some ⟨b, o + m, none⟩) (qm - m) (c - m)) S) := ⟨_, _, _, rfl, hsg.keep ((Below.refl _ _).alloc (Nat.le_refl _) _), by simp⟩
    have j1 : (m : Int) ≤ (qm : Int) := by omega
    have j2 : (qm : Int) ≤ (c : Int) := by omega
    have j3 : ¬ c = m := by omega
    have HS12 := Lib.hid hS
    have HQ : Hid (Q L d (.val 12 q z win) (.val (.mk ((12 : Nat) : Int) 0 0 0 (txt s) nt 0 S .nil) qm)) := by
      show Q _ _ _ _
      have hl : leafQ L 12 q z = .val (.mk ((12 : Nat) : Int) 0 0 0 (txt s) nt 0 S .nil) qm := by
        have hz2 : ¬ z < q := by omega
        have hx : S = seg L m 12 := by rw [hS, hqm, show m + 12 - m = 12 from by omega]
        simp [leafQ, fixN, hz2, ← HRT.out, h12, hx, hqm]
      rw [← hl]
      exact .val_leaf (by omega) (by omega) (by omega)
    have hrl := HR3.out.lt
    clear hS hsg hSn hqm h12 hbm
    have HE : Hid (OwnB (w3.alloc (.cells #[] 5)) w3.heap.size (.slice (some ⟨w3.heap.size, 0, none⟩) 0 0) []) := ownB_empty2 (heap_alloc_new w3 _) (Nat.le_refl _)
    go_wp2_with (at_builtin; refine wpList_appB (v := .slice (some ⟨w3.heap.size, 0, none⟩) 0 0) (bs := []) (sv := .slice (some ⟨b, o + m, none⟩) (qm - m) (c - m)) (l := S) (B := w3.heap.size) (by rfl) _ _ (by rfl) (by rfl) HE.out (by rfl) HSE.out ?o2 ?o3 ?_)
    case o2 => have := HLS.out; simp only [List.length_nil]; omega
    case o3 => simp
    intro v1 w4 ho1 ha1
    have hbn : Below w3.heap.size w3 w4 := ha1.below ((Below.refl _ _).alloc (Nat.le_refl _) _) (by simp) (fun i hi => by have : w3.heap.size = i := Option.some.inj hi; omega)
    obtain ⟨a1, c1, rfl, hrd1⟩ := ho1.reads
    have HO1 := Lib.hid ho1
    have HB4 := Lib.hid hbn
    have HG4 := Lib.hid (HG3.out.keep hbn)
    have HV4 := Lib.hid (HV3.out.keep hbn)
    clear ho1 ha1 hbn hrd1
    clear f0 f1 f2 f3 f4 f5 f6 f7 f8 l0 e0 e1 e2 e3 e4 e5 e6 e7 e8 l1 p0 o0 p1 o1 p2 o2 p3 o3 p4 o4 p5 o5 p6 o6 p7 o7 p8 o8
    obtain ⟨f0, f1, f2, f3, f4, f5, f6, f7, f8, l0⟩ := HG4.out.nine
    obtain ⟨e0, e1, e2, e3, e4, e5, e6, e7, e8, l1⟩ := HV4.out.nine
    have p0 := (HG4.out.2 0 (by omega)).2
    have o0 := (HV4.out.2 0 (by omega)).2
    have p1 := (HG4.out.2 1 (by omega)).2
    have o1 := (HV4.out.2 1 (by omega)).2
    have p2 := (HG4.out.2 2 (by omega)).2
    have o2 := (HV4.out.2 2 (by omega)).2
    have p3 := (HG4.out.2 3 (by omega)).2
    have o3 := (HV4.out.2 3 (by omega)).2
    have p4 := (HG4.out.2 4 (by omega)).2
    have o4 := (HV4.out.2 4 (by omega)).2
    have p5 := (HG4.out.2 5 (by omega)).2
    have o5 := (HV4.out.2 5 (by omega)).2
    have p6 := (HG4.out.2 6 (by omega)).2
    have o6 := (HV4.out.2 6 (by omega)).2
    have p7 := (HG4.out.2 7 (by omega)).2
    have o7 := (HV4.out.2 7 (by omega)).2
    have p8 := (HG4.out.2 8 (by omega)).2
    have o8 := (HV4.out.2 8 (by omega)).2
    have HRM : Hid (Roomy a1 12 c1) := by have := own_roomy HO1.out; rw [HLS.out] at this; exact this
    have HRB2 : Hid (RdBS (fun j => g1 < j) w4 a1 12 S) := by
      have h3 := rdBS_own (S := fun j => g1 < j) HO1.out (fun k hk => by have h7 := (owns_lt HO1.out k hk).1; have h9 := HZ3.out; show g1 < k; omega)
      rw [HLS.out] at h3
      exact h3
    rw [HLS.out]
    go_upto_region 44 with fail
    (repeat (first | go_values | go_skip | go_guarded | go_step | go_upon | (go_simp; go_at_K)))
    refine bodyPost_ret (v := .tuple #[.agg (valCells 12 0 0 0 (txt s) ⟨#[]⟩ 0 a1 12 c1 none 0 0), .int .i64 (qm : Nat)]) (by simp [results, Try.results82, go_sem, valCells, *]) rfl ?_
    exact rval_ok HQ.out (HN3.out.trans (HB4.out.mono HN3.out.size)) HWG.out HG1.out (rdTS_of _ _ (ownOk_k (k := 12) (by omega) okz okz okz HSS.out (by decide) (Nat.zero_le _)) HRB2.out HRM.out trivial rfl (by omega) roomy_nil) (by (repeat' (first | with_reducible exact Chg.refl _ _ | with_reducible refine Chg.drew ?_ | with_reducible refine Chg.setCell ?_ (fun _ => by first | exact Or.inl rfl | exact Or.inr rfl) _)))

end Go.Proofs.Ytkcfkdmffbhljaa
