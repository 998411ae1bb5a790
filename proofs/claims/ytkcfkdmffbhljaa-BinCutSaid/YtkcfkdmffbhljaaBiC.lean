/- bin's reader: a value. -/
import Derived.Test.YtkcfkdmffbhljaaBiC0
import Derived.Deep.CutRange
import Derived.Deep.CutBlock
import Derived.Deep.RegionHeld3
namespace Go.Proofs.Ytkcfkdmffbhljaa
open Go.RowKit
set_option linter.unusedVariables false
set_option linter.unusedSimpArgs false

theorem val_short {L : List UInt8} {deep k q z win : Nat} (hk : knownK (k : Nat) = true) (h : z < q + fixP (k : Nat)) (hq : q ≤ z) : Q L deep (.val k q z win) (.bad 2 q) := by
  by_cases h15 : k = 15
  · subst h15
    refine .val_bad ?_
    unfold scoH
    rw [if_pos (by simpa [fixP] using h)]
  · have h3 : k ≠ 3 := by rintro rfl; simp [fixP] at h; omega
    have h4 : k ≠ 4 := by rintro rfl; simp [fixP] at h; omega
    have e : leafQ L k q z = .bad 2 q := by
      rcases known_cases hk with e | e | e | e | e | e | e | e | e | e | e | e | e | e | e | e | e | e | e | e | e
      all_goals
        obtain rfl : k = _ := Int.ofNat.inj e
        simp [fixP] at h
        first
          | (exfalso; omega)
          | (simp [leafQ, fixN, h]; done)
          | (have h0 : ¬ z < q := by omega
             simp [leafQ, fixN, textQ, h, h0]; done)
          | (have h0 : ¬ z < q := by omega
             simp [leafQ, fixN, binQ, h, h0]; done)
    rw [← e]
    exact .val_leaf h3 h4 h15

theorem rdTS_of (S : Nat → Prop) (W : World) {k : Int} {bits hi lo : Nat} {s m : ByteArray} {sub : Int} {l : List UInt8} {f : F} {ab : Option Addr} {nb cb : Nat} {ak : Option Addr} {nk ck : Nat} (h1 : OwnOk k bits hi lo s m sub) (h2 : RdBS S W ab nb l) (h3 : Roomy ab nb cb) (h4 : RdKsS S W ak 0 f) (h5 : f.len = nk) (h6 : nk ≤ 9223372036854775807) (h7 : Roomy ak nk ck) :
    RdTS S W (.mk k bits hi lo s m sub l f) (valCells k bits hi lo s m sub ab nb cb ak nk ck) := ⟨ab, nb, cb, ak, nk, ck, rfl, h1, h2, h5, ⟨h6, h7, h3⟩, h4⟩
theorem rdBS_nil (S : Nat → Prop) (W : World) : RdBS S W none 0 [] := ⟨RdB.nil _ _, fun h => absurd h (by omega)⟩
theorem roomy_nil : Roomy none 0 0 := ⟨fun _ => rfl, Nat.le_refl _⟩
theorem rdTS_leaf (S : Nat → Prop) (W : World) {k : Int} {bits hi lo : Nat} {s m : ByteArray} {sub : Int} (h1 : OwnOk k bits hi lo s m sub) : RdTS S W (.mk k bits hi lo s m sub [] .nil) (valCells k bits hi lo s m sub none 0 0 none 0 0) :=
  rdTS_of S W h1 (rdBS_nil S W) roomy_nil trivial rfl (by omega) roomy_nil
theorem seg_sub (l : List UInt8) (q n i j : Nat) (h : i + j ≤ n) : seg (seg l q n) i j = seg l (q + i) j := by
  simp only [seg, List.drop_take, List.drop_drop, List.take_take]
  rw [Nat.min_eq_left (by omega)]
theorem knK {k : Nat} (h : knownK (k : Nat) = true) : k = 1 ∨ k = 2 ∨ k = 3 ∨ k = 4 ∨ k = 5 ∨ k = 6 ∨ k = 7 ∨ k = 8 ∨ k = 9 ∨ k = 10 ∨ k = 11 ∨ k = 12 ∨ k = 13 ∨ k = 14 ∨ k = 15 ∨ k = 16 ∨ k = 17 ∨ k = 18 ∨ k = 19 ∨ k = 127 ∨ k = 255 := by
  have := known_cases h
  omega
theorem ownOk_k {k : Nat} (hk : k ≤ 255) {bits hi lo : Nat} (h1 : bits < okSize) (h2 : hi < okSize) (h3 : lo < okSize) {s m : ByteArray} (h4 : s.size ≤ 9223372036854775807) (h5 : m.size ≤ 9223372036854775807) {sub : Nat} (h6 : sub ≤ 255) : OwnOk (k : Nat) bits hi lo s m (sub : Nat) :=
  ⟨by omega, h1, h2, h3, h4, h5, by omega⟩
theorem okz : (0 : Nat) < okSize := by unfold okSize; omega
/-- A reader's number, the boxes behind it. -/
theorem low_at {W : World} {rr : Nat} {L : List UInt8} {q n p j : Nat} (h : Rdr W rr (seg L q n) p) (h1 : 1 ≤ j) (h8 : j ≤ 8) (hj : p + j ≤ n) (hL : q + n ≤ L.length) (J : Int) (hJ : (j : Int) = J) :
    Calls Try.prog 71 #[.pointer (some ⟨rr, 0, none⟩), .int .i64 J] W (StepPost W rr (seg L q n) (.tuple #[.int .u64 (le (seg L (q + p) j)), .bool true]) (p + j)) := by
  subst hJ
  have := rlow_yes rr p (seg L q n) W h j h1 h8 (by rw [seg_length _ _ _ hL]; exact hj)
  rwa [seg_sub L q n p j hj] at this

/-- A store at a cell that holds no byte leaves a Reader. -/
theorem rdr_other {W : World} {r : Nat} {bs : List UInt8} {p : Nat} (h : Rdr W r bs p) {q : Addr} (hq : q.block ≠ r) {u : Value} (hc : W.cell? q = some u) (hu : ∀ x, u ≠ .int .u8 x) (v : Value) : Rdr (W.setCell q v) r bs p := by
  obtain ⟨a, cap, h1, h2, h3, h4, h5, h6, h7, h8, h9⟩ := h
  refine ⟨a, cap, ?_, ?_, ?_, ⟨h4.1, h4.2.1, fun i hi => ?_⟩, h5, h6, h7, h8, h9⟩
  · rw [World.cell?_setCell_other _ _ _ _ (fun e => hq (by rw [e]))]; exact h1
  · rw [World.cell?_setCell_other _ _ _ _ (fun e => hq (by rw [e]))]; exact h2
  · rw [World.frozen?_setCell]; exact h3
  · obtain ⟨b, o, ha, hcc⟩ := h4.at i hi
    refine ⟨b, o, ha, ?_⟩
    rw [World.cell?_setCell_other _ _ _ _ (fun e => by rw [e, hcc] at hc; exact hu _ (Option.some.inj hc).symm)]
    exact hcc

theorem endQ_len {b : List UInt8} {q z n : Nat} {s : List UInt8} (h : endQ b q z = .ok (s, n)) : s.length ≤ b.length := by
  unfold endQ at h
  split at h
  · simp at h
  · simp only [Except.ok.injEq, Prod.mk.injEq] at h
    obtain ⟨rfl, _⟩ := h
    unfold cText
    simp only
    repeat' split
    all_goals (simp; try omega)
theorem textQ_len {b : List UInt8} {q z n : Nat} {s : List UInt8} (h : textQ b q z = .ok (s, n)) : s.length ≤ b.length := by
  unfold textQ at h
  (repeat' split at h) <;> simp at h
  obtain ⟨rfl, _⟩ := h
  unfold seg
  simp
  omega
/-- What stands in the boxes behind the switch. -/
def VRel (w : World) (L : List UInt8) (deep k q z win gv gf : Nat) (x : Value) (W : World) : Prop :=
  ∃ r, Q L deep (.val k q z win) r ∧ Below w.heap.size w W ∧
    (match r with
     | .val t nx => x = .int .i64 (nx : Nat) ∧ ∃ cs, BoxV W gv cs ∧ FBx W gf 0 0 ∧ RdTS (fun j => gf < j) W t cs
     | .bad er a => er ≠ 0 ∧ FBx W gf er a ∧ ∃ t cs, BoxV W gv cs ∧ RdT W t cs
     | .kids _ _ => False)

theorem vrel_val {w : World} {L : List UInt8} {deep k q z win gv gf : Nat} {W : World} {t : T} {nx : Nat} {cs : Array Value} (hQ : Q L deep (.val k q z win) (.val t nx)) (hB : Below w.heap.size w W) (hv : BoxV W gv cs) (hf : FBx W gf 0 0) (ht : RdTS (fun j => gf < j) W t cs) : VRel w L deep k q z win gv gf (.int .i64 (nx : Nat)) W :=
  ⟨_, hQ, hB, rfl, cs, hv, hf, ht⟩
theorem vrel_bad {w : World} {L : List UInt8} {deep k q z win gv gf : Nat} {W : World} {x : Value} {er a : Nat} {t : T} {cs : Array Value} (hQ : Q L deep (.val k q z win) (.bad er a)) (he : er ≠ 0) (hB : Below w.heap.size w W) (hv : BoxV W gv cs) (hf : FBx W gf er a) (ht : RdT W t cs) : VRel w L deep k q z win gv gf x W :=
  ⟨_, hQ, hB, he, hf, t, cs, hv, ht⟩
theorem FBx.put3 {W : World} {g e a : Nat} (h : FBx W g e a) (e' a' : Nat) : FBx (((W.setCell ⟨g, 0, none⟩ (.int .i64 (e' : Nat))).setCell ⟨g, 1, none⟩ (.int .i64 (a' : Nat))).setCell ⟨g, 2, none⟩ (.slice none 0 0)) g e' a' := by
  obtain ⟨h0, h1, h2, f0, f1, f2, hg⟩ := h
  refine ⟨?_, ?_, ?_, ?_, ?_, ?_, ?_⟩ <;> simp [go_sem, *]
theorem Q.bad_ne {b : List UInt8} {deep k q z win er a : Nat} (h : Q b deep (.val k q z win) (.bad er a)) (h1 : q ≤ z) (h2 : z ≤ b.length) : er ≠ 0 := by
  have := h.bd h1 h2
  omega
theorem Q.bad_neD {b : List UInt8} {deep p z win how er a : Nat} (h : Q b deep (.doc p z win how) (.bad er a)) (h1 : p ≤ z) (h2 : z ≤ b.length) : er ≠ 0 := by
  have := h.bd h1 h2
  omega

set_option maxRecDepth 100000 in
set_option maxHeartbeats 32000000 in
theorem vl_step (d : Nat) (hof : DcSaid d) (hsc : ScSaid d) : VlSaid d := by
  intro rb b o n c L deep w h k q z win hk hq hz hd hw
  obtain ⟨wa, hwa⟩ : ∃ W, W = (w.alloc (.cells #[.int .i64 (k : Nat), .int .u64 0, .int .u64 0, .int .u64 0, .string ⟨#[]⟩, .string ⟨#[]⟩, .int .i64 0, .slice none 0 0, .slice none 0 0] 26)).alloc (.cells #[.int .i64 0, .int .i64 0, .slice none 0 0] 34) := ⟨_, rfl⟩
  have hb0 : Below w.heap.size w (w.alloc (.cells #[.int .i64 (k : Nat), .int .u64 0, .int .u64 0, .int .u64 0, .string ⟨#[]⟩, .string ⟨#[]⟩, .int .i64 0, .slice none 0 0, .slice none 0 0] 26)) := (Below.refl _ _).alloc (Nat.le_refl _) _
  have hba : Below w.heap.size w wa := by rw [hwa]; exact hb0.alloc hb0.size _
  obtain ⟨gf, hgf⟩ : ∃ g, g = w.heap.size + 1 := ⟨_, rfl⟩
  have hxa : BoxV wa w.heap.size (valCells (k : Nat) 0 0 0 ⟨#[]⟩ ⟨#[]⟩ 0 none 0 0 none 0 0) := by rw [hwa]; exact (BoxV.new _ #[.int .i64 (k : Nat), .int .u64 0, .int .u64 0, .int .u64 0, .string ⟨#[]⟩, .string ⟨#[]⟩, .int .i64 0, .slice none 0 0, .slice none 0 0] _).keep ((Below.refl _ _).alloc (Nat.le_refl _) _)
  have hfa : FBx wa gf 0 0 := by
    rw [hwa, hgf]
    refine ⟨?_, ?_, ?_, ?_, ?_, ?_, ?_⟩ <;> simp [go_sem]
  have hwz : wa.heap.size = gf + 1 := by rw [hwa, hgf]; simp
  have HBA := Lib.hid hba
  have HXA := Lib.hid hxa
  have HFA := Lib.hid hfa
  have HRA := Lib.hid (h.keep hba)
  have HGF : Hid (gf = w.heap.size + 1) := hgf
  have HWZ := Lib.hid hwz
  have hL : L.length = n := h.2.2.1.1
  have hnc : n ≤ c := h.2.2.2.1
  have hnb : n ≤ 1000000 := h.2.2.2.2
  have hrb : rb < w.heap.size := by simpa using cell_block h.1
  have HRB := Lib.hid hrb
  have HBB : Hid (b < w.heap.size) := by
    show b < _
    have := cell_block (h.at q (by omega))
    simpa using this
  have CW := Lib.hid wrong_calls
  have CF := Lib.hid (fun W => fixed_calls (k : Nat) W)
  have HK := Lib.hid hk
  have hfp : fixP (k : Nat) ≤ 16 := by unfold fixP; (repeat' split) <;> omega
  obtain ⟨m, hm⟩ : ∃ m, m = fixP (k : Nat) := ⟨_, rfl⟩
  rw [← hm] at CF hfp
  have HM := Lib.hid hm
  obtain ⟨f0, f1, f2, f3, f4, f5, f6, f7, f8, l0⟩ := hxa.nine
  obtain ⟨z0, z1, z2, q0, q1, q2, hg1⟩ := hfa
  obtain ⟨r0, r1, -, -, -⟩ := HRA.out
  have e1 : IntKind.i64.wrap ((z : Int) - (q : Int)) = (z : Int) - (q : Int) := IntWalk.i64_in _ (by omega)
  have hng : ¬ gf = w.heap.size := by omega
  have hng2 : ¬ w.heap.size = gf := by omega
  clear hba hxa hb0 hrb hwz hk
  by_cases h1 : z < q + m
  · have HX : Hid (Q L deep (.val k q z win) (.bad 2 q)) := val_short HK.out (by rw [← HM.out]; exact h1) hq
    have d1 : decide ((z : Int) - (q : Int) < (m : Int)) = true := by simp; omega
    clear h1 hm
    go_enter Try.func53, Try.ntmps53
    go_upto_region 2 with fail
    rw [← hwa, ← hgf]
    clear hwa hgf
    go_wp2_with fail
    refine (CF.out _).mono ?_
    rintro e wx ⟨rfl, rfl⟩
    go_wp2_with fail
    refine (CW.out _ _ _).mono ?_
    rintro e w1 ⟨rfl, hb1⟩
    have HB1 := Lib.hid hb1
    have hv1 := HXA.out.keep hb1
    have hf1 := HFA.out.keep hb1
    clear f0 f1 f2 f3 f4 f5 f6 f7 f8 l0 z0 z1 z2 q0 q1 q2 hg1 r0 r1
    obtain ⟨f0, f1, f2, f3, f4, f5, f6, f7, f8, l0⟩ := hv1.nine
    have p0 := (hv1.2 0 (by omega)).2
    have p1 := (hv1.2 1 (by omega)).2
    have p2 := (hv1.2 2 (by omega)).2
    have p3 := (hv1.2 3 (by omega)).2
    have p4 := (hv1.2 4 (by omega)).2
    have p5 := (hv1.2 5 (by omega)).2
    have p6 := (hv1.2 6 (by omega)).2
    have p7 := (hv1.2 7 (by omega)).2
    have p8 := (hv1.2 8 (by omega)).2
    obtain ⟨z0, z1, z2, q0, q1, q2, hg1⟩ := hf1
    clear hb1 hv1
    go_wp2_with fail
    refine bodyPost_ret (v := .tuple #[.agg zCellsV, .int .i64 0, fltV 2 q]) (by simp [results, Try.results53, go_sem, *]) rfl ?_
    refine ⟨_, HX.out, rfl, ?_⟩
    have hfin : Below w.heap.size w w1 := HBA.out.trans (HB1.out.mono HBA.out.size)
    (repeat' (first | with_reducible exact hfin | with_reducible refine Below.setCell ?_ (by first | exact Nat.le_refl _ | (rw [HGF.out]; exact Nat.le_succ _)) _))
  have d1 : decide ((z : Int) - (q : Int) < (m : Int)) = false := by simp; omega
  obtain ⟨qm, hqm⟩ : ∃ x, x = q + m := ⟨_, rfl⟩
  have w1 : IntKind.i64.wrap ((q : Int) + (m : Int)) = (qm : Int) := (IntWalk.i64_in _ (by omega)).trans (by omega)
  have j1 : (q : Int) ≤ (qm : Int) := by omega
  have j2 : (qm : Int) ≤ (c : Int) := by omega
  have j3 : ¬ c = q := by omega
  have hqz : qm ≤ z := by omega
  have CN := Lib.hid (new_calls (some ⟨b, o + q, none⟩) (qm - q) (c - q) (seg L q (qm - q)) wa (HRA.out.part q qm (by omega) (by omega)) (by simp) (by omega))
  have HQM := Lib.hid hqm
  clear h1 hm hqm
  go_enter Try.func53, Try.ntmps53
  go_upto_region 2 with fail
  rw [← hwa, ← hgf]
  clear hwa hgf
  go_wp2_with fail
  refine (CF.out _).mono ?_
  rintro e wx ⟨rfl, rfl⟩
  go_wp2_with fail
  refine CN.out.mono ?_
  rintro e w1 ⟨rr, rfl, hrr, hb1, hrs⟩
  have HB1 := Lib.hid hb1
  have HX1 := Lib.hid (HXA.out.keep hb1)
  have HF1 := Lib.hid (HFA.out.keep hb1)
  have HR1 := Lib.hid (HRA.out.keep hb1)
  have HRR := Lib.hid hrr
  have HRS : Hid (gf < rr) := by show _ < _; rw [HWZ.out] at hrs; omega
  clear f0 f1 f2 f3 f4 f5 f6 f7 f8 l0 z0 z1 z2 q0 q1 q2 hg1 r0 r1
  obtain ⟨f0, f1, f2, f3, f4, f5, f6, f7, f8, l0⟩ := HX1.out.nine
  obtain ⟨z0, z1, z2, q0, q1, q2, hg1⟩ := HF1.out
  obtain ⟨r0, r1, -, -, -⟩ := HR1.out
  clear hb1 hrr hrs
  go_upto_block 0 with fail
  go_cut [11] from 40 to 200 (fun x11 W => VRel w L deep k q z win w.heap.size gf x11 W)
  case first =>
    rcases knK HK.out with hk | hk | hk | hk | hk | hk | hk | hk | hk | hk | hk | hk | hk | hk | hk | hk | hk | hk | hk | hk | hk
    · as_aux_lemma =>
        have HKK := Lib.hid hk
        have t1 : ((k : Int) == 1) = true := by rw [hk]; rfl
        have t9 : ((k : Int) == 9) = false := by rw [hk]; rfl
        have t17 : ((k : Int) == 17) = false := by rw [hk]; rfl
        have t18 : ((k : Int) == 18) = false := by rw [hk]; rfl
        have t16 : ((k : Int) == 16) = false := by rw [hk]; rfl
        have t8 : ((k : Int) == 8) = false := by rw [hk]; rfl
        have t19 : ((k : Int) == 19) = false := by rw [hk]; rfl
        have t7 : ((k : Int) == 7) = false := by rw [hk]; rfl
        have t2 : ((k : Int) == 2) = false := by rw [hk]; rfl
        have t13 : ((k : Int) == 13) = false := by rw [hk]; rfl
        have t14 : ((k : Int) == 14) = false := by rw [hk]; rfl
        have t12 : ((k : Int) == 12) = false := by rw [hk]; rfl
        have t11 : ((k : Int) == 11) = false := by rw [hk]; rfl
        have t5 : ((k : Int) == 5) = false := by rw [hk]; rfl
        have t3 : ((k : Int) == 3) = false := by rw [hk]; rfl
        have t4 : ((k : Int) == 4) = false := by rw [hk]; rfl
        have t15 : ((k : Int) == 15) = false := by rw [hk]; rfl
        clear hk
        have hmv : m = 8 := by rw [HM.out, HKK.out]; rfl
        have hqm := HQM.out
        obtain ⟨X, hX⟩ : ∃ X, X = le (seg L q m) := ⟨_, rfl⟩
        have CL := Lib.hid (low_at (L := L) (q := q) (n := qm - q) (p := 0) (j := m) HRR.out (by omega) (by omega) (by omega) (by omega) (m : Int) rfl)
        rw [Nat.add_zero, ← hX] at CL
        have hXo : X < okSize := by rw [hX]; exact le_pow8 _ _ _ (by omega)
        have HXX := Lib.hid hX
        have HMV := Lib.hid hmv
        clear hmv hqm hX
        go_wp2_with fail
        refine CL.out.mono ?_
        rintro e w2 ⟨rfl, -, hch2⟩
        have HX2 : Hid (BoxV w2 w.heap.size (valCells (k : Nat) 0 0 0 ⟨#[]⟩ ⟨#[]⟩ 0 none 0 0 none 0 0)) := HX1.out.chg hch2 (by have h7 := HRS.out; have h8 := HGF.out; omega)
        have HF2 : Hid (FBx w2 gf 0 0) := HF1.out.block hch2.size (hch2.block gf HF1.out.2.2.2.2.2.2 (by have h7 := HRS.out; have h8 := HGF.out; omega))
        have HB2 : Hid (Below wa.heap.size wa w2) := HB1.out.trans (hch2.below HB1.out.size (fun i hi => by have h7 := HRS.out; have h8 := HWZ.out; have h9 : i = rr := hi; omega))
        clear hch2
        clear f0 f1 f2 f3 f4 f5 f6 f7 f8 l0 z0 z1 z2 q0 q1 q2 hg1
        obtain ⟨f0, f1, f2, f3, f4, f5, f6, f7, f8, l0⟩ := HX2.out.nine
        have p0 := (HX2.out.2 0 (by omega)).2
        have p1 := (HX2.out.2 1 (by omega)).2
        have p2 := (HX2.out.2 2 (by omega)).2
        have p3 := (HX2.out.2 3 (by omega)).2
        have p4 := (HX2.out.2 4 (by omega)).2
        have p5 := (HX2.out.2 5 (by omega)).2
        have p6 := (HX2.out.2 6 (by omega)).2
        have p7 := (HX2.out.2 7 (by omega)).2
        have p8 := (HX2.out.2 8 (by omega)).2
        obtain ⟨z0, z1, z2, q0, q1, q2, hg1⟩ := HF2.out
        have hv3 : BoxV (w2.setCell ⟨w.heap.size, 1, none⟩ (.int .u64 (X : Nat))) w.heap.size (valCells (k : Nat) X 0 0 ⟨#[]⟩ ⟨#[]⟩ 0 none 0 0 none 0 0) := HX2.out.set 1 _ (by simp [valCells]) (by omega)
        have hf3 : FBx (w2.setCell ⟨w.heap.size, 1, none⟩ (.int .u64 (X : Nat))) gf 0 0 := HF2.out.other (fun e => hng2 e) _
        have HV3 := Lib.hid hv3
        have HF3 := Lib.hid hf3
        have hfin : Below w.heap.size w w2 := HBA.out.trans (HB2.out.mono HBA.out.size)
        have HFIN := Lib.hid hfin
        have HQ : Hid (Q L deep (.val k q z win) (.val (.mk (k : Nat) X 0 0 nt nt 0 [] .nil) qm)) := by
          show Q _ _ _ _
          have hk := HKK.out
          have hm := HM.out
          have hqm := HQM.out
          subst hk
          have hl : leafQ L 1 q z = .val (.mk ((1 : Nat) : Int) X 0 0 nt nt 0 [] .nil) qm := by
            have hz2 : ¬ z < q + 8 := by have : m = 8 := HMV.out; omega
            have hmq : qm = q + 8 := by have : m = 8 := HMV.out; omega
            have hx : X = le (seg L q 8) := by rw [HXX.out, HMV.out]
            simp [leafQ, fixN, hz2, hx, hmq]
          rw [← hl]
          exact .val_leaf (by omega) (by omega) (by omega)
        clear hv3 hf3 hfin
        go_wp2_with fail
        go_meet
        case rel => exact vrel_val HQ.out (by have hfin := HFIN.out; (repeat' (first | with_reducible exact hfin | with_reducible refine Below.setCell ?_ (by first | exact Nat.le_refl _ | (rw [HGF.out]; exact Nat.le_succ _)) _))) HV3.out HF3.out (rdTS_leaf _ _ (ownOk_k (by have h7 := HKK.out; omega) hXo okz okz (by decide) (by decide) (Nat.zero_le _)))
    · as_aux_lemma =>
        have HKK := Lib.hid hk
        have t1 : ((k : Int) == 1) = false := by rw [hk]; rfl
        have t9 : ((k : Int) == 9) = false := by rw [hk]; rfl
        have t17 : ((k : Int) == 17) = false := by rw [hk]; rfl
        have t18 : ((k : Int) == 18) = false := by rw [hk]; rfl
        have t16 : ((k : Int) == 16) = false := by rw [hk]; rfl
        have t8 : ((k : Int) == 8) = false := by rw [hk]; rfl
        have t19 : ((k : Int) == 19) = false := by rw [hk]; rfl
        have t7 : ((k : Int) == 7) = false := by rw [hk]; rfl
        have t2 : ((k : Int) == 2) = true := by rw [hk]; rfl
        have t13 : ((k : Int) == 13) = false := by rw [hk]; rfl
        have t14 : ((k : Int) == 14) = false := by rw [hk]; rfl
        have t12 : ((k : Int) == 12) = false := by rw [hk]; rfl
        have t11 : ((k : Int) == 11) = false := by rw [hk]; rfl
        have t5 : ((k : Int) == 5) = false := by rw [hk]; rfl
        have t3 : ((k : Int) == 3) = false := by rw [hk]; rfl
        have t4 : ((k : Int) == 4) = false := by rw [hk]; rfl
        have t15 : ((k : Int) == 15) = false := by rw [hk]; rfl
        clear hk
        have hqm := HQM.out
        have hz2 : ¬ z < q + fixN k := by rw [HKK.out]; simp [fixN]; omega
        have CT := Lib.hid (fun W (h : BRd W rb b o n c L deep) => text_calls rb b o n c L deep W h q z hq (by omega))
        have HLF : Hid (leafQ L k q z = match textQ L q z with | .error (e, a) => .bad e a | .ok (s, n) => .val (.mk (k : Nat) 0 0 0 (txt s) nt 0 [] .nil) n) := by
          show _ = _
          have hk := HKK.out
          have hz3 := hz2
          subst hk
          simp [leafQ, fixN] at hz3 ⊢
          rw [if_neg (by omega)]
          rfl
        have hQL : Q L deep (.val k q z win) (leafQ L k q z) := .val_leaf (by have := HKK.out; omega) (by have := HKK.out; omega) (by have := HKK.out; omega)
        rw [HLF.out] at hQL
        obtain ⟨R, hR⟩ : ∃ R, R = textQ L q z := ⟨_, rfl⟩
        have hbdT := (textQ_bd (b := L) hq (by omega)).1
        rw [← hR] at hQL CT hbdT
        have HSZ : Hid (∀ s nx, R = .ok (s, nx) → s.length ≤ 1000000) := by
          show ∀ s nx, _
          intro s nx hs
          have := textQ_len (b := L) (q := q) (z := z) (s := s) (n := nx) (by rw [← hR]; exact hs)
          omega
        have HQL := Lib.hid hQL
        clear hqm hz2 hQL hR HLF
        go_wp2_with fail
        cases R with
        | error ea =>
          obtain ⟨er, a⟩ := ea
          have her : er ≠ 0 := by have := hbdT er a rfl; omega
          refine (CT.out _ HR1.out).mono ?_
          rintro e w2 ⟨rfl, hb2⟩
          have HX2 : Hid (BoxV w2 w.heap.size (valCells (k : Nat) 0 0 0 ⟨#[]⟩ ⟨#[]⟩ 0 none 0 0 none 0 0)) := HX1.out.keep hb2
          have HF2 : Hid (FBx w2 gf 0 0) := HF1.out.keep hb2
          have HB2 : Hid (Below wa.heap.size wa w2) := HB1.out.trans (hb2.mono HB1.out.size)
          have HR2 : Hid (BRd w2 rb b o n c L deep) := HR1.out.keep hb2
          have hfin : Below w.heap.size w w2 := HBA.out.trans (HB2.out.mono HBA.out.size)
          have HFIN := Lib.hid hfin
          clear hb2 hfin
          clear f0 f1 f2 f3 f4 f5 f6 f7 f8 l0 z0 z1 z2 q0 q1 q2 hg1
          obtain ⟨f0, f1, f2, f3, f4, f5, f6, f7, f8, l0⟩ := HX2.out.nine
          have p0 := (HX2.out.2 0 (by omega)).2
          have p1 := (HX2.out.2 1 (by omega)).2
          have p2 := (HX2.out.2 2 (by omega)).2
          have p3 := (HX2.out.2 3 (by omega)).2
          have p4 := (HX2.out.2 4 (by omega)).2
          have p5 := (HX2.out.2 5 (by omega)).2
          have p6 := (HX2.out.2 6 (by omega)).2
          have p7 := (HX2.out.2 7 (by omega)).2
          have p8 := (HX2.out.2 8 (by omega)).2
          obtain ⟨z0, z1, z2, q0, q1, q2, hg1⟩ := HF2.out
          have hv3 : BoxV (w2.setCell ⟨w.heap.size, 4, none⟩ (.string ⟨#[]⟩)) w.heap.size (valCells (k : Nat) 0 0 0 ⟨#[]⟩ ⟨#[]⟩ 0 none 0 0 none 0 0) := HX2.out.set 4 _ (by simp [valCells]) (by omega)
          have hf3 : FBx (w2.setCell ⟨w.heap.size, 4, none⟩ (.string ⟨#[]⟩)) gf 0 0 := HF2.out.other (fun e => hng2 e) _
          have HV3 := Lib.hid hv3
          have HF3 := Lib.hid hf3
          clear hv3 hf3
          go_wp2_with fail
          go_meet
          case rel => exact vrel_bad HQL.out her (by have hfin := HFIN.out; (repeat' (first | with_reducible exact hfin | with_reducible refine Below.setCell ?_ (by first | exact Nat.le_refl _ | (rw [HGF.out]; exact Nat.le_succ _)) _))) (BoxV.other (BoxV.other (BoxV.other HV3.out (fun e => hng e) _) (fun e => hng e) _) (fun e => hng e) _) (HF3.out.put3 er a) (rdTS_leaf (fun _ => True) _ (ownOk_k (by have h7 := HKK.out; omega) okz okz okz (by decide) (by decide) (Nat.zero_le _))).rd
        | ok sn =>
          obtain ⟨s, nx⟩ := sn
          refine (CT.out _ HR1.out).mono ?_
          rintro e w2 ⟨rfl, hb2⟩
          have hsz : s.length ≤ 1000000 := by have := HSZ.out s nx rfl; omega
          have HX2 : Hid (BoxV w2 w.heap.size (valCells (k : Nat) 0 0 0 ⟨#[]⟩ ⟨#[]⟩ 0 none 0 0 none 0 0)) := HX1.out.keep hb2
          have HF2 : Hid (FBx w2 gf 0 0) := HF1.out.keep hb2
          have HB2 : Hid (Below wa.heap.size wa w2) := HB1.out.trans (hb2.mono HB1.out.size)
          have HR2 : Hid (BRd w2 rb b o n c L deep) := HR1.out.keep hb2
          have hfin : Below w.heap.size w w2 := HBA.out.trans (HB2.out.mono HBA.out.size)
          have HFIN := Lib.hid hfin
          clear hb2 hfin
          clear f0 f1 f2 f3 f4 f5 f6 f7 f8 l0 z0 z1 z2 q0 q1 q2 hg1
          obtain ⟨f0, f1, f2, f3, f4, f5, f6, f7, f8, l0⟩ := HX2.out.nine
          have p0 := (HX2.out.2 0 (by omega)).2
          have p1 := (HX2.out.2 1 (by omega)).2
          have p2 := (HX2.out.2 2 (by omega)).2
          have p3 := (HX2.out.2 3 (by omega)).2
          have p4 := (HX2.out.2 4 (by omega)).2
          have p5 := (HX2.out.2 5 (by omega)).2
          have p6 := (HX2.out.2 6 (by omega)).2
          have p7 := (HX2.out.2 7 (by omega)).2
          have p8 := (HX2.out.2 8 (by omega)).2
          obtain ⟨z0, z1, z2, q0, q1, q2, hg1⟩ := HF2.out
          have hv3 : BoxV (w2.setCell ⟨w.heap.size, 4, none⟩ (.string (txt s))) w.heap.size (valCells (k : Nat) 0 0 0 (txt s) ⟨#[]⟩ 0 none 0 0 none 0 0) := HX2.out.set 4 _ (by simp [valCells]) (by omega)
          have hf3 : FBx (w2.setCell ⟨w.heap.size, 4, none⟩ (.string (txt s))) gf 0 0 := HF2.out.other (fun e => hng2 e) _
          have HV3 := Lib.hid hv3
          have HF3 := Lib.hid hf3
          clear hv3 hf3
          go_wp2_with fail
          go_meet
          case rel => exact vrel_val HQL.out (by have hfin := HFIN.out; (repeat' (first | with_reducible exact hfin | with_reducible refine Below.setCell ?_ (by first | exact Nat.le_refl _ | (rw [HGF.out]; exact Nat.le_succ _)) _))) (BoxV.other (BoxV.other (BoxV.other HV3.out (fun e => hng e) _) (fun e => hng e) _) (fun e => hng e) _) (HF3.out.put3 0 0) (rdTS_leaf _ _ (ownOk_k (by have h7 := HKK.out; omega) okz okz okz (by have : (txt s).size = s.length := txt_size s; omega) (by decide) (Nat.zero_le _)))
    · as_aux_lemma =>
        have HKK := Lib.hid hk
        have t1 : ((k : Int) == 1) = false := by rw [hk]; rfl
        have t9 : ((k : Int) == 9) = false := by rw [hk]; rfl
        have t17 : ((k : Int) == 17) = false := by rw [hk]; rfl
        have t18 : ((k : Int) == 18) = false := by rw [hk]; rfl
        have t16 : ((k : Int) == 16) = false := by rw [hk]; rfl
        have t8 : ((k : Int) == 8) = false := by rw [hk]; rfl
        have t19 : ((k : Int) == 19) = false := by rw [hk]; rfl
        have t7 : ((k : Int) == 7) = false := by rw [hk]; rfl
        have t2 : ((k : Int) == 2) = false := by rw [hk]; rfl
        have t13 : ((k : Int) == 13) = false := by rw [hk]; rfl
        have t14 : ((k : Int) == 14) = false := by rw [hk]; rfl
        have t12 : ((k : Int) == 12) = false := by rw [hk]; rfl
        have t11 : ((k : Int) == 11) = false := by rw [hk]; rfl
        have t5 : ((k : Int) == 5) = false := by rw [hk]; rfl
        have t3 : ((k : Int) == 3) = true := by rw [hk]; rfl
        have t4 : ((k : Int) == 4) = false := by rw [hk]; rfl
        have t15 : ((k : Int) == 15) = false := by rw [hk]; rfl
        clear hk
        have hqm := HQM.out
        have hmv : m = 0 := by rw [HM.out, HKK.out]; rfl
        obtain ⟨W1, hW1⟩ : ∃ x, x = win + 1 := ⟨_, rfl⟩
        have wW : IntKind.i64.wrap ((win : Int) + 1) = (W1 : Int) := (IntWalk.i64_in _ (by omega)).trans (by omega)
        have CD := Lib.hid (fun W (h : BRd W rb b o n c L deep) => hof rb b o n c L deep W h q z W1 0 hq (by omega) hd (by omega) (by omega))
        have HQD : Hid (∀ r, Q L deep (.doc q z W1 0) r → Q L deep (.val k q z win) (mkA k nt r)) := by
          show ∀ r, _
          intro r hr
          rw [hW1] at hr
          exact .val_doc (by have := HKK.out; omega) hr
        clear hqm hmv hW1
        go_wp2_with fail
        refine (CD.out _ HR1.out).mono ?_
        rintro e w2 ⟨r, hq1, hout, hb2⟩
        have HX2 : Hid (BoxV w2 w.heap.size (valCells (k : Nat) 0 0 0 ⟨#[]⟩ ⟨#[]⟩ 0 none 0 0 none 0 0)) := HX1.out.keep hb2
        have HF2 : Hid (FBx w2 gf 0 0) := HF1.out.keep hb2
        have HB2 : Hid (Below wa.heap.size wa w2) := HB1.out.trans (hb2.mono HB1.out.size)
        have HR2 : Hid (BRd w2 rb b o n c L deep) := HR1.out.keep hb2
        have hfin : Below w.heap.size w w2 := HBA.out.trans (HB2.out.mono HBA.out.size)
        have HFIN := Lib.hid hfin
        have HQL := Lib.hid (HQD.out r hq1)
        have HQ1 := Lib.hid hq1
        have hs12 := HB1.out.size
        clear hb2 hfin hq1
        clear f0 f1 f2 f3 f4 f5 f6 f7 f8 l0 z0 z1 z2 q0 q1 q2 hg1
        obtain ⟨f0, f1, f2, f3, f4, f5, f6, f7, f8, l0⟩ := HX2.out.nine
        have p0 := (HX2.out.2 0 (by omega)).2
        have p1 := (HX2.out.2 1 (by omega)).2
        have p2 := (HX2.out.2 2 (by omega)).2
        have p3 := (HX2.out.2 3 (by omega)).2
        have p4 := (HX2.out.2 4 (by omega)).2
        have p5 := (HX2.out.2 5 (by omega)).2
        have p6 := (HX2.out.2 6 (by omega)).2
        have p7 := (HX2.out.2 7 (by omega)).2
        have p8 := (HX2.out.2 8 (by omega)).2
        obtain ⟨z0, z1, z2, q0, q1, q2, hg1⟩ := HF2.out
        cases r with
        | val t nx => exact hout.elim
        | bad er a =>
          have her : er ≠ 0 := HQ1.out.bad_neD hq (by omega)
          obtain rfl := hout
          have hv3 : BoxV (w2.setCell ⟨w.heap.size, 8, none⟩ (.slice none 0 0)) w.heap.size (valCells (k : Nat) 0 0 0 ⟨#[]⟩ ⟨#[]⟩ 0 none 0 0 none 0 0) := HX2.out.set 8 _ (by simp [valCells]) (by omega)
          have hf3 : FBx (w2.setCell ⟨w.heap.size, 8, none⟩ (.slice none 0 0)) gf 0 0 := HF2.out.other (fun e => hng2 e) _
          have HV3 := Lib.hid hv3
          have HF3 := Lib.hid hf3
          clear hv3 hf3
          go_wp2_with fail
          go_meet
          case rel => exact vrel_bad HQL.out her (by have hfin := HFIN.out; (repeat' (first | with_reducible exact hfin | with_reducible refine Below.setCell ?_ (by first | exact Nat.le_refl _ | (rw [HGF.out]; exact Nat.le_succ _)) _))) (BoxV.other (BoxV.other (BoxV.other HV3.out (fun e => hng e) _) (fun e => hng e) _) (fun e => hng e) _) (HF3.out.put3 er a) (rdTS_leaf (fun _ => True) _ (ownOk_k (by have h7 := HKK.out; omega) okz okz okz (by decide) (by decide) (Nat.zero_le _))).rd
        | kids f nx =>
          obtain ⟨a2, c2, rfl, hks, hroom, hfl⟩ := hout
          obtain ⟨nk, hnk⟩ : ∃ x, x = f.len := ⟨_, rfl⟩
          rw [← hnk] at hroom hfl ⊢
          have HNK := Lib.hid hnk
          have HKS := Lib.hid hks
          clear hks hnk
          have hv3 : BoxV (w2.setCell ⟨w.heap.size, 8, none⟩ (.slice a2 nk c2)) w.heap.size (valCells (k : Nat) 0 0 0 ⟨#[]⟩ ⟨#[]⟩ 0 none 0 0 a2 nk c2) := HX2.out.set 8 _ (by simp [valCells]) (by omega)
          have hf3 : FBx (w2.setCell ⟨w.heap.size, 8, none⟩ (.slice a2 nk c2)) gf 0 0 := HF2.out.other (fun e => hng2 e) _
          have HV3 := Lib.hid hv3
          have HF3 := Lib.hid hf3
          clear hv3 hf3
          have HKK2 : Hid (∀ W', Chg (fun j => j = gf ∨ j = w.heap.size) w2 W' → RdKsS (fun j => gf < j) W' a2 0 f) := by
            show ∀ W', _
            intro W' hW
            have h9 := HWZ.out
            refine (HKS.out.imp (fun j _ hj => ?_)).keep (KeepS.chg hW (fun j hj e => ?_))
            · have h7 : w1.heap.size ≤ j := hj
              show gf < j
              omega
            · have h7 : gf < j := hj
              have h8 := HGF.out
              rcases e with e | e <;> omega
          go_wp2_with fail
          go_meet
          case rel => exact vrel_val HQL.out (by have hfin := HFIN.out; (repeat' (first | with_reducible exact hfin | with_reducible refine Below.setCell ?_ (by first | exact Nat.le_refl _ | (rw [HGF.out]; exact Nat.le_succ _)) _))) (BoxV.other (BoxV.other (BoxV.other HV3.out (fun e => hng e) _) (fun e => hng e) _) (fun e => hng e) _) (HF3.out.put3 0 0) (rdTS_of _ _ (ownOk_k (by have h7 := HKK.out; omega) okz okz okz (by decide) (by decide) (Nat.zero_le _)) (rdBS_nil _ _) roomy_nil (HKK2.out _ (by (repeat' (first | with_reducible exact Chg.refl _ _ | with_reducible refine Chg.setCell ?_ (fun _ => by first | exact Or.inl rfl | exact Or.inr rfl) _)))) HNK.out.symm hfl hroom)
    · as_aux_lemma =>
        have HKK := Lib.hid hk
        have t1 : ((k : Int) == 1) = false := by rw [hk]; rfl
        have t9 : ((k : Int) == 9) = false := by rw [hk]; rfl
        have t17 : ((k : Int) == 17) = false := by rw [hk]; rfl
        have t18 : ((k : Int) == 18) = false := by rw [hk]; rfl
        have t16 : ((k : Int) == 16) = false := by rw [hk]; rfl
        have t8 : ((k : Int) == 8) = false := by rw [hk]; rfl
        have t19 : ((k : Int) == 19) = false := by rw [hk]; rfl
        have t7 : ((k : Int) == 7) = false := by rw [hk]; rfl
        have t2 : ((k : Int) == 2) = false := by rw [hk]; rfl
        have t13 : ((k : Int) == 13) = false := by rw [hk]; rfl
        have t14 : ((k : Int) == 14) = false := by rw [hk]; rfl
        have t12 : ((k : Int) == 12) = false := by rw [hk]; rfl
        have t11 : ((k : Int) == 11) = false := by rw [hk]; rfl
        have t5 : ((k : Int) == 5) = false := by rw [hk]; rfl
        have t3 : ((k : Int) == 3) = false := by rw [hk]; rfl
        have t4 : ((k : Int) == 4) = true := by rw [hk]; rfl
        have t15 : ((k : Int) == 15) = false := by rw [hk]; rfl
        clear hk
        have hqm := HQM.out
        have hmv : m = 0 := by rw [HM.out, HKK.out]; rfl
        obtain ⟨W1, hW1⟩ : ∃ x, x = win + 1 := ⟨_, rfl⟩
        have wW : IntKind.i64.wrap ((win : Int) + 1) = (W1 : Int) := (IntWalk.i64_in _ (by omega)).trans (by omega)
        have CD := Lib.hid (fun W (h : BRd W rb b o n c L deep) => hof rb b o n c L deep W h q z W1 0 hq (by omega) hd (by omega) (by omega))
        have HQD : Hid (∀ r, Q L deep (.doc q z W1 0) r → Q L deep (.val k q z win) (mkA k nt r)) := by
          show ∀ r, _
          intro r hr
          rw [hW1] at hr
          exact .val_doc (by have := HKK.out; omega) hr
        clear hqm hmv hW1
        go_wp2_with fail
        refine (CD.out _ HR1.out).mono ?_
        rintro e w2 ⟨r, hq1, hout, hb2⟩
        have HX2 : Hid (BoxV w2 w.heap.size (valCells (k : Nat) 0 0 0 ⟨#[]⟩ ⟨#[]⟩ 0 none 0 0 none 0 0)) := HX1.out.keep hb2
        have HF2 : Hid (FBx w2 gf 0 0) := HF1.out.keep hb2
        have HB2 : Hid (Below wa.heap.size wa w2) := HB1.out.trans (hb2.mono HB1.out.size)
        have HR2 : Hid (BRd w2 rb b o n c L deep) := HR1.out.keep hb2
        have hfin : Below w.heap.size w w2 := HBA.out.trans (HB2.out.mono HBA.out.size)
        have HFIN := Lib.hid hfin
        have HQL := Lib.hid (HQD.out r hq1)
        have HQ1 := Lib.hid hq1
        have hs12 := HB1.out.size
        clear hb2 hfin hq1
        clear f0 f1 f2 f3 f4 f5 f6 f7 f8 l0 z0 z1 z2 q0 q1 q2 hg1
        obtain ⟨f0, f1, f2, f3, f4, f5, f6, f7, f8, l0⟩ := HX2.out.nine
        have p0 := (HX2.out.2 0 (by omega)).2
        have p1 := (HX2.out.2 1 (by omega)).2
        have p2 := (HX2.out.2 2 (by omega)).2
        have p3 := (HX2.out.2 3 (by omega)).2
        have p4 := (HX2.out.2 4 (by omega)).2
        have p5 := (HX2.out.2 5 (by omega)).2
        have p6 := (HX2.out.2 6 (by omega)).2
        have p7 := (HX2.out.2 7 (by omega)).2
        have p8 := (HX2.out.2 8 (by omega)).2
        obtain ⟨z0, z1, z2, q0, q1, q2, hg1⟩ := HF2.out
        cases r with
        | val t nx => exact hout.elim
        | bad er a =>
          have her : er ≠ 0 := HQ1.out.bad_neD hq (by omega)
          obtain rfl := hout
          have hv3 : BoxV (w2.setCell ⟨w.heap.size, 8, none⟩ (.slice none 0 0)) w.heap.size (valCells (k : Nat) 0 0 0 ⟨#[]⟩ ⟨#[]⟩ 0 none 0 0 none 0 0) := HX2.out.set 8 _ (by simp [valCells]) (by omega)
          have hf3 : FBx (w2.setCell ⟨w.heap.size, 8, none⟩ (.slice none 0 0)) gf 0 0 := HF2.out.other (fun e => hng2 e) _
          have HV3 := Lib.hid hv3
          have HF3 := Lib.hid hf3
          clear hv3 hf3
          go_wp2_with fail
          go_meet
          case rel => exact vrel_bad HQL.out her (by have hfin := HFIN.out; (repeat' (first | with_reducible exact hfin | with_reducible refine Below.setCell ?_ (by first | exact Nat.le_refl _ | (rw [HGF.out]; exact Nat.le_succ _)) _))) (BoxV.other (BoxV.other (BoxV.other HV3.out (fun e => hng e) _) (fun e => hng e) _) (fun e => hng e) _) (HF3.out.put3 er a) (rdTS_leaf (fun _ => True) _ (ownOk_k (by have h7 := HKK.out; omega) okz okz okz (by decide) (by decide) (Nat.zero_le _))).rd
        | kids f nx =>
          obtain ⟨a2, c2, rfl, hks, hroom, hfl⟩ := hout
          obtain ⟨nk, hnk⟩ : ∃ x, x = f.len := ⟨_, rfl⟩
          rw [← hnk] at hroom hfl ⊢
          have HNK := Lib.hid hnk
          have HKS := Lib.hid hks
          clear hks hnk
          have hv3 : BoxV (w2.setCell ⟨w.heap.size, 8, none⟩ (.slice a2 nk c2)) w.heap.size (valCells (k : Nat) 0 0 0 ⟨#[]⟩ ⟨#[]⟩ 0 none 0 0 a2 nk c2) := HX2.out.set 8 _ (by simp [valCells]) (by omega)
          have hf3 : FBx (w2.setCell ⟨w.heap.size, 8, none⟩ (.slice a2 nk c2)) gf 0 0 := HF2.out.other (fun e => hng2 e) _
          have HV3 := Lib.hid hv3
          have HF3 := Lib.hid hf3
          clear hv3 hf3
          have HKK2 : Hid (∀ W', Chg (fun j => j = gf ∨ j = w.heap.size) w2 W' → RdKsS (fun j => gf < j) W' a2 0 f) := by
            show ∀ W', _
            intro W' hW
            have h9 := HWZ.out
            refine (HKS.out.imp (fun j _ hj => ?_)).keep (KeepS.chg hW (fun j hj e => ?_))
            · have h7 : w1.heap.size ≤ j := hj
              show gf < j
              omega
            · have h7 : gf < j := hj
              have h8 := HGF.out
              rcases e with e | e <;> omega
          go_wp2_with fail
          go_meet
          case rel => exact vrel_val HQL.out (by have hfin := HFIN.out; (repeat' (first | with_reducible exact hfin | with_reducible refine Below.setCell ?_ (by first | exact Nat.le_refl _ | (rw [HGF.out]; exact Nat.le_succ _)) _))) (BoxV.other (BoxV.other (BoxV.other HV3.out (fun e => hng e) _) (fun e => hng e) _) (fun e => hng e) _) (HF3.out.put3 0 0) (rdTS_of _ _ (ownOk_k (by have h7 := HKK.out; omega) okz okz okz (by decide) (by decide) (Nat.zero_le _)) (rdBS_nil _ _) roomy_nil (HKK2.out _ (by (repeat' (first | with_reducible exact Chg.refl _ _ | with_reducible refine Chg.setCell ?_ (fun _ => by first | exact Or.inl rfl | exact Or.inr rfl) _)))) HNK.out.symm hfl hroom)
    · as_aux_lemma =>
        have HKK := Lib.hid hk
        have t1 : ((k : Int) == 1) = false := by rw [hk]; rfl
        have t9 : ((k : Int) == 9) = false := by rw [hk]; rfl
        have t17 : ((k : Int) == 17) = false := by rw [hk]; rfl
        have t18 : ((k : Int) == 18) = false := by rw [hk]; rfl
        have t16 : ((k : Int) == 16) = false := by rw [hk]; rfl
        have t8 : ((k : Int) == 8) = false := by rw [hk]; rfl
        have t19 : ((k : Int) == 19) = false := by rw [hk]; rfl
        have t7 : ((k : Int) == 7) = false := by rw [hk]; rfl
        have t2 : ((k : Int) == 2) = false := by rw [hk]; rfl
        have t13 : ((k : Int) == 13) = false := by rw [hk]; rfl
        have t14 : ((k : Int) == 14) = false := by rw [hk]; rfl
        have t12 : ((k : Int) == 12) = false := by rw [hk]; rfl
        have t11 : ((k : Int) == 11) = false := by rw [hk]; rfl
        have t5 : ((k : Int) == 5) = true := by rw [hk]; rfl
        have t3 : ((k : Int) == 3) = false := by rw [hk]; rfl
        have t4 : ((k : Int) == 4) = false := by rw [hk]; rfl
        have t15 : ((k : Int) == 15) = false := by rw [hk]; rfl
        clear hk
        have hqm := HQM.out
        have hz2 : ¬ z < q + fixN k := by rw [HKK.out]; simp [fixN]; omega
        have HLF : Hid (leafQ L k q z = match binQ L q z with | .error (e, a) => .bad e a | .ok (sub, l, n) => .val (.mk (k : Nat) 0 0 0 nt nt sub l .nil) n) := by
          show _ = _
          have hk := HKK.out
          have hz3 := hz2
          subst hk
          simp [leafQ, fixN] at hz3 ⊢
          rw [if_neg (by omega)]
          rfl
        have hQL : Q L deep (.val k q z win) (leafQ L k q z) := .val_leaf (by have := HKK.out; omega) (by have := HKK.out; omega) (by have := HKK.out; omega)
        rw [HLF.out] at hQL
        have hmv : m = 5 := by rw [HM.out, HKK.out]; rfl
        have C1 := Lib.hid (fun W (h : BRd W rb b o n c L deep) => binary_calls rb b o n c L deep W h q z (by omega) hz)
        obtain ⟨R, hR⟩ : ∃ R, R = binQ L q z := ⟨_, rfl⟩
        have hb1 := (binQ_bd (b := L) hq (by omega)).1
        have hb3 : ∀ sub l nx, R = .ok (sub, l, nx) → sub < 256 := fun sub l nx hs => (binQ_just (b := L) (q := q) (z := z) (by rw [← hR]; exact hs) hq (by omega)).2
        rw [← hR] at hQL hb1 C1
        clear hqm hz2 hR HLF hmv
        go_wp2_with fail
        cases R with
        | error ea =>
          obtain ⟨er, a⟩ := ea
          have HQL := Lib.hid hQL
          have her : er ≠ 0 := by have := hb1 er a rfl; omega
          clear hQL hb1 hb3
          refine (C1.out _ HR1.out).mono ?_
          rintro e w2 ⟨rfl, hb2⟩
          have HX2 : Hid (BoxV w2 w.heap.size (valCells (k : Nat) 0 0 0 ⟨#[]⟩ ⟨#[]⟩ 0 none 0 0 none 0 0)) := HX1.out.keep hb2
          have HF2 : Hid (FBx w2 gf 0 0) := HF1.out.keep hb2
          have HB2 : Hid (Below wa.heap.size wa w2) := HB1.out.trans (hb2.mono HB1.out.size)
          have HR2 : Hid (BRd w2 rb b o n c L deep) := HR1.out.keep hb2
          have hfin : Below w.heap.size w w2 := HBA.out.trans (HB2.out.mono HBA.out.size)
          have HFIN := Lib.hid hfin
          clear hb2 hfin
          clear f0 f1 f2 f3 f4 f5 f6 f7 f8 l0 z0 z1 z2 q0 q1 q2 hg1
          obtain ⟨f0, f1, f2, f3, f4, f5, f6, f7, f8, l0⟩ := HX2.out.nine
          have p0 := (HX2.out.2 0 (by omega)).2
          have p1 := (HX2.out.2 1 (by omega)).2
          have p2 := (HX2.out.2 2 (by omega)).2
          have p3 := (HX2.out.2 3 (by omega)).2
          have p4 := (HX2.out.2 4 (by omega)).2
          have p5 := (HX2.out.2 5 (by omega)).2
          have p6 := (HX2.out.2 6 (by omega)).2
          have p7 := (HX2.out.2 7 (by omega)).2
          have p8 := (HX2.out.2 8 (by omega)).2
          obtain ⟨z0, z1, z2, q0, q1, q2, hg1⟩ := HF2.out
          have hv3 : BoxV ((w2.setCell ⟨w.heap.size, 6, none⟩ (.int .i64 0)).setCell ⟨w.heap.size, 7, none⟩ (.slice none 0 0)) w.heap.size (valCells (k : Nat) 0 0 0 ⟨#[]⟩ ⟨#[]⟩ 0 none 0 0 none 0 0) := (show BoxV (w2.setCell ⟨w.heap.size, 6, none⟩ (.int .i64 0)) w.heap.size (valCells (k : Nat) 0 0 0 ⟨#[]⟩ ⟨#[]⟩ 0 none 0 0 none 0 0) from HX2.out.set 6 _ (by simp [valCells]) (by omega)).set 7 _ (by simp [valCells]) (by omega)
          have hf3 : FBx ((w2.setCell ⟨w.heap.size, 6, none⟩ (.int .i64 0)).setCell ⟨w.heap.size, 7, none⟩ (.slice none 0 0)) gf 0 0 := (HF2.out.other (fun e => hng2 e) _).other (fun e => hng2 e) _
          have HV3 := Lib.hid hv3
          have HF3 := Lib.hid hf3
          clear hv3 hf3
          go_wp2_with fail
          go_meet
          case rel => exact vrel_bad HQL.out her (by have hfin := HFIN.out; (repeat' (first | with_reducible exact hfin | with_reducible refine Below.setCell ?_ (by first | exact Nat.le_refl _ | (rw [HGF.out]; exact Nat.le_succ _)) _))) (BoxV.other (BoxV.other (BoxV.other HV3.out (fun e => hng e) _) (fun e => hng e) _) (fun e => hng e) _) (HF3.out.put3 er a) (rdTS_leaf (fun _ => True) _ (ownOk_k (by have h7 := HKK.out; omega) okz okz okz (by decide) (by decide) (Nat.zero_le _))).rd
        | ok sn =>
          obtain ⟨sub, l, nx⟩ := sn
          have HQL := Lib.hid hQL
          have hsub := hb3 sub l nx rfl
          clear hQL hb1 hb3
          refine (C1.out _ HR1.out).mono ?_
          rintro e w2 ⟨⟨a2, c2, rfl, hrd, hroom⟩, hb2⟩
          obtain ⟨nl, hnl⟩ : ∃ x, x = l.length := ⟨_, rfl⟩
          rw [← hnl] at hrd hroom ⊢
          have HRD := Lib.hid hrd
          have HRO := Lib.hid hroom
          clear hrd hroom hnl
          have HX2 : Hid (BoxV w2 w.heap.size (valCells (k : Nat) 0 0 0 ⟨#[]⟩ ⟨#[]⟩ 0 none 0 0 none 0 0)) := HX1.out.keep hb2
          have HF2 : Hid (FBx w2 gf 0 0) := HF1.out.keep hb2
          have HB2 : Hid (Below wa.heap.size wa w2) := HB1.out.trans (hb2.mono HB1.out.size)
          have HR2 : Hid (BRd w2 rb b o n c L deep) := HR1.out.keep hb2
          have hfin : Below w.heap.size w w2 := HBA.out.trans (HB2.out.mono HBA.out.size)
          have HFIN := Lib.hid hfin
          have hs12 := HB1.out.size
          clear hb2 hfin
          clear f0 f1 f2 f3 f4 f5 f6 f7 f8 l0 z0 z1 z2 q0 q1 q2 hg1
          obtain ⟨f0, f1, f2, f3, f4, f5, f6, f7, f8, l0⟩ := HX2.out.nine
          have p0 := (HX2.out.2 0 (by omega)).2
          have p1 := (HX2.out.2 1 (by omega)).2
          have p2 := (HX2.out.2 2 (by omega)).2
          have p3 := (HX2.out.2 3 (by omega)).2
          have p4 := (HX2.out.2 4 (by omega)).2
          have p5 := (HX2.out.2 5 (by omega)).2
          have p6 := (HX2.out.2 6 (by omega)).2
          have p7 := (HX2.out.2 7 (by omega)).2
          have p8 := (HX2.out.2 8 (by omega)).2
          obtain ⟨z0, z1, z2, q0, q1, q2, hg1⟩ := HF2.out
          have hv3 : BoxV ((w2.setCell ⟨w.heap.size, 6, none⟩ (.int .i64 (sub : Nat))).setCell ⟨w.heap.size, 7, none⟩ (.slice a2 nl c2)) w.heap.size (valCells (k : Nat) 0 0 0 ⟨#[]⟩ ⟨#[]⟩ (sub : Nat) a2 nl c2 none 0 0) := (show BoxV (w2.setCell ⟨w.heap.size, 6, none⟩ (.int .i64 (sub : Nat))) w.heap.size (valCells (k : Nat) 0 0 0 ⟨#[]⟩ ⟨#[]⟩ (sub : Nat) none 0 0 none 0 0) from HX2.out.set 6 _ (by simp [valCells]) (by omega)).set 7 _ (by simp [valCells]) (by omega)
          have hf3 : FBx ((w2.setCell ⟨w.heap.size, 6, none⟩ (.int .i64 (sub : Nat))).setCell ⟨w.heap.size, 7, none⟩ (.slice a2 nl c2)) gf 0 0 := (HF2.out.other (fun e => hng2 e) _).other (fun e => hng2 e) _
          have HV3 := Lib.hid hv3
          have HF3 := Lib.hid hf3
          clear hv3 hf3
          have HKK2 : Hid (∀ W', Chg (fun j => j = gf ∨ j = w.heap.size) w2 W' → RdBS (fun j => gf < j) W' a2 nl l) := by
            show ∀ W', _
            intro W' hW
            have h9 := HWZ.out
            have h8 := HGF.out
            refine RdBS.keep (S := fun j => gf < j) (KeepS.chg hW (fun j hj e => ?_)) ⟨HRD.out.1, fun h0 p hp => ?_⟩
            · have h7 : gf < j := hj
              rcases e with e | e <;> omega
            · have h7 : w1.heap.size ≤ p.block := HRD.out.2 h0 p hp
              show gf < p.block
              omega
          go_wp2_with fail
          go_meet
          case rel => exact vrel_val HQL.out (by have hfin := HFIN.out; (repeat' (first | with_reducible exact hfin | with_reducible refine Below.setCell ?_ (by first | exact Nat.le_refl _ | (rw [HGF.out]; exact Nat.le_succ _)) _))) (BoxV.other (BoxV.other (BoxV.other HV3.out (fun e => hng e) _) (fun e => hng e) _) (fun e => hng e) _) (HF3.out.put3 0 0) (rdTS_of _ _ (ownOk_k (by have h7 := HKK.out; omega) okz okz okz (by decide) (by decide) (by omega)) (HKK2.out _ (by (repeat' (first | with_reducible exact Chg.refl _ _ | with_reducible refine Chg.setCell ?_ (fun _ => by first | exact Or.inl rfl | exact Or.inr rfl) _)))) HRO.out trivial rfl (by omega) roomy_nil)
    · as_aux_lemma =>
        have HKK := Lib.hid hk
        have t1 : ((k : Int) == 1) = false := by rw [hk]; rfl
        have t9 : ((k : Int) == 9) = false := by rw [hk]; rfl
        have t17 : ((k : Int) == 17) = false := by rw [hk]; rfl
        have t18 : ((k : Int) == 18) = false := by rw [hk]; rfl
        have t16 : ((k : Int) == 16) = false := by rw [hk]; rfl
        have t8 : ((k : Int) == 8) = false := by rw [hk]; rfl
        have t19 : ((k : Int) == 19) = false := by rw [hk]; rfl
        have t7 : ((k : Int) == 7) = false := by rw [hk]; rfl
        have t2 : ((k : Int) == 2) = false := by rw [hk]; rfl
        have t13 : ((k : Int) == 13) = false := by rw [hk]; rfl
        have t14 : ((k : Int) == 14) = false := by rw [hk]; rfl
        have t12 : ((k : Int) == 12) = false := by rw [hk]; rfl
        have t11 : ((k : Int) == 11) = false := by rw [hk]; rfl
        have t5 : ((k : Int) == 5) = false := by rw [hk]; rfl
        have t3 : ((k : Int) == 3) = false := by rw [hk]; rfl
        have t4 : ((k : Int) == 4) = false := by rw [hk]; rfl
        have t15 : ((k : Int) == 15) = false := by rw [hk]; rfl
        clear hk
        have hqm := HQM.out
        have hmv : m = 0 := by rw [HM.out, HKK.out]; rfl
        have HMV := Lib.hid hmv
        have HQ : Hid (Q L deep (.val k q z win) (.val (.mk (k : Nat) 0 0 0 nt nt 0 [] .nil) qm)) := by
          show Q _ _ _ _
          have hk := HKK.out
          have hm := HM.out
          have hqm := HQM.out
          subst hk
          have hl : leafQ L 6 q z = .val (.mk ((6 : Nat) : Int) 0 0 0 nt nt 0 [] .nil) qm := by
            have hz2 : ¬ z < q := by omega
            have hmq : qm = q := by have : m = 0 := HMV.out; omega
            simp [leafQ, fixN, hz2, hmq]
          rw [← hl]
          exact .val_leaf (by omega) (by omega) (by omega)
        clear hqm hmv
        have hfin : Below w.heap.size w w1 := HBA.out.trans (HB1.out.mono HBA.out.size)
        have HFIN := Lib.hid hfin
        clear hfin
        go_wp2_with fail
        go_meet
        case rel => exact vrel_val HQ.out HFIN.out HX1.out HF1.out (rdTS_leaf _ _ (ownOk_k (by have h7 := HKK.out; omega) okz okz okz (by decide) (by decide) (Nat.zero_le _)))
    · as_aux_lemma =>
        have HKK := Lib.hid hk
        have t1 : ((k : Int) == 1) = false := by rw [hk]; rfl
        have t9 : ((k : Int) == 9) = false := by rw [hk]; rfl
        have t17 : ((k : Int) == 17) = false := by rw [hk]; rfl
        have t18 : ((k : Int) == 18) = false := by rw [hk]; rfl
        have t16 : ((k : Int) == 16) = false := by rw [hk]; rfl
        have t8 : ((k : Int) == 8) = false := by rw [hk]; rfl
        have t19 : ((k : Int) == 19) = false := by rw [hk]; rfl
        have t7 : ((k : Int) == 7) = true := by rw [hk]; rfl
        have t2 : ((k : Int) == 2) = false := by rw [hk]; rfl
        have t13 : ((k : Int) == 13) = false := by rw [hk]; rfl
        have t14 : ((k : Int) == 14) = false := by rw [hk]; rfl
        have t12 : ((k : Int) == 12) = false := by rw [hk]; rfl
        have t11 : ((k : Int) == 11) = false := by rw [hk]; rfl
        have t5 : ((k : Int) == 5) = false := by rw [hk]; rfl
        have t3 : ((k : Int) == 3) = false := by rw [hk]; rfl
        have t4 : ((k : Int) == 4) = false := by rw [hk]; rfl
        have t15 : ((k : Int) == 15) = false := by rw [hk]; rfl
        clear hk
        have hmv : m = 12 := by rw [HM.out, HKK.out]; rfl
        have hqm := HQM.out
        have hsl : (seg L q (qm - q)).length = 12 := by rw [seg_length] <;> omega
        have CT := Lib.hid (rtake_yes rr 0 (seg L q (qm - q)) w1 HRR.out m (by omega) (by omega))
        have HMV := Lib.hid hmv
        have hs12 : seg (seg L q (qm - q)) 0 m = seg L q 12 := by rw [seg_sub L q _ 0 m (by omega), hmv]; rfl
        unfold TakePost at CT
        rw [hs12] at CT
        have hl12 : (seg L q 12).length = 12 := by rw [seg_length] <;> omega
        clear hmv hqm hs12 hsl
        go_wp2_with fail
        refine CT.out.mono ?_
        rintro e w2 ⟨v2, rfl, ho2, -, hch2⟩
        have HX2 : Hid (BoxV w2 w.heap.size (valCells (k : Nat) 0 0 0 ⟨#[]⟩ ⟨#[]⟩ 0 none 0 0 none 0 0)) := HX1.out.chg hch2 (by have h7 := HRS.out; have h8 := HGF.out; omega)
        have HF2 : Hid (FBx w2 gf 0 0) := HF1.out.block hch2.size (hch2.block gf HF1.out.2.2.2.2.2.2 (by have h7 := HRS.out; have h8 := HGF.out; omega))
        have HB2 : Hid (Below wa.heap.size wa w2) := HB1.out.trans (hch2.below HB1.out.size (fun i hi => by have h7 := HRS.out; have h8 := HWZ.out; have h9 : i = rr := hi; omega))
        obtain ⟨a2, c2, rfl, hrd2⟩ := ho2.reads
        rw [hl12] at ho2 ⊢
        have HO2 := Lib.hid ho2
        clear hch2 ho2 hrd2
        clear f0 f1 f2 f3 f4 f5 f6 f7 f8 l0 z0 z1 z2 q0 q1 q2 hg1
        obtain ⟨f0, f1, f2, f3, f4, f5, f6, f7, f8, l0⟩ := HX2.out.nine
        have p0 := (HX2.out.2 0 (by omega)).2
        have p1 := (HX2.out.2 1 (by omega)).2
        have p2 := (HX2.out.2 2 (by omega)).2
        have p3 := (HX2.out.2 3 (by omega)).2
        have p4 := (HX2.out.2 4 (by omega)).2
        have p5 := (HX2.out.2 5 (by omega)).2
        have p6 := (HX2.out.2 6 (by omega)).2
        have p7 := (HX2.out.2 7 (by omega)).2
        have p8 := (HX2.out.2 8 (by omega)).2
        obtain ⟨z0, z1, z2, q0, q1, q2, hg1⟩ := HF2.out
        have hv3 : BoxV (w2.setCell ⟨w.heap.size, 7, none⟩ (.slice a2 12 c2)) w.heap.size (valCells (k : Nat) 0 0 0 ⟨#[]⟩ ⟨#[]⟩ 0 a2 12 c2 none 0 0) := HX2.out.set 7 _ (by simp [valCells]) (by omega)
        have hf3 : FBx (w2.setCell ⟨w.heap.size, 7, none⟩ (.slice a2 12 c2)) gf 0 0 := HF2.out.other (fun e => hng2 e) _
        have hown : ∀ i, (Value.slice a2 12 c2).ownBlock = some i → gf < i := fun i hi => by
          have h7 := (owns_lt HO2.out i hi).1
          have h8 := HB1.out.size
          have h9 := HWZ.out
          omega
        have hrd3 : RdBS (fun j => gf < j) (w2.setCell ⟨w.heap.size, 7, none⟩ (.slice a2 12 c2)) a2 12 (seg L q 12) := by
          have := rdBS_own (S := fun j => gf < j) (HO2.out.chg (S := fun i => i = w.heap.size) ((Chg.refl (fun i => i = w.heap.size) w2).setCell (p := ⟨w.heap.size, 7, none⟩) (fun _ => rfl) (.slice a2 12 c2)) (fun i hi e => by have h7 := hown i hi; have h8 : i = w.heap.size := e; have h9 := HGF.out; omega)) hown
          rwa [hl12] at this
        have hroom : Roomy a2 12 c2 := own_roomy HO2.out
        have HV3 := Lib.hid hv3
        have HF3 := Lib.hid hf3
        have HRD3 := Lib.hid hrd3
        have HRO := Lib.hid hroom
        have hfin : Below w.heap.size w w2 := HBA.out.trans (HB2.out.mono HBA.out.size)
        have HFIN := Lib.hid hfin
        clear hv3 hf3 hrd3 hroom hfin hown
        have HQ : Hid (Q L deep (.val k q z win) (.val (.mk (k : Nat) 0 0 0 nt nt 0 (seg L q 12) .nil) qm)) := by
          show Q _ _ _ _
          have hk := HKK.out
          have hm := HM.out
          have hqm := HQM.out
          subst hk
          have hl : leafQ L 7 q z = .val (.mk ((7 : Nat) : Int) 0 0 0 nt nt 0 (seg L q 12) .nil) qm := by
            have hz2 : ¬ z < q + 12 := by have : m = 12 := HMV.out; omega
            have hmq : qm = q + 12 := by have : m = 12 := HMV.out; omega
            simp [leafQ, fixN, hz2, hmq]
          rw [← hl]
          exact .val_leaf (by omega) (by omega) (by omega)
        go_wp2_with fail
        go_meet
        case rel => exact vrel_val HQ.out (by have hfin := HFIN.out; (repeat' (first | with_reducible exact hfin | with_reducible refine Below.setCell ?_ (by first | exact Nat.le_refl _ | (rw [HGF.out]; exact Nat.le_succ _)) _))) HV3.out HF3.out (rdTS_of _ _ (ownOk_k (by have h7 := HKK.out; omega) okz okz okz (by decide) (by decide) (Nat.zero_le _)) HRD3.out HRO.out trivial rfl (by omega) roomy_nil)
    · as_aux_lemma =>
        have HKK := Lib.hid hk
        have t1 : ((k : Int) == 1) = false := by rw [hk]; rfl
        have t9 : ((k : Int) == 9) = false := by rw [hk]; rfl
        have t17 : ((k : Int) == 17) = false := by rw [hk]; rfl
        have t18 : ((k : Int) == 18) = false := by rw [hk]; rfl
        have t16 : ((k : Int) == 16) = false := by rw [hk]; rfl
        have t8 : ((k : Int) == 8) = true := by rw [hk]; rfl
        have t19 : ((k : Int) == 19) = false := by rw [hk]; rfl
        have t7 : ((k : Int) == 7) = false := by rw [hk]; rfl
        have t2 : ((k : Int) == 2) = false := by rw [hk]; rfl
        have t13 : ((k : Int) == 13) = false := by rw [hk]; rfl
        have t14 : ((k : Int) == 14) = false := by rw [hk]; rfl
        have t12 : ((k : Int) == 12) = false := by rw [hk]; rfl
        have t11 : ((k : Int) == 11) = false := by rw [hk]; rfl
        have t5 : ((k : Int) == 5) = false := by rw [hk]; rfl
        have t3 : ((k : Int) == 3) = false := by rw [hk]; rfl
        have t4 : ((k : Int) == 4) = false := by rw [hk]; rfl
        have t15 : ((k : Int) == 15) = false := by rw [hk]; rfl
        clear hk
        have hmv : m = 1 := by rw [HM.out, HKK.out]; rfl
        have hqm := HQM.out
        obtain ⟨X, hX⟩ : ∃ X, X = le (seg L q m) := ⟨_, rfl⟩
        have CL := Lib.hid (low_at (L := L) (q := q) (n := qm - q) (p := 0) (j := m) HRR.out (by omega) (by omega) (by omega) (by omega) (m : Int) rfl)
        rw [Nat.add_zero, ← hX] at CL
        have hXo : X < okSize := by rw [hX]; exact le_pow8 _ _ _ (by omega)
        have HXX := Lib.hid hX
        have HMV := Lib.hid hmv
        clear hmv hqm hX
        go_wp2_with fail
        refine CL.out.mono ?_
        rintro e w2 ⟨rfl, -, hch2⟩
        have HX2 : Hid (BoxV w2 w.heap.size (valCells (k : Nat) 0 0 0 ⟨#[]⟩ ⟨#[]⟩ 0 none 0 0 none 0 0)) := HX1.out.chg hch2 (by have h7 := HRS.out; have h8 := HGF.out; omega)
        have HF2 : Hid (FBx w2 gf 0 0) := HF1.out.block hch2.size (hch2.block gf HF1.out.2.2.2.2.2.2 (by have h7 := HRS.out; have h8 := HGF.out; omega))
        have HB2 : Hid (Below wa.heap.size wa w2) := HB1.out.trans (hch2.below HB1.out.size (fun i hi => by have h7 := HRS.out; have h8 := HWZ.out; have h9 : i = rr := hi; omega))
        clear hch2
        clear f0 f1 f2 f3 f4 f5 f6 f7 f8 l0 z0 z1 z2 q0 q1 q2 hg1
        obtain ⟨f0, f1, f2, f3, f4, f5, f6, f7, f8, l0⟩ := HX2.out.nine
        have p0 := (HX2.out.2 0 (by omega)).2
        have p1 := (HX2.out.2 1 (by omega)).2
        have p2 := (HX2.out.2 2 (by omega)).2
        have p3 := (HX2.out.2 3 (by omega)).2
        have p4 := (HX2.out.2 4 (by omega)).2
        have p5 := (HX2.out.2 5 (by omega)).2
        have p6 := (HX2.out.2 6 (by omega)).2
        have p7 := (HX2.out.2 7 (by omega)).2
        have p8 := (HX2.out.2 8 (by omega)).2
        obtain ⟨z0, z1, z2, q0, q1, q2, hg1⟩ := HF2.out
        have hv3 : BoxV (w2.setCell ⟨w.heap.size, 1, none⟩ (.int .u64 (X : Nat))) w.heap.size (valCells (k : Nat) X 0 0 ⟨#[]⟩ ⟨#[]⟩ 0 none 0 0 none 0 0) := HX2.out.set 1 _ (by simp [valCells]) (by omega)
        have hf3 : FBx (w2.setCell ⟨w.heap.size, 1, none⟩ (.int .u64 (X : Nat))) gf 0 0 := HF2.out.other (fun e => hng2 e) _
        have HV3 := Lib.hid hv3
        have HF3 := Lib.hid hf3
        have hfin : Below w.heap.size w w2 := HBA.out.trans (HB2.out.mono HBA.out.size)
        have HFIN := Lib.hid hfin
        have c1 : (w2.setCell ⟨w.heap.size, 1, none⟩ (.int .u64 (X : Nat))).cell? ⟨w.heap.size, 1, none⟩ = some (.int .u64 (X : Nat)) := (hv3.2 1 (by omega)).1
        clear hv3 hf3 hfin
        by_cases hx1 : 1 < X
        · have d2 : decide ((1 : Int) < (X : Int)) = true := by simp; omega
          have HQ : Hid (Q L deep (.val k q z win) (.bad 3 q)) := by
            show Q _ _ _ _
            have hk := HKK.out
            have hm := HM.out
            have hqm := HQM.out
            subst hk
            have hl : leafQ L 8 q z = .bad 3 q := by
              have hz2 : ¬ z < q + 1 := by have : m = 1 := HMV.out; omega
              have hmq : qm = q + 1 := by have : m = 1 := HMV.out; omega
              have hx : X = le (seg L q 1) := by rw [HXX.out, HMV.out]
              have h3 : 1 < le (seg L q 1) := by rw [← hx]; exact hx1
              simp [leafQ, fixN, hz2, h3]
            rw [← hl]
            exact .val_leaf (by omega) (by omega) (by omega)
          clear hx1
          go_wp2_with fail
          refine (CW.out _ _ _).mono ?_
          rintro e w4 ⟨rfl, hb4⟩
          have hv4 := HV3.out.keep hb4
          have hf4 := HF3.out.keep hb4
          obtain ⟨y0, y1, y2, u0, u1, u2, hg4⟩ := hf4
          have hfin : Below w.heap.size w w4 := (show Below w.heap.size w (w2.setCell ⟨w.heap.size, 1, none⟩ (.int .u64 (X : Nat))) from HFIN.out.setCell (Nat.le_refl _) _).trans (hb4.mono (by have := HFIN.out.size; simpa [World.setCell] using this))
          have HFI4 := Lib.hid hfin
          have HV4 := Lib.hid hv4
          have HF4 := Lib.hid (HF3.out.keep hb4)
          clear hb4 hv4 hfin z0 z1 z2 q0 q1 q2 hg1 f0 f1 f2 f3 f4 f5 f6 f7 f8 l0
          go_wp2_with fail
          go_meet
          case rel => exact vrel_bad HQ.out (by omega) (by have hfin := HFI4.out; (repeat' (first | with_reducible exact hfin | with_reducible refine Below.setCell ?_ (by first | exact Nat.le_refl _ | (rw [HGF.out]; exact Nat.le_succ _)) _))) (HV4.out.other (fun e => hng e) _ |>.other (fun e => hng e) _ |>.other (fun e => hng e) _) (HF4.out.put3 3 q) (rdTS_leaf (fun _ => True) _ (ownOk_k (by have h7 := HKK.out; omega) hXo okz okz (by decide) (by decide) (Nat.zero_le _))).rd
        have d2 : decide ((1 : Int) < (X : Int)) = false := by simp; omega
        have HQ : Hid (Q L deep (.val k q z win) (.val (.mk (k : Nat) X 0 0 nt nt 0 [] .nil) qm)) := by
          show Q _ _ _ _
          have hk := HKK.out
          have hm := HM.out
          have hqm := HQM.out
          subst hk
          have hl : leafQ L 8 q z = .val (.mk ((8 : Nat) : Int) X 0 0 nt nt 0 [] .nil) qm := by
            have hz2 : ¬ z < q + 1 := by have : m = 1 := HMV.out; omega
            have hmq : qm = q + 1 := by have : m = 1 := HMV.out; omega
            have hx : X = le (seg L q 1) := by rw [HXX.out, HMV.out]
            have h3 : ¬ 1 < le (seg L q 1) := by rw [← hx]; exact hx1
            simp [leafQ, fixN, hz2, h3, hx, hmq]
          rw [← hl]
          exact .val_leaf (by omega) (by omega) (by omega)
        clear hx1
        go_wp2_with fail
        go_meet
        case rel => exact vrel_val HQ.out (by have hfin := HFIN.out; (repeat' (first | with_reducible exact hfin | with_reducible refine Below.setCell ?_ (by first | exact Nat.le_refl _ | (rw [HGF.out]; exact Nat.le_succ _)) _))) HV3.out HF3.out (rdTS_leaf _ _ (ownOk_k (by have h7 := HKK.out; omega) hXo okz okz (by decide) (by decide) (Nat.zero_le _)))
    · as_aux_lemma =>
        have HKK := Lib.hid hk
        have t1 : ((k : Int) == 1) = false := by rw [hk]; rfl
        have t9 : ((k : Int) == 9) = true := by rw [hk]; rfl
        have t17 : ((k : Int) == 17) = false := by rw [hk]; rfl
        have t18 : ((k : Int) == 18) = false := by rw [hk]; rfl
        have t16 : ((k : Int) == 16) = false := by rw [hk]; rfl
        have t8 : ((k : Int) == 8) = false := by rw [hk]; rfl
        have t19 : ((k : Int) == 19) = false := by rw [hk]; rfl
        have t7 : ((k : Int) == 7) = false := by rw [hk]; rfl
        have t2 : ((k : Int) == 2) = false := by rw [hk]; rfl
        have t13 : ((k : Int) == 13) = false := by rw [hk]; rfl
        have t14 : ((k : Int) == 14) = false := by rw [hk]; rfl
        have t12 : ((k : Int) == 12) = false := by rw [hk]; rfl
        have t11 : ((k : Int) == 11) = false := by rw [hk]; rfl
        have t5 : ((k : Int) == 5) = false := by rw [hk]; rfl
        have t3 : ((k : Int) == 3) = false := by rw [hk]; rfl
        have t4 : ((k : Int) == 4) = false := by rw [hk]; rfl
        have t15 : ((k : Int) == 15) = false := by rw [hk]; rfl
        clear hk
        have hmv : m = 8 := by rw [HM.out, HKK.out]; rfl
        have hqm := HQM.out
        obtain ⟨X, hX⟩ : ∃ X, X = le (seg L q m) := ⟨_, rfl⟩
        have CL := Lib.hid (low_at (L := L) (q := q) (n := qm - q) (p := 0) (j := m) HRR.out (by omega) (by omega) (by omega) (by omega) (m : Int) rfl)
        rw [Nat.add_zero, ← hX] at CL
        have hXo : X < okSize := by rw [hX]; exact le_pow8 _ _ _ (by omega)
        have HXX := Lib.hid hX
        have HMV := Lib.hid hmv
        clear hmv hqm hX
        go_wp2_with fail
        refine CL.out.mono ?_
        rintro e w2 ⟨rfl, -, hch2⟩
        have HX2 : Hid (BoxV w2 w.heap.size (valCells (k : Nat) 0 0 0 ⟨#[]⟩ ⟨#[]⟩ 0 none 0 0 none 0 0)) := HX1.out.chg hch2 (by have h7 := HRS.out; have h8 := HGF.out; omega)
        have HF2 : Hid (FBx w2 gf 0 0) := HF1.out.block hch2.size (hch2.block gf HF1.out.2.2.2.2.2.2 (by have h7 := HRS.out; have h8 := HGF.out; omega))
        have HB2 : Hid (Below wa.heap.size wa w2) := HB1.out.trans (hch2.below HB1.out.size (fun i hi => by have h7 := HRS.out; have h8 := HWZ.out; have h9 : i = rr := hi; omega))
        clear hch2
        clear f0 f1 f2 f3 f4 f5 f6 f7 f8 l0 z0 z1 z2 q0 q1 q2 hg1
        obtain ⟨f0, f1, f2, f3, f4, f5, f6, f7, f8, l0⟩ := HX2.out.nine
        have p0 := (HX2.out.2 0 (by omega)).2
        have p1 := (HX2.out.2 1 (by omega)).2
        have p2 := (HX2.out.2 2 (by omega)).2
        have p3 := (HX2.out.2 3 (by omega)).2
        have p4 := (HX2.out.2 4 (by omega)).2
        have p5 := (HX2.out.2 5 (by omega)).2
        have p6 := (HX2.out.2 6 (by omega)).2
        have p7 := (HX2.out.2 7 (by omega)).2
        have p8 := (HX2.out.2 8 (by omega)).2
        obtain ⟨z0, z1, z2, q0, q1, q2, hg1⟩ := HF2.out
        have hv3 : BoxV (w2.setCell ⟨w.heap.size, 1, none⟩ (.int .u64 (X : Nat))) w.heap.size (valCells (k : Nat) X 0 0 ⟨#[]⟩ ⟨#[]⟩ 0 none 0 0 none 0 0) := HX2.out.set 1 _ (by simp [valCells]) (by omega)
        have hf3 : FBx (w2.setCell ⟨w.heap.size, 1, none⟩ (.int .u64 (X : Nat))) gf 0 0 := HF2.out.other (fun e => hng2 e) _
        have HV3 := Lib.hid hv3
        have HF3 := Lib.hid hf3
        have hfin : Below w.heap.size w w2 := HBA.out.trans (HB2.out.mono HBA.out.size)
        have HFIN := Lib.hid hfin
        have HQ : Hid (Q L deep (.val k q z win) (.val (.mk (k : Nat) X 0 0 nt nt 0 [] .nil) qm)) := by
          show Q _ _ _ _
          have hk := HKK.out
          have hm := HM.out
          have hqm := HQM.out
          subst hk
          have hl : leafQ L 9 q z = .val (.mk ((9 : Nat) : Int) X 0 0 nt nt 0 [] .nil) qm := by
            have hz2 : ¬ z < q + 8 := by have : m = 8 := HMV.out; omega
            have hmq : qm = q + 8 := by have : m = 8 := HMV.out; omega
            have hx : X = le (seg L q 8) := by rw [HXX.out, HMV.out]
            simp [leafQ, fixN, hz2, hx, hmq]
          rw [← hl]
          exact .val_leaf (by omega) (by omega) (by omega)
        clear hv3 hf3 hfin
        go_wp2_with fail
        go_meet
        case rel => exact vrel_val HQ.out (by have hfin := HFIN.out; (repeat' (first | with_reducible exact hfin | with_reducible refine Below.setCell ?_ (by first | exact Nat.le_refl _ | (rw [HGF.out]; exact Nat.le_succ _)) _))) HV3.out HF3.out (rdTS_leaf _ _ (ownOk_k (by have h7 := HKK.out; omega) hXo okz okz (by decide) (by decide) (Nat.zero_le _)))
    · as_aux_lemma =>
        have HKK := Lib.hid hk
        have t1 : ((k : Int) == 1) = false := by rw [hk]; rfl
        have t9 : ((k : Int) == 9) = false := by rw [hk]; rfl
        have t17 : ((k : Int) == 17) = false := by rw [hk]; rfl
        have t18 : ((k : Int) == 18) = false := by rw [hk]; rfl
        have t16 : ((k : Int) == 16) = false := by rw [hk]; rfl
        have t8 : ((k : Int) == 8) = false := by rw [hk]; rfl
        have t19 : ((k : Int) == 19) = false := by rw [hk]; rfl
        have t7 : ((k : Int) == 7) = false := by rw [hk]; rfl
        have t2 : ((k : Int) == 2) = false := by rw [hk]; rfl
        have t13 : ((k : Int) == 13) = false := by rw [hk]; rfl
        have t14 : ((k : Int) == 14) = false := by rw [hk]; rfl
        have t12 : ((k : Int) == 12) = false := by rw [hk]; rfl
        have t11 : ((k : Int) == 11) = false := by rw [hk]; rfl
        have t5 : ((k : Int) == 5) = false := by rw [hk]; rfl
        have t3 : ((k : Int) == 3) = false := by rw [hk]; rfl
        have t4 : ((k : Int) == 4) = false := by rw [hk]; rfl
        have t15 : ((k : Int) == 15) = false := by rw [hk]; rfl
        clear hk
        have hqm := HQM.out
        have hmv : m = 0 := by rw [HM.out, HKK.out]; rfl
        have HMV := Lib.hid hmv
        have HQ : Hid (Q L deep (.val k q z win) (.val (.mk (k : Nat) 0 0 0 nt nt 0 [] .nil) qm)) := by
          show Q _ _ _ _
          have hk := HKK.out
          have hm := HM.out
          have hqm := HQM.out
          subst hk
          have hl : leafQ L 10 q z = .val (.mk ((10 : Nat) : Int) 0 0 0 nt nt 0 [] .nil) qm := by
            have hz2 : ¬ z < q := by omega
            have hmq : qm = q := by have : m = 0 := HMV.out; omega
            simp [leafQ, fixN, hz2, hmq]
          rw [← hl]
          exact .val_leaf (by omega) (by omega) (by omega)
        clear hqm hmv
        have hfin : Below w.heap.size w w1 := HBA.out.trans (HB1.out.mono HBA.out.size)
        have HFIN := Lib.hid hfin
        clear hfin
        go_wp2_with fail
        go_meet
        case rel => exact vrel_val HQ.out HFIN.out HX1.out HF1.out (rdTS_leaf _ _ (ownOk_k (by have h7 := HKK.out; omega) okz okz okz (by decide) (by decide) (Nat.zero_le _)))
    · as_aux_lemma =>
        have HKK := Lib.hid hk
        have t1 : ((k : Int) == 1) = false := by rw [hk]; rfl
        have t9 : ((k : Int) == 9) = false := by rw [hk]; rfl
        have t17 : ((k : Int) == 17) = false := by rw [hk]; rfl
        have t18 : ((k : Int) == 18) = false := by rw [hk]; rfl
        have t16 : ((k : Int) == 16) = false := by rw [hk]; rfl
        have t8 : ((k : Int) == 8) = false := by rw [hk]; rfl
        have t19 : ((k : Int) == 19) = false := by rw [hk]; rfl
        have t7 : ((k : Int) == 7) = false := by rw [hk]; rfl
        have t2 : ((k : Int) == 2) = false := by rw [hk]; rfl
        have t13 : ((k : Int) == 13) = false := by rw [hk]; rfl
        have t14 : ((k : Int) == 14) = false := by rw [hk]; rfl
        have t12 : ((k : Int) == 12) = false := by rw [hk]; rfl
        have t11 : ((k : Int) == 11) = true := by rw [hk]; rfl
        have t5 : ((k : Int) == 5) = false := by rw [hk]; rfl
        have t3 : ((k : Int) == 3) = false := by rw [hk]; rfl
        have t4 : ((k : Int) == 4) = false := by rw [hk]; rfl
        have t15 : ((k : Int) == 15) = false := by rw [hk]; rfl
        clear hk
        have hqm := HQM.out
        have hz2 : ¬ z < q + fixN k := by rw [HKK.out]; simp [fixN]; omega
        have HLF : Hid (leafQ L k q z = match endQ L q z with | .error (e, a) => .bad e a | .ok (s, n) => match endQ L n z with | .error (e, a) => .bad e a | .ok (m, n2) => .val (.mk (k : Nat) 0 0 0 (txt s) (txt m) 0 [] .nil) n2) := by
          show _ = _
          have hk := HKK.out
          have hz3 := hz2
          subst hk
          simp [leafQ, fixN] at hz3 ⊢
          rw [if_neg (by omega)]
          rfl
        have hQL : Q L deep (.val k q z win) (leafQ L k q z) := .val_leaf (by have := HKK.out; omega) (by have := HKK.out; omega) (by have := HKK.out; omega)
        rw [HLF.out] at hQL
        have CT := Lib.hid (fun W (h : BRd W rb b o n c L deep) q => bended_calls rb b o n c L deep W h q z (by omega))
        obtain ⟨R, hR⟩ : ∃ R, R = endQ L q z := ⟨_, rfl⟩
        have hb1 := endQ_bd (b := L) hq (by omega)
        rw [← hR] at hQL hb1
        have C1 := Lib.hid (fun W (h : BRd W rb b o n c L deep) => CT.out W h q)
        rw [← hR] at C1
        have HSZ : Hid (∀ s nx, R = .ok (s, nx) → s.length ≤ 1000000) := by
          show ∀ s nx, _
          intro s nx hs
          have := endQ_len (b := L) (q := q) (z := z) (s := s) (n := nx) (by rw [← hR]; exact hs)
          omega
        clear hqm hz2 hR HLF
        go_wp2_with fail
        cases R with
        | error ea =>
          obtain ⟨er, a⟩ := ea
          have HQL := Lib.hid hQL
          have her : er ≠ 0 := by have := (hb1.1 er a rfl).1; omega
          clear hQL hb1
          refine (C1.out _ HR1.out).mono ?_
          rintro e w2 ⟨rfl, hb2⟩
          have HX2 : Hid (BoxV w2 w.heap.size (valCells (k : Nat) 0 0 0 ⟨#[]⟩ ⟨#[]⟩ 0 none 0 0 none 0 0)) := HX1.out.keep hb2
          have HF2 : Hid (FBx w2 gf 0 0) := HF1.out.keep hb2
          have HB2 : Hid (Below wa.heap.size wa w2) := HB1.out.trans (hb2.mono HB1.out.size)
          have HR2 : Hid (BRd w2 rb b o n c L deep) := HR1.out.keep hb2
          have hfin : Below w.heap.size w w2 := HBA.out.trans (HB2.out.mono HBA.out.size)
          have HFIN := Lib.hid hfin
          clear hb2 hfin
          clear f0 f1 f2 f3 f4 f5 f6 f7 f8 l0 z0 z1 z2 q0 q1 q2 hg1
          obtain ⟨f0, f1, f2, f3, f4, f5, f6, f7, f8, l0⟩ := HX2.out.nine
          have p0 := (HX2.out.2 0 (by omega)).2
          have p1 := (HX2.out.2 1 (by omega)).2
          have p2 := (HX2.out.2 2 (by omega)).2
          have p3 := (HX2.out.2 3 (by omega)).2
          have p4 := (HX2.out.2 4 (by omega)).2
          have p5 := (HX2.out.2 5 (by omega)).2
          have p6 := (HX2.out.2 6 (by omega)).2
          have p7 := (HX2.out.2 7 (by omega)).2
          have p8 := (HX2.out.2 8 (by omega)).2
          obtain ⟨z0, z1, z2, q0, q1, q2, hg1⟩ := HF2.out
          have hv3 : BoxV (w2.setCell ⟨w.heap.size, 4, none⟩ (.string ⟨#[]⟩)) w.heap.size (valCells (k : Nat) 0 0 0 ⟨#[]⟩ ⟨#[]⟩ 0 none 0 0 none 0 0) := HX2.out.set 4 _ (by simp [valCells]) (by omega)
          have hf3 : FBx (w2.setCell ⟨w.heap.size, 4, none⟩ (.string ⟨#[]⟩)) gf 0 0 := HF2.out.other (fun e => hng2 e) _
          have HV3 := Lib.hid hv3
          have HF3 := Lib.hid hf3
          clear hv3 hf3
          have hne : ((er : Int) == 0) = false := by simpa using her
          go_wp2_with fail
          go_meet
          case rel => exact vrel_bad HQL.out her (by have hfin := HFIN.out; (repeat' (first | with_reducible exact hfin | with_reducible refine Below.setCell ?_ (by first | exact Nat.le_refl _ | (rw [HGF.out]; exact Nat.le_succ _)) _))) (BoxV.other (BoxV.other (BoxV.other HV3.out (fun e => hng e) _) (fun e => hng e) _) (fun e => hng e) _) (HF3.out.put3 er a) (rdTS_leaf (fun _ => True) _ (ownOk_k (by have h7 := HKK.out; omega) okz okz okz (by decide) (by decide) (Nat.zero_le _))).rd
        | ok sn =>
          obtain ⟨s, nx⟩ := sn
          have hnx := hb1.2 s nx rfl
          obtain ⟨R2, hR2⟩ : ∃ R, R = endQ L nx z := ⟨_, rfl⟩
          have hb3 := endQ_bd (b := L) (q := nx) (z := z) (by omega) (by omega)
          have C2 := Lib.hid (fun W (h : BRd W rb b o n c L deep) => CT.out W h nx)
          simp only [← hR2] at hQL
          rw [← hR2] at C2 hb3
          have hsz : s.length ≤ 1000000 := HSZ.out s nx rfl
          have HSZ2 : Hid (∀ s nx, R2 = .ok (s, nx) → s.length ≤ 1000000) := by
            show ∀ s nx, _
            intro s' nx' hs
            have := endQ_len (b := L) (q := nx) (z := z) (s := s') (n := nx') (by rw [← hR2]; exact hs)
            omega
          clear hb1 hR2 HSZ
          refine (C1.out _ HR1.out).mono ?_
          rintro e w2 ⟨rfl, hb2⟩
          have HX2 : Hid (BoxV w2 w.heap.size (valCells (k : Nat) 0 0 0 ⟨#[]⟩ ⟨#[]⟩ 0 none 0 0 none 0 0)) := HX1.out.keep hb2
          have HF2 : Hid (FBx w2 gf 0 0) := HF1.out.keep hb2
          have HB2 : Hid (Below wa.heap.size wa w2) := HB1.out.trans (hb2.mono HB1.out.size)
          have HR2 : Hid (BRd w2 rb b o n c L deep) := HR1.out.keep hb2
          have hfin : Below w.heap.size w w2 := HBA.out.trans (HB2.out.mono HBA.out.size)
          have HFIN := Lib.hid hfin
          clear hb2 hfin
          clear f0 f1 f2 f3 f4 f5 f6 f7 f8 l0 z0 z1 z2 q0 q1 q2 hg1
          obtain ⟨f0, f1, f2, f3, f4, f5, f6, f7, f8, l0⟩ := HX2.out.nine
          have p0 := (HX2.out.2 0 (by omega)).2
          have p1 := (HX2.out.2 1 (by omega)).2
          have p2 := (HX2.out.2 2 (by omega)).2
          have p3 := (HX2.out.2 3 (by omega)).2
          have p4 := (HX2.out.2 4 (by omega)).2
          have p5 := (HX2.out.2 5 (by omega)).2
          have p6 := (HX2.out.2 6 (by omega)).2
          have p7 := (HX2.out.2 7 (by omega)).2
          have p8 := (HX2.out.2 8 (by omega)).2
          obtain ⟨z0, z1, z2, q0, q1, q2, hg1⟩ := HF2.out
          have hv3 : BoxV (w2.setCell ⟨w.heap.size, 4, none⟩ (.string (txt s))) w.heap.size (valCells (k : Nat) 0 0 0 (txt s) ⟨#[]⟩ 0 none 0 0 none 0 0) := HX2.out.set 4 _ (by simp [valCells]) (by omega)
          have hf3 : FBx (w2.setCell ⟨w.heap.size, 4, none⟩ (.string (txt s))) gf 0 0 := HF2.out.other (fun e => hng2 e) _
          have HV3 := Lib.hid hv3
          have HF3a := Lib.hid hf3
          clear hv3 hf3
          obtain ⟨w3, hw3⟩ : ∃ W, W = (((w2.setCell ⟨w.heap.size, 4, none⟩ (.string (txt s))).setCell ⟨gf, 0, none⟩ (.int .i64 0)).setCell ⟨gf, 1, none⟩ (.int .i64 0)).setCell ⟨gf, 2, none⟩ (.slice none 0 0) := ⟨_, rfl⟩
          have HX3 : Hid (BoxV w3 w.heap.size (valCells (k : Nat) 0 0 0 (txt s) ⟨#[]⟩ 0 none 0 0 none 0 0)) := by show BoxV _ _ _; rw [hw3]; exact (BoxV.other (BoxV.other (BoxV.other HV3.out (fun e => hng e) _) (fun e => hng e) _) (fun e => hng e) _)
          have HF3 : Hid (FBx w3 gf 0 0) := by show FBx _ _ _ _; rw [hw3]; exact HF3a.out.put3 0 0
          have HFN3 : Hid (Below w.heap.size w w3) := by show Below _ _ _; rw [hw3]; have hfin := HFIN.out; (repeat' (first | with_reducible exact hfin | with_reducible refine Below.setCell ?_ (by first | exact Nat.le_refl _ | (rw [HGF.out]; exact Nat.le_succ _)) _))
          have HR3 : Hid (BRd w3 rb b o n c L deep) := by
            show BRd _ _ _ _ _ _ _ _
            have hch : Chg (fun j => j = gf ∨ j = w.heap.size) w2 w3 := by rw [hw3]; (repeat' (first | with_reducible exact Chg.refl _ _ | with_reducible refine Chg.setCell ?_ (fun _ => by first | exact Or.inl rfl | exact Or.inr rfl) _))
            exact HR2.out.block hch (fun e => by have h7 := HRB.out; have h8 := HGF.out; rcases e with e | e <;> omega) (fun e => by have h7 : b < w.heap.size := HBB.out; have h8 := HGF.out; rcases e with e | e <;> omega)
          go_upto_region 34 with fail
          rw [← hw3]
          clear hw3
          clear f0 f1 f2 f3 f4 f5 f6 f7 f8 l0 z0 z1 z2 q0 q1 q2 hg1
          clear p0 p1 p2 p3 p4 p5 p6 p7 p8
          obtain ⟨f0, f1, f2, f3, f4, f5, f6, f7, f8, l0⟩ := HX3.out.nine
          have p0 := (HX3.out.2 0 (by omega)).2
          have p1 := (HX3.out.2 1 (by omega)).2
          have p2 := (HX3.out.2 2 (by omega)).2
          have p3 := (HX3.out.2 3 (by omega)).2
          have p4 := (HX3.out.2 4 (by omega)).2
          have p5 := (HX3.out.2 5 (by omega)).2
          have p6 := (HX3.out.2 6 (by omega)).2
          have p7 := (HX3.out.2 7 (by omega)).2
          have p8 := (HX3.out.2 8 (by omega)).2
          obtain ⟨z0, z1, z2, q0, q1, q2, hg1⟩ := HF3.out
          clear HFIN
          go_wp2_with fail
          cases R2 with
          | error ea =>
            obtain ⟨er, a⟩ := ea
            have HQL := Lib.hid hQL
            have her : er ≠ 0 := by have := (hb3.1 er a rfl).1; omega
            clear hQL hb3
            refine (C2.out _ HR3.out).mono ?_
            rintro e w4 ⟨rfl, hb4⟩
            have HX4 := Lib.hid (HX3.out.keep hb4)
            have HF4 := Lib.hid (HF3.out.keep hb4)
            have HFIN : Hid (Below w.heap.size w w4) := HFN3.out.trans (hb4.mono HFN3.out.size)
            have hz3 : (txt s).size ≤ 1000000 := by rw [← sl_len, sl_txt]; omega
            clear hb4
            clear f0 f1 f2 f3 f4 f5 f6 f7 f8 l0 z0 z1 z2 q0 q1 q2 hg1
            clear p0 p1 p2 p3 p4 p5 p6 p7 p8
            obtain ⟨f0, f1, f2, f3, f4, f5, f6, f7, f8, l0⟩ := HX4.out.nine
            have p0 := (HX4.out.2 0 (by omega)).2
            have p1 := (HX4.out.2 1 (by omega)).2
            have p2 := (HX4.out.2 2 (by omega)).2
            have p3 := (HX4.out.2 3 (by omega)).2
            have p4 := (HX4.out.2 4 (by omega)).2
            have p5 := (HX4.out.2 5 (by omega)).2
            have p6 := (HX4.out.2 6 (by omega)).2
            have p7 := (HX4.out.2 7 (by omega)).2
            have p8 := (HX4.out.2 8 (by omega)).2
            obtain ⟨z0, z1, z2, q0, q1, q2, hg1⟩ := HF4.out
            have hv3 : BoxV (w4.setCell ⟨w.heap.size, 5, none⟩ (.string ⟨#[]⟩)) w.heap.size (valCells (k : Nat) 0 0 0 (txt s) ⟨#[]⟩ 0 none 0 0 none 0 0) := HX4.out.set 5 _ (by simp [valCells]) (by omega)
            have hf3 : FBx (w4.setCell ⟨w.heap.size, 5, none⟩ (.string ⟨#[]⟩)) gf 0 0 := HF4.out.other (fun e => hng2 e) _
            have HV5 := Lib.hid hv3
            have HF5 := Lib.hid hf3
            clear hv3 hf3
            go_wp2_with fail
            go_meet
            case rel => exact vrel_bad HQL.out her (by have hfin := HFIN.out; (repeat' (first | with_reducible exact hfin | with_reducible refine Below.setCell ?_ (by first | exact Nat.le_refl _ | (rw [HGF.out]; exact Nat.le_succ _)) _))) (BoxV.other (BoxV.other (BoxV.other HV5.out (fun e => hng e) _) (fun e => hng e) _) (fun e => hng e) _) (HF5.out.put3 er a) (rdTS_leaf (fun _ => True) _ (ownOk_k (by have h7 := HKK.out; omega) okz okz okz (by omega) (by decide) (Nat.zero_le _))).rd
          | ok sn =>
            obtain ⟨s2, nx2⟩ := sn
            have HQL := Lib.hid hQL
            have hsz2 : s2.length ≤ 1000000 := HSZ2.out s2 nx2 rfl
            clear hQL hb3
            refine (C2.out _ HR3.out).mono ?_
            rintro e w4 ⟨rfl, hb4⟩
            have HX4 := Lib.hid (HX3.out.keep hb4)
            have HF4 := Lib.hid (HF3.out.keep hb4)
            have HFIN : Hid (Below w.heap.size w w4) := HFN3.out.trans (hb4.mono HFN3.out.size)
            have hz3 : (txt s).size ≤ 1000000 := by rw [← sl_len, sl_txt]; omega
            have hz4 : (txt s2).size ≤ 1000000 := by rw [← sl_len, sl_txt]; omega
            clear hb4
            clear f0 f1 f2 f3 f4 f5 f6 f7 f8 l0 z0 z1 z2 q0 q1 q2 hg1
            clear p0 p1 p2 p3 p4 p5 p6 p7 p8
            obtain ⟨f0, f1, f2, f3, f4, f5, f6, f7, f8, l0⟩ := HX4.out.nine
            have p0 := (HX4.out.2 0 (by omega)).2
            have p1 := (HX4.out.2 1 (by omega)).2
            have p2 := (HX4.out.2 2 (by omega)).2
            have p3 := (HX4.out.2 3 (by omega)).2
            have p4 := (HX4.out.2 4 (by omega)).2
            have p5 := (HX4.out.2 5 (by omega)).2
            have p6 := (HX4.out.2 6 (by omega)).2
            have p7 := (HX4.out.2 7 (by omega)).2
            have p8 := (HX4.out.2 8 (by omega)).2
            obtain ⟨z0, z1, z2, q0, q1, q2, hg1⟩ := HF4.out
            have hv3 : BoxV (w4.setCell ⟨w.heap.size, 5, none⟩ (.string (txt s2))) w.heap.size (valCells (k : Nat) 0 0 0 (txt s) (txt s2) 0 none 0 0 none 0 0) := HX4.out.set 5 _ (by simp [valCells]) (by omega)
            have hf3 : FBx (w4.setCell ⟨w.heap.size, 5, none⟩ (.string (txt s2))) gf 0 0 := HF4.out.other (fun e => hng2 e) _
            have HV5 := Lib.hid hv3
            have HF5 := Lib.hid hf3
            clear hv3 hf3
            go_wp2_with fail
            go_meet
            case rel => exact vrel_val HQL.out (by have hfin := HFIN.out; (repeat' (first | with_reducible exact hfin | with_reducible refine Below.setCell ?_ (by first | exact Nat.le_refl _ | (rw [HGF.out]; exact Nat.le_succ _)) _))) (BoxV.other (BoxV.other (BoxV.other HV5.out (fun e => hng e) _) (fun e => hng e) _) (fun e => hng e) _) (HF5.out.put3 0 0) (rdTS_leaf _ _ (ownOk_k (by have h7 := HKK.out; omega) okz okz okz (by omega) (by omega) (Nat.zero_le _)))
    · as_aux_lemma =>
        have HKK := Lib.hid hk
        have t1 : ((k : Int) == 1) = false := by rw [hk]; rfl
        have t9 : ((k : Int) == 9) = false := by rw [hk]; rfl
        have t17 : ((k : Int) == 17) = false := by rw [hk]; rfl
        have t18 : ((k : Int) == 18) = false := by rw [hk]; rfl
        have t16 : ((k : Int) == 16) = false := by rw [hk]; rfl
        have t8 : ((k : Int) == 8) = false := by rw [hk]; rfl
        have t19 : ((k : Int) == 19) = false := by rw [hk]; rfl
        have t7 : ((k : Int) == 7) = false := by rw [hk]; rfl
        have t2 : ((k : Int) == 2) = false := by rw [hk]; rfl
        have t13 : ((k : Int) == 13) = false := by rw [hk]; rfl
        have t14 : ((k : Int) == 14) = false := by rw [hk]; rfl
        have t12 : ((k : Int) == 12) = true := by rw [hk]; rfl
        have t11 : ((k : Int) == 11) = false := by rw [hk]; rfl
        have t5 : ((k : Int) == 5) = false := by rw [hk]; rfl
        have t3 : ((k : Int) == 3) = false := by rw [hk]; rfl
        have t4 : ((k : Int) == 4) = false := by rw [hk]; rfl
        have t15 : ((k : Int) == 15) = false := by rw [hk]; rfl
        clear hk
        have hqm := HQM.out
        have hz2 : ¬ z < q + fixN k := by rw [HKK.out]; simp [fixN]; omega
        have HLF : Hid (leafQ L k q z = match textQ L q z with | .error (e, a) => .bad e a | .ok (s, n) => if z < n + 12 then .bad 2 n else .val (.mk (k : Nat) 0 0 0 (txt s) nt 0 (seg L n 12) .nil) (n + 12)) := by
          show _ = _
          have hk := HKK.out
          have hz3 := hz2
          subst hk
          simp [leafQ, fixN] at hz3 ⊢
          rw [if_neg (by omega)]
          rfl
        have hQL : Q L deep (.val k q z win) (leafQ L k q z) := .val_leaf (by have := HKK.out; omega) (by have := HKK.out; omega) (by have := HKK.out; omega)
        rw [HLF.out] at hQL
        have C1 := Lib.hid (fun W (h : BRd W rb b o n c L deep) => text_calls rb b o n c L deep W h q z hq (by omega))
        have CK := Lib.hid (fun W a len cap l (h : RdB W a len l) => clone_calls a len cap l W h)
        obtain ⟨R, hR⟩ : ∃ R, R = textQ L q z := ⟨_, rfl⟩
        have hb1 := textQ_bd (b := L) hq (by omega)
        have HSZ : Hid (∀ s nx, R = .ok (s, nx) → s.length ≤ 1000000) := by
          show ∀ s nx, _
          intro s nx hs
          have := textQ_len (b := L) (q := q) (z := z) (s := s) (n := nx) (by rw [← hR]; exact hs)
          omega
        rw [← hR] at hQL hb1 C1
        clear hqm hz2 hR HLF
        go_wp2_with fail
        cases R with
        | error ea =>
          obtain ⟨er, a⟩ := ea
          have HQL := Lib.hid hQL
          have her : er ≠ 0 := by have := hb1.1 er a rfl; omega
          clear hQL hb1
          refine (C1.out _ HR1.out).mono ?_
          rintro e w2 ⟨rfl, hb2⟩
          have HX2 : Hid (BoxV w2 w.heap.size (valCells (k : Nat) 0 0 0 ⟨#[]⟩ ⟨#[]⟩ 0 none 0 0 none 0 0)) := HX1.out.keep hb2
          have HF2 : Hid (FBx w2 gf 0 0) := HF1.out.keep hb2
          have HB2 : Hid (Below wa.heap.size wa w2) := HB1.out.trans (hb2.mono HB1.out.size)
          have HR2 : Hid (BRd w2 rb b o n c L deep) := HR1.out.keep hb2
          have hfin : Below w.heap.size w w2 := HBA.out.trans (HB2.out.mono HBA.out.size)
          have HFIN := Lib.hid hfin
          clear hb2 hfin
          clear f0 f1 f2 f3 f4 f5 f6 f7 f8 l0 z0 z1 z2 q0 q1 q2 hg1
          obtain ⟨f0, f1, f2, f3, f4, f5, f6, f7, f8, l0⟩ := HX2.out.nine
          have p0 := (HX2.out.2 0 (by omega)).2
          have p1 := (HX2.out.2 1 (by omega)).2
          have p2 := (HX2.out.2 2 (by omega)).2
          have p3 := (HX2.out.2 3 (by omega)).2
          have p4 := (HX2.out.2 4 (by omega)).2
          have p5 := (HX2.out.2 5 (by omega)).2
          have p6 := (HX2.out.2 6 (by omega)).2
          have p7 := (HX2.out.2 7 (by omega)).2
          have p8 := (HX2.out.2 8 (by omega)).2
          obtain ⟨z0, z1, z2, q0, q1, q2, hg1⟩ := HF2.out
          have hv3 : BoxV (w2.setCell ⟨w.heap.size, 4, none⟩ (.string ⟨#[]⟩)) w.heap.size (valCells (k : Nat) 0 0 0 ⟨#[]⟩ ⟨#[]⟩ 0 none 0 0 none 0 0) := HX2.out.set 4 _ (by simp [valCells]) (by omega)
          have hf3 : FBx (w2.setCell ⟨w.heap.size, 4, none⟩ (.string ⟨#[]⟩)) gf 0 0 := HF2.out.other (fun e => hng2 e) _
          have HV3 := Lib.hid hv3
          have HF3 := Lib.hid hf3
          clear hv3 hf3
          have hne : ((er : Int) == 0) = false := by simpa using her
          go_wp2_with fail
          go_meet
          case rel => exact vrel_bad HQL.out her (by have hfin := HFIN.out; (repeat' (first | with_reducible exact hfin | with_reducible refine Below.setCell ?_ (by first | exact Nat.le_refl _ | (rw [HGF.out]; exact Nat.le_succ _)) _))) (BoxV.other (BoxV.other (BoxV.other HV3.out (fun e => hng e) _) (fun e => hng e) _) (fun e => hng e) _) (HF3.out.put3 er a) (rdTS_leaf (fun _ => True) _ (ownOk_k (by have h7 := HKK.out; omega) okz okz okz (by decide) (by decide) (Nat.zero_le _))).rd
        | ok sn =>
          obtain ⟨s, nx⟩ := sn
          have hnx := hb1.2 s nx rfl
          have hsz : s.length ≤ 1000000 := HSZ.out s nx rfl
          have hz3 : (txt s).size ≤ 1000000 := by rw [← sl_len, sl_txt]; omega
          have wz : IntKind.i64.wrap ((z : Int) - (nx : Int)) = (z : Int) - (nx : Int) := IntWalk.i64_in _ (by omega)
          clear hb1 HSZ
          refine (C1.out _ HR1.out).mono ?_
          rintro e w2 ⟨rfl, hb2⟩
          have HX2 : Hid (BoxV w2 w.heap.size (valCells (k : Nat) 0 0 0 ⟨#[]⟩ ⟨#[]⟩ 0 none 0 0 none 0 0)) := HX1.out.keep hb2
          have HF2 : Hid (FBx w2 gf 0 0) := HF1.out.keep hb2
          have HB2 : Hid (Below wa.heap.size wa w2) := HB1.out.trans (hb2.mono HB1.out.size)
          have HR2 : Hid (BRd w2 rb b o n c L deep) := HR1.out.keep hb2
          have hfin : Below w.heap.size w w2 := HBA.out.trans (HB2.out.mono HBA.out.size)
          have HFIN := Lib.hid hfin
          clear hb2 hfin
          clear f0 f1 f2 f3 f4 f5 f6 f7 f8 l0 z0 z1 z2 q0 q1 q2 hg1
          obtain ⟨f0, f1, f2, f3, f4, f5, f6, f7, f8, l0⟩ := HX2.out.nine
          have p0 := (HX2.out.2 0 (by omega)).2
          have p1 := (HX2.out.2 1 (by omega)).2
          have p2 := (HX2.out.2 2 (by omega)).2
          have p3 := (HX2.out.2 3 (by omega)).2
          have p4 := (HX2.out.2 4 (by omega)).2
          have p5 := (HX2.out.2 5 (by omega)).2
          have p6 := (HX2.out.2 6 (by omega)).2
          have p7 := (HX2.out.2 7 (by omega)).2
          have p8 := (HX2.out.2 8 (by omega)).2
          obtain ⟨z0, z1, z2, q0, q1, q2, hg1⟩ := HF2.out
          have hv3 : BoxV (w2.setCell ⟨w.heap.size, 4, none⟩ (.string (txt s))) w.heap.size (valCells (k : Nat) 0 0 0 (txt s) ⟨#[]⟩ 0 none 0 0 none 0 0) := HX2.out.set 4 _ (by simp [valCells]) (by omega)
          have hf3 : FBx (w2.setCell ⟨w.heap.size, 4, none⟩ (.string (txt s))) gf 0 0 := HF2.out.other (fun e => hng2 e) _
          have HV3 := Lib.hid hv3
          have HF3a := Lib.hid hf3
          clear hv3 hf3
          obtain ⟨w3, hw3⟩ : ∃ W, W = (((w2.setCell ⟨w.heap.size, 4, none⟩ (.string (txt s))).setCell ⟨gf, 0, none⟩ (.int .i64 0)).setCell ⟨gf, 1, none⟩ (.int .i64 0)).setCell ⟨gf, 2, none⟩ (.slice none 0 0) := ⟨_, rfl⟩
          have HX3 : Hid (BoxV w3 w.heap.size (valCells (k : Nat) 0 0 0 (txt s) ⟨#[]⟩ 0 none 0 0 none 0 0)) := by show BoxV _ _ _; rw [hw3]; exact (BoxV.other (BoxV.other (BoxV.other HV3.out (fun e => hng e) _) (fun e => hng e) _) (fun e => hng e) _)
          have HF3 : Hid (FBx w3 gf 0 0) := by show FBx _ _ _ _; rw [hw3]; exact HF3a.out.put3 0 0
          have HFN3 : Hid (Below w.heap.size w w3) := by show Below _ _ _; rw [hw3]; have hfin := HFIN.out; (repeat' (first | with_reducible exact hfin | with_reducible refine Below.setCell ?_ (by first | exact Nat.le_refl _ | (rw [HGF.out]; exact Nat.le_succ _)) _))
          have HR3 : Hid (BRd w3 rb b o n c L deep) := by
            show BRd _ _ _ _ _ _ _ _
            have hch : Chg (fun j => j = gf ∨ j = w.heap.size) w2 w3 := by rw [hw3]; (repeat' (first | with_reducible exact Chg.refl _ _ | with_reducible refine Chg.setCell ?_ (fun _ => by first | exact Or.inl rfl | exact Or.inr rfl) _))
            exact HR2.out.block hch (fun e => by have h7 := HRB.out; have h8 := HGF.out; rcases e with e | e <;> omega) (fun e => by have h7 : b < w.heap.size := HBB.out; have h8 := HGF.out; rcases e with e | e <;> omega)
          go_upto_region 28 with fail
          rw [← hw3]
          clear hw3
          clear f0 f1 f2 f3 f4 f5 f6 f7 f8 l0 z0 z1 z2 q0 q1 q2 hg1
          clear p0 p1 p2 p3 p4 p5 p6 p7 p8
          obtain ⟨f0, f1, f2, f3, f4, f5, f6, f7, f8, l0⟩ := HX3.out.nine
          have p0 := (HX3.out.2 0 (by omega)).2
          have p1 := (HX3.out.2 1 (by omega)).2
          have p2 := (HX3.out.2 2 (by omega)).2
          have p3 := (HX3.out.2 3 (by omega)).2
          have p4 := (HX3.out.2 4 (by omega)).2
          have p5 := (HX3.out.2 5 (by omega)).2
          have p6 := (HX3.out.2 6 (by omega)).2
          have p7 := (HX3.out.2 7 (by omega)).2
          have p8 := (HX3.out.2 8 (by omega)).2
          obtain ⟨z0, z1, z2, q0, q1, q2, hg1⟩ := HF3.out
          clear HFIN
          by_cases h12 : z < nx + 12
          · have d12 : decide ((z : Int) - (nx : Int) < 12) = true := by simp; omega
            have hQ2 : Q L deep (.val k q z win) (.bad 2 nx) := by simp only [if_pos h12] at hQL; exact hQL
            have HQL := Lib.hid hQ2
            clear hQL hQ2 h12
            go_wp2_with fail
            refine (CW.out _ _ _).mono ?_
            rintro e w4 ⟨rfl, hb4⟩
            have HX4 := Lib.hid (HX3.out.keep hb4)
            have HF4 := Lib.hid (HF3.out.keep hb4)
            have HFIN : Hid (Below w.heap.size w w4) := HFN3.out.trans (hb4.mono HFN3.out.size)
            clear hb4
            clear f0 f1 f2 f3 f4 f5 f6 f7 f8 l0 z0 z1 z2 q0 q1 q2 hg1
            clear p0 p1 p2 p3 p4 p5 p6 p7 p8
            obtain ⟨f0, f1, f2, f3, f4, f5, f6, f7, f8, l0⟩ := HX4.out.nine
            have p0 := (HX4.out.2 0 (by omega)).2
            have p1 := (HX4.out.2 1 (by omega)).2
            have p2 := (HX4.out.2 2 (by omega)).2
            have p3 := (HX4.out.2 3 (by omega)).2
            have p4 := (HX4.out.2 4 (by omega)).2
            have p5 := (HX4.out.2 5 (by omega)).2
            have p6 := (HX4.out.2 6 (by omega)).2
            have p7 := (HX4.out.2 7 (by omega)).2
            have p8 := (HX4.out.2 8 (by omega)).2
            obtain ⟨z0, z1, z2, q0, q1, q2, hg1⟩ := HF4.out
            go_wp2_with fail
            go_meet
            case rel => exact vrel_bad HQL.out (by omega) (by have hfin := HFIN.out; (repeat' (first | with_reducible exact hfin | with_reducible refine Below.setCell ?_ (by first | exact Nat.le_refl _ | (rw [HGF.out]; exact Nat.le_succ _)) _))) (BoxV.other (BoxV.other (BoxV.other HX4.out (fun e => hng e) _) (fun e => hng e) _) (fun e => hng e) _) (HF4.out.put3 2 nx) (rdTS_leaf (fun _ => True) _ (ownOk_k (by have h7 := HKK.out; omega) okz okz okz (by omega) (by decide) (Nat.zero_le _))).rd
          have d12 : decide ((z : Int) - (nx : Int) < 12) = false := by simp; omega
          obtain ⟨n12, hn12⟩ : ∃ x, x = nx + 12 := ⟨_, rfl⟩
          obtain ⟨S, hS⟩ : ∃ S, S = seg L nx 12 := ⟨_, rfl⟩
          have hS12 : S.length = 12 := by rw [hS, seg_length] <;> omega
          have hQ2 : Q L deep (.val k q z win) (.val (.mk (k : Nat) 0 0 0 (txt s) nt 0 S .nil) n12) := by simp only [if_neg h12] at hQL; rw [hS, hn12]; exact hQL
          have HQL := Lib.hid hQ2
          have w12 : IntKind.i64.wrap ((nx : Int) + 12) = (n12 : Int) := (IntWalk.i64_in _ (by omega)).trans (by omega)
          have j4 : (nx : Int) ≤ (n12 : Int) := by omega
          have j5 : (n12 : Int) ≤ (c : Int) := by omega
          have j6 : ¬ c = nx := by omega
          have hrdS : RdB w3 (some ⟨b, o + nx, none⟩) (n12 - nx) S := by have := HR3.out.part nx n12 (by omega) (by omega); rw [show n12 - nx = 12 by omega, ← hS] at this; rw [show n12 - nx = 12 by omega]; exact this
          have hnn : n12 - nx = 12 := by omega
          have HRS2 := Lib.hid hrdS
          have HNN := Lib.hid hnn
          obtain ⟨r0, r1, -, -, -⟩ := HR3.out
          clear hQL hQ2 h12 hS hn12 hrdS hnn
          go_wp2_with fail
          refine (CK.out _ _ _ _ _ HRS2.out (by simp) (by have := HNN.out; omega)).mono ?_
          rintro e w4 ⟨v4, rfl, ho4, hb4⟩
          obtain ⟨a4, c4, rfl, hrd4⟩ := ho4.reads
          rw [hS12] at ho4 ⊢
          have HO4 := Lib.hid ho4
          have HX4 := Lib.hid (HX3.out.keep hb4)
          have HF4 := Lib.hid (HF3.out.keep hb4)
          have HFIN : Hid (Below w.heap.size w w4) := HFN3.out.trans (hb4.mono HFN3.out.size)
          have hg3 : gf < w3.heap.size := HF3.out.2.2.2.2.2.2
          have hroom : Roomy a4 12 c4 := own_roomy ho4
          have HRO := Lib.hid hroom
          clear hb4 ho4 hrd4 hroom r0 r1
          clear f0 f1 f2 f3 f4 f5 f6 f7 f8 l0 z0 z1 z2 q0 q1 q2 hg1
          clear p0 p1 p2 p3 p4 p5 p6 p7 p8
          obtain ⟨f0, f1, f2, f3, f4, f5, f6, f7, f8, l0⟩ := HX4.out.nine
          have p0 := (HX4.out.2 0 (by omega)).2
          have p1 := (HX4.out.2 1 (by omega)).2
          have p2 := (HX4.out.2 2 (by omega)).2
          have p3 := (HX4.out.2 3 (by omega)).2
          have p4 := (HX4.out.2 4 (by omega)).2
          have p5 := (HX4.out.2 5 (by omega)).2
          have p6 := (HX4.out.2 6 (by omega)).2
          have p7 := (HX4.out.2 7 (by omega)).2
          have p8 := (HX4.out.2 8 (by omega)).2
          obtain ⟨z0, z1, z2, q0, q1, q2, hg1⟩ := HF4.out
          have hv3 : BoxV (w4.setCell ⟨w.heap.size, 7, none⟩ (.slice a4 12 c4)) w.heap.size (valCells (k : Nat) 0 0 0 (txt s) ⟨#[]⟩ 0 a4 12 c4 none 0 0) := HX4.out.set 7 _ (by simp [valCells]) (by omega)
          have hf3 : FBx (w4.setCell ⟨w.heap.size, 7, none⟩ (.slice a4 12 c4)) gf 0 0 := HF4.out.other (fun e => hng2 e) _
          have HV5 := Lib.hid hv3
          have HF5 := Lib.hid hf3
          clear hv3 hf3
          have HKK2 : Hid (∀ W', Chg (fun j => j = gf ∨ j = w.heap.size) w4 W' → RdBS (fun j => gf < j) W' a4 12 S) := by
            show ∀ W', _
            intro W' hW
            have hown : ∀ i, (Value.slice a4 12 c4).ownBlock = some i → gf < i := fun i hi => by have h7 := (owns_lt HO4.out i hi).1; omega
            have := rdBS_own (S := fun j => gf < j) (HO4.out.chg hW (fun i hi e => by have h7 := hown i hi; have h8 := HGF.out; rcases e with e | e <;> omega)) hown
            rwa [hS12] at this
          go_wp2_with fail
          go_meet
          case rel => exact vrel_val HQL.out (by have hfin := HFIN.out; (repeat' (first | with_reducible exact hfin | with_reducible refine Below.setCell ?_ (by first | exact Nat.le_refl _ | (rw [HGF.out]; exact Nat.le_succ _)) _))) HV5.out HF5.out (rdTS_of _ _ (ownOk_k (by have h7 := HKK.out; omega) okz okz okz (by omega) (by decide) (Nat.zero_le _)) (HKK2.out _ (by (repeat' (first | with_reducible exact Chg.refl _ _ | with_reducible refine Chg.setCell ?_ (fun _ => by first | exact Or.inl rfl | exact Or.inr rfl) _)))) HRO.out trivial rfl (by omega) roomy_nil)
    · as_aux_lemma =>
        have HKK := Lib.hid hk
        have t1 : ((k : Int) == 1) = false := by rw [hk]; rfl
        have t9 : ((k : Int) == 9) = false := by rw [hk]; rfl
        have t17 : ((k : Int) == 17) = false := by rw [hk]; rfl
        have t18 : ((k : Int) == 18) = false := by rw [hk]; rfl
        have t16 : ((k : Int) == 16) = false := by rw [hk]; rfl
        have t8 : ((k : Int) == 8) = false := by rw [hk]; rfl
        have t19 : ((k : Int) == 19) = false := by rw [hk]; rfl
        have t7 : ((k : Int) == 7) = false := by rw [hk]; rfl
        have t2 : ((k : Int) == 2) = false := by rw [hk]; rfl
        have t13 : ((k : Int) == 13) = true := by rw [hk]; rfl
        have t14 : ((k : Int) == 14) = false := by rw [hk]; rfl
        have t12 : ((k : Int) == 12) = false := by rw [hk]; rfl
        have t11 : ((k : Int) == 11) = false := by rw [hk]; rfl
        have t5 : ((k : Int) == 5) = false := by rw [hk]; rfl
        have t3 : ((k : Int) == 3) = false := by rw [hk]; rfl
        have t4 : ((k : Int) == 4) = false := by rw [hk]; rfl
        have t15 : ((k : Int) == 15) = false := by rw [hk]; rfl
        clear hk
        have hqm := HQM.out
        have hz2 : ¬ z < q + fixN k := by rw [HKK.out]; simp [fixN]; omega
        have CT := Lib.hid (fun W (h : BRd W rb b o n c L deep) => text_calls rb b o n c L deep W h q z hq (by omega))
        have HLF : Hid (leafQ L k q z = match textQ L q z with | .error (e, a) => .bad e a | .ok (s, n) => .val (.mk (k : Nat) 0 0 0 (txt s) nt 0 [] .nil) n) := by
          show _ = _
          have hk := HKK.out
          have hz3 := hz2
          subst hk
          simp [leafQ, fixN] at hz3 ⊢
          rw [if_neg (by omega)]
          rfl
        have hQL : Q L deep (.val k q z win) (leafQ L k q z) := .val_leaf (by have := HKK.out; omega) (by have := HKK.out; omega) (by have := HKK.out; omega)
        rw [HLF.out] at hQL
        obtain ⟨R, hR⟩ : ∃ R, R = textQ L q z := ⟨_, rfl⟩
        have hbdT := (textQ_bd (b := L) hq (by omega)).1
        rw [← hR] at hQL CT hbdT
        have HSZ : Hid (∀ s nx, R = .ok (s, nx) → s.length ≤ 1000000) := by
          show ∀ s nx, _
          intro s nx hs
          have := textQ_len (b := L) (q := q) (z := z) (s := s) (n := nx) (by rw [← hR]; exact hs)
          omega
        have HQL := Lib.hid hQL
        clear hqm hz2 hQL hR HLF
        go_wp2_with fail
        cases R with
        | error ea =>
          obtain ⟨er, a⟩ := ea
          have her : er ≠ 0 := by have := hbdT er a rfl; omega
          refine (CT.out _ HR1.out).mono ?_
          rintro e w2 ⟨rfl, hb2⟩
          have HX2 : Hid (BoxV w2 w.heap.size (valCells (k : Nat) 0 0 0 ⟨#[]⟩ ⟨#[]⟩ 0 none 0 0 none 0 0)) := HX1.out.keep hb2
          have HF2 : Hid (FBx w2 gf 0 0) := HF1.out.keep hb2
          have HB2 : Hid (Below wa.heap.size wa w2) := HB1.out.trans (hb2.mono HB1.out.size)
          have HR2 : Hid (BRd w2 rb b o n c L deep) := HR1.out.keep hb2
          have hfin : Below w.heap.size w w2 := HBA.out.trans (HB2.out.mono HBA.out.size)
          have HFIN := Lib.hid hfin
          clear hb2 hfin
          clear f0 f1 f2 f3 f4 f5 f6 f7 f8 l0 z0 z1 z2 q0 q1 q2 hg1
          obtain ⟨f0, f1, f2, f3, f4, f5, f6, f7, f8, l0⟩ := HX2.out.nine
          have p0 := (HX2.out.2 0 (by omega)).2
          have p1 := (HX2.out.2 1 (by omega)).2
          have p2 := (HX2.out.2 2 (by omega)).2
          have p3 := (HX2.out.2 3 (by omega)).2
          have p4 := (HX2.out.2 4 (by omega)).2
          have p5 := (HX2.out.2 5 (by omega)).2
          have p6 := (HX2.out.2 6 (by omega)).2
          have p7 := (HX2.out.2 7 (by omega)).2
          have p8 := (HX2.out.2 8 (by omega)).2
          obtain ⟨z0, z1, z2, q0, q1, q2, hg1⟩ := HF2.out
          have hv3 : BoxV (w2.setCell ⟨w.heap.size, 4, none⟩ (.string ⟨#[]⟩)) w.heap.size (valCells (k : Nat) 0 0 0 ⟨#[]⟩ ⟨#[]⟩ 0 none 0 0 none 0 0) := HX2.out.set 4 _ (by simp [valCells]) (by omega)
          have hf3 : FBx (w2.setCell ⟨w.heap.size, 4, none⟩ (.string ⟨#[]⟩)) gf 0 0 := HF2.out.other (fun e => hng2 e) _
          have HV3 := Lib.hid hv3
          have HF3 := Lib.hid hf3
          clear hv3 hf3
          go_wp2_with fail
          go_meet
          case rel => exact vrel_bad HQL.out her (by have hfin := HFIN.out; (repeat' (first | with_reducible exact hfin | with_reducible refine Below.setCell ?_ (by first | exact Nat.le_refl _ | (rw [HGF.out]; exact Nat.le_succ _)) _))) (BoxV.other (BoxV.other (BoxV.other HV3.out (fun e => hng e) _) (fun e => hng e) _) (fun e => hng e) _) (HF3.out.put3 er a) (rdTS_leaf (fun _ => True) _ (ownOk_k (by have h7 := HKK.out; omega) okz okz okz (by decide) (by decide) (Nat.zero_le _))).rd
        | ok sn =>
          obtain ⟨s, nx⟩ := sn
          refine (CT.out _ HR1.out).mono ?_
          rintro e w2 ⟨rfl, hb2⟩
          have hsz : s.length ≤ 1000000 := by have := HSZ.out s nx rfl; omega
          have HX2 : Hid (BoxV w2 w.heap.size (valCells (k : Nat) 0 0 0 ⟨#[]⟩ ⟨#[]⟩ 0 none 0 0 none 0 0)) := HX1.out.keep hb2
          have HF2 : Hid (FBx w2 gf 0 0) := HF1.out.keep hb2
          have HB2 : Hid (Below wa.heap.size wa w2) := HB1.out.trans (hb2.mono HB1.out.size)
          have HR2 : Hid (BRd w2 rb b o n c L deep) := HR1.out.keep hb2
          have hfin : Below w.heap.size w w2 := HBA.out.trans (HB2.out.mono HBA.out.size)
          have HFIN := Lib.hid hfin
          clear hb2 hfin
          clear f0 f1 f2 f3 f4 f5 f6 f7 f8 l0 z0 z1 z2 q0 q1 q2 hg1
          obtain ⟨f0, f1, f2, f3, f4, f5, f6, f7, f8, l0⟩ := HX2.out.nine
          have p0 := (HX2.out.2 0 (by omega)).2
          have p1 := (HX2.out.2 1 (by omega)).2
          have p2 := (HX2.out.2 2 (by omega)).2
          have p3 := (HX2.out.2 3 (by omega)).2
          have p4 := (HX2.out.2 4 (by omega)).2
          have p5 := (HX2.out.2 5 (by omega)).2
          have p6 := (HX2.out.2 6 (by omega)).2
          have p7 := (HX2.out.2 7 (by omega)).2
          have p8 := (HX2.out.2 8 (by omega)).2
          obtain ⟨z0, z1, z2, q0, q1, q2, hg1⟩ := HF2.out
          have hv3 : BoxV (w2.setCell ⟨w.heap.size, 4, none⟩ (.string (txt s))) w.heap.size (valCells (k : Nat) 0 0 0 (txt s) ⟨#[]⟩ 0 none 0 0 none 0 0) := HX2.out.set 4 _ (by simp [valCells]) (by omega)
          have hf3 : FBx (w2.setCell ⟨w.heap.size, 4, none⟩ (.string (txt s))) gf 0 0 := HF2.out.other (fun e => hng2 e) _
          have HV3 := Lib.hid hv3
          have HF3 := Lib.hid hf3
          clear hv3 hf3
          go_wp2_with fail
          go_meet
          case rel => exact vrel_val HQL.out (by have hfin := HFIN.out; (repeat' (first | with_reducible exact hfin | with_reducible refine Below.setCell ?_ (by first | exact Nat.le_refl _ | (rw [HGF.out]; exact Nat.le_succ _)) _))) (BoxV.other (BoxV.other (BoxV.other HV3.out (fun e => hng e) _) (fun e => hng e) _) (fun e => hng e) _) (HF3.out.put3 0 0) (rdTS_leaf _ _ (ownOk_k (by have h7 := HKK.out; omega) okz okz okz (by have : (txt s).size = s.length := txt_size s; omega) (by decide) (Nat.zero_le _)))
    · as_aux_lemma =>
        have HKK := Lib.hid hk
        have t1 : ((k : Int) == 1) = false := by rw [hk]; rfl
        have t9 : ((k : Int) == 9) = false := by rw [hk]; rfl
        have t17 : ((k : Int) == 17) = false := by rw [hk]; rfl
        have t18 : ((k : Int) == 18) = false := by rw [hk]; rfl
        have t16 : ((k : Int) == 16) = false := by rw [hk]; rfl
        have t8 : ((k : Int) == 8) = false := by rw [hk]; rfl
        have t19 : ((k : Int) == 19) = false := by rw [hk]; rfl
        have t7 : ((k : Int) == 7) = false := by rw [hk]; rfl
        have t2 : ((k : Int) == 2) = false := by rw [hk]; rfl
        have t13 : ((k : Int) == 13) = false := by rw [hk]; rfl
        have t14 : ((k : Int) == 14) = true := by rw [hk]; rfl
        have t12 : ((k : Int) == 12) = false := by rw [hk]; rfl
        have t11 : ((k : Int) == 11) = false := by rw [hk]; rfl
        have t5 : ((k : Int) == 5) = false := by rw [hk]; rfl
        have t3 : ((k : Int) == 3) = false := by rw [hk]; rfl
        have t4 : ((k : Int) == 4) = false := by rw [hk]; rfl
        have t15 : ((k : Int) == 15) = false := by rw [hk]; rfl
        clear hk
        have hqm := HQM.out
        have hz2 : ¬ z < q + fixN k := by rw [HKK.out]; simp [fixN]; omega
        have CT := Lib.hid (fun W (h : BRd W rb b o n c L deep) => text_calls rb b o n c L deep W h q z hq (by omega))
        have HLF : Hid (leafQ L k q z = match textQ L q z with | .error (e, a) => .bad e a | .ok (s, n) => .val (.mk (k : Nat) 0 0 0 (txt s) nt 0 [] .nil) n) := by
          show _ = _
          have hk := HKK.out
          have hz3 := hz2
          subst hk
          simp [leafQ, fixN] at hz3 ⊢
          rw [if_neg (by omega)]
          rfl
        have hQL : Q L deep (.val k q z win) (leafQ L k q z) := .val_leaf (by have := HKK.out; omega) (by have := HKK.out; omega) (by have := HKK.out; omega)
        rw [HLF.out] at hQL
        obtain ⟨R, hR⟩ : ∃ R, R = textQ L q z := ⟨_, rfl⟩
        have hbdT := (textQ_bd (b := L) hq (by omega)).1
        rw [← hR] at hQL CT hbdT
        have HSZ : Hid (∀ s nx, R = .ok (s, nx) → s.length ≤ 1000000) := by
          show ∀ s nx, _
          intro s nx hs
          have := textQ_len (b := L) (q := q) (z := z) (s := s) (n := nx) (by rw [← hR]; exact hs)
          omega
        have HQL := Lib.hid hQL
        clear hqm hz2 hQL hR HLF
        go_wp2_with fail
        cases R with
        | error ea =>
          obtain ⟨er, a⟩ := ea
          have her : er ≠ 0 := by have := hbdT er a rfl; omega
          refine (CT.out _ HR1.out).mono ?_
          rintro e w2 ⟨rfl, hb2⟩
          have HX2 : Hid (BoxV w2 w.heap.size (valCells (k : Nat) 0 0 0 ⟨#[]⟩ ⟨#[]⟩ 0 none 0 0 none 0 0)) := HX1.out.keep hb2
          have HF2 : Hid (FBx w2 gf 0 0) := HF1.out.keep hb2
          have HB2 : Hid (Below wa.heap.size wa w2) := HB1.out.trans (hb2.mono HB1.out.size)
          have HR2 : Hid (BRd w2 rb b o n c L deep) := HR1.out.keep hb2
          have hfin : Below w.heap.size w w2 := HBA.out.trans (HB2.out.mono HBA.out.size)
          have HFIN := Lib.hid hfin
          clear hb2 hfin
          clear f0 f1 f2 f3 f4 f5 f6 f7 f8 l0 z0 z1 z2 q0 q1 q2 hg1
          obtain ⟨f0, f1, f2, f3, f4, f5, f6, f7, f8, l0⟩ := HX2.out.nine
          have p0 := (HX2.out.2 0 (by omega)).2
          have p1 := (HX2.out.2 1 (by omega)).2
          have p2 := (HX2.out.2 2 (by omega)).2
          have p3 := (HX2.out.2 3 (by omega)).2
          have p4 := (HX2.out.2 4 (by omega)).2
          have p5 := (HX2.out.2 5 (by omega)).2
          have p6 := (HX2.out.2 6 (by omega)).2
          have p7 := (HX2.out.2 7 (by omega)).2
          have p8 := (HX2.out.2 8 (by omega)).2
          obtain ⟨z0, z1, z2, q0, q1, q2, hg1⟩ := HF2.out
          have hv3 : BoxV (w2.setCell ⟨w.heap.size, 4, none⟩ (.string ⟨#[]⟩)) w.heap.size (valCells (k : Nat) 0 0 0 ⟨#[]⟩ ⟨#[]⟩ 0 none 0 0 none 0 0) := HX2.out.set 4 _ (by simp [valCells]) (by omega)
          have hf3 : FBx (w2.setCell ⟨w.heap.size, 4, none⟩ (.string ⟨#[]⟩)) gf 0 0 := HF2.out.other (fun e => hng2 e) _
          have HV3 := Lib.hid hv3
          have HF3 := Lib.hid hf3
          clear hv3 hf3
          go_wp2_with fail
          go_meet
          case rel => exact vrel_bad HQL.out her (by have hfin := HFIN.out; (repeat' (first | with_reducible exact hfin | with_reducible refine Below.setCell ?_ (by first | exact Nat.le_refl _ | (rw [HGF.out]; exact Nat.le_succ _)) _))) (BoxV.other (BoxV.other (BoxV.other HV3.out (fun e => hng e) _) (fun e => hng e) _) (fun e => hng e) _) (HF3.out.put3 er a) (rdTS_leaf (fun _ => True) _ (ownOk_k (by have h7 := HKK.out; omega) okz okz okz (by decide) (by decide) (Nat.zero_le _))).rd
        | ok sn =>
          obtain ⟨s, nx⟩ := sn
          refine (CT.out _ HR1.out).mono ?_
          rintro e w2 ⟨rfl, hb2⟩
          have hsz : s.length ≤ 1000000 := by have := HSZ.out s nx rfl; omega
          have HX2 : Hid (BoxV w2 w.heap.size (valCells (k : Nat) 0 0 0 ⟨#[]⟩ ⟨#[]⟩ 0 none 0 0 none 0 0)) := HX1.out.keep hb2
          have HF2 : Hid (FBx w2 gf 0 0) := HF1.out.keep hb2
          have HB2 : Hid (Below wa.heap.size wa w2) := HB1.out.trans (hb2.mono HB1.out.size)
          have HR2 : Hid (BRd w2 rb b o n c L deep) := HR1.out.keep hb2
          have hfin : Below w.heap.size w w2 := HBA.out.trans (HB2.out.mono HBA.out.size)
          have HFIN := Lib.hid hfin
          clear hb2 hfin
          clear f0 f1 f2 f3 f4 f5 f6 f7 f8 l0 z0 z1 z2 q0 q1 q2 hg1
          obtain ⟨f0, f1, f2, f3, f4, f5, f6, f7, f8, l0⟩ := HX2.out.nine
          have p0 := (HX2.out.2 0 (by omega)).2
          have p1 := (HX2.out.2 1 (by omega)).2
          have p2 := (HX2.out.2 2 (by omega)).2
          have p3 := (HX2.out.2 3 (by omega)).2
          have p4 := (HX2.out.2 4 (by omega)).2
          have p5 := (HX2.out.2 5 (by omega)).2
          have p6 := (HX2.out.2 6 (by omega)).2
          have p7 := (HX2.out.2 7 (by omega)).2
          have p8 := (HX2.out.2 8 (by omega)).2
          obtain ⟨z0, z1, z2, q0, q1, q2, hg1⟩ := HF2.out
          have hv3 : BoxV (w2.setCell ⟨w.heap.size, 4, none⟩ (.string (txt s))) w.heap.size (valCells (k : Nat) 0 0 0 (txt s) ⟨#[]⟩ 0 none 0 0 none 0 0) := HX2.out.set 4 _ (by simp [valCells]) (by omega)
          have hf3 : FBx (w2.setCell ⟨w.heap.size, 4, none⟩ (.string (txt s))) gf 0 0 := HF2.out.other (fun e => hng2 e) _
          have HV3 := Lib.hid hv3
          have HF3 := Lib.hid hf3
          clear hv3 hf3
          go_wp2_with fail
          go_meet
          case rel => exact vrel_val HQL.out (by have hfin := HFIN.out; (repeat' (first | with_reducible exact hfin | with_reducible refine Below.setCell ?_ (by first | exact Nat.le_refl _ | (rw [HGF.out]; exact Nat.le_succ _)) _))) (BoxV.other (BoxV.other (BoxV.other HV3.out (fun e => hng e) _) (fun e => hng e) _) (fun e => hng e) _) (HF3.out.put3 0 0) (rdTS_leaf _ _ (ownOk_k (by have h7 := HKK.out; omega) okz okz okz (by have : (txt s).size = s.length := txt_size s; omega) (by decide) (Nat.zero_le _)))
    · as_aux_lemma =>
        have HKK := Lib.hid hk
        have t1 : ((k : Int) == 1) = false := by rw [hk]; rfl
        have t9 : ((k : Int) == 9) = false := by rw [hk]; rfl
        have t17 : ((k : Int) == 17) = false := by rw [hk]; rfl
        have t18 : ((k : Int) == 18) = false := by rw [hk]; rfl
        have t16 : ((k : Int) == 16) = false := by rw [hk]; rfl
        have t8 : ((k : Int) == 8) = false := by rw [hk]; rfl
        have t19 : ((k : Int) == 19) = false := by rw [hk]; rfl
        have t7 : ((k : Int) == 7) = false := by rw [hk]; rfl
        have t2 : ((k : Int) == 2) = false := by rw [hk]; rfl
        have t13 : ((k : Int) == 13) = false := by rw [hk]; rfl
        have t14 : ((k : Int) == 14) = false := by rw [hk]; rfl
        have t12 : ((k : Int) == 12) = false := by rw [hk]; rfl
        have t11 : ((k : Int) == 11) = false := by rw [hk]; rfl
        have t5 : ((k : Int) == 5) = false := by rw [hk]; rfl
        have t3 : ((k : Int) == 3) = false := by rw [hk]; rfl
        have t4 : ((k : Int) == 4) = false := by rw [hk]; rfl
        have t15 : ((k : Int) == 15) = true := by rw [hk]; rfl
        clear hk
        have hqm := HQM.out
        have hmv : m = 4 := by rw [HM.out, HKK.out]; rfl
        have CD := Lib.hid (fun W (h : BRd W rb b o n c L deep) => hsc rb b o n c L deep W h q z win (by omega) hz hd hw)
        have HQD : Hid (∀ r, Q L deep (.val 15 q z win) r → Q L deep (.val k q z win) r) := by
          show ∀ r, _
          intro r hr
          rw [HKK.out]
          exact hr
        clear hqm hmv
        go_wp2_with fail
        refine (CD.out _ HR1.out).mono ?_
        rintro e w2 ⟨r, hq1, hout, hb2⟩
        have HX2 : Hid (BoxV w2 w.heap.size (valCells (k : Nat) 0 0 0 ⟨#[]⟩ ⟨#[]⟩ 0 none 0 0 none 0 0)) := HX1.out.keep hb2
        have HF2 : Hid (FBx w2 gf 0 0) := HF1.out.keep hb2
        have HB2 : Hid (Below wa.heap.size wa w2) := HB1.out.trans (hb2.mono HB1.out.size)
        have HR2 : Hid (BRd w2 rb b o n c L deep) := HR1.out.keep hb2
        have hfin : Below w.heap.size w w2 := HBA.out.trans (HB2.out.mono HBA.out.size)
        have HFIN := Lib.hid hfin
        have HQL := Lib.hid (HQD.out r hq1)
        have HQ1 := Lib.hid hq1
        have hs12 := HB1.out.size
        clear hb2 hfin hq1
        clear f0 f1 f2 f3 f4 f5 f6 f7 f8 l0 z0 z1 z2 q0 q1 q2 hg1
        obtain ⟨f0, f1, f2, f3, f4, f5, f6, f7, f8, l0⟩ := HX2.out.nine
        have p0 := (HX2.out.2 0 (by omega)).2
        have p1 := (HX2.out.2 1 (by omega)).2
        have p2 := (HX2.out.2 2 (by omega)).2
        have p3 := (HX2.out.2 3 (by omega)).2
        have p4 := (HX2.out.2 4 (by omega)).2
        have p5 := (HX2.out.2 5 (by omega)).2
        have p6 := (HX2.out.2 6 (by omega)).2
        have p7 := (HX2.out.2 7 (by omega)).2
        have p8 := (HX2.out.2 8 (by omega)).2
        obtain ⟨z0, z1, z2, q0, q1, q2, hg1⟩ := HF2.out
        cases r with
        | kids f nx => exact hout.elim
        | bad er a =>
          have her : er ≠ 0 := HQ1.out.bad_ne hq (by omega)
          obtain ⟨s, hsz, rfl⟩ := hout
          have hv3 : BoxV ((w2.setCell ⟨w.heap.size, 4, none⟩ (.string s)).setCell ⟨w.heap.size, 8, none⟩ (.slice none 0 0)) w.heap.size (valCells (k : Nat) 0 0 0 s ⟨#[]⟩ 0 none 0 0 none 0 0) := (show BoxV (w2.setCell ⟨w.heap.size, 4, none⟩ (.string s)) w.heap.size (valCells (k : Nat) 0 0 0 s ⟨#[]⟩ 0 none 0 0 none 0 0) from HX2.out.set 4 _ (by simp [valCells]) (by omega)).set 8 _ (by simp [valCells]) (by omega)
          have hf3 : FBx ((w2.setCell ⟨w.heap.size, 4, none⟩ (.string s)).setCell ⟨w.heap.size, 8, none⟩ (.slice none 0 0)) gf 0 0 := (HF2.out.other (fun e => hng2 e) _).other (fun e => hng2 e) _
          have HV3 := Lib.hid hv3
          have HF3 := Lib.hid hf3
          clear hv3 hf3
          go_wp2_with fail
          go_meet
          case rel => exact vrel_bad HQL.out her (by have hfin := HFIN.out; (repeat' (first | with_reducible exact hfin | with_reducible refine Below.setCell ?_ (by first | exact Nat.le_refl _ | (rw [HGF.out]; exact Nat.le_succ _)) _))) (BoxV.other (BoxV.other (BoxV.other HV3.out (fun e => hng e) _) (fun e => hng e) _) (fun e => hng e) _) (HF3.out.put3 er a) (rdTS_leaf (fun _ => True) _ (ownOk_k (by have h7 := HKK.out; omega) okz okz okz (by omega) (by decide) (Nat.zero_le _))).rd
        | val t nx =>
          obtain ⟨s, f, a2, c2, rfl, hsz, rfl, hks, hroom, hfl⟩ := hout
          obtain ⟨nk, hnk⟩ : ∃ x, x = f.len := ⟨_, rfl⟩
          rw [← hnk] at hroom hfl ⊢
          have HNK := Lib.hid hnk
          have HKS := Lib.hid hks
          have hk15 : ((15 : Nat) : Int) = (k : Int) := by rw [HKK.out]
          rw [hk15] at HQL
          clear hks hnk hk15
          have hv3 : BoxV ((w2.setCell ⟨w.heap.size, 4, none⟩ (.string s)).setCell ⟨w.heap.size, 8, none⟩ (.slice a2 nk c2)) w.heap.size (valCells (k : Nat) 0 0 0 s ⟨#[]⟩ 0 none 0 0 a2 nk c2) := (show BoxV (w2.setCell ⟨w.heap.size, 4, none⟩ (.string s)) w.heap.size (valCells (k : Nat) 0 0 0 s ⟨#[]⟩ 0 none 0 0 none 0 0) from HX2.out.set 4 _ (by simp [valCells]) (by omega)).set 8 _ (by simp [valCells]) (by omega)
          have hf3 : FBx ((w2.setCell ⟨w.heap.size, 4, none⟩ (.string s)).setCell ⟨w.heap.size, 8, none⟩ (.slice a2 nk c2)) gf 0 0 := (HF2.out.other (fun e => hng2 e) _).other (fun e => hng2 e) _
          have HV3 := Lib.hid hv3
          have HF3 := Lib.hid hf3
          clear hv3 hf3
          have HKK2 : Hid (∀ W', Chg (fun j => j = gf ∨ j = w.heap.size) w2 W' → RdKsS (fun j => gf < j) W' a2 0 f) := by
            show ∀ W', _
            intro W' hW
            have h9 := HWZ.out
            refine (HKS.out.imp (fun j _ hj => ?_)).keep (KeepS.chg hW (fun j hj e => ?_))
            · have h7 : w1.heap.size ≤ j := hj
              show gf < j
              omega
            · have h7 : gf < j := hj
              have h8 := HGF.out
              rcases e with e | e <;> omega
          go_wp2_with fail
          go_meet
          case rel => exact vrel_val HQL.out (by have hfin := HFIN.out; (repeat' (first | with_reducible exact hfin | with_reducible refine Below.setCell ?_ (by first | exact Nat.le_refl _ | (rw [HGF.out]; exact Nat.le_succ _)) _))) (BoxV.other (BoxV.other (BoxV.other HV3.out (fun e => hng e) _) (fun e => hng e) _) (fun e => hng e) _) (HF3.out.put3 0 0) (rdTS_of _ _ (ownOk_k (by have h7 := HKK.out; omega) okz okz okz (by omega) (by decide) (Nat.zero_le _)) (rdBS_nil _ _) roomy_nil (HKK2.out _ (by (repeat' (first | with_reducible exact Chg.refl _ _ | with_reducible refine Chg.setCell ?_ (fun _ => by first | exact Or.inl rfl | exact Or.inr rfl) _)))) HNK.out.symm hfl hroom)
    · as_aux_lemma =>
        have HKK := Lib.hid hk
        have t1 : ((k : Int) == 1) = false := by rw [hk]; rfl
        have t9 : ((k : Int) == 9) = false := by rw [hk]; rfl
        have t17 : ((k : Int) == 17) = false := by rw [hk]; rfl
        have t18 : ((k : Int) == 18) = false := by rw [hk]; rfl
        have t16 : ((k : Int) == 16) = true := by rw [hk]; rfl
        have t8 : ((k : Int) == 8) = false := by rw [hk]; rfl
        have t19 : ((k : Int) == 19) = false := by rw [hk]; rfl
        have t7 : ((k : Int) == 7) = false := by rw [hk]; rfl
        have t2 : ((k : Int) == 2) = false := by rw [hk]; rfl
        have t13 : ((k : Int) == 13) = false := by rw [hk]; rfl
        have t14 : ((k : Int) == 14) = false := by rw [hk]; rfl
        have t12 : ((k : Int) == 12) = false := by rw [hk]; rfl
        have t11 : ((k : Int) == 11) = false := by rw [hk]; rfl
        have t5 : ((k : Int) == 5) = false := by rw [hk]; rfl
        have t3 : ((k : Int) == 3) = false := by rw [hk]; rfl
        have t4 : ((k : Int) == 4) = false := by rw [hk]; rfl
        have t15 : ((k : Int) == 15) = false := by rw [hk]; rfl
        clear hk
        have hmv : m = 4 := by rw [HM.out, HKK.out]; rfl
        have hqm := HQM.out
        obtain ⟨X, hX⟩ : ∃ X, X = le (seg L q m) := ⟨_, rfl⟩
        have CL := Lib.hid (low_at (L := L) (q := q) (n := qm - q) (p := 0) (j := m) HRR.out (by omega) (by omega) (by omega) (by omega) (m : Int) rfl)
        rw [Nat.add_zero, ← hX] at CL
        have hXo : X < okSize := by rw [hX]; exact le_pow8 _ _ _ (by omega)
        have HXX := Lib.hid hX
        have HMV := Lib.hid hmv
        clear hmv hqm hX
        go_wp2_with fail
        refine CL.out.mono ?_
        rintro e w2 ⟨rfl, -, hch2⟩
        have HX2 : Hid (BoxV w2 w.heap.size (valCells (k : Nat) 0 0 0 ⟨#[]⟩ ⟨#[]⟩ 0 none 0 0 none 0 0)) := HX1.out.chg hch2 (by have h7 := HRS.out; have h8 := HGF.out; omega)
        have HF2 : Hid (FBx w2 gf 0 0) := HF1.out.block hch2.size (hch2.block gf HF1.out.2.2.2.2.2.2 (by have h7 := HRS.out; have h8 := HGF.out; omega))
        have HB2 : Hid (Below wa.heap.size wa w2) := HB1.out.trans (hch2.below HB1.out.size (fun i hi => by have h7 := HRS.out; have h8 := HWZ.out; have h9 : i = rr := hi; omega))
        clear hch2
        clear f0 f1 f2 f3 f4 f5 f6 f7 f8 l0 z0 z1 z2 q0 q1 q2 hg1
        obtain ⟨f0, f1, f2, f3, f4, f5, f6, f7, f8, l0⟩ := HX2.out.nine
        have p0 := (HX2.out.2 0 (by omega)).2
        have p1 := (HX2.out.2 1 (by omega)).2
        have p2 := (HX2.out.2 2 (by omega)).2
        have p3 := (HX2.out.2 3 (by omega)).2
        have p4 := (HX2.out.2 4 (by omega)).2
        have p5 := (HX2.out.2 5 (by omega)).2
        have p6 := (HX2.out.2 6 (by omega)).2
        have p7 := (HX2.out.2 7 (by omega)).2
        have p8 := (HX2.out.2 8 (by omega)).2
        obtain ⟨z0, z1, z2, q0, q1, q2, hg1⟩ := HF2.out
        have hv3 : BoxV (w2.setCell ⟨w.heap.size, 1, none⟩ (.int .u64 (X : Nat))) w.heap.size (valCells (k : Nat) X 0 0 ⟨#[]⟩ ⟨#[]⟩ 0 none 0 0 none 0 0) := HX2.out.set 1 _ (by simp [valCells]) (by omega)
        have hf3 : FBx (w2.setCell ⟨w.heap.size, 1, none⟩ (.int .u64 (X : Nat))) gf 0 0 := HF2.out.other (fun e => hng2 e) _
        have HV3 := Lib.hid hv3
        have HF3 := Lib.hid hf3
        have hfin : Below w.heap.size w w2 := HBA.out.trans (HB2.out.mono HBA.out.size)
        have HFIN := Lib.hid hfin
        have HQ : Hid (Q L deep (.val k q z win) (.val (.mk (k : Nat) X 0 0 nt nt 0 [] .nil) qm)) := by
          show Q _ _ _ _
          have hk := HKK.out
          have hm := HM.out
          have hqm := HQM.out
          subst hk
          have hl : leafQ L 16 q z = .val (.mk ((16 : Nat) : Int) X 0 0 nt nt 0 [] .nil) qm := by
            have hz2 : ¬ z < q + 4 := by have : m = 4 := HMV.out; omega
            have hmq : qm = q + 4 := by have : m = 4 := HMV.out; omega
            have hx : X = le (seg L q 4) := by rw [HXX.out, HMV.out]
            simp [leafQ, fixN, hz2, hx, hmq]
          rw [← hl]
          exact .val_leaf (by omega) (by omega) (by omega)
        clear hv3 hf3 hfin
        go_wp2_with fail
        go_meet
        case rel => exact vrel_val HQ.out (by have hfin := HFIN.out; (repeat' (first | with_reducible exact hfin | with_reducible refine Below.setCell ?_ (by first | exact Nat.le_refl _ | (rw [HGF.out]; exact Nat.le_succ _)) _))) HV3.out HF3.out (rdTS_leaf _ _ (ownOk_k (by have h7 := HKK.out; omega) hXo okz okz (by decide) (by decide) (Nat.zero_le _)))
    · as_aux_lemma =>
        have HKK := Lib.hid hk
        have t1 : ((k : Int) == 1) = false := by rw [hk]; rfl
        have t9 : ((k : Int) == 9) = false := by rw [hk]; rfl
        have t17 : ((k : Int) == 17) = true := by rw [hk]; rfl
        have t18 : ((k : Int) == 18) = false := by rw [hk]; rfl
        have t16 : ((k : Int) == 16) = false := by rw [hk]; rfl
        have t8 : ((k : Int) == 8) = false := by rw [hk]; rfl
        have t19 : ((k : Int) == 19) = false := by rw [hk]; rfl
        have t7 : ((k : Int) == 7) = false := by rw [hk]; rfl
        have t2 : ((k : Int) == 2) = false := by rw [hk]; rfl
        have t13 : ((k : Int) == 13) = false := by rw [hk]; rfl
        have t14 : ((k : Int) == 14) = false := by rw [hk]; rfl
        have t12 : ((k : Int) == 12) = false := by rw [hk]; rfl
        have t11 : ((k : Int) == 11) = false := by rw [hk]; rfl
        have t5 : ((k : Int) == 5) = false := by rw [hk]; rfl
        have t3 : ((k : Int) == 3) = false := by rw [hk]; rfl
        have t4 : ((k : Int) == 4) = false := by rw [hk]; rfl
        have t15 : ((k : Int) == 15) = false := by rw [hk]; rfl
        clear hk
        have hmv : m = 8 := by rw [HM.out, HKK.out]; rfl
        have hqm := HQM.out
        obtain ⟨X, hX⟩ : ∃ X, X = le (seg L q m) := ⟨_, rfl⟩
        have CL := Lib.hid (low_at (L := L) (q := q) (n := qm - q) (p := 0) (j := m) HRR.out (by omega) (by omega) (by omega) (by omega) (m : Int) rfl)
        rw [Nat.add_zero, ← hX] at CL
        have hXo : X < okSize := by rw [hX]; exact le_pow8 _ _ _ (by omega)
        have HXX := Lib.hid hX
        have HMV := Lib.hid hmv
        clear hmv hqm hX
        go_wp2_with fail
        refine CL.out.mono ?_
        rintro e w2 ⟨rfl, -, hch2⟩
        have HX2 : Hid (BoxV w2 w.heap.size (valCells (k : Nat) 0 0 0 ⟨#[]⟩ ⟨#[]⟩ 0 none 0 0 none 0 0)) := HX1.out.chg hch2 (by have h7 := HRS.out; have h8 := HGF.out; omega)
        have HF2 : Hid (FBx w2 gf 0 0) := HF1.out.block hch2.size (hch2.block gf HF1.out.2.2.2.2.2.2 (by have h7 := HRS.out; have h8 := HGF.out; omega))
        have HB2 : Hid (Below wa.heap.size wa w2) := HB1.out.trans (hch2.below HB1.out.size (fun i hi => by have h7 := HRS.out; have h8 := HWZ.out; have h9 : i = rr := hi; omega))
        clear hch2
        clear f0 f1 f2 f3 f4 f5 f6 f7 f8 l0 z0 z1 z2 q0 q1 q2 hg1
        obtain ⟨f0, f1, f2, f3, f4, f5, f6, f7, f8, l0⟩ := HX2.out.nine
        have p0 := (HX2.out.2 0 (by omega)).2
        have p1 := (HX2.out.2 1 (by omega)).2
        have p2 := (HX2.out.2 2 (by omega)).2
        have p3 := (HX2.out.2 3 (by omega)).2
        have p4 := (HX2.out.2 4 (by omega)).2
        have p5 := (HX2.out.2 5 (by omega)).2
        have p6 := (HX2.out.2 6 (by omega)).2
        have p7 := (HX2.out.2 7 (by omega)).2
        have p8 := (HX2.out.2 8 (by omega)).2
        obtain ⟨z0, z1, z2, q0, q1, q2, hg1⟩ := HF2.out
        have hv3 : BoxV (w2.setCell ⟨w.heap.size, 1, none⟩ (.int .u64 (X : Nat))) w.heap.size (valCells (k : Nat) X 0 0 ⟨#[]⟩ ⟨#[]⟩ 0 none 0 0 none 0 0) := HX2.out.set 1 _ (by simp [valCells]) (by omega)
        have hf3 : FBx (w2.setCell ⟨w.heap.size, 1, none⟩ (.int .u64 (X : Nat))) gf 0 0 := HF2.out.other (fun e => hng2 e) _
        have HV3 := Lib.hid hv3
        have HF3 := Lib.hid hf3
        have hfin : Below w.heap.size w w2 := HBA.out.trans (HB2.out.mono HBA.out.size)
        have HFIN := Lib.hid hfin
        have HQ : Hid (Q L deep (.val k q z win) (.val (.mk (k : Nat) X 0 0 nt nt 0 [] .nil) qm)) := by
          show Q _ _ _ _
          have hk := HKK.out
          have hm := HM.out
          have hqm := HQM.out
          subst hk
          have hl : leafQ L 17 q z = .val (.mk ((17 : Nat) : Int) X 0 0 nt nt 0 [] .nil) qm := by
            have hz2 : ¬ z < q + 8 := by have : m = 8 := HMV.out; omega
            have hmq : qm = q + 8 := by have : m = 8 := HMV.out; omega
            have hx : X = le (seg L q 8) := by rw [HXX.out, HMV.out]
            simp [leafQ, fixN, hz2, hx, hmq]
          rw [← hl]
          exact .val_leaf (by omega) (by omega) (by omega)
        clear hv3 hf3 hfin
        go_wp2_with fail
        go_meet
        case rel => exact vrel_val HQ.out (by have hfin := HFIN.out; (repeat' (first | with_reducible exact hfin | with_reducible refine Below.setCell ?_ (by first | exact Nat.le_refl _ | (rw [HGF.out]; exact Nat.le_succ _)) _))) HV3.out HF3.out (rdTS_leaf _ _ (ownOk_k (by have h7 := HKK.out; omega) hXo okz okz (by decide) (by decide) (Nat.zero_le _)))
    · as_aux_lemma =>
        have HKK := Lib.hid hk
        have t1 : ((k : Int) == 1) = false := by rw [hk]; rfl
        have t9 : ((k : Int) == 9) = false := by rw [hk]; rfl
        have t17 : ((k : Int) == 17) = false := by rw [hk]; rfl
        have t18 : ((k : Int) == 18) = true := by rw [hk]; rfl
        have t16 : ((k : Int) == 16) = false := by rw [hk]; rfl
        have t8 : ((k : Int) == 8) = false := by rw [hk]; rfl
        have t19 : ((k : Int) == 19) = false := by rw [hk]; rfl
        have t7 : ((k : Int) == 7) = false := by rw [hk]; rfl
        have t2 : ((k : Int) == 2) = false := by rw [hk]; rfl
        have t13 : ((k : Int) == 13) = false := by rw [hk]; rfl
        have t14 : ((k : Int) == 14) = false := by rw [hk]; rfl
        have t12 : ((k : Int) == 12) = false := by rw [hk]; rfl
        have t11 : ((k : Int) == 11) = false := by rw [hk]; rfl
        have t5 : ((k : Int) == 5) = false := by rw [hk]; rfl
        have t3 : ((k : Int) == 3) = false := by rw [hk]; rfl
        have t4 : ((k : Int) == 4) = false := by rw [hk]; rfl
        have t15 : ((k : Int) == 15) = false := by rw [hk]; rfl
        clear hk
        have hmv : m = 8 := by rw [HM.out, HKK.out]; rfl
        have hqm := HQM.out
        obtain ⟨X, hX⟩ : ∃ X, X = le (seg L q m) := ⟨_, rfl⟩
        have CL := Lib.hid (low_at (L := L) (q := q) (n := qm - q) (p := 0) (j := m) HRR.out (by omega) (by omega) (by omega) (by omega) (m : Int) rfl)
        rw [Nat.add_zero, ← hX] at CL
        have hXo : X < okSize := by rw [hX]; exact le_pow8 _ _ _ (by omega)
        have HXX := Lib.hid hX
        have HMV := Lib.hid hmv
        clear hmv hqm hX
        go_wp2_with fail
        refine CL.out.mono ?_
        rintro e w2 ⟨rfl, -, hch2⟩
        have HX2 : Hid (BoxV w2 w.heap.size (valCells (k : Nat) 0 0 0 ⟨#[]⟩ ⟨#[]⟩ 0 none 0 0 none 0 0)) := HX1.out.chg hch2 (by have h7 := HRS.out; have h8 := HGF.out; omega)
        have HF2 : Hid (FBx w2 gf 0 0) := HF1.out.block hch2.size (hch2.block gf HF1.out.2.2.2.2.2.2 (by have h7 := HRS.out; have h8 := HGF.out; omega))
        have HB2 : Hid (Below wa.heap.size wa w2) := HB1.out.trans (hch2.below HB1.out.size (fun i hi => by have h7 := HRS.out; have h8 := HWZ.out; have h9 : i = rr := hi; omega))
        clear hch2
        clear f0 f1 f2 f3 f4 f5 f6 f7 f8 l0 z0 z1 z2 q0 q1 q2 hg1
        obtain ⟨f0, f1, f2, f3, f4, f5, f6, f7, f8, l0⟩ := HX2.out.nine
        have p0 := (HX2.out.2 0 (by omega)).2
        have p1 := (HX2.out.2 1 (by omega)).2
        have p2 := (HX2.out.2 2 (by omega)).2
        have p3 := (HX2.out.2 3 (by omega)).2
        have p4 := (HX2.out.2 4 (by omega)).2
        have p5 := (HX2.out.2 5 (by omega)).2
        have p6 := (HX2.out.2 6 (by omega)).2
        have p7 := (HX2.out.2 7 (by omega)).2
        have p8 := (HX2.out.2 8 (by omega)).2
        obtain ⟨z0, z1, z2, q0, q1, q2, hg1⟩ := HF2.out
        have hv3 : BoxV (w2.setCell ⟨w.heap.size, 1, none⟩ (.int .u64 (X : Nat))) w.heap.size (valCells (k : Nat) X 0 0 ⟨#[]⟩ ⟨#[]⟩ 0 none 0 0 none 0 0) := HX2.out.set 1 _ (by simp [valCells]) (by omega)
        have hf3 : FBx (w2.setCell ⟨w.heap.size, 1, none⟩ (.int .u64 (X : Nat))) gf 0 0 := HF2.out.other (fun e => hng2 e) _
        have HV3 := Lib.hid hv3
        have HF3 := Lib.hid hf3
        have hfin : Below w.heap.size w w2 := HBA.out.trans (HB2.out.mono HBA.out.size)
        have HFIN := Lib.hid hfin
        have HQ : Hid (Q L deep (.val k q z win) (.val (.mk (k : Nat) X 0 0 nt nt 0 [] .nil) qm)) := by
          show Q _ _ _ _
          have hk := HKK.out
          have hm := HM.out
          have hqm := HQM.out
          subst hk
          have hl : leafQ L 18 q z = .val (.mk ((18 : Nat) : Int) X 0 0 nt nt 0 [] .nil) qm := by
            have hz2 : ¬ z < q + 8 := by have : m = 8 := HMV.out; omega
            have hmq : qm = q + 8 := by have : m = 8 := HMV.out; omega
            have hx : X = le (seg L q 8) := by rw [HXX.out, HMV.out]
            simp [leafQ, fixN, hz2, hx, hmq]
          rw [← hl]
          exact .val_leaf (by omega) (by omega) (by omega)
        clear hv3 hf3 hfin
        go_wp2_with fail
        go_meet
        case rel => exact vrel_val HQ.out (by have hfin := HFIN.out; (repeat' (first | with_reducible exact hfin | with_reducible refine Below.setCell ?_ (by first | exact Nat.le_refl _ | (rw [HGF.out]; exact Nat.le_succ _)) _))) HV3.out HF3.out (rdTS_leaf _ _ (ownOk_k (by have h7 := HKK.out; omega) hXo okz okz (by decide) (by decide) (Nat.zero_le _)))
    · as_aux_lemma =>
        have HKK := Lib.hid hk
        have t1 : ((k : Int) == 1) = false := by rw [hk]; rfl
        have t9 : ((k : Int) == 9) = false := by rw [hk]; rfl
        have t17 : ((k : Int) == 17) = false := by rw [hk]; rfl
        have t18 : ((k : Int) == 18) = false := by rw [hk]; rfl
        have t16 : ((k : Int) == 16) = false := by rw [hk]; rfl
        have t8 : ((k : Int) == 8) = false := by rw [hk]; rfl
        have t19 : ((k : Int) == 19) = true := by rw [hk]; rfl
        have t7 : ((k : Int) == 7) = false := by rw [hk]; rfl
        have t2 : ((k : Int) == 2) = false := by rw [hk]; rfl
        have t13 : ((k : Int) == 13) = false := by rw [hk]; rfl
        have t14 : ((k : Int) == 14) = false := by rw [hk]; rfl
        have t12 : ((k : Int) == 12) = false := by rw [hk]; rfl
        have t11 : ((k : Int) == 11) = false := by rw [hk]; rfl
        have t5 : ((k : Int) == 5) = false := by rw [hk]; rfl
        have t3 : ((k : Int) == 3) = false := by rw [hk]; rfl
        have t4 : ((k : Int) == 4) = false := by rw [hk]; rfl
        have t15 : ((k : Int) == 15) = false := by rw [hk]; rfl
        clear hk
        have hmv : m = 16 := by rw [HM.out, HKK.out]; rfl
        have hqm := HQM.out
        obtain ⟨X, hX⟩ : ∃ X, X = le (seg L q 8) := ⟨_, rfl⟩
        obtain ⟨Y, hY⟩ : ∃ Y, Y = le (seg L (q + 8) 8) := ⟨_, rfl⟩
        have CL := Lib.hid (low_at (L := L) (q := q) (n := qm - q) (p := 0) (j := 8) HRR.out (by omega) (by omega) (by omega) (by omega) 8 rfl)
        rw [Nat.add_zero, ← hX] at CL
        have CM := Lib.hid (fun W (h : Rdr W rr (seg L q (qm - q)) 8) => low_at (L := L) (q := q) (n := qm - q) (p := 8) (j := 8) h (by omega) (by omega) (by omega) (by omega) 8 rfl)
        rw [← hY] at CM
        have hXo : X < okSize := by rw [hX]; exact le_pow8 _ _ _ (by omega)
        have hYo : Y < okSize := by rw [hY]; exact le_pow8 _ _ _ (by omega)
        have HXX := Lib.hid hX
        have HYY := Lib.hid hY
        have HMV := Lib.hid hmv
        clear hmv hqm hX hY
        go_wp2_with fail
        refine CL.out.mono ?_
        rintro e w2 ⟨rfl, hrr2, hch2⟩
        have HX2 : Hid (BoxV w2 w.heap.size (valCells (k : Nat) 0 0 0 ⟨#[]⟩ ⟨#[]⟩ 0 none 0 0 none 0 0)) := HX1.out.chg hch2 (by have h7 := HRS.out; have h8 := HGF.out; omega)
        have HF2 : Hid (FBx w2 gf 0 0) := HF1.out.block hch2.size (hch2.block gf HF1.out.2.2.2.2.2.2 (by have h7 := HRS.out; have h8 := HGF.out; omega))
        have HB2 : Hid (Below wa.heap.size wa w2) := HB1.out.trans (hch2.below HB1.out.size (fun i hi => by have h7 := HRS.out; have h8 := HWZ.out; have h9 : i = rr := hi; omega))
        rw [Nat.zero_add] at hrr2
        have HRR2 := Lib.hid hrr2
        clear hch2 hrr2
        clear f0 f1 f2 f3 f4 f5 f6 f7 f8 l0 z0 z1 z2 q0 q1 q2 hg1
        obtain ⟨f0, f1, f2, f3, f4, f5, f6, f7, f8, l0⟩ := HX2.out.nine
        have p0 := (HX2.out.2 0 (by omega)).2
        have p1 := (HX2.out.2 1 (by omega)).2
        have p2 := (HX2.out.2 2 (by omega)).2
        have p3 := (HX2.out.2 3 (by omega)).2
        have p4 := (HX2.out.2 4 (by omega)).2
        have p5 := (HX2.out.2 5 (by omega)).2
        have p6 := (HX2.out.2 6 (by omega)).2
        have p7 := (HX2.out.2 7 (by omega)).2
        have p8 := (HX2.out.2 8 (by omega)).2
        obtain ⟨z0, z1, z2, q0, q1, q2, hg1⟩ := HF2.out
        have hv3 : BoxV (w2.setCell ⟨w.heap.size, 3, none⟩ (.int .u64 (X : Nat))) w.heap.size (valCells (k : Nat) 0 0 X ⟨#[]⟩ ⟨#[]⟩ 0 none 0 0 none 0 0) := HX2.out.set 3 _ (by simp [valCells]) (by omega)
        have hf3 : FBx (w2.setCell ⟨w.heap.size, 3, none⟩ (.int .u64 (X : Nat))) gf 0 0 := HF2.out.other (fun e => hng2 e) _
        have hrr3 : Rdr (w2.setCell ⟨w.heap.size, 3, none⟩ (.int .u64 (X : Nat))) rr (seg L q (qm - q)) 8 := rdr_other HRR2.out (by show w.heap.size ≠ rr; have h7 := HRS.out; have h8 := HGF.out; omega) f3 (fun x => by simp) _
        have hfin : Below w.heap.size w w2 := HBA.out.trans (HB2.out.mono HBA.out.size)
        have hfin3 : Below w.heap.size w (w2.setCell ⟨w.heap.size, 3, none⟩ (.int .u64 (X : Nat))) := hfin.setCell (Nat.le_refl _) _
        obtain ⟨w3, hw3⟩ : ∃ W, W = w2.setCell ⟨w.heap.size, 3, none⟩ (.int .u64 (X : Nat)) := ⟨_, rfl⟩
        rw [← hw3] at hv3 hf3 hrr3 hfin3
        have HX3 := Lib.hid hv3
        have HF3 := Lib.hid hf3
        have HRR3 := Lib.hid hrr3
        have HFIN3 := Lib.hid hfin3
        clear hv3 hf3 hrr3 hfin3 hfin
        go_upto_region 19 with fail
        rw [← hw3]
        clear hw3
        clear f0 f1 f2 f3 f4 f5 f6 f7 f8 l0 z0 z1 z2 q0 q1 q2 hg1
        clear p0 p1 p2 p3 p4 p5 p6 p7 p8
        obtain ⟨f0, f1, f2, f3, f4, f5, f6, f7, f8, l0⟩ := HX3.out.nine
        have p0 := (HX3.out.2 0 (by omega)).2
        have p1 := (HX3.out.2 1 (by omega)).2
        have p2 := (HX3.out.2 2 (by omega)).2
        have p3 := (HX3.out.2 3 (by omega)).2
        have p4 := (HX3.out.2 4 (by omega)).2
        have p5 := (HX3.out.2 5 (by omega)).2
        have p6 := (HX3.out.2 6 (by omega)).2
        have p7 := (HX3.out.2 7 (by omega)).2
        have p8 := (HX3.out.2 8 (by omega)).2
        obtain ⟨z0, z1, z2, q0, q1, q2, hg1⟩ := HF3.out
        go_wp2_with fail
        refine (CM.out _ HRR3.out).mono ?_
        rintro e w4 ⟨rfl, -, hch4⟩
        have HX4 : Hid (BoxV w4 w.heap.size (valCells (k : Nat) 0 0 X ⟨#[]⟩ ⟨#[]⟩ 0 none 0 0 none 0 0)) := HX3.out.chg hch4 (by have h7 := HRS.out; have h8 := HGF.out; omega)
        have HF4 : Hid (FBx w4 gf 0 0) := HF3.out.block hch4.size (hch4.block gf HF3.out.2.2.2.2.2.2 (by have h7 := HRS.out; have h8 := HGF.out; omega))
        have hfin : Below w.heap.size w w4 := HFIN3.out.trans (hch4.below HFIN3.out.size (fun i hi => by have h7 := HRS.out; have h8 := HGF.out; have h9 : i = rr := hi; omega))
        have HFIN := Lib.hid hfin
        clear hch4 hfin
        clear f0 f1 f2 f3 f4 f5 f6 f7 f8 l0 z0 z1 z2 q0 q1 q2 hg1
        clear p0 p1 p2 p3 p4 p5 p6 p7 p8
        obtain ⟨f0, f1, f2, f3, f4, f5, f6, f7, f8, l0⟩ := HX4.out.nine
        have p0 := (HX4.out.2 0 (by omega)).2
        have p1 := (HX4.out.2 1 (by omega)).2
        have p2 := (HX4.out.2 2 (by omega)).2
        have p3 := (HX4.out.2 3 (by omega)).2
        have p4 := (HX4.out.2 4 (by omega)).2
        have p5 := (HX4.out.2 5 (by omega)).2
        have p6 := (HX4.out.2 6 (by omega)).2
        have p7 := (HX4.out.2 7 (by omega)).2
        have p8 := (HX4.out.2 8 (by omega)).2
        obtain ⟨z0, z1, z2, q0, q1, q2, hg1⟩ := HF4.out
        have hv5 : BoxV (w4.setCell ⟨w.heap.size, 2, none⟩ (.int .u64 (Y : Nat))) w.heap.size (valCells (k : Nat) 0 Y X ⟨#[]⟩ ⟨#[]⟩ 0 none 0 0 none 0 0) := HX4.out.set 2 _ (by simp [valCells]) (by omega)
        have hf5 : FBx (w4.setCell ⟨w.heap.size, 2, none⟩ (.int .u64 (Y : Nat))) gf 0 0 := HF4.out.other (fun e => hng2 e) _
        have HV5 := Lib.hid hv5
        have HF5 := Lib.hid hf5
        clear hv5 hf5
        have HQ : Hid (Q L deep (.val k q z win) (.val (.mk (k : Nat) 0 Y X nt nt 0 [] .nil) qm)) := by
          show Q _ _ _ _
          have hk := HKK.out
          have hm := HM.out
          have hqm := HQM.out
          subst hk
          have hl : leafQ L 19 q z = .val (.mk ((19 : Nat) : Int) 0 Y X nt nt 0 [] .nil) qm := by
            have hz2 : ¬ z < q + 16 := by have : m = 16 := HMV.out; omega
            have hmq : qm = q + 16 := by have : m = 16 := HMV.out; omega
            have hx : X = le (seg L q 8) := HXX.out
            have hy : Y = le (seg L (q + 8) 8) := HYY.out
            simp [leafQ, fixN, hz2, hx, hy, hmq]
          rw [← hl]
          exact .val_leaf (by omega) (by omega) (by omega)
        go_wp2_with fail
        go_meet
        case rel => exact vrel_val HQ.out (by have hfin := HFIN.out; (repeat' (first | with_reducible exact hfin | with_reducible refine Below.setCell ?_ (by first | exact Nat.le_refl _ | (rw [HGF.out]; exact Nat.le_succ _)) _))) HV5.out HF5.out (rdTS_leaf _ _ (ownOk_k (by have h7 := HKK.out; omega) okz hYo hXo (by decide) (by decide) (Nat.zero_le _)))
    · as_aux_lemma =>
        have HKK := Lib.hid hk
        have t1 : ((k : Int) == 1) = false := by rw [hk]; rfl
        have t9 : ((k : Int) == 9) = false := by rw [hk]; rfl
        have t17 : ((k : Int) == 17) = false := by rw [hk]; rfl
        have t18 : ((k : Int) == 18) = false := by rw [hk]; rfl
        have t16 : ((k : Int) == 16) = false := by rw [hk]; rfl
        have t8 : ((k : Int) == 8) = false := by rw [hk]; rfl
        have t19 : ((k : Int) == 19) = false := by rw [hk]; rfl
        have t7 : ((k : Int) == 7) = false := by rw [hk]; rfl
        have t2 : ((k : Int) == 2) = false := by rw [hk]; rfl
        have t13 : ((k : Int) == 13) = false := by rw [hk]; rfl
        have t14 : ((k : Int) == 14) = false := by rw [hk]; rfl
        have t12 : ((k : Int) == 12) = false := by rw [hk]; rfl
        have t11 : ((k : Int) == 11) = false := by rw [hk]; rfl
        have t5 : ((k : Int) == 5) = false := by rw [hk]; rfl
        have t3 : ((k : Int) == 3) = false := by rw [hk]; rfl
        have t4 : ((k : Int) == 4) = false := by rw [hk]; rfl
        have t15 : ((k : Int) == 15) = false := by rw [hk]; rfl
        clear hk
        have hqm := HQM.out
        have hmv : m = 0 := by rw [HM.out, HKK.out]; rfl
        have HMV := Lib.hid hmv
        have HQ : Hid (Q L deep (.val k q z win) (.val (.mk (k : Nat) 0 0 0 nt nt 0 [] .nil) qm)) := by
          show Q _ _ _ _
          have hk := HKK.out
          have hm := HM.out
          have hqm := HQM.out
          subst hk
          have hl : leafQ L 127 q z = .val (.mk ((127 : Nat) : Int) 0 0 0 nt nt 0 [] .nil) qm := by
            have hz2 : ¬ z < q := by omega
            have hmq : qm = q := by have : m = 0 := HMV.out; omega
            simp [leafQ, fixN, hz2, hmq]
          rw [← hl]
          exact .val_leaf (by omega) (by omega) (by omega)
        clear hqm hmv
        have hfin : Below w.heap.size w w1 := HBA.out.trans (HB1.out.mono HBA.out.size)
        have HFIN := Lib.hid hfin
        clear hfin
        go_wp2_with fail
        go_meet
        case rel => exact vrel_val HQ.out HFIN.out HX1.out HF1.out (rdTS_leaf _ _ (ownOk_k (by have h7 := HKK.out; omega) okz okz okz (by decide) (by decide) (Nat.zero_le _)))
    · as_aux_lemma =>
        have HKK := Lib.hid hk
        have t1 : ((k : Int) == 1) = false := by rw [hk]; rfl
        have t9 : ((k : Int) == 9) = false := by rw [hk]; rfl
        have t17 : ((k : Int) == 17) = false := by rw [hk]; rfl
        have t18 : ((k : Int) == 18) = false := by rw [hk]; rfl
        have t16 : ((k : Int) == 16) = false := by rw [hk]; rfl
        have t8 : ((k : Int) == 8) = false := by rw [hk]; rfl
        have t19 : ((k : Int) == 19) = false := by rw [hk]; rfl
        have t7 : ((k : Int) == 7) = false := by rw [hk]; rfl
        have t2 : ((k : Int) == 2) = false := by rw [hk]; rfl
        have t13 : ((k : Int) == 13) = false := by rw [hk]; rfl
        have t14 : ((k : Int) == 14) = false := by rw [hk]; rfl
        have t12 : ((k : Int) == 12) = false := by rw [hk]; rfl
        have t11 : ((k : Int) == 11) = false := by rw [hk]; rfl
        have t5 : ((k : Int) == 5) = false := by rw [hk]; rfl
        have t3 : ((k : Int) == 3) = false := by rw [hk]; rfl
        have t4 : ((k : Int) == 4) = false := by rw [hk]; rfl
        have t15 : ((k : Int) == 15) = false := by rw [hk]; rfl
        clear hk
        have hqm := HQM.out
        have hmv : m = 0 := by rw [HM.out, HKK.out]; rfl
        have HMV := Lib.hid hmv
        have HQ : Hid (Q L deep (.val k q z win) (.val (.mk (k : Nat) 0 0 0 nt nt 0 [] .nil) qm)) := by
          show Q _ _ _ _
          have hk := HKK.out
          have hm := HM.out
          have hqm := HQM.out
          subst hk
          have hl : leafQ L 255 q z = .val (.mk ((255 : Nat) : Int) 0 0 0 nt nt 0 [] .nil) qm := by
            have hz2 : ¬ z < q := by omega
            have hmq : qm = q := by have : m = 0 := HMV.out; omega
            simp [leafQ, fixN, hz2, hmq]
          rw [← hl]
          exact .val_leaf (by omega) (by omega) (by omega)
        clear hqm hmv
        have hfin : Below w.heap.size w w1 := HBA.out.trans (HB1.out.mono HBA.out.size)
        have HFIN := Lib.hid hfin
        clear hfin
        go_wp2_with fail
        go_meet
        case rel => exact vrel_val HQ.out HFIN.out HX1.out HF1.out (rdTS_leaf _ _ (ownOk_k (by have h7 := HKK.out; omega) okz okz okz (by decide) (by decide) (Nat.zero_le _)))
  clear f0 f1 f2 f3 f4 f5 f6 f7 f8 l0 z0 z1 z2 q0 q1 q2 hg1 r0 r1
  obtain ⟨r, hQ, hbw, hr⟩ := hcut
  have HQR := Lib.hid hQ
  have HBW := Lib.hid hbw
  clear hQ hbw
  cases r with
  | kids f e => exact hr.elim
  | val t nx =>
    obtain ⟨rfl, cs, hv, hf, ht⟩ := hr
    have HTS := Lib.hid ht
    obtain ⟨k2, bits, hi, lo, text, more, sub, ab, nb, cb, ak, nk, ck, rfl⟩ := ht.rd.shape
    obtain ⟨f0, f1, f2, f3, f4, f5, f6, f7, f8, l0⟩ := hv.nine
    have p0 := (hv.2 0 (by omega)).2
    have p1 := (hv.2 1 (by omega)).2
    have p2 := (hv.2 2 (by omega)).2
    have p3 := (hv.2 3 (by omega)).2
    have p4 := (hv.2 4 (by omega)).2
    have p5 := (hv.2 5 (by omega)).2
    have p6 := (hv.2 6 (by omega)).2
    have p7 := (hv.2 7 (by omega)).2
    have p8 := (hv.2 8 (by omega)).2
    obtain ⟨z0, z1, z2, q0, q1, q2, hg1⟩ := hf
    clear ht hv
    go_wp2_with fail
    refine bodyPost_ret (v := .tuple #[.agg (valCells k2 bits hi lo text more sub ab nb cb ak nk ck), .int .i64 (nx : Nat), fltV 0 0]) (by simp [results, Try.results53, go_sem, *]) rfl ?_
    have key : ∀ W', Chg (fun j => j = gf ∨ j = w.heap.size) wc W' → ValOut (.val t nx) w (.returned (.tuple #[.agg (valCells k2 bits hi lo text more sub ab nb cb ak nk ck), .int .i64 (nx : Nat), fltV 0 0])) W' := fun W' hW => by
      refine ⟨⟨_, rfl, ((HTS.out.keep (KeepS.chg hW ?_)).imp ?_)⟩, HBW.out.trans (hW.below HBW.out.size ?_)⟩
      · intro j hj x
        have h1 : gf < j := hj
        have h2 := HGF.out
        rcases x with x | x <;> omega
      · intro j _ hj
        have h1 : gf < j := hj
        have h2 := HGF.out
        show w.heap.size ≤ j
        omega
      · intro j x
        have h2 := HGF.out
        rcases x with x | x <;> omega
    exact ⟨_, HQR.out, key _ (by (repeat' (first | with_reducible exact Chg.refl _ _ | with_reducible refine Chg.setCell ?_ (fun _ => by first | exact Or.inl rfl | exact Or.inr rfl) _)))⟩
  | bad er a =>
    obtain ⟨her, hf, t, cs, hv, ht⟩ := hr
    obtain ⟨k2, bits, hi, lo, text, more, sub, ab, nb, cb, ak, nk, ck, rfl⟩ := ht.shape
    have hne : ((er : Int) != 0) = true := by simpa using her
    have hv2 := hv
    have hf2 := hf
    obtain ⟨f0, f1, f2, f3, f4, f5, f6, f7, f8, l0⟩ := hv.nine
    have p0 := (hv.2 0 (by omega)).2
    have p1 := (hv.2 1 (by omega)).2
    have p2 := (hv.2 2 (by omega)).2
    have p3 := (hv.2 3 (by omega)).2
    have p4 := (hv.2 4 (by omega)).2
    have p5 := (hv.2 5 (by omega)).2
    have p6 := (hv.2 6 (by omega)).2
    have p7 := (hv.2 7 (by omega)).2
    have p8 := (hv.2 8 (by omega)).2
    obtain ⟨z0, z1, z2, q0, q1, q2, hg1⟩ := hf
    clear ht hv her
    go_upto_region 44 with fail
    go_region
    all_goals
      go_wp2_with fail
      refine bodyPost_ret (v := .tuple #[.agg zCellsV, .int .i64 0, fltV er a]) (by simp [results, Try.results53, go_sem, *]) rfl ?_
      refine ⟨_, HQR.out, rfl, ?_⟩
      (repeat' (first | with_reducible exact HBW.out | with_reducible refine Below.drew ?_ | with_reducible refine Below.setCell ?_ (by first | exact Nat.le_refl _ | (rw [HGF.out]; exact Nat.le_succ _)) _))

end Go.Proofs.Ytkcfkdmffbhljaa
