/- The reference's Decode. -/
import Derived.Test.YtkcfkdmffbhljaaRbF
import Derived.Test.YtkcfkdmffbhljaaBiK
namespace Go.Proofs.Ytkcfkdmffbhljaa
open Go.RowKit
set_option linter.unusedVariables false
set_option linter.unusedSimpArgs false

/-- A reader of the reference, as it was made, its bytes wherever they are. -/
def RB0 (W : World) (rb : Nat) (ab : Option Addr) (n c dn er a : Nat) : Prop :=
  W.cell? ⟨rb, 0, none⟩ = some (.slice ab n c) ∧ W.cell? ⟨rb, 1, none⟩ = some (.int .i64 (dn : Nat)) ∧ W.cell? ⟨rb, 4, none⟩ = some (.int .i64 (er : Nat)) ∧ W.cell? ⟨rb, 5, none⟩ = some (.int .i64 (a : Nat)) ∧ W.cell? ⟨rb, 6, none⟩ = some (.slice none 0 0) ∧ W.frozen? ⟨rb, 4, none⟩ = false ∧ W.frozen? ⟨rb, 5, none⟩ = false ∧ W.frozen? ⟨rb, 6, none⟩ = false ∧ rb < W.heap.size
/-- What doc answers Decode. -/
def RD2 (rb : Nat) (ab : Option Addr) (n c dn : Nat) (x : Ans) (w : World) (e : Ending) (w' : World) : Prop :=
  match x with
  | .kids f nx => (∃ a cp, e = .returned (.tuple #[.slice a f.len cp, .int .i64 (nx : Nat)]) ∧ RdKsS (fun k => w.heap.size ≤ k) w' a 0 f ∧ Roomy a f.len cp ∧ f.len ≤ 9223372036854775807) ∧ Below w.heap.size w w'
  | .bad er a => (∃ (a' : Option Addr) (n' c' nx : Nat), e = .returned (.tuple #[.slice a' n' c', .int .i64 (nx : Nat)])) ∧ RB0 w' rb ab n c dn er a ∧ Chg (fun j => j = rb) w w'
  | .val _ _ => False
theorem RD2.chg {rb : Nat} {ab : Option Addr} {n c dn : Nat} {x : Ans} {w : World} {e : Ending} {w' : World} (h : RD2 rb ab n c dn x w e w') : Chg (fun j => j = rb) w w' := by
  cases x with
  | kids f nx => exact Chg.of_below h.2
  | bad er a => exact h.2.2
  | val t nx => exact h.elim

set_option maxRecDepth 100000 in
set_option maxHeartbeats 4000000 in
theorem rdoc_nil (ab : Option Addr) (rb dn c : Nat) (w : World) (h : RB0 w rb ab 0 c dn 0 0) (hd : 1 ≤ dn) :
    Calls Try.prog 39 #[.pointer (some ⟨rb, 0, none⟩), .int .i64 ((0 : Nat) : Int), .int .i64 ((0 : Nat) : Int), .int .i64 ((0 : Nat) : Int), .bool false] w fun e w' => ∃ r, Q [] dn (.doc 0 0 0 1) r ∧ RD2 rb ab 0 c dn r w e w' := by
  have HX : Hid (Q [] dn (.doc 0 0 0 1) (.bad 2 0)) := .doc_bad (by unfold docH; rw [if_neg (by omega), if_pos (by omega)])
  have HE : Hid (RB0 (((w.setCell ⟨rb, 4, none⟩ (.int .i64 2)).setCell ⟨rb, 5, none⟩ (.int .i64 0)).setCell ⟨rb, 6, none⟩ (.slice none 0 0)) rb ab 0 c dn 2 0) := by
    obtain ⟨c0, c1, c4, c5, c6, f4, f5, f6, hlt⟩ := h
    refine ⟨?_, ?_, ?_, ?_, ?_, ?_, ?_, ?_, ?_⟩ <;> simp [go_sem, *]
  have HC : Hid (Chg (fun j => j = rb) w (((w.setCell ⟨rb, 4, none⟩ (.int .i64 2)).setCell ⟨rb, 5, none⟩ (.int .i64 0)).setCell ⟨rb, 6, none⟩ (.slice none 0 0))) := by
    have hX : (fun j : Nat => j = rb) rb := rfl
    exact (((Chg.refl (fun j => j = rb) w).setCell (p := ⟨rb, 4, none⟩) (fun _ => hX) _).setCell (p := ⟨rb, 5, none⟩) (fun _ => hX) _).setCell (p := ⟨rb, 6, none⟩) (fun _ => hX) _
  have CB : Hid (Calls Try.prog 54 #[.pointer (some ⟨rb, 0, none⟩), .int .i64 2, .int .i64 0] w fun r w' => r = .returned (.tuple #[]) ∧ (((w.setCell ⟨rb, 4, none⟩ (.int .i64 2)).setCell ⟨rb, 5, none⟩ (.int .i64 0)).setCell ⟨rb, 6, none⟩ (.slice none 0 0)) = w') := by
    show Calls _ _ _ _ _
    obtain ⟨c0, c1, c4, c5, c6, f4, f5, f6, hlt⟩ := h
    clear HE HC c0 c1
    go_enter Try.func54, Try.ntmps54
    go_wp2_with fail
    go_end0
    exact ⟨rfl, rfl⟩
  obtain ⟨c0, c1, c4, c5, c6, f4, f5, f6, hlt⟩ := h
  have d1 : decide ((dn : Int) ≤ 0) = false := by simp; omega
  have d2 : decide (dn ≤ 0) = false := by simp; omega
  have d3 : ¬ dn = 0 := by omega
  clear hd
  go_enter Try.func39, Try.ntmps39
  go_wp2_with fail
  refine CB.out.mono ?_
  rintro e w2 ⟨rfl, rfl⟩
  go_wp2_with fail
  refine bodyPost_ret (v := .tuple #[.slice none 0 0, .int .i64 0]) (by simp [results, Try.results39, go_sem, *]) rfl ?_
  exact ⟨_, HX.out, ⟨none, 0, 0, 0, rfl⟩, HE.out, HC.out⟩

set_option maxRecDepth 100000 in
set_option maxHeartbeats 4000000 in
theorem rdec_small (ab : Option Addr) (n c : Nat) (d s o : Int) (L : List UInt8) (w : World) (hL : L.length = n) (h : mayS d s o = false ∨ s < (n : Int)) :
    Calls Try.prog 25 #[.slice ab n c, .agg (limCells d s o)] w (DecOut d s o L w) := by
  have CM := Lib.hid (fun W => rmay_calls d s o W)
  obtain ⟨wa, hwa⟩ : ∃ W, W = ((w.alloc (.cells #[.int .i64 d, .int .i64 s, .int .i64 o] 28)).alloc (.cells #[.int .i64 0, .int .u64 0, .int .u64 0, .int .u64 0, .string ⟨#[]⟩, .string ⟨#[]⟩, .int .i64 0, .slice none 0 0, .slice none 0 0] 26)).alloc (.cells #[.int .i64 0, .int .i64 0, .slice none 0 0] 34) := ⟨_, rfl⟩
  have hba : Below w.heap.size w wa := by
    rw [hwa]
    have h1 : Below w.heap.size w (w.alloc (.cells #[.int .i64 d, .int .i64 s, .int .i64 o] 28)) := (Below.refl _ _).alloc (Nat.le_refl _) _
    have h2 := h1.alloc h1.size (.cells #[.int .i64 0, .int .u64 0, .int .u64 0, .int .u64 0, .string ⟨#[]⟩, .string ⟨#[]⟩, .int .i64 0, .slice none 0 0, .slice none 0 0] 26)
    exact h2.alloc h2.size _
  have hfa : FBx wa (w.heap.size + 1 + 1) 0 0 := by
    rw [hwa]
    refine ⟨?_, ?_, ?_, ?_, ?_, ?_, ?_⟩ <;> simp [go_sem]
  have hxa : BoxV wa (w.heap.size + 1) zCellsV := by
    rw [hwa]
    have h1 : (w.alloc (.cells #[.int .i64 d, .int .i64 s, .int .i64 o] 28)).heap.size = w.heap.size + 1 := by simp
    rw [← h1]
    exact (BoxV.new _ _ _).keep ((Below.refl _ _).alloc (Nat.le_refl _) _)
  have hla : wa.cell? ⟨w.heap.size, 0, none⟩ = some (.int .i64 d) ∧ wa.cell? ⟨w.heap.size, 1, none⟩ = some (.int .i64 s) ∧ wa.cell? ⟨w.heap.size, 2, none⟩ = some (.int .i64 o) := by rw [hwa]; simp [go_sem]
  have HBA := Lib.hid hba
  have HFA := Lib.hid hfa
  have HXA := Lib.hid hxa
  have HLA := Lib.hid hla
  clear hba hfa hxa hla
  have fin : ∀ (e0 : Nat) (W W' : World), Below w.heap.size w W → Chg (fun j => j = w.heap.size + 1 ∨ j = w.heap.size + 1 + 1) W W' → Below w.heap.size w W' := fun e0 W W' h hc => h.trans (hc.below h.size (fun j e => by rcases e with e | e <;> omega))
  have FIN := Lib.hid fin
  clear fin
  cases hm : mayS d s o with
  | false =>
    rw [hm] at CM
    have HM := Lib.hid hm
    clear hm h
    go_enter Try.func25, Try.ntmps25
    go_upto_region 1 with fail
    rw [← hwa]
    clear hwa
    obtain ⟨y0, y1, y2⟩ := HLA.out
    go_wp2_with fail
    refine (CM.out _).mono ?_
    rintro e w1 ⟨rfl, hb1⟩
    have HB1 : Hid (Below w.heap.size w w1) := HBA.out.trans (hb1.mono HBA.out.size)
    obtain ⟨f0, f1, f2, f3, f4, f5, f6, f7, f8, l0⟩ := (HXA.out.keep hb1).nine
    obtain ⟨z0, z1, z2, q0, q1, q2, hg1⟩ := HFA.out.keep hb1
    have hv1 := HXA.out.keep hb1
    have p0 := (hv1.2 0 (by omega)).2
    have p1 := (hv1.2 1 (by omega)).2
    have p2 := (hv1.2 2 (by omega)).2
    have p3 := (hv1.2 3 (by omega)).2
    have p4 := (hv1.2 4 (by omega)).2
    have p5 := (hv1.2 5 (by omega)).2
    have p6 := (hv1.2 6 (by omega)).2
    have p7 := (hv1.2 7 (by omega)).2
    have p8 := (hv1.2 8 (by omega)).2
    clear hv1 hb1
    go_wp2_with fail
    refine bodyPost_ret (v := .tuple #[.agg zCellsV, fltV 1 0]) (by simp [results, Try.results25, go_sem, *]) rfl ?_
    refine ⟨by rw [if_pos HM.out], FIN.out 0 w1 _ HB1.out ?_⟩
    (repeat' (first | with_reducible exact Chg.refl _ _ | with_reducible refine Chg.setCell ?_ (fun _ => by first | exact Or.inl rfl | exact Or.inr rfl) _))
  | true =>
    rw [hm] at CM
    have HM := Lib.hid hm
    have hsn : s < (n : Int) := by
      rcases h with h | h
      · rw [h] at hm; simp at hm
      · exact h
    have ds : decide (s < (n : Int)) = true := by simpa using hsn
    clear hm h
    go_enter Try.func25, Try.ntmps25
    go_upto_region 1 with fail
    rw [← hwa]
    clear hwa
    obtain ⟨y0, y1, y2⟩ := HLA.out
    go_wp2_with fail
    refine (CM.out _).mono ?_
    rintro e w1 ⟨rfl, hb1⟩
    have HB1 : Hid (Below w.heap.size w w1) := HBA.out.trans (hb1.mono HBA.out.size)
    have y0 := cell_below hb1 HLA.out.1
    have y1 := cell_below hb1 HLA.out.2.1
    have y2 := cell_below hb1 HLA.out.2.2
    obtain ⟨f0, f1, f2, f3, f4, f5, f6, f7, f8, l0⟩ := (HXA.out.keep hb1).nine
    obtain ⟨z0, z1, z2, q0, q1, q2, hg1⟩ := HFA.out.keep hb1
    have hv1 := HXA.out.keep hb1
    have p0 := (hv1.2 0 (by omega)).2
    have p1 := (hv1.2 1 (by omega)).2
    have p2 := (hv1.2 2 (by omega)).2
    have p3 := (hv1.2 3 (by omega)).2
    have p4 := (hv1.2 4 (by omega)).2
    have p5 := (hv1.2 5 (by omega)).2
    have p6 := (hv1.2 6 (by omega)).2
    have p7 := (hv1.2 7 (by omega)).2
    have p8 := (hv1.2 8 (by omega)).2
    clear hv1 hb1
    go_wp2_with fail
    refine bodyPost_ret (v := .tuple #[.agg zCellsV, fltV 9 0]) (by simp [results, Try.results25, go_sem, *]) rfl ?_
    refine ⟨by rw [if_neg (by rw [HM.out]; simp), if_pos (by rw [hL]; exact hsn)], FIN.out 0 w1 _ HB1.out ?_⟩
    (repeat' (first | with_reducible exact Chg.refl _ _ | with_reducible refine Chg.setCell ?_ (fun _ => by first | exact Or.inl rfl | exact Or.inr rfl) _))


set_option maxRecDepth 100000 in
set_option maxHeartbeats 8000000 in
theorem rdec_main (ab : Option Addr) (n c dn : Nat) (s o : Int) (L : List UInt8) (w : World) (hL : L.length = n) (hn : n ≤ 1000000) (hm : mayS dn s o = true) (hs : (n : Int) ≤ s)
    (hC : ∀ (W : World) (rb : Nat), Below w.heap.size w W → w.heap.size ≤ rb → RB0 W rb ab n c dn 0 0 →
      Calls Try.prog 39 #[.pointer (some ⟨rb, 0, none⟩), .int .i64 ((0 : Nat) : Int), .int .i64 (n : Nat), .int .i64 ((0 : Nat) : Int), .bool false] W fun e w' => ∃ r, Q L dn (.doc 0 n 0 1) r ∧ RD2 rb ab n c dn r W e w') :
    Calls Try.prog 25 #[.slice ab n c, .agg (limCells (dn : Nat) s o)] w (DecOut (dn : Nat) s o L w) := by
  have HC := Lib.hid hC
  clear hC
  have CM := Lib.hid (fun W => rmay_calls (dn : Int) s o W)
  obtain ⟨wa, hwa⟩ : ∃ W, W = ((w.alloc (.cells #[.int .i64 (dn : Nat), .int .i64 s, .int .i64 o] 28)).alloc (.cells #[.int .i64 0, .int .u64 0, .int .u64 0, .int .u64 0, .string ⟨#[]⟩, .string ⟨#[]⟩, .int .i64 0, .slice none 0 0, .slice none 0 0] 26)).alloc (.cells #[.int .i64 0, .int .i64 0, .slice none 0 0] 34) := ⟨_, rfl⟩
  have hba : Below w.heap.size w wa := by
    rw [hwa]
    have h1 : Below w.heap.size w (w.alloc (.cells #[.int .i64 (dn : Nat), .int .i64 s, .int .i64 o] 28)) := (Below.refl _ _).alloc (Nat.le_refl _) _
    have h2 := h1.alloc h1.size (.cells #[.int .i64 0, .int .u64 0, .int .u64 0, .int .u64 0, .string ⟨#[]⟩, .string ⟨#[]⟩, .int .i64 0, .slice none 0 0, .slice none 0 0] 26)
    exact h2.alloc h2.size _
  have hfa : FBx wa (w.heap.size + 1 + 1) 0 0 := by
    rw [hwa]
    refine ⟨?_, ?_, ?_, ?_, ?_, ?_, ?_⟩ <;> simp [go_sem]
  have hxa : BoxV wa (w.heap.size + 1) zCellsV := by
    rw [hwa]
    have h1 : (w.alloc (.cells #[.int .i64 (dn : Nat), .int .i64 s, .int .i64 o] 28)).heap.size = w.heap.size + 1 := by simp
    rw [← h1]
    exact (BoxV.new _ _ _).keep ((Below.refl _ _).alloc (Nat.le_refl _) _)
  have hla : wa.cell? ⟨w.heap.size, 0, none⟩ = some (.int .i64 (dn : Nat)) ∧ wa.cell? ⟨w.heap.size, 1, none⟩ = some (.int .i64 s) ∧ wa.cell? ⟨w.heap.size, 2, none⟩ = some (.int .i64 o) := by rw [hwa]; simp [go_sem]
  have HBA := Lib.hid hba
  have HFA := Lib.hid hfa
  have HXA := Lib.hid hxa
  have HLA := Lib.hid hla
  clear hba hfa hxa hla
  have fin : ∀ (e0 : Nat) (W W' : World), Below w.heap.size w W → Chg (fun j => j = w.heap.size + 1 ∨ j = w.heap.size + 1 + 1) W W' → Below w.heap.size w W' := fun e0 W W' h hc => h.trans (hc.below h.size (fun j e => by rcases e with e | e <;> omega))
  rw [hm] at CM
  have ds : decide (s < (n : Int)) = false := by simp; omega
  have hns : ¬ s < (n : Int) := by omega
  go_enter Try.func25, Try.ntmps25
  go_upto_region 1 with fail
  rw [← hwa]
  clear hwa
  obtain ⟨y0, y1, y2⟩ := HLA.out
  go_wp2_with fail
  refine (CM.out _).mono ?_
  rintro e w1 ⟨rfl, hb1⟩
  have HB1 : Hid (Below w.heap.size w w1) := HBA.out.trans (hb1.mono HBA.out.size)
  have y0 := cell_below hb1 HLA.out.1
  have y1 := cell_below hb1 HLA.out.2.1
  have y2 := cell_below hb1 HLA.out.2.2
  obtain ⟨f0, f1, f2, f3, f4, f5, f6, f7, f8, l0⟩ := (HXA.out.keep hb1).nine
  obtain ⟨z0, z1, z2, q0, q1, q2, hg1⟩ := HFA.out.keep hb1
  have hg1' := hg1
  have hv1 := HXA.out.keep hb1
  have p0 := (hv1.2 0 (by omega)).2
  have p1 := (hv1.2 1 (by omega)).2
  have p2 := (hv1.2 2 (by omega)).2
  have p3 := (hv1.2 3 (by omega)).2
  have p4 := (hv1.2 4 (by omega)).2
  have p5 := (hv1.2 5 (by omega)).2
  have p6 := (hv1.2 6 (by omega)).2
  have p7 := (hv1.2 7 (by omega)).2
  have p8 := (hv1.2 8 (by omega)).2
  have HX1 := Lib.hid hv1
  have HF1 := Lib.hid (HFA.out.keep hb1)
  clear hv1 hb1
  go_upto_region 6 with fail
  obtain ⟨w2, hw2⟩ : ∃ W, W = w1.alloc (.cells #[.slice ab n c, .int .i64 (dn : Nat), .int .i64 s, .int .i64 o, .int .i64 0, .int .i64 0, .slice none 0 0] 70) := ⟨_, rfl⟩
  have hb2 : Below w1.heap.size w1 w2 := by rw [hw2]; exact (Below.refl _ _).alloc (Nat.le_refl _) _
  have HB2 : Hid (Below w.heap.size w w2) := HB1.out.trans (hb2.mono HB1.out.size)
  obtain ⟨rb, hrb⟩ : ∃ x, x = w1.heap.size := ⟨_, rfl⟩
  have hbx : RB0 w2 rb ab n c dn 0 0 := by
    rw [hw2, hrb]
    refine ⟨?_, ?_, ?_, ?_, ?_, ?_, ?_, ?_, ?_⟩ <;> simp [go_sem]
  have HBX := Lib.hid hbx
  have hng1 : ¬ rb = w.heap.size + 1 := by rw [hrb]; have := HX1.out.1; omega
  have hng2 : ¬ rb = w.heap.size + 1 + 1 := by rw [hrb]; omega
  have hng3 : ¬ w.heap.size + 1 = rb := fun e => hng1 e.symm
  have hng4 : ¬ w.heap.size + 1 + 1 = rb := fun e => hng2 e.symm
  have HRB : Hid (w.heap.size + 1 + 1 < rb) := by show _ < _; rw [hrb]; exact hg1'
  have CD := Lib.hid (HC.out w2 rb HB2.out (by have := HRB.out; omega) hbx)
  rw [← hw2, ← hrb]
  clear hw2 hbx hrb
  go_wp2_with fail
  refine CD.out.mono ?_
  rintro e w3 ⟨r, hq, hout⟩
  have hch : Chg (fun j => j = rb) w2 w3 := hout.chg
  have HB3 : Hid (Below w.heap.size w w3) := HB2.out.trans (hch.below HB2.out.size (fun j e => by have e2 : j = rb := e; have := HRB.out; omega))
  have HX3 : Hid (BoxV w3 (w.heap.size + 1) zCellsV) := (HX1.out.keep hb2).chg hch (fun e => hng3 e)
  have HF3 : Hid (FBx w3 (w.heap.size + 1 + 1) 0 0) := (HF1.out.keep hb2).block hch.size (hch.block _ (HF1.out.keep hb2).2.2.2.2.2.2 (fun e => hng4 e))
  have HQ := Lib.hid hq
  clear hq hch
  clear f0 f1 f2 f3 f4 f5 f6 f7 f8 l0 z0 z1 z2 q0 q1 q2 hg1 p0 p1 p2 p3 p4 p5 p6 p7 p8
  obtain ⟨f0, f1, f2, f3, f4, f5, f6, f7, f8, l0⟩ := HX3.out.nine
  obtain ⟨z0, z1, z2, q0, q1, q2, hg1⟩ := HF3.out
  have p0 := (HX3.out.2 0 (by omega)).2
  have p1 := (HX3.out.2 1 (by omega)).2
  have p2 := (HX3.out.2 2 (by omega)).2
  have p3 := (HX3.out.2 3 (by omega)).2
  have p4 := (HX3.out.2 4 (by omega)).2
  have p5 := (HX3.out.2 5 (by omega)).2
  have p6 := (HX3.out.2 6 (by omega)).2
  have p7 := (HX3.out.2 7 (by omega)).2
  have p8 := (HX3.out.2 8 (by omega)).2
  have FIN := Lib.hid fin
  have HMM := Lib.hid hm
  have HSS := Lib.hid hs
  clear fin hm hs
  cases r with
  | val t nx => exact hout.elim
  | bad er a =>
    obtain ⟨⟨a', n', c', nx, rfl⟩, hrr, hch⟩ := hout
    obtain ⟨-, -, r4, r5, r6, -, -, -, r9⟩ := hrr
    clear hch
    have hbd := HQ.out.bd (by omega) (by omega)
    have hne : ((er : Int) != 0) = true := by simp; omega
    clear hbd
    go_upto_region 8 with fail
    go_region
    all_goals
      (repeat (first | go_values | go_skip | go_guarded | go_step | go_upon | (go_simp; go_at_K)))
      refine bodyPost_ret (v := .tuple #[.agg zCellsV, fltV er a]) (by simp [results, Try.results25, go_sem, *]) rfl ?_
      refine ⟨by rw [if_neg (by rw [HMM.out]; simp), if_neg (by rw [hL]; have := HSS.out; omega)]; exact ⟨.bad er a, by rw [hL]; exact HQ.out, rfl⟩, FIN.out 0 w3 _ HB3.out ?_⟩
      (repeat' (first | with_reducible exact Chg.refl _ _ | with_reducible refine Chg.drew ?_ | with_reducible refine Chg.alloc ?_ _ | with_reducible refine Chg.setCell ?_ (fun _ => by first | exact Or.inl rfl | exact Or.inr rfl) _))
  | kids f nx =>
    obtain ⟨⟨a2, c2, rfl, hks, hroom, hfl⟩, hb3⟩ := hout
    have HKS := Lib.hid hks
    have HRM := Lib.hid hroom
    have r4 := cell_below hb3 HBX.out.2.2.1
    clear hks hroom hb3
    have h12 : w.heap.size ≤ w2.heap.size := HB2.out.size
    have HKEY : Hid (∀ W', Chg (fun j => j = w.heap.size + 1 ∨ j = w.heap.size + 1 + 1) w3 W' → RdTS (fun k => w.heap.size ≤ k) W' (.mk 3 0 0 0 nt nt 0 [] f) (valCells 3 0 0 0 ⟨#[]⟩ ⟨#[]⟩ 0 none 0 0 a2 f.len c2)) := by
      show ∀ W', _
      intro W' hW
      have hb : w.heap.size + 1 + 1 < w2.heap.size := Nat.lt_of_lt_of_le hg1' hb2.size
      have hk2 := (HKS.out.keep (KeepS.chg hW (fun j hj e => by have hj2 : w2.heap.size ≤ j := hj; rcases e with e | e <;> omega))).imp (S' := fun k => w.heap.size ≤ k) (fun j _ hj => by have hj2 : w2.heap.size ≤ j := hj; show w.heap.size ≤ j; omega)
      exact rdTS_of _ _ (ownOk_k (k := 3) (sub := 0) (by omega) okz okz okz (by decide) (by decide) (by omega)) (rdBS_nil _ _) roomy_nil hk2 rfl hfl HRM.out
    clear hfl h12
    obtain ⟨fl, hfl⟩ : ∃ x, x = f.len := ⟨_, rfl⟩
    rw [← hfl] at HKEY
    rw [← hfl]
    clear hfl HRM
    go_upto_region 9 with fail
    (repeat (first | go_values | go_skip | go_guarded | go_step | go_upon | (go_simp; go_at_K)))
    refine bodyPost_ret (v := .tuple #[.agg (valCells 3 0 0 0 ⟨#[]⟩ ⟨#[]⟩ 0 none 0 0 a2 fl c2), fltV 0 0]) (by simp [results, Try.results25, go_sem, valCells, *]) rfl ?_
    have key : ∀ W', Chg (fun j => j = w.heap.size + 1 ∨ j = w.heap.size + 1 + 1) w3 W' → DecOut (dn : Nat) s o L w (.returned (.tuple #[.agg (valCells 3 0 0 0 ⟨#[]⟩ ⟨#[]⟩ 0 none 0 0 a2 fl c2), fltV 0 0])) W' := fun W' hW =>
      ⟨by rw [if_neg (by rw [HMM.out]; simp), if_neg (by rw [hL]; have := HSS.out; omega)]; exact ⟨.kids f nx, by rw [hL]; exact HQ.out, _, rfl, HKEY.out W' hW⟩, FIN.out 0 w3 _ HB3.out hW⟩
    refine key _ ?_
    (repeat' (first | with_reducible exact Chg.refl _ _ | with_reducible refine Chg.drew ?_ | with_reducible refine Chg.alloc ?_ _ | with_reducible refine Chg.setCell ?_ (fun _ => by first | exact Or.inl rfl | exact Or.inr rfl) _))


theorem rdecode_calls (ab : Option Addr) (n c : Nat) (d s o : Int) (L : List UInt8) (w : World) (hr : RdB w ab n L) (hc : n ≤ c) (hn : n ≤ 1000000) :
    Calls Try.prog 25 #[.slice ab n c, .agg (limCells d s o)] w (DecO d s o L w) := by
  refine Calls.mono ?_ (fun _ _ => decO_of)
  have hL : L.length = n := hr.1
  by_cases hm : mayS d s o = false
  · exact rdec_small ab n c d s o L w hL (.inl hm)
  · have hm' : mayS d s o = true := by simpa using hm
    by_cases hs : s < (n : Int)
    · exact rdec_small ab n c d s o L w hL (.inr hs)
    · obtain ⟨dn, rfl⟩ : ∃ dn : Nat, d = (dn : Int) := ⟨d.toNat, by unfold mayS at hm'; simp at hm'; omega⟩
      have hd1 : 1 ≤ dn := by unfold mayS at hm'; simp at hm'; omega
      refine rdec_main ab n c dn s o L w hL hn hm' (by omega) (fun W rb hb hge h0 => ?_)
      by_cases h00 : n = 0
      · subst h00
        obtain rfl : L = [] := List.length_eq_zero_iff.1 hL
        exact rdoc_nil ab rb dn c W h0 hd1
      · obtain ⟨b, o2, rfl, hcb⟩ := hr.at 0 (by omega)
        obtain ⟨c0, c1, c4, c5, c6, f4, f5, f6, hlt⟩ := h0
        have hrd := hr.keep hb
        have hbw : b < w.heap.size := by simpa using cell_block hcb
        have hne : b ≠ rb := by omega
        refine ((rreads_all n).2.1 rb b o2 n c L dn W ⟨c0, c1, c4, c5, c6, f4, f5, f6, hlt, hrd, hc, hn, hne⟩ 0 n 0 1 false (by omega) (by omega) (by omega) (by omega) (by omega) (by omega) rfl).mono ?_
        rintro e w' ⟨r, hq, hout⟩
        refine ⟨r, hq, ?_⟩
        cases r with
        | val t nx => exact hout
        | kids f nx => exact hout
        | bad er a => exact ⟨hout.1, ⟨hout.2.1.c0, hout.2.1.c1, hout.2.1.c4, hout.2.1.c5, hout.2.1.c6, hout.2.1.f4, hout.2.1.f5, hout.2.1.f6, hout.2.1.lt⟩, hout.2.2⟩

end Go.Proofs.Ytkcfkdmffbhljaa
