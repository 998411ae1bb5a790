/- BinCut: the walk. -/
import Derived.Test.YtkcfkdmffbhljaaBiU
import Derived.Test.YtkcfkdmffbhljaaBiB
import Derived.Test.YtkcfkdmffbhljaaBiBt
import Derived.Test.YtkcfkdmffbhljaaBoAp
import Derived.Test.YtkcfkdmffbhljaaFitQ
import Derived.Test.YtkcfkdmffbhljaaBoRG
import Derived.Test.YtkcfkdmffbhljaaPlc
import Derived.Test.YtkcfkdmffbhljaaMH
import Derived.Deep.RegionHeld3
import Derived.Deep.CutRange
namespace Go.Proofs.Ytkcfkdmffbhljaa
open Go.RowKit
set_option linter.unusedVariables false
set_option linter.unusedSimpArgs false

/-- Behind the first Decode: there is an error. -/
def CutR (wb : World) (p9 p10 : Value) (W : World) : Prop :=
  ∃ g10 er1, p10 = .pointer (some ⟨g10, 0, none⟩) ∧ W.cell? ⟨g10, 0, none⟩ = some (.int .i64 (er1 : Nat)) ∧ 1 ≤ er1 ∧ Below wb.heap.size wb W

theorem bv_al {W : World} {g : Nat} {c : Array Value} (h : BoxV W g c) (o : Obj) : BoxV (W.alloc o) g c := h.keep ((Below.refl _ _).alloc (Nat.le_refl _) _)
theorem bv_dr {W : World} {g : Nat} {c : Array Value} (h : BoxV W g c) : BoxV W.drew g c := h.keep (Below.refl _ _).drew
theorem bv_nw (W : World) (g : Nat) (hg : W.heap.size = g) (ty : TypeId) : BoxV (W.alloc (.cells #[.int .i64 0, .int .u64 0, .int .u64 0, .int .u64 0, .string ⟨#[]⟩, .string ⟨#[]⟩, .int .i64 0, .slice none 0 0, .slice none 0 0] ty)) g zCellsV := by subst hg; exact BoxV.new _ _ _
theorem fb_al {W : World} {g e a : Nat} (h : FBx W g e a) (o : Obj) : FBx (W.alloc o) g e a := h.keep ((Below.refl _ _).alloc (Nat.le_refl _) _)
theorem fb_dr {W : World} {g e a : Nat} (h : FBx W g e a) : FBx W.drew g e a := h.keep (Below.refl _ _).drew
theorem fb_nw (W : World) (g : Nat) (hg : W.heap.size = g) (ty : TypeId) : FBx (W.alloc (.cells #[.int .i64 0, .int .i64 0, .slice none 0 0] ty)) g 0 0 := by subst hg; exact FBx.new _ 0 0 _
/-- A value's box, cell by cell. -/
def BvF (W : World) (g : Nat) : Prop := ((W.cell? ⟨g, 0, none⟩ = some (.int .i64 0) ∧ W.cell? ⟨g, 1, none⟩ = some (.int .u64 0) ∧ W.cell? ⟨g, 2, none⟩ = some (.int .u64 0) ∧ W.cell? ⟨g, 3, none⟩ = some (.int .u64 0) ∧ W.cell? ⟨g, 4, none⟩ = some (.string ⟨#[]⟩) ∧ W.cell? ⟨g, 5, none⟩ = some (.string ⟨#[]⟩) ∧ W.cell? ⟨g, 6, none⟩ = some (.int .i64 0) ∧ W.cell? ⟨g, 7, none⟩ = some (.slice none 0 0) ∧ W.cell? ⟨g, 8, none⟩ = some (.slice none 0 0)) ∧
  (W.frozen? ⟨g, 0, none⟩ = false ∧ W.frozen? ⟨g, 1, none⟩ = false ∧ W.frozen? ⟨g, 2, none⟩ = false ∧ W.frozen? ⟨g, 3, none⟩ = false ∧ W.frozen? ⟨g, 4, none⟩ = false ∧ W.frozen? ⟨g, 5, none⟩ = false ∧ W.frozen? ⟨g, 6, none⟩ = false ∧ W.frozen? ⟨g, 7, none⟩ = false ∧ W.frozen? ⟨g, 8, none⟩ = false) ∧ g < W.heap.size)
theorem bvF {W : World} {g : Nat} (h : BoxV W g zCellsV) : BvF W g := by
  obtain ⟨f0, f1, f2, f3, f4, f5, f6, f7, f8, l0⟩ := h.nine
  exact ⟨⟨f0, f1, f2, f3, f4, f5, f6, f7, f8⟩, ⟨(h.2 0 (by omega)).2, (h.2 1 (by omega)).2, (h.2 2 (by omega)).2, (h.2 3 (by omega)).2, (h.2 4 (by omega)).2, (h.2 5 (by omega)).2, (h.2 6 (by omega)).2, (h.2 7 (by omega)).2, (h.2 8 (by omega)).2⟩, l0⟩
theorem bv_cut {P : Prop} {W W' : World} (hb : Below W.heap.size W W') (g : Nat) (h : BoxV W g zCellsV) (k : Hid (BoxV W' g zCellsV) → BvF W' g → P) : P := k (h.keep hb) (bvF (h.keep hb))
theorem fb_cut {P : Prop} {W W' : World} (hb : Below W.heap.size W W') (g : Nat) (h : FBx W g 0 0) (k : Hid (FBx W' g 0 0) → FBx W' g 0 0 → P) : P := k (h.keep hb) (h.keep hb)
theorem limits_world (w : World) : Calls Try.prog 21 #[] w fun e w' => e = .returned (.agg (limCells 200 65536 262144)) ∧ w.alloc (.cells #[.int .i64 200, .int .i64 65536, .int .i64 262144] 28) = w' := by
  go_enter Try.func21, Try.ntmps21
  go_wp2_with fail
  refine bodyPost_ret (v := .agg (limCells 200 65536 262144)) (by simp [results, Try.results21, go_sem]) rfl ?_
  exact ⟨rfl, rfl⟩
theorem below_then {a b c : World} (h : Below a.heap.size a b) (g : Below b.heap.size b c) : Below a.heap.size a c := h.trans (g.mono h.size)
theorem decCut_calls (t : T) (he : encE t = 0) (hl : (encB t).length ≤ 14400) (m : Nat) (hm : m < (encB t).length) (b o c : Nat) (hc : m ≤ c) (W : World) (hr : RdB W (some ⟨b, o, none⟩) (encB t).length (encB t)) :
    Calls Try.prog 16 #[.slice (some ⟨b, o, none⟩) m c, .agg (limCells 200 65536 262144)] W fun e w' => ∃ er at1 k1 bits1 hi1 lo1 text1 more1 sub1 ab1 nb1 cb1 ak1 nk1 ck1, 1 ≤ er ∧ e = .returned (.tuple #[.agg #[.int .i64 k1, .int .u64 (bits1 : Nat), .int .u64 (hi1 : Nat), .int .u64 (lo1 : Nat), .string text1, .string more1, .int .i64 sub1, .slice ab1 nb1 cb1, .slice ak1 nk1 ck1], .agg #[.int .i64 (er : Nat), .int .i64 (at1 : Nat), .slice none 0 0]]) ∧ Below W.heap.size W w' := by
  refine (decU_calls (some ⟨b, o, none⟩) m c 200 65536 262144 ((encB t).take m) W (rd_take hr m (by omega)) hc (by omega)).mono ?_
  rintro e w' ⟨r, k1, bits1, hi1, lo1, text1, more1, sub1, ab1, nb1, cb1, ak1, nk1, ck1, hq, rfl, -, hb⟩
  obtain ⟨e0, a0, rfl, h1⟩ := hq.cut m he (by omega) hm
  exact ⟨e0, a0, _, _, _, _, _, _, _, _, _, _, _, _, _, h1, rfl, hb⟩

set_option maxRecDepth 100000 in
set_option maxHeartbeats 64000000 in
theorem BinCut_walk (w : World) (cs : Array Value) (t : T) (h : RdT w t cs) (K : Int) (hK : (Lit.int .i64 K).wf = true) (by' : Int) (hby : (Lit.int .u8 by').wf = true) :
    Calls Try.prog 4 #[.agg cs, .int .i64 K, .int .u8 by'] w fun e w' => e = .returned (.bool true) ∧ Below w.heap.size w w' := by
  have hb9 : 0 ≤ by' ∧ by' ≤ 255 := by simpa [Lit.wf, IntKind.min, IntKind.max, IntKind.signed, IntKind.bits] using hby
  obtain ⟨y, rfl⟩ : ∃ y : Nat, by' = (y : Int) := ⟨by'.toNat, by omega⟩
  have hy : y < 256 := by omega
  clear hby hK hb9
  obtain ⟨k, bits, hi, lo, text, more, sub, ab, nb, cb, ak, nk, ck, rfl⟩ := h.shape
  obtain ⟨wa, hwa⟩ : ∃ W, W = w.alloc (.cells (valCells k bits hi lo text more sub ab nb cb ak nk ck) 26) := ⟨_, rfl⟩
  have hba : Below w.heap.size w wa := by rw [hwa]; exact (Below.refl _ _).alloc (Nat.le_refl _) _
  have hxa : BoxV wa w.heap.size (valCells k bits hi lo text more sub ab nb cb ak nk ck) := by rw [hwa]; exact BoxV.new _ _ _
  have HBX : Hid (∀ W, Below wa.heap.size wa W → BoxV W w.heap.size (valCells k bits hi lo text more sub ab nb cb ak nk ck)) := fun W hW => hxa.keep hW
  have HBA := Lib.hid hba
  have HT : Hid (∀ W, Below wa.heap.size wa W → RdT W t (valCells k bits hi lo text more sub ab nb cb ak nk ck)) := fun W hW => (h.keep hba).keep hW
  have CS := Lib.hid (fun W h => small_calls t W (valCells k bits hi lo text more sub ab nb cb ak nk ck) h)
  have HBD := Lib.hid h.bd
  obtain ⟨f0, f1, f2, f3, f4, f5, f6, f7, f8, l0⟩ := hxa.nine
  clear hba h
  go_enter Try.func4, Try.ntmps4
  go_upto_region 1 with fail
  rw [← hwa]
  clear hwa
  go_wp2_with fail
  refine (awake21 _).mono ?_
  rintro e w1 ⟨rfl, hb1⟩
  have HB1 := Lib.hid hb1
  clear hb1 hxa
  clear f0 f1 f2 f3 f4 f5 f6 f7 f8 l0
  obtain ⟨f0, f1, f2, f3, f4, f5, f6, f7, f8, l0⟩ := (HBX.out w1 HB1.out).nine
  go_wp2_with fail
  refine (CS.out _ (HT.out _ HB1.out)).mono ?_
  rintro e w2 ⟨rfl, hb2⟩
  have HB2 : Hid (Below wa.heap.size wa w2) := HB1.out.trans (hb2.mono HB1.out.size)
  clear hb2
  clear f0 f1 f2 f3 f4 f5 f6 f7 f8 l0
  obtain ⟨f0, f1, f2, f3, f4, f5, f6, f7, f8, l0⟩ := (HBX.out w2 HB2.out).nine
  cases hs : smallT t with
  | false =>
    go_wp2_with fail
    go_ret
    exact ⟨rfl, HBA.out.trans (HB2.out.mono HBA.out.size)⟩
  | true =>
  have hwt := wt_small hs
  have CE := Lib.hid (fun W (h : RdT W t (valCells k bits hi lo text more sub ab nb cb ak nk ck)) => rencode_calls t W _ h (by omega))
  have CP := Lib.hid (fun W (h : RdT W t (valCells k bits hi lo text more sub ab nb cb ak nk ck)) => rdep_all 90000 (by omega) t (by omega) W _ h)
  have HWT := Lib.hid hwt
  have hdw := depT_wt t
  obtain ⟨D, hD⟩ : ∃ x, x = depT t := ⟨_, rfl⟩
  rw [← hD] at CP hdw
  have HD := Lib.hid hD
  have hd9 : D ≤ 1200 := by omega
  clear hs hwt hD hdw
  go_wp2_with fail
  refine (CP.out _ (HT.out _ HB2.out)).mono ?_
  rintro e w9 ⟨rfl, hb9⟩
  have HB9 : Hid (Below wa.heap.size wa w9) := HB2.out.trans (hb9.mono HB2.out.size)
  clear hb9
  clear f0 f1 f2 f3 f4 f5 f6 f7 f8 l0
  obtain ⟨f0, f1, f2, f3, f4, f5, f6, f7, f8, l0⟩ := (HBX.out w9 HB9.out).nine
  by_cases hdep : 200 < D
  · have d0 : decide (200 < (D : Int)) = true := by simp; omega
    clear hdep
    go_wp2_with fail
    go_ret
    exact ⟨rfl, HBA.out.trans (HB9.out.mono HBA.out.size)⟩
  have d0 : decide (200 < (D : Int)) = false := by simp; omega
  go_wp2_with fail
  refine (CE.out _ (HT.out _ HB9.out)).mono ?_
  rintro e w3 ⟨a3, n3, c3, aP, nP, cP, rfl, hrd3, hac, hnP, hmP, hrP, hcP, hb3⟩
  obtain ⟨E, hE⟩ : ∃ x, x = encE t := ⟨_, rfl⟩
  obtain ⟨L, hL⟩ : ∃ x, x = encB t := ⟨_, rfl⟩
  rw [← hE]
  rw [← hL] at hrd3
  have HE := Lib.hid hE
  have HL := Lib.hid hL
  obtain ⟨wb, hwb⟩ : ∃ W, W = w3.alloc (.cells #[.int .i64 (E : Nat), .int .i64 0, .slice aP nP cP] 34) := ⟨_, rfl⟩
  obtain ⟨g3, hg3⟩ : ∃ g, g = w3.heap.size := ⟨_, rfl⟩
  have h3b : Below w3.heap.size w3 wb := by rw [hwb]; exact (Below.refl _ _).alloc (Nat.le_refl _) _
  have k3 : wb.cell? ⟨g3, 0, none⟩ = some (.int .i64 (E : Nat)) := by rw [hwb, hg3]; simp [go_sem]
  have HBB : Hid (Below wa.heap.size wa wb) := HB9.out.trans ((hb3.trans (h3b.mono hb3.size)).mono HB9.out.size)
  have HRD : Hid (∀ W, Below wb.heap.size wb W → RdB W a3 n3 L) := fun W hW => (hrd3.keep h3b).keep hW
  have HN : Hid (L.length = n3) := hrd3.1
  have HAC : Hid (a3 = none → c3 = 0) := hac.1
  have HHC : Hid (n3 ≤ c3) := hac.2
  clear hE hL hrd3 hac hnP hmP hrP hcP hb3 h3b f0 f1 f2 f3 f4 f5 f6 f7 f8 l0
  go_upto_region 6 with fail
  rw [← hwb, ← hg3]
  clear hwb hg3
  by_cases he : E = 0
  case neg =>
    have n0 : ((E : Int) != 0) = true := by simpa using he
    clear he
    go_wp2_with fail
    go_ret
    exact ⟨rfl, HBA.out.trans (HBB.out.mono HBA.out.size)⟩
  subst he
  have he := HE.out.symm
  have hB : encB t = docOf (kidsB t.kids) := by unfold encB; rw [if_pos he]
  have hlen : (encB t).length ≤ 14400 ∧ 5 ≤ (encB t).length ∧ ((encB t).length : Int) = sizeT t := by
    have h1 := sizeT_bd t
    have h2 := HWT.out
    have hv := val_size t _ _ (enc_ok.1 he).1
    have hs := (doc_shape he).1
    have e2 : valB t = docOf (kidsB t.kids) := by rw [hs]; simp [valB, T.kids]
    rw [e2, ← hB] at hv
    have := docOf_len (kidsB t.kids)
    rw [← hB] at this
    omega
  have HLEN := Lib.hid hlen
  have hn3 : n3 ≤ 14400 := by have := HN.out; rw [HL.out] at this; omega
  have hn5 : 5 ≤ n3 := by have := HN.out; rw [HL.out] at this; omega
  have HEE := Lib.hid he
  have hcn : n3 ≤ c3 := HHC.out
  obtain ⟨b0, o0, rfl⟩ : ∃ b o, a3 = some ⟨b, o, none⟩ := by
    obtain ⟨b, o, e, -⟩ := (HRD.out wb (Below.refl _ _)).at 0 (by omega)
    exact ⟨b, o, e⟩
  clear he hlen hB
  obtain ⟨m, hm⟩ : ∃ x, x = placeN K n3 := ⟨_, rfl⟩
  have HM := Lib.hid hm
  have hmn : m < n3 := by rw [hm]; exact place_lt K n3 (by omega)
  have CD := Lib.hid (fun W (hW : Below wb.heap.size wb W) => decCut_calls t HEE.out HLEN.out.1 m (by have := HN.out; rw [HL.out] at this; omega) b0 o0 c3 (by omega) W (by have := HRD.out W hW; rw [← HN.out, HL.out] at this; exact this))
  have CPL := Lib.hid (place_calls K n3 (by omega) (by omega))
  have CLM := Lib.hid limits_world
  rw [← hm] at CPL
  have j1 : (0 : Int) ≤ (m : Int) := by omega
  have j2 : (m : Int) ≤ (c3 : Int) := by omega
  have HKS : Hid (∀ W, Below wb.heap.size wb W → Hid (Below wb.heap.size wb W) ∧ W.cell? ⟨g3, 0, none⟩ = some (.int .i64 0)) := fun W hW => ⟨hW, cell_below hW k3⟩
  clear hm
  go_upto_region 8 with fail
  go_cut [9, 10] from 33 to 43 (fun p9 p10 W => CutR wb p9 p10 W)
  case first =>
    go_region_held3 (fun W => Hid True) (exact (trivial : True))
      ((first
      | (go_at_call 20; (with_reducible refine (CPL.out _).mono ?_); rintro e wp ⟨rfl, rfl⟩)
      | (go_at_call 21; (with_reducible refine (CLM.out _).mono ?_); rintro e w8 ⟨rfl, rfl⟩)
      | (go_at_call 16; (with_reducible refine (CD.out _ ?_).mono ?_); (case _ => ((repeat' (first | with_reducible assumption | with_reducible refine below_al ?_ _ | with_reducible refine Below.drew ?_ | with_reducible exact Below.refl _ _)))); rintro e w10 ⟨er1, at1, k1, bits1, hi1, lo1, text1, more1, sub1, ab1, nb1, cb1, ak1, nk1, ck1, hne, rfl, hb10⟩; have HNE := Lib.hid hne; have hx10 : Below wb.heap.size wb w10 := below_then (by ((repeat' (first | with_reducible assumption | with_reducible refine below_al ?_ _ | with_reducible refine Below.drew ?_ | with_reducible exact Below.refl _ _)))) hb10; have hsz10 := hb10.size; (try ((with_reducible refine bv_cut hb10 (wb.heap.size) ?_ (fun BH bz => ?_)); (case _ => ((repeat' (first | (with_reducible refine bv_nw _ _ ?_ _; first | with_reducible rfl | (simp; done)) | with_reducible refine bv_al ?_ _ | with_reducible refine bv_dr ?_)); done)); obtain ⟨⟨_, _, _, _, _, _, _, _, _⟩, ⟨_, _, _, _, _, _, _, _, _⟩, _⟩ := bz)); (try ((with_reducible refine fb_cut hb10 (wb.heap.size) ?_ (fun BH bz => ?_)); (case _ => ((repeat' (first | (with_reducible refine fb_nw _ _ ?_ _; first | with_reducible rfl | (simp; done)) | with_reducible refine fb_al ?_ _ | with_reducible refine fb_dr ?_)); done)); obtain ⟨_, _, _, _, _, _, _⟩ := bz)); (try ((with_reducible refine bv_cut hb10 (wb.heap.size + 1) ?_ (fun BH bz => ?_)); (case _ => ((repeat' (first | (with_reducible refine bv_nw _ _ ?_ _; first | with_reducible rfl | (simp; done)) | with_reducible refine bv_al ?_ _ | with_reducible refine bv_dr ?_)); done)); obtain ⟨⟨_, _, _, _, _, _, _, _, _⟩, ⟨_, _, _, _, _, _, _, _, _⟩, _⟩ := bz)); (try ((with_reducible refine fb_cut hb10 (wb.heap.size + 1) ?_ (fun BH bz => ?_)); (case _ => ((repeat' (first | (with_reducible refine fb_nw _ _ ?_ _; first | with_reducible rfl | (simp; done)) | with_reducible refine fb_al ?_ _ | with_reducible refine fb_dr ?_)); done)); obtain ⟨_, _, _, _, _, _, _⟩ := bz)); (try ((with_reducible refine bv_cut hb10 (wb.heap.size + 1 + 1) ?_ (fun BH bz => ?_)); (case _ => ((repeat' (first | (with_reducible refine bv_nw _ _ ?_ _; first | with_reducible rfl | (simp; done)) | with_reducible refine bv_al ?_ _ | with_reducible refine bv_dr ?_)); done)); obtain ⟨⟨_, _, _, _, _, _, _, _, _⟩, ⟨_, _, _, _, _, _, _, _, _⟩, _⟩ := bz)); (try ((with_reducible refine fb_cut hb10 (wb.heap.size + 1 + 1) ?_ (fun BH bz => ?_)); (case _ => ((repeat' (first | (with_reducible refine fb_nw _ _ ?_ _; first | with_reducible rfl | (simp; done)) | with_reducible refine fb_al ?_ _ | with_reducible refine fb_dr ?_)); done)); obtain ⟨_, _, _, _, _, _, _⟩ := bz)); clear hb10 hne)
      | fail))
    all_goals
      go_wp2_with fail
      go_meet
      case rel =>
        refine ⟨_, er1, rfl, ?_, HNE.out, ?_⟩
        · simp [go_sem, *]
        · (repeat' (first | with_reducible assumption | with_reducible refine below_al ?_ _ | with_reducible refine Below.drew ?_ | with_reducible refine Below.setCell ?_ (by first | exact Nat.le_refl _ | (dsimp only; omega)) _))
  obtain ⟨g10, er1, rfl, k10, hne1, hbc⟩ := hcut
  have HBC := Lib.hid hbc
  have HNE1 := Lib.hid hne1
  have HK10 := Lib.hid k10
  clear CD CPL CLM HKS hne1 j1 j2 hbc k10 hmn
  have HE1 : Hid (OwnB (wc.alloc (.cells #[] 5)) wc.heap.size (.slice (some ⟨wc.heap.size, 0, none⟩) 0 0) []) := ownB_empty3 (heap_alloc_new wc _) (Nat.le_refl _)
  have HS1 : Hid (SrcB (wc.alloc (.cells #[] 5)) (.slice (some ⟨b0, o0, none⟩) n3 c3) L) := ⟨_, _, _, rfl, (HRD.out _ HBC.out).keep ((Below.refl _ _).alloc (Nat.le_refl _) _), by simp⟩
  have HLL : Hid (L.length ≤ 14400) := by show _ ≤ _; rw [HN.out]; exact hn3
  go_wp2_with (at_builtin; refine wpList_appB (v := .slice (some ⟨wc.heap.size, 0, none⟩) 0 0) (bs := []) (sv := .slice (some ⟨b0, o0, none⟩) n3 c3) (l := L) (B := wc.heap.size) (by rfl) _ _ (by rfl) (by rfl) HE1.out (by rfl) HS1.out ?o2 ?o3 ?_)
  case o2 => have := HLL.out; simp only [List.length_nil]; omega
  case o3 => simp
  intro v1 w5 ho1 ha1
  have hb5 : Below wc.heap.size wc w5 := ha1.below ((Below.refl _ _).alloc (Nat.le_refl _) _) (by simp) (fun i hi => by have : wc.heap.size = i := Option.some.inj hi; omega)
  have HO1 := Lib.hid ho1
  have HB5 := Lib.hid hb5
  clear ho1 ha1 hb5
  have HS2 : Hid (SrcB (w5.alloc (.cells #[.int .u8 (y : Nat)] 5)) (.slice (some ⟨w5.heap.size, 0, none⟩) 1 1) [UInt8.ofNat y]) := by
    refine ⟨_, _, _, rfl, ⟨rfl, by omega, fun i hi => ⟨w5.heap.size, 0, rfl, ?_⟩⟩, by simp⟩
    obtain rfl : i = 0 := by omega
    have e : (UInt8.ofNat y).toNat = y := by rw [UInt8.toNat_ofNat']; exact Nat.mod_eq_of_lt (by omega)
    simp [go_sem, bAt, e]
  have hsz5 : wc.heap.size ≤ w5.heap.size := HB5.out.size
  go_wp2_with (at_builtin; refine wpList_appB (v := v1) (bs := L) (sv := .slice (some ⟨w5.heap.size, 0, none⟩) 1 1) (l := [UInt8.ofNat y]) (B := wc.heap.size) (by rfl) _ _ (by rfl) (by rfl) (HO1.out.keep ((Below.refl _ _).alloc (Nat.le_refl _) _)) (by rfl) HS2.out ?o4 ?o5 ?_)
  case o4 => have := HLL.out; simp only [List.length_cons, List.length_nil]; omega
  case o5 => simp; omega
  intro v2 w6 ho2 ha2
  have hb6 : Below wc.heap.size wc w6 := ha2.below (HB5.out.trans (((Below.refl _ _).alloc (Nat.le_refl _) _).mono HB5.out.size)) (by simp; omega) (fun i hi => (owns_lt HO1.out i hi).1)
  obtain ⟨a2, c2, e2, hrd2⟩ := ho2.reads
  subst e2
  have hrm := (own_roomy ho2).2
  obtain ⟨N2, hN2⟩ : ∃ x, x = (L ++ [UInt8.ofNat y]).length := ⟨_, rfl⟩
  rw [← hN2] at hrd2 hrm ⊢
  have HN2 : Hid (N2 = n3 + 1) := by show _ = _; rw [hN2, List.length_append, HN.out]; rfl
  have HR2 := Lib.hid hrd2
  have HRM := Lib.hid hrm
  have HB6 := Lib.hid hb6
  have HMAY : Hid (mayS 200 65536 262144 = true) := by show _ = _; decide
  clear ho2 ha2 hb6 hrd2 hrm hN2
  go_wp2_with fail
  refine (limits_calls _).mono ?_
  rintro e w7 ⟨rfl, hb7⟩
  have HR7 := Lib.hid (HR2.out.keep hb7)
  have HB7 : Hid (Below wc.heap.size wc w7) := HB6.out.trans (hb7.mono HB6.out.size)
  clear hb7
  go_wp2_with fail
  refine (decU_calls a2 N2 c2 200 65536 262144 (L ++ [UInt8.ofNat y]) w7 HR7.out HRM.out (by have := HN2.out; omega)).mono ?_
  rintro e w8 ⟨r, k2, bits2, hi2, lo2, text2, more2, sub2, ab2, nb2, cb2, ak2, nk2, ck2, hq, rfl, -, hb8⟩
  have hr7 : r = .error (7, n3) := by
    rw [HL.out] at hq
    have := hq.more HEE.out (by have := HLEN.out; omega) HMAY.out (by have := HLEN.out; omega)
    rw [this, ← HL.out, HN.out]
  subst hr7
  rw [show (fltOf (.error (7, n3))).1 = 7 from rfl, show (fltOf (.error (7, n3))).2 = n3 from rfl]
  obtain ⟨wd, hwd⟩ : ∃ W, W = (w8.alloc (.cells (valCells k2 bits2 hi2 lo2 text2 more2 sub2 ab2 nb2 cb2 ak2 nk2 ck2) 26)).alloc (.cells #[.int .i64 7, .int .i64 (n3 : Nat), .slice none 0 0] 34) := ⟨_, rfl⟩
  obtain ⟨g12, hg12⟩ : ∃ g, g = w8.heap.size + 1 := ⟨_, rfl⟩
  have hb80 : Below w8.heap.size w8 (w8.alloc (.cells (valCells k2 bits2 hi2 lo2 text2 more2 sub2 ab2 nb2 cb2 ak2 nk2 ck2) 26)) := (Below.refl _ _).alloc (Nat.le_refl _) _
  have h8d : Below w8.heap.size w8 wd := by rw [hwd]; exact hb80.alloc hb80.size _
  have hbf : FBx wd g12 7 n3 := by
    have := FBx.new (w8.alloc (.cells (valCells k2 bits2 hi2 lo2 text2 more2 sub2 ab2 nb2 cb2 ak2 nk2 ck2) 26)) 7 n3 34
    rw [hwd, hg12]
    simpa using this
  have HBF := Lib.hid hbf
  have HBD2 : Hid (Below wc.heap.size wc wd) := HB7.out.trans ((hb8.trans (h8d.mono hb8.size)).mono HB7.out.size)
  clear hb8 hb80 h8d hq hbf
  go_upto_region 10 with fail
  try simp only [Int.natCast_ofNat] at hwd
  rw [← hwd, ← hg12]
  clear hwd hg12
  go_wp2_with fail
  refine (limits_calls _).mono ?_
  rintro e w9' ⟨rfl, hb9⟩
  have HB9' : Hid (Below wc.heap.size wc w9') := HBD2.out.trans (hb9.mono HBD2.out.size)
  have HF9 := Lib.hid (HBF.out.keep hb9)
  clear hb9
  go_wp2_with fail
  refine (decU_calls (some ⟨b0, o0, none⟩) n3 c3 200 65536 262144 L w9' (HRD.out _ (HBC.out.trans (HB9'.out.mono HBC.out.size))) HHC.out (by omega)).mono ?_
  rintro e we ⟨r, k3, bits3, hi3, lo3, text3, more3, sub3, ab3, nb3, cb3, ak3, nk3, ck3, hq, rfl, -, hbe⟩
  have hr9 : r = .ok t.kids := by
    rw [HL.out] at hq
    have hl := HLEN.out
    exact ((DecQ.back HEE.out HBD.out.kids (by omega) hq).2.1 HMAY.out (by have := HD.out; omega) (by omega)).1
  subst hr9
  rw [show (fltOf (.ok t.kids)).1 = 0 from rfl, show (fltOf (.ok t.kids)).2 = 0 from rfl]
  obtain ⟨wf, hwf⟩ : ∃ W, W = (we.alloc (.cells (valCells k3 bits3 hi3 lo3 text3 more3 sub3 ab3 nb3 cb3 ak3 nk3 ck3) 26)).alloc (.cells #[.int .i64 0, .int .i64 0, .slice none 0 0] 34) := ⟨_, rfl⟩
  obtain ⟨g14, hg14⟩ : ∃ g, g = we.heap.size + 1 := ⟨_, rfl⟩
  have hbe0 : Below we.heap.size we (we.alloc (.cells (valCells k3 bits3 hi3 lo3 text3 more3 sub3 ab3 nb3 cb3 ak3 nk3 ck3) 26)) := (Below.refl _ _).alloc (Nat.le_refl _) _
  have hef : Below we.heap.size we wf := by rw [hwf]; exact hbe0.alloc hbe0.size _
  have hbf : FBx wf g14 0 0 := by
    have := FBx.new (we.alloc (.cells (valCells k3 bits3 hi3 lo3 text3 more3 sub3 ab3 nb3 cb3 ak3 nk3 ck3) 26)) 0 0 34
    rw [hwf, hg14]
    simpa using this
  have HBF3 := Lib.hid hbf
  have hbef := hbe.trans (hef.mono hbe.size)
  have HBE : Hid (Below wc.heap.size wc wf) := HB9'.out.trans (hbef.mono HB9'.out.size)
  have HF9' := Lib.hid (HF9.out.keep hbef)
  clear hbe hbe0 hef hq hbf hbef
  go_upto_region 11 with fail
  rw [← hwf, ← hg14]
  clear hwf hg14
  have k10 := cell_below HBE.out HK10.out
  have hne2 : ((er1 : Int) != 0) = true := by have := HNE1.out; simp; omega
  obtain ⟨x0, x1, x2, -, -, -, hx⟩ := HF9'.out
  obtain ⟨z0, z1, z2, -, -, -, hz⟩ := HBF3.out
  have HFIN : Hid (Below w.heap.size w wf) := HBA.out.trans ((HBB.out.trans ((HBC.out.trans (HBE.out.mono HBC.out.size)).mono HBB.out.size)).mono HBA.out.size)
  go_wp2_with fail
  go_ret
  exact ⟨rfl, HFIN.out⟩

end Go.Proofs.Ytkcfkdmffbhljaa
