/- BinBent: the walk. -/
import Derived.Test.YtkcfkdmffbhljaaBiU
import Derived.Test.YtkcfkdmffbhljaaBiBt
import Derived.Test.YtkcfkdmffbhljaaBoAp
import Derived.Test.YtkcfkdmffbhljaaFitQ
import Derived.Test.YtkcfkdmffbhljaaBoRG
namespace Go.Proofs.Ytkcfkdmffbhljaa
open Go.RowKit
set_option linter.unusedVariables false
set_option linter.unusedSimpArgs false

set_option maxRecDepth 100000 in
set_option maxHeartbeats 8000000 in
theorem BinBent_walk (w : World) (cs : Array Value) (t : T) (h : RdT w t cs) (K : Int) (hK : (Lit.int .i64 K).wf = true) (by' : Int) (hby : (Lit.int .u8 by').wf = true) :
    Calls Try.prog 5 #[.agg cs, .int .i64 K, .int .u8 by'] w fun e w' => e = .returned (.bool true) ∧ Below w.heap.size w w' := by
  have hb9 : 0 ≤ by' ∧ by' ≤ 255 := by simpa [Lit.wf, IntKind.min, IntKind.max, IntKind.signed, IntKind.bits] using hby
  obtain ⟨y, rfl⟩ : ∃ y : Nat, by' = (y : Int) := ⟨by'.toNat, by omega⟩
  have hy : y < 256 := by omega
  clear hby hK hb9
  obtain ⟨k, bits, hi, lo, text, more, sub, ab, nb, cb, ak, nk, ck, rfl⟩ := h.shape
  obtain ⟨wa, hwa⟩ : ∃ W, W = w.alloc (.cells (valCells k bits hi lo text more sub ab nb cb ak nk ck) 26) := ⟨_, rfl⟩
  have hba : Below w.heap.size w wa := by rw [hwa]; exact (Below.refl _ _).alloc (Nat.le_refl _) _
  have hxa : BoxV wa w.heap.size (valCells k bits hi lo text more sub ab nb cb ak nk ck) := by rw [hwa]; exact BoxV.new _ _ _
  have HBX : Hid (∀ W, Below wa.heap.size wa W → BoxV W w.heap.size (valCells k bits hi lo text more sub ab nb cb ak nk ck)) := fun W hW => hxa.keep hW
  have HBA := Lib.hid hba
  have HT : Hid (∀ W, Below wa.heap.size wa W → RdT W t (valCells k bits hi lo text more sub ab nb cb ak nk ck)) := fun W hW => (h.keep hba).keep hW
  have CS := Lib.hid (fun W h => small_calls t W (valCells k bits hi lo text more sub ab nb cb ak nk ck) h)
  have HBD := Lib.hid h.bd
  obtain ⟨f0, f1, f2, f3, f4, f5, f6, f7, f8, l0⟩ := hxa.nine
  clear hba h
  go_enter Try.func5, Try.ntmps5
  go_upto_region 1 with fail
  rw [← hwa]
  clear hwa
  go_wp2_with fail
  refine (awake21 _).mono ?_
  rintro e w1 ⟨rfl, hb1⟩
  have HB1 := Lib.hid hb1
  clear hb1 hxa
  clear f0 f1 f2 f3 f4 f5 f6 f7 f8 l0
  obtain ⟨f0, f1, f2, f3, f4, f5, f6, f7, f8, l0⟩ := (HBX.out w1 HB1.out).nine
  go_wp2_with fail
  refine (CS.out _ (HT.out _ HB1.out)).mono ?_
  rintro e w2 ⟨rfl, hb2⟩
  have HB2 : Hid (Below wa.heap.size wa w2) := HB1.out.trans (hb2.mono HB1.out.size)
  clear hb2
  clear f0 f1 f2 f3 f4 f5 f6 f7 f8 l0
  obtain ⟨f0, f1, f2, f3, f4, f5, f6, f7, f8, l0⟩ := (HBX.out w2 HB2.out).nine
  cases hs : smallT t with
  | false =>
    go_wp2_with fail
    go_ret
    exact ⟨rfl, HBA.out.trans (HB2.out.mono HBA.out.size)⟩
  | true =>
  have hwt := wt_small hs
  have CE := Lib.hid (fun W (h : RdT W t (valCells k bits hi lo text more sub ab nb cb ak nk ck)) => rencode_calls t W _ h (by omega))
  have CP := Lib.hid (fun W (h : RdT W t (valCells k bits hi lo text more sub ab nb cb ak nk ck)) => rdep_all 90000 (by omega) t (by omega) W _ h)
  have HWT := Lib.hid hwt
  have hdw := depT_wt t
  obtain ⟨D, hD⟩ : ∃ x, x = depT t := ⟨_, rfl⟩
  rw [← hD] at CP hdw
  have HD := Lib.hid hD
  have hd9 : D ≤ 1200 := by omega
  clear hs hwt hD hdw
  by_cases hy0 : y = 0
  · subst hy0
    go_wp2_with fail
    go_ret
    exact ⟨rfl, HBA.out.trans (HB2.out.mono HBA.out.size)⟩
  have n9 : ((y : Int) == 0) = false := by simp; omega
  have HY0 : Hid (y ≠ 0) := hy0
  clear hy0
  go_wp2_with fail
  refine (CP.out _ (HT.out _ HB2.out)).mono ?_
  rintro e w9 ⟨rfl, hb9⟩
  have HB9 : Hid (Below wa.heap.size wa w9) := HB2.out.trans (hb9.mono HB2.out.size)
  clear hb9
  clear f0 f1 f2 f3 f4 f5 f6 f7 f8 l0
  obtain ⟨f0, f1, f2, f3, f4, f5, f6, f7, f8, l0⟩ := (HBX.out w9 HB9.out).nine
  by_cases hdep : 200 < D
  · have d0 : decide (200 < (D : Int)) = true := by simp; omega
    clear hdep
    go_wp2_with fail
    go_ret
    exact ⟨rfl, HBA.out.trans (HB9.out.mono HBA.out.size)⟩
  have d0 : decide (200 < (D : Int)) = false := by simp; omega
  go_wp2_with fail
  refine (CE.out _ (HT.out _ HB9.out)).mono ?_
  rintro e w3 ⟨a3, n3, c3, aP, nP, cP, rfl, hrd3, hac, hnP, hmP, hrP, hcP, hb3⟩
  obtain ⟨E, hE⟩ : ∃ x, x = encE t := ⟨_, rfl⟩
  obtain ⟨L, hL⟩ : ∃ x, x = encB t := ⟨_, rfl⟩
  rw [← hE]
  rw [← hL] at hrd3
  have HE := Lib.hid hE
  have HL := Lib.hid hL
  obtain ⟨wb, hwb⟩ : ∃ W, W = w3.alloc (.cells #[.int .i64 (E : Nat), .int .i64 0, .slice aP nP cP] 34) := ⟨_, rfl⟩
  obtain ⟨g3, hg3⟩ : ∃ g, g = w3.heap.size := ⟨_, rfl⟩
  have h3b : Below w3.heap.size w3 wb := by rw [hwb]; exact (Below.refl _ _).alloc (Nat.le_refl _) _
  have k3 : wb.cell? ⟨g3, 0, none⟩ = some (.int .i64 (E : Nat)) := by rw [hwb, hg3]; simp [go_sem]
  have HBB : Hid (Below wa.heap.size wa wb) := HB9.out.trans ((hb3.trans (h3b.mono hb3.size)).mono HB9.out.size)
  have HRD : Hid (∀ W, Below wb.heap.size wb W → RdB W a3 n3 L) := fun W hW => (hrd3.keep h3b).keep hW
  have HN : Hid (L.length = n3) := hrd3.1
  have HAC : Hid (a3 = none → c3 = 0) := hac.1
  have HHC : Hid (n3 ≤ c3) := hac.2
  clear hE hL hrd3 hac hnP hmP hrP hcP hb3 h3b f0 f1 f2 f3 f4 f5 f6 f7 f8 l0
  go_upto_region 6 with fail
  rw [← hwb, ← hg3]
  clear hwb hg3
  by_cases he : E = 0
  case neg =>
    have n0 : ((E : Int) != 0) = true := by simpa using he
    clear he
    go_wp2_with fail
    go_ret
    exact ⟨rfl, HBA.out.trans (HBB.out.mono HBA.out.size)⟩
  subst he
  have he := HE.out.symm
  have hB : encB t = docOf (kidsB t.kids) := by unfold encB; rw [if_pos he]
  have hlen : (encB t).length ≤ 14400 ∧ 5 ≤ (encB t).length ∧ ((encB t).length : Int) = sizeT t := by
    have h1 := sizeT_bd t
    have h2 := HWT.out
    have hv := val_size t _ _ (enc_ok.1 he).1
    have hs := (doc_shape he).1
    have e2 : valB t = docOf (kidsB t.kids) := by rw [hs]; simp [valB, T.kids]
    rw [e2, ← hB] at hv
    have := docOf_len (kidsB t.kids)
    rw [← hB] at this
    omega
  have HLEN := Lib.hid hlen
  have hn3 : n3 ≤ 14400 := by have := HN.out; rw [HL.out] at this; omega
  have hn5 : 5 ≤ n3 := by have := HN.out; rw [HL.out] at this; omega
  have HEE := Lib.hid he
  have hcn : n3 ≤ c3 := HHC.out
  obtain ⟨b0, o0, rfl⟩ : ∃ b o, a3 = some ⟨b, o, none⟩ := by
    obtain ⟨b, o, e, -⟩ := (HRD.out wb (Below.refl _ _)).at 0 (by omega)
    exact ⟨b, o, e⟩
  clear he hlen hB
  obtain ⟨m, hm⟩ : ∃ x, x = placeN K n3 := ⟨_, rfl⟩
  have hmn : m < n3 := by rw [hm]; exact place_lt K n3 (by omega)
  have CB := Lib.hid (bent_calls b0 o0 n3 c3 L wb (HRD.out _ (Below.refl _ _)) (by omega) (by omega) K y hy)
  rw [← hm] at CB
  obtain ⟨M, hM⟩ : ∃ x, x = bentL L m y := ⟨_, rfl⟩
  rw [← hM] at CB
  have HMN : Hid (M ≠ L) := by
    show M ≠ L
    rw [hM]
    exact bentL_ne L m y (by rw [HN.out]; exact hmn) hy HY0.out
  have HML : Hid (M.length = n3) := by show _ = _; rw [hM, bentL_len]; exact HN.out
  clear hm hmn hM
  go_wp2_with fail
  refine CB.out.mono ?_
  rintro e w4 ⟨a6, c6, rfl, hrd, hc6, hb4⟩
  have HR4 := Lib.hid hrd
  have HC6 : Hid (n3 ≤ c6) := hc6
  have HB4 : Hid (Below wb.heap.size wb w4) := hb4
  clear hrd hb4 hc6 k3
  go_wp2_with fail
  refine (limits_calls _).mono ?_
  rintro e w5 ⟨rfl, hb5⟩
  have HR5 := Lib.hid (HR4.out.keep hb5)
  have HB5 : Hid (Below wb.heap.size wb w5) := HB4.out.trans (hb5.mono HB4.out.size)
  clear hb5
  go_wp2_with fail
  refine (decU_calls a6 n3 c6 200 65536 262144 M w5 HR5.out HC6.out (by omega)).mono ?_
  rintro e w6 ⟨r, k1, bits1, hi1, lo1, text1, more1, sub1, ab1, nb1, cb1, ak1, nk1, ck1, hq, rfl, hrd, hb6⟩
  obtain ⟨er, at1, hfo⟩ : ∃ er a, fltOf r = (er, a) := ⟨_, _, rfl⟩
  rw [hfo]
  have HFO := Lib.hid hfo
  have HQ := Lib.hid hq
  obtain ⟨wd, hwd⟩ : ∃ W, W = (w6.alloc (.cells (valCells k1 bits1 hi1 lo1 text1 more1 sub1 ab1 nb1 cb1 ak1 nk1 ck1) 26)).alloc (.cells #[.int .i64 (er : Nat), .int .i64 (at1 : Nat), .slice none 0 0] 34) := ⟨_, rfl⟩
  obtain ⟨g5, hg5⟩ : ∃ g, g = w6.heap.size := ⟨_, rfl⟩
  obtain ⟨g6, hg6⟩ : ∃ g, g = w6.heap.size + 1 := ⟨_, rfl⟩
  have hb60 : Below w6.heap.size w6 (w6.alloc (.cells (valCells k1 bits1 hi1 lo1 text1 more1 sub1 ab1 nb1 cb1 ak1 nk1 ck1) 26)) := (Below.refl _ _).alloc (Nat.le_refl _) _
  have h6d : Below w6.heap.size w6 wd := by rw [hwd]; exact hb60.alloc hb60.size _
  have hbv : BoxV wd g5 (valCells k1 bits1 hi1 lo1 text1 more1 sub1 ab1 nb1 cb1 ak1 nk1 ck1) := by rw [hwd, hg5]; exact (BoxV.new _ _ _).keep ((Below.refl _ _).alloc (Nat.le_refl _) _)
  have hbf : FBx wd g6 er at1 := by
    have := FBx.new (w6.alloc (.cells (valCells k1 bits1 hi1 lo1 text1 more1 sub1 ab1 nb1 cb1 ak1 nk1 ck1) 26)) er at1 34
    rw [hwd, hg6]
    simpa using this
  have HB6 : Hid (Below wb.heap.size wb wd) := HB5.out.trans ((hb6.trans (h6d.mono hb6.size)).mono HB5.out.size)
  have HBE : Hid (Below wa.heap.size wa wd) := HBB.out.trans (HB6.out.mono HBB.out.size)
  have HRT : Hid (RdT wd (treeOf r) (valCells k1 bits1 hi1 lo1 text1 more1 sub1 ab1 nb1 cb1 ak1 nk1 ck1)) := hrd.keep h6d
  have HEND : Hid (∀ W, Below wd.heap.size wd W → Below w.heap.size w W) := fun W hW => HBA.out.trans ((HBE.out.trans (hW.mono HBE.out.size)).mono HBA.out.size)
  clear hb6 hb60 h6d hrd hq hfo
  go_upto_region 10 with fail
  rw [← hwd, ← hg6, ← hg5]
  clear hwd hg6 hg5
  obtain ⟨z0, z1, z2, q0, q1, q2, hz1⟩ := hbf
  obtain ⟨e0, e1, e2, e3, e4, e5, e6, e7, e8, l1⟩ := hbv.nine
  clear q0 q1 q2 hbv
  obtain ⟨f0, f1, f2, f3, f4, f5, f6, f7, f8, l0⟩ := (HBX.out wd HBE.out).nine
  cases r with
  | error p =>
    obtain ⟨e0, a0⟩ := p
    obtain ⟨rfl, rfl⟩ : e0 = er ∧ a0 = at1 := by have := HFO.out; simpa [fltOf] using this
    have hbd := HQ.out.bad
    rw [HML.out] at hbd
    have n0 : ((e0 : Int) != 0) = true := by simp; omega
    have n2 : decide ((a0 : Int) ≤ (n3 : Int)) = true := by simp; omega
    have n3' : a0 ≤ n3 := by omega
    clear hbd
    go_wp2_with fail
    go_ret
    exact ⟨rfl, HEND.out _ (Below.refl _ _)⟩
  | ok f =>
    obtain ⟨rfl, rfl⟩ : er = 0 ∧ at1 = 0 := by have := HFO.out; simp [fltOf] at this; omega
    have hj := (HQ.out.just (by rw [HML.out]; omega)).2.2.2.1
    have hne : t ≠ docT f := by
      rintro rfl
      rw [← HL.out] at hj
      exact HMN.out hj.symm
    have HSM : Hid (sameT t (docT f) = false) := by
      show _ = _
      cases hb : sameT t (docT f) with
      | false => rfl
      | true => exact absurd ((same_eq _ _).1 hb) hne
    have CT := Lib.hid (tsame_all 90000 t (docT f) (by have := HWT.out; omega))
    clear hj hne
    go_wp2_with fail
    refine (CT.out wd _ _ (HT.out wd HBE.out) HRT.out).mono ?_
    rintro e w7 ⟨rfl, hb7⟩
    rw [HSM.out]
    have HB7 := Lib.hid hb7
    clear hb7 z0 z1 z2 hz1 e0 e1 e2 e3 e4 e5 e6 e7 e8 l1 CT f0 f1 f2 f3 f4 f5 f6 f7 f8 l0
    go_wp2_with fail
    go_ret
    exact ⟨rfl, HEND.out _ HB7.out⟩

end Go.Proofs.Ytkcfkdmffbhljaa
