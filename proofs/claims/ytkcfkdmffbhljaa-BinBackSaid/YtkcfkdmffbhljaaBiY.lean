/- BinBack: the walk. -/
import Derived.Test.YtkcfkdmffbhljaaBiU
import Derived.Test.YtkcfkdmffbhljaaBoAp
import Derived.Test.YtkcfkdmffbhljaaFitQ
import Derived.Test.YtkcfkdmffbhljaaBoRG
namespace Go.Proofs.Ytkcfkdmffbhljaa
open Go.RowKit
set_option linter.unusedVariables false
set_option linter.unusedSimpArgs false

set_option maxRecDepth 100000 in
set_option maxHeartbeats 8000000 in
theorem BinBack_walk (w : World) (cs : Array Value) (t : T) (h : RdT w t cs) (d s o : Int) :
    Calls Try.prog 3 #[.agg cs, .agg (limCells d s o)] w fun e w' => e = .returned (.bool true) ∧ Below w.heap.size w w' := by
  obtain ⟨k, bits, hi, lo, text, more, sub, ab, nb, cb, ak, nk, ck, rfl⟩ := h.shape
  obtain ⟨wa, hwa⟩ : ∃ W, W = (w.alloc (.cells (valCells k bits hi lo text more sub ab nb cb ak nk ck) 26)).alloc (.cells #[.int .i64 d, .int .i64 s, .int .i64 o] 28) := ⟨_, rfl⟩
  have hb0 : Below w.heap.size w (w.alloc (.cells (valCells k bits hi lo text more sub ab nb cb ak nk ck) 26)) := (Below.refl _ _).alloc (Nat.le_refl _) _
  have hba : Below w.heap.size w wa := by rw [hwa]; exact hb0.alloc hb0.size _
  obtain ⟨g1, hg1⟩ : ∃ g, g = w.heap.size + 1 := ⟨_, rfl⟩
  have hxa : BoxV wa w.heap.size (valCells k bits hi lo text more sub ab nb cb ak nk ck) := by rw [hwa]; exact (BoxV.new _ _ _).keep ((Below.refl _ _).alloc (Nat.le_refl _) _)
  have hla : LBx wa g1 d s o := by
    have := LBx.new (w.alloc (.cells (valCells k bits hi lo text more sub ab nb cb ak nk ck) 26)) d s o 28
    rw [hwa, hg1]
    simpa using this
  have HBX : Hid (∀ W, Below wa.heap.size wa W → BoxV W w.heap.size (valCells k bits hi lo text more sub ab nb cb ak nk ck)) := fun W hW => hxa.keep hW
  have HLA : Hid (∀ W, Below wa.heap.size wa W → LBx W g1 d s o) := fun W hW => hla.keep hW
  have HBA := Lib.hid hba
  have HT : Hid (∀ W, Below wa.heap.size wa W → RdT W t (valCells k bits hi lo text more sub ab nb cb ak nk ck)) := fun W hW => (h.keep hba).keep hW
  have CS := Lib.hid (fun W h => small_calls t W (valCells k bits hi lo text more sub ab nb cb ak nk ck) h)
  have HBD := Lib.hid h.bd
  obtain ⟨f0, f1, f2, f3, f4, f5, f6, f7, f8, l0⟩ := hxa.nine
  obtain ⟨y0, y1, y2, m0⟩ := hla
  clear hba hb0 h
  go_enter Try.func3, Try.ntmps3
  go_upto_region 1 with fail
  rw [← hwa, ← hg1]
  clear hwa hg1
  go_wp2_with fail
  refine (awake21 _).mono ?_
  rintro e w1 ⟨rfl, hb1⟩
  have HB1 := Lib.hid hb1
  clear hb1 hxa
  clear f0 f1 f2 f3 f4 f5 f6 f7 f8 l0 y0 y1 y2 m0
  obtain ⟨f0, f1, f2, f3, f4, f5, f6, f7, f8, l0⟩ := (HBX.out w1 HB1.out).nine
  obtain ⟨y0, y1, y2, m0⟩ := HLA.out w1 HB1.out
  go_wp2_with fail
  refine (CS.out _ (HT.out _ HB1.out)).mono ?_
  rintro e w2 ⟨rfl, hb2⟩
  have HB2 : Hid (Below wa.heap.size wa w2) := HB1.out.trans (hb2.mono HB1.out.size)
  clear hb2
  clear f0 f1 f2 f3 f4 f5 f6 f7 f8 l0 y0 y1 y2 m0
  obtain ⟨f0, f1, f2, f3, f4, f5, f6, f7, f8, l0⟩ := (HBX.out w2 HB2.out).nine
  obtain ⟨y0, y1, y2, m0⟩ := HLA.out w2 HB2.out
  cases hs : smallT t with
  | false =>
    go_wp2_with fail
    go_ret
    exact ⟨rfl, HBA.out.trans (HB2.out.mono HBA.out.size)⟩
  | true =>
  have hwt := wt_small hs
  have CE := Lib.hid (fun W (h : RdT W t (valCells k bits hi lo text more sub ab nb cb ak nk ck)) => rencode_calls t W _ h (by omega))
  have CF := Lib.hid (fun W (h : RdT W t (valCells k bits hi lo text more sub ab nb cb ak nk ck)) => rfits_calls t (by omega) W _ h d s o)
  have HWT := Lib.hid hwt
  clear hs hwt
  go_wp2_with fail
  refine (CE.out _ (HT.out _ HB2.out)).mono ?_
  rintro e w3 ⟨a3, n3, c3, aP, nP, cP, rfl, hrd3, hac, hnP, hmP, hrP, hcP, hb3⟩
  obtain ⟨E, hE⟩ : ∃ x, x = encE t := ⟨_, rfl⟩
  obtain ⟨L, hL⟩ : ∃ x, x = encB t := ⟨_, rfl⟩
  rw [← hE]
  rw [← hL] at hrd3
  have HE := Lib.hid hE
  have HL := Lib.hid hL
  obtain ⟨wb, hwb⟩ : ∃ W, W = w3.alloc (.cells #[.int .i64 (E : Nat), .int .i64 0, .slice aP nP cP] 34) := ⟨_, rfl⟩
  obtain ⟨g3, hg3⟩ : ∃ g, g = w3.heap.size := ⟨_, rfl⟩
  have h3b : Below w3.heap.size w3 wb := by rw [hwb]; exact (Below.refl _ _).alloc (Nat.le_refl _) _
  have k3 : wb.cell? ⟨g3, 0, none⟩ = some (.int .i64 (E : Nat)) := by rw [hwb, hg3]; simp [go_sem]
  have HBB : Hid (Below wa.heap.size wa wb) := HB2.out.trans ((hb3.trans (h3b.mono hb3.size)).mono HB2.out.size)
  have HRD : Hid (∀ W, Below wb.heap.size wb W → RdB W a3 n3 L) := fun W hW => (hrd3.keep h3b).keep hW
  have HN : Hid (L.length = n3) := hrd3.1
  have HHC : Hid (n3 ≤ c3) := hac.2
  clear hE hL hrd3 hac hnP hmP hrP hcP hb3 h3b f0 f1 f2 f3 f4 f5 f6 f7 f8 l0 y0 y1 y2 m0
  go_upto_region 6 with fail
  rw [← hwb, ← hg3]
  clear hwb hg3
  obtain ⟨f0, f1, f2, f3, f4, f5, f6, f7, f8, l0⟩ := (HBX.out wb HBB.out).nine
  obtain ⟨y0, y1, y2, m0⟩ := HLA.out wb HBB.out
  by_cases he : E = 0
  case neg =>
    have n0 : ((E : Int) != 0) = true := by simpa using he
    clear he
    go_wp2_with fail
    go_ret
    exact ⟨rfl, HBA.out.trans (HBB.out.mono HBA.out.size)⟩
  subst he
  have he := HE.out.symm
  have hlen : (encB t).length ≤ 14400 := by
    have h1 := sizeT_bd t
    have h2 := HWT.out
    have hB : encB t = docOf (kidsB t.kids) := by unfold encB; rw [if_pos he]
    have hv := val_size t _ _ (enc_ok.1 he).1
    have hs := (doc_shape he).1
    have e2 : valB t = docOf (kidsB t.kids) := by rw [hs]; simp [valB, T.kids]
    rw [e2, ← hB] at hv
    omega
  have hn3 : n3 ≤ 14400 := by have := HN.out; rw [HL.out] at this; omega
  have HLEN := Lib.hid hlen
  have HEE := Lib.hid he
  clear he hlen
  go_wp2_with fail
  refine (decU_calls a3 n3 c3 d s o L wb (HRD.out _ (Below.refl _ _)) HHC.out (by omega)).mono ?_
  rintro e w5 ⟨x, k2, bits2, hi2, lo2, text2, more2, sub2, ab2, nb2, cb2, ak2, nk2, ck2, hq, rfl, hrd, hb5⟩
  obtain ⟨er2, at2, hfo⟩ : ∃ er a, fltOf x = (er, a) := ⟨_, _, rfl⟩
  rw [hfo]
  have HFO2 := Lib.hid hfo
  have HQ2 := Lib.hid hq
  obtain ⟨wd, hwd⟩ : ∃ W, W = (w5.alloc (.cells (valCells k2 bits2 hi2 lo2 text2 more2 sub2 ab2 nb2 cb2 ak2 nk2 ck2) 26)).alloc (.cells #[.int .i64 (er2 : Nat), .int .i64 (at2 : Nat), .slice none 0 0] 34) := ⟨_, rfl⟩
  obtain ⟨g5, hg5⟩ : ∃ g, g = w5.heap.size := ⟨_, rfl⟩
  obtain ⟨g6, hg6⟩ : ∃ g, g = w5.heap.size + 1 := ⟨_, rfl⟩
  have hb50 : Below w5.heap.size w5 (w5.alloc (.cells (valCells k2 bits2 hi2 lo2 text2 more2 sub2 ab2 nb2 cb2 ak2 nk2 ck2) 26)) := (Below.refl _ _).alloc (Nat.le_refl _) _
  have h5d : Below w5.heap.size w5 wd := by rw [hwd]; exact hb50.alloc hb50.size _
  have hbv : BoxV wd g5 (valCells k2 bits2 hi2 lo2 text2 more2 sub2 ab2 nb2 cb2 ak2 nk2 ck2) := by rw [hwd, hg5]; exact (BoxV.new _ _ _).keep ((Below.refl _ _).alloc (Nat.le_refl _) _)
  have hbf : FBx wd g6 er2 at2 := by
    have := FBx.new (w5.alloc (.cells (valCells k2 bits2 hi2 lo2 text2 more2 sub2 ab2 nb2 cb2 ak2 nk2 ck2) 26)) er2 at2 34
    rw [hwd, hg6]
    simpa using this
  have HBD2 : Hid (Below wa.heap.size wa wd) := HBB.out.trans ((hb5.trans (h5d.mono hb5.size)).mono HBB.out.size)
  have HBV : Hid (∀ W, Below wd.heap.size wd W → BoxV W g5 (valCells k2 bits2 hi2 lo2 text2 more2 sub2 ab2 nb2 cb2 ak2 nk2 ck2)) := fun W hW => hbv.keep hW
  have HBF : Hid (∀ W, Below wd.heap.size wd W → FBx W g6 er2 at2) := fun W hW => hbf.keep hW
  have HRT2 : Hid (∀ W, Below wd.heap.size wd W → RdT W (treeOf x) (valCells k2 bits2 hi2 lo2 text2 more2 sub2 ab2 nb2 cb2 ak2 nk2 ck2)) := fun W hW => (hrd.keep h5d).keep hW
  clear hb5 hb50 h5d hrd hq hfo hbv hbf k3 f0 f1 f2 f3 f4 f5 f6 f7 f8 l0 y0 y1 y2 m0
  go_upto_region 9 with fail
  rw [← hwd, ← hg6, ← hg5]
  clear hwd hg5 hg6
  obtain ⟨f0, f1, f2, f3, f4, f5, f6, f7, f8, l0⟩ := (HBX.out wd HBD2.out).nine
  obtain ⟨y0, y1, y2, m0⟩ := HLA.out wd HBD2.out
  go_wp2_with fail
  refine (CF.out _ (HT.out _ HBD2.out)).mono ?_
  rintro e w6 ⟨rfl, hb6⟩
  have HB6 := Lib.hid hb6
  have HBE : Hid (Below wa.heap.size wa w6) := HBD2.out.trans (hb6.mono HBD2.out.size)
  have HEND : Hid (∀ W, Below w6.heap.size w6 W → Below w.heap.size w W) := fun W hW => HBA.out.trans ((HBE.out.trans (hW.mono HBE.out.size)).mono HBA.out.size)
  clear hb6 f0 f1 f2 f3 f4 f5 f6 f7 f8 l0 y0 y1 y2 m0
  have hback := DecQ.back HEE.out HBD.out.kids (by have := HLEN.out; omega) (by rw [← HL.out]; exact HQ2.out)
  have hk3 : t.kind = 3 := (enc_ok.1 HEE.out).2
  obtain ⟨f0, f1, f2, f3, f4, f5, f6, f7, f8, l0⟩ := (HBX.out w6 HBE.out).nine
  obtain ⟨y0, y1, y2, m0⟩ := HLA.out w6 HBE.out
  obtain ⟨z0, z1, z2, q0, q1, q2, hz1⟩ := HBF.out w6 HB6.out
  obtain ⟨e0, e1, e2, e3, e4, e5, e6, e7, e8, l1⟩ := (HBV.out w6 HB6.out).nine
  clear q0 q1 q2
  by_cases hm : mayS d s o = false
  · have hfs : fitsS t d s o = 1 := by unfold fitsS fitsN; rw [if_pos hm]
    obtain rfl := hback.1 hm
    obtain ⟨rfl, rfl⟩ : er2 = 1 ∧ at2 = 0 := by have := HFO2.out; simp [fltOf] at this; omega
    rw [hfs]
    clear hfs hback hm hk3
    go_wp2_with fail
    go_ret
    exact ⟨rfl, HEND.out _ (Below.refl _ _)⟩
  have hm' : mayS d s o = true := by simpa using hm
  by_cases hd : d < depT t
  · have hfs : fitsS t d s o = 8 := by unfold fitsS fitsN; rw [if_neg hm, if_neg (by simp [hk3]), if_pos hd]
    obtain ⟨e9, a9, rfl, h89⟩ := hback.2.2 hm' (.inl hd)
    obtain ⟨rfl, rfl⟩ : e9 = er2 ∧ a9 = at2 := by have := HFO2.out; simpa [fltOf] using this
    rw [hfs]
    clear hfs hback hm hk3 hm' hd
    rcases h89 with rfl | rfl
    all_goals
      go_wp2_with fail
      go_ret
      exact ⟨rfl, HEND.out _ (Below.refl _ _)⟩
  by_cases hs : s < sizeT t
  · have hfs : fitsS t d s o = 9 := by unfold fitsS fitsN; rw [if_neg hm, if_neg (by simp [hk3]), if_neg hd, if_pos hs]
    obtain ⟨e9, a9, rfl, h89⟩ := hback.2.2 hm' (.inr hs)
    obtain ⟨rfl, rfl⟩ : e9 = er2 ∧ a9 = at2 := by have := HFO2.out; simpa [fltOf] using this
    rw [hfs]
    clear hfs hback hm hk3 hm' hd hs
    rcases h89 with rfl | rfl
    all_goals
      go_wp2_with fail
      go_ret
      exact ⟨rfl, HEND.out _ (Below.refl _ _)⟩
  have hfs : fitsS t d s o = 0 := by unfold fitsS fitsN; rw [if_neg hm, if_neg (by simp [hk3]), if_neg hd, if_neg hs]
  obtain ⟨rfl, ht⟩ := hback.2.1 hm' (by omega) (by omega)
  obtain ⟨rfl, rfl⟩ : er2 = 0 ∧ at2 = 0 := by have := HFO2.out; simp [fltOf] at this; omega
  have CT := Lib.hid (tsame_all 90000 t (docT t.kids) (by have := HWT.out; omega))
  have HSM : Hid (sameT t (docT t.kids) = true) := (same_eq _ _).2 ht
  rw [hfs]
  clear hfs hback hm hk3 hm' hd hs ht
  go_wp2_with fail
  refine (CT.out w6 _ _ (HT.out w6 HBE.out) (HRT2.out w6 HB6.out)).mono ?_
  rintro e w7 ⟨rfl, hb7⟩
  rw [HSM.out]
  have HB7 := Lib.hid hb7
  clear hb7 z0 z1 z2 hz1 e0 e1 e2 e3 e4 e5 e6 e7 e8 l1 CT f0 f1 f2 f3 f4 f5 f6 f7 f8 l0 y0 y1 y2 m0
  go_wp2_with fail
  go_ret
  exact ⟨rfl, HEND.out _ HB7.out⟩

end Go.Proofs.Ytkcfkdmffbhljaa
