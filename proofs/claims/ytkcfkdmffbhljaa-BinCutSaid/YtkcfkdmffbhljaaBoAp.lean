/- BoutApart: the walk. -/
import Derived.Test.YtkcfkdmffbhljaaBoCo
import Derived.Test.YtkcfkdmffbhljaaMP
import Derived.Deep.RegionHeld3
namespace Go.Proofs.Ytkcfkdmffbhljaa
open Go.RowKit
set_option linter.unusedVariables false
set_option linter.unusedSimpArgs false

mutual
theorem RdT.bd {w : World} : ∀ {t : T} {c : Array Value}, RdT w t c → bdT t
  | .mk .., c, h => by
    obtain ⟨ab, nb, cb, ak, nk, ck, h1, h2, h3, h4, h5, h6⟩ := h
    exact ⟨h2.2.1, h2.2.2.1, h2.2.2.2.1, RdKs.bd h6⟩
theorem RdKs.bd {w : World} {a : Option Addr} : ∀ {i : Nat} {f : F}, RdKs w a i f → bdF f
  | _, .nil, _ => trivial
  | i, .cons n t r, h => by
    obtain ⟨⟨b, o, c, h1, h2, h3, h4, h5⟩, h6⟩ := h
    exact ⟨h5.bd, h6.bd⟩
end
theorem bdT.kids {t : T} (h : bdT t) : bdF t.kids := by
  obtain ⟨k, bits, hi, lo, s, m, sub, l, f⟩ := t
  exact h.2.2.2

set_option maxRecDepth 100000 in
set_option maxHeartbeats 8000000 in
theorem BoutApart_walk (w : World) (c : Array Value) (t : T) (h : RdT w t c) (c2 : Array Value) (u : T) (h2 : RdT w u c2) :
    Calls Try.prog 10 #[.agg c, .agg c2] w fun e w' => e = .returned (.bool true) ∧ Below w.heap.size w w' := by
  obtain ⟨ka, bitsa, hia, loa, texta, morea, suba, aba, nba, cba, aka, nka, cka, rfl⟩ := h.shape
  obtain ⟨kb, bitsb, hib, lob, textb, moreb, subb, abb, nbb, cbb, akb, nkb, ckb, rfl⟩ := h2.shape
  obtain ⟨wa, hwa⟩ : ∃ W, W = (w.alloc (.cells (valCells ka bitsa hia loa texta morea suba aba nba cba aka nka cka) 26)).alloc (.cells (valCells kb bitsb hib lob textb moreb subb abb nbb cbb akb nkb ckb) 26) := ⟨_, rfl⟩
  have hb0 : Below w.heap.size w (w.alloc (.cells (valCells ka bitsa hia loa texta morea suba aba nba cba aka nka cka) 26)) := (Below.refl _ _).alloc (Nat.le_refl _) _
  have hba : Below w.heap.size w wa := by rw [hwa]; exact hb0.alloc hb0.size _
  obtain ⟨g1, hg1⟩ : ∃ g, g = w.heap.size + 1 := ⟨_, rfl⟩
  have hxa : BoxV wa w.heap.size (valCells ka bitsa hia loa texta morea suba aba nba cba aka nka cka) := by rw [hwa]; exact (BoxV.new _ _ _).keep ((Below.refl _ _).alloc (Nat.le_refl _) _)
  have hxb : BoxV wa g1 (valCells kb bitsb hib lob textb moreb subb abb nbb cbb akb nkb ckb) := by
    have := BoxV.new (w.alloc (.cells (valCells ka bitsa hia loa texta morea suba aba nba cba aka nka cka) 26)) (valCells kb bitsb hib lob textb moreb subb abb nbb cbb akb nkb ckb) 26
    rw [hwa, hg1]
    simpa using this
  have HBX : Hid (∀ W, Below wa.heap.size wa W → BoxV W w.heap.size (valCells ka bitsa hia loa texta morea suba aba nba cba aka nka cka)) := fun W hW => hxa.keep hW
  have HBY : Hid (∀ W, Below wa.heap.size wa W → BoxV W g1 (valCells kb bitsb hib lob textb moreb subb abb nbb cbb akb nkb ckb)) := fun W hW => hxb.keep hW
  have HBA := Lib.hid hba
  have HT : Hid (∀ W, Below wa.heap.size wa W → RdT W t (valCells ka bitsa hia loa texta morea suba aba nba cba aka nka cka)) := fun W hW => (h.keep hba).keep hW
  have HU : Hid (∀ W, Below wa.heap.size wa W → RdT W u (valCells kb bitsb hib lob textb moreb subb abb nbb cbb akb nkb ckb)) := fun W hW => (h2.keep hba).keep hW
  have CS := Lib.hid (fun W h => small_calls t W (valCells ka bitsa hia loa texta morea suba aba nba cba aka nka cka) h)
  have CU := Lib.hid (fun W h => small_calls u W (valCells kb bitsb hib lob textb moreb subb abb nbb cbb akb nkb ckb) h)
  have HG1 : Hid (w.heap.size + 1 = g1) := hg1.symm
  have hbt := h.bd
  have hbu := h2.bd
  obtain ⟨f0, f1, f2, f3, f4, f5, f6, f7, f8, l0⟩ := hxa.nine
  obtain ⟨e0, e1, e2, e3, e4, e5, e6, e7, e8, m0⟩ := hxb.nine
  clear hba hxa hxb hb0 h h2
  cases hs : smallT t with
  | false =>
    rw [hs] at CS
    clear hs
    go_enter Try.func10, Try.ntmps10
    go_upto_region 1 with fail
    rw [← hwa, ← hg1]
    clear hwa hg1
    go_wp2_with fail
    refine (awake20 _).mono ?_
    rintro e w1 ⟨rfl, hb1⟩
    have HB1 := Lib.hid hb1
    clear f0 f1 f2 f3 f4 f5 f6 f7 f8 l0 e0 e1 e2 e3 e4 e5 e6 e7 e8 m0
    obtain ⟨f0, f1, f2, f3, f4, f5, f6, f7, f8, l0⟩ := (HBX.out w1 HB1.out).nine
    obtain ⟨e0, e1, e2, e3, e4, e5, e6, e7, e8, m0⟩ := (HBY.out w1 HB1.out).nine
    clear hb1
    go_wp2_with fail
    refine (CS.out _ (HT.out _ HB1.out)).mono ?_
    rintro e w2 ⟨rfl, hb2⟩
    have HB2 : Hid (Below wa.heap.size wa w2) := HB1.out.trans (hb2.mono HB1.out.size)
    clear f0 f1 f2 f3 f4 f5 f6 f7 f8 l0 e0 e1 e2 e3 e4 e5 e6 e7 e8 m0
    obtain ⟨f0, f1, f2, f3, f4, f5, f6, f7, f8, l0⟩ := (HBX.out w2 HB2.out).nine
    obtain ⟨e0, e1, e2, e3, e4, e5, e6, e7, e8, m0⟩ := (HBY.out w2 HB2.out).nine
    clear hb2
    go_wp2_with fail
    go_ret
    exact ⟨rfl, HBA.out.trans (HB2.out.mono HBA.out.size)⟩
  | true =>
    have hwt := wt_small hs
    rw [hs] at CS
    clear hs
    cases hs2 : smallT u with
    | false =>
      rw [hs2] at CU
      clear hs2 hwt
      go_enter Try.func10, Try.ntmps10
      go_upto_region 1 with fail
      rw [← hwa, ← hg1]
      clear hwa hg1
      go_wp2_with fail
      refine (awake20 _).mono ?_
      rintro e w1 ⟨rfl, hb1⟩
      have HB1 := Lib.hid hb1
      clear f0 f1 f2 f3 f4 f5 f6 f7 f8 l0 e0 e1 e2 e3 e4 e5 e6 e7 e8 m0
      obtain ⟨f0, f1, f2, f3, f4, f5, f6, f7, f8, l0⟩ := (HBX.out w1 HB1.out).nine
      obtain ⟨e0, e1, e2, e3, e4, e5, e6, e7, e8, m0⟩ := (HBY.out w1 HB1.out).nine
      clear hb1
      go_wp2_with fail
      refine (CS.out _ (HT.out _ HB1.out)).mono ?_
      rintro e w2 ⟨rfl, hb2⟩
      have HB2 : Hid (Below wa.heap.size wa w2) := HB1.out.trans (hb2.mono HB1.out.size)
      clear f0 f1 f2 f3 f4 f5 f6 f7 f8 l0 e0 e1 e2 e3 e4 e5 e6 e7 e8 m0
      obtain ⟨f0, f1, f2, f3, f4, f5, f6, f7, f8, l0⟩ := (HBX.out w2 HB2.out).nine
      obtain ⟨e0, e1, e2, e3, e4, e5, e6, e7, e8, m0⟩ := (HBY.out w2 HB2.out).nine
      clear hb2
      go_wp2_with fail
      refine (CU.out _ (HU.out _ HB2.out)).mono ?_
      rintro e w3 ⟨rfl, hb3⟩
      have HB3 : Hid (Below wa.heap.size wa w3) := HB2.out.trans (hb3.mono HB2.out.size)
      clear f0 f1 f2 f3 f4 f5 f6 f7 f8 l0 e0 e1 e2 e3 e4 e5 e6 e7 e8 m0
      obtain ⟨f0, f1, f2, f3, f4, f5, f6, f7, f8, l0⟩ := (HBX.out w3 HB3.out).nine
      obtain ⟨e0, e1, e2, e3, e4, e5, e6, e7, e8, m0⟩ := (HBY.out w3 HB3.out).nine
      clear hb3
      go_wp2_with fail
      go_ret
      exact ⟨rfl, HBA.out.trans (HB3.out.mono HBA.out.size)⟩
    | true =>
      have hwu := wt_small hs2
      rw [hs2] at CU
      have CE := Lib.hid (fun W (h : RdT W t (valCells ka bitsa hia loa texta morea suba aba nba cba aka nka cka)) => encode_calls t W _ h (by omega))
      have CF := Lib.hid (fun W (h : RdT W u (valCells kb bitsb hib lob textb moreb subb abb nbb cbb akb nkb ckb)) => encode_calls u W _ h (by omega))
      have CT := Lib.hid (fun W (h : RdT W t (valCells ka bitsa hia loa texta morea suba aba nba cba aka nka cka)) (h2 : RdT W u (valCells kb bitsb hib lob textb moreb subb abb nbb cbb akb nkb ckb)) => tsame_all t.wt t u (Nat.le_refl _) W _ _ h h2)
      obtain ⟨E, hE⟩ : ∃ E, E = encE t := ⟨_, rfl⟩
      obtain ⟨L, hL⟩ : ∃ L, L = encB t := ⟨_, rfl⟩
      obtain ⟨E2, hE2⟩ : ∃ E, E = encE u := ⟨_, rfl⟩
      obtain ⟨L2, hL2⟩ : ∃ L, L = encB u := ⟨_, rfl⟩
      obtain ⟨D, hD⟩ : ∃ D, D = sameT t u := ⟨_, rfl⟩
      rw [← hD] at CT
      have hbl := encB_len t
      have hap : E = 0 → E2 = 0 → (L == L2) = D := fun x y => by
        have := enc_apart (hE.symm.trans x) (hE2.symm.trans y) hbt.kids hbu.kids (by omega)
        rw [← hL, ← hL2] at this
        rw [hD, Bool.eq_iff_iff, same_eq, beq_iff_eq, this]
      have hl0 : E ≠ 0 → L.length = 0 := fun x => by rw [hL]; unfold encB; rw [if_neg (by rw [← hE]; exact x)]; rfl
      have hl1 : E2 ≠ 0 → L2.length = 0 := fun x => by rw [hL2]; unfold encB; rw [if_neg (by rw [← hE2]; exact x)]; rfl
      have HE := Lib.hid hE
      have HL := Lib.hid hL
      have HE2 := Lib.hid hE2
      have HL2 := Lib.hid hL2
      have HAP := Lib.hid hap
      have HL0 := Lib.hid hl0
      have HL1 := Lib.hid hl1
      clear hs2 hwt hwu hE hL hE2 hL2 hD hap hl0 hl1 hbt hbu hbl
      by_cases x1 : E = 0
      case neg =>
        have hne : ((E : Int) != 0) = true := by simpa using x1
        go_enter Try.func10, Try.ntmps10
        go_upto_region 1 with fail
        rw [← hwa, ← hg1]
        clear hwa hg1
        go_wp2_with fail
        refine (awake20 _).mono ?_
        rintro e w1 ⟨rfl, hb1⟩
        have HB1 := Lib.hid hb1
        clear f0 f1 f2 f3 f4 f5 f6 f7 f8 l0 e0 e1 e2 e3 e4 e5 e6 e7 e8 m0
        obtain ⟨f0, f1, f2, f3, f4, f5, f6, f7, f8, l0⟩ := (HBX.out w1 HB1.out).nine
        obtain ⟨e0, e1, e2, e3, e4, e5, e6, e7, e8, m0⟩ := (HBY.out w1 HB1.out).nine
        clear hb1
        go_wp2_with fail
        refine (CS.out _ (HT.out _ HB1.out)).mono ?_
        rintro e w2 ⟨rfl, hb2⟩
        have HB2 : Hid (Below wa.heap.size wa w2) := HB1.out.trans (hb2.mono HB1.out.size)
        clear f0 f1 f2 f3 f4 f5 f6 f7 f8 l0 e0 e1 e2 e3 e4 e5 e6 e7 e8 m0
        obtain ⟨f0, f1, f2, f3, f4, f5, f6, f7, f8, l0⟩ := (HBX.out w2 HB2.out).nine
        obtain ⟨e0, e1, e2, e3, e4, e5, e6, e7, e8, m0⟩ := (HBY.out w2 HB2.out).nine
        clear hb2
        go_wp2_with fail
        refine (CU.out _ (HU.out _ HB2.out)).mono ?_
        rintro e w3 ⟨rfl, hb3⟩
        have HB3 : Hid (Below wa.heap.size wa w3) := HB2.out.trans (hb3.mono HB2.out.size)
        clear f0 f1 f2 f3 f4 f5 f6 f7 f8 l0 e0 e1 e2 e3 e4 e5 e6 e7 e8 m0
        obtain ⟨f0, f1, f2, f3, f4, f5, f6, f7, f8, l0⟩ := (HBX.out w3 HB3.out).nine
        obtain ⟨e0, e1, e2, e3, e4, e5, e6, e7, e8, m0⟩ := (HBY.out w3 HB3.out).nine
        clear hb3
        go_wp2_with fail
        refine (CE.out _ (HT.out _ HB3.out)).mono ?_
        rintro e w4 ⟨a4, n4, c4, aP, nP, cP, rfl, hrd4, hac4, hnP, hmP, hrP, hcP, hb4⟩
        have HB4 : Hid (Below wa.heap.size wa w4) := HB3.out.trans (hb4.mono HB3.out.size)
        rw [← HE.out]
        rw [← HL.out] at hrd4
        have HN4 := Lib.hid hrd4.1
        obtain ⟨wb, hwb⟩ : ∃ W, W = w4.alloc (.cells #[.int .i64 (E : Nat), .int .i64 0, .slice aP nP cP] 34) := ⟨_, rfl⟩
        have h4b : Below w4.heap.size w4 wb := by rw [hwb]; exact (Below.refl _ _).alloc (Nat.le_refl _) _
        have HBB : Hid (Below wa.heap.size wa wb) := HB4.out.trans (h4b.mono HB4.out.size)
        obtain ⟨g2, hg2⟩ : ∃ g, g = w4.heap.size := ⟨_, rfl⟩
        have k0 : wb.cell? ⟨g2, 0, none⟩ = some (.int .i64 (E : Nat)) := by rw [hwb, hg2]; simp [go_sem]
        have K0 := Lib.hid k0
        have HRB := Lib.hid (hrd4.keep h4b)
        clear f0 f1 f2 f3 f4 f5 f6 f7 f8 l0 e0 e1 e2 e3 e4 e5 e6 e7 e8 m0
        obtain ⟨f0, f1, f2, f3, f4, f5, f6, f7, f8, l0⟩ := (HBX.out w4 HB4.out).nine
        obtain ⟨e0, e1, e2, e3, e4, e5, e6, e7, e8, m0⟩ := (HBY.out w4 HB4.out).nine
        clear hb4 hrd4 hrP hnP h4b k0 hmP
        go_upto_region 6 with fail
        rw [← hwb, ← hg2]
        clear hwb hg2
        clear f0 f1 f2 f3 f4 f5 f6 f7 f8 l0 e0 e1 e2 e3 e4 e5 e6 e7 e8 m0
        obtain ⟨f0, f1, f2, f3, f4, f5, f6, f7, f8, l0⟩ := (HBX.out wb HBB.out).nine
        obtain ⟨e0, e1, e2, e3, e4, e5, e6, e7, e8, m0⟩ := (HBY.out wb HBB.out).nine
        go_wp2_with fail
        refine (CF.out _ (HU.out _ HBB.out)).mono ?_
        rintro e w5 ⟨a5, n5, c5, aQ, nQ, cQ, rfl, hrd5, hac5, hnQ, hmQ, hrQ, hcQ, hb5⟩
        have HB5 : Hid (Below wa.heap.size wa w5) := HBB.out.trans (hb5.mono HBB.out.size)
        rw [← HE2.out]
        rw [← HL2.out] at hrd5
        have HN5 := Lib.hid hrd5.1
        obtain ⟨wd, hwd⟩ : ∃ W, W = w5.alloc (.cells #[.int .i64 (E2 : Nat), .int .i64 0, .slice aQ nQ cQ] 34) := ⟨_, rfl⟩
        have h5d : Below w5.heap.size w5 wd := by rw [hwd]; exact (Below.refl _ _).alloc (Nat.le_refl _) _
        have HBD : Hid (Below wa.heap.size wa wd) := HB5.out.trans (h5d.mono HB5.out.size)
        obtain ⟨g3, hg3⟩ : ∃ g, g = w5.heap.size := ⟨_, rfl⟩
        have j0 : wd.cell? ⟨g3, 0, none⟩ = some (.int .i64 (E2 : Nat)) := by rw [hwd, hg3]; simp [go_sem]
        have k0 : wd.cell? ⟨g2, 0, none⟩ = some (.int .i64 (E : Nat)) := cell_below (hb5.trans (h5d.mono hb5.size)) K0.out
        have J0 := Lib.hid j0
        have K1 := Lib.hid k0
        have HRD := Lib.hid (hrd5.keep h5d)
        have HRE := Lib.hid ((HRB.out.keep hb5).keep ((Below.refl _ _).trans h5d))
        clear f0 f1 f2 f3 f4 f5 f6 f7 f8 l0 e0 e1 e2 e3 e4 e5 e6 e7 e8 m0
        obtain ⟨f0, f1, f2, f3, f4, f5, f6, f7, f8, l0⟩ := (HBX.out w5 HB5.out).nine
        obtain ⟨e0, e1, e2, e3, e4, e5, e6, e7, e8, m0⟩ := (HBY.out w5 HB5.out).nine
        clear hb5 hrd5 hrQ hnQ h5d k0 j0 hmQ
        go_upto_region 7 with fail
        rw [← hwd, ← hg3]
        clear hwd hg3
        clear f0 f1 f2 f3 f4 f5 f6 f7 f8 l0 e0 e1 e2 e3 e4 e5 e6 e7 e8 m0
        obtain ⟨f0, f1, f2, f3, f4, f5, f6, f7, f8, l0⟩ := (HBX.out wd HBD.out).nine
        obtain ⟨e0, e1, e2, e3, e4, e5, e6, e7, e8, m0⟩ := (HBY.out wd HBD.out).nine
        have j0 := J0.out
        have k0 := K1.out
        obtain rfl : 0 = n4 := (HL0.out x1).symm.trans HN4.out
        clear x1
        go_wp2_with fail
        go_ret
        exact ⟨rfl, HBA.out.trans (HBD.out.mono HBA.out.size)⟩
      have hz1 : ((E : Int) != 0) = false := by simp [x1]
      have X1 := Lib.hid x1
      clear x1
      by_cases x2 : E2 = 0
      case neg =>
        have hne : ((E2 : Int) != 0) = true := by simpa using x2
        go_enter Try.func10, Try.ntmps10
        go_upto_region 1 with fail
        rw [← hwa, ← hg1]
        clear hwa hg1
        go_wp2_with fail
        refine (awake20 _).mono ?_
        rintro e w1 ⟨rfl, hb1⟩
        have HB1 := Lib.hid hb1
        clear f0 f1 f2 f3 f4 f5 f6 f7 f8 l0 e0 e1 e2 e3 e4 e5 e6 e7 e8 m0
        obtain ⟨f0, f1, f2, f3, f4, f5, f6, f7, f8, l0⟩ := (HBX.out w1 HB1.out).nine
        obtain ⟨e0, e1, e2, e3, e4, e5, e6, e7, e8, m0⟩ := (HBY.out w1 HB1.out).nine
        clear hb1
        go_wp2_with fail
        refine (CS.out _ (HT.out _ HB1.out)).mono ?_
        rintro e w2 ⟨rfl, hb2⟩
        have HB2 : Hid (Below wa.heap.size wa w2) := HB1.out.trans (hb2.mono HB1.out.size)
        clear f0 f1 f2 f3 f4 f5 f6 f7 f8 l0 e0 e1 e2 e3 e4 e5 e6 e7 e8 m0
        obtain ⟨f0, f1, f2, f3, f4, f5, f6, f7, f8, l0⟩ := (HBX.out w2 HB2.out).nine
        obtain ⟨e0, e1, e2, e3, e4, e5, e6, e7, e8, m0⟩ := (HBY.out w2 HB2.out).nine
        clear hb2
        go_wp2_with fail
        refine (CU.out _ (HU.out _ HB2.out)).mono ?_
        rintro e w3 ⟨rfl, hb3⟩
        have HB3 : Hid (Below wa.heap.size wa w3) := HB2.out.trans (hb3.mono HB2.out.size)
        clear f0 f1 f2 f3 f4 f5 f6 f7 f8 l0 e0 e1 e2 e3 e4 e5 e6 e7 e8 m0
        obtain ⟨f0, f1, f2, f3, f4, f5, f6, f7, f8, l0⟩ := (HBX.out w3 HB3.out).nine
        obtain ⟨e0, e1, e2, e3, e4, e5, e6, e7, e8, m0⟩ := (HBY.out w3 HB3.out).nine
        clear hb3
        go_wp2_with fail
        refine (CE.out _ (HT.out _ HB3.out)).mono ?_
        rintro e w4 ⟨a4, n4, c4, aP, nP, cP, rfl, hrd4, hac4, hnP, hmP, hrP, hcP, hb4⟩
        have HB4 : Hid (Below wa.heap.size wa w4) := HB3.out.trans (hb4.mono HB3.out.size)
        rw [← HE.out]
        rw [← HL.out] at hrd4
        have HN4 := Lib.hid hrd4.1
        obtain ⟨wb, hwb⟩ : ∃ W, W = w4.alloc (.cells #[.int .i64 (E : Nat), .int .i64 0, .slice aP nP cP] 34) := ⟨_, rfl⟩
        have h4b : Below w4.heap.size w4 wb := by rw [hwb]; exact (Below.refl _ _).alloc (Nat.le_refl _) _
        have HBB : Hid (Below wa.heap.size wa wb) := HB4.out.trans (h4b.mono HB4.out.size)
        obtain ⟨g2, hg2⟩ : ∃ g, g = w4.heap.size := ⟨_, rfl⟩
        have k0 : wb.cell? ⟨g2, 0, none⟩ = some (.int .i64 (E : Nat)) := by rw [hwb, hg2]; simp [go_sem]
        have K0 := Lib.hid k0
        have HRB := Lib.hid (hrd4.keep h4b)
        clear f0 f1 f2 f3 f4 f5 f6 f7 f8 l0 e0 e1 e2 e3 e4 e5 e6 e7 e8 m0
        obtain ⟨f0, f1, f2, f3, f4, f5, f6, f7, f8, l0⟩ := (HBX.out w4 HB4.out).nine
        obtain ⟨e0, e1, e2, e3, e4, e5, e6, e7, e8, m0⟩ := (HBY.out w4 HB4.out).nine
        clear hb4 hrd4 hrP hnP h4b k0 hmP
        go_upto_region 6 with fail
        rw [← hwb, ← hg2]
        clear hwb hg2
        clear f0 f1 f2 f3 f4 f5 f6 f7 f8 l0 e0 e1 e2 e3 e4 e5 e6 e7 e8 m0
        obtain ⟨f0, f1, f2, f3, f4, f5, f6, f7, f8, l0⟩ := (HBX.out wb HBB.out).nine
        obtain ⟨e0, e1, e2, e3, e4, e5, e6, e7, e8, m0⟩ := (HBY.out wb HBB.out).nine
        go_wp2_with fail
        refine (CF.out _ (HU.out _ HBB.out)).mono ?_
        rintro e w5 ⟨a5, n5, c5, aQ, nQ, cQ, rfl, hrd5, hac5, hnQ, hmQ, hrQ, hcQ, hb5⟩
        have HB5 : Hid (Below wa.heap.size wa w5) := HBB.out.trans (hb5.mono HBB.out.size)
        rw [← HE2.out]
        rw [← HL2.out] at hrd5
        have HN5 := Lib.hid hrd5.1
        obtain ⟨wd, hwd⟩ : ∃ W, W = w5.alloc (.cells #[.int .i64 (E2 : Nat), .int .i64 0, .slice aQ nQ cQ] 34) := ⟨_, rfl⟩
        have h5d : Below w5.heap.size w5 wd := by rw [hwd]; exact (Below.refl _ _).alloc (Nat.le_refl _) _
        have HBD : Hid (Below wa.heap.size wa wd) := HB5.out.trans (h5d.mono HB5.out.size)
        obtain ⟨g3, hg3⟩ : ∃ g, g = w5.heap.size := ⟨_, rfl⟩
        have j0 : wd.cell? ⟨g3, 0, none⟩ = some (.int .i64 (E2 : Nat)) := by rw [hwd, hg3]; simp [go_sem]
        have k0 : wd.cell? ⟨g2, 0, none⟩ = some (.int .i64 (E : Nat)) := cell_below (hb5.trans (h5d.mono hb5.size)) K0.out
        have J0 := Lib.hid j0
        have K1 := Lib.hid k0
        have HRD := Lib.hid (hrd5.keep h5d)
        have HRE := Lib.hid ((HRB.out.keep hb5).keep ((Below.refl _ _).trans h5d))
        clear f0 f1 f2 f3 f4 f5 f6 f7 f8 l0 e0 e1 e2 e3 e4 e5 e6 e7 e8 m0
        obtain ⟨f0, f1, f2, f3, f4, f5, f6, f7, f8, l0⟩ := (HBX.out w5 HB5.out).nine
        obtain ⟨e0, e1, e2, e3, e4, e5, e6, e7, e8, m0⟩ := (HBY.out w5 HB5.out).nine
        clear hb5 hrd5 hrQ hnQ h5d k0 j0 hmQ
        go_upto_region 7 with fail
        rw [← hwd, ← hg3]
        clear hwd hg3
        clear f0 f1 f2 f3 f4 f5 f6 f7 f8 l0 e0 e1 e2 e3 e4 e5 e6 e7 e8 m0
        obtain ⟨f0, f1, f2, f3, f4, f5, f6, f7, f8, l0⟩ := (HBX.out wd HBD.out).nine
        obtain ⟨e0, e1, e2, e3, e4, e5, e6, e7, e8, m0⟩ := (HBY.out wd HBD.out).nine
        have j0 := J0.out
        have k0 := K1.out
        obtain rfl : 0 = n5 := (HL1.out x2).symm.trans HN5.out
        clear x2
        go_wp2_with fail
        all_goals
          go_ret
          exact ⟨rfl, HBA.out.trans (HBD.out.mono HBA.out.size)⟩
      have hz2 : ((E2 : Int) != 0) = false := by simp [x2]
      have X2 := Lib.hid x2
      clear x2
      have HD : Hid ((L == L2) = D) := HAP.out X1.out X2.out
      go_enter Try.func10, Try.ntmps10
      go_upto_region 1 with fail
      rw [← hwa, ← hg1]
      clear hwa hg1
      go_wp2_with fail
      refine (awake20 _).mono ?_
      rintro e w1 ⟨rfl, hb1⟩
      have HB1 := Lib.hid hb1
      clear f0 f1 f2 f3 f4 f5 f6 f7 f8 l0 e0 e1 e2 e3 e4 e5 e6 e7 e8 m0
      obtain ⟨f0, f1, f2, f3, f4, f5, f6, f7, f8, l0⟩ := (HBX.out w1 HB1.out).nine
      obtain ⟨e0, e1, e2, e3, e4, e5, e6, e7, e8, m0⟩ := (HBY.out w1 HB1.out).nine
      clear hb1
      go_wp2_with fail
      refine (CS.out _ (HT.out _ HB1.out)).mono ?_
      rintro e w2 ⟨rfl, hb2⟩
      have HB2 : Hid (Below wa.heap.size wa w2) := HB1.out.trans (hb2.mono HB1.out.size)
      clear f0 f1 f2 f3 f4 f5 f6 f7 f8 l0 e0 e1 e2 e3 e4 e5 e6 e7 e8 m0
      obtain ⟨f0, f1, f2, f3, f4, f5, f6, f7, f8, l0⟩ := (HBX.out w2 HB2.out).nine
      obtain ⟨e0, e1, e2, e3, e4, e5, e6, e7, e8, m0⟩ := (HBY.out w2 HB2.out).nine
      clear hb2
      go_wp2_with fail
      refine (CU.out _ (HU.out _ HB2.out)).mono ?_
      rintro e w3 ⟨rfl, hb3⟩
      have HB3 : Hid (Below wa.heap.size wa w3) := HB2.out.trans (hb3.mono HB2.out.size)
      clear f0 f1 f2 f3 f4 f5 f6 f7 f8 l0 e0 e1 e2 e3 e4 e5 e6 e7 e8 m0
      obtain ⟨f0, f1, f2, f3, f4, f5, f6, f7, f8, l0⟩ := (HBX.out w3 HB3.out).nine
      obtain ⟨e0, e1, e2, e3, e4, e5, e6, e7, e8, m0⟩ := (HBY.out w3 HB3.out).nine
      clear hb3
      go_wp2_with fail
      refine (CE.out _ (HT.out _ HB3.out)).mono ?_
      rintro e w4 ⟨a4, n4, c4, aP, nP, cP, rfl, hrd4, hac4, hnP, hmP, hrP, hcP, hb4⟩
      have HB4 : Hid (Below wa.heap.size wa w4) := HB3.out.trans (hb4.mono HB3.out.size)
      rw [← HE.out]
      rw [← HL.out] at hrd4
      have HN4 := Lib.hid hrd4.1
      obtain ⟨wb, hwb⟩ : ∃ W, W = w4.alloc (.cells #[.int .i64 (E : Nat), .int .i64 0, .slice aP nP cP] 34) := ⟨_, rfl⟩
      have h4b : Below w4.heap.size w4 wb := by rw [hwb]; exact (Below.refl _ _).alloc (Nat.le_refl _) _
      have HBB : Hid (Below wa.heap.size wa wb) := HB4.out.trans (h4b.mono HB4.out.size)
      obtain ⟨g2, hg2⟩ : ∃ g, g = w4.heap.size := ⟨_, rfl⟩
      have k0 : wb.cell? ⟨g2, 0, none⟩ = some (.int .i64 (E : Nat)) := by rw [hwb, hg2]; simp [go_sem]
      have K0 := Lib.hid k0
      have HRB := Lib.hid (hrd4.keep h4b)
      clear f0 f1 f2 f3 f4 f5 f6 f7 f8 l0 e0 e1 e2 e3 e4 e5 e6 e7 e8 m0
      obtain ⟨f0, f1, f2, f3, f4, f5, f6, f7, f8, l0⟩ := (HBX.out w4 HB4.out).nine
      obtain ⟨e0, e1, e2, e3, e4, e5, e6, e7, e8, m0⟩ := (HBY.out w4 HB4.out).nine
      clear hb4 hrd4 hrP hnP h4b k0 hmP
      go_upto_region 6 with fail
      rw [← hwb, ← hg2]
      clear hwb hg2
      clear f0 f1 f2 f3 f4 f5 f6 f7 f8 l0 e0 e1 e2 e3 e4 e5 e6 e7 e8 m0
      obtain ⟨f0, f1, f2, f3, f4, f5, f6, f7, f8, l0⟩ := (HBX.out wb HBB.out).nine
      obtain ⟨e0, e1, e2, e3, e4, e5, e6, e7, e8, m0⟩ := (HBY.out wb HBB.out).nine
      go_wp2_with fail
      refine (CF.out _ (HU.out _ HBB.out)).mono ?_
      rintro e w5 ⟨a5, n5, c5, aQ, nQ, cQ, rfl, hrd5, hac5, hnQ, hmQ, hrQ, hcQ, hb5⟩
      have HB5 : Hid (Below wa.heap.size wa w5) := HBB.out.trans (hb5.mono HBB.out.size)
      rw [← HE2.out]
      rw [← HL2.out] at hrd5
      have HN5 := Lib.hid hrd5.1
      obtain ⟨wd, hwd⟩ : ∃ W, W = w5.alloc (.cells #[.int .i64 (E2 : Nat), .int .i64 0, .slice aQ nQ cQ] 34) := ⟨_, rfl⟩
      have h5d : Below w5.heap.size w5 wd := by rw [hwd]; exact (Below.refl _ _).alloc (Nat.le_refl _) _
      have HBD : Hid (Below wa.heap.size wa wd) := HB5.out.trans (h5d.mono HB5.out.size)
      obtain ⟨g3, hg3⟩ : ∃ g, g = w5.heap.size := ⟨_, rfl⟩
      have j0 : wd.cell? ⟨g3, 0, none⟩ = some (.int .i64 (E2 : Nat)) := by rw [hwd, hg3]; simp [go_sem]
      have k0 : wd.cell? ⟨g2, 0, none⟩ = some (.int .i64 (E : Nat)) := cell_below (hb5.trans (h5d.mono hb5.size)) K0.out
      have J0 := Lib.hid j0
      have K1 := Lib.hid k0
      have HRD := Lib.hid (hrd5.keep h5d)
      have HRE := Lib.hid ((HRB.out.keep hb5).keep ((Below.refl _ _).trans h5d))
      clear f0 f1 f2 f3 f4 f5 f6 f7 f8 l0 e0 e1 e2 e3 e4 e5 e6 e7 e8 m0
      obtain ⟨f0, f1, f2, f3, f4, f5, f6, f7, f8, l0⟩ := (HBX.out w5 HB5.out).nine
      obtain ⟨e0, e1, e2, e3, e4, e5, e6, e7, e8, m0⟩ := (HBY.out w5 HB5.out).nine
      clear hb5 hrd5 hrQ hnQ h5d k0 j0 hmQ
      go_upto_region 7 with fail
      rw [← hwd, ← hg3]
      clear hwd hg3
      clear f0 f1 f2 f3 f4 f5 f6 f7 f8 l0 e0 e1 e2 e3 e4 e5 e6 e7 e8 m0
      obtain ⟨f0, f1, f2, f3, f4, f5, f6, f7, f8, l0⟩ := (HBX.out wd HBD.out).nine
      obtain ⟨e0, e1, e2, e3, e4, e5, e6, e7, e8, m0⟩ := (HBY.out wd HBD.out).nine
      have j0 := J0.out
      have k0 := K1.out
      have htx : ((txt L).toList == (txt L2).toList) = D := by rw [txt_beq]; exact HD.out
      have hdd : (D == D) = true := by cases D <;> rfl
      have HKS : Hid (∀ W, Below wd.heap.size wd W → ((convert 23 9 (.slice a4 n4 c4)).run Try.prog W = .ok (.string (txt L)) W ∧ (convert 23 9 (.slice a5 n5 c5)).run Try.prog W = .ok (.string (txt L2)) W ∧ W.cell? ⟨w.heap.size, 0, none⟩ = some (.int .i64 ka) ∧ W.cell? ⟨w.heap.size, 1, none⟩ = some (.int .u64 (bitsa : Nat)) ∧ W.cell? ⟨w.heap.size, 2, none⟩ = some (.int .u64 (hia : Nat)) ∧ W.cell? ⟨w.heap.size, 3, none⟩ = some (.int .u64 (loa : Nat)) ∧ W.cell? ⟨w.heap.size, 4, none⟩ = some (.string texta) ∧ W.cell? ⟨w.heap.size, 5, none⟩ = some (.string morea) ∧ W.cell? ⟨w.heap.size, 6, none⟩ = some (.int .i64 suba) ∧ W.cell? ⟨w.heap.size, 7, none⟩ = some (.slice aba nba cba) ∧ W.cell? ⟨w.heap.size, 8, none⟩ = some (.slice aka nka cka) ∧ W.cell? ⟨g1, 0, none⟩ = some (.int .i64 kb) ∧ W.cell? ⟨g1, 1, none⟩ = some (.int .u64 (bitsb : Nat)) ∧ W.cell? ⟨g1, 2, none⟩ = some (.int .u64 (hib : Nat)) ∧ W.cell? ⟨g1, 3, none⟩ = some (.int .u64 (lob : Nat)) ∧ W.cell? ⟨g1, 4, none⟩ = some (.string textb) ∧ W.cell? ⟨g1, 5, none⟩ = some (.string moreb) ∧ W.cell? ⟨g1, 6, none⟩ = some (.int .i64 subb) ∧ W.cell? ⟨g1, 7, none⟩ = some (.slice abb nbb cbb) ∧ W.cell? ⟨g1, 8, none⟩ = some (.slice akb nkb ckb))) := by
        show ∀ W, _
        intro W hW
        have hW2 := HBD.out.trans (hW.mono HBD.out.size)
        obtain ⟨f0, f1, f2, f3, f4, f5, f6, f7, f8, l0⟩ := (HBX.out W hW2).nine
        obtain ⟨e0, e1, e2, e3, e4, e5, e6, e7, e8, m0⟩ := (HBY.out W hW2).nine
        exact ⟨conv_str (HRE.out.keep hW) c4, conv_str (HRD.out.keep hW) c5, f0, f1, f2, f3, f4, f5, f6, f7, f8, e0, e1, e2, e3, e4, e5, e6, e7, e8⟩
      go_upto_region 9 with fail
      go_region_held3 (fun W => (convert 23 9 (.slice a4 n4 c4)).run Try.prog W = .ok (.string (txt L)) W ∧ (convert 23 9 (.slice a5 n5 c5)).run Try.prog W = .ok (.string (txt L2)) W ∧ W.cell? ⟨w.heap.size, 0, none⟩ = some (.int .i64 ka) ∧ W.cell? ⟨w.heap.size, 1, none⟩ = some (.int .u64 (bitsa : Nat)) ∧ W.cell? ⟨w.heap.size, 2, none⟩ = some (.int .u64 (hia : Nat)) ∧ W.cell? ⟨w.heap.size, 3, none⟩ = some (.int .u64 (loa : Nat)) ∧ W.cell? ⟨w.heap.size, 4, none⟩ = some (.string texta) ∧ W.cell? ⟨w.heap.size, 5, none⟩ = some (.string morea) ∧ W.cell? ⟨w.heap.size, 6, none⟩ = some (.int .i64 suba) ∧ W.cell? ⟨w.heap.size, 7, none⟩ = some (.slice aba nba cba) ∧ W.cell? ⟨w.heap.size, 8, none⟩ = some (.slice aka nka cka) ∧ W.cell? ⟨g1, 0, none⟩ = some (.int .i64 kb) ∧ W.cell? ⟨g1, 1, none⟩ = some (.int .u64 (bitsb : Nat)) ∧ W.cell? ⟨g1, 2, none⟩ = some (.int .u64 (hib : Nat)) ∧ W.cell? ⟨g1, 3, none⟩ = some (.int .u64 (lob : Nat)) ∧ W.cell? ⟨g1, 4, none⟩ = some (.string textb) ∧ W.cell? ⟨g1, 5, none⟩ = some (.string moreb) ∧ W.cell? ⟨g1, 6, none⟩ = some (.int .i64 subb) ∧ W.cell? ⟨g1, 7, none⟩ = some (.slice abb nbb cbb) ∧ W.cell? ⟨g1, 8, none⟩ = some (.slice akb nkb ckb)) ((first | (refine HKS.out _ ?_; (repeat' (first | with_reducible exact HB9.out | with_reducible refine Below.drew ?_ | with_reducible exact Below.refl _ _))) | fail))
        ((first
          | (go_at_call 18; refine (CT.out _ (HT.out _ (HBD.out.drew)) (HU.out _ (HBD.out.drew))).mono ?_; rintro e w9 ⟨rfl, hb9⟩; have HB9 : Hid (Below wd.heap.size wd w9) := (Below.refl _ _).drew.trans hb9; clear hb9)
          | fail))
      clear f0 f1 f2 f3 f4 f5 f6 f7 f8 l0 e0 e1 e2 e3 e4 e5 e6 e7 e8 m0
      go_wp2_with fail
      go_ret
      exact ⟨by simp, HBA.out.trans ((HBD.out.trans (HB9.out.mono HBD.out.size)).mono HBA.out.size)⟩

end Go.Proofs.Ytkcfkdmffbhljaa
