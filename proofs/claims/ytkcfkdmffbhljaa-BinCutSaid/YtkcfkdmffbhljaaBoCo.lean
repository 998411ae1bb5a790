/- BoutCounts: the walk. -/
import Derived.Test.YtkcfkdmffbhljaaMI
import Derived.Test.YtkcfkdmffbhljaaBoAw
import Derived.Test.YtkcfkdmffbhljaaMB
import Derived.Test.YtkcfkdmffbhljaaMT
import Derived.Test.YtkcfkdmffbhljaaMN
namespace Go.Proofs.Ytkcfkdmffbhljaa
open Go.RowKit
set_option linter.unusedVariables false
set_option linter.unusedSimpArgs false

theorem wt_small {t : T} (h : smallT t = true) : t.wt ≤ 1200 := by
  have h0 : 0 ≤ bookT 1200 t := by simpa [smallT] using h
  have := bookT_wt _ _ h0
  omega
theorem RdT.kd {w : World} {t : T} {k : Int} {bits hi lo : Nat} {text more : ByteArray} {sub : Int} {ab : Option Addr} {nb cb : Nat} {ak : Option Addr} {nk ck : Nat} (h : RdT w t (valCells k bits hi lo text more sub ab nb cb ak nk ck)) : t.kind = k := by
  obtain ⟨k', bits', hi', lo', text', more', sub', bs', kids'⟩ := t
  obtain ⟨ab', nb', cb', ak', nk', ck', he, _⟩ := h
  simp [valCells] at he
  exact he.1.symm
theorem errN_ok (t : T) : errN (chk t) = 0 ↔ chk t = none := by
  cases h : chk t with
  | none => simp [errN]
  | some x =>
    obtain ⟨q, e⟩ := x
    have := checkT_pos t _ _ q e h
    simpa [errN] using this
theorem encB_len (t : T) : (encB t).length ≤ 10 * t.wt + 5 := by
  unfold encB
  split
  · have h1 := kidsB_len t.kids
    have h2 : t.kids.wt ≤ t.wt := by obtain ⟨k, bits, hi, lo, s, m, sub, l, f⟩ := t; simp only [T.kids, T.wt]; omega
    rw [docOf_len]
    omega
  · simp

set_option maxRecDepth 100000 in
set_option maxHeartbeats 4000000 in
theorem BoutCounts_walk (w : World) (c : Array Value) (t : T) (h : RdT w t c) :
    Calls Try.prog 9 #[.agg c] w fun e w' => e = .returned (.bool true) ∧ Below w.heap.size w w' := by
  obtain ⟨k, bits, hi, lo, text, more, sub, ab, nb, cb, ak, nk, ck, rfl⟩ := h.shape
  obtain ⟨wa, hwa⟩ : ∃ W, W = w.alloc (.cells (valCells k bits hi lo text more sub ab nb cb ak nk ck) 26) := ⟨_, rfl⟩
  have hba : Below w.heap.size w wa := by rw [hwa]; exact (Below.refl _ _).alloc (Nat.le_refl _) _
  have hxa : BoxV wa w.heap.size (valCells k bits hi lo text more sub ab nb cb ak nk ck) := by rw [hwa]; exact BoxV.new _ _ _
  have HBX : Hid (∀ W, Below wa.heap.size wa W → BoxV W w.heap.size (valCells k bits hi lo text more sub ab nb cb ak nk ck)) := fun W hW => hxa.keep hW
  have HBA := Lib.hid hba
  have HT : Hid (∀ W, Below wa.heap.size wa W → RdT W t (valCells k bits hi lo text more sub ab nb cb ak nk ck)) := fun W hW => (h.keep hba).keep hW
  have CS := Lib.hid (fun W h => small_calls t W (valCells k bits hi lo text more sub ab nb cb ak nk ck) h)
  obtain ⟨f0, f1, f2, f3, f4, f5, f6, f7, f8, l0⟩ := hxa.nine
  have hkd := h.kd
  clear hba hxa h
  cases hs : smallT t with
  | false =>
    rw [hs] at CS
    clear hs
    go_enter Try.func9, Try.ntmps9
    go_upto_region 1 with fail
    rw [← hwa]
    clear hwa
    go_wp2_with fail
    refine (awake20 _).mono ?_
    rintro e w1 ⟨rfl, hb1⟩
    have HB1 := Lib.hid hb1
    clear f0 f1 f2 f3 f4 f5 f6 f7 f8 l0
    obtain ⟨f0, f1, f2, f3, f4, f5, f6, f7, f8, l0⟩ := (HBX.out w1 HB1.out).nine
    clear hb1
    go_wp2_with fail
    refine (CS.out _ (HT.out _ HB1.out)).mono ?_
    rintro e w2 ⟨rfl, hb2⟩
    have HB2 : Hid (Below wa.heap.size wa w2) := HB1.out.trans (hb2.mono HB1.out.size)
    clear f0 f1 f2 f3 f4 f5 f6 f7 f8 l0
    obtain ⟨f0, f1, f2, f3, f4, f5, f6, f7, f8, l0⟩ := (HBX.out w2 HB2.out).nine
    clear hb2
    go_wp2_with fail
    go_ret
    exact ⟨rfl, HBA.out.trans (HB2.out.mono HBA.out.size)⟩
  | true =>
    have hwt := wt_small hs
    rw [hs] at CS
    have CE := Lib.hid (fun W (h : RdT W t (valCells k bits hi lo text more sub ab nb cb ak nk ck)) => encode_calls t W _ h (by omega))
    have CC := Lib.hid (fun W (h : RdT W t (valCells k bits hi lo text more sub ab nb cb ak nk ck)) => rcheck2_calls t W _ h (by omega))
    have CZ := Lib.hid (fun W (h : RdT W t (valCells k bits hi lo text more sub ab nb cb ak nk ck)) => rsize_all t.wt (by omega) t (Nat.le_refl _) W _ h)
    obtain ⟨EN, hEN⟩ : ∃ x, x = errN (chk t) := ⟨_, rfl⟩
    have HEN := Lib.hid hEN
    have HOK := errN_ok t
    rw [← hEN] at HOK
    have hbl := encB_len t
    by_cases h0 : EN = 0
    case neg =>
      have hne : ((EN : Int) != 0) = true := by simpa using h0
      clear hs hwt hEN HOK hbl h0 hkd
      go_enter Try.func9, Try.ntmps9
      go_upto_region 1 with fail
      rw [← hwa]
      clear hwa
      go_wp2_with fail
      refine (awake20 _).mono ?_
      rintro e w1 ⟨rfl, hb1⟩
      have HB1 := Lib.hid hb1
      clear f0 f1 f2 f3 f4 f5 f6 f7 f8 l0
      obtain ⟨f0, f1, f2, f3, f4, f5, f6, f7, f8, l0⟩ := (HBX.out w1 HB1.out).nine
      clear hb1
      go_wp2_with fail
      refine (CS.out _ (HT.out _ HB1.out)).mono ?_
      rintro e w2 ⟨rfl, hb2⟩
      have HB2 : Hid (Below wa.heap.size wa w2) := HB1.out.trans (hb2.mono HB1.out.size)
      clear f0 f1 f2 f3 f4 f5 f6 f7 f8 l0
      obtain ⟨f0, f1, f2, f3, f4, f5, f6, f7, f8, l0⟩ := (HBX.out w2 HB2.out).nine
      clear hb2
      go_wp2_with fail
      refine (CC.out _ (HT.out _ HB2.out)).mono ?_
      rintro e w3 ⟨aC, nC, cC, rfl, hnC, hmC, hrC, hcC, hb3⟩
      have HB3 : Hid (Below wa.heap.size wa w3) := HB2.out.trans (hb3.mono HB2.out.size)
      rw [← HEN.out]
      clear f0 f1 f2 f3 f4 f5 f6 f7 f8 l0
      obtain ⟨f0, f1, f2, f3, f4, f5, f6, f7, f8, l0⟩ := (HBX.out w3 HB3.out).nine
      clear hb3 hrC hnC hmC
      go_wp2_with fail
      go_ret
      exact ⟨rfl, HBA.out.trans (HB3.out.mono HBA.out.size)⟩
    subst h0
    by_cases h3 : k = 3
    case neg =>
      have hk3 : (k != 3) = true := by simpa using h3
      clear hs hwt hEN HOK hbl h3 hkd
      go_enter Try.func9, Try.ntmps9
      go_upto_region 1 with fail
      rw [← hwa]
      clear hwa
      go_wp2_with fail
      refine (awake20 _).mono ?_
      rintro e w1 ⟨rfl, hb1⟩
      have HB1 := Lib.hid hb1
      clear f0 f1 f2 f3 f4 f5 f6 f7 f8 l0
      obtain ⟨f0, f1, f2, f3, f4, f5, f6, f7, f8, l0⟩ := (HBX.out w1 HB1.out).nine
      clear hb1
      go_wp2_with fail
      refine (CS.out _ (HT.out _ HB1.out)).mono ?_
      rintro e w2 ⟨rfl, hb2⟩
      have HB2 : Hid (Below wa.heap.size wa w2) := HB1.out.trans (hb2.mono HB1.out.size)
      clear f0 f1 f2 f3 f4 f5 f6 f7 f8 l0
      obtain ⟨f0, f1, f2, f3, f4, f5, f6, f7, f8, l0⟩ := (HBX.out w2 HB2.out).nine
      clear hb2
      go_wp2_with fail
      refine (CC.out _ (HT.out _ HB2.out)).mono ?_
      rintro e w3 ⟨aC, nC, cC, rfl, hnC, hmC, hrC, hcC, hb3⟩
      have HB3 : Hid (Below wa.heap.size wa w3) := HB2.out.trans (hb3.mono HB2.out.size)
      rw [← HEN.out]
      clear f0 f1 f2 f3 f4 f5 f6 f7 f8 l0
      obtain ⟨f0, f1, f2, f3, f4, f5, f6, f7, f8, l0⟩ := (HBX.out w3 HB3.out).nine
      clear hb3 hrC hnC hmC
      go_wp2_with fail
      go_ret
      exact ⟨rfl, HBA.out.trans (HB3.out.mono HBA.out.size)⟩
    subst h3
    have hE0 : encE t = 0 := enc_ok.2 ⟨HOK.1 rfl, hkd⟩
    obtain ⟨q1, q2, q3, q4⟩ := enc_counts hE0 (by omega)
    obtain ⟨L, hL⟩ : ∃ L, L = encB t := ⟨_, rfl⟩
    rw [← hL] at q1 q2 q3 q4 hbl
    obtain ⟨SZ, hSZ⟩ : ∃ z, z = sizeT t := ⟨_, rfl⟩
    rw [← hSZ] at q1 CZ
    have HE := Lib.hid hE0
    have HL := Lib.hid hL
    obtain ⟨m, hm⟩ : ∃ m, m + 1 = L.length := ⟨L.length - 1, by omega⟩
    have h4m : 4 ≤ m := by omega
    have hmb : m ≤ 100000 := by omega
    rw [← hm] at q1 q3 q4
    have q4' : bAt L m = 0 := by rw [← q4]; congr 1
    have hz1 : (((m + 1 : Nat) : Int) == SZ) = true := by rw [q1]; simp
    have hz1' : (((m : Int) + 1) == SZ) = true := by simpa using hz1
    have hu : IntKind.u64.wrap ((m : Int) + 1) = (m : Int) + 1 := wrap_u64_of (by omega) (by omega)
    have hi1 : IntKind.i64.wrap (m : Int) = (m : Int) := IntWalk.i64_in _ (by omega)
    have hj0 : (0 : Int) ≤ (m : Int) := by omega
    have hj1 : (m : Int) < (m : Int) + 1 := by omega
    have HQ3 := Lib.hid q3
    have HQ4 := Lib.hid q4'
    have HM := Lib.hid hm
    clear hs hwt hEN HOK hbl hkd hE0 hL hSZ q1 q2 q3 q4 q4' hm hz1
    go_enter Try.func9, Try.ntmps9
    go_upto_region 1 with fail
    rw [← hwa]
    clear hwa
    go_wp2_with fail
    refine (awake20 _).mono ?_
    rintro e w1 ⟨rfl, hb1⟩
    have HB1 := Lib.hid hb1
    clear f0 f1 f2 f3 f4 f5 f6 f7 f8 l0
    obtain ⟨f0, f1, f2, f3, f4, f5, f6, f7, f8, l0⟩ := (HBX.out w1 HB1.out).nine
    clear hb1
    go_wp2_with fail
    refine (CS.out _ (HT.out _ HB1.out)).mono ?_
    rintro e w2 ⟨rfl, hb2⟩
    have HB2 : Hid (Below wa.heap.size wa w2) := HB1.out.trans (hb2.mono HB1.out.size)
    clear f0 f1 f2 f3 f4 f5 f6 f7 f8 l0
    obtain ⟨f0, f1, f2, f3, f4, f5, f6, f7, f8, l0⟩ := (HBX.out w2 HB2.out).nine
    clear hb2
    go_wp2_with fail
    refine (CC.out _ (HT.out _ HB2.out)).mono ?_
    rintro e w3 ⟨aC, nC, cC, rfl, hnC, hmC, hrC, hcC, hb3⟩
    have HB3 : Hid (Below wa.heap.size wa w3) := HB2.out.trans (hb3.mono HB2.out.size)
    rw [← HEN.out]
    clear f0 f1 f2 f3 f4 f5 f6 f7 f8 l0
    obtain ⟨f0, f1, f2, f3, f4, f5, f6, f7, f8, l0⟩ := (HBX.out w3 HB3.out).nine
    clear hb3 hrC hnC hmC
    go_wp2_with fail
    refine (CE.out _ (HT.out _ HB3.out)).mono ?_
    rintro e w4 ⟨a4, n4, c4, aP, nP, cP, rfl, hrd4, hac4, hnP, hmP, hrP, hcP, hb4⟩
    have HB4 : Hid (Below wa.heap.size wa w4) := HB3.out.trans (hb4.mono HB3.out.size)
    rw [HE.out]
    rw [← HL.out] at hrd4
    obtain rfl : m + 1 = n4 := HM.out.trans hrd4.1
    obtain ⟨wb, hwb⟩ : ∃ W, W = w4.alloc (.cells #[.int .i64 ((0 : Nat) : Int), .int .i64 0, .slice aP nP cP] 34) := ⟨_, rfl⟩
    have h4b : Below w4.heap.size w4 wb := by rw [hwb]; exact (Below.refl _ _).alloc (Nat.le_refl _) _
    have HBB : Hid (Below wa.heap.size wa wb) := HB4.out.trans (h4b.mono HB4.out.size)
    obtain ⟨g1, hg1⟩ : ∃ g, g = w4.heap.size := ⟨_, rfl⟩
    have k0 : wb.cell? ⟨g1, 0, none⟩ = some (.int .i64 0) := by rw [hwb, hg1]; simp [go_sem]
    have K0 := Lib.hid k0
    have HRB := Lib.hid (hrd4.keep h4b)
    clear f0 f1 f2 f3 f4 f5 f6 f7 f8 l0
    obtain ⟨f0, f1, f2, f3, f4, f5, f6, f7, f8, l0⟩ := (HBX.out w4 HB4.out).nine
    clear hb4 hrd4 hrP hnP h4b k0 hmP
    go_upto_region 9 with fail
    have hzz : ((0 : Nat) : Int) = 0 := rfl
    rw [hzz] at hwb
    rw [← hwb, ← hg1]
    clear hwb hg1 hzz
    clear f0 f1 f2 f3 f4 f5 f6 f7 f8 l0
    obtain ⟨f0, f1, f2, f3, f4, f5, f6, f7, f8, l0⟩ := (HBX.out wb HBB.out).nine
    go_wp2_with fail
    refine (low_yes a4 (m + 1) c4 0 4 wb L HRB.out (by omega) (by omega) (by omega)).mono ?_
    rintro e w5 ⟨rfl, rfl⟩
    rw [HQ3.out]
    have k0 := K0.out
    go_wp2_with fail
    refine (CZ.out _ (HT.out _ HBB.out)).mono ?_
    rintro e w6 ⟨rfl, hb6⟩
    have HB6 : Hid (Below wa.heap.size wa w6) := HBB.out.trans (hb6.mono HBB.out.size)
    obtain ⟨b, o, rfl, hc⟩ := (HRB.out.keep hb6).at m (by omega)
    rw [HQ4.out] at hc
    clear f0 f1 f2 f3 f4 f5 f6 f7 f8 l0
    clear hb6 k0
    go_wp2_with fail
    go_ret
    exact ⟨rfl, HBA.out.trans (HB6.out.mono HBA.out.size)⟩

end Go.Proofs.Ytkcfkdmffbhljaa
