/- Two lists of numbers held against each other; two faults. The reference's Same of items that are alike; the law's nest. Forms for the laws over Decode: what it answers in one form; a fault in a box. -/
import Derived.Test.YtambhapgjonmmaaRows
import Derived.Test.YtambhapgjonmmaaLib
import Derived.Test.YtambhapgjonmmaaKA
import Derived.Test.YtambhapgjonmmaaCbQ
import Derived.Test.YtambhapgjonmmaaCbK
import Derived.Deep.RegionHeld3
import Derived.Test.YtambhapgjonmmaaKD
import Derived.Test.YtambhapgjonmmaaKC
namespace Go.Proofs.Ytambhapgjonmmaa
open Go.RowKit
set_option linter.unusedVariables false
set_option linter.unusedSimpArgs false

theorem RdI.at {k} {w : World} {a len l} (h : RdI k w a len l) (i : Nat) (hi : i < len) : ∃ b o, a = some ⟨b, o, none⟩ ∧ w.cell? ⟨b, o + i, none⟩ = some (.int k (l.getD i 0)) := h.2.2.2 i hi

/-- The number at a place. -/
def iAt (l : List Int) (i : Nat) : Int := l.getD i 0

theorem RdI.at' {k} {w : World} {a len l} (h : RdI k w a len l) (i : Nat) (hi : i < len) : ∃ b o, a = some ⟨b, o, none⟩ ∧ w.cell? ⟨b, o + i, none⟩ = some (.int k (iAt l i)) := h.2.2.2 i hi

theorem drew_more {w : World} {a b : Nat} : ∃ n, (w.drewN a).drewN b = w.drewN n := ⟨_, World.drewN_drewN ..⟩
theorem drew_more' {w : World} {a b : Nat} : ∃ n, w.drewN n = (w.drewN a).drewN b := ⟨_, (World.drewN_drewN ..).symm⟩

theorem take_eq_step {l m : List Int} {k : Nat} (hl : k < l.length) (hm : k < m.length) (h : l.take k = m.take k) (e : iAt l k = iAt m k) : l.take (k + 1) = m.take (k + 1) := by
  rw [List.take_succ_eq_append_getElem hl, List.take_succ_eq_append_getElem hm, h]
  unfold iAt at e
  rw [List.getD_eq_getElem?_getD, List.getD_eq_getElem?_getD, List.getElem?_eq_getElem hl, List.getElem?_eq_getElem hm] at e
  simp at e
  rw [e]

set_option maxRecDepth 100000 in
set_option maxHeartbeats 1000000 in
theorem same_ints (a1 a2 : Option Addr) (n1 n2 c1 c2 : Nat) (w : World) (l1 l2 : List Int) (h1 : RdI .i64 w a1 n1 l1) (h2 : RdI .i64 w a2 n2 l2) :
    Calls Try.prog 35 #[.slice a1 n1 c1, .slice a2 n2 c2] w fun e w' => e = .returned (.bool (decide (l1 = l2))) ∧ ∃ n, w.drewN n = w' := by
  have H1 := Lib.hid h1
  have H2 := Lib.hid h2
  have m1 := h1.2.1
  have m2 := h2.2.1
  clear h1 h2
  by_cases hn : n1 = n2
  · subst hn
    go_enter Try.func35, Try.ntmps35
    go_wp2
    go_loopw [5] (fun i wr => ∃ k : Nat, k ≤ n1 ∧ i = .int .i64 k ∧ l1.take k = l2.take k ∧ ∃ n, wr = w.drewN n) (fun i _ => n1 - (intOf i).toNat)
    case atStart => exact ⟨0, by omega, rfl, by simp, 0, rfl⟩
    case round =>
      obtain ⟨k, hk, rfl, ht, nd, rfl⟩ := hrel
      have HT := Lib.hid ht
      clear ht
      by_cases hlt : k < n1
      · obtain ⟨b1, o1, rfl, d1⟩ := H1.out.at' k hlt
        obtain ⟨b2, o2, rfl, d2⟩ := H2.out.at' k hlt
        by_cases he : iAt l1 k = iAt l2 k
        · have HE := Lib.hid (take_eq_step (by rw [H1.out.1]; exact hlt) (by rw [H2.out.1]; exact hlt) HT.out he)
          have hb : (iAt l1 k != iAt l2 k) = false := by simp [he]
          clear he
          go_wp2
          go_quiet (fail)
          go_wp2
          go_roundw
          case rel => exact ⟨k + 1, by omega, by simp, HE.out, by first | exact ⟨_, rfl⟩ | exact drew_more⟩
          case measure => simp [intOf]; omega
        · have HE : Hid (decide (l1 = l2) = false) := by
            show _ = false
            rw [decide_eq_false_iff_not]
            rintro rfl
            exact he rfl
          have hb : (iAt l1 k != iAt l2 k) = true := by simp [he]
          clear he
          go_wp2
          go_quiet (fail)
          go_wp2
          go_ret
          exact ⟨by rw [HE.out]; rfl, by first | exact ⟨_, rfl⟩ | exact drew_more'⟩
      · have HE : Hid (decide (l1 = l2) = true) := by
          show _ = true
          rw [decide_eq_true_eq]
          have := HT.out
          rwa [List.take_of_length_le (by rw [H1.out.1]; omega), List.take_of_length_le (by rw [H2.out.1]; omega)] at this
        go_wp2
        go_ret
        exact ⟨by rw [HE.out]; rfl, by first | exact ⟨_, rfl⟩ | exact drew_more'⟩
  · have HE : Hid (decide (l1 = l2) = false) := by
      show _ = false
      rw [decide_eq_false_iff_not]
      rintro rfl
      exact hn (H1.out.1.symm.trans H2.out.1)
    have hb : ((n1 : Int) != (n2 : Int)) = true := by simp; omega
    go_enter Try.func35, Try.ntmps35
    go_wp2
    go_ret
    exact ⟨by rw [HE.out]; rfl, 0, rfl⟩

set_option maxRecDepth 100000 in
set_option maxHeartbeats 1000000 in
/-- Two faults without paths, alike. -/
theorem same_fault (e p : Int) (w : World) : Calls Try.prog 17 #[.agg #[.int .i64 e, .int .i64 p, .slice none 0 0], .agg #[.int .i64 e, .int .i64 p, .slice none 0 0]] w fun r w' => r = .returned (.bool true) ∧ Below w.heap.size w w' := by
  have b1 : (e == e) = true := by simp
  have b2 : (p == p) = true := by simp
  go_enter Try.func17, Try.ntmps17
  go_wp2_with (go_at_call 35; refine (same_ints none none 0 0 0 0 _ [] [] ⟨rfl, by omega, by simp, fun i hi => absurd hi (Nat.not_lt_zero i)⟩ ⟨rfl, by omega, by simp, fun i hi => absurd hi (Nat.not_lt_zero i)⟩).mono ?_; rintro e w' ⟨rfl, nd, rfl⟩)
  go_ret
  exact ⟨rfl, Below_drewN (((Below.refl w.heap.size w).alloc (Nat.le_refl _) _).alloc (by simp) _)⟩

end Go.Proofs.Ytambhapgjonmmaa

namespace Go.Proofs.Ytambhapgjonmmaa
open Go.RowKit
set_option linter.unusedVariables false
set_option linter.unusedSimpArgs false

def SameSaid28 (d : Nat) : Prop := ∀ x : I, x.wt ≤ d → ∀ (w : World) (c c' : Array Value), RdIt (fun _ => True) w x c → RdIt (fun _ => True) w x c' →
  Calls Try.prog 18 #[.agg c, .agg c'] w fun e w' => e = .returned (.bool true) ∧ Below w.heap.size w w'

set_option maxRecDepth 100000 in
set_option maxHeartbeats 16000000 in
theorem same28_step (d : Nat) (hd9 : d ≤ 1000000) (hof : SameSaid28 d) : SameSaid28 (d + 1) := by
  intro x hd w c c' hr hr'
  obtain ⟨k, n, ys, text, kids⟩ := x
  simp only [I.wt] at hd
  obtain ⟨ab, nb, cb, ak, nk, ck, rfl, hok, hbs, hkl, hrm, hks⟩ := hr
  obtain ⟨ab2, nb2, cb2, ak2, nk2, ck2, rfl, hok2, hbs2, hkl2, hrm2, hks2⟩ := hr'
  obtain rfl : nk = nk2 := by rw [← hkl, ← hkl2]
  obtain ⟨wa, hwa⟩ : ∃ W, W = (w.alloc (.cells #[.int .i64 k, .int .u64 (n : Nat), .slice ab nb cb, .string text, .slice ak nk ck] 26)).alloc (.cells #[.int .i64 k, .int .u64 (n : Nat), .slice ab2 nb2 cb2, .string text, .slice ak2 nk ck2] 26) := ⟨_, rfl⟩
  have hba : Below w.heap.size w wa := by rw [hwa]; exact ((Below.refl _ _).alloc (Nat.le_refl _) _).alloc (by simp) _
  have hxa : ItBx wa w.heap.size k n ab nb cb text ak nk ck := by rw [hwa]; exact (ItBx.new _ _ _ _ _ _ _ _ _ _ _).keep ((Below.refl _ _).alloc (Nat.le_refl _) _)
  have hxb : ItBx wa (w.heap.size + 1) k n ab2 nb2 cb2 text ak2 nk ck2 := by
    rw [hwa]
    have := ItBx.new (w.alloc (.cells #[.int .i64 k, .int .u64 (n : Nat), .slice ab nb cb, .string text, .slice ak nk ck] 26)) k n ab2 nb2 cb2 text ak2 nk ck2 26
    simpa using this
  have HXa := Lib.hid hxa
  have HXb := Lib.hid hxb
  have HBA := Lib.hid hba
  have HKS : Hid (RdIs (fun _ => True) wa ak 0 kids) := hks.below hba
  have HKS2 : Hid (RdIs (fun _ => True) wa ak2 0 kids) := hks2.below hba
  have HKL := Lib.hid hkl
  have hcv1 := conv_str (hbs.1.keep hba) cb
  have hcv2 := conv_str (hbs2.1.keep hba) cb2
  generalize txt ys = T at hcv1 hcv2
  have hnk := hrm.1
  have hkw := IL.len_wt kids
  have HOF := Lib.hid hof
  obtain ⟨f0, f1, f2, f3, f4, l0⟩ := hxa
  obtain ⟨g0, g1, g2, g3, g4, l1⟩ := hxb
  clear hba hok hbs hrm hks hkl hok2 hbs2 hrm2 hks2 hkl2 hof
  go_enter Try.func18, Try.ntmps18
  go_upto_region 1 with fail
  rw [← hwa]
  clear hwa
  go_wp2_with fail
  go_loopw [5] (fun i wr => ∃ j : Nat, j ≤ nk ∧ i = .int .i64 j ∧ Below wa.heap.size wa wr) (fun i _ => nk - (intOf i).toNat)
  case atStart => exact ⟨0, Nat.zero_le _, rfl, Below.refl _ _⟩
  case round =>
    obtain ⟨j, hj, rfl, hbl⟩ := hrel
    have HBL := Lib.hid hbl
    clear f0 f1 f2 f3 f4 l0 g0 g1 g2 g3 g4 l1 hcv1 hcv2
    have f4 := (HXa.out.keep hbl).2.2.2.2.1
    have g4 := (HXb.out.keep hbl).2.2.2.2.1
    clear hbl
    by_cases hlt : j < nk
    · obtain ⟨x, hx⟩ := IL.get_some kids j (by rw [HKL.out]; exact hlt)
      have hwg2 := IL.wt_get kids j x hx
      obtain ⟨b, o, k', n', bs', text', kids', ab', nb', cb', ak', nk', ck', hab, hxe, hblt, hxr, z0, z1, z2, z3, z4⟩ := (HKS.out.at hx).cells
      obtain ⟨b2, o2, k2, n2, bs2, text2, kids2, ab3, nb3, cb3, ak3, nk3, ck3, hab2, hxe2, hblt2, hxr2, v0, v1, v2, v3, v4⟩ := (HKS2.out.at hx).cells
      subst hab
      subst hab2
      rw [hxe] at hxe2
      simp only [I.mk.injEq] at hxe2
      obtain ⟨rfl, rfl, rfl, rfl, rfl⟩ := hxe2
      have CL := Lib.hid (fun W (hW : Below wr.heap.size wr W) => HOF.out x (by omega) W _ _ (hxr.below (HBL.out.trans (hW.mono HBL.out.size))) (hxr2.below (HBL.out.trans (hW.mono HBL.out.size))))
      have HSS : Hid (∀ W, Below wr.heap.size wr W → (W.cell? ⟨w.heap.size, 4, none⟩ = some (.slice (some ⟨b, o, none⟩) nk ck) ∧ W.cell? ⟨w.heap.size + 1, 4, none⟩ = some (.slice (some ⟨b2, o2, none⟩) nk ck2) ∧
          W.cell? ⟨b, o + j * 5, none⟩ = some (.int .i64 k') ∧ W.cell? ⟨b, o + j * 5 + 1, none⟩ = some (.int .u64 (n' : Nat)) ∧ W.cell? ⟨b, o + j * 5 + 2, none⟩ = some (.slice ab' nb' cb') ∧ W.cell? ⟨b, o + j * 5 + 3, none⟩ = some (.string text') ∧ W.cell? ⟨b, o + j * 5 + 4, none⟩ = some (.slice ak' nk' ck') ∧
          W.cell? ⟨b2, o2 + j * 5, none⟩ = some (.int .i64 k') ∧ W.cell? ⟨b2, o2 + j * 5 + 1, none⟩ = some (.int .u64 (n' : Nat)) ∧ W.cell? ⟨b2, o2 + j * 5 + 2, none⟩ = some (.slice ab3 nb3 cb3) ∧ W.cell? ⟨b2, o2 + j * 5 + 3, none⟩ = some (.string text') ∧ W.cell? ⟨b2, o2 + j * 5 + 4, none⟩ = some (.slice ak3 nk3 ck3))) := by
        show ∀ W, _
        intro W hW
        have hk := HBL.out.trans (hW.mono HBL.out.size)
        exact ⟨cell_below hW f4, cell_below hW g4, cell_below hk z0, cell_below hk z1, cell_below hk z2, cell_below hk z3, cell_below hk z4, cell_below hk v0, cell_below hk v1, cell_below hk v2, cell_below hk v3, cell_below hk v4⟩
      obtain ⟨-, -, y0, y1, y2, y3, y4, u0, u1, u2, u3, u4⟩ := HSS.out wr (Below.refl _ _)
      have hj0 : (0 : Int) ≤ (j : Int) := by omega
      have hj1 : (j : Int) < (nk : Int) := by omega
      clear hx hwg2 hxr hxr2 z0 z1 z2 z3 z4 v0 v1 v2 v3 v4 hxe HOF
      go_wp2_with fail
      go_region_held3 (fun W => W.cell? ⟨w.heap.size, 4, none⟩ = some (.slice (some ⟨b, o, none⟩) nk ck) ∧ W.cell? ⟨w.heap.size + 1, 4, none⟩ = some (.slice (some ⟨b2, o2, none⟩) nk ck2) ∧
          W.cell? ⟨b, o + j * 5, none⟩ = some (.int .i64 k') ∧ W.cell? ⟨b, o + j * 5 + 1, none⟩ = some (.int .u64 (n' : Nat)) ∧ W.cell? ⟨b, o + j * 5 + 2, none⟩ = some (.slice ab' nb' cb') ∧ W.cell? ⟨b, o + j * 5 + 3, none⟩ = some (.string text') ∧ W.cell? ⟨b, o + j * 5 + 4, none⟩ = some (.slice ak' nk' ck') ∧
          W.cell? ⟨b2, o2 + j * 5, none⟩ = some (.int .i64 k') ∧ W.cell? ⟨b2, o2 + j * 5 + 1, none⟩ = some (.int .u64 (n' : Nat)) ∧ W.cell? ⟨b2, o2 + j * 5 + 2, none⟩ = some (.slice ab3 nb3 cb3) ∧ W.cell? ⟨b2, o2 + j * 5 + 3, none⟩ = some (.string text') ∧ W.cell? ⟨b2, o2 + j * 5 + 4, none⟩ = some (.slice ak3 nk3 ck3)) ((with_reducible refine HSS.out _ ?_; (repeat' (first | with_reducible exact HY.out | with_reducible refine Below.drew ?_ | with_reducible exact Below.refl _ _))))
        ((go_at_call 18; (with_reducible refine (CL.out _ ?_).mono ?_); (case _ => (repeat' (first | with_reducible refine Below.drew ?_ | with_reducible exact Below.refl _ _))); rintro e w5 ⟨rfl, hb5⟩; have HY : Hid (Below wr.heap.size wr w5) := Lib.hid (Below.trans (by (repeat' (first | with_reducible refine Below.drew ?_ | with_reducible exact Below.refl _ _))) hb5); clear hb5))
      all_goals
        go_wp2_with fail
        go_roundw
        case rel => exact ⟨j + 1, by omega, by simp, HBL.out.trans (HY.out.mono HBL.out.size)⟩
        case measure => simp [intOf]; omega
    · go_wp2_with fail
      go_ret
      exact ⟨rfl, HBA.out.trans (HBL.out.mono HBA.out.size)⟩
theorem same28_all : ∀ d, d ≤ 1000001 → SameSaid28 d
  | 0, _ => fun x h => by have := I.wt_pos x; omega
  | d + 1, h => same28_step d (by omega) (same28_all d (by omega))

theorem nestIs_step (a : IL) (j : Nat) (x : I) (h : a.get? j = some x) : nestIs (a.drop j) = max (nestI x) (nestIs (a.drop (j + 1))) := by
  rw [IL.drop_get a j x h]; rfl
theorem nestIs_end (a : IL) (j : Nat) (h : a.len ≤ j) : nestIs (a.drop j) = 0 := by
  rw [IL.drop_len a j h]; rfl

def NestSaid28 (d : Nat) : Prop := ∀ x : I, x.wt ≤ d → ∀ (w : World) (c : Array Value), RdIt (fun _ => True) w x c →
  Calls Try.prog 19 #[.agg c] w fun e w' => e = .returned (.int .i64 (nestI x : Nat)) ∧ Below w.heap.size w w'
set_option maxRecDepth 100000 in
set_option maxHeartbeats 8000000 in
theorem nest28_step (d : Nat) (hd9 : d ≤ 1000000) (hof : NestSaid28 d) : NestSaid28 (d + 1) := by
  intro x hd w c hr
  have hnw := nestI_wt x
  obtain ⟨k, n, ys, text, kids⟩ := x
  have hnn : nestI (.mk k n ys text kids) = nestIs kids + 1 := rfl
  simp only [I.wt] at hd hnw
  obtain ⟨ab, nb, cb, ak, nk, ck, rfl, hok, hbs, hkl, hrm, hks⟩ := hr
  obtain ⟨wa, hwa⟩ : ∃ W, W = w.alloc (.cells #[.int .i64 k, .int .u64 (n : Nat), .slice ab nb cb, .string text, .slice ak nk ck] 26) := ⟨_, rfl⟩
  obtain ⟨gb, hgb⟩ : ∃ q, q = w.heap.size := ⟨_, rfl⟩
  have hba : Below w.heap.size w wa := by rw [hwa]; exact (Below.refl _ _).alloc (Nat.le_refl _) _
  have hxa : ItBx wa gb k n ab nb cb text ak nk ck := by rw [hwa, hgb]; exact ItBx.new _ _ _ _ _ _ _ _ _ _ _
  have HXa := Lib.hid hxa
  have HBA := Lib.hid hba
  have HKS : Hid (RdIs (fun _ => True) wa ak 0 kids) := hks.below hba
  have HKL := Lib.hid hkl
  have hnk := hrm.1
  have hkw := IL.len_wt kids
  rw [hnn] at hnw
  rw [hnn]
  obtain ⟨M, hM⟩ : ∃ M, M = nestIs kids := ⟨_, rfl⟩
  rw [← hM] at hnw ⊢
  have HM := Lib.hid hM
  have HOF := Lib.hid hof
  have hM9 : M ≤ 1000001 := by omega
  obtain ⟨f0, f1, f2, f3, f4, l0⟩ := hxa
  clear hba hok hbs hrm hks hkl hof hnn hnw hM
  go_enter Try.func19, Try.ntmps19
  go_upto_region 1 with fail
  rw [← hwa, ← hgb]
  clear hwa hgb
  go_wp2_with fail
  go_loopw [3, 4] (fun q i wr => ∃ (j E : Nat), j ≤ nk ∧ i = .int .i64 j ∧ q = .int .i64 E ∧ Hid (M = max E (nestIs (kids.drop j))) ∧ Below wa.heap.size wa wr) (fun _ i _ => nk - (intOf i).toNat)
  case atStart => exact ⟨0, 0, Nat.zero_le _, rfl, rfl, by show _ = _; rw [HM.out]; cases kids <;> simp [IL.drop], Below.refl _ _⟩
  case round =>
    obtain ⟨j, E, hj, rfl, rfl, hr, hbl⟩ := hrel
    have HBL := Lib.hid hbl
    obtain ⟨f0, f1, f2, f3, f4, l0⟩ := HXa.out.keep hbl
    have hE9 : E ≤ M := by have := hr.out; omega
    clear hbl
    by_cases hlt : j < nk
    · obtain ⟨x, hx⟩ := IL.get_some kids j (by rw [HKL.out]; exact hlt)
      have hwg2 := IL.wt_get kids j x hx
      have hst := nestIs_step kids j x hx
      obtain ⟨b, o, k', n', bs', text', kids', ab', nb', cb', ak', nk', ck', hab, hxe, hblt, hxr, z0, z1, z2, z3, z4⟩ := (HKS.out.at hx).cells
      subst hab
      have CL := Lib.hid (HOF.out x (by omega) wr _ (hxr.below HBL.out))
      obtain ⟨Q, hQ⟩ : ∃ q, q = nestI x := ⟨_, rfl⟩
      rw [← hQ] at CL hst
      obtain ⟨E2, hE2⟩ : ∃ q, q = max E Q := ⟨_, rfl⟩
      have HST : Hid (M = max E2 (nestIs (kids.drop (j + 1)))) := by show _ = _; rw [hr.out, hst, hE2]; omega
      have HMX : Hid ((if E < Q then (Q : Int) else (E : Int)) = (E2 : Int)) := by show _ = _; split <;> omega
      have y0 : wr.cell? ⟨b, o + j * 5, none⟩ = some (.int .i64 k') := cell_below HBL.out z0
      have y1 : wr.cell? ⟨b, o + j * 5 + 1, none⟩ = some (.int .u64 (n' : Nat)) := cell_below HBL.out z1
      have y2 : wr.cell? ⟨b, o + j * 5 + 2, none⟩ = some (.slice ab' nb' cb') := cell_below HBL.out z2
      have y3 : wr.cell? ⟨b, o + j * 5 + 3, none⟩ = some (.string text') := cell_below HBL.out z3
      have y4 : wr.cell? ⟨b, o + j * 5 + 4, none⟩ = some (.slice ak' nk' ck') := cell_below HBL.out z4
      have hj0 : (0 : Int) ≤ (j : Int) := by omega
      have hj1 : (j : Int) < (nk : Int) := by omega
      clear hx hwg2 hst hxr z0 z1 z2 z3 z4 hxe hr hQ hE2 hE9
      go_wp2_with fail
      refine CL.out.mono ?_
      rintro e w6 ⟨rfl, hb6⟩
      have HB6 : Hid (Below wa.heap.size wa w6) := HBL.out.trans (hb6.mono HBL.out.size)
      clear hb6 y0 y1 y2 y3 y4 CL
      go_wp2_with fail
      go_roundw
      case rel => exact ⟨j + 1, E2, by omega, by simp, by rw [HMX.out], HST, HB6.out⟩
      case measure => simp [intOf]; omega
    · have hf : Hid (M = E) := by
        show _ = _
        rw [hr.out, nestIs_end kids j (by rw [HKL.out]; omega)]
        omega
      have wE : IntKind.i64.wrap ((E : Int) + 1) = ((E + 1 : Nat) : Int) := (IntWalk.i64_in _ (by omega)).trans (by omega)
      clear hr
      go_wp2_with fail
      go_ret
      exact ⟨by rw [hf.out]; first | rfl | simp, HBA.out.trans (HBL.out.mono HBA.out.size)⟩
theorem nest28_all : ∀ d, d ≤ 1000001 → NestSaid28 d
  | 0, _ => fun x h => by have := I.wt_pos x; omega
  | d + 1, h => nest28_step d (by omega) (nest28_all d (by omega))

theorem okI_of {S : Nat → Prop} {w : World} : ∀ (x : I) (c : Array Value), RdIt S w x c → okI x
  | .mk k n bs t f, c, h => by
    obtain ⟨_, _, _, _, _, _, _, h2, _, _, _, h6⟩ := h
    exact ⟨h2.2.1, okIs_of f _ _ h6⟩
where okIs_of {S : Nat → Prop} {w : World} : ∀ (f : IL) (a : Option Addr) (i : Nat), RdIs S w a i f → okIs f
  | .nil, _, _, _ => trivial
  | .cons x r, a, i, h => by
    obtain ⟨⟨b, o, c, _, _, _, h5⟩, h6⟩ := h
    exact ⟨okI_of x c h5, okIs_of r a (i + 1) h6⟩

end Go.Proofs.Ytambhapgjonmmaa

namespace Go.Proofs.Ytambhapgjonmmaa
open Go.RowKit
set_option linter.unusedVariables false
set_option linter.unusedSimpArgs false

theorem bel3 {a b c : World} (h : Below a.heap.size a b) (k : Below b.heap.size b c) : Below a.heap.size a c := h.trans (k.mono h.size)
def fltE : Rs I → Nat × Nat
  | .error p => p
  | .ok _ => (0, 0)
def itE : Rs I → I
  | .error _ => .mk 0 0 [] ⟨#[]⟩ .nil
  | .ok (x, _) => x
theorem zero_it (w : World) : RdIt (fun _ => True) w (.mk 0 0 [] ⟨#[]⟩ .nil) #[.int .i64 0, .int .u64 0, .slice none 0 0, .string ⟨#[]⟩, .slice none 0 0] := int_rd 0 (by omega) 0 (by decide) w
theorem decO_form {w w' : World} {R : Rs I} {e : Ending} (h : DecO w R e w') : ∃ k n ab nb cb text ak nk ck, e = .returned (.tuple #[.agg #[.int .i64 k, .int .u64 (n : Nat), .slice ab nb cb, .string text, .slice ak nk ck], fltV (fltE R).1 (fltE R).2]) ∧
    RdIt (fun _ => True) w' (itE R) #[.int .i64 k, .int .u64 (n : Nat), .slice ab nb cb, .string text, .slice ak nk ck] ∧ Below w.heap.size w w' := by
  obtain ⟨hb, hm⟩ := h
  cases R with
  | error p =>
    obtain ⟨x, a⟩ := p
    exact ⟨0, 0, none, 0, 0, ⟨#[]⟩, none, 0, 0, hm, zero_it w', hb⟩
  | ok y =>
    obtain ⟨x, q⟩ := y
    obtain ⟨c, rfl, hr⟩ := hm
    obtain ⟨k, n, ab, nb, cb, text, ak, nk, ck, rfl⟩ := hr.shape
    exact ⟨k, n, ab, nb, cb, text, ak, nk, ck, rfl, hr.imp fun _ _ _ => trivial, hb⟩
/-- A fault in a box. -/
def FB3 (W : World) (g e a : Nat) : Prop := W.cell? ⟨g, 0, none⟩ = some (.int .i64 (e : Nat)) ∧ W.cell? ⟨g, 1, none⟩ = some (.int .i64 (a : Nat)) ∧ W.cell? ⟨g, 2, none⟩ = some (.slice none 0 0)
theorem FB3.new (W : World) (e a : Nat) (ty : TypeId) : FB3 (W.alloc (.cells #[.int .i64 (e : Nat), .int .i64 (a : Nat), .slice none 0 0] ty)) W.heap.size e a := by
  refine ⟨?_, ?_, ?_⟩ <;> simp [go_sem]
theorem FB3.keep {W W' : World} {g e a : Nat} (h : FB3 W g e a) (hb : Below W.heap.size W W') : FB3 W' g e a := ⟨cell_below hb h.1, cell_below hb h.2.1, cell_below hb h.2.2⟩
/-- The two boxes that a call's results are laid in. -/
theorem two_boxes (w : World) (k : Int) (n : Nat) (ab : Option Addr) (nb cb : Nat) (text : ByteArray) (ak : Option Addr) (nk ck : Nat) (e a : Nat) (t u : TypeId) :
    ItBx ((w.alloc (.cells #[.int .i64 k, .int .u64 (n : Nat), .slice ab nb cb, .string text, .slice ak nk ck] t)).alloc (.cells #[.int .i64 (e : Nat), .int .i64 (a : Nat), .slice none 0 0] u)) w.heap.size k n ab nb cb text ak nk ck ∧
    FB3 ((w.alloc (.cells #[.int .i64 k, .int .u64 (n : Nat), .slice ab nb cb, .string text, .slice ak nk ck] t)).alloc (.cells #[.int .i64 (e : Nat), .int .i64 (a : Nat), .slice none 0 0] u)) (w.heap.size + 1) e a ∧
    Below w.heap.size w ((w.alloc (.cells #[.int .i64 k, .int .u64 (n : Nat), .slice ab nb cb, .string text, .slice ak nk ck] t)).alloc (.cells #[.int .i64 (e : Nat), .int .i64 (a : Nat), .slice none 0 0] u)) := by
  refine ⟨(ItBx.new _ _ _ _ _ _ _ _ _ _ _).keep ((Below.refl _ _).alloc (Nat.le_refl _) _), ?_, ((Below.refl _ _).alloc (Nat.le_refl _) _).alloc (by simp) _⟩
  have := FB3.new (w.alloc (.cells #[.int .i64 k, .int .u64 (n : Nat), .slice ab nb cb, .string text, .slice ak nk ck] t)) e a u
  simpa using this

end Go.Proofs.Ytambhapgjonmmaa
