/- Two rows of numbers compared by SameInts; two faults. -/
import Derived.Test.YtkcfkdmffbhljaaME
import Derived.Deep.Cut
namespace Go.Proofs.Ytkcfkdmffbhljaa
open Go.RowKit
set_option linter.unusedVariables false
set_option linter.unusedSimpArgs false

theorem drew_more2 {w : World} {a b : Nat} : ∃ n, w.drewN n = (w.drewN a).drewN b := ⟨_, (World.drewN_drewN ..).symm⟩

theorem take_iat_step {l m : List Int} {k : Nat} (hl : k < l.length) (hm : k < m.length) (h : l.take k = m.take k) (e : iat l k = iat m k) : l.take (k + 1) = m.take (k + 1) := by
  rw [List.take_succ_eq_append_getElem hl, List.take_succ_eq_append_getElem hm, h]
  unfold iat at e
  rw [List.getD_eq_getElem?_getD, List.getD_eq_getElem?_getD, List.getElem?_eq_getElem hl, List.getElem?_eq_getElem hm] at e
  simp at e
  rw [e]

set_option maxRecDepth 100000 in
set_option maxHeartbeats 2000000 in
theorem same_ints2 (S1 S2 : Nat → Prop) (a1 a2 : Option Addr) (n1 n2 c1 c2 : Nat) (w : World) (l1 l2 : List Int) (e1 : l1.length = n1) (e2 : l2.length = n2) (m1 : n1 ≤ 9223372036854775807) (m2 : n2 ≤ 9223372036854775807) (h1 : RdPS S1 w a1 l1) (h2 : RdPS S2 w a2 l2) :
    Calls Try.prog 38 #[.slice a1 n1 c1, .slice a2 n2 c2] w fun e w' => e = .returned (.bool (decide (l1 = l2))) ∧ ∃ n, w.drewN n = w' := by
  have H1 := Lib.hid h1
  have H2 := Lib.hid h2
  have E1 := Lib.hid e1
  have E2 := Lib.hid e2
  clear h1 h2 e1 e2
  by_cases hn : n1 = n2
  · subst hn
    go_enter Try.func38, Try.ntmps38
    go_wp2
    go_loopw [5] (fun i wr => ∃ k : Nat, k ≤ n1 ∧ i = .int .i64 k ∧ l1.take k = l2.take k ∧ ∃ n, wr = w.drewN n) (fun i _ => n1 - (intOf i).toNat)
    case atStart => exact ⟨0, by omega, rfl, by simp, 0, rfl⟩
    case round =>
      obtain ⟨k, hk, rfl, ht, nd, rfl⟩ := hrel
      have HT := Lib.hid ht
      clear ht
      by_cases hlt : k < n1
      · obtain ⟨b1, o1, rfl, d1⟩ := H1.out.at k (by rw [E1.out]; exact hlt)
        obtain ⟨b2, o2, rfl, d2⟩ := H2.out.at k (by rw [E2.out]; exact hlt)
        by_cases he : iat l1 k = iat l2 k
        · have HE := Lib.hid (take_iat_step (by rw [E1.out]; exact hlt) (by rw [E2.out]; exact hlt) HT.out he)
          have hb : (iat l1 k != iat l2 k) = false := by simp [he]
          clear he
          go_wp2
          go_quiet (fail)
          go_wp2
          go_roundw
          case rel => exact ⟨k + 1, by omega, by simp, HE.out, by first | exact ⟨_, rfl⟩ | exact ⟨_, World.drewN_drewN ..⟩⟩
          case measure => simp [intOf]; omega
        · have HE : Hid (decide (l1 = l2) = false) := by
            show _ = false
            rw [decide_eq_false_iff_not]
            rintro rfl
            exact he rfl
          have hb : (iat l1 k != iat l2 k) = true := by simp [he]
          clear he
          go_wp2
          go_quiet (fail)
          go_wp2
          go_ret
          exact ⟨by rw [HE.out]; rfl, by first | exact ⟨_, rfl⟩ | exact drew_more2⟩
      · have HE : Hid (decide (l1 = l2) = true) := by
          show _ = true
          rw [decide_eq_true_eq]
          have := HT.out
          rwa [List.take_of_length_le (by rw [E1.out]; omega), List.take_of_length_le (by rw [E2.out]; omega)] at this
        go_wp2
        go_ret
        exact ⟨by rw [HE.out]; rfl, by first | exact ⟨_, rfl⟩ | exact drew_more2⟩
  · have HE : Hid (decide (l1 = l2) = false) := by
      show _ = false
      rw [decide_eq_false_iff_not]
      rintro rfl
      exact hn (E1.out.symm.trans E2.out)
    go_enter Try.func38, Try.ntmps38
    go_wp2
    go_ret
    exact ⟨by rw [HE.out]; rfl, 0, rfl⟩

set_option maxRecDepth 100000 in
set_option maxHeartbeats 1000000 in
/-- Two faults, alike. -/
theorem same_fault2 (e p : Int) (l : List Int) (S1 S2 : Nat → Prop) (a1 a2 : Option Addr) (n1 n2 c1 c2 : Nat) (w : World) (e1 : l.length = n1) (e2 : l.length = n2) (m1 : n1 ≤ 9223372036854775807) (h1 : RdPS S1 w a1 l) (h2 : RdPS S2 w a2 l) :
    Calls Try.prog 24 #[.agg #[.int .i64 e, .int .i64 p, .slice a1 n1 c1], .agg #[.int .i64 e, .int .i64 p, .slice a2 n2 c2]] w fun r w' => r = .returned (.bool true) ∧ Below w.heap.size w w' := by
  have b1 : (e == e) = true := by simp
  have b2 : (p == p) = true := by simp
  obtain ⟨wa, hwa⟩ : ∃ W, W = (w.alloc (.cells #[.int .i64 e, .int .i64 p, .slice a1 n1 c1] 34)).alloc (.cells #[.int .i64 e, .int .i64 p, .slice a2 n2 c2] 34) := ⟨_, rfl⟩
  have hb : Below w.heap.size w wa := by rw [hwa]; exact ((Below.refl _ _).alloc (Nat.le_refl _) _).alloc (by simp) _
  have C := Lib.hid (fun k => same_ints2 S1 S2 a1 a2 n1 n2 c1 c2 (wa.drewN k) l l e1 e2 m1 (by omega) ((h1.keep (KeepS.below hb)).keep (KeepS.below (below_drewN wa k _))) ((h2.keep (KeepS.below hb)).keep (KeepS.below (below_drewN wa k _))))
  have hd : decide (l = l) = true := by simp
  rw [hd] at C
  have HB := Lib.hid hb
  have k0 : wa.cell? ⟨w.heap.size, 0, none⟩ = some (.int .i64 e) := by rw [hwa]; simp [go_sem]
  have k1 : wa.cell? ⟨w.heap.size, 1, none⟩ = some (.int .i64 p) := by rw [hwa]; simp [go_sem]
  have k2 : wa.cell? ⟨w.heap.size, 2, none⟩ = some (.slice a1 n1 c1) := by rw [hwa]; simp [go_sem]
  have d0 : wa.cell? ⟨w.heap.size + 1, 0, none⟩ = some (.int .i64 e) := by rw [hwa]; simp [go_sem]
  have d1 : wa.cell? ⟨w.heap.size + 1, 1, none⟩ = some (.int .i64 p) := by rw [hwa]; simp [go_sem]
  have d2 : wa.cell? ⟨w.heap.size + 1, 2, none⟩ = some (.slice a2 n2 c2) := by rw [hwa]; simp [go_sem]
  clear h1 h2 hb hd
  go_enter Try.func24, Try.ntmps24
  go_upto_region 1 with fail
  rw [← hwa]
  clear hwa
  go_wp2_with (go_at_call 38; refine (C.out 0).mono ?_; rintro e w' ⟨rfl, nd, rfl⟩)
  go_ret
  exact ⟨rfl, HB.out.trans (below_drewN _ _ _)⟩

end Go.Proofs.Ytkcfkdmffbhljaa
