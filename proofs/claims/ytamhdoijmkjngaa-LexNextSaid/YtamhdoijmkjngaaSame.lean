/- Two lists of numbers held against each other; two faults. -/
import Derived.Test.YtamhdoijmkjngaaRows
import Derived.Test.YtamhdoijmkjngaaLib
namespace Go.Proofs.Ytamhdoijmkjngaa
open Go.RowKit
set_option linter.unusedVariables false
set_option linter.unusedSimpArgs false

theorem RdI.at {k} {w : World} {a len l} (h : RdI k w a len l) (i : Nat) (hi : i < len) : ∃ b o, a = some ⟨b, o, none⟩ ∧ w.cell? ⟨b, o + i, none⟩ = some (.int k (l.getD i 0)) := h.2.2.2 i hi

/-- The number at a place. -/
def iAt (l : List Int) (i : Nat) : Int := l.getD i 0

theorem RdI.at' {k} {w : World} {a len l} (h : RdI k w a len l) (i : Nat) (hi : i < len) : ∃ b o, a = some ⟨b, o, none⟩ ∧ w.cell? ⟨b, o + i, none⟩ = some (.int k (iAt l i)) := h.2.2.2 i hi

theorem drew_more {w : World} {a b : Nat} : ∃ n, (w.drewN a).drewN b = w.drewN n := ⟨_, World.drewN_drewN ..⟩
theorem drew_more' {w : World} {a b : Nat} : ∃ n, w.drewN n = (w.drewN a).drewN b := ⟨_, (World.drewN_drewN ..).symm⟩

theorem take_eq_step {l m : List Int} {k : Nat} (hl : k < l.length) (hm : k < m.length) (h : l.take k = m.take k) (e : iAt l k = iAt m k) : l.take (k + 1) = m.take (k + 1) := by
  rw [List.take_succ_eq_append_getElem hl, List.take_succ_eq_append_getElem hm, h]
  unfold iAt at e
  rw [List.getD_eq_getElem?_getD, List.getD_eq_getElem?_getD, List.getElem?_eq_getElem hl, List.getElem?_eq_getElem hm] at e
  simp at e
  rw [e]

set_option maxRecDepth 100000 in
set_option maxHeartbeats 1000000 in
theorem same_ints (a1 a2 : Option Addr) (n1 n2 c1 c2 : Nat) (w : World) (l1 l2 : List Int) (h1 : RdI .i64 w a1 n1 l1) (h2 : RdI .i64 w a2 n2 l2) :
    Calls Try.prog 52 #[.slice a1 n1 c1, .slice a2 n2 c2] w fun e w' => e = .returned (.bool (decide (l1 = l2))) ∧ ∃ n, w.drewN n = w' := by
  have H1 := Lib.hid h1
  have H2 := Lib.hid h2
  have m1 := h1.2.1
  have m2 := h2.2.1
  clear h1 h2
  by_cases hn : n1 = n2
  · subst hn
    go_enter Try.func52, Try.ntmps52
    go_wp2
    go_loopw [5] (fun i wr => ∃ k : Nat, k ≤ n1 ∧ i = .int .i64 k ∧ l1.take k = l2.take k ∧ ∃ n, wr = w.drewN n) (fun i _ => n1 - (intOf i).toNat)
    case atStart => exact ⟨0, by omega, rfl, by simp, 0, rfl⟩
    case round =>
      obtain ⟨k, hk, rfl, ht, nd, rfl⟩ := hrel
      have HT := Lib.hid ht
      clear ht
      by_cases hlt : k < n1
      · obtain ⟨b1, o1, rfl, d1⟩ := H1.out.at' k hlt
        obtain ⟨b2, o2, rfl, d2⟩ := H2.out.at' k hlt
        by_cases he : iAt l1 k = iAt l2 k
        · have HE := Lib.hid (take_eq_step (by rw [H1.out.1]; exact hlt) (by rw [H2.out.1]; exact hlt) HT.out he)
          have hb : (iAt l1 k != iAt l2 k) = false := by simp [he]
          clear he
          go_wp2
          go_quiet (fail)
          go_wp2
          go_roundw
          case rel => exact ⟨k + 1, by omega, by simp, HE.out, by first | exact ⟨_, rfl⟩ | exact drew_more⟩
          case measure => simp [intOf]; omega
        · have HE : Hid (decide (l1 = l2) = false) := by
            show _ = false
            rw [decide_eq_false_iff_not]
            rintro rfl
            exact he rfl
          have hb : (iAt l1 k != iAt l2 k) = true := by simp [he]
          clear he
          go_wp2
          go_quiet (fail)
          go_wp2
          go_ret
          exact ⟨by rw [HE.out]; rfl, by first | exact ⟨_, rfl⟩ | exact drew_more'⟩
      · have HE : Hid (decide (l1 = l2) = true) := by
          show _ = true
          rw [decide_eq_true_eq]
          have := HT.out
          rwa [List.take_of_length_le (by rw [H1.out.1]; omega), List.take_of_length_le (by rw [H2.out.1]; omega)] at this
        go_wp2
        go_ret
        exact ⟨by rw [HE.out]; rfl, by first | exact ⟨_, rfl⟩ | exact drew_more'⟩
  · have HE : Hid (decide (l1 = l2) = false) := by
      show _ = false
      rw [decide_eq_false_iff_not]
      rintro rfl
      exact hn (H1.out.1.symm.trans H2.out.1)
    have hb : ((n1 : Int) != (n2 : Int)) = true := by simp; omega
    go_enter Try.func52, Try.ntmps52
    go_wp2
    go_ret
    exact ⟨by rw [HE.out]; rfl, 0, rfl⟩

set_option maxRecDepth 100000 in
set_option maxHeartbeats 1000000 in
/-- Two faults without paths, alike. -/
theorem same_fault (e p : Int) (w : World) : Calls Try.prog 28 #[.agg #[.int .i64 e, .int .i64 p, .slice none 0 0], .agg #[.int .i64 e, .int .i64 p, .slice none 0 0]] w fun r w' => r = .returned (.bool true) ∧ Below w.heap.size w w' := by
  have b1 : (e == e) = true := by simp
  have b2 : (p == p) = true := by simp
  go_enter Try.func28, Try.ntmps28
  go_wp2_with (go_at_call 52; refine (same_ints none none 0 0 0 0 _ [] [] ⟨rfl, by omega, by simp, fun i hi => absurd hi (Nat.not_lt_zero i)⟩ ⟨rfl, by omega, by simp, fun i hi => absurd hi (Nat.not_lt_zero i)⟩).mono ?_; rintro e w' ⟨rfl, nd, rfl⟩)
  go_ret
  exact ⟨rfl, Below_drewN (((Below.refl w.heap.size w).alloc (Nat.le_refl _) _).alloc (by simp) _)⟩

end Go.Proofs.Ytamhdoijmkjngaa
