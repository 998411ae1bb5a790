/- Rows of paths held against each other; a path and one number more. -/
import Derived.Test.YtiodjhcjfbnocaaPaA
import Derived.BigQuiet
namespace Go.Proofs.Ytiodjhcjfbnocaa
open Go.RowKit
set_option linter.unusedVariables false
set_option linter.unusedSimpArgs false

theorem drew_more2 {w : World} {a b : Nat} : ∃ n, w.drewN n = (w.drewN a).drewN b := ⟨_, (World.drewN_drewN ..).symm⟩

theorem RdPS.at {S : Nat → Prop} {w : World} {a : Option Addr} {l : List Int} (h : RdPS S w a l) (i : Nat) (hi : i < l.length) : ∃ b o, a = some ⟨b, o, none⟩ ∧ w.cell? ⟨b, o + i, none⟩ = some (.int .i64 (iat l i)) := h.1 i hi

theorem take_iat_step {l m : List Int} {k : Nat} (hl : k < l.length) (hm : k < m.length) (h : l.take k = m.take k) (e : iat l k = iat m k) : l.take (k + 1) = m.take (k + 1) := by
  rw [List.take_succ_eq_append_getElem hl, List.take_succ_eq_append_getElem hm, h]
  unfold iat at e
  rw [List.getD_eq_getElem?_getD, List.getD_eq_getElem?_getD, List.getElem?_eq_getElem hl, List.getElem?_eq_getElem hm] at e
  simp at e
  rw [e]

set_option maxRecDepth 100000 in
set_option maxHeartbeats 2000000 in
theorem same_ints2 (S1 S2 : Nat → Prop) (a1 a2 : Option Addr) (n1 n2 c1 c2 : Nat) (w : World) (l1 l2 : List Int) (e1 : l1.length = n1) (e2 : l2.length = n2) (m1 : n1 ≤ 9223372036854775807) (m2 : n2 ≤ 9223372036854775807) (h1 : RdPS S1 w a1 l1) (h2 : RdPS S2 w a2 l2) :
    Calls Try.prog 36 #[.slice a1 n1 c1, .slice a2 n2 c2] w fun e w' => e = .returned (.bool (decide (l1 = l2))) ∧ ∃ n, w.drewN n = w' := by
  have H1 := Lib.hid h1
  have H2 := Lib.hid h2
  have E1 := Lib.hid e1
  have E2 := Lib.hid e2
  clear h1 h2 e1 e2
  by_cases hn : n1 = n2
  · subst hn
    go_enter Try.func36, Try.ntmps36
    go_wp2
    go_loopw [5] (fun i wr => ∃ k : Nat, k ≤ n1 ∧ i = .int .i64 k ∧ l1.take k = l2.take k ∧ ∃ n, wr = w.drewN n) (fun i _ => n1 - (intOf i).toNat)
    case atStart => exact ⟨0, by omega, rfl, by simp, 0, rfl⟩
    case round =>
      obtain ⟨k, hk, rfl, ht, nd, rfl⟩ := hrel
      have HT := Lib.hid ht
      clear ht
      by_cases hlt : k < n1
      · obtain ⟨b1, o1, rfl, d1⟩ := H1.out.at k (by rw [E1.out]; exact hlt)
        obtain ⟨b2, o2, rfl, d2⟩ := H2.out.at k (by rw [E2.out]; exact hlt)
        by_cases he : iat l1 k = iat l2 k
        · have HE := Lib.hid (take_iat_step (by rw [E1.out]; exact hlt) (by rw [E2.out]; exact hlt) HT.out he)
          have hb : (iat l1 k != iat l2 k) = false := by simp [he]
          clear he
          go_wp2
          go_quiet (fail)
          go_wp2
          go_roundw
          case rel => exact ⟨k + 1, by omega, by simp, HE.out, by first | exact ⟨_, rfl⟩ | exact ⟨_, World.drewN_drewN ..⟩⟩
          case measure => simp [intOf]; omega
        · have HE : Hid (decide (l1 = l2) = false) := by
            show _ = false
            rw [decide_eq_false_iff_not]
            rintro rfl
            exact he rfl
          have hb : (iat l1 k != iat l2 k) = true := by simp [he]
          clear he
          go_wp2
          go_quiet (fail)
          go_wp2
          go_ret
          exact ⟨by rw [HE.out]; rfl, by first | exact ⟨_, rfl⟩ | exact drew_more2⟩
      · have HE : Hid (decide (l1 = l2) = true) := by
          show _ = true
          rw [decide_eq_true_eq]
          have := HT.out
          rwa [List.take_of_length_le (by rw [E1.out]; omega), List.take_of_length_le (by rw [E2.out]; omega)] at this
        go_wp2
        go_ret
        exact ⟨by rw [HE.out]; rfl, by first | exact ⟨_, rfl⟩ | exact drew_more2⟩
  · have HE : Hid (decide (l1 = l2) = false) := by
      show _ = false
      rw [decide_eq_false_iff_not]
      rintro rfl
      exact hn (E1.out.symm.trans E2.out)
    go_enter Try.func36, Try.ntmps36
    go_wp2
    go_ret
    exact ⟨by rw [HE.out]; rfl, 0, rfl⟩

/-- A row of paths, as it lies. -/
def RdR (S : Nat → Prop) (w : World) (a : Option Addr) (f : List (List Int)) : Prop := ∃ xs, PsC S w f xs ∧ RdF w a f.length fun i => xs.getD i undef

theorem OwnR.rdr {w : World} {B : Nat} {L : Nat → Prop} {v : Value} {f : List (List Int)} (h : OwnR w B L v f) : ∃ a c, v = .slice a f.length c ∧ f.length ≤ 9223372036854775807 ∧ (a = none → c = 0) ∧ RdR L w a f := by
  obtain ⟨xs, a, c, h1, h2, h3, h4, h5⟩ := h.reads
  exact ⟨a, c, h2, h3, h4, xs, h1, h5⟩

theorem RdR.keep {S : Nat → Prop} {w w' : World} {a : Option Addr} {f : List (List Int)} (h : RdR S w a f) (hb : Below w.heap.size w w') : RdR S w' a f := by
  obtain ⟨xs, h1, h2⟩ := h
  exact ⟨xs, h1.keep (KeepS.below hb), h2.keep hb (Nat.le_refl _)⟩

theorem RdR.at {S : Nat → Prop} {w : World} {a : Option Addr} {f : List (List Int)} (h : RdR S w a f) (i : Nat) (hi : i < f.length) : ∃ b o a2 c2, a = some ⟨b, o, none⟩ ∧ w.cell? ⟨b, o + i, none⟩ = some (.slice a2 (pAt f i).length c2) ∧ RdPS S w a2 (pAt f i) ∧ (pAt f i).length ≤ 9223372036854775807 ∧ (a2 = none → c2 = 0) ∧ (pAt f i).length ≤ c2 := by
  obtain ⟨xs, h1, h2⟩ := h
  obtain ⟨b, o, ha, hc⟩ := h2 i hi
  obtain ⟨a2, c2, hx, hm, hp, h0, hl⟩ := h1.at i hi
  refine ⟨b, o, a2, c2, ha, ?_, hp, hm, h0, hl⟩
  rw [hc]
  show some (xs.getD i undef) = _
  rw [List.getD_eq_getElem?_getD, hx]
  rfl

theorem take_pAt_step {l m : List (List Int)} {k : Nat} (hl : k < l.length) (hm : k < m.length) (h : l.take k = m.take k) (e : pAt l k = pAt m k) : l.take (k + 1) = m.take (k + 1) := by
  rw [List.take_succ_eq_append_getElem hl, List.take_succ_eq_append_getElem hm, h]
  unfold pAt at e
  rw [List.getD_eq_getElem?_getD, List.getD_eq_getElem?_getD, List.getElem?_eq_getElem hl, List.getElem?_eq_getElem hm] at e
  simp at e
  rw [e]

def SpRel (w wr : World) (f g : List (List Int)) (i : Value) : Prop := ∃ k : Nat, k ≤ f.length ∧ i = .int .i64 k ∧ Hid (f.take k = g.take k) ∧ ∃ n, wr = w.drewN n

set_option maxRecDepth 100000 in
set_option maxHeartbeats 4000000 in
theorem same_paths (S1 S2 : Nat → Prop) (a1 a2 : Option Addr) (n1 n2 c1 c2 : Nat) (w : World) (f g : List (List Int)) (e1 : f.length = n1) (e2 : g.length = n2) (m1 : n1 ≤ 9223372036854775807) (m2 : n2 ≤ 9223372036854775807) (h1 : RdR S1 w a1 f) (h2 : RdR S2 w a2 g) :
    Calls Try.prog 15 #[.slice a1 n1 c1, .slice a2 n2 c2] w fun e w' => e = .returned (.bool (decide (f = g))) ∧ ∃ n, w.drewN n = w' := by
  have H1 := Lib.hid h1
  have H2 := Lib.hid h2
  have E1 := Lib.hid e1
  have E2 := Lib.hid e2
  clear h1 h2 e1 e2
  by_cases hn : n1 = n2
  · subst hn
    go_enter Try.func15, Try.ntmps15
    go_wp2
    go_loopw [5] (fun i wr => SpRel w wr f g i) (fun i _ => n1 - (intOf i).toNat)
    case atStart => exact ⟨0, by omega, rfl, by show _ = _; simp, 0, rfl⟩
    case round =>
      obtain ⟨k, hk, rfl, HT, nd, hnd⟩ := hrel
      have HND := Lib.hid hnd
      have hbw : Below w.heap.size w wr := by rw [hnd]; exact below_drewN _ _ _
      clear hnd
      rw [E1.out] at hk
      by_cases hlt : k < n1
      · obtain ⟨b1, o1, p1, q1, rfl, d1, r1, k1, -⟩ := (H1.out.keep hbw).at k (by rw [E1.out]; exact hlt)
        obtain ⟨b2, o2, p2, q2, rfl, d2, r2, k2, -⟩ := (H2.out.keep hbw).at k (by rw [E2.out]; exact hlt)
        have C := fun m => Lib.hid (same_ints2 S1 S2 p1 p2 (pAt f k).length (pAt g k).length q1 q2 (wr.drewN m) (pAt f k) (pAt g k) rfl rfl k1 k2 (r1.keep (KeepS.below (below_drewN _ _ _))) (r2.keep (KeepS.below (below_drewN _ _ _))))
        have hkm : k < 9223372036854775807 := by omega
        by_cases he : pAt f k = pAt g k
        · have HE := Lib.hid (take_pAt_step (by rw [E1.out]; exact hlt) (by rw [E2.out]; exact hlt) HT.out he)
          have hb : decide (pAt f k = pAt g k) = true := by simp [he]
          rw [hb] at C
          generalize (pAt f k).length = x1 at *
          generalize (pAt g k).length = x2 at *
          clear he r1 r2 hb hbw
          go_wp2
          go_quiet ((go_at_call 36; refine Calls.quiet_of ((C _).out.mono fun e w' h => ⟨h.1, h.2.imp fun _ e => e.symm⟩)))
          go_wp2
          go_roundw
          case rel => exact ⟨k + 1, by rw [E1.out]; omega, by simp, HE, by rw [HND.out]; first | exact ⟨_, rfl⟩ | exact ⟨_, World.drewN_drewN ..⟩⟩
          case measure => simp [intOf]; omega
        · have HE : Hid (decide (f = g) = false) := by
            show _ = false
            rw [decide_eq_false_iff_not]
            rintro rfl
            exact he rfl
          have hb : decide (pAt f k = pAt g k) = false := by simp [he]
          rw [hb] at C
          generalize (pAt f k).length = x1 at *
          generalize (pAt g k).length = x2 at *
          clear he r1 r2 hb hbw
          go_wp2
          go_quiet ((go_at_call 36; refine Calls.quiet_of ((C _).out.mono fun e w' h => ⟨h.1, h.2.imp fun _ e => e.symm⟩)))
          go_wp2
          go_ret
          exact ⟨by rw [HE.out]; rfl, by rw [HND.out]; first | exact ⟨_, rfl⟩ | exact drew_more2⟩
      · have HE : Hid (decide (f = g) = true) := by
          show _ = true
          rw [decide_eq_true_eq]
          have := HT.out
          rwa [List.take_of_length_le (by rw [E1.out]; omega), List.take_of_length_le (by rw [E2.out]; omega)] at this
        go_wp2
        go_ret
        exact ⟨by rw [HE.out]; rfl, by rw [HND.out]; first | exact ⟨_, rfl⟩ | exact drew_more2⟩
  · have HE : Hid (decide (f = g) = false) := by
      show _ = false
      rw [decide_eq_false_iff_not]
      rintro rfl
      exact hn (E1.out.symm.trans E2.out)
    go_enter Try.func15, Try.ntmps15
    go_wp2
    go_ret
    exact ⟨by rw [HE.out]; rfl, 0, rfl⟩

theorem ownI_empty {w : World} {B g : Nat} (h : w.heap[g]? = some (.cells #[] 3 (0, 0))) (hB : B ≤ g) : OwnI w B (.slice (some ⟨g, 0, none⟩) 0 0) [] :=
  ⟨rfl, .inr ⟨g, 0, #[], rfl, hB, h, Nat.le_refl _, by unfold maxLen; omega, rfl, rfl⟩⟩

set_option maxRecDepth 100000 in
set_option maxHeartbeats 2000000 in
theorem longer_calls (S : Nat → Prop) (a : Option Addr) (n c : Nat) (p : List Int) (hn : p.length = n) (hc : a = none → c = 0) (hb : n ≤ 1000000) (i : Int) (w : World) (h : RdPS S w a p) :
    Calls Try.prog 47 #[.slice a n c, .int .i64 i] w fun e w' => ∃ v, e = .returned v ∧ OwnI w' w.heap.size v (p ++ [i]) ∧ Below w.heap.size w w' := by
  subst hn
  have HSR := Lib.hid ((h.keep (KeepS.below ((Below.refl _ _).alloc (Nat.le_refl _) (.cells #[] 3)))).src hc)
  have HE : Hid (OwnI (w.alloc (.cells #[] 3)) w.heap.size (.slice (some ⟨w.heap.size, 0, none⟩) 0 0) []) := ownI_empty (heap_alloc_new w _) (Nat.le_refl _)
  clear h hc
  obtain ⟨m, hm⟩ : ∃ m, m = p.length := ⟨_, rfl⟩
  rw [← hm] at HSR hb ⊢
  go_enter Try.func47, Try.ntmps47
  go_wp2_with (at_builtin; refine wpList_appI (v := .slice (some ⟨w.heap.size, 0, none⟩) 0 0) (xs := []) (sv := .slice a m c) (l := p) (B := w.heap.size) (by rfl) _ _ (by rfl) (by rfl) HE.out (by rfl) (by rw [← hm]; exact HSR.out) ?o3 ?o4 ?_)
  case o3 => rw [← hm]; simp; omega
  case o4 => simp
  intro v1 w1 ho1 ha1
  have ho1 : OwnI w1 w.heap.size v1 p := ho1
  have HB1 : Hid (Below w.heap.size w w1) := ha1.below ((Below.refl _ _).alloc (Nat.le_refl _) _) (by simp) (fun k hk => by have := Option.some.inj (show some w.heap.size = some k from hk); omega)
  have HO1 := Lib.hid ho1
  obtain ⟨a1, c1, rfl, -⟩ := ho1.rd
  rw [← hm] at HO1 ⊢
  have HM := Lib.hid hm
  clear ho1 ha1 HSR HE hm
  go_wp2_with (at_builtin; refine wpList_appI (v := .slice a1 m c1) (xs := p) (sv := .slice (some ⟨w1.heap.size, 0, none⟩) 1 1) (l := [i]) (B := w.heap.size) (by rfl) _ _ (by rfl) (by rfl) (owns_keep HO1.out ((Below.refl _ _).alloc (Nat.le_refl _) _)) (by rfl) (src_int _ _ _) ?o5 ?o6 ?_)
  case o5 => rw [← HM.out]; simp; omega
  case o6 => have := HB1.out.size; simp; omega
  intro v2 w2 ho2 ha2
  have HB2 : Hid (Below w.heap.size w w2) := ha2.below (HB1.out.alloc HB1.out.size _) (by have := HB1.out.size; simp; omega) (fun k hk => (owns_lt HO1.out k hk).1)
  have HO2 := Lib.hid ho2
  clear ho2 ha2
  go_wp2_with fail
  go_ret
  exact ⟨_, rfl, HO2.out, HB2.out⟩

end Go.Proofs.Ytiodjhcjfbnocaa
