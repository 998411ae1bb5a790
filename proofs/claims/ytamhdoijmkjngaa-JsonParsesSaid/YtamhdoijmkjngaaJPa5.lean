/- The parser's kids, walked: op = 2. -/
import Derived.Test.YtamhdoijmkjngaaJM1
namespace Go.Proofs.Ytamhdoijmkjngaa
open Go.RowKit
set_option linter.unusedVariables false
set_option linter.unusedSimpArgs false

set_option maxRecDepth 100000 in
set_option maxHeartbeats 32000000 in
theorem jkids2_calls (dep within : Nat) (hdep : dep ≤ 1000) (hV : ValSaid dep within) (s : ByteArray) (hs : s.size ≤ 1000000) (pb q f : Nat) (hq : q ≤ s.size) (hf : 2 * (s.size - q) + 2 ≤ f) (w : World) (h : PaW w pb s q dep) :
    Calls Try.prog 77 #[.pointer (some ⟨pb, 0, none⟩), .int .i64 2, .int .i64 (within : Nat)] w (KidsOut pb s dep q w (kidsQ (sl s) dep f within 2 q)) := by
  have hlt := h.lt
  obtain ⟨RES, hRES⟩ : ∃ RES, RES = kidsQ (sl s) dep f within 2 q := ⟨_, rfl⟩
  rw [← hRES]
  have CN := fun p hp W hP => Lib.hid (pnext_calls s hs pb p dep hp W hP)
  have CV := fun kd a q f t ht hq hf1 hf2 W hP => Lib.hid (hV s hs pb kd a q f t ht hq hf1 hf2 W hP)
  have CW := fun kd a q t W => Lib.hid (jwrong_calls kd a q t W)
  have CNm := fun kd a q t hq W hP R hR => Lib.hid (jnamed_calls s hs pb dep kd a q t hq W hP R hR)
  have CN0 := fun W hP => CN q hq W hP
  have hn1 := fun kd2 a2 s2 t2 => nextAt_tok (sl s) q kd2 a2 s2 t2 (by rw [sl_len]; exact hq)
  have hne := fun x b => nextAt_err (sl s) q x b
  have HP0 := Lib.hid h
  have hP1 := h.below ((Below.refl w.heap.size w).alloc (Nat.le_refl _) (.cells #[.int .i64 0, .int .i64 0, .slice none 0 0] 36))
  have HP1 := Lib.hid hP1
  unfold kidsQ at hRES
  obtain ⟨R0, hR0⟩ : ∃ R0, R0 = nextAt (sl s) q := ⟨_, rfl⟩
  rw [← hR0] at hRES CN0 hn1 hne
  have HRES := Lib.hid hRES
  clear h hP1 hR0 hV hRES
  by_cases hl : ∃ a1 s1 t1, R0 = .tok 3 a1 s1 t1
  case pos =>
    obtain ⟨a1, s1, t1, rfl⟩ := hl
    obtain ⟨e1, e2, _, _, _, _⟩ := hn1 _ a1 s1 t1 rfl
    rw [sl_len] at e2
    have HN : Hid (RES = .ok .nil s1) := HRES.out
    clear hn1 hne CN CV CW CNm HRES
    go_enter Try.func77, Try.ntmps77
    go_wp2_with fail
    refine (CN0 _ HP1.out).out.mono ?_
    rintro e w1 ⟨rfl, hch, hpw⟩
    obtain ⟨x0, x1, x2, v0, v1, v2⟩ := Box3.chg hch (by omega) (show Box3 _ w.heap.size (.int .i64 0) (.int .i64 0) (.slice none 0 0) by refine ⟨?_, ?_, ?_, ?_, ?_, ?_⟩ <;> simp [go_sem])
    have hchg : PChg pb w w1 := by
      refine Chg.trans ?_ hch (fun _ _ h => h)
      (repeat' (first | with_reducible exact Chg.refl _ _ | with_reducible refine Chg.alloc ?_ _))
    have hz : w.heap.size + 1 ≤ w1.heap.size := by have := hch.size; simp at this; omega
    have l0 : w.heap.size < w1.heap.size := by omega
    have l3 : pb < w1.heap.size := by omega
    have HPW := Lib.hid hpw
    clear hch hpw
    simp only [tokV, errV]
    (repeat (first | go_values | go_skip | go_guarded | go_step | go_upon | (go_simp; go_at_K)))
    refine bodyPost_ret (v := .tuple #[.slice none 0 0, errV (.tok 0 0 0 [])]) (by simp [errV, results, Try.results77, go_sem, *]) rfl ?_
    rw [HN.out]
    refine ⟨?_, none, 0, 0, rfl, rfl, ⟨by omega, fun _ => rfl, by omega⟩, trivial, ?_, e1, e2⟩
    · skip
      (repeat' (first | with_reducible exact hchg | with_reducible apply Chg.drew | with_reducible refine Chg.alloc ?_ _ | with_reducible refine Chg.setCell ?_ (fun h => ?_) _))
      all_goals first | rfl | (simp only [] at h ⊢; omega)
    · refine pa_keep ?_ HPW.out
      (repeat' (first | with_reducible exact Chg.refl _ _ | with_reducible apply Chg.drew | with_reducible refine Chg.alloc ?_ _ | with_reducible refine Chg.setCell ?_ (fun h => ?_) _))
      all_goals (simp only []; omega)
  have HST : Hid (∀ wr, PaW wr pb s (stopOf R0) dep → KNow pb s dep q 2 within RES .nil wr R0) := by
    show ∀ wr, _ → _
    intro wr hw
    cases R0 with
    | err x b => exact ⟨(hne x b rfl).1, (hne x b rfl).2, HRES.out⟩
    | tok kd a s1 t =>
      obtain ⟨e1, e2, e3, e4, e5, e6⟩ := hn1 _ a s1 t rfl
      rw [sl_len] at e2 e6
      refine ⟨hw, e1, e2, Nat.zero_le _, by omega, f, ?_, ?_⟩
      · by_cases h1 : kd = 1
        · exact .inr ⟨h1, by omega⟩
        · left; have := e3 h1; omega
      · rw [HRES.out]; simp only; rw [if_neg (fun e => hl ⟨a, s1, t, by rw [e]⟩)]
  have hlast : ∀ k a1 s1 t1, R0 = .tok k a1 s1 t1 → ((k : Int) == 3) = false := by
    intro k a1 s1 t1 e; simp only [beq_eq_false_iff_ne]; intro e2; exact hl ⟨a1, s1, t1, by rw [e, show k = 3 by omega]⟩
  have herr : ∀ x b, R0 = .err x b → ((x : Int) == 0) = false := by
    intro x b e; have := (hne x b e).1; simp; omega
  clear hl hn1 hne HRES
  cases R0 with
  | err x0 b0 =>
    have b1 := herr x0 b0 rfl
    clear hlast herr
    go_enter Try.func77, Try.ntmps77
    go_wp2_with fail
    refine (CN0 _ HP1.out).out.mono ?_
    rintro e w1 ⟨rfl, hch, hpw⟩
    obtain ⟨y0, y1, y2, v0, v1, v2⟩ := Box3.chg hch (by omega) (show Box3 _ w.heap.size (.int .i64 0) (.int .i64 0) (.slice none 0 0) by refine ⟨?_, ?_, ?_, ?_, ?_, ?_⟩ <;> simp [go_sem])
    have hchg : PChg pb w w1 := by
      refine Chg.trans ?_ hch (fun _ _ h => h)
      (repeat' (first | with_reducible exact Chg.refl _ _ | with_reducible refine Chg.alloc ?_ _))
    have hz : w.heap.size + 1 ≤ w1.heap.size := by have := hch.size; simp at this; omega
    have l0 : w.heap.size < w1.heap.size := by omega
    have l3 : pb < w1.heap.size := by omega
    have HPW := Lib.hid hpw
    clear hch hpw
    simp only [tokV, errV]
    have HKH : Hid (BoxT ((w1.alloc (.cells #[.int .i64 0, .int .i64 0, .int .i64 0, .string { data := #[] }] 33)).alloc (.cells #[.int .i64 (x0 : Nat), .int .i64 (b0 : Nat), .slice none 0 0] 36)) w1.heap.size (.err x0 b0) ∧ BoxE ((w1.alloc (.cells #[.int .i64 0, .int .i64 0, .int .i64 0, .string { data := #[] }] 33)).alloc (.cells #[.int .i64 (x0 : Nat), .int .i64 (b0 : Nat), .slice none 0 0] 36)) (w1.heap.size + 1) (.err x0 b0) ∧ Box3 ((w1.alloc (.cells #[.int .i64 0, .int .i64 0, .int .i64 0, .string { data := #[] }] 33)).alloc (.cells #[.int .i64 (x0 : Nat), .int .i64 (b0 : Nat), .slice none 0 0] 36)) w.heap.size (.int .i64 0) (.int .i64 0) (.slice none 0 0) ∧ PChg pb w ((w1.alloc (.cells #[.int .i64 0, .int .i64 0, .int .i64 0, .string { data := #[] }] 33)).alloc (.cells #[.int .i64 (x0 : Nat), .int .i64 (b0 : Nat), .slice none 0 0] 36))) := by
      refine ⟨?_, ?_, ?_, ?_⟩
      · refine ⟨?_, ?_, ?_, ?_, ?_, ?_, ?_, ?_⟩ <;> simp [go_sem, *]
      · refine ⟨?_, ?_, ?_, ?_, ?_, ?_⟩ <;> simp [go_sem, *]
      · refine ⟨?_, ?_, ?_, ?_, ?_, ?_⟩ <;> simp [go_sem, *]
      · exact (hchg.alloc _).alloc _
    have HEN := HST.out w1 HPW.out
    have hx1 : 1 ≤ x0 := HEN.1
    have hx2 : x0 ≤ 10 := HEN.2.1
    have HN := Lib.hid HEN.2.2
    clear HEN
    clear y0 y1 y2 v0 v1 v2 hchg HPW HST
    go_wp2_with fail
    obtain ⟨g10, hg10⟩ : ∃ g, g = w1.heap.size := ⟨_, rfl⟩
    rw [← hg10] at HKH l0 l3 hz ⊢
    clear hg10
    go_loopw [8, 12] (fun _ _ wr => BoxT wr g10 (.err x0 b0) ∧ BoxE wr (g10 + 1) (.err x0 b0) ∧ Box3 wr w.heap.size (.int .i64 0) (.int .i64 0) (.slice none 0 0) ∧ PChg pb w wr) (fun _ _ _ => 0)
    case atStart => exact HKH.out
    case round =>
      obtain ⟨hbt, hbe, hb7, hchg⟩ := hrel
      obtain ⟨t0, t1, t2, t3, t4, t5, t6, t7⟩ := hbt
      obtain ⟨e0, e1, e2, e3, e4, e5⟩ := hbe
      obtain ⟨z0, z1, z2, z3, z4, z5⟩ := hb7
      have b1 : ((x0 : Int) == 0) = false := by simp; omega
      clear CN CV CW CNm
      have n0 : ¬ pb = w.heap.size := by omega
      have m0 : ¬ w.heap.size = pb := by omega
      have n1 : ¬ pb = g10 := by omega
      have m1 : ¬ g10 = pb := by omega
      have n2 : ¬ pb = g10 + 1 := by omega
      have m2 : ¬ g10 + 1 = pb := by omega
      have n3 : ¬ w.heap.size = g10 := by omega
      have m3 : ¬ g10 = w.heap.size := by omega
      have n4 : ¬ w.heap.size = g10 + 1 := by omega
      have m4 : ¬ g10 + 1 = w.heap.size := by omega
      go_wp2_with fail
      go_region_held3 (fun W => W.cell? ⟨g10 + 1, 0, none⟩ = some (.int .i64 (x0 : Nat)) ∧ W.cell? ⟨g10 + 1, 1, none⟩ = some (.int .i64 (b0 : Nat)) ∧ W.cell? ⟨g10 + 1, 2, none⟩ = some (.slice none 0 0)) (first | (simp [go_sem, *]; done) | go_keep) (fail)
      all_goals
        (repeat (first | go_values | go_skip | go_guarded | go_step | go_upon | (go_simp; go_at_K)))
        refine bodyPost_ret (v := .tuple #[.slice none 0 0, errV (.err x0 b0)]) (by simp [errV, results, Try.results77, go_sem, *]) rfl ?_
        rw [HN.out]
        refine ⟨?_, ⟨by omega, by omega⟩, rfl⟩
        (repeat' (first | with_reducible exact hchg | with_reducible apply Chg.drew | with_reducible refine Chg.alloc ?_ _ | with_reducible refine Chg.setCell ?_ (fun h => ?_) _))
        all_goals first | rfl | (simp only [] at h ⊢; omega)

  | tok kd0 a0 s0 t0 =>
    have b1 := hlast kd0 a0 s0 t0 rfl
    clear hlast herr
    go_enter Try.func77, Try.ntmps77
    go_wp2_with fail
    refine (CN0 _ HP1.out).out.mono ?_
    rintro e w1 ⟨rfl, hch, hpw⟩
    obtain ⟨y0, y1, y2, v0, v1, v2⟩ := Box3.chg hch (by omega) (show Box3 _ w.heap.size (.int .i64 0) (.int .i64 0) (.slice none 0 0) by refine ⟨?_, ?_, ?_, ?_, ?_, ?_⟩ <;> simp [go_sem])
    have hchg : PChg pb w w1 := by
      refine Chg.trans ?_ hch (fun _ _ h => h)
      (repeat' (first | with_reducible exact Chg.refl _ _ | with_reducible refine Chg.alloc ?_ _))
    have hz : w.heap.size + 1 ≤ w1.heap.size := by have := hch.size; simp at this; omega
    have l0 : w.heap.size < w1.heap.size := by omega
    have l3 : pb < w1.heap.size := by omega
    have HPW := Lib.hid hpw
    clear hch hpw
    simp only [tokV, errV]
    have HKH : Hid (KHead w pb s dep q 2 within RES w1.heap.size (.slice none 0 0) ((w1.alloc (.cells #[.int .i64 (kd0 : Nat), .int .i64 (a0 : Nat), .int .i64 (s0 : Nat), .string (txt t0)] 33)).alloc (.cells #[.int .i64 0, .int .i64 0, .slice none 0 0] 36))) := by
      refine ⟨.tok kd0 a0 s0 t0, .nil, ?_, ?_, ?_, OwnM.nil _ _ _, ?_, ?_, HST.out _ ?_⟩
      · refine ⟨?_, ?_, ?_, ?_, ?_, ?_, ?_, ?_⟩ <;> simp [go_sem, *]
      · refine ⟨?_, ?_, ?_, ?_, ?_, ?_⟩ <;> simp [go_sem, *]
      · refine ⟨?_, ?_, ?_, ?_, ?_, ?_⟩ <;> simp [go_sem, *]
      · exact (hchg.alloc _).alloc _
      · simp
      · exact pa_keep ((((Chg.refl _ _).alloc _).alloc _)) HPW.out
    clear y0 y1 y2 v0 v1 v2 hchg HPW HST
    go_wp2_with fail
    obtain ⟨g10, hg10⟩ : ∃ g, g = w1.heap.size := ⟨_, rfl⟩
    rw [← hg10] at HKH l0 l3 hz ⊢
    clear hg10
    go_loopw [8, 12] (fun u _ wr => KHead w pb s dep q 2 within RES g10 u wr) (fun _ _ wr => kMeas s.size pb (g10 + 1) wr)
    case atStart => exact HKH.out
    case round =>
      obtain ⟨R, m, hbt, hbe, hb7, hown, hchg, hgr, hnow⟩ := hrel
      cases R with
      | err x b =>
        obtain ⟨hx1, hx2, hres⟩ := hnow
        obtain ⟨t0, t1, t2, t3, t4, t5, t6, t7⟩ := hbt
        obtain ⟨e0, e1, e2, e3, e4, e5⟩ := hbe
        obtain ⟨z0, z1, z2, z3, z4, z5⟩ := hb7
        have HN := Lib.hid hres
        have b1 : ((x : Int) == 0) = false := by simp; omega
        clear hres hown CN CV CW CNm
        have n0 : ¬ pb = w.heap.size := by omega
        have m0 : ¬ w.heap.size = pb := by omega
        have n1 : ¬ pb = g10 := by omega
        have m1 : ¬ g10 = pb := by omega
        have n2 : ¬ pb = g10 + 1 := by omega
        have m2 : ¬ g10 + 1 = pb := by omega
        have n3 : ¬ w.heap.size = g10 := by omega
        have m3 : ¬ g10 = w.heap.size := by omega
        have n4 : ¬ w.heap.size = g10 + 1 := by omega
        have m4 : ¬ g10 + 1 = w.heap.size := by omega
        go_wp2_with fail
        go_region_held3 (fun W => W.cell? ⟨g10 + 1, 0, none⟩ = some (.int .i64 (x : Nat)) ∧ W.cell? ⟨g10 + 1, 1, none⟩ = some (.int .i64 (b : Nat)) ∧ W.cell? ⟨g10 + 1, 2, none⟩ = some (.slice none 0 0)) (first | (simp [go_sem, *]; done) | go_keep) (fail)
        all_goals
          (repeat (first | go_values | go_skip | go_guarded | go_step | go_upon | (go_simp; go_at_K)))
          refine bodyPost_ret (v := .tuple #[.slice none 0 0, errV (.err x b)]) (by simp [errV, results, Try.results77, go_sem, *]) rfl ?_
          rw [HN.out]
          refine ⟨?_, ⟨by omega, by omega⟩, rfl⟩
          (repeat' (first | with_reducible exact hchg | with_reducible apply Chg.drew | with_reducible refine Chg.alloc ?_ _ | with_reducible refine Chg.setCell ?_ (fun h => ?_) _))
          all_goals first | rfl | (simp only [] at h ⊢; omega)
      | tok kd a s1 t =>
        obtain ⟨hpw, hqs, hsn, hml, htl, f', hfu, hres⟩ := hnow
        obtain ⟨t0, t1, t2, t3, t4, t5, t6, t7⟩ := hbt
        obtain ⟨e0, e1, e2, e3, e4, e5⟩ := hbe
        obtain ⟨z0, z1, z2, z3, z4, z5⟩ := hb7
        obtain ⟨f0, rfl⟩ : ∃ f0, f' = f0 + 1 := ⟨f' - 1, by omega⟩
        have HOWN := Lib.hid hown.bound
        have HPV0 := Lib.hid hpw
        have HM : Hid (kMeas s.size pb (g10 + 1) wr = s.size + 2 - s1) := kMeas_tok e0 hpw.c1
        have l1 : w.heap.size < wr.heap.size := by omega
        have l2 : g10 < wr.heap.size := by omega
        have l4 : g10 + 1 < wr.heap.size := by omega
        have l5 : pb < wr.heap.size := by omega
        clear hown hpw
        have n0 : ¬ pb = w.heap.size := by omega
        have m0 : ¬ w.heap.size = pb := by omega
        have n1 : ¬ pb = g10 := by omega
        have m1 : ¬ g10 = pb := by omega
        have n2 : ¬ pb = g10 + 1 := by omega
        have m2 : ¬ g10 + 1 = pb := by omega
        have n3 : ¬ w.heap.size = g10 := by omega
        have m3 : ¬ g10 = w.heap.size := by omega
        have n4 : ¬ w.heap.size = g10 + 1 := by omega
        have m4 : ¬ g10 + 1 = w.heap.size := by omega

        rw [kidsP_obj] at hres
        obtain ⟨R2, hR2⟩ : ∃ R2, R2 = nmQ (sl s) kd a s1 := ⟨_, rfl⟩
        rw [← hR2] at hres
        have CNm1 := fun W hP => CNm kd a s1 t hsn W hP R2 hR2
        have hnme := fun x b (h : R2 = .err x b) => nmQ_err (sl s) kd a s1 x b (hR2.symm.trans h)
        have hnmt := fun kd2 a2 s2 t2 (h : R2 = .tok kd2 a2 s2 t2) => nmQ_tok (sl s) kd a s1 kd2 a2 s2 t2 (by rw [sl_len]; exact hsn) (hR2.symm.trans h)
        have hnm8 := fun kd2 a2 s2 t2 (h : R2 = .tok kd2 a2 s2 t2) => nmQ_kd (sl s) kd a s1 kd2 a2 s2 t2 (hR2.symm.trans h)
        have HRES := Lib.hid hres
        clear hres hR2
        go_wp2_with fail
        refine (CNm1 _ (HPV0.out.below ((Below.refl _ _).alloc (Nat.le_refl _) _))).out.mono ?_
        rintro e w2 ⟨rfl, hc2, hp2⟩
        have hB10 : Box4 w2 g10 (.int .i64 (kd : Nat)) (.int .i64 (a : Nat)) (.int .i64 (s1 : Nat)) (.string (txt t)) := Box4.chg hc2 (by omega) (by refine ⟨?_, ?_, ?_, ?_, ?_, ?_, ?_, ?_⟩ <;> simp [go_sem, *])
        have hB11 : Box3 w2 (g10 + 1) (.int .i64 0) (.int .i64 0) (.slice none 0 0) := Box3.chg hc2 (by omega) (by refine ⟨?_, ?_, ?_, ?_, ?_, ?_⟩ <;> simp [go_sem, *])
        have hB7 : Box3 w2 w.heap.size (.int .i64 0) (.int .i64 0) (.slice none 0 0) := Box3.chg hc2 (by omega) (by refine ⟨?_, ?_, ?_, ?_, ?_, ?_⟩ <;> simp [go_sem, *])
        have hB12 : Box4 w2 wr.heap.size (.string (txt t)) (.int .i64 0) (.string ⟨#[]⟩) (.slice none 0 0) := Box4.chg hc2 (by omega) (by refine ⟨?_, ?_, ?_, ?_, ?_, ?_, ?_, ?_⟩ <;> simp [go_sem, *])
        have hchg2 : PChg pb w w2 := by
          refine Chg.trans ?_ hc2 (fun _ _ h => h)
          exact hchg.alloc _
        have hC2 : Chg (fun k => k = pb ∨ k = g10 ∨ k = g10 + 1 ∨ wr.heap.size ≤ k) wr w2 := Chg.trans ((Chg.refl _ _).alloc _) hc2 (fun _ _ h => .inl h)
        have hz2 : wr.heap.size < w2.heap.size := by have := hB12.1; simpa using cell_block this
        clear hc2 t0 t1 t2 t3 t4 t5 t6 t7 e0 e1 e2 e3 e4 e5 z0 z1 z2 z3 z4 z5
        obtain ⟨g12, hg12⟩ : ∃ g, g = wr.heap.size := ⟨_, rfl⟩
        rw [← hg12] at hB12 hC2 hz2 HOWN l1 l2 l4 l5 hgr ⊢
        have HG := Lib.hid hg12
        clear hg12
        obtain ⟨t0, t1, t2, t3, t4, t5, t6, t7⟩ := hB10
        obtain ⟨e0, e1, e2, e3, e4, e5⟩ := hB11
        obtain ⟨z0, z1, z2, z3, z4, z5⟩ := hB7
        obtain ⟨k0, k1, k2, k3, k4, k5, k6, k7⟩ := hB12
        obtain ⟨y, hy⟩ : ∃ y, y = txt t := ⟨_, rfl⟩
        rw [← hy] at k0
        have hyt : sl y = t := by rw [hy, sl_txt]
        have hys : y.size ≤ 9223372036854775807 := by rw [← sl_len, hyt]; omega
        have HYT := Lib.hid hyt
        clear hy hyt
        have n10 : ¬ pb = g12 := by omega
        have m10 : ¬ g12 = pb := by omega
        have n11 : ¬ w.heap.size = g12 := by omega
        have m11 : ¬ g12 = w.heap.size := by omega
        have n12 : ¬ g10 = g12 := by omega
        have m12 : ¬ g12 = g10 := by omega
        have n13 : ¬ g10 + 1 = g12 := by omega
        have m13 : ¬ g12 = g10 + 1 := by omega
        have q0 : w.heap.size < w2.heap.size := by omega
        have q1 : g10 < w2.heap.size := by omega
        have q2 : g10 + 1 < w2.heap.size := by omega
        have q3 : pb < w2.heap.size := by omega
        cases R2 with
        | err x b =>
          obtain ⟨hx1, hx2⟩ := hnme x b rfl
          have HN : Hid (RES = .bad x b) := HRES.out
          have b1 : ((x : Int) == 0) = false := by simp; omega
          have b2 : ((x : Int) != 0) = true := by simp; omega
          clear CV CW CN CNm CNm1 hnme hnmt hnm8 HOWN hC2 hp2
          simp only [tokV, errV]
          go_wp2_with fail
          go_region_held3 (fun W => W.cell? ⟨g10 + 1, 0, none⟩ = some (.int .i64 (x : Nat)) ∧ W.cell? ⟨g10 + 1, 1, none⟩ = some (.int .i64 (b : Nat)) ∧ W.cell? ⟨g10 + 1, 2, none⟩ = some (.slice none 0 0)) (first | (simp [go_sem, *]; done) | go_keep) (fail)
          all_goals
            (repeat (first | go_values | go_skip | go_guarded | go_step | go_upon | (go_simp; go_at_K)))
            refine bodyPost_ret (v := .tuple #[.slice none 0 0, errV (.err x b)]) (by simp [errV, results, Try.results77, go_sem, *]) rfl ?_
            rw [HN.out]
            refine ⟨?_, ⟨by omega, by omega⟩, rfl⟩
            (repeat' (first | with_reducible exact hchg2 | with_reducible apply Chg.drew | with_reducible refine Chg.alloc ?_ _ | with_reducible refine Chg.setCell ?_ (fun h => ?_) _))
            all_goals first | rfl | (simp only [] at h ⊢; omega)
        | tok kd2 a2 s2 t2x =>
          obtain ⟨u1, u2, u3, u4, u5⟩ := hnmt kd2 a2 s2 t2x rfl
          rw [sl_len] at u2 u3 u5
          have HPV := Lib.hid (hp2 kd2 a2 s2 t2x rfl)
          have HS : Hid (RES = kidsStep (sl s) dep f0 within 2 m t kd2 a2 s2 t2x) := HRES.out
          have htl2 : t2x.length ≤ 2000000 := by omega
          have hsn2 : s2 ≤ s.size := u2
          have hfu1 : 1 ≤ f0 := by omega
          have hk8 : kd = 8 := hnm8 kd2 a2 s2 t2x rfl
          have hfu2 : kd2 = 2 ∨ kd2 = 4 → 2 * (s.size - s2) + 3 ≤ f0 := by intro _; omega
          clear hnme hnmt hp2 CNm1 hnm8
          simp only [tokV, errV]
          obtain ⟨RV, hRV⟩ : ∃ RV, RV = valP (sl s) dep f0 within kd2 a2 s2 t2x := ⟨_, rfl⟩
          have CV1 := fun W hP => CV kd2 a2 s2 f0 t2x htl2 hsn2 hfu1 hfu2 W hP
          rw [← hRV] at CV1
          have HRV := Lib.hid hRV
          clear hRV
          go_wp2_with fail
          refine (CV1 _ ?hP).out.mono ?_
          case hP =>
            refine pa_keep ?_ HPV.out
            (repeat' (first | with_reducible exact Chg.refl _ _ | with_reducible exact (Chg.refl _ _) | with_reducible apply Chg.drew | with_reducible refine Chg.alloc ?_ _ | with_reducible refine Chg.setCell ?_ (fun h => ?_) _))
            all_goals (simp only []; omega)
          rintro e w3 ⟨hc3, hv⟩
          have hB10 : Box4 w3 g10 (.int .i64 (kd2 : Nat)) (.int .i64 (a2 : Nat)) (.int .i64 (s2 : Nat)) (.string (txt t2x)) := Box4.chg hc3 (by omega) (by refine ⟨?_, ?_, ?_, ?_, ?_, ?_, ?_, ?_⟩ <;> simp [go_sem, *])
          have hB11 : Box3 w3 (g10 + 1) (.int .i64 0) (.int .i64 0) (.slice none 0 0) := Box3.chg hc3 (by omega) (by refine ⟨?_, ?_, ?_, ?_, ?_, ?_⟩ <;> simp [go_sem, *])
          have hB7 : Box3 w3 w.heap.size (.int .i64 0) (.int .i64 0) (.slice none 0 0) := Box3.chg hc3 (by omega) (by refine ⟨?_, ?_, ?_, ?_, ?_, ?_⟩ <;> simp [go_sem, *])
          have hB12 : Box4 w3 g12 (.string y) (.int .i64 0) (.string ⟨#[]⟩) (.slice none 0 0) := Box4.chg hc3 (by omega) (by refine ⟨?_, ?_, ?_, ?_, ?_, ?_, ?_, ?_⟩ <;> simp [go_sem, *])
          have hchg3 : PChg pb w w3 := by
            refine Chg.trans ?_ hc3 (fun _ _ h => h)
            (repeat' (first | with_reducible exact Chg.refl _ _ | with_reducible exact hchg2 | with_reducible apply Chg.drew | with_reducible refine Chg.alloc ?_ _ | with_reducible refine Chg.setCell ?_ (fun h => ?_) _))
            all_goals (first | rfl | (simp only [] at h ⊢; omega))
          have hC3 : Chg (fun k => k = pb ∨ k = g10 ∨ k = g10 + 1 ∨ g12 ≤ k) wr w3 := by
            refine Chg.trans ?_ hc3 (fun _ _ h => .inl h)
            (repeat' (first | with_reducible exact Chg.refl _ _ | with_reducible exact hC2 | with_reducible apply Chg.drew | with_reducible refine Chg.alloc ?_ _ | with_reducible refine Chg.setCell ?_ (fun h => ?_) _))
            all_goals (first | exact .inl rfl | exact .inr (.inl rfl) | exact .inr (.inr (.inl rfl)) | (dsimp only; omega))
          have hz3 : g12 < w3.heap.size := by have := hB12.1; simpa using cell_block this
          have hgz : w.heap.size < w3.heap.size ∧ g10 < w3.heap.size ∧ g10 + 1 < w3.heap.size ∧ pb < w3.heap.size := by omega
          clear t0 t1 t2 t3 t4 t5 t6 t7 e0 e1 e2 e3 e4 e5 z0 z1 z2 z3 z4 z5 k0 k1 k2 k3 k4 k5 k6 k7 q0 q1 q2 q3 hchg2 hC2 hchg HPV0
          obtain ⟨q0, q1, q2, q3⟩ := hgz
          obtain ⟨t0, t1, t2, t3, t4, t5, t6, t7⟩ := hB10
          obtain ⟨e0, e1, e2, e3, e4, e5⟩ := hB11
          obtain ⟨z0, z1, z2, z3, z4, z5⟩ := hB7
          obtain ⟨k0, k1, k2, k3, k4, k5, k6, k7⟩ := hB12
          cases RV with
          | bad x b =>
            obtain ⟨⟨hx1, hx2⟩, rfl⟩ := hv
            have HN : Hid (RES = .bad x b) := by show _ = _; rw [HS.out, step_bad' HRV.out.symm]
            have b1 : ((x : Int) == 0) = false := by simp; omega
            have b2 : ((x : Int) != 0) = true := by simp; omega
            clear hc3 hC3 CV CV1 CW CN CNm HOWN
            simp only [errV, jCells]
            go_wp2_with fail
            go_region_held3 (fun W => W.cell? ⟨g10 + 1, 0, none⟩ = some (.int .i64 (x : Nat)) ∧ W.cell? ⟨g10 + 1, 1, none⟩ = some (.int .i64 (b : Nat)) ∧ W.cell? ⟨g10 + 1, 2, none⟩ = some (.slice none 0 0)) (first | (simp [go_sem, *]; done) | go_keep) (fail)
            all_goals
              (repeat (first | go_values | go_skip | go_guarded | go_step | go_upon | (go_simp; go_at_K)))
              refine bodyPost_ret (v := .tuple #[.slice none 0 0, errV (.err x b)]) (by simp [errV, results, Try.results77, go_sem, *]) rfl ?_
              rw [HN.out]
              refine ⟨?_, ⟨by omega, by omega⟩, rfl⟩
              (repeat' (first | with_reducible exact hchg3 | with_reducible apply Chg.drew | with_reducible refine Chg.alloc ?_ _ | with_reducible refine Chg.setCell ?_ (fun h => ?_) _))
              all_goals first | rfl | (simp only [] at h ⊢; omega)
          | ok j p =>
            obtain ⟨c, rfl, hrd, hp3, hsp, hpn⟩ := hv
            obtain ⟨jk, jt, jm⟩ := j
            have hrd0 := hrd
            obtain ⟨jx, ak, nk, ck, rfl, -⟩ := hrd0
            have HRD := Lib.hid hrd
            have HP3 := Lib.hid hp3
            have HC3 := Lib.hid hC3
            clear hrd hp3 hc3 hC3
            simp only [errV, jCells]
            have hkd1 : kd2 ≠ 1 := fun e => by have hh := HRV.out; rw [e] at hh; exact valP_end _ _ _ _ _ _ _ _ _ hh
            have HX3 : Hid (∀ k, u8.ownBlock = some k → g10 + 2 ≤ k ∧ k < g12) := by
              show ∀ k, _
              intro k hk
              have := HOWN.out.far k hk
              have := HG.out
              omega
            go_wp2_with (at_builtin; refine wpList_appM (v := u8) (f := m) (g := .cons (sl y) (.mk jk jt jm) .nil) (B := g10 + 2) (L := fun k => g10 + 2 ≤ k) (S1 := fun k => g12 < k) (sv := .slice (some ⟨w3.heap.size, 0, none⟩) 1 1) (by rfl) _ _ (by rfl) (by rfl) ?oO (by rfl) ?oS ?oL ?oB ?oH ?_)
            case oO =>
              refine (HOWN.out.chg (X := fun k => k = pb ∨ k = g10 ∨ k = g10 + 1 ∨ g12 ≤ k) ?_ (fun k hk h => by omega) (fun k hk h => by have := HX3.out k hk; omega)).lift (fun k hk => hk.1)
              (repeat' (first | with_reducible exact Chg.refl _ _ | with_reducible exact HC3.out | with_reducible apply Chg.drew | with_reducible refine Chg.alloc ?_ _ | with_reducible refine Chg.setCell ?_ (fun h => ?_) _))
              all_goals (first | exact .inl rfl | exact .inr (.inl rfl) | exact .inr (.inr (.inl rfl)) | (dsimp only; omega))
            case oS =>
              refine SrcM.one (c := jCells jk jx ak nk ck) ?_ hys ?_
              · refine (HRD.out.imp (S' := fun k => g12 < k) (fun k _ h => by have := HG.out; simp at h; omega)).keep (KeepS.chg (X := fun k => k ≤ g12) ?_ (fun k hk h => by omega))
                (repeat' (first | with_reducible exact Chg.refl _ _ | with_reducible exact (Chg.refl _ _) | with_reducible apply Chg.drew | with_reducible refine Chg.alloc ?_ _ | with_reducible refine Chg.setCell ?_ (fun h => ?_) _))
                all_goals (dsimp only; omega)
              · intro j u hj
                match j with
                | 0 => simp [memCells] at hj; subst hj; simp [go_sem]
                | 1 => simp [memCells] at hj; subst hj; simp [go_sem]
                | 2 => simp [memCells] at hj; subst hj; simp [go_sem]
                | 3 => simp [memCells] at hj; subst hj; simp [go_sem]
                | j + 4 => simp [memCells] at hj
            case oL => exact fun k hk => ⟨by omega, fun e => by have := HX3.out k e; omega⟩
            case oB => simp only [M.len]; omega
            case oH => simp; omega
            intro u4 w4 ho4 ha4
            have hB10 : Box4 w4 g10 (.int .i64 (kd2 : Nat)) (.int .i64 (a2 : Nat)) (.int .i64 (s2 : Nat)) (.string (txt t2x)) := Box4.app ha4 (fun e => by have := HX3.out _ e; omega) (by refine ⟨?_, ?_, ?_, ?_, ?_, ?_, ?_, ?_⟩ <;> simp [go_sem, *])
            have hB11 : Box3 w4 (g10 + 1) (.int .i64 0) (.int .i64 0) (.slice none 0 0) := Box3.app ha4 (fun e => by have := HX3.out _ e; omega) (by refine ⟨?_, ?_, ?_, ?_, ?_, ?_⟩ <;> simp [go_sem, *])
            have hB7 : Box3 w4 w.heap.size (.int .i64 0) (.int .i64 0) (.slice none 0 0) := Box3.app ha4 (fun e => by have := HX3.out _ e; omega) (by refine ⟨?_, ?_, ?_, ?_, ?_, ?_⟩ <;> simp [go_sem, *])
            have hchg4 : PChg pb w w4 := by
              refine Chg.trans ?_ ha4.chg (fun i hi e => by have := HX3.out i e; omega)
              (repeat' (first | with_reducible exact Chg.refl _ _ | with_reducible exact hchg3 | with_reducible apply Chg.drew | with_reducible refine Chg.alloc ?_ _ | with_reducible refine Chg.setCell ?_ (fun h => ?_) _))
              all_goals (first | rfl | (simp only [] at h ⊢; omega))
            have hp4 : PaW w4 pb s p dep := by
              refine pa_keep (ha4.chg.weaken fun i _ e e2 => by have := HX3.out i e; omega) (pa_keep ?_ HP3.out)
              (repeat' (first | with_reducible exact Chg.refl _ _ | with_reducible exact (Chg.refl _ _) | with_reducible apply Chg.drew | with_reducible refine Chg.alloc ?_ _ | with_reducible refine Chg.setCell ?_ (fun h => ?_) _))
              all_goals (simp only []; omega)
            have hz4 : g10 + 2 ≤ w4.heap.size := by have := ha4.size; simp at this; omega
            have HO4 := Lib.hid ho4
            have HP4 := Lib.hid hp4
            clear ho4 ha4 hp4 HP3 HRD HX3 HOWN HC3 HPV t0 t1 t2 t3 t4 t5 t6 t7 e0 e1 e2 e3 e4 e5 z0 z1 z2 z3 z4 z5 k0 k1 k2 k3 k4 k5 k6 k7 q0 q1 q2 q3 hchg3
            obtain ⟨t0, t1, t2, t3, t4, t5, t6, t7⟩ := hB10
            obtain ⟨e0, e1, e2, e3, e4, e5⟩ := hB11
            obtain ⟨z0, z1, z2, z3, z4, z5⟩ := hB7
            obtain ⟨m2, hm2⟩ : ∃ m2, m2 = m.append (.cons (sl y) (.mk jk jt jm) .nil) := ⟨_, rfl⟩
            rw [← hm2] at HO4
            have hm2l : m2.len = m.len + 1 := by rw [hm2, M.append_len]; rfl
            have hsnoc : m.snoc t (.mk jk jt jm) = m2 := by rw [hm2, HYT.out]; rfl
            clear hm2
            have CN4 := fun W hP => CN p hpn W hP
            have hn4 := fun kd2 a2 s2 t2 => nextAt_tok (sl s) p kd2 a2 s2 t2 (by rw [sl_len]; exact hpn)
            have hne4 := fun x b => nextAt_err (sl s) p x b
            obtain ⟨R4, hR4⟩ : ∃ R4, R4 = nextAt (sl s) p := ⟨_, rfl⟩
            rw [← hR4] at CN4 hn4 hne4
            have HR4 := Lib.hid hR4
            clear hR4
            go_wp2_with fail
            refine (CN4 _ HP4.out).out.mono ?_
            rintro e w5 ⟨rfl, hc5, hp5⟩
            have hB10 := Box4.chg hc5 (by omega) (show Box4 w4 g10 _ _ _ _ from ⟨t0, t1, t2, t3, t4, t5, t6, t7⟩)
            have hB11 := Box3.chg hc5 (by omega) (show Box3 w4 (g10 + 1) _ _ _ from ⟨e0, e1, e2, e3, e4, e5⟩)
            have hB7 := Box3.chg hc5 (by omega) (show Box3 w4 w.heap.size _ _ _ from ⟨z0, z1, z2, z3, z4, z5⟩)
            have hchg5 : PChg pb w w5 := hchg4.trans hc5 (fun _ _ h => h)
            have HO5 := Lib.hid (HO4.out.chg hc5 (fun k hk h => by omega) (fun k hk h => by have := (HO4.out.far k hk).1; omega))
            have HP5 := Lib.hid hp5
            have hz5 : g10 + 2 ≤ w5.heap.size := Nat.le_trans hz4 hc5.size
            clear hc5 hp5 HP4 HO4 t0 t1 t2 t3 t4 t5 t6 t7 e0 e1 e2 e3 e4 e5 z0 z1 z2 z3 z4 z5 CN4 hchg4
            obtain ⟨t0, t1, t2, t3, t4, t5, t6, t7⟩ := hB10
            obtain ⟨e0, e1, e2, e3, e4, e5⟩ := hB11
            obtain ⟨z0, z1, z2, z3, z4, z5⟩ := hB7
            have q0 : w.heap.size < w5.heap.size := by omega
            have q1 : g10 < w5.heap.size := by omega
            have q2 : g10 + 1 < w5.heap.size := by omega
            have q3 : pb < w5.heap.size := by omega
            cases R4 with
            | err x b =>
              obtain ⟨hx1, hx2⟩ := hne4 x b rfl
              have HN : Hid (RES = .bad x b) := by show _ = _; rw [HS.out, step_err' HRV.out.symm HR4.out.symm]
              have b1 : ((x : Int) == 0) = false := by simp; omega
              have b2 : ((x : Int) != 0) = true := by simp; omega
              clear CV CV1 CW CN CNm hn4 hne4
              simp only [tokV, errV]
              go_wp2_with fail
              go_region_held3 (fun W => W.cell? ⟨g10 + 1, 0, none⟩ = some (.int .i64 (x : Nat)) ∧ W.cell? ⟨g10 + 1, 1, none⟩ = some (.int .i64 (b : Nat)) ∧ W.cell? ⟨g10 + 1, 2, none⟩ = some (.slice none 0 0)) (first | (simp [go_sem, *]; done) | go_keep) (fail)
              all_goals
                (repeat (first | go_values | go_skip | go_guarded | go_step | go_upon | (go_simp; go_at_K)))
                refine bodyPost_ret (v := .tuple #[.slice none 0 0, errV (.err x b)]) (by simp [errV, results, Try.results77, go_sem, *]) rfl ?_
                rw [HN.out]
                refine ⟨?_, ⟨by omega, by omega⟩, rfl⟩
                (repeat' (first | with_reducible exact hchg5 | with_reducible apply Chg.drew | with_reducible refine Chg.alloc ?_ _ | with_reducible refine Chg.setCell ?_ (fun h => ?_) _))
                all_goals first | rfl | (simp only [] at h ⊢; omega)
            | tok kd5 a5 s5 t9 =>
              obtain ⟨o1, o2, o3, o4, o5, o6⟩ := hn4 kd5 a5 s5 t9 rfl
              rw [sl_len] at o2 o4 o6
              clear hn4 hne4
              by_cases hl5 : kd5 = 3
              case pos =>
                have HN : Hid (RES = .ok m2 s5) := by show _ = _; rw [HS.out, step_last' HRV.out.symm HR4.out.symm hl5, hsnoc]
                subst hl5
                obtain ⟨a6, c6, rfl, hrd6, hroom, hlen⟩ := HO5.out.reads (fun k hk => hk)
                have HRD6 := Lib.hid hrd6
                clear CV CV1 CW CN CNm hrd6
                simp only [tokV, errV]
                (repeat (first | go_values | go_skip | go_guarded | go_step | go_upon | (go_simp; go_at_K)))
                refine bodyPost_ret (v := .tuple #[.slice a6 m2.len c6, errV (.tok 0 0 0 [])]) (by simp [errV, results, Try.results77, go_sem, *]) rfl ?_
                rw [HN.out]
                refine ⟨?_, a6, _, c6, rfl, rfl, ⟨hlen, hroom⟩, ?_, ?_, by omega, o2⟩
                · skip
                  (repeat' (first | with_reducible exact hchg5 | with_reducible apply Chg.drew | with_reducible refine Chg.alloc ?_ _ | with_reducible refine Chg.setCell ?_ (fun h => ?_) _))
                  all_goals first | rfl | (simp only [] at h ⊢; omega)
                · refine (HRD6.out.keep (KeepS.chg (X := fun k => k < g10 + 2) ?_ (fun k hk h => by omega))).imp (fun k _ h => by omega)
                  (repeat' (first | with_reducible exact Chg.refl _ _ | with_reducible exact (Chg.refl _ _) | with_reducible apply Chg.drew | with_reducible refine Chg.alloc ?_ _ | with_reducible refine Chg.setCell ?_ (fun h => ?_) _))
                  all_goals (dsimp only; omega)
                · refine pa_keep ?_ HP5.out
                  (repeat' (first | with_reducible exact Chg.refl _ _ | with_reducible exact (Chg.refl _ _) | with_reducible apply Chg.drew | with_reducible refine Chg.alloc ?_ _ | with_reducible refine Chg.setCell ?_ (fun h => ?_) _))
                  all_goals (simp only []; omega)
              have bl5 : ((kd5 : Int) == 3) = false := by simp; omega
              by_cases h7 : kd5 = 7
              case neg =>
                obtain ⟨x, hx, hx1, hx2⟩ := wrongT_eq kd5 a5
                have HN : Hid (RES = .bad x a5) := by show _ = _; rw [HS.out, step_wrong' HRV.out.symm HR4.out.symm hl5 h7, hx]
                have b7 : ((kd5 : Int) != 7) = true := by simp; omega
                have CW1 := fun W => CW kd5 a5 s5 t9 W
                simp only [hx, tokV, errV] at CW1
                clear CV CV1 CW CN CNm
                simp only [tokV, errV]
                go_wp2_with fail
                refine (CW1 _).out.mono ?_
                rintro e w6 ⟨rfl, hb⟩
                have hB7 := Box3.chg (S := fun _ => False) (Chg.of_below hb) (fun h => h) (show Box3 _ w.heap.size (.int .i64 0) (.int .i64 0) (.slice none 0 0) by refine ⟨?_, ?_, ?_, ?_, ?_, ?_⟩ <;> simp [go_sem, *])
                have hchg6 : PChg pb w w6 := by
                  refine PChg.below ?_ hb
                  (repeat' (first | with_reducible exact Chg.refl _ _ | with_reducible exact hchg5 | with_reducible apply Chg.drew | with_reducible refine Chg.alloc ?_ _ | with_reducible refine Chg.setCell ?_ (fun h => ?_) _))
                  all_goals (first | rfl | (simp only [] at h ⊢; omega))
                have hz6 : w.heap.size < w6.heap.size := by have := hb.size; simp at this; omega
                clear hb
                obtain ⟨y0, y1, y2, y3, y4, y5⟩ := hB7
                (repeat (first | go_values | go_skip | go_guarded | go_step | go_upon | (go_simp; go_at_K)))
                refine bodyPost_ret (v := .tuple #[.slice none 0 0, errV (.err x a5)]) (by simp [errV, results, Try.results77, go_sem, *]) rfl ?_
                rw [HN.out]
                refine ⟨?_, ⟨hx1, by omega⟩, rfl⟩
                (repeat' (first | with_reducible exact hchg6 | with_reducible apply Chg.drew | with_reducible refine Chg.alloc ?_ _ | with_reducible refine Chg.setCell ?_ (fun h => ?_) _))
                all_goals first | rfl | (simp only [] at h ⊢; omega)
              subst h7
              have HS6 := step_go' (op := 2) (ks := m) (nm := t) HRV.out.symm HR4.out.symm (by omega)
              rw [hsnoc] at HS6
              have HS7 := Lib.hid (HS.out.trans HS6)
              have CN6 := fun W hP => CN s5 o2 W hP
              have hn6 := fun kd2 a2 s2 t2 => nextAt_tok (sl s) s5 kd2 a2 s2 t2 (by rw [sl_len]; exact o2)
              have hne6 := fun x b => nextAt_err (sl s) s5 x b
              obtain ⟨R6, hR6⟩ : ∃ R6, R6 = nextAt (sl s) s5 := ⟨_, rfl⟩
              rw [← hR6] at CN6 hn6 hne6 HS7
              clear hR6 HS6 HS HRV HR4 CV CV1 CW CN CNm
              have o7 : p < s5 := o3 (by omega)
              clear o3
              rw [show tokV (.tok 7 a5 s5 t9) = .agg #[.int .i64 7, .int .i64 (a5 : Nat), .int .i64 (s5 : Nat), .string (txt t9)] from rfl, show errV (.tok 7 a5 s5 t9) = .agg #[.int .i64 0, .int .i64 0, .slice none 0 0] from rfl]
              go_wp2_with fail
              refine (CN6 _ (pa_keep (w := w5) ?hP HP5.out)).out.mono ?_
              case hP =>
                (repeat' (first | with_reducible exact Chg.refl _ _ | with_reducible exact (Chg.refl _ _) | with_reducible apply Chg.drew | with_reducible refine Chg.alloc ?_ _ | with_reducible refine Chg.setCell ?_ (fun h => ?_) _))
                all_goals (simp only []; omega)
              rintro e w7 ⟨rfl, hc7, hp7⟩
              have hB10 : Box4 w7 g10 (.int .i64 7) (.int .i64 (a5 : Nat)) (.int .i64 (s5 : Nat)) (.string (txt t9)) := Box4.chg hc7 (by omega) (by refine ⟨?_, ?_, ?_, ?_, ?_, ?_, ?_, ?_⟩ <;> simp [go_sem, *])
              have hB11 : Box3 w7 (g10 + 1) (.int .i64 0) (.int .i64 0) (.slice none 0 0) := Box3.chg hc7 (by omega) (by refine ⟨?_, ?_, ?_, ?_, ?_, ?_⟩ <;> simp [go_sem, *])
              have hB7 : Box3 w7 w.heap.size (.int .i64 0) (.int .i64 0) (.slice none 0 0) := Box3.chg hc7 (by omega) (by refine ⟨?_, ?_, ?_, ?_, ?_, ?_⟩ <;> simp [go_sem, *])
              have hchg7 : PChg pb w w7 := by
                refine Chg.trans ?_ hc7 (fun _ _ h => h)
                (repeat' (first | with_reducible exact Chg.refl _ _ | with_reducible exact hchg5 | with_reducible apply Chg.drew | with_reducible refine Chg.alloc ?_ _ | with_reducible refine Chg.setCell ?_ (fun h => ?_) _))
                all_goals (first | rfl | (simp only [] at h ⊢; omega))
              have ho7 : OwnM w7 (g10 + 2) (fun k => g10 + 2 ≤ k) u4 m2 := by
                refine (HO5.out.chg (X := fun k => k < g10 + 2) ?_ (fun k hk h => by omega) (fun k hk h => by have := (HO5.out.far k hk).1; omega)).chg hc7 (fun k hk h => by omega) (fun k hk h => by have := (HO5.out.far k hk).1; omega)
                (repeat' (first | with_reducible exact Chg.refl _ _ | with_reducible exact (Chg.refl _ _) | with_reducible apply Chg.drew | with_reducible refine Chg.alloc ?_ _ | with_reducible refine Chg.setCell ?_ (fun h => ?_) _))
                all_goals (dsimp only; omega)
              have hz7 : g10 + 2 ≤ w7.heap.size := by have := hc7.size; simp at this; omega
              have HO7 := Lib.hid ho7
              have HP7 := Lib.hid hp7
              clear hc7 ho7 hp7 HO5 HP5 t0 t1 t2 t3 t4 t5 t6 t7 e0 e1 e2 e3 e4 e5 z0 z1 z2 z3 z4 z5 q0 q1 q2 q3 CN6 hchg5
              obtain ⟨t0, t1, t2, t3, t4, t5, t6, t7⟩ := hB10
              obtain ⟨e0, e1, e2, e3, e4, e5⟩ := hB11
              obtain ⟨z0, z1, z2, z3, z4, z5⟩ := hB7
              have q0 : w.heap.size < w7.heap.size := by omega
              have q1 : g10 < w7.heap.size := by omega
              have q2 : g10 + 1 < w7.heap.size := by omega
              have q3 : pb < w7.heap.size := by omega
              cases R6 with
              | err x b =>
                obtain ⟨hx1, hx2⟩ := hne6 x b rfl
                simp only [tokV, errV]
                go_wp2_with fail
                go_roundw
                case rel =>
                  refine ⟨.err x b, m2, ?_, ?_, ?_, ?_, ?_, ?_, hx1, hx2, HS7.out⟩
                  · refine ⟨?_, ?_, ?_, ?_, ?_, ?_, ?_, ?_⟩ <;> simp [go_sem, *]
                  · refine ⟨?_, ?_, ?_, ?_, ?_, ?_⟩ <;> simp [go_sem, *]
                  · refine ⟨?_, ?_, ?_, ?_, ?_, ?_⟩ <;> simp [go_sem, *]
                  · refine HO7.out.chg (X := fun k => k < g10 + 2) ?_ (fun k hk h => by omega) (fun k hk h => by have := (HO7.out.far k hk).1; omega)
                    (repeat' (first | with_reducible exact Chg.refl _ _ | with_reducible exact (Chg.refl _ _) | with_reducible apply Chg.drew | with_reducible refine Chg.alloc ?_ _ | with_reducible refine Chg.setCell ?_ (fun h => ?_) _))
                    all_goals (dsimp only; omega)
                  · skip
                    (repeat' (first | with_reducible exact hchg7 | with_reducible apply Chg.drew | with_reducible refine Chg.alloc ?_ _ | with_reducible refine Chg.setCell ?_ (fun h => ?_) _))
                    all_goals first | rfl | (simp only [] at h ⊢; omega)
                  · simp; omega
                case measure =>
                  rw [HM.out, kMeas_err (x := x) hx1 (by simp [go_sem, *])]
                  omega
              | tok kd6 a6 s6 t6x =>
                obtain ⟨v1, v2, v3, v4, v5, v6⟩ := hn6 kd6 a6 s6 t6x rfl
                rw [sl_len] at v2 v4 v6
                simp only [tokV, errV]
                go_wp2_with fail
                go_roundw
                case rel =>
                  refine ⟨.tok kd6 a6 s6 t6x, m2, ?_, ?_, ?_, ?_, ?_, ?_, ?_, by omega, v2, by omega, by omega, f0, ?_, HS7.out⟩
                  · refine ⟨?_, ?_, ?_, ?_, ?_, ?_, ?_, ?_⟩ <;> simp [go_sem, *]
                  · refine ⟨?_, ?_, ?_, ?_, ?_, ?_⟩ <;> simp [go_sem, *]
                  · refine ⟨?_, ?_, ?_, ?_, ?_, ?_⟩ <;> simp [go_sem, *]
                  · refine HO7.out.chg (X := fun k => k < g10 + 2) ?_ (fun k hk h => by omega) (fun k hk h => by have := (HO7.out.far k hk).1; omega)
                    (repeat' (first | with_reducible exact Chg.refl _ _ | with_reducible exact (Chg.refl _ _) | with_reducible apply Chg.drew | with_reducible refine Chg.alloc ?_ _ | with_reducible refine Chg.setCell ?_ (fun h => ?_) _))
                    all_goals (dsimp only; omega)
                  · skip
                    (repeat' (first | with_reducible exact hchg7 | with_reducible apply Chg.drew | with_reducible refine Chg.alloc ?_ _ | with_reducible refine Chg.setCell ?_ (fun h => ?_) _))
                    all_goals first | rfl | (simp only [] at h ⊢; omega)
                  · simp; omega
                  · refine pa_keep ?_ HP7.out
                    (repeat' (first | with_reducible exact Chg.refl _ _ | with_reducible exact (Chg.refl _ _) | with_reducible apply Chg.drew | with_reducible refine Chg.alloc ?_ _ | with_reducible refine Chg.setCell ?_ (fun h => ?_) _))
                    all_goals (simp only []; omega)
                  · by_cases h1 : kd6 = 1
                    · exact .inr ⟨h1, by omega⟩
                    · left; have := v3 h1; omega
                case measure =>
                  rw [HM.out, kMeas_tok (p := s6) (by simp [go_sem, *]) ?hc]
                  case hc =>
                    have := HP7.out.c1
                    simp only [stopOf] at this
                    simp [go_sem, *]
                  omega


end Go.Proofs.Ytamhdoijmkjngaa
