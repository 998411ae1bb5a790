/- The parser of JSON, walked. JoutBack: the walk. The law's awake (json). -/
import Derived.Test.YtamhdoijmkjngaaJPa6
import Derived.Test.YtamhdoijmkjngaaJApa
namespace Go.Proofs.Ytamhdoijmkjngaa
open Go.RowKit
set_option linter.unusedVariables false
set_option linter.unusedSimpArgs false

theorem kids_said (dep within : Nat) (hdep : dep ≤ 1000) (hV : ValSaid dep within) : KidsSaid dep within := by
  intro s hs pb op q f hop hq hf w h
  rcases hop with rfl | rfl
  · exact jkids2_calls dep within hdep hV s hs pb q f hq hf w h
  · exact jkids4_calls dep within hdep hV s hs pb q f hq hf w h

theorem val_said (dep : Nat) (hdep : dep ≤ 1000) : ∀ k within, dep ≤ within + k → ValSaid dep within
  | 0, within, h => jvalue_calls dep within hdep fun h2 => by omega
  | k + 1, within, h => jvalue_calls dep within hdep fun h2 => kids_said dep (within + 1) hdep (val_said dep hdep k (within + 1) (by omega))

/-- Behind the value. -/
def parseQ (l : List UInt8) : PR J → PR J
  | .bad e b => .bad e b
  | .ok j p => match nextAt l p with
    | .err e b => .bad e b
    | .tok kd1 a1 _ _ => if kd1 = 1 then .ok j 0 else .bad 7 a1
theorem parse_tok (l : List UInt8) (dep kd a s : Nat) (t : List UInt8) (h1 : dep ≤ 1000) (h : nextAt l 0 = .tok kd a s t) : parseP l (dep : Nat) = parseQ l (valP l dep (2 * l.length + 10) 0 kd a s t) := by
  unfold parseP
  rw [if_neg (by omega), h, Int.toNat_natCast]
  simp only
  cases valP l dep (2 * l.length + 10) 0 kd a s t with
  | bad e b => rfl
  | ok j p =>
    simp only [parseQ]
    cases nextAt l p <;> rfl
theorem parse_err (l : List UInt8) (dep x b : Nat) (h1 : dep ≤ 1000) (h : nextAt l 0 = .err x b) : parseP l (dep : Nat) = .bad x b := by
  unfold parseP
  rw [if_neg (by omega), h]

/-- What Parse answers. -/
def ParseOut (w : World) (R : PR J) (e : Ending) (w' : World) : Prop := Below w.heap.size w w' ∧ match R with
  | .bad x b => (1 ≤ x ∧ x ≤ 10) ∧ e = .returned (.tuple #[.agg (jCells 0 ⟨#[]⟩ none 0 0), errV (.err x b)])
  | .ok j _ => ∃ c, e = .returned (.tuple #[.agg c, errV (.tok 0 0 0 [])]) ∧ RdJ (fun k => w.heap.size ≤ k) w' j c

set_option maxRecDepth 100000 in
set_option maxHeartbeats 16000000 in
theorem parse_calls (s : ByteArray) (hs : s.size ≤ 1000000) (dp : Int) (hdp : -9223372036854775808 ≤ dp ∧ dp ≤ 9223372036854775807) (w : World) :
    Calls Try.prog 33 #[.string s, .int .i64 dp] w (ParseOut w (parseP (sl s) dp)) := by
  obtain ⟨R, hR⟩ : ∃ R, R = parseP (sl s) dp := ⟨_, rfl⟩
  rw [← hR]
  by_cases hout : dp < 0 ∨ 1000 < dp
  · have HN : Hid (R = .bad 1 0) := by show _ = _; rw [hR]; unfold parseP; rw [if_pos hout]
    clear hR
    have hout2 : dp < 0 ∨ (0 ≤ dp ∧ 1000 < dp) := by omega
    clear hout
    rcases hout2 with h | ⟨h, h2⟩
    all_goals
      go_enter Try.func33, Try.ntmps33
      (repeat (first | go_values | go_skip | go_guarded | go_step | go_upon | (go_simp; go_at_K)))
      refine bodyPost_ret (v := .tuple #[.agg (jCells 0 ⟨#[]⟩ none 0 0), errV (.err 1 0)]) (by simp [errV, results, Try.results33, go_sem, *]) rfl ?_
      rw [HN.out]
      refine ⟨?_, ⟨by omega, by omega⟩, rfl⟩
      (repeat' (first | with_reducible exact Below.refl _ _ | with_reducible apply Below.drew | with_reducible refine Below.alloc ?_ (by first | omega | (simp; done) | (simp; omega)) _ | with_reducible refine Below.setCell ?_ (by first | omega | (simp only []; omega)) _))
  obtain ⟨dep, rfl⟩ : ∃ n : Nat, dp = n := ⟨dp.toNat, by omega⟩
  have hdep : dep ≤ 1000 := by omega
  have c1 : decide ((dep : Int) < 0) = false := by simp
  have c2 : decide ((1000 : Int) < (dep : Int)) = false := by simp; omega
  have hV := val_said dep hdep dep 0 (by omega)
  have CV := fun pb kd a q f t ht hq hf1 hf2 W hP => Lib.hid (hV s hs pb kd a q f t ht hq hf1 hf2 W hP)
  have CN := fun pb p hp W hP => Lib.hid (pnext_calls s hs pb p dep hp W hP)
  obtain ⟨R1, hR1⟩ : ∃ R1, R1 = nextAt (sl s) 0 := ⟨_, rfl⟩
  have CN1 := fun pb W hP => CN pb 0 (Nat.zero_le _) W hP
  have hn1 := fun kd2 a2 s2 t2 => nextAt_tok (sl s) 0 kd2 a2 s2 t2 (Nat.zero_le _)
  have hne := fun x b => nextAt_err (sl s) 0 x b
  rw [← hR1] at CN1 hn1 hne
  have HR := Lib.hid hR
  have HR1' := Lib.hid hR1
  clear hR hR1 hout hdp hV
  go_enter Try.func33, Try.ntmps33
  go_wp2_with fail
  refine (CN1 (w.heap.size + 1 + 1) _ ?hP).out.mono ?_
  case hP =>
    constructor
    · simp [go_sem]
    · simp [go_sem]
    · simp [go_sem]
    · simp [go_sem]
    · simp
  rintro e w1 ⟨rfl, hc1, hp1⟩
  have hJ : Box3 w1 w.heap.size (.int .i64 0) (.string ⟨#[]⟩) (.slice none 0 0) := Box3.chg hc1 (by omega) (by refine ⟨?_, ?_, ?_, ?_, ?_, ?_⟩ <;> simp [go_sem, *])
  have hE : Box3 w1 (w.heap.size + 1) (.int .i64 0) (.int .i64 0) (.slice none 0 0) := Box3.chg hc1 (by omega) (by refine ⟨?_, ?_, ?_, ?_, ?_, ?_⟩ <;> simp [go_sem, *])
  have hb1 : Below w.heap.size w w1 := by
    have h0 : Chg (fun k => w.heap.size ≤ k) w w1 := Chg.trans ((((Chg.refl _ _).alloc _).alloc _).alloc _) hc1 (fun i hi e => by omega)
    exact h0.below (Nat.le_refl _) (fun i h => h)
  have hz1 : w.heap.size + 3 ≤ w1.heap.size := by have := hc1.size; simp at this; omega
  have HP1 := Lib.hid hp1
  clear hc1 hp1 CN1
  obtain ⟨g7, hg7⟩ : ∃ g, g = w1.heap.size := ⟨_, rfl⟩
  have HG := Lib.hid hg7
  obtain ⟨pb, hpb⟩ : ∃ g, g = w.heap.size + 1 + 1 := ⟨_, rfl⟩
  rw [← hpb] at HP1 ⊢
  have hpb2 : w.heap.size + 2 ≤ pb ∧ pb < w1.heap.size := by omega
  obtain ⟨y1, y2⟩ := hpb2
  clear hpb hg7
  obtain ⟨j0, j1, j2, j3, j4, j5⟩ := hJ
  obtain ⟨e0, e1, e2, e3, e4, e5⟩ := hE
  have l0 : w.heap.size < w1.heap.size := by omega
  have l1 : w.heap.size + 1 < w1.heap.size := by omega
  cases R1 with
  | err x b =>
    obtain ⟨hx1, hx2⟩ := hne x b rfl
    have HN : Hid (R = .bad x b) := HR.out.trans (parse_err _ _ _ _ hdep HR1'.out.symm)
    have b1 : ((x : Int) == 0) = false := by simp; omega
    have b2 : ((x : Int) != 0) = true := by simp; omega
    clear CV CN hn1 hne
    simp only [tokV, errV]
    go_wp2_with fail
    go_region_held3 (fun W => W.cell? ⟨w1.heap.size + 1, 0, none⟩ = some (.int .i64 (x : Nat)) ∧ W.cell? ⟨w1.heap.size + 1, 1, none⟩ = some (.int .i64 (b : Nat)) ∧ W.cell? ⟨w1.heap.size + 1, 2, none⟩ = some (.slice none 0 0)) ((with_reducible refine ⟨?_, ?_, ?_⟩) <;> (first | (simp [go_sem, *]; done) | (repeat' (first | (with_reducible apply cell_dr) | (with_reducible refine cell_setN ?_ (by simp only []; omega)) | (with_reducible refine cell_new (by simp) rfl))))) (fail)
    all_goals
      (repeat (first | go_values | go_skip | go_guarded | go_step | go_upon | (go_simp; go_at_K)))
      refine bodyPost_ret (v := .tuple #[.agg (jCells 0 ⟨#[]⟩ none 0 0), errV (.err x b)]) (by simp [errV, results, Try.results33, go_sem, *]) rfl ?_
      rw [HN.out]
      refine ⟨?_, ⟨hx1, hx2⟩, rfl⟩
      (repeat' (first | with_reducible exact hb1 | with_reducible apply Below.drew | with_reducible refine Below.alloc ?_ (by first | omega | (simp; done) | (simp; omega)) _ | with_reducible refine Below.setCell ?_ (by first | omega | (simp only []; omega)) _))
  | tok kd a s1 t =>
    obtain ⟨o1, o2, o3, o4, o5, o6⟩ := hn1 kd a s1 t rfl
    rw [sl_len] at o2 o4 o6
    obtain ⟨RV, hRV⟩ : ∃ RV, RV = valP (sl s) dep (2 * (sl s).length + 10) 0 kd a s1 t := ⟨_, rfl⟩
    have CV1 := fun W hP => CV pb kd a s1 (2 * (sl s).length + 10) t (by omega) o2 (by omega) (fun _ => by rw [sl_len]; omega) W hP
    have HR1 : Hid (R = parseQ (sl s) RV) := by
      show _ = _
      rw [HR.out, hRV]
      exact parse_tok _ _ _ _ _ _ hdep HR1'.out.symm
    rw [← hRV] at CV1
    clear hRV CV HR hn1 hne
    rw [show ((0 : Nat) : Int) = 0 from rfl] at CV1
    simp only [tokV, errV]
    go_wp2_with fail
    refine (CV1 _ ?hP).out.mono ?_
    case hP => exact HP1.out.below (((Below.refl _ _).alloc (Nat.le_refl _) _).alloc (by simp) _)
    rintro e w2 ⟨hc2, hv⟩
    have hJ : Box3 w2 w.heap.size (.int .i64 0) (.string ⟨#[]⟩) (.slice none 0 0) := Box3.chg hc2 (by omega) (by refine ⟨?_, ?_, ?_, ?_, ?_, ?_⟩ <;> simp [go_sem, *])
    have hE : Box3 w2 (w.heap.size + 1) (.int .i64 0) (.int .i64 0) (.slice none 0 0) := Box3.chg hc2 (by omega) (by refine ⟨?_, ?_, ?_, ?_, ?_, ?_⟩ <;> simp [go_sem, *])
    have h10 : Box4 w2 w1.heap.size (.int .i64 (kd : Nat)) (.int .i64 (a : Nat)) (.int .i64 (s1 : Nat)) (.string (txt t)) := Box4.chg hc2 (by omega) (by refine ⟨?_, ?_, ?_, ?_, ?_, ?_, ?_, ?_⟩ <;> simp [go_sem, *])
    have h11 : Box3 w2 (w1.heap.size + 1) (.int .i64 0) (.int .i64 0) (.slice none 0 0) := Box3.chg hc2 (by omega) (by refine ⟨?_, ?_, ?_, ?_, ?_, ?_⟩ <;> simp [go_sem, *])
    have hb2 : Below w.heap.size w w2 := by
      have h0 : Chg (fun k => w.heap.size ≤ k) w w2 := Chg.trans (((Chg.of_below hb1).alloc _).alloc _) hc2 (fun i hi e => by omega)
      exact h0.below (Nat.le_refl _) (fun i h => h)
    have hz2 : w1.heap.size + 2 ≤ w2.heap.size := by have := hc2.size; simp at this; omega
    clear hc2 HP1 CV1 j0 j1 j2 j3 j4 j5 e0 e1 e2 e3 e4 e5
    have hvv : ∀ j p, RV = .ok j p → ∃ c, e = .returned (.tuple #[.agg c, errV (.tok 0 0 0 [])]) ∧ RdJ (fun k => g7 + 2 ≤ k) w2 j c ∧ PaW w2 pb s p dep ∧ p ≤ s.size := by
      intro j p h
      subst h
      obtain ⟨c, h1, h2, h3, h4, h5⟩ := hv
      exact ⟨c, h1, h2.imp (fun k _ h => by have := HG.out; simp at h; omega), h3, h5⟩
    rw [← HG.out] at h10 h11 hz2 y2 ⊢
    rw [← HG.out] at hz1 l0 l1
    have q0 : w.heap.size < w2.heap.size := by omega
    have q1 : w.heap.size + 1 < w2.heap.size := by omega
    have q2 : g7 < w2.heap.size := by omega
    have q3 : g7 + 1 < w2.heap.size := by omega
    have q4 : pb < w2.heap.size := by omega
    have n0 : ¬ w.heap.size = g7 := by omega
    have m0 : ¬ g7 = w.heap.size := by omega
    have n1 : ¬ w.heap.size = g7 + 1 := by omega
    have m1 : ¬ g7 + 1 = w.heap.size := by omega
    have n2 : ¬ w.heap.size + 1 = g7 := by omega
    have m2 : ¬ g7 = w.heap.size + 1 := by omega
    have n3 : ¬ w.heap.size + 1 = g7 + 1 := by omega
    have m3 : ¬ g7 + 1 = w.heap.size + 1 := by omega
    have n4 : ¬ w.heap.size = pb := by omega
    have m4 : ¬ pb = w.heap.size := by omega
    have n5 : ¬ w.heap.size + 1 = pb := by omega
    have m5 : ¬ pb = w.heap.size + 1 := by omega
    have n6 : ¬ g7 = pb := by omega
    have m6 : ¬ pb = g7 := by omega
    have n7 : ¬ g7 + 1 = pb := by omega
    have m7 : ¬ pb = g7 + 1 := by omega
    obtain ⟨j0, j1, j2, j3, j4, j5⟩ := hJ
    obtain ⟨e0, e1, e2, e3, e4, e5⟩ := hE
    obtain ⟨t0, t1, t2, t3, t4, t5, t6, t7⟩ := h10
    obtain ⟨f0, f1, f2, f3, f4, f5⟩ := h11
    cases RV with
    | bad x b =>
      obtain ⟨⟨hx1, hx2⟩, rfl⟩ := hv
      have HN : Hid (R = .bad x b) := HR1.out
      have b1 : ((x : Int) == 0) = false := by simp; omega
      have b2 : ((x : Int) != 0) = true := by simp; omega
      clear CN hvv
      simp only [errV, jCells]
      go_wp2_with fail
      go_region_held3 (fun W => W.cell? ⟨g7 + 1, 0, none⟩ = some (.int .i64 (x : Nat)) ∧ W.cell? ⟨g7 + 1, 1, none⟩ = some (.int .i64 (b : Nat)) ∧ W.cell? ⟨g7 + 1, 2, none⟩ = some (.slice none 0 0)) (first | (simp [go_sem, *]; done) | go_keep) (fail)
      all_goals
        (repeat (first | go_values | go_skip | go_guarded | go_step | go_upon | (go_simp; go_at_K)))
        refine bodyPost_ret (v := .tuple #[.agg (jCells 0 ⟨#[]⟩ none 0 0), errV (.err x b)]) (by simp [errV, results, Try.results33, go_sem, *]) rfl ?_
        rw [HN.out]
        refine ⟨?_, ⟨hx1, hx2⟩, rfl⟩
        (repeat' (first | with_reducible exact hb2 | with_reducible apply Below.drew | with_reducible refine Below.alloc ?_ (by first | omega | (simp; done) | (simp; omega)) _ | with_reducible refine Below.setCell ?_ (by first | omega | (simp only []; omega)) _))
    | ok j p =>
      obtain ⟨c, rfl, hrd, hp2, hpn⟩ := hvv j p rfl
      clear hvv hv
      obtain ⟨jk, jt, jm⟩ := j
      have hrd0 := hrd
      obtain ⟨jx, ak, nk, ck, rfl, -⟩ := hrd0
      have HRD := Lib.hid hrd
      have HP2 := Lib.hid hp2
      have CN3 := fun W hP => CN pb p hpn W hP
      have hne := fun x b => nextAt_err (sl s) p x b
      obtain ⟨R3, hR3⟩ : ∃ R3, R3 = nextAt (sl s) p := ⟨_, rfl⟩
      have HR3 := HR1.out
      simp only [parseQ] at HR3
      rw [← hR3] at CN3 hne HR3
      have HR2 := Lib.hid HR3
      clear hR3 HR3 HR1 CN hrd hp2
      simp only [errV, jCells]
      go_wp2_with fail
      refine (CN3 _ (pa_keep (w := w2) ?hP HP2.out)).out.mono ?_
      case hP =>
        (repeat' (first | with_reducible exact Chg.refl _ _ | with_reducible apply Chg.drew | with_reducible refine Chg.alloc ?_ _ | with_reducible refine Chg.setCell ?_ (fun h => ?_) _))
        all_goals (simp only []; omega)
      rintro e w3 ⟨rfl, hc3, hp3⟩
      obtain ⟨g9, hg9⟩ : ∃ g, g = w2.heap.size := ⟨_, rfl⟩
      have hJ : Box3 w3 w.heap.size (.int .i64 0) (.string ⟨#[]⟩) (.slice none 0 0) := Box3.chg hc3 (by omega) (by refine ⟨?_, ?_, ?_, ?_, ?_, ?_⟩ <;> simp [go_sem, *])
      have hE : Box3 w3 (w.heap.size + 1) (.int .i64 0) (.int .i64 0) (.slice none 0 0) := Box3.chg hc3 (by omega) (by refine ⟨?_, ?_, ?_, ?_, ?_, ?_⟩ <;> simp [go_sem, *])
      have h10 : Box4 w3 g7 (.int .i64 (kd : Nat)) (.int .i64 (a : Nat)) (.int .i64 (s1 : Nat)) (.string (txt t)) := Box4.chg hc3 (by omega) (by refine ⟨?_, ?_, ?_, ?_, ?_, ?_, ?_, ?_⟩ <;> simp [go_sem, *])
      have h11 : Box3 w3 (g7 + 1) (.int .i64 0) (.int .i64 0) (.slice none 0 0) := Box3.chg hc3 (by omega) (by refine ⟨?_, ?_, ?_, ?_, ?_, ?_⟩ <;> simp [go_sem, *])
      have h9 : Box3 w3 w2.heap.size (.int .i64 jk) (.string jx) (.slice ak nk ck) := Box3.chg hc3 (by omega) (by refine ⟨?_, ?_, ?_, ?_, ?_, ?_⟩ <;> simp [go_sem, *])
      have hb3 : Below w.heap.size w w3 := by
        have h0 : Chg (fun k => w.heap.size ≤ k) w w3 := by
          refine Chg.trans ?_ hc3 (fun i hi e => by omega)
          (repeat' (first | with_reducible exact Chg.of_below hb2 | with_reducible refine Chg.alloc ?_ _ | with_reducible refine Chg.setCell ?_ (fun h => ?_) _))
          all_goals (dsimp only; omega)
        exact h0.below (Nat.le_refl _) (fun i h => h)
      have hrd3 : RdJ (fun k => g7 + 2 ≤ k) w3 (.mk jk jt jm) (jCells jk jx ak nk ck) := by
        refine HRD.out.keep (KeepS.chg (X := fun k => k < g7 + 2) ?_ (fun k hk h => by omega))
        refine Chg.trans ?_ hc3 (fun i hi e => by omega)
        (repeat' (first | with_reducible exact Chg.refl _ _ | with_reducible refine Chg.alloc ?_ _ | with_reducible refine Chg.setCell ?_ (fun h => ?_) _))
        all_goals (dsimp only; omega)
      have hz3 : w2.heap.size + 1 ≤ w3.heap.size := by have := hc3.size; simp at this; omega
      have HRD3 := Lib.hid hrd3
      rw [← hg9] at h9 hz3 hz2 q0 q1 q2 q3 q4 ⊢
      clear hg9 hc3 hp3 hrd3 HRD HP2 CN3 j0 j1 j2 j3 j4 j5 e0 e1 e2 e3 e4 e5 t0 t1 t2 t3 t4 t5 t6 t7 f0 f1 f2 f3 f4 f5
      obtain ⟨j0, j1, j2, j3, j4, j5⟩ := hJ
      obtain ⟨e0, e1, e2, e3, e4, e5⟩ := hE
      obtain ⟨t0, t1, t2, t3, t4, t5, t6, t7⟩ := h10
      obtain ⟨f0, f1, f2, f3, f4, f5⟩ := h11
      obtain ⟨k0, k1, k2, k3, k4, k5⟩ := h9
      have n20 : ¬ g9 = w.heap.size := by omega
      have m20 : ¬ w.heap.size = g9 := by omega
      have n21 : ¬ g9 = w.heap.size + 1 := by omega
      have m21 : ¬ w.heap.size + 1 = g9 := by omega
      have n22 : ¬ g9 = g7 := by omega
      have m22 : ¬ g7 = g9 := by omega
      have n23 : ¬ g9 = g7 + 1 := by omega
      have m23 : ¬ g7 + 1 = g9 := by omega
      have n24 : ¬ g9 = pb := by omega
      have m24 : ¬ pb = g9 := by omega
      cases R3 with
      | err x b =>
        obtain ⟨hx1, hx2⟩ := hne x b rfl
        have HN : Hid (R = .bad x b) := HR2.out
        have b1 : ((x : Int) == 0) = false := by simp; omega
        have b2 : ((x : Int) != 0) = true := by simp; omega
        clear hne
        simp only [tokV, errV]
        go_wp2_with fail
        go_region_held3 (fun W => W.cell? ⟨g7 + 1, 0, none⟩ = some (.int .i64 (x : Nat)) ∧ W.cell? ⟨g7 + 1, 1, none⟩ = some (.int .i64 (b : Nat)) ∧ W.cell? ⟨g7 + 1, 2, none⟩ = some (.slice none 0 0)) (first | (simp [go_sem, *]; done) | go_keep) (fail)
        all_goals
          (repeat (first | go_values | go_skip | go_guarded | go_step | go_upon | (go_simp; go_at_K)))
          refine bodyPost_ret (v := .tuple #[.agg (jCells 0 ⟨#[]⟩ none 0 0), errV (.err x b)]) (by simp [errV, results, Try.results33, go_sem, *]) rfl ?_
          rw [HN.out]
          refine ⟨?_, ⟨hx1, hx2⟩, rfl⟩
          (repeat' (first | with_reducible exact hb3 | with_reducible apply Below.drew | with_reducible refine Below.alloc ?_ (by first | omega | (simp; done) | (simp; omega)) _ | with_reducible refine Below.setCell ?_ (by first | omega | (simp only []; omega)) _))
      | tok kd3 a3 s3 t3x =>
        clear hne
        by_cases h1 : kd3 = 1
        case neg =>
          have HN : Hid (R = .bad 7 a3) := by show _ = _; rw [HR2.out]; simp only; rw [if_neg h1]
          have b1 : ((kd3 : Int) != 1) = true := by simp; omega
          simp only [tokV, errV]
          go_wp2_with fail
          go_region_held3 (fun W => W.cell? ⟨g7, 1, none⟩ = some (.int .i64 (a3 : Nat))) (first | (simp [go_sem, *]; done) | go_keep) (fail)
          all_goals
            (repeat (first | go_values | go_skip | go_guarded | go_step | go_upon | (go_simp; go_at_K)))
            refine bodyPost_ret (v := .tuple #[.agg (jCells 0 ⟨#[]⟩ none 0 0), errV (.err 7 a3)]) (by simp [errV, results, Try.results33, go_sem, *]) rfl ?_
            rw [HN.out]
            refine ⟨?_, ⟨by omega, by omega⟩, rfl⟩
            (repeat' (first | with_reducible exact hb3 | with_reducible apply Below.drew | with_reducible refine Below.alloc ?_ (by first | omega | (simp; done) | (simp; omega)) _ | with_reducible refine Below.setCell ?_ (by first | omega | (simp only []; omega)) _))
        case pos =>
          subst h1
          have HN : Hid (R = .ok (.mk jk jt jm) 0) := by show _ = _; rw [HR2.out]; simp only; rw [if_pos trivial]
          simp only [tokV, errV]
          (repeat (first | go_values | go_skip | go_guarded | go_step | go_upon | (go_simp; go_at_K)))
          refine bodyPost_ret (v := .tuple #[.agg (jCells jk jx ak nk ck), errV (.tok 0 0 0 [])]) (by simp [errV, results, Try.results33, go_sem, *]) rfl ?_
          rw [HN.out]
          refine ⟨?_, _, rfl, (HRD3.out.keep (KeepS.chg (X := fun k => k < g7 + 2) ?_ (fun k hk h => by omega))).imp (fun k _ h => by omega)⟩
          · skip
            (repeat' (first | with_reducible exact hb3 | with_reducible apply Below.drew | with_reducible refine Below.alloc ?_ (by first | omega | (simp; done) | (simp; omega)) _ | with_reducible refine Below.setCell ?_ (by first | omega | (simp only []; omega)) _))
          · (repeat' (first | with_reducible exact Chg.refl _ _ | with_reducible apply Chg.drew | with_reducible refine Chg.alloc ?_ _ | with_reducible refine Chg.setCell ?_ (fun h => ?_) _))
            all_goals (dsimp only; omega)

end Go.Proofs.Ytamhdoijmkjngaa

namespace Go.Proofs.Ytamhdoijmkjngaa
open Go.RowKit
set_option linter.unusedVariables false
set_option linter.unusedSimpArgs false

theorem one_cells {w W : World} {ka : Int} {xa : ByteArray} {aa : Option Addr} {na ca : Nat} (h : Below (w.heap.size + 1) (w.alloc (.cells (jCells ka xa aa na ca) 24)) W) :
    W.cell? ⟨w.heap.size, 0, none⟩ = some (.int .i64 ka) ∧ W.cell? ⟨w.heap.size, 1, none⟩ = some (.string xa) ∧ W.cell? ⟨w.heap.size, 2, none⟩ = some (.slice aa na ca) ∧ w.heap.size + 1 ≤ W.heap.size := by
  refine ⟨?_, ?_, ?_, ?_⟩
  · exact below_cellB h (by simp [go_sem]) (by simp)
  · exact below_cellB h (by simp [go_sem]) (by simp)
  · exact below_cellB h (by simp [go_sem]) (by simp)
  · have := h.size; simpa using this

/-- Parse, in one case or the other. -/
theorem parse_yes (s : ByteArray) (hs : s.size ≤ 1000000) (dp : Int) (hdp : -9223372036854775808 ≤ dp ∧ dp ≤ 9223372036854775807) (j : J) (n : Nat) (h : parseP (sl s) dp = .ok j n) (w : World) :
    Calls Try.prog 33 #[.string s, .int .i64 dp] w fun e w' => (∃ k x ak nk ck, e = .returned (.tuple #[.agg (jCells k x ak nk ck), .agg #[.int .i64 0, .int .i64 0, .slice none 0 0]]) ∧ RdJ (fun k => w.heap.size ≤ k) w' j (jCells k x ak nk ck)) ∧ Below w.heap.size w w' := by
  refine (parse_calls s hs dp hdp w).mono ?_
  intro e w' h1
  rw [h] at h1
  obtain ⟨h2, c, h3, h4⟩ := h1
  have h5 := h4
  obtain ⟨k, t, m⟩ := j
  obtain ⟨x, ak, nk, ck, rfl, _⟩ := h5
  exact ⟨⟨k, x, ak, nk, ck, h3, h4⟩, h2⟩
theorem parse_no (s : ByteArray) (hs : s.size ≤ 1000000) (dp : Int) (hdp : -9223372036854775808 ≤ dp ∧ dp ≤ 9223372036854775807) (x b : Nat) (h : parseP (sl s) dp = .bad x b) (w : World) :
    Calls Try.prog 33 #[.string s, .int .i64 dp] w fun e w' => e = .returned (.tuple #[.agg (jCells 0 ⟨#[]⟩ none 0 0), .agg #[.int .i64 (x : Nat), .int .i64 (b : Nat), .slice none 0 0]]) ∧ (1 ≤ x ∧ x ≤ 10) ∧ Below w.heap.size w w' := by
  refine (parse_calls s hs dp hdp w).mono ?_
  intro e w' h1
  rw [h] at h1
  exact ⟨h1.2.2, h1.2.1, h1.1⟩

set_option maxRecDepth 100000 in
set_option maxHeartbeats 16000000 in
theorem JoutBack_walk (w : World) (c : Array Value) (a : J) (ha : RdJ (fun _ => True) w a c) :
    Calls Try.prog 16 #[.agg c] w fun e w' => e = .returned (.bool true) ∧ Below w.heap.size w w' := by
  have CA := fun W => Lib.hid (awake24 W)
  have HA := Lib.hid ha
  obtain ⟨ka, xa, aa, na, ca, rfl⟩ : ∃ (k : Int) (x : ByteArray) (ak : Option Addr) (nk ck : Nat), c = jCells k x ak nk ck := by
    cases a; obtain ⟨x, ak, nk, ck, rfl, _⟩ := ha; exact ⟨_, x, ak, nk, ck, rfl⟩
  have hbx : Below w.heap.size w (w.alloc (.cells (jCells ka xa aa na ca) 24)) := (Below.refl _ _).alloc (Nat.le_refl _) _
  have HBX := Lib.hid hbx
  have CSa := fun W (h : RdJ (fun _ => True) W a (jCells ka xa aa na ca)) => Lib.hid (small_calls a (fun _ => True) W _ h)
  obtain ⟨sa, hsa⟩ : ∃ s, s = smallJ a := ⟨_, rfl⟩
  rw [← hsa] at CSa
  have HSA := Lib.hid hsa
  clear ha hbx hsa
  cases sa with
  | false =>
    go_enter Try.func16, Try.ntmps16
    go_wp2_with fail
    refine (CA _).out.mono ?_
    rintro e w1 ⟨rfl, hb1⟩
    have hB1 : Below (w.heap.size + 1) (w.alloc (.cells (jCells ka xa aa na ca) 24)) w1 := by rw [show w.heap.size + 1 = (w.alloc (.cells (jCells ka xa aa na ca) 24)).heap.size by simp]; exact hb1
    obtain ⟨f0, f1, f2, hz1⟩ := one_cells hB1
    have HA1 : Hid (RdJ (fun _ => True) w1 a (jCells ka xa aa na ca)) := HA.out.below (HBX.out.trans (hB1.mono (by omega)))
    have HB1 := Lib.hid hB1
    clear hb1 hB1
    go_wp2_with fail
    refine (CSa _ HA1.out).out.mono ?_
    rintro e w2 ⟨rfl, hb2⟩
    clear f0 f1 f2
    have hB2 : Below (w.heap.size + 1) (w.alloc (.cells (jCells ka xa aa na ca) 24)) w2 := HB1.out.trans (hb2.mono hz1)
    obtain ⟨f0, f1, f2, hz2⟩ := one_cells hB2
    have HA2 : Hid (RdJ (fun _ => True) w2 a (jCells ka xa aa na ca)) := HA.out.below (HBX.out.trans (hB2.mono (by omega)))
    have HB2 := Lib.hid hB2
    clear hb2 hB2
    go_wp2_with fail
    go_ret
    exact ⟨rfl, HBX.out.trans (HB2.out.mono (by omega))⟩
  | true =>
  have hwa := smallJ_wt HSA.out.symm
  by_cases cka : checkJ a = 0
  case neg =>
    have hq0 : ((checkJ a : Nat) : Int) ≠ 0 := by omega
    obtain ⟨q, hq⟩ : ∃ q, q = checkJ a := ⟨_, rfl⟩
    have CPa := fun W (h : RdJ (fun _ => True) W a (jCells ka xa aa na ca)) => Lib.hid (print_no a (by omega) cka (fun _ => True) W _ h)
    rw [← hq] at CPa hq0
    have d2 : ((q : Int) != 0) = true := by simpa using hq0
    clear hq hq0 cka
    go_enter Try.func16, Try.ntmps16
    go_wp2_with fail
    refine (CA _).out.mono ?_
    rintro e w1 ⟨rfl, hb1⟩
    have hB1 : Below (w.heap.size + 1) (w.alloc (.cells (jCells ka xa aa na ca) 24)) w1 := by rw [show w.heap.size + 1 = (w.alloc (.cells (jCells ka xa aa na ca) 24)).heap.size by simp]; exact hb1
    obtain ⟨f0, f1, f2, hz1⟩ := one_cells hB1
    have HA1 : Hid (RdJ (fun _ => True) w1 a (jCells ka xa aa na ca)) := HA.out.below (HBX.out.trans (hB1.mono (by omega)))
    have HB1 := Lib.hid hB1
    clear hb1 hB1
    go_wp2_with fail
    refine (CSa _ HA1.out).out.mono ?_
    rintro e w2 ⟨rfl, hb2⟩
    clear f0 f1 f2
    have hB2 : Below (w.heap.size + 1) (w.alloc (.cells (jCells ka xa aa na ca) 24)) w2 := HB1.out.trans (hb2.mono hz1)
    obtain ⟨f0, f1, f2, hz2⟩ := one_cells hB2
    have HA2 : Hid (RdJ (fun _ => True) w2 a (jCells ka xa aa na ca)) := HA.out.below (HBX.out.trans (hB2.mono (by omega)))
    have HB2 := Lib.hid hB2
    clear hb2 hB2
    go_wp2_with fail
    refine (CPa _ HA2.out).out.mono ?_
    rintro e w3 ⟨rfl, hb3⟩
    have HB3 := Lib.hid (HB2.out.trans (hb3.mono hz2))
    clear hb3
    go_wp2_with fail
    go_ret
    exact ⟨rfl, HBX.out.trans (HB3.out.mono (by omega))⟩
  obtain ⟨pa, hpa⟩ : ∃ p, p = txt (printJ a) := ⟨_, rfl⟩
  have CPa := fun W (h : RdJ (fun _ => True) W a (jCells ka xa aa na ca)) => Lib.hid (print_yes a (by omega) cka pa hpa (fun _ => True) W _ h)
  have hps : pa.size ≤ 1000000 := by
    have := print_wt a
    rw [← sl_len, hpa, sl_txt]; omega
  have hpp : parseP (sl pa) 1000 = .ok a 0 := by
    have := nest_wt a
    rw [hpa, sl_txt]
    exact parse_print a 1000 cka (by omega) (by omega)
  have CPr := fun W => Lib.hid (parse_yes pa hps 1000 (by omega) a 0 hpp W)
  have CS := Lib.hid (fun S S' W ca cb => same_all (wtJ a) a a (Nat.le_refl _) S S' W ca cb)
  rw [(eqJ_iff a a).2 rfl] at CS
  clear hpa hpp cka
  go_enter Try.func16, Try.ntmps16
  go_wp2_with fail
  refine (CA _).out.mono ?_
  rintro e w1 ⟨rfl, hb1⟩
  have hB1 : Below (w.heap.size + 1) (w.alloc (.cells (jCells ka xa aa na ca) 24)) w1 := by rw [show w.heap.size + 1 = (w.alloc (.cells (jCells ka xa aa na ca) 24)).heap.size by simp]; exact hb1
  obtain ⟨f0, f1, f2, hz1⟩ := one_cells hB1
  have HA1 : Hid (RdJ (fun _ => True) w1 a (jCells ka xa aa na ca)) := HA.out.below (HBX.out.trans (hB1.mono (by omega)))
  have HB1 := Lib.hid hB1
  clear hb1 hB1
  go_wp2_with fail
  refine (CSa _ HA1.out).out.mono ?_
  rintro e w2 ⟨rfl, hb2⟩
  clear f0 f1 f2
  have hB2 : Below (w.heap.size + 1) (w.alloc (.cells (jCells ka xa aa na ca) 24)) w2 := HB1.out.trans (hb2.mono hz1)
  obtain ⟨f0, f1, f2, hz2⟩ := one_cells hB2
  have HA2 : Hid (RdJ (fun _ => True) w2 a (jCells ka xa aa na ca)) := HA.out.below (HBX.out.trans (hB2.mono (by omega)))
  have HB2 := Lib.hid hB2
  clear hb2 hB2
  go_wp2_with fail
  refine (CPa _ HA2.out).out.mono ?_
  rintro e w3 ⟨rfl, hb3⟩
  clear f0 f1 f2
  have hB3 : Below (w.heap.size + 1) (w.alloc (.cells (jCells ka xa aa na ca) 24)) w3 := HB2.out.trans (hb3.mono hz2)
  obtain ⟨f0, f1, f2, hz3⟩ := one_cells hB3
  have HA3 : Hid (RdJ (fun _ => True) w3 a (jCells ka xa aa na ca)) := HA.out.below (HBX.out.trans (hB3.mono (by omega)))
  have HB3 := Lib.hid hB3
  clear hb3 hB3
  go_wp2_with fail
  refine (CPr _).out.mono ?_
  rintro e w4 ⟨⟨kb, xb, ab, nb, cb, rfl, hrd⟩, hb4⟩
  clear f0 f1 f2
  have hB4 : Below (w.heap.size + 1) (w.alloc (.cells (jCells ka xa aa na ca) 24)) w4 := HB3.out.trans (hb4.mono hz3)
  obtain ⟨f0, f1, f2, hz4⟩ := one_cells hB4
  have HA4 : Hid (RdJ (fun _ => True) w4 a (jCells ka xa aa na ca)) := HA.out.below (HBX.out.trans (hB4.mono (by omega)))
  have HB4 := Lib.hid hB4
  clear hb4 hB4
  have l0 : w.heap.size < w4.heap.size := by omega
  have hB5 : Below w4.heap.size w4 ((w4.alloc (.cells #[.int .i64 kb, .string xb, .slice ab nb cb] 24)).alloc (.cells #[.int .i64 0, .int .i64 0, .slice none 0 0] 36)) := ((Below.refl _ _).alloc (Nat.le_refl _) _).alloc (by simp) _
  have HRB := Lib.hid (hrd.below hB5)
  have HRA := Lib.hid (HA4.out.below hB5)
  have HB5 := Lib.hid hB5
  clear hrd hB5
  go_wp2_with fail
  refine (CS.out _ _ _ _ _ HRB.out HRA.out).mono ?_
  rintro e w6 ⟨rfl, hb6⟩
  have HB6 := Lib.hid (HB5.out.trans (hb6.mono (by simp; omega)))
  clear hb6
  go_wp2_with fail
  go_ret
  exact ⟨rfl, HBX.out.trans (HB4.out.mono (by omega) |>.trans (HB6.out.mono (by omega)))⟩

end Go.Proofs.Ytamhdoijmkjngaa

namespace Go.Proofs.Ytamhdoijmkjngaa
open Go.RowKit
set_option linter.unusedVariables false
set_option linter.unusedSimpArgs false

theorem aw23a : parseP (sl ⟨#[91, 49, 44, 93]⟩) 5 = .bad 3 3 := by kernel_rfl
theorem aw23b : parseP (sl ⟨#[123, 34, 97, 34, 58, 91, 93, 125]⟩) 2 = .ok (.mk 7 [] (.cons [97] (.mk 6 [] .nil) .nil)) 0 := by kernel_rfl

set_option maxRecDepth 100000 in
set_option maxHeartbeats 4000000 in
theorem awake23 (w : World) : Calls Try.prog 32 #[] w fun e w' => e = .returned (.bool true) ∧ Below w.heap.size w w' := by
  have CA := fun W => Lib.hid (parse_no ⟨#[91, 49, 44, 93]⟩ (by decide) 5 (by omega) 3 3 aw23a W)
  have CB := fun W => Lib.hid (parse_yes ⟨#[123, 34, 97, 34, 58, 91, 93, 125]⟩ (by decide) 2 (by omega) _ 0 aw23b W)
  go_enter Try.func32, Try.ntmps32
  go_wp2_with fail
  refine (CA _).out.mono ?_
  rintro e w1 ⟨rfl, _, hb1⟩
  simp only [jCells]
  have hB2 : Below w1.heap.size w1 ((w1.alloc (.cells #[.int .i64 0, .string ⟨#[]⟩, .slice none 0 0] 24)).alloc (.cells #[.int .i64 3, .int .i64 3, .slice none 0 0] 36)) := ((Below.refl _ _).alloc (Nat.le_refl _) _).alloc (by simp) _
  have HB2 := Lib.hid (hb1.trans (hB2.mono hb1.size))
  clear hb1 hB2
  go_wp2_with fail
  refine (CB _).out.mono ?_
  rintro e w3 ⟨⟨k, x, ak, nk, ck, rfl, hrd⟩, hb3⟩
  obtain ⟨x', ak', nk', ck', hcc, _, _, _, hml, _, hm⟩ := hrd
  simp only [jCells] at hcc
  injection hcc with hcc
  simp only [List.cons.injEq, Value.int.injEq, Value.slice.injEq, true_and, and_true] at hcc
  obtain ⟨rfl, _, rfl, rfl, rfl⟩ := hcc
  obtain ⟨⟨b, o, c, y, rfl, hSb, hy, hys, hc0, _, _⟩, _⟩ := hm
  obtain rfl : nk = 1 := hml.symm
  have e0 : w3.cell? ⟨w1.heap.size + 1, 0, none⟩ = some (.int .i64 3) := cell_below hb3 (by simp [go_sem])
  have e1 : w3.cell? ⟨w1.heap.size + 1, 1, none⟩ = some (.int .i64 3) := cell_below hb3 (by simp [go_sem])
  have hz : w1.heap.size + 2 ≤ w3.heap.size := by have := hb3.size; simp at this; omega
  have l1 : w1.heap.size + 1 < w3.heap.size := by omega
  have lb : b < w3.heap.size := by simpa using cell_block hc0
  have lb2 : b < w3.heap.size + 1 := by omega
  have l0 : w1.heap.size < w3.heap.size := by omega
  simp only [Nat.zero_mul, Nat.add_zero] at hc0
  have HB3 := Lib.hid (HB2.out.trans (hb3.mono HB2.out.size))
  have hyb : (y.toList == [97]) = true := by rw [toList_sl, hy]; rfl
  clear hb3 hSb hy hml CA CB
  go_wp2_with fail
  go_ret
  exact ⟨rfl, ((HB3.out.alloc HB3.out.size _).alloc (by have := HB3.out.size; simp; omega) _)⟩

end Go.Proofs.Ytamhdoijmkjngaa
