/- A text within quotes: behind a backslash; digits. -/
import Derived.Test.YtamhdoijmkjngaaLexI
namespace Go.Proofs.Ytamhdoijmkjngaa
open Go.RowKit
set_option linter.unusedVariables false
set_option linter.unusedSimpArgs false

theorem esc_ne {c x : UInt8} (h : escD c = some x) : escN c = x.toNat ∧ x.toNat ≠ 0 := by
  have key : ∀ n : Fin 256, (match escD (UInt8.ofNat n) with | some x => x.toNat | none => 1) ≠ 0 := by decide +kernel
  have := key ⟨c.toNat, c.toNat_lt⟩
  simp only [UInt8.ofNat_toNat, h] at this
  unfold escN
  rw [h]
  exact ⟨rfl, this⟩

theorem step_esc (d : UInt8) (r : List UInt8) (h : d ≠ 117) : strStep (92 :: d :: r) = match escD d with | none => .bad 3 | some x => .go 2 [x] := by
  simp [strStep, h]
  rfl

set_option maxRecDepth 100000 in
set_option maxHeartbeats 8000000 in
theorem tpass2 (s : ByteArray) (hs : s.size ≤ 1000000) (fr : Nat) (w : World) (R : LexR) (a : Act) (w' : World) (hJ : TJ s fr w R 2 a w') :
    (trest 2).wp Try.prog (JumpTo TL (fun l' a' w'' => TJ s fr w R l' a' w'' ∧ tmu s l' a' w'' < tmu s 2 a w') (bodyPost Try.prog Try.f47 (LexOut w R))) a w' := by
  obtain ⟨u, p, out, rfl, ⟨h0, h1, h4, h5, h12, hf, hp, hr, ho, hl, hb⟩, hlt, hc⟩ := hJ
  have hm : 4 * (s.size - p) + 2 ≤ tmu s 2 ⟨((List.range 175).map u).toArray, []⟩ w' := by
    have e : (((List.range 175).map u).toArray).getD 12 undef = .int .i64 (p : Nat) := h12
    unfold tmu
    simp only [e, intOf]
    rw [if_neg (by omega)]
    omega
  generalize tmu s 2 ⟨((List.range 175).map u).toArray, []⟩ w' = m at hm ⊢
  have HR := Lib.hid hr
  have HB := Lib.hid hb
  have HC := Lib.hid hc
  have hsz : w.heap.size + 2 ≤ w'.heap.size := by have := hb.size; rw [lexW_size] at this; exact this
  have hd : (sl s).drop p = 92 :: (sl s).drop (p + 1) := by rw [sl_drop hlt, ← sl_at hlt, hc]
  clear hr hb hc
  simp only [List.range, List.range.loop, List.map_cons, List.map_nil, h0, h1, h4, h5, h12]
  generalize hu6 : u 6 = vb at ho
  have HO := Lib.hid ho
  clear ho
  by_cases hlt2 : p + 1 < s.size
  · have hd2 := sl_drop hlt2
    have hat2 := sl_at hlt2
    have e0 : ((p : Int) + 1 == s.size) = false := by simp; omega
    obtain ⟨d, hdd⟩ : ∃ d, d = s[p + 1]'hlt2 := ⟨_, rfl⟩
    have hdn : (s[p + 1]'hlt2).toNat = d.toNat := by rw [hdd]
    have ub := u8_lt (s[p + 1]'hlt2)
    rw [← hdd] at hd2 hat2
    by_cases q117 : d.toNat = 117
    · have hcc := (u8_eq d 117 (by omega)).1 q117
      have HC2 : Hid ((sl s).getD (p + 1) 0 = 117) := by show _ = _; rw [hat2, hcc]; rfl
      have e1 : ((s[p + 1]'hlt2).toNat : Int) = 117 := by rw [hdn, q117]; rfl
      clear hd2 hat2 hdd hdn q117 hcc hd
      conv => arg 2; whnf
      go_wp2_with fail
      go_step3
      exact to_digits rfl rfl rfl rfl rfl rfl rfl hf hp HR.out HO.out hl HB.out hlt2 HC.out HC2.out (by omega)
    have e1 : (((s[p + 1]'hlt2).toNat : Int) == 117) = false := by simp; omega
    have n117 : d ≠ 117 := fun e => q117 (by rw [e]; rfl)
    have hst := step_esc d ((sl s).drop (p + 1 + 1)) n117
    rw [← hd2, ← hd] at hst
    have SC := fun W => Lib.hid (sign_calls (s[p + 1]'hlt2) W)
    rcases Option.eq_none_or_eq_some (escD d) with h | ⟨x, h⟩
    · have en : escN (s[p + 1]'hlt2) = 0 := by rw [← hdd]; unfold escN; rw [h]
      rw [en] at SC
      rw [h] at hst
      have HRes : Hid (R = .err 3 p) := HR.out.bad hf (by omega) hst
      have CW := fun x W => Lib.hid (wrong_calls x p W)
      clear hd2 hat2 hdd hdn q117 hd hst h en n117
      conv => arg 2; whnf
      go_wp2_with fail
      refine (SC _).out.mono ?_
      rintro e w4 ⟨rfl, rfl⟩
      go_wp2_with fail
      refine (CW _ _).out.mono ?_
      rintro e w1 ⟨rfl, hb1⟩
      have HB1 : Hid (Below (w.heap.size + 2) (lexW w) w1) := HB.out.trans (hb1.mono (by omega))
      obtain ⟨c0, c1, c2, c3, d0, d1, d2, f0, f1, f2, f3, g0, g1, g2, sz⟩ := lexM_of HB1.out
      clear hb1
      go_wp2_with fail
      simp only [JumpTo]
      refine bodyPost_ret (v := .tuple #[tokV (.err 3 p), errV (.err 3 p)]) (by simp [tokV, errV, results, Try.results47, go_sem, c0, c1, c2, c3, d0, d1, d2]) rfl ?_
      exact ⟨by rw [HRes.out], lex_close HB1.out _ _ _ _ _ _ _⟩
    · obtain ⟨hen, hx0⟩ := esc_ne h
      rw [hdd] at hen
      rw [hen] at SC
      rw [h] at hst
      have HRes := Lib.hid (HR.out.go hf hp hst)
      obtain ⟨y, hy⟩ : ∃ y : Nat, y = x.toNat := ⟨_, rfl⟩
      have hy8 : y < 256 := by rw [hy]; exact x.toNat_lt
      have hxy : x = UInt8.ofNat y := by rw [hy]; simp
      rw [← hy] at SC hx0
      rw [hxy] at HRes
      have ey : ((y : Int) == 0) = false := by simp; omega
      clear hd2 hat2 hdd hdn q117 hd hst h hen n117 hxy hy
      conv => arg 2; whnf
      go_wp2_with fail
      refine (SC _).out.mono ?_
      rintro e w4 ⟨rfl, rfl⟩
      go_wp2_with (at_builtin; refine wpList_appB (v := vb) (bs := out) (sv := .slice (some ⟨w'.heap.size, 0, none⟩) 1 1) (l := [UInt8.ofNat y]) (B := w.heap.size + 2) (by rfl) _ _ (by rfl) (by rfl) (HO.out.alloc _) (by rfl) (srcB_one w' y hy8) ?o3 ?o4 ?_)
      case o3 => simp; omega
      case o4 => simp; omega
      intro v6 w6 ho6 ha6
      have HO6 := Lib.hid ho6
      have HB6 : Hid (Below (w.heap.size + 2) (lexW w) w6) := Lib.hid (ha6.below (HB.out.alloc (by omega) _) (by simp; omega) (fun j hj => (owns_lt HO.out j hj).1))
      clear ho6 ha6
      go_wp2_with fail
      go_step3
      exact to_next (p := p + 2) rfl rfl rfl rfl rfl rfl rfl (by omega) (by omega) HRes.out HO6.out (by simp; omega) HB6.out (by omega)
  · obtain hps : p + 1 = s.size := by omega
    have HRes : Hid (R = .err 2 fr) := HR.out.short (by rw [hd, List.drop_of_length_le (by rw [sl_len]; omega)]; rfl)
    have e0 : ((p : Int) + 1 == s.size) = true := by simp; omega
    clear hd hps
    conv => arg 2; whnf
    go_wp2_with fail
    go_step3
    exact to_short rfl rfl rfl rfl HRes.out HB.out (by omega)

/-- Put, in digits' pass: what it adds. -/
theorem isCh_of {v : Nat} (h : v < 55296 ∨ (57343 < v ∧ v ≤ 1114111)) : isCh (v : Int) = true := by
  unfold isCh; simp; omega

set_option maxRecDepth 100000 in
set_option maxHeartbeats 8000000 in
theorem tpass3 (s : ByteArray) (hs : s.size ≤ 1000000) (fr : Nat) (w : World) (R : LexR) (a : Act) (w' : World) (hJ : TJ s fr w R 3 a w') :
    (trest 3).wp Try.prog (JumpTo TL (fun l' a' w'' => TJ s fr w R l' a' w'' ∧ tmu s l' a' w'' < tmu s 3 a w') (bodyPost Try.prog Try.f47 (LexOut w R))) a w' := by
  obtain ⟨u, p, out, rfl, ⟨h0, h1, h4, h5, h12, hf, hp, hr, ho, hl, hb⟩, hlt2, hc, hc2⟩ := hJ
  have hm : 4 * (s.size - p) + 1 ≤ tmu s 3 ⟨((List.range 175).map u).toArray, []⟩ w' := by
    have e : (((List.range 175).map u).toArray).getD 12 undef = .int .i64 (p : Nat) := h12
    unfold tmu
    simp only [e, intOf]
    rw [if_neg (by omega)]
    omega
  generalize tmu s 3 ⟨((List.range 175).map u).toArray, []⟩ w' = m at hm ⊢
  have HR := Lib.hid hr
  have HB := Lib.hid hb
  have hsz : w.heap.size + 2 ≤ w'.heap.size := by have := hb.size; rw [lexW_size] at this; exact this
  have hlt : p < s.size := by omega
  have hd : (sl s).drop p = 92 :: 117 :: (sl s).drop (p + 2) := by rw [sl_drop hlt, ← sl_at hlt, hc, sl_drop hlt2, ← sl_at hlt2, hc2]
  clear hr hb hc hc2
  simp only [List.range, List.range.loop, List.map_cons, List.map_nil, h0, h1, h4, h5, h12]
  generalize hu6 : u 6 = vb at ho
  have HO := Lib.hid ho
  clear ho
  obtain ⟨v, hv⟩ : ∃ v, (codeP 4 0 ((sl s).drop (p + 2))).1 = v := ⟨_, rfl⟩
  obtain ⟨n, hn⟩ : ∃ n, (codeP 4 0 ((sl s).drop (p + 2))).2 = n := ⟨_, rfl⟩
  have hvb : v < 65536 := by have := codeP_bd 4 0 ((sl s).drop (p + 2)); rw [hv] at this; simpa using this
  have hnb : n ≤ 4 ∧ p + 2 + n ≤ s.size := by
    have := codeP_le 4 0 ((sl s).drop (p + 2)); rw [hn, List.length_drop, sl_len] at this; omega
  obtain ⟨hn4, hnp⟩ := hnb
  have ST := step_uni ((sl s).drop (p + 2)) v n hv hn
  rw [← hd, List.length_drop, sl_len, List.drop_drop] at ST
  have CC := fun W => Lib.hid (code_calls s hs (p + 2) (by omega) W)
  rw [hv, hn] at CC
  have CW := fun x W => Lib.hid (wrong_calls x p W)
  obtain ⟨S1, S2, S3, S4, S5⟩ := ST
  clear hd hv hn
  by_cases hn0 : n < 4
  · have e1 : decide ((n : Int) < 4) = true := by simp; omega
    by_cases hne : n = s.size - (p + 2)
    · have HRes : Hid (R = .err 2 fr) := HR.out.short (S1 hn0 hne)
      have e2 : ((p : Int) + 2 + n == s.size) = true := by simp; omega
      clear S1 S2 S3 S4 S5 hne
      conv => arg 2; whnf
      go_wp2_with fail
      refine (CC _).out.mono ?_
      rintro e w4 ⟨rfl, rfl⟩
      go_wp2_with fail
      go_step3
      exact to_short rfl rfl rfl rfl HRes.out HB.out (by omega)
    · have HRes : Hid (R = .err 3 p) := HR.out.bad hf (by omega) (S2 hn0 hne)
      have e2 : ((p : Int) + 2 + n == s.size) = false := by simp; omega
      clear S1 S2 S3 S4 S5 hne
      conv => arg 2; whnf
      go_wp2_with fail
      refine (CC _).out.mono ?_
      rintro e w4 ⟨rfl, rfl⟩
      go_wp2_with fail
      refine (CW _ _).out.mono ?_
      rintro e w1 ⟨rfl, hb1⟩
      have HB1 : Hid (Below (w.heap.size + 2) (lexW w) w1) := HB.out.trans (hb1.mono (by omega))
      obtain ⟨c0, c1, c2, c3, d0, d1, d2, f0, f1, f2, f3, g0, g1, g2, sz⟩ := lexM_of HB1.out
      clear hb1
      go_wp2_with fail
      simp only [JumpTo]
      refine bodyPost_ret (v := .tuple #[tokV (.err 3 p), errV (.err 3 p)]) (by simp [tokV, errV, results, Try.results47, go_sem, c0, c1, c2, c3, d0, d1, d2]) rfl ?_
      exact ⟨by rw [HRes.out], lex_close HB1.out _ _ _ _ _ _ _⟩
  obtain rfl : n = 4 := by omega
  by_cases hsur : 55296 ≤ v ∧ v ≤ 57343
  · obtain ⟨k1, k2⟩ := hsur
    have S4' := S4 rfl k1 k2
    have S5' := S5 rfl k1
    rw [show p + 2 + 4 = p + 6 from rfl, lowHalf_pre, List.drop_drop, show p + 6 + 2 = p + 8 from rfl] at S4' S5'
    have hext : sl (s.extract (p + 6) s.size) = (sl s).drop (p + 6) := by rw [sl_ext, List.take_of_length_le (by rw [List.length_drop, sl_len]; omega)]
    rcases Bool.eq_false_or_eq_true (pre [92, 117] ((sl s).drop (p + 6))) with hb | hb
    · have HP := fun W => Lib.hid (hasp_calls (s.extract (p + 6) s.size) ⟨#[92, 117]⟩ true (by rw [hext]; exact hb) W)
      have hp8 : p + 8 ≤ s.size := by
        have := pre_len hb
        rw [List.length_drop, sl_len] at this
        simp at this; omega
      obtain ⟨lo, hlo⟩ : ∃ v, (codeP 4 0 ((sl s).drop (p + 8))).1 = v := ⟨_, rfl⟩
      obtain ⟨mo, hmo⟩ : ∃ n, (codeP 4 0 ((sl s).drop (p + 8))).2 = n := ⟨_, rfl⟩
      have hlb : lo < 65536 := by have := codeP_bd 4 0 ((sl s).drop (p + 8)); rw [hlo] at this; simpa using this
      have hmb : mo ≤ 4 ∧ p + 8 + mo ≤ s.size := by
        have := codeP_le 4 0 ((sl s).drop (p + 8)); rw [hmo, List.length_drop, sl_len] at this; omega
      obtain ⟨hm4, hmp⟩ := hmb
      have CL := fun W => Lib.hid (code_calls s hs (p + 8) hp8 W)
      rw [hlo, hmo] at CL
      rw [hlo, hmo, if_pos hb] at S4' S5'
      clear hlo hmo hb S1 S2 S3 S4 S5 hext
      by_cases hgood : v ≤ 56319 ∧ mo = 4 ∧ 56320 ≤ lo ∧ lo ≤ 57343
      · obtain ⟨g1', rfl, g3', g4'⟩ := hgood
        have hst := S5' g1' lo (by rw [if_pos ⟨rfl, g3', g4'⟩])
        obtain ⟨z, hz⟩ : ∃ z : Nat, z = 65536 + (v - 55296) * 1024 + (lo - 56320) := ⟨_, rfl⟩
        rw [← hz] at hst
        have HRes := Lib.hid (HR.out.go hf hp hst)
        have HZB : Hid (z ≤ 1114111 ∧ 65536 ≤ z) := by show _ ∧ _; omega
        have CP := fun W => Lib.hid (lput_calls z (isCh_of (by have := HZB.out; omega)) W)
        obtain ⟨y, hy⟩ : ∃ y : Nat, y = v - 55296 := ⟨_, rfl⟩
        have q0 : IntKind.i64.wrap ((v : Int) - 55296) = (y : Int) := by rw [IntWalk.i64_in _ (by omega)]; omega
        have q00 : (v : Int) - 55296 = (y : Int) := by omega
        have HY : Hid (y < 2048) := by show _ < _; omega
        have HZ : Hid (z = 65536 + y * 1024 + (lo - 56320)) := by show _ = _; omega
        have HLO : Hid (56320 ≤ lo ∧ lo ≤ 57343) := by show _ ∧ _; omega
        have d1 : decide ((56319 : Int) < v) = false := by simp; omega
        have d2 : decide ((lo : Int) < 56320) = false := by simp; omega
        have d3 : decide ((57343 : Int) < lo) = false := by simp; omega
        have w1 : ∀ x : Int, 0 ≤ x → x < 4000000 → wrap64 x = x := fun x h0 h1 => IntWalk.wrap64_in x (by omega)
        have qz : wrap64 (wrap64 (wrap64 (65536 + wrap64 (wrap64 (y : Int) * 1024)) + (lo : Int)) - 56320) = (z : Int) := by
          rw [w1 y (by omega) (by omega), w1 ((y : Int) * 1024) (by omega) (by omega), w1 (65536 + (y : Int) * 1024) (by omega) (by omega), w1 (65536 + (y : Int) * 1024 + lo) (by omega) (by omega), w1 _ (by omega) (by omega)]
          omega
        have hp12 : p + 12 ≤ s.size := by
          have := step_go _ _ _ hst
          rw [List.length_drop, sl_len] at this
          omega
        have d4 : decide ((55296 : Int) ≤ v) = true := by simp; omega
        have d5 : decide ((v : Int) ≤ 57343) = true := by simp; omega
        clear w1 S4' S5' hst hz hy k1 k2 g1' g3' g4' hlb hvb
        conv => arg 2; whnf
        go_wp2_with fail
        refine (CC _).out.mono ?_
        rintro e w4 ⟨rfl, rfl⟩
        go_wp2_with fail
        refine (HP _).out.mono ?_
        rintro e w4 ⟨rfl, rfl⟩
        go_wp2_with fail
        refine (CL _).out.mono ?_
        rintro e w4 ⟨rfl, rfl⟩
        go_wp2_with fail
        refine (CP _).out.mono ?_
        rintro e w5 ⟨v5, rfl, ho5, hb5⟩
        have HO5 : Hid (OwnB w5 (w.heap.size + 2) vb out) := HO.out.keep hb5
        have HS5 : Hid (SrcB w5 v5 (putL z)) := ho5.srcB
        have hs5 := hb5.size
        have HB5 : Hid (Below (w.heap.size + 2) (lexW w) w5) := HB.out.trans (hb5.mono (by omega))
        have hpl := (putL_len z).2
        clear ho5 hb5
        go_wp2_with (at_builtin; refine wpList_appB (v := vb) (bs := out) (sv := v5) (l := putL z) (B := w.heap.size + 2) (by rfl) _ _ (by rfl) (by rfl) HO5.out (by rfl) HS5.out ?o3 ?o4 ?_)
        case o3 => omega
        case o4 => omega
        intro v6 w6 ho6 ha6
        have HO6 := Lib.hid ho6
        have HB6 : Hid (Below (w.heap.size + 2) (lexW w) w6) := Lib.hid (ha6.below HB5.out (by omega) (fun j hj => (owns_lt HO5.out j hj).1))
        clear ho6 ha6
        go_wp2_with fail
        go_step3
        exact to_next (p := p + 12) rfl rfl rfl rfl rfl rfl rfl (by omega) (by omega) HRes.out HO6.out (by rw [List.length_append]; omega) HB6.out (by omega)
      · have hst := S4' (fun h => if_neg (fun e => hgood ⟨h, e⟩))
        have HRes : Hid (R = .err 4 p) := HR.out.bad hf (by omega) hst
        have hbad : 56319 < v ∨ (v ≤ 56319 ∧ mo < 4) ∨ (v ≤ 56319 ∧ mo = 4 ∧ lo < 56320) ∨ (v ≤ 56319 ∧ mo = 4 ∧ 56320 ≤ lo ∧ 57343 < lo) := by omega
        clear S4' S5' hst hgood
        rcases hbad with b1 | ⟨b1, b2⟩ | ⟨b1, rfl, b3⟩ | ⟨b1, rfl, b3, b4⟩
        all_goals
          conv => arg 2; whnf
          go_wp2_with fail
          refine (CC _).out.mono ?_
          rintro e w4 ⟨rfl, rfl⟩
          go_wp2_with fail
          refine (HP _).out.mono ?_
          rintro e w4 ⟨rfl, rfl⟩
          go_wp2_with fail
          refine (CL _).out.mono ?_
          rintro e w4 ⟨rfl, rfl⟩
          go_wp2_with fail
          refine (CW _ _).out.mono ?_
          rintro e w1 ⟨rfl, hb1⟩
          have HB1 : Hid (Below (w.heap.size + 2) (lexW w) w1) := HB.out.trans (hb1.mono (by omega))
          obtain ⟨c0, c1, c2, c3, d0, d1, d2, f0, f1, f2, f3, g0, g1, g2, sz⟩ := lexM_of HB1.out
          clear hb1
          go_wp2_with fail
          simp only [JumpTo]
          refine bodyPost_ret (v := .tuple #[tokV (.err 4 p), errV (.err 4 p)]) (by simp [tokV, errV, results, Try.results47, go_sem, c0, c1, c2, c3, d0, d1, d2]) rfl ?_
          exact ⟨by rw [HRes.out], lex_close HB1.out _ _ _ _ _ _ _⟩
    · have HP := fun W => Lib.hid (hasp_calls (s.extract (p + 6) s.size) ⟨#[92, 117]⟩ false (by rw [hext]; exact hb) W)
      have hst := S4' (fun h => by rw [hb]; simp)
      have HRes : Hid (R = .err 4 p) := HR.out.bad hf (by omega) hst
      have hbad : 56319 < v ∨ v ≤ 56319 := by omega
      clear S1 S2 S3 S4 S5 S4' S5' hst hb hext
      rcases hbad with b1 | b1
      all_goals
        conv => arg 2; whnf
        go_wp2_with fail
        refine (CC _).out.mono ?_
        rintro e w4 ⟨rfl, rfl⟩
        go_wp2_with fail
        refine (HP _).out.mono ?_
        rintro e w4 ⟨rfl, rfl⟩
        go_wp2_with fail
        refine (CW _ _).out.mono ?_
        rintro e w1 ⟨rfl, hb1⟩
        have HB1 : Hid (Below (w.heap.size + 2) (lexW w) w1) := HB.out.trans (hb1.mono (by omega))
        obtain ⟨c0, c1, c2, c3, d0, d1, d2, f0, f1, f2, f3, g0, g1, g2, sz⟩ := lexM_of HB1.out
        clear hb1
        go_wp2_with fail
        simp only [JumpTo]
        refine bodyPost_ret (v := .tuple #[tokV (.err 4 p), errV (.err 4 p)]) (by simp [tokV, errV, results, Try.results47, go_sem, c0, c1, c2, c3, d0, d1, d2]) rfl ?_
        exact ⟨by rw [HRes.out], lex_close HB1.out _ _ _ _ _ _ _⟩
  · have hst := S3 rfl hsur
    have HRes := Lib.hid (HR.out.go hf hp hst)
    have CP := fun W => Lib.hid (lput_calls v (isCh_of (by omega)) W)
    have hbad : v < 55296 ∨ (55296 ≤ v ∧ 57343 < v) := by omega
    have hpl := (putL_len v).2
    clear S1 S2 S3 S4 S5 hst hsur
    rcases hbad with b1 | ⟨b1, b2⟩
    all_goals
      conv => arg 2; whnf
      go_wp2_with fail
      refine (CC _).out.mono ?_
      rintro e w4 ⟨rfl, rfl⟩
      go_wp2_with fail
      refine (CP _).out.mono ?_
      rintro e w5 ⟨v5, rfl, ho5, hb5⟩
      have HO5 : Hid (OwnB w5 (w.heap.size + 2) vb out) := HO.out.keep hb5
      have HS5 : Hid (SrcB w5 v5 (putL v)) := ho5.srcB
      have hs5 := hb5.size
      have HB5 : Hid (Below (w.heap.size + 2) (lexW w) w5) := HB.out.trans (hb5.mono (by omega))
      clear ho5 hb5
      go_wp2_with (at_builtin; refine wpList_appB (v := vb) (bs := out) (sv := v5) (l := putL v) (B := w.heap.size + 2) (by rfl) _ _ (by rfl) (by rfl) HO5.out (by rfl) HS5.out ?o3 ?o4 ?_)
      case o3 => omega
      case o4 => omega
      intro v6 w6 ho6 ha6
      have HO6 := Lib.hid ho6
      have HB6 : Hid (Below (w.heap.size + 2) (lexW w) w6) := Lib.hid (ha6.below HB5.out (by omega) (fun j hj => (owns_lt HO5.out j hj).1))
      clear ho6 ha6
      go_wp2_with fail
      go_step3
      exact to_next (p := p + 6) rfl rfl rfl rfl rfl rfl rfl (by omega) (by omega) HRes.out HO6.out (by rw [List.length_append]; omega) HB6.out (by omega)

end Go.Proofs.Ytamhdoijmkjngaa
