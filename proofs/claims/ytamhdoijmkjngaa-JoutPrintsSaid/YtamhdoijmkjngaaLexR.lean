/- The reference's Lexeme, walked: cut where its branches meet. -/
import Derived.Test.YtamhdoijmkjngaaLexO
import Derived.Deep.Cut
namespace Go.Proofs.Ytamhdoijmkjngaa
open Go.RowKit
set_option linter.unusedVariables false
set_option linter.unusedSimpArgs false

/-- Does a text begin with a sign? -/
def fstIs (x : ByteArray) (c : Nat) : Bool := match sl x with | [] => false | d :: _ => decide (d.toNat = c)
theorem fst_nil {x : ByteArray} {c : Nat} (h : ¬ 0 < x.size) : fstIs x c = false := by
  unfold fstIs
  have : (sl x).length = 0 := by rw [sl_len]; omega
  rw [List.eq_nil_of_length_eq_zero this]
theorem fst_at {x : ByteArray} {c : Nat} (h : 0 < x.size) : fstIs x c = decide ((x[0]'h).toNat = c) := by
  unfold fstIs
  have hd := sl_drop h
  rw [List.drop_zero] at hd
  rw [hd]
theorem fst_true {x : ByteArray} {c : Nat} (hc : c < 256) (h : fstIs x c = true) : ∃ r, sl x = UInt8.ofNat c :: r ∧ 1 ≤ x.size := by
  unfold fstIs at h
  rw [← sl_len]
  cases hs : sl x with
  | nil => rw [hs] at h; simp at h
  | cons d r =>
    rw [hs] at h
    exact ⟨r, by rw [(u8_eq d c hc).1 (of_decide_eq_true h)], by simp⟩
theorem fst_false {x : ByteArray} {c : Nat} (hc : c < 256) (h : fstIs x c = false) : ∀ d r, sl x = d :: r → d ≠ UInt8.ofNat c := by
  intro d r e hd
  unfold fstIs at h
  rw [e] at h
  have := (u8_eq d c hc).2 hd
  simp at h
  exact h this

/-- What is left of a number, its sign apart. -/
def lexBody (l : List UInt8) : Nat := if digs l = 0 ∨ (hd l = 48 ∧ 1 < digs l) then 0 else lexFrac (l.drop (digs l))
theorem lexeme_minus {x : ByteArray} (h : fstIs x 45 = true) : lexeme (sl x) = lexBody ((sl x).drop 1) := by
  obtain ⟨r, hr, _⟩ := fst_true (by omega) h
  rw [hr]; rfl
theorem lexeme_else {x : ByteArray} (h : fstIs x 45 = false) : lexeme (sl x) = lexBody (sl x) := by
  have hf := fst_false (by omega) h
  cases hs : sl x with
  | nil => rfl
  | cons c r =>
    have : ¬ c = 45 := hf c r hs
    unfold lexeme lexBody
    simp only
    rw [if_neg this]
theorem frac_dot {x : ByteArray} (h : fstIs x 46 = true) : lexFrac (sl x) = if digs ((sl x).drop 1) = 0 then 0 else lexExp 2 ((sl x).drop (1 + digs ((sl x).drop 1))) := by
  obtain ⟨r, hr, _⟩ := fst_true (by omega) h
  rw [hr, Nat.add_comm]
  rfl
theorem frac_else {x : ByteArray} (h : fstIs x 46 = false) : lexFrac (sl x) = lexExp 1 (sl x) := by
  have hf := fst_false (by omega) h
  cases hs : sl x with
  | nil => rfl
  | cons c r =>
    have : ¬ c = 46 := hf c r hs
    rw [lexFrac, if_neg this]
theorem exp_e {x : ByteArray} {k : Nat} (h : (fstIs x 101 || fstIs x 69) = true) : lexExp k (sl x) = tlD (expR ((sl x).drop 1)) ∧ 1 ≤ x.size := by
  rw [Bool.or_eq_true] at h
  rcases h with h | h
  · obtain ⟨r, hr, h1⟩ := fst_true (by omega) h
    refine ⟨?_, h1⟩
    rw [hr]; exact lexExp_cons k _ r (.inl rfl)
  · obtain ⟨r, hr, h1⟩ := fst_true (by omega) h
    refine ⟨?_, h1⟩
    rw [hr]; exact lexExp_cons k _ r (.inr rfl)
theorem exp_else {x : ByteArray} {k : Nat} (h : (fstIs x 101 || fstIs x 69) = false) : lexExp k (sl x) = if (sl x).isEmpty then k else 0 := by
  rw [Bool.or_eq_false_iff] at h
  have h1 := fst_false (by omega) h.1
  have h2 := fst_false (by omega) h.2
  cases hs : sl x with
  | nil => rfl
  | cons c r =>
    have e1 : ¬ c = 101 := h1 c r hs
    have e2 : ¬ c = 69 := h2 c r hs
    simp only [lexExp]
    rw [if_neg (fun e => e.elim e1 e2)]
    rfl
theorem sgn_yes {x : ByteArray} (h : (fstIs x 43 || fstIs x 45) = true) : expR (sl x) = (sl x).drop 1 ∧ 1 ≤ x.size := by
  rw [Bool.or_eq_true] at h
  rcases h with h | h
  · obtain ⟨r, hr, h1⟩ := fst_true (by omega) h
    refine ⟨?_, h1⟩
    rw [hr]; rfl
  · obtain ⟨r, hr, h1⟩ := fst_true (by omega) h
    refine ⟨?_, h1⟩
    rw [hr]; rfl
theorem sgn_no {x : ByteArray} (h : (fstIs x 43 || fstIs x 45) = false) : expR (sl x) = sl x := by
  rw [Bool.or_eq_false_iff] at h
  have h1 := fst_false (by omega) h.1
  have h2 := fst_false (by omega) h.2
  cases hs : sl x with
  | nil => rfl
  | cons c r =>
    have e1 : ¬ c = 43 := h1 c r hs
    have e2 : ¬ c = 45 := h2 c r hs
    simp only [expR]
    rw [if_neg (fun e => e.elim e1 e2)]
theorem hd_fst {x : ByteArray} (h : 0 < x.size) : (hd (sl x) = 48) ↔ ((x[0]'h).toNat = 48) := by
  have hd' := sl_drop h
  rw [List.drop_zero] at hd'
  rw [hd']
  exact (u8_eq _ 48 (by omega)).symm

theorem ext_drop (x : ByteArray) (n : Nat) : sl (x.extract n x.size) = (sl x).drop n := by
  rw [sl_ext, List.take_of_length_le]
  rw [List.length_drop, sl_len]; omega
theorem ext_size (x : ByteArray) (n : Nat) (h : x.size ≤ 1000000) : (x.extract n x.size).size ≤ 1000000 := by
  rw [← sl_len, ext_drop, List.length_drop, sl_len]; omega

/-- The string at hand, and what is to be told of it. -/
def LxS (F : List UInt8 → Nat) (R : Nat) (y : Value) : Prop := ∃ x : ByteArray, y = .string x ∧ x.size ≤ 1000000 ∧ R = F (sl x)
def LxK (R : Nat) (y k : Value) : Prop := ∃ (x : ByteArray) (n : Nat), y = .string x ∧ k = .int .i64 (n : Nat) ∧ x.size ≤ 1000000 ∧ R = lexExp n (sl x)
def LxE (R : Nat) (y k : Value) : Prop := ∃ (x : ByteArray) (n : Nat), y = .string x ∧ k = .int .i64 (n : Nat) ∧ x.size ≤ 1000000 ∧ R = if (sl x).isEmpty then n else 0

set_option maxRecDepth 100000 in
set_option maxHeartbeats 4000000 in
theorem rlexeme_calls (s : ByteArray) (hs : s.size ≤ 1000000) (w : World) :
    Calls Try.prog 43 #[.string s] w fun e w' => e = .returned (.int .i64 ((lexeme (sl s) : Nat) : Int)) ∧ Below w.heap.size w w' := by
  obtain ⟨R, hR⟩ : ∃ R : Nat, R = lexeme (sl s) := ⟨_, rfl⟩
  rw [← hR]
  have HR := Lib.hid hR
  have CR := fun x hx W => Lib.hid (run_calls x hx W)
  have HW := Lib.hid (Below.refl w.heap.size w)
  clear hR
  go_enter Try.func43, Try.ntmps43
  go_upto_region 2 with fail
  go_cut [12] from 5 (fun t W => t = .bool (fstIs s 45) ∧ Below w.heap.size w W)
  case first =>
    by_cases h0 : 0 < s.size
    · have hf := fst_at (c := 45) h0
      by_cases h1 : (s[0]'h0).toNat = 45
      · have hI : ((s[0]'h0).toNat : Int) = 45 := by rw [h1]; rfl
        rw [decide_eq_true h1] at hf
        clear h1
        go_wp2_with fail
        go_meet
        case rel => exact ⟨by rw [hf] <;> first | rfl | (rw [hI]) | (simp [hI]), HW.out⟩
      · have hI : (((s[0]'h0).toNat : Int) == 45) = false := by simp only [beq_eq_false_iff_ne]; intro e; exact h1 (Int.ofNat_inj.1 e)
        rw [decide_eq_false h1] at hf
        clear h1
        go_wp2_with fail
        go_meet
        case rel => exact ⟨by rw [hf] <;> first | rfl | (rw [hI]) | (simp [hI]), HW.out⟩
    · have hf := fst_nil (c := 45) h0
      have hI : decide ((0 : Int) < (s.size : Int)) = false := decide_eq_false (by omega)
      have hI2 : decide (0 < s.size) = false := decide_eq_false h0
      have hI3 : s.size = 0 := by omega
      clear h0
      go_wp2_with fail
      go_meet
      case rel => exact ⟨by rw [hf] <;> first | rfl | (rw [hI]) | (simp [hI]), HW.out⟩
  case rest =>
  obtain ⟨rfl, hw9⟩ := hcut
  clear HW
  have HW := Lib.hid hw9
  clear hw9
  go_upto_if 12 with fail
  go_cut [0] from 5 (fun y W => LxS lexBody R y ∧ Below w.heap.size w W)
  case first =>
    cases hb : fstIs s 45 with
    | true =>
      have hl := lexeme_minus hb
      obtain ⟨_, _, h1⟩ := fst_true (by omega) hb
      clear hb
      go_wp2_with fail
      go_meet
      case rel => exact ⟨⟨_, rfl, ext_size _ _ hs, by rw [HR.out, hl, ext_drop]⟩, HW.out⟩
    | false =>
      have hl := lexeme_else hb
      clear hb
      go_wp2_with fail
      go_meet
      case rel => exact ⟨⟨_, rfl, hs, by rw [HR.out, hl]⟩, HW.out⟩
  case rest =>
  obtain ⟨⟨x, rfl, hx, hRx⟩, hw9⟩ := hcut
  clear HW
  have HW := Lib.hid hw9
  have HX := Lib.hid hRx
  clear hRx HR hw9
  obtain ⟨n, hn⟩ : ∃ n, n = digs (sl x) := ⟨_, rfl⟩
  have CR1 := fun W => CR x hx W
  rw [← hn] at CR1
  have hnl : n ≤ x.size := by rw [hn, ← sl_len]; exact digs_le _
  have HN := Lib.hid hn
  clear hn
  go_wp2_with fail
  refine (CR1 _).out.mono ?_
  rintro e w1 ⟨rfl, rfl⟩
  by_cases hn0 : n = 0
  · subst hn0
    have HZ : Hid (R = 0) := by show _ = _; rw [HX.out, lexBody, ← HN.out, if_pos (.inl rfl)]
    go_wp2_with fail
    go_ret
    exact ⟨by rw [HZ.out]; rfl, HW.out⟩
  have bn : ((n : Int) == 0) = false := by simp; omega
  have h0 : 0 < x.size := by omega
  have hhd := hd_fst h0
  by_cases h48 : (x[0]'h0).toNat = 48 ∧ 1 < n
  · have HZ : Hid (R = 0) := by show _ = _; rw [HX.out, lexBody, ← HN.out, if_pos (.inr ⟨hhd.2 h48.1, h48.2⟩)]
    have hI : ((x[0]'h0).toNat : Int) = 48 := by rw [h48.1]; rfl
    have hJ : decide ((1 : Int) < (n : Int)) = true := by simp; omega
    clear h48 hhd
    go_wp2_with fail
    go_ret
    exact ⟨by rw [HZ.out]; rfl, HW.out⟩
  have HY : Hid (R = lexFrac ((sl x).drop n)) := by
    show _ = _
    rw [HX.out, lexBody, ← HN.out, if_neg]
    rintro (e | ⟨e, e2⟩)
    · exact hn0 e
    · exact h48 ⟨hhd.1 e, e2⟩
  go_upto_region 5 with fail
  go_cut [27] from 5 (fun t W => t = .bool false ∧ Below w.heap.size w W)
  case first =>
    by_cases h1 : (x[0]'h0).toNat = 48
    · have hI : ((x[0]'h0).toNat : Int) = 48 := by rw [h1]; rfl
      have hJ : decide ((1 : Int) < (n : Int)) = false := decide_eq_false (by have := fun e => h48 ⟨h1, e⟩; omega)
      clear h48 h1
      go_wp2_with fail
      go_meet
      case rel => exact ⟨rfl, HW.out⟩
    · have hI : (((x[0]'h0).toNat : Int) == 48) = false := by simp only [beq_eq_false_iff_ne]; intro e; exact h1 (Int.ofNat_inj.1 e)
      clear h48 h1
      go_wp2_with fail
      go_meet
      case rel => exact ⟨rfl, HW.out⟩
  case rest =>
  obtain ⟨rfl, hw9⟩ := hcut
  clear HW
  have HW := Lib.hid hw9
  have hnx : (n : Int) ≤ (x.size : Int) := by omega
  clear hw9 h48 hhd
  go_upto_region 8 with fail
  obtain ⟨z, hz⟩ : ∃ z, z = x.extract n x.size := ⟨_, rfl⟩
  have hz2 : z.size ≤ 1000000 := by rw [hz]; exact ext_size _ _ hx
  have HZ : Hid (R = lexFrac (sl z)) := by show _ = _; rw [hz, ext_drop]; exact HY.out
  rw [← hz]
  clear hz HX HY HN CR1 hnl hnx h0 bn hn0
  go_cut [38] from 5 (fun t W => t = .bool (fstIs z 46) ∧ Below w.heap.size w W)
  case first =>
    by_cases h0 : 0 < z.size
    · have hf := fst_at (c := 46) h0
      by_cases h1 : (z[0]'h0).toNat = 46
      · have hI : ((z[0]'h0).toNat : Int) = 46 := by rw [h1]; rfl
        rw [decide_eq_true h1] at hf
        clear h1
        go_wp2_with fail
        go_meet
        case rel => exact ⟨by rw [hf] <;> first | rfl | (rw [hI]) | (simp [hI]), HW.out⟩
      · have hI : (((z[0]'h0).toNat : Int) == 46) = false := by simp only [beq_eq_false_iff_ne]; intro e; exact h1 (Int.ofNat_inj.1 e)
        rw [decide_eq_false h1] at hf
        clear h1
        go_wp2_with fail
        go_meet
        case rel => exact ⟨by rw [hf] <;> first | rfl | (rw [hI]) | (simp [hI]), HW.out⟩
    · have hf := fst_nil (c := 46) h0
      have hI : decide ((0 : Int) < (z.size : Int)) = false := decide_eq_false (by omega)
      have hI2 : decide (0 < z.size) = false := decide_eq_false h0
      have hI3 : z.size = 0 := by omega
      clear h0
      go_wp2_with fail
      go_meet
      case rel => exact ⟨by rw [hf] <;> first | rfl | (rw [hI]) | (simp [hI]), HW.out⟩
  case rest =>
  obtain ⟨rfl, hw9⟩ := hcut
  clear HW
  have HW := Lib.hid hw9
  clear hw9
  go_upto_if 38 with fail
  go_cut [0, 3] from 5 (fun y k W => LxK R y k ∧ Below w.heap.size w W)
  case first =>
    cases hb : fstIs z 46 with
    | true =>
      have hl := frac_dot hb
      obtain ⟨_, _, h1⟩ := fst_true (by omega) hb
      obtain ⟨m, hm⟩ : ∃ m, m = digs ((sl z).drop 1) := ⟨_, rfl⟩
      rw [← hm] at hl
      have CR1 := fun W => CR (z.extract 1 z.size) (ext_size _ _ hz2) W
      rw [ext_drop, ← hm] at CR1
      have hml : 1 + m ≤ z.size := by
        have := digs_le ((sl z).drop 1)
        rw [List.length_drop, sl_len] at this
        omega
      have HL := Lib.hid hl
      clear hb hl hm
      go_wp2_with fail
      refine (CR1 _).out.mono ?_
      rintro e w1 ⟨rfl, rfl⟩
      by_cases hm0 : m = 0
      · subst hm0
        have HT : Hid (R = 0) := by show _ = _; rw [HZ.out, HL.out, if_pos rfl]
        go_wp2_with fail
        go_ret
        exact ⟨by rw [HT.out]; rfl, HW.out⟩
      have bm : ((m : Int) == 0) = false := by simp; omega
      have hwr : IntKind.i64.wrap (1 + (m : Int)) = 1 + (m : Int) := by simp [IntKind.wrap, IntKind.bits, IntKind.signed]; omega
      have hq0 : (0 : Int) ≤ 1 + (m : Int) := by omega
      have hq1 : (1 : Int) + (m : Int) ≤ (z.size : Int) := by omega
      go_wp2_with fail
      go_quiet (fail)
      go_wp2_with fail
      go_meet
      case rel => exact ⟨⟨_, 2, rfl, rfl, ext_size _ _ hz2, by rw [HZ.out, HL.out, if_neg hm0, ext_drop]⟩, HW.out.trans (below_drewN _ _ _)⟩
    | false =>
      have hl := frac_else hb
      clear hb
      go_wp2_with fail
      go_meet
      case rel => exact ⟨⟨_, 1, rfl, rfl, hz2, by rw [HZ.out, hl]⟩, HW.out⟩
  case rest =>
  obtain ⟨⟨y, k, rfl, rfl, hy, hRy⟩, hw9⟩ := hcut
  clear HW
  have HW := Lib.hid hw9
  have HY := Lib.hid hRy
  clear hRy HZ hw9
  go_upto_region 13 with fail
  go_cut [60] from 5 (fun t W => t = .bool (fstIs y 101 || fstIs y 69) ∧ Below w.heap.size w W)
  case first =>
    by_cases h0 : 0 < y.size
    · have hf := fst_at (c := 101) h0
      have hg := fst_at (c := 69) h0
      by_cases h1 : (y[0]'h0).toNat = 101
      · have hI : ((y[0]'h0).toNat : Int) = 101 := by rw [h1]; rfl
        rw [decide_eq_true h1] at hf
        clear h1 hg
        go_wp2_with fail
        go_meet
        case rel => exact ⟨by rw [hf]; rfl, HW.out⟩
      have hI : (((y[0]'h0).toNat : Int) == 101) = false := by simp only [beq_eq_false_iff_ne]; intro e; exact h1 (Int.ofNat_inj.1 e)
      rw [decide_eq_false h1] at hf
      by_cases h2 : (y[0]'h0).toNat = 69
      · have hJ : (((y[0]'h0).toNat : Int) == 69) = true := by rw [h2]; rfl
        rw [decide_eq_true h2] at hg
        clear h1 h2
        go_wp2_with fail
        go_meet
        case rel => exact ⟨by rw [hf, hg]; rfl, HW.out⟩
      · have hJ : (((y[0]'h0).toNat : Int) == 69) = false := by simp only [beq_eq_false_iff_ne]; intro e; exact h2 (Int.ofNat_inj.1 e)
        rw [decide_eq_false h2] at hg
        clear h1 h2
        go_wp2_with fail
        go_meet
        case rel => exact ⟨by rw [hf, hg]; rfl, HW.out⟩
    · have hf := fst_nil (c := 101) h0
      have hg := fst_nil (c := 69) h0
      have hI : decide ((0 : Int) < (y.size : Int)) = false := decide_eq_false (by omega)
      have hI2 : decide (0 < y.size) = false := decide_eq_false h0
      have hI3 : y.size = 0 := by omega
      clear h0
      go_wp2_with fail
      go_meet
      case rel => exact ⟨by rw [hf, hg]; rfl, HW.out⟩
  case rest =>
  obtain ⟨rfl, hw9⟩ := hcut
  clear HW
  have HW := Lib.hid hw9
  clear hw9
  go_upto_if 60 with fail
  go_cut [0, 3] from 5 (fun t k W => LxE R t k ∧ Below w.heap.size w W)
  case first =>
    cases hb : (fstIs y 101 || fstIs y 69) with
    | false =>
      have hl := exp_else (k := k) hb
      clear hb
      go_wp2_with fail
      go_meet
      case rel => exact ⟨⟨_, k, rfl, rfl, hy, by rw [HY.out, hl]⟩, HW.out⟩
    | true =>
      obtain ⟨hl, h1⟩ := exp_e (k := k) hb
      clear hb
      go_upto_region 15 with fail
      obtain ⟨v, hv⟩ : ∃ v, v = y.extract 1 y.size := ⟨_, rfl⟩
      have hv2 : v.size ≤ 1000000 := by rw [hv]; exact ext_size _ _ hy
      have HV : Hid (R = tlD (expR (sl v))) := by show _ = _; rw [hv, ext_drop, HY.out, hl]
      rw [← hv]
      clear hv hl h1 HY
      go_cut [75] from 5 (fun t W => t = .bool (fstIs v 43 || fstIs v 45) ∧ Below w.heap.size w W)
      case first =>
        by_cases h0 : 0 < v.size
        · have hf := fst_at (c := 43) h0
          have hg := fst_at (c := 45) h0
          by_cases h1 : (v[0]'h0).toNat = 43
          · have hI : ((v[0]'h0).toNat : Int) = 43 := by rw [h1]; rfl
            rw [decide_eq_true h1] at hf
            clear h1 hg
            go_wp2_with fail
            go_meet
            case rel => exact ⟨by rw [hf]; rfl, HW.out⟩
          have hI : (((v[0]'h0).toNat : Int) == 43) = false := by simp only [beq_eq_false_iff_ne]; intro e; exact h1 (Int.ofNat_inj.1 e)
          rw [decide_eq_false h1] at hf
          by_cases h2 : (v[0]'h0).toNat = 45
          · have hJ : (((v[0]'h0).toNat : Int) == 45) = true := by rw [h2]; rfl
            rw [decide_eq_true h2] at hg
            clear h1 h2
            go_wp2_with fail
            go_meet
            case rel => exact ⟨by rw [hf, hg]; rfl, HW.out⟩
          · have hJ : (((v[0]'h0).toNat : Int) == 45) = false := by simp only [beq_eq_false_iff_ne]; intro e; exact h2 (Int.ofNat_inj.1 e)
            rw [decide_eq_false h2] at hg
            clear h1 h2
            go_wp2_with fail
            go_meet
            case rel => exact ⟨by rw [hf, hg]; rfl, HW.out⟩
        · have hf := fst_nil (c := 43) h0
          have hg := fst_nil (c := 45) h0
          have hI : decide ((0 : Int) < (v.size : Int)) = false := decide_eq_false (by omega)
          have hI2 : decide (0 < v.size) = false := decide_eq_false h0
          have hI3 : v.size = 0 := by omega
          clear h0
          go_wp2_with fail
          go_meet
          case rel => exact ⟨by rw [hf, hg]; rfl, HW.out⟩
      case rest =>
      obtain ⟨rfl, hw9⟩ := hcut
      clear HW
      have HW := Lib.hid hw9
      clear hw9
      go_upto_if 75 with fail
      go_cut [0] from 5 (fun t W => LxS tlD R t ∧ Below w.heap.size w W)
      case first =>
        cases hb : (fstIs v 43 || fstIs v 45) with
        | true =>
          obtain ⟨hl, h1⟩ := sgn_yes hb
          clear hb
          go_wp2_with fail
          go_meet
          case rel => exact ⟨⟨_, rfl, ext_size _ _ hv2, by rw [HV.out, hl, ext_drop]⟩, HW.out⟩
        | false =>
          have hl := sgn_no hb
          clear hb
          go_wp2_with fail
          go_meet
          case rel => exact ⟨⟨_, rfl, hv2, by rw [HV.out, hl]⟩, HW.out⟩
      case rest =>
      obtain ⟨⟨q, rfl, hq, hRq⟩, hw9⟩ := hcut
      clear HW
      have HW := Lib.hid hw9
      have HQ := Lib.hid hRq
      clear hRq HV hw9
      obtain ⟨m, hm⟩ : ∃ m, m = digs (sl q) := ⟨_, rfl⟩
      have CR1 := fun W => CR q hq W
      rw [← hm] at CR1
      have hml : m ≤ q.size := by rw [hm, ← sl_len]; exact digs_le _
      have HM := Lib.hid hm
      clear hm
      go_wp2_with fail
      refine (CR1 _).out.mono ?_
      rintro e w1 ⟨rfl, rfl⟩
      by_cases hm0 : m = 0
      · subst hm0
        have HT : Hid (R = 0) := by show _ = _; rw [HQ.out, tlD, ← HM.out, if_pos rfl]
        go_wp2_with fail
        go_ret
        exact ⟨by rw [HT.out]; rfl, HW.out⟩
      have bm : ((m : Int) == 0) = false := by simp; omega
      have hq0 : (0 : Int) ≤ (m : Int) := by omega
      have hq1 : (m : Int) ≤ (q.size : Int) := by omega
      have HT : Hid (R = if (sl (q.extract m q.size)).isEmpty then 2 else 0) := by
        show _ = _
        rw [HQ.out, tlD, ← HM.out, if_neg hm0, ext_drop]
        by_cases he : m = (sl q).length
        · rw [if_pos he, List.drop_of_length_le (by omega)]; rfl
        · rw [if_neg he]
          have : ((sl q).drop m).isEmpty = false := by
            cases hd' : (sl q).drop m with
            | nil => have := congrArg List.length hd'; rw [List.length_drop, List.length_nil] at this; rw [sl_len] at this he; omega
            | cons => rfl
          rw [this]; rfl
      go_wp2_with fail
      go_quiet (fail)
      go_wp2_with fail
      go_meet
      case rel => exact ⟨⟨_, 2, rfl, rfl, ext_size _ _ hq, by simpa using HT.out⟩, HW.out.trans (below_drewN _ _ _)⟩
  case rest =>
  obtain ⟨⟨t, k, rfl, rfl, ht, hRt⟩, hw9⟩ := hcut
  clear HW
  have HW := Lib.hid hw9
  have HT := Lib.hid hRt
  clear hRt hw9 HY
  cases he : (sl t).isEmpty with
  | true =>
    have hie : t.toList.isEmpty = true := by rw [toList_sl]; exact he
    have HU : Hid (R = k) := by show _ = _; rw [HT.out, if_pos he]
    clear he
    go_wp2_with fail
    go_ret
    exact ⟨by rw [HU.out]; rfl, HW.out⟩
  | false =>
    have hie : t.toList.isEmpty = false := by rw [toList_sl]; exact he
    have HU : Hid (R = 0) := by show _ = _; rw [HT.out, if_neg (by rw [he]; simp)]
    clear he
    go_wp2_with fail
    go_ret
    exact ⟨by rw [HU.out]; rfl, HW.out⟩

end Go.Proofs.Ytamhdoijmkjngaa
