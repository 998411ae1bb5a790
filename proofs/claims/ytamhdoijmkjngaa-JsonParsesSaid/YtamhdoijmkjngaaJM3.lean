/- The reference's Lexeme, walked: cut where its branches meet. The reference's Check, walked. The reference's print, walked. The reference's Print; JoutPrints: the walk. The law's nest, walked: how deep a tree is. -/
import Derived.Test.YtamhdoijmkjngaaLexO
import Derived.Deep.Cut
import Derived.Test.YtamhdoijmkjngaaJChk
import Derived.Lib.SlBytesConst
import Derived.Test.YtamhdoijmkjngaaJApa
import Derived.Deep.RegionHeld3
namespace Go.Proofs.Ytamhdoijmkjngaa
open Go.RowKit
set_option linter.unusedVariables false
set_option linter.unusedSimpArgs false

/-- Does a text begin with a sign? -/
def fstIs (x : ByteArray) (c : Nat) : Bool := match sl x with | [] => false | d :: _ => decide (d.toNat = c)
theorem fst_nil {x : ByteArray} {c : Nat} (h : ¬ 0 < x.size) : fstIs x c = false := by
  unfold fstIs
  have : (sl x).length = 0 := by rw [sl_len]; omega
  rw [List.eq_nil_of_length_eq_zero this]
theorem fst_at {x : ByteArray} {c : Nat} (h : 0 < x.size) : fstIs x c = decide ((x[0]'h).toNat = c) := by
  unfold fstIs
  have hd := sl_drop h
  rw [List.drop_zero] at hd
  rw [hd]
theorem fst_true {x : ByteArray} {c : Nat} (hc : c < 256) (h : fstIs x c = true) : ∃ r, sl x = UInt8.ofNat c :: r ∧ 1 ≤ x.size := by
  unfold fstIs at h
  rw [← sl_len]
  cases hs : sl x with
  | nil => rw [hs] at h; simp at h
  | cons d r =>
    rw [hs] at h
    exact ⟨r, by rw [(u8_eq d c hc).1 (of_decide_eq_true h)], by simp⟩
theorem fst_false {x : ByteArray} {c : Nat} (hc : c < 256) (h : fstIs x c = false) : ∀ d r, sl x = d :: r → d ≠ UInt8.ofNat c := by
  intro d r e hd
  unfold fstIs at h
  rw [e] at h
  have := (u8_eq d c hc).2 hd
  simp at h
  exact h this

/-- What is left of a number, its sign apart. -/
def lexBody (l : List UInt8) : Nat := if digs l = 0 ∨ (hd l = 48 ∧ 1 < digs l) then 0 else lexFrac (l.drop (digs l))
theorem lexeme_minus {x : ByteArray} (h : fstIs x 45 = true) : lexeme (sl x) = lexBody ((sl x).drop 1) := by
  obtain ⟨r, hr, _⟩ := fst_true (by omega) h
  rw [hr]; rfl
theorem lexeme_else {x : ByteArray} (h : fstIs x 45 = false) : lexeme (sl x) = lexBody (sl x) := by
  have hf := fst_false (by omega) h
  cases hs : sl x with
  | nil => rfl
  | cons c r =>
    have : ¬ c = 45 := hf c r hs
    unfold lexeme lexBody
    simp only
    rw [if_neg this]
theorem frac_dot {x : ByteArray} (h : fstIs x 46 = true) : lexFrac (sl x) = if digs ((sl x).drop 1) = 0 then 0 else lexExp 2 ((sl x).drop (1 + digs ((sl x).drop 1))) := by
  obtain ⟨r, hr, _⟩ := fst_true (by omega) h
  rw [hr, Nat.add_comm]
  rfl
theorem frac_else {x : ByteArray} (h : fstIs x 46 = false) : lexFrac (sl x) = lexExp 1 (sl x) := by
  have hf := fst_false (by omega) h
  cases hs : sl x with
  | nil => rfl
  | cons c r =>
    have : ¬ c = 46 := hf c r hs
    rw [lexFrac, if_neg this]
theorem exp_e {x : ByteArray} {k : Nat} (h : (fstIs x 101 || fstIs x 69) = true) : lexExp k (sl x) = tlD (expR ((sl x).drop 1)) ∧ 1 ≤ x.size := by
  rw [Bool.or_eq_true] at h
  rcases h with h | h
  · obtain ⟨r, hr, h1⟩ := fst_true (by omega) h
    refine ⟨?_, h1⟩
    rw [hr]; exact lexExp_cons k _ r (.inl rfl)
  · obtain ⟨r, hr, h1⟩ := fst_true (by omega) h
    refine ⟨?_, h1⟩
    rw [hr]; exact lexExp_cons k _ r (.inr rfl)
theorem exp_else {x : ByteArray} {k : Nat} (h : (fstIs x 101 || fstIs x 69) = false) : lexExp k (sl x) = if (sl x).isEmpty then k else 0 := by
  rw [Bool.or_eq_false_iff] at h
  have h1 := fst_false (by omega) h.1
  have h2 := fst_false (by omega) h.2
  cases hs : sl x with
  | nil => rfl
  | cons c r =>
    have e1 : ¬ c = 101 := h1 c r hs
    have e2 : ¬ c = 69 := h2 c r hs
    simp only [lexExp]
    rw [if_neg (fun e => e.elim e1 e2)]
    rfl
theorem sgn_yes {x : ByteArray} (h : (fstIs x 43 || fstIs x 45) = true) : expR (sl x) = (sl x).drop 1 ∧ 1 ≤ x.size := by
  rw [Bool.or_eq_true] at h
  rcases h with h | h
  · obtain ⟨r, hr, h1⟩ := fst_true (by omega) h
    refine ⟨?_, h1⟩
    rw [hr]; rfl
  · obtain ⟨r, hr, h1⟩ := fst_true (by omega) h
    refine ⟨?_, h1⟩
    rw [hr]; rfl
theorem sgn_no {x : ByteArray} (h : (fstIs x 43 || fstIs x 45) = false) : expR (sl x) = sl x := by
  rw [Bool.or_eq_false_iff] at h
  have h1 := fst_false (by omega) h.1
  have h2 := fst_false (by omega) h.2
  cases hs : sl x with
  | nil => rfl
  | cons c r =>
    have e1 : ¬ c = 43 := h1 c r hs
    have e2 : ¬ c = 45 := h2 c r hs
    simp only [expR]
    rw [if_neg (fun e => e.elim e1 e2)]
theorem hd_fst {x : ByteArray} (h : 0 < x.size) : (hd (sl x) = 48) ↔ ((x[0]'h).toNat = 48) := by
  have hd' := sl_drop h
  rw [List.drop_zero] at hd'
  rw [hd']
  exact (u8_eq _ 48 (by omega)).symm

theorem ext_drop (x : ByteArray) (n : Nat) : sl (x.extract n x.size) = (sl x).drop n := by
  rw [sl_ext, List.take_of_length_le]
  rw [List.length_drop, sl_len]; omega
theorem ext_size (x : ByteArray) (n : Nat) (h : x.size ≤ 1000000) : (x.extract n x.size).size ≤ 1000000 := by
  rw [← sl_len, ext_drop, List.length_drop, sl_len]; omega

/-- The string at hand, and what is to be told of it. -/
def LxS (F : List UInt8 → Nat) (R : Nat) (y : Value) : Prop := ∃ x : ByteArray, y = .string x ∧ x.size ≤ 1000000 ∧ R = F (sl x)
def LxK (R : Nat) (y k : Value) : Prop := ∃ (x : ByteArray) (n : Nat), y = .string x ∧ k = .int .i64 (n : Nat) ∧ x.size ≤ 1000000 ∧ R = lexExp n (sl x)
def LxE (R : Nat) (y k : Value) : Prop := ∃ (x : ByteArray) (n : Nat), y = .string x ∧ k = .int .i64 (n : Nat) ∧ x.size ≤ 1000000 ∧ R = if (sl x).isEmpty then n else 0

set_option maxRecDepth 100000 in
set_option maxHeartbeats 4000000 in
theorem rlexeme_calls (s : ByteArray) (hs : s.size ≤ 1000000) (w : World) :
    Calls Try.prog 43 #[.string s] w fun e w' => e = .returned (.int .i64 ((lexeme (sl s) : Nat) : Int)) ∧ Below w.heap.size w w' := by
  obtain ⟨R, hR⟩ : ∃ R : Nat, R = lexeme (sl s) := ⟨_, rfl⟩
  rw [← hR]
  have HR := Lib.hid hR
  have CR := fun x hx W => Lib.hid (run_calls x hx W)
  have HW := Lib.hid (Below.refl w.heap.size w)
  clear hR
  go_enter Try.func43, Try.ntmps43
  go_upto_region 2 with fail
  go_cut [12] from 5 (fun t W => t = .bool (fstIs s 45) ∧ Below w.heap.size w W)
  case first =>
    by_cases h0 : 0 < s.size
    · have hf := fst_at (c := 45) h0
      by_cases h1 : (s[0]'h0).toNat = 45
      · have hI : ((s[0]'h0).toNat : Int) = 45 := by rw [h1]; rfl
        rw [decide_eq_true h1] at hf
        clear h1
        go_wp2_with fail
        go_meet
        case rel => exact ⟨by rw [hf] <;> first | rfl | (rw [hI]) | (simp [hI]), HW.out⟩
      · have hI : (((s[0]'h0).toNat : Int) == 45) = false := by simp only [beq_eq_false_iff_ne]; intro e; exact h1 (Int.ofNat_inj.1 e)
        rw [decide_eq_false h1] at hf
        clear h1
        go_wp2_with fail
        go_meet
        case rel => exact ⟨by rw [hf] <;> first | rfl | (rw [hI]) | (simp [hI]), HW.out⟩
    · have hf := fst_nil (c := 45) h0
      have hI : decide ((0 : Int) < (s.size : Int)) = false := decide_eq_false (by omega)
      have hI2 : decide (0 < s.size) = false := decide_eq_false h0
      have hI3 : s.size = 0 := by omega
      clear h0
      go_wp2_with fail
      go_meet
      case rel => exact ⟨by rw [hf] <;> first | rfl | (rw [hI]) | (simp [hI]), HW.out⟩
  case rest =>
  obtain ⟨rfl, hw9⟩ := hcut
  clear HW
  have HW := Lib.hid hw9
  clear hw9
  go_upto_if 12 with fail
  go_cut [0] from 5 (fun y W => LxS lexBody R y ∧ Below w.heap.size w W)
  case first =>
    cases hb : fstIs s 45 with
    | true =>
      have hl := lexeme_minus hb
      obtain ⟨_, _, h1⟩ := fst_true (by omega) hb
      clear hb
      go_wp2_with fail
      go_meet
      case rel => exact ⟨⟨_, rfl, ext_size _ _ hs, by rw [HR.out, hl, ext_drop]⟩, HW.out⟩
    | false =>
      have hl := lexeme_else hb
      clear hb
      go_wp2_with fail
      go_meet
      case rel => exact ⟨⟨_, rfl, hs, by rw [HR.out, hl]⟩, HW.out⟩
  case rest =>
  obtain ⟨⟨x, rfl, hx, hRx⟩, hw9⟩ := hcut
  clear HW
  have HW := Lib.hid hw9
  have HX := Lib.hid hRx
  clear hRx HR hw9
  obtain ⟨n, hn⟩ : ∃ n, n = digs (sl x) := ⟨_, rfl⟩
  have CR1 := fun W => CR x hx W
  rw [← hn] at CR1
  have hnl : n ≤ x.size := by rw [hn, ← sl_len]; exact digs_le _
  have HN := Lib.hid hn
  clear hn
  go_wp2_with fail
  refine (CR1 _).out.mono ?_
  rintro e w1 ⟨rfl, rfl⟩
  by_cases hn0 : n = 0
  · subst hn0
    have HZ : Hid (R = 0) := by show _ = _; rw [HX.out, lexBody, ← HN.out, if_pos (.inl rfl)]
    go_wp2_with fail
    go_ret
    exact ⟨by rw [HZ.out]; rfl, HW.out⟩
  have bn : ((n : Int) == 0) = false := by simp; omega
  have h0 : 0 < x.size := by omega
  have hhd := hd_fst h0
  by_cases h48 : (x[0]'h0).toNat = 48 ∧ 1 < n
  · have HZ : Hid (R = 0) := by show _ = _; rw [HX.out, lexBody, ← HN.out, if_pos (.inr ⟨hhd.2 h48.1, h48.2⟩)]
    have hI : ((x[0]'h0).toNat : Int) = 48 := by rw [h48.1]; rfl
    have hJ : decide ((1 : Int) < (n : Int)) = true := by simp; omega
    clear h48 hhd
    go_wp2_with fail
    go_ret
    exact ⟨by rw [HZ.out]; rfl, HW.out⟩
  have HY : Hid (R = lexFrac ((sl x).drop n)) := by
    show _ = _
    rw [HX.out, lexBody, ← HN.out, if_neg]
    rintro (e | ⟨e, e2⟩)
    · exact hn0 e
    · exact h48 ⟨hhd.1 e, e2⟩
  go_upto_region 5 with fail
  go_cut [27] from 5 (fun t W => t = .bool false ∧ Below w.heap.size w W)
  case first =>
    by_cases h1 : (x[0]'h0).toNat = 48
    · have hI : ((x[0]'h0).toNat : Int) = 48 := by rw [h1]; rfl
      have hJ : decide ((1 : Int) < (n : Int)) = false := decide_eq_false (by have := fun e => h48 ⟨h1, e⟩; omega)
      clear h48 h1
      go_wp2_with fail
      go_meet
      case rel => exact ⟨rfl, HW.out⟩
    · have hI : (((x[0]'h0).toNat : Int) == 48) = false := by simp only [beq_eq_false_iff_ne]; intro e; exact h1 (Int.ofNat_inj.1 e)
      clear h48 h1
      go_wp2_with fail
      go_meet
      case rel => exact ⟨rfl, HW.out⟩
  case rest =>
  obtain ⟨rfl, hw9⟩ := hcut
  clear HW
  have HW := Lib.hid hw9
  have hnx : (n : Int) ≤ (x.size : Int) := by omega
  clear hw9 h48 hhd
  go_upto_region 8 with fail
  obtain ⟨z, hz⟩ : ∃ z, z = x.extract n x.size := ⟨_, rfl⟩
  have hz2 : z.size ≤ 1000000 := by rw [hz]; exact ext_size _ _ hx
  have HZ : Hid (R = lexFrac (sl z)) := by show _ = _; rw [hz, ext_drop]; exact HY.out
  rw [← hz]
  clear hz HX HY HN CR1 hnl hnx h0 bn hn0
  go_cut [38] from 5 (fun t W => t = .bool (fstIs z 46) ∧ Below w.heap.size w W)
  case first =>
    by_cases h0 : 0 < z.size
    · have hf := fst_at (c := 46) h0
      by_cases h1 : (z[0]'h0).toNat = 46
      · have hI : ((z[0]'h0).toNat : Int) = 46 := by rw [h1]; rfl
        rw [decide_eq_true h1] at hf
        clear h1
        go_wp2_with fail
        go_meet
        case rel => exact ⟨by rw [hf] <;> first | rfl | (rw [hI]) | (simp [hI]), HW.out⟩
      · have hI : (((z[0]'h0).toNat : Int) == 46) = false := by simp only [beq_eq_false_iff_ne]; intro e; exact h1 (Int.ofNat_inj.1 e)
        rw [decide_eq_false h1] at hf
        clear h1
        go_wp2_with fail
        go_meet
        case rel => exact ⟨by rw [hf] <;> first | rfl | (rw [hI]) | (simp [hI]), HW.out⟩
    · have hf := fst_nil (c := 46) h0
      have hI : decide ((0 : Int) < (z.size : Int)) = false := decide_eq_false (by omega)
      have hI2 : decide (0 < z.size) = false := decide_eq_false h0
      have hI3 : z.size = 0 := by omega
      clear h0
      go_wp2_with fail
      go_meet
      case rel => exact ⟨by rw [hf] <;> first | rfl | (rw [hI]) | (simp [hI]), HW.out⟩
  case rest =>
  obtain ⟨rfl, hw9⟩ := hcut
  clear HW
  have HW := Lib.hid hw9
  clear hw9
  go_upto_if 38 with fail
  go_cut [0, 3] from 5 (fun y k W => LxK R y k ∧ Below w.heap.size w W)
  case first =>
    cases hb : fstIs z 46 with
    | true =>
      have hl := frac_dot hb
      obtain ⟨_, _, h1⟩ := fst_true (by omega) hb
      obtain ⟨m, hm⟩ : ∃ m, m = digs ((sl z).drop 1) := ⟨_, rfl⟩
      rw [← hm] at hl
      have CR1 := fun W => CR (z.extract 1 z.size) (ext_size _ _ hz2) W
      rw [ext_drop, ← hm] at CR1
      have hml : 1 + m ≤ z.size := by
        have := digs_le ((sl z).drop 1)
        rw [List.length_drop, sl_len] at this
        omega
      have HL := Lib.hid hl
      clear hb hl hm
      go_wp2_with fail
      refine (CR1 _).out.mono ?_
      rintro e w1 ⟨rfl, rfl⟩
      by_cases hm0 : m = 0
      · subst hm0
        have HT : Hid (R = 0) := by show _ = _; rw [HZ.out, HL.out, if_pos rfl]
        go_wp2_with fail
        go_ret
        exact ⟨by rw [HT.out]; rfl, HW.out⟩
      have bm : ((m : Int) == 0) = false := by simp; omega
      have hwr : IntKind.i64.wrap (1 + (m : Int)) = 1 + (m : Int) := by simp [IntKind.wrap, IntKind.bits, IntKind.signed]; omega
      have hq0 : (0 : Int) ≤ 1 + (m : Int) := by omega
      have hq1 : (1 : Int) + (m : Int) ≤ (z.size : Int) := by omega
      go_wp2_with fail
      go_quiet (fail)
      go_wp2_with fail
      go_meet
      case rel => exact ⟨⟨_, 2, rfl, rfl, ext_size _ _ hz2, by rw [HZ.out, HL.out, if_neg hm0, ext_drop]⟩, HW.out.trans (below_drewN _ _ _)⟩
    | false =>
      have hl := frac_else hb
      clear hb
      go_wp2_with fail
      go_meet
      case rel => exact ⟨⟨_, 1, rfl, rfl, hz2, by rw [HZ.out, hl]⟩, HW.out⟩
  case rest =>
  obtain ⟨⟨y, k, rfl, rfl, hy, hRy⟩, hw9⟩ := hcut
  clear HW
  have HW := Lib.hid hw9
  have HY := Lib.hid hRy
  clear hRy HZ hw9
  go_upto_region 13 with fail
  go_cut [60] from 5 (fun t W => t = .bool (fstIs y 101 || fstIs y 69) ∧ Below w.heap.size w W)
  case first =>
    by_cases h0 : 0 < y.size
    · have hf := fst_at (c := 101) h0
      have hg := fst_at (c := 69) h0
      by_cases h1 : (y[0]'h0).toNat = 101
      · have hI : ((y[0]'h0).toNat : Int) = 101 := by rw [h1]; rfl
        rw [decide_eq_true h1] at hf
        clear h1 hg
        go_wp2_with fail
        go_meet
        case rel => exact ⟨by rw [hf]; rfl, HW.out⟩
      have hI : (((y[0]'h0).toNat : Int) == 101) = false := by simp only [beq_eq_false_iff_ne]; intro e; exact h1 (Int.ofNat_inj.1 e)
      rw [decide_eq_false h1] at hf
      by_cases h2 : (y[0]'h0).toNat = 69
      · have hJ : (((y[0]'h0).toNat : Int) == 69) = true := by rw [h2]; rfl
        rw [decide_eq_true h2] at hg
        clear h1 h2
        go_wp2_with fail
        go_meet
        case rel => exact ⟨by rw [hf, hg]; rfl, HW.out⟩
      · have hJ : (((y[0]'h0).toNat : Int) == 69) = false := by simp only [beq_eq_false_iff_ne]; intro e; exact h2 (Int.ofNat_inj.1 e)
        rw [decide_eq_false h2] at hg
        clear h1 h2
        go_wp2_with fail
        go_meet
        case rel => exact ⟨by rw [hf, hg]; rfl, HW.out⟩
    · have hf := fst_nil (c := 101) h0
      have hg := fst_nil (c := 69) h0
      have hI : decide ((0 : Int) < (y.size : Int)) = false := decide_eq_false (by omega)
      have hI2 : decide (0 < y.size) = false := decide_eq_false h0
      have hI3 : y.size = 0 := by omega
      clear h0
      go_wp2_with fail
      go_meet
      case rel => exact ⟨by rw [hf, hg]; rfl, HW.out⟩
  case rest =>
  obtain ⟨rfl, hw9⟩ := hcut
  clear HW
  have HW := Lib.hid hw9
  clear hw9
  go_upto_if 60 with fail
  go_cut [0, 3] from 5 (fun t k W => LxE R t k ∧ Below w.heap.size w W)
  case first =>
    cases hb : (fstIs y 101 || fstIs y 69) with
    | false =>
      have hl := exp_else (k := k) hb
      clear hb
      go_wp2_with fail
      go_meet
      case rel => exact ⟨⟨_, k, rfl, rfl, hy, by rw [HY.out, hl]⟩, HW.out⟩
    | true =>
      obtain ⟨hl, h1⟩ := exp_e (k := k) hb
      clear hb
      go_upto_region 15 with fail
      obtain ⟨v, hv⟩ : ∃ v, v = y.extract 1 y.size := ⟨_, rfl⟩
      have hv2 : v.size ≤ 1000000 := by rw [hv]; exact ext_size _ _ hy
      have HV : Hid (R = tlD (expR (sl v))) := by show _ = _; rw [hv, ext_drop, HY.out, hl]
      rw [← hv]
      clear hv hl h1 HY
      go_cut [75] from 5 (fun t W => t = .bool (fstIs v 43 || fstIs v 45) ∧ Below w.heap.size w W)
      case first =>
        by_cases h0 : 0 < v.size
        · have hf := fst_at (c := 43) h0
          have hg := fst_at (c := 45) h0
          by_cases h1 : (v[0]'h0).toNat = 43
          · have hI : ((v[0]'h0).toNat : Int) = 43 := by rw [h1]; rfl
            rw [decide_eq_true h1] at hf
            clear h1 hg
            go_wp2_with fail
            go_meet
            case rel => exact ⟨by rw [hf]; rfl, HW.out⟩
          have hI : (((v[0]'h0).toNat : Int) == 43) = false := by simp only [beq_eq_false_iff_ne]; intro e; exact h1 (Int.ofNat_inj.1 e)
          rw [decide_eq_false h1] at hf
          by_cases h2 : (v[0]'h0).toNat = 45
          · have hJ : (((v[0]'h0).toNat : Int) == 45) = true := by rw [h2]; rfl
            rw [decide_eq_true h2] at hg
            clear h1 h2
            go_wp2_with fail
            go_meet
            case rel => exact ⟨by rw [hf, hg]; rfl, HW.out⟩
          · have hJ : (((v[0]'h0).toNat : Int) == 45) = false := by simp only [beq_eq_false_iff_ne]; intro e; exact h2 (Int.ofNat_inj.1 e)
            rw [decide_eq_false h2] at hg
            clear h1 h2
            go_wp2_with fail
            go_meet
            case rel => exact ⟨by rw [hf, hg]; rfl, HW.out⟩
        · have hf := fst_nil (c := 43) h0
          have hg := fst_nil (c := 45) h0
          have hI : decide ((0 : Int) < (v.size : Int)) = false := decide_eq_false (by omega)
          have hI2 : decide (0 < v.size) = false := decide_eq_false h0
          have hI3 : v.size = 0 := by omega
          clear h0
          go_wp2_with fail
          go_meet
          case rel => exact ⟨by rw [hf, hg]; rfl, HW.out⟩
      case rest =>
      obtain ⟨rfl, hw9⟩ := hcut
      clear HW
      have HW := Lib.hid hw9
      clear hw9
      go_upto_if 75 with fail
      go_cut [0] from 5 (fun t W => LxS tlD R t ∧ Below w.heap.size w W)
      case first =>
        cases hb : (fstIs v 43 || fstIs v 45) with
        | true =>
          obtain ⟨hl, h1⟩ := sgn_yes hb
          clear hb
          go_wp2_with fail
          go_meet
          case rel => exact ⟨⟨_, rfl, ext_size _ _ hv2, by rw [HV.out, hl, ext_drop]⟩, HW.out⟩
        | false =>
          have hl := sgn_no hb
          clear hb
          go_wp2_with fail
          go_meet
          case rel => exact ⟨⟨_, rfl, hv2, by rw [HV.out, hl]⟩, HW.out⟩
      case rest =>
      obtain ⟨⟨q, rfl, hq, hRq⟩, hw9⟩ := hcut
      clear HW
      have HW := Lib.hid hw9
      have HQ := Lib.hid hRq
      clear hRq HV hw9
      obtain ⟨m, hm⟩ : ∃ m, m = digs (sl q) := ⟨_, rfl⟩
      have CR1 := fun W => CR q hq W
      rw [← hm] at CR1
      have hml : m ≤ q.size := by rw [hm, ← sl_len]; exact digs_le _
      have HM := Lib.hid hm
      clear hm
      go_wp2_with fail
      refine (CR1 _).out.mono ?_
      rintro e w1 ⟨rfl, rfl⟩
      by_cases hm0 : m = 0
      · subst hm0
        have HT : Hid (R = 0) := by show _ = _; rw [HQ.out, tlD, ← HM.out, if_pos rfl]
        go_wp2_with fail
        go_ret
        exact ⟨by rw [HT.out]; rfl, HW.out⟩
      have bm : ((m : Int) == 0) = false := by simp; omega
      have hq0 : (0 : Int) ≤ (m : Int) := by omega
      have hq1 : (m : Int) ≤ (q.size : Int) := by omega
      have HT : Hid (R = if (sl (q.extract m q.size)).isEmpty then 2 else 0) := by
        show _ = _
        rw [HQ.out, tlD, ← HM.out, if_neg hm0, ext_drop]
        by_cases he : m = (sl q).length
        · rw [if_pos he, List.drop_of_length_le (by omega)]; rfl
        · rw [if_neg he]
          have : ((sl q).drop m).isEmpty = false := by
            cases hd' : (sl q).drop m with
            | nil => have := congrArg List.length hd'; rw [List.length_drop, List.length_nil] at this; rw [sl_len] at this he; omega
            | cons => rfl
          rw [this]; rfl
      go_wp2_with fail
      go_quiet (fail)
      go_wp2_with fail
      go_meet
      case rel => exact ⟨⟨_, 2, rfl, rfl, ext_size _ _ hq, by simpa using HT.out⟩, HW.out.trans (below_drewN _ _ _)⟩
  case rest =>
  obtain ⟨⟨t, k, rfl, rfl, ht, hRt⟩, hw9⟩ := hcut
  clear HW
  have HW := Lib.hid hw9
  have HT := Lib.hid hRt
  clear hRt hw9 HY
  cases he : (sl t).isEmpty with
  | true =>
    have hie : t.toList.isEmpty = true := by rw [toList_sl]; exact he
    have HU : Hid (R = k) := by show _ = _; rw [HT.out, if_pos he]
    clear he
    go_wp2_with fail
    go_ret
    exact ⟨by rw [HU.out]; rfl, HW.out⟩
  | false =>
    have hie : t.toList.isEmpty = false := by rw [toList_sl]; exact he
    have HU : Hid (R = 0) := by show _ = _; rw [HT.out, if_neg (by rw [he]; simp)]
    clear he
    go_wp2_with fail
    go_ret
    exact ⟨by rw [HU.out]; rfl, HW.out⟩

end Go.Proofs.Ytamhdoijmkjngaa

namespace Go.Proofs.Ytamhdoijmkjngaa
open Go.RowKit
set_option linter.unusedVariables false
set_option linter.unusedSimpArgs false

/-- The value's box holds what it held. -/
def BoxJ (w1 : World) (g : Nat) (k : Int) (x : ByteArray) (ak : Option Addr) (nk ck : Nat) (wr : World) : Prop :=
  Below (g + 1) w1 wr ∧ wr.cell? ⟨g, 0, none⟩ = some (.int .i64 k) ∧ wr.cell? ⟨g, 1, none⟩ = some (.string x) ∧ wr.cell? ⟨g, 2, none⟩ = some (.slice ak nk ck) ∧ g + 1 ≤ wr.heap.size
theorem BoxJ.start {w : World} {k : Int} {x : ByteArray} {ak : Option Addr} {nk ck : Nat} : BoxJ (w.alloc (.cells (jCells k x ak nk ck) 24)) w.heap.size k x ak nk ck (w.alloc (.cells (jCells k x ak nk ck) 24)) :=
  ⟨Below.refl _ _, by simp [go_sem], by simp [go_sem], by simp [go_sem], by simp⟩
theorem BoxJ.keep {w1 : World} {g : Nat} {k : Int} {x : ByteArray} {ak : Option Addr} {nk ck : Nat} {wr w' : World} (h : BoxJ w1 g k x ak nk ck wr) (hb : Below wr.heap.size wr w') : BoxJ w1 g k x ak nk ck w' :=
  ⟨h.1.trans (hb.mono h.2.2.2.2), cell_below hb h.2.1, cell_below hb h.2.2.1, cell_below hb h.2.2.2.1, Nat.le_trans h.2.2.2.2 hb.size⟩

set_option maxRecDepth 100000 in
set_option maxHeartbeats 16000000 in
theorem rchk_step (d : Nat) (hof : ChkSaid 23 d) : ChkSaid 23 (d + 1) := by
  intro j hj S w c h hwb
  obtain ⟨k, t, m⟩ := j
  obtain ⟨x, ak, nk, ck, rfl, hxt, hxs, hkb, hml, hnk, hks⟩ := h
  have hxl : x.size = t.length := by rw [← hxt, sl_len]
  have hwt : wtJ (.mk k t m) = 2 + t.length + wtM m := rfl
  rw [hwt] at hj hwb
  have hnl := isNil_len m
  rw [hml] at hnl
  have hml2 := wtM_len m
  rw [hml] at hml2
  have hkk := Lib.hid (show checkJ (.mk k t m) = if k < 1 ∨ 7 < k ∨ (m.isNil = false ∧ k ≠ 6 ∧ k ≠ 7) ∨ (t ≠ [] ∧ k ≠ 4 ∧ k ≠ 5) then 1 else if k = 6 ∧ m.bare = false then 1 else if k = 4 ∧ (lexeme t = 0 ∨ 300 < t.length) then 10 else if k = 5 ∧ wholeB t = false then 4 else checkM m by rw [checkJ])
  generalize checkJ (.mk k t m) = r at hkk
  have HOF := Lib.hid hof
  have HKS := Lib.hid hks
  have HXT := Lib.hid hxt
  have HML := Lib.hid hml
  have HNL := Lib.hid hnl
  have hnk9 := hnk.1
  clear hof hks hxt hml hnl hwt hnk
  have hbox : Below w.heap.size w (w.alloc (.cells (jCells k x ak nk ck) 24)) := (Below.refl _ _).alloc (Nat.le_refl _) _
  have HBX := Lib.hid hbox
  have HB0 := Lib.hid (BoxJ.start (w := w) (k := k) (x := x) (ak := ak) (nk := nk) (ck := ck))
  clear hbox
  obtain ⟨b4, hb4⟩ : ∃ b, b = (k == 4) := ⟨_, rfl⟩
  by_cases hout : k < 1 ∨ 7 < k
  · have HR : Hid (r = 1) := by
      show _ = _
      rw [hkk.out, if_pos]
      rcases hout with h | h
      · exact .inl h
      · exact .inr (.inl h)
    have d4 : (k == 4) = false := by simp; omega
    have d5 : (k == 5) = false := by simp; omega
    have d6 : (k == 6) = false := by simp; omega
    have d7 : (k == 7) = false := by simp; omega
    have h2 : k < 1 ∨ (1 ≤ k ∧ 7 < k) := by omega
    clear hkk hout hb4
    rcases h2 with h | ⟨h, h'⟩
    all_goals
      go_enter Try.func23, Try.ntmps23
      go_wp2_with fail
      go_quiet (fail)
      go_wp2_with fail
      go_ret
      exact ⟨by rw [HR.out]; rfl, HBX.out.trans (below_drewN _ _ _)⟩
  have hk : k = 1 ∨ k = 2 ∨ k = 3 ∨ k = 4 ∨ k = 5 ∨ k = 6 ∨ k = 7 := by omega
  clear hout hkb hb4
  rcases hk with rfl | rfl | rfl | rfl | rfl | rfl | rfl
  · skip
    by_cases hn0 : 0 < nk
    · have HR : Hid (r = 1) := by
        show _ = _
        rw [hkk.out, if_pos (.inr (.inr (.inl ⟨by rw [HNL.out]; simp; omega, by omega, by omega⟩)))]
      clear hkk
      go_enter Try.func23, Try.ntmps23
      go_wp2_with fail
      go_quiet (fail)
      go_wp2_with fail
      go_ret
      exact ⟨by rw [HR.out]; rfl, HBX.out.trans (below_drewN _ _ _)⟩
    obtain rfl : nk = 0 := by omega
    have hm0 : m = .nil := by have := HML.out; cases m with
      | nil => rfl
      | cons => simp [M.len] at this
    subst hm0
    by_cases ht : t = []
    case neg =>
      have HR : Hid (r = 1) := by
        show _ = _
        rw [hkk.out, if_pos (.inr (.inr (.inr ⟨ht, by omega, by omega⟩)))]
      have hx0 : x.toList.isEmpty = false := sl_ne (by rw [HXT.out]; exact ht)
      clear hkk
      go_enter Try.func23, Try.ntmps23
      go_wp2_with fail
      go_quiet (fail)
      go_wp2_with fail
      go_ret
      exact ⟨by rw [HR.out]; rfl, HBX.out.trans (below_drewN _ _ _)⟩
    subst ht
    obtain rfl := sl_nil HXT.out
    have HR : Hid (r = 0) := by
      show _ = _
      rw [hkk.out]
      simp [M.isNil, M.bare, checkM]
    clear hkk
    go_enter Try.func23, Try.ntmps23
    go_wp2_with fail
    go_quiet (fail)
    go_wp2_with fail
    go_loopw [5] (fun i wr => i = .int .i64 0 ∧ BoxJ (w.alloc (.cells (jCells 1 ⟨#[]⟩ ak 0 ck) 24)) w.heap.size 1 ⟨#[]⟩ ak 0 ck wr) (fun _ _ => 0)
    case atStart => exact ⟨rfl, HB0.out.keep (below_drewN _ _ _)⟩
    case round =>
      obtain ⟨rfl, hbj⟩ := hrel
      obtain ⟨hbl, f0, f1, f2, hsz⟩ := hbj
      have HBJ : Hid (BoxJ (w.alloc (.cells (jCells 1 ⟨#[]⟩ ak 0 ck) 24)) w.heap.size 1 ⟨#[]⟩ ak 0 ck wr) := Lib.hid ⟨hbl, f0, f1, f2, hsz⟩
      have HBL := Lib.hid hbl
      clear hbl
      go_wp2_with fail
      go_loopw [6] (fun i wx => i = .int .i64 0 ∧ BoxJ (w.alloc (.cells (jCells 1 ⟨#[]⟩ ak 0 ck) 24)) w.heap.size 1 ⟨#[]⟩ ak 0 ck wx) (fun _ _ => 0)
      case atStart => exact ⟨rfl, HBJ.out⟩
      case round =>
        clear f0 f1 f2 hsz HBL HBJ
        obtain ⟨rfl, hbj⟩ := hrel
        obtain ⟨hbl, f0, f1, f2, hsz⟩ := hbj
        have HBL := Lib.hid hbl
        clear hbl
        go_wp2_with fail
        go_ret
        exact ⟨by rw [HR.out]; rfl, HBX.out.trans (HBL.out.mono (by omega))⟩
  · skip
    by_cases hn0 : 0 < nk
    · have HR : Hid (r = 1) := by
        show _ = _
        rw [hkk.out, if_pos (.inr (.inr (.inl ⟨by rw [HNL.out]; simp; omega, by omega, by omega⟩)))]
      clear hkk
      go_enter Try.func23, Try.ntmps23
      go_wp2_with fail
      go_quiet (fail)
      go_wp2_with fail
      go_ret
      exact ⟨by rw [HR.out]; rfl, HBX.out.trans (below_drewN _ _ _)⟩
    obtain rfl : nk = 0 := by omega
    have hm0 : m = .nil := by have := HML.out; cases m with
      | nil => rfl
      | cons => simp [M.len] at this
    subst hm0
    by_cases ht : t = []
    case neg =>
      have HR : Hid (r = 1) := by
        show _ = _
        rw [hkk.out, if_pos (.inr (.inr (.inr ⟨ht, by omega, by omega⟩)))]
      have hx0 : x.toList.isEmpty = false := sl_ne (by rw [HXT.out]; exact ht)
      clear hkk
      go_enter Try.func23, Try.ntmps23
      go_wp2_with fail
      go_quiet (fail)
      go_wp2_with fail
      go_ret
      exact ⟨by rw [HR.out]; rfl, HBX.out.trans (below_drewN _ _ _)⟩
    subst ht
    obtain rfl := sl_nil HXT.out
    have HR : Hid (r = 0) := by
      show _ = _
      rw [hkk.out]
      simp [M.isNil, M.bare, checkM]
    clear hkk
    go_enter Try.func23, Try.ntmps23
    go_wp2_with fail
    go_quiet (fail)
    go_wp2_with fail
    go_loopw [5] (fun i wr => i = .int .i64 0 ∧ BoxJ (w.alloc (.cells (jCells 2 ⟨#[]⟩ ak 0 ck) 24)) w.heap.size 2 ⟨#[]⟩ ak 0 ck wr) (fun _ _ => 0)
    case atStart => exact ⟨rfl, HB0.out.keep (below_drewN _ _ _)⟩
    case round =>
      obtain ⟨rfl, hbj⟩ := hrel
      obtain ⟨hbl, f0, f1, f2, hsz⟩ := hbj
      have HBJ : Hid (BoxJ (w.alloc (.cells (jCells 2 ⟨#[]⟩ ak 0 ck) 24)) w.heap.size 2 ⟨#[]⟩ ak 0 ck wr) := Lib.hid ⟨hbl, f0, f1, f2, hsz⟩
      have HBL := Lib.hid hbl
      clear hbl
      go_wp2_with fail
      go_loopw [6] (fun i wx => i = .int .i64 0 ∧ BoxJ (w.alloc (.cells (jCells 2 ⟨#[]⟩ ak 0 ck) 24)) w.heap.size 2 ⟨#[]⟩ ak 0 ck wx) (fun _ _ => 0)
      case atStart => exact ⟨rfl, HBJ.out⟩
      case round =>
        clear f0 f1 f2 hsz HBL HBJ
        obtain ⟨rfl, hbj⟩ := hrel
        obtain ⟨hbl, f0, f1, f2, hsz⟩ := hbj
        have HBL := Lib.hid hbl
        clear hbl
        go_wp2_with fail
        go_ret
        exact ⟨by rw [HR.out]; rfl, HBX.out.trans (HBL.out.mono (by omega))⟩
  · skip
    by_cases hn0 : 0 < nk
    · have HR : Hid (r = 1) := by
        show _ = _
        rw [hkk.out, if_pos (.inr (.inr (.inl ⟨by rw [HNL.out]; simp; omega, by omega, by omega⟩)))]
      clear hkk
      go_enter Try.func23, Try.ntmps23
      go_wp2_with fail
      go_quiet (fail)
      go_wp2_with fail
      go_ret
      exact ⟨by rw [HR.out]; rfl, HBX.out.trans (below_drewN _ _ _)⟩
    obtain rfl : nk = 0 := by omega
    have hm0 : m = .nil := by have := HML.out; cases m with
      | nil => rfl
      | cons => simp [M.len] at this
    subst hm0
    by_cases ht : t = []
    case neg =>
      have HR : Hid (r = 1) := by
        show _ = _
        rw [hkk.out, if_pos (.inr (.inr (.inr ⟨ht, by omega, by omega⟩)))]
      have hx0 : x.toList.isEmpty = false := sl_ne (by rw [HXT.out]; exact ht)
      clear hkk
      go_enter Try.func23, Try.ntmps23
      go_wp2_with fail
      go_quiet (fail)
      go_wp2_with fail
      go_ret
      exact ⟨by rw [HR.out]; rfl, HBX.out.trans (below_drewN _ _ _)⟩
    subst ht
    obtain rfl := sl_nil HXT.out
    have HR : Hid (r = 0) := by
      show _ = _
      rw [hkk.out]
      simp [M.isNil, M.bare, checkM]
    clear hkk
    go_enter Try.func23, Try.ntmps23
    go_wp2_with fail
    go_quiet (fail)
    go_wp2_with fail
    go_loopw [5] (fun i wr => i = .int .i64 0 ∧ BoxJ (w.alloc (.cells (jCells 3 ⟨#[]⟩ ak 0 ck) 24)) w.heap.size 3 ⟨#[]⟩ ak 0 ck wr) (fun _ _ => 0)
    case atStart => exact ⟨rfl, HB0.out.keep (below_drewN _ _ _)⟩
    case round =>
      obtain ⟨rfl, hbj⟩ := hrel
      obtain ⟨hbl, f0, f1, f2, hsz⟩ := hbj
      have HBJ : Hid (BoxJ (w.alloc (.cells (jCells 3 ⟨#[]⟩ ak 0 ck) 24)) w.heap.size 3 ⟨#[]⟩ ak 0 ck wr) := Lib.hid ⟨hbl, f0, f1, f2, hsz⟩
      have HBL := Lib.hid hbl
      clear hbl
      go_wp2_with fail
      go_loopw [6] (fun i wx => i = .int .i64 0 ∧ BoxJ (w.alloc (.cells (jCells 3 ⟨#[]⟩ ak 0 ck) 24)) w.heap.size 3 ⟨#[]⟩ ak 0 ck wx) (fun _ _ => 0)
      case atStart => exact ⟨rfl, HBJ.out⟩
      case round =>
        clear f0 f1 f2 hsz HBL HBJ
        obtain ⟨rfl, hbj⟩ := hrel
        obtain ⟨hbl, f0, f1, f2, hsz⟩ := hbj
        have HBL := Lib.hid hbl
        clear hbl
        go_wp2_with fail
        go_ret
        exact ⟨by rw [HR.out]; rfl, HBX.out.trans (HBL.out.mono (by omega))⟩
  · skip
    by_cases hn0 : 0 < nk
    · have HR : Hid (r = 1) := by
        show _ = _
        rw [hkk.out, if_pos (.inr (.inr (.inl ⟨by rw [HNL.out]; simp; omega, by omega, by omega⟩)))]
      clear hkk
      go_enter Try.func23, Try.ntmps23
      go_wp2_with fail
      go_quiet (fail)
      go_wp2_with fail
      go_ret
      exact ⟨by rw [HR.out]; rfl, HBX.out.trans (below_drewN _ _ _)⟩
    obtain rfl : nk = 0 := by omega
    have hm0 : m = .nil := by have := HML.out; cases m with
      | nil => rfl
      | cons => simp [M.len] at this
    subst hm0
    rcases Bool.eq_false_or_eq_true (x.toList.isEmpty) with he | he
    all_goals
      have CL := fun W => Lib.hid (rlexeme_calls x (by omega) W)
      rw [HXT.out] at CL
      obtain ⟨lx, hlx⟩ : ∃ lx, lx = lexeme t := ⟨_, rfl⟩
      rw [← hlx] at CL
      have hres : r = if lx = 0 ∨ 300 < x.size then 10 else 0 := by
        rw [hkk.out, hlx, hxl]
        by_cases h : lexeme t = 0 ∨ 300 < t.length
        · simp [M.isNil, M.bare, checkM, h]
        · simp [M.isNil, M.bare, checkM, h]
      clear hlx
      by_cases c1 : lx = 0
      · have HR : Hid (r = 10) := by show _ = _; rw [hres, if_pos (.inl c1)]
        subst c1
        clear hkk hres
        go_enter Try.func23, Try.ntmps23
        go_wp2_with fail
        go_quiet (fail)
        go_wp2_with fail
        go_loopw [5] (fun i wr => i = .int .i64 0 ∧ BoxJ (w.alloc (.cells (jCells 4 x ak 0 ck) 24)) w.heap.size 4 x ak 0 ck wr) (fun _ _ => 0)
        case atStart => exact ⟨rfl, HB0.out.keep (below_drewN _ _ _)⟩
        case round =>
          obtain ⟨rfl, hbj⟩ := hrel
          obtain ⟨hbl, f0, f1, f2, hsz⟩ := hbj
          have HBJ : Hid (BoxJ (w.alloc (.cells (jCells 4 x ak 0 ck) 24)) w.heap.size 4 x ak 0 ck wr) := Lib.hid ⟨hbl, f0, f1, f2, hsz⟩
          have HBL := Lib.hid hbl
          clear hbl
          go_wp2_with fail
          refine (CL _).out.mono ?_
          rintro e w5 ⟨rfl, hb5⟩
          obtain ⟨hbl2, g0, g1, g2, hsz5⟩ := HBJ.out.keep hb5
          have HBJ5 : Hid (BoxJ (w.alloc (.cells (jCells 4 x ak 0 ck) 24)) w.heap.size 4 x ak 0 ck w5) := Lib.hid ⟨hbl2, g0, g1, g2, hsz5⟩
          have HBL5 := Lib.hid hbl2
          clear hb5 hbl2
          go_wp2_with fail
          go_ret
          exact ⟨by rw [HR.out]; rfl, HBX.out.trans (HBL5.out.mono (by omega))⟩
      by_cases c2 : 300 < x.size
      · have HR : Hid (r = 10) := by show _ = _; rw [hres, if_pos (.inr c2)]
        have t1 : ((lx : Int) == 0) = false := by simp; omega
        have t2 : decide ((300 : Int) < x.size) = true := by simp; omega
        clear hkk hres
        go_enter Try.func23, Try.ntmps23
        go_wp2_with fail
        go_quiet (fail)
        go_wp2_with fail
        go_loopw [5] (fun i wr => i = .int .i64 0 ∧ BoxJ (w.alloc (.cells (jCells 4 x ak 0 ck) 24)) w.heap.size 4 x ak 0 ck wr) (fun _ _ => 0)
        case atStart => exact ⟨rfl, HB0.out.keep (below_drewN _ _ _)⟩
        case round =>
          obtain ⟨rfl, hbj⟩ := hrel
          obtain ⟨hbl, f0, f1, f2, hsz⟩ := hbj
          have HBJ : Hid (BoxJ (w.alloc (.cells (jCells 4 x ak 0 ck) 24)) w.heap.size 4 x ak 0 ck wr) := Lib.hid ⟨hbl, f0, f1, f2, hsz⟩
          have HBL := Lib.hid hbl
          clear hbl
          go_wp2_with fail
          refine (CL _).out.mono ?_
          rintro e w5 ⟨rfl, hb5⟩
          obtain ⟨hbl2, g0, g1, g2, hsz5⟩ := HBJ.out.keep hb5
          have HBJ5 : Hid (BoxJ (w.alloc (.cells (jCells 4 x ak 0 ck) 24)) w.heap.size 4 x ak 0 ck w5) := Lib.hid ⟨hbl2, g0, g1, g2, hsz5⟩
          have HBL5 := Lib.hid hbl2
          clear hb5 hbl2
          go_wp2_with fail
          go_ret
          exact ⟨by rw [HR.out]; rfl, HBX.out.trans (HBL5.out.mono (by omega))⟩
      have HR : Hid (r = 0) := by show _ = _; rw [hres, if_neg (by rintro (h | h); exact c1 h; exact c2 h)]
      have t1 : ((lx : Int) == 0) = false := by simp; omega
      have t2 : decide ((300 : Int) < x.size) = false := by simp; omega
      clear hkk hres
      go_enter Try.func23, Try.ntmps23
      go_wp2_with fail
      go_quiet (fail)
      go_wp2_with fail
      go_loopw [5] (fun i wr => i = .int .i64 0 ∧ BoxJ (w.alloc (.cells (jCells 4 x ak 0 ck) 24)) w.heap.size 4 x ak 0 ck wr) (fun _ _ => 0)
      case atStart => exact ⟨rfl, HB0.out.keep (below_drewN _ _ _)⟩
      case round =>
        obtain ⟨rfl, hbj⟩ := hrel
        obtain ⟨hbl, f0, f1, f2, hsz⟩ := hbj
        have HBJ : Hid (BoxJ (w.alloc (.cells (jCells 4 x ak 0 ck) 24)) w.heap.size 4 x ak 0 ck wr) := Lib.hid ⟨hbl, f0, f1, f2, hsz⟩
        have HBL := Lib.hid hbl
        clear hbl
        go_wp2_with fail
        refine (CL _).out.mono ?_
        rintro e w5 ⟨rfl, hb5⟩
        obtain ⟨hbl2, g0, g1, g2, hsz5⟩ := HBJ.out.keep hb5
        have HBJ5 : Hid (BoxJ (w.alloc (.cells (jCells 4 x ak 0 ck) 24)) w.heap.size 4 x ak 0 ck w5) := Lib.hid ⟨hbl2, g0, g1, g2, hsz5⟩
        have HBL5 := Lib.hid hbl2
        clear hb5 hbl2
        go_wp2_with fail
        go_loopw [6] (fun i wx => i = .int .i64 0 ∧ BoxJ (w.alloc (.cells (jCells 4 x ak 0 ck) 24)) w.heap.size 4 x ak 0 ck wx) (fun _ _ => 0)
        case atStart => exact ⟨rfl, HBJ5.out⟩
        case round =>
          clear f0 f1 f2 hsz HBL HBJ g0 g1 g2 hsz5 HBL5 HBJ5
          obtain ⟨rfl, hbj⟩ := hrel
          obtain ⟨hbl, f0, f1, f2, hsz⟩ := hbj
          have HBL := Lib.hid hbl
          clear hbl
          go_wp2_with fail
          go_ret
          exact ⟨by rw [HR.out]; rfl, HBX.out.trans (HBL.out.mono (by omega))⟩
  · skip
    by_cases hn0 : 0 < nk
    · have HR : Hid (r = 1) := by
        show _ = _
        rw [hkk.out, if_pos (.inr (.inr (.inl ⟨by rw [HNL.out]; simp; omega, by omega, by omega⟩)))]
      clear hkk
      go_enter Try.func23, Try.ntmps23
      go_wp2_with fail
      go_quiet (fail)
      go_wp2_with fail
      go_ret
      exact ⟨by rw [HR.out]; rfl, HBX.out.trans (below_drewN _ _ _)⟩
    obtain rfl : nk = 0 := by omega
    have hm0 : m = .nil := by have := HML.out; cases m with
      | nil => rfl
      | cons => simp [M.len] at this
    subst hm0
    rcases Bool.eq_false_or_eq_true (x.toList.isEmpty) with he | he
    all_goals
      have CL := fun W => Lib.hid (rwhole_calls x (by omega) W)
      rw [HXT.out, hxl] at CL
      have hres : r = if wholeTo t = t.length then 0 else 4 := by
        rw [hkk.out]
        by_cases h : wholeTo t = t.length
        · simp [M.isNil, M.bare, checkM, wholeB, h]
        · simp [M.isNil, M.bare, checkM, wholeB, h]
      by_cases c1 : wholeTo t = t.length
      · have HR : Hid (r = 0) := by show _ = _; rw [hres, if_pos c1]
        rw [show (wholeTo t == t.length) = true by simpa using c1] at CL
        clear hkk hres
        go_enter Try.func23, Try.ntmps23
        go_wp2_with fail
        go_quiet (fail)
        go_wp2_with fail
        go_loopw [5] (fun i wr => i = .int .i64 0 ∧ BoxJ (w.alloc (.cells (jCells 5 x ak 0 ck) 24)) w.heap.size 5 x ak 0 ck wr) (fun _ _ => 0)
        case atStart => exact ⟨rfl, HB0.out.keep (below_drewN _ _ _)⟩
        case round =>
          obtain ⟨rfl, hbj⟩ := hrel
          obtain ⟨hbl, f0, f1, f2, hsz⟩ := hbj
          have HBJ : Hid (BoxJ (w.alloc (.cells (jCells 5 x ak 0 ck) 24)) w.heap.size 5 x ak 0 ck wr) := Lib.hid ⟨hbl, f0, f1, f2, hsz⟩
          have HBL := Lib.hid hbl
          clear hbl
          go_wp2_with fail
          refine (CL _).out.mono ?_
          rintro e w5 ⟨rfl, hb5⟩
          obtain ⟨hbl2, g0, g1, g2, hsz5⟩ := HBJ.out.keep hb5
          have HBJ5 : Hid (BoxJ (w.alloc (.cells (jCells 5 x ak 0 ck) 24)) w.heap.size 5 x ak 0 ck w5) := Lib.hid ⟨hbl2, g0, g1, g2, hsz5⟩
          have HBL5 := Lib.hid hbl2
          clear hb5 hbl2
          go_wp2_with fail
          go_loopw [6] (fun i wx => i = .int .i64 0 ∧ BoxJ (w.alloc (.cells (jCells 5 x ak 0 ck) 24)) w.heap.size 5 x ak 0 ck wx) (fun _ _ => 0)
          case atStart => exact ⟨rfl, HBJ5.out⟩
          case round =>
            clear f0 f1 f2 hsz HBL HBJ g0 g1 g2 hsz5 HBL5 HBJ5
            obtain ⟨rfl, hbj⟩ := hrel
            obtain ⟨hbl, f0, f1, f2, hsz⟩ := hbj
            have HBL := Lib.hid hbl
            clear hbl
            go_wp2_with fail
            go_ret
            exact ⟨by rw [HR.out]; rfl, HBX.out.trans (HBL.out.mono (by omega))⟩
      have HR : Hid (r = 4) := by show _ = _; rw [hres, if_neg c1]
      rw [show (wholeTo t == t.length) = false by simpa using c1] at CL
      clear hkk hres
      go_enter Try.func23, Try.ntmps23
      go_wp2_with fail
      go_quiet (fail)
      go_wp2_with fail
      go_loopw [5] (fun i wr => i = .int .i64 0 ∧ BoxJ (w.alloc (.cells (jCells 5 x ak 0 ck) 24)) w.heap.size 5 x ak 0 ck wr) (fun _ _ => 0)
      case atStart => exact ⟨rfl, HB0.out.keep (below_drewN _ _ _)⟩
      case round =>
        obtain ⟨rfl, hbj⟩ := hrel
        obtain ⟨hbl, f0, f1, f2, hsz⟩ := hbj
        have HBJ : Hid (BoxJ (w.alloc (.cells (jCells 5 x ak 0 ck) 24)) w.heap.size 5 x ak 0 ck wr) := Lib.hid ⟨hbl, f0, f1, f2, hsz⟩
        have HBL := Lib.hid hbl
        clear hbl
        go_wp2_with fail
        refine (CL _).out.mono ?_
        rintro e w5 ⟨rfl, hb5⟩
        obtain ⟨hbl2, g0, g1, g2, hsz5⟩ := HBJ.out.keep hb5
        have HBJ5 : Hid (BoxJ (w.alloc (.cells (jCells 5 x ak 0 ck) 24)) w.heap.size 5 x ak 0 ck w5) := Lib.hid ⟨hbl2, g0, g1, g2, hsz5⟩
        have HBL5 := Lib.hid hbl2
        clear hb5 hbl2
        go_wp2_with fail
        go_ret
        exact ⟨by rw [HR.out]; rfl, HBX.out.trans (HBL5.out.mono (by omega))⟩
  · skip
    by_cases ht : t = []
    case neg =>
      have HR : Hid (r = 1) := by
        show _ = _
        rw [hkk.out, if_pos (.inr (.inr (.inr ⟨ht, by omega, by omega⟩)))]
      have hx0 : x.toList.isEmpty = false := sl_ne (by rw [HXT.out]; exact ht)
      clear hkk
      go_enter Try.func23, Try.ntmps23
      go_wp2_with fail
      go_quiet (fail)
      go_wp2_with fail
      go_ret
      exact ⟨by rw [HR.out]; rfl, HBX.out.trans (below_drewN _ _ _)⟩
    subst ht
    obtain rfl := sl_nil HXT.out
    have hres : r = if m.bare = false then 1 else checkM m := by
      rw [hkk.out]
      by_cases h : m.bare = false
      · simp [h]
      · simp [h]
    have HRES := Lib.hid hres
    clear hkk hres
    go_enter Try.func23, Try.ntmps23
    go_wp2_with fail
    go_quiet (fail)
    go_wp2_with fail
    go_loopw [5] (fun i wr => ∃ j : Nat, i = .int .i64 j ∧ j ≤ nk ∧ Hid (m.bare = (m.drop j).bare) ∧ BoxJ (w.alloc (.cells (jCells 6 ⟨#[]⟩ ak nk ck) 24)) w.heap.size 6 ⟨#[]⟩ ak nk ck wr) (fun i _ => nk - (intOf i).toNat)
    case atStart => exact ⟨0, rfl, Nat.zero_le _, Lib.hid rfl, HB0.out.keep (below_drewN _ _ _)⟩
    case round =>
      obtain ⟨j, rfl, hjm, hrb, hbl, f0, f1, f2, hsz⟩ := hrel
      have HBJ : Hid (BoxJ (w.alloc (.cells (jCells 6 ⟨#[]⟩ ak nk ck) 24)) w.heap.size 6 ⟨#[]⟩ ak nk ck wr) := Lib.hid ⟨hbl, f0, f1, f2, hsz⟩
      have hBW := HBX.out.trans (hbl.mono (by omega))
      have HKW := Lib.hid (HKS.out.below hBW)
      have HBW := Lib.hid hBW
      clear hbl hBW
      by_cases hlt : j < nk
      · obtain ⟨⟨n, vv⟩, hx⟩ := M.get_some m j (by rw [HML.out]; exact hlt)
        obtain ⟨b0, o0, y, k', t', x', m', ak', nk', ck', rfl, rfl, e1, e2, e3, e4, e5, e6, e7, g0, g1, g2, g3⟩ := (HKW.out.at hx).cells
        have hj0 : (0 : Int) ≤ (j : Int) := by omega
        have hj1 : (j : Int) < (nk : Int) := by omega
        have hbg := bare_get m j n _ hx
        by_cases hn : n = []
        · have HNB : Hid (m.bare = (m.drop (j + 1)).bare) := by
            show _ = _
            rw [hrb.out, hbg, hn]
            simp
          obtain rfl := sl_nil (e1.trans hn)
          clear hx hbg e1 e3 e4 e7
          go_wp2_with fail
          go_roundw
          case rel => exact ⟨j + 1, by simp, by omega, HNB, HBJ.out⟩
          case measure => simp [intOf]; omega
        · have HR : Hid (r = 1) := by
            show _ = _
            rw [HRES.out, if_pos]
            rw [hrb.out, hbg]
            cases n with
            | nil => exact absurd rfl hn
            | cons => rfl
          have hy0 : y.toList.isEmpty = false := sl_ne (by rw [e1]; exact hn)
          clear hx hbg e1 e3 e4 e7
          go_wp2_with fail
          go_ret
          exact ⟨by rw [HR.out]; rfl, HBW.out⟩
      have hbare : m.bare = true := by
        rw [hrb.out, M.drop_len m j (by rw [HML.out]; omega)]
        rfl
      have HRM : Hid (r = checkM m) := by
        show _ = _
        rw [HRES.out, hbare]
        simp
      clear hrb hbare
      go_wp2_with fail
      go_loopw [6] (fun i wx => ∃ j : Nat, i = .int .i64 j ∧ j ≤ nk ∧ Hid (checkM m = checkM (m.drop j)) ∧ BoxJ (w.alloc (.cells (jCells 6 ⟨#[]⟩ ak nk ck) 24)) w.heap.size 6 ⟨#[]⟩ ak nk ck wx) (fun i _ => nk - (intOf i).toNat)
      case atStart => exact ⟨0, rfl, Nat.zero_le _, Lib.hid rfl, HBJ.out⟩
      case round =>
        clear f0 f1 f2 hsz HBJ
        obtain ⟨j, rfl, hjm, hcr, hbl, f0, f1, f2, hsz⟩ := hrel
        have HBJ : Hid (BoxJ (w.alloc (.cells (jCells 6 ⟨#[]⟩ ak nk ck) 24)) w.heap.size 6 ⟨#[]⟩ ak nk ck _) := Lib.hid ⟨hbl, f0, f1, f2, hsz⟩
        have hBW := HBX.out.trans (hbl.mono (by omega))
        have HKW := Lib.hid (HKS.out.below hBW)
        have HBW := Lib.hid hBW
        clear hbl hBW
        by_cases hlt : j < nk
        · obtain ⟨⟨n, vv⟩, hx⟩ := M.get_some m j (by rw [HML.out]; exact hlt)
          have hwg := wtM_get m j n vv hx
          have hcd := checkM_drop m j n vv hx
          obtain ⟨b0, o0, y, k', t', x', m', ak', nk', ck', rfl, rfl, e1, e2, e3, e4, e5, e6, e7, g0, g1, g2, g3⟩ := (HKW.out.at hx).cells
          have hyl : y.size = n.length := by rw [← e1, sl_len]
          have hj0 : (0 : Int) ≤ (j : Int) := by omega
          have hj1 : (j : Int) < (nk : Int) := by omega
          have CI := fun W => Lib.hid (rwhole_calls y (by omega) W)
          rw [e1, hyl] at CI
          have HC := Lib.hid (fun S W c => HOF.out _ (show wtJ (.mk k' t' m') ≤ d by omega) S W c)
          have E7 := Lib.hid e7
          have hwk : wtJ (.mk k' t' m') ≤ 100000 := by omega
          obtain ⟨q, hq⟩ : ∃ q, q = checkJ (.mk k' t' m') := ⟨_, rfl⟩
          rw [← hq] at HC hcd
          by_cases hw : wholeTo n = n.length
          case neg =>
            rw [show (wholeTo n == n.length) = false by simpa using hw] at CI
            have HR : Hid (r = 4) := by
              show _ = _
              rw [HRM.out, hcr.out, hcd, if_pos (by unfold wholeB; simpa using hw)]
            clear hx hwg hcd hw e1 e3 e4 e7 hq
            go_wp2_with fail
            refine (CI _).out.mono ?_
            rintro e w5 ⟨rfl, hb5⟩
            have HL := Lib.hid (HBJ.out.keep hb5)
            clear hb5
            go_wp2_with fail
            go_ret
            exact ⟨by rw [HR.out]; rfl, HBX.out.trans (HL.out.1.mono (by omega))⟩
          rw [show (wholeTo n == n.length) = true by simpa using hw] at CI
          rw [if_neg (by unfold wholeB; simp [hw])] at hcd
          by_cases hq0 : q = 0
          · subst hq0
            have HN : Hid (checkM m = checkM (m.drop (j + 1))) := by
              show _ = _
              rw [hcr.out, hcd]
              simp
            clear hx hwg hcd hw e1 e3 e4 e7 hq
            go_wp2_with fail
            refine (CI _).out.mono ?_
            rintro e w5 ⟨rfl, hb5⟩
            obtain ⟨_, u0, u1, u2, hsz5⟩ := HBJ.out.keep hb5
            have HL := Lib.hid (HBJ.out.keep hb5)
            have v0 := cell_below hb5 g0
            have v1 := cell_below hb5 g1
            have v2 := cell_below hb5 g2
            have v3 := cell_below hb5 g3
            have HK5 := Lib.hid hb5
            clear hb5 g0 g1 g2 g3 f0 f1 f2
            go_wp2_with fail
            refine (HC.out _ _ _ (E7.out.below HK5.out) hwk).mono ?_
            rintro e w6 ⟨rfl, hb6⟩
            have HL6 := Lib.hid (HL.out.keep hb6)
            clear hb6
            go_wp2_with fail
            go_roundw
            case rel => exact ⟨j + 1, by simp, by omega, HN, HL6.out⟩
            case measure => simp [intOf]; omega
          · have HR : Hid (r = q) := by
              show _ = _
              rw [HRM.out, hcr.out, hcd, if_pos hq0]
            have hq1 : ((q : Int) == 0) = false := by simp; omega
            have hq2 : ((q : Int) != 0) = true := by simp; omega
            clear hx hwg hcd hw e1 e3 e4 e7 hq
            go_wp2_with fail
            refine (CI _).out.mono ?_
            rintro e w5 ⟨rfl, hb5⟩
            obtain ⟨_, u0, u1, u2, hsz5⟩ := HBJ.out.keep hb5
            have HL := Lib.hid (HBJ.out.keep hb5)
            have v0 := cell_below hb5 g0
            have v1 := cell_below hb5 g1
            have v2 := cell_below hb5 g2
            have v3 := cell_below hb5 g3
            have HK5 := Lib.hid hb5
            clear hb5 g0 g1 g2 g3 f0 f1 f2
            go_wp2_with fail
            refine (HC.out _ _ _ (E7.out.below HK5.out) hwk).mono ?_
            rintro e w6 ⟨rfl, hb6⟩
            have HL6 := Lib.hid (HL.out.keep hb6)
            clear hb6
            go_wp2_with fail
            go_ret
            exact ⟨by rw [HR.out]; rfl, HBX.out.trans (HL6.out.1.mono (by omega))⟩
        · have HR : Hid (r = 0) := by
            show _ = _
            rw [HRM.out, hcr.out, M.drop_len m j (by rw [HML.out]; omega)]
            rfl
          go_wp2_with fail
          go_ret
          exact ⟨by rw [HR.out]; rfl, HBW.out⟩
  · skip
    by_cases ht : t = []
    case neg =>
      have HR : Hid (r = 1) := by
        show _ = _
        rw [hkk.out, if_pos (.inr (.inr (.inr ⟨ht, by omega, by omega⟩)))]
      have hx0 : x.toList.isEmpty = false := sl_ne (by rw [HXT.out]; exact ht)
      clear hkk
      go_enter Try.func23, Try.ntmps23
      go_wp2_with fail
      go_quiet (fail)
      go_wp2_with fail
      go_ret
      exact ⟨by rw [HR.out]; rfl, HBX.out.trans (below_drewN _ _ _)⟩
    subst ht
    obtain rfl := sl_nil HXT.out
    have HRES : Hid (r = checkM m) := by
      show _ = _
      rw [hkk.out]
      simp
    clear hkk
    go_enter Try.func23, Try.ntmps23
    go_wp2_with fail
    go_quiet (fail)
    go_wp2_with fail
    go_loopw [5] (fun i wr => i = .int .i64 0 ∧ BoxJ (w.alloc (.cells (jCells 7 ⟨#[]⟩ ak nk ck) 24)) w.heap.size 7 ⟨#[]⟩ ak nk ck wr) (fun _ _ => 0)
    case atStart => exact ⟨rfl, HB0.out.keep (below_drewN _ _ _)⟩
    case round =>
      obtain ⟨rfl, hbl, f0, f1, f2, hsz⟩ := hrel
      have HBJ : Hid (BoxJ (w.alloc (.cells (jCells 7 ⟨#[]⟩ ak nk ck) 24)) w.heap.size 7 ⟨#[]⟩ ak nk ck wr) := Lib.hid ⟨hbl, f0, f1, f2, hsz⟩
      have HRM := HRES
      clear hbl
      rcases Nat.eq_zero_or_pos nk with h0 | hz7
      · subst h0
        have hm0 : m = .nil := by have := HML.out; cases m with
          | nil => rfl
          | cons => simp [M.len] at this
        subst hm0
        have HR : Hid (r = 0) := HRM.out
        go_wp2_with fail
        go_loopw [6] (fun i wx => i = .int .i64 0 ∧ BoxJ (w.alloc (.cells (jCells 7 ⟨#[]⟩ ak 0 ck) 24)) w.heap.size 7 ⟨#[]⟩ ak 0 ck wx) (fun _ _ => 0)
        case atStart => exact ⟨rfl, HBJ.out⟩
        case round =>
          clear f0 f1 f2 hsz HBJ
          obtain ⟨rfl, hbj⟩ := hrel
          obtain ⟨hbl, f0, f1, f2, hsz⟩ := hbj
          have HBL := Lib.hid hbl
          clear hbl
          go_wp2_with fail
          go_ret
          exact ⟨by rw [HR.out]; rfl, HBX.out.trans (HBL.out.mono (by omega))⟩
      go_wp2_with fail
      go_loopw [6] (fun i wx => ∃ j : Nat, i = .int .i64 j ∧ j ≤ nk ∧ Hid (checkM m = checkM (m.drop j)) ∧ BoxJ (w.alloc (.cells (jCells 7 ⟨#[]⟩ ak nk ck) 24)) w.heap.size 7 ⟨#[]⟩ ak nk ck wx) (fun i _ => nk - (intOf i).toNat)
      case atStart => exact ⟨0, rfl, Nat.zero_le _, Lib.hid rfl, HBJ.out⟩
      case round =>
        clear f0 f1 f2 hsz HBJ
        obtain ⟨j, rfl, hjm, hcr, hbl, f0, f1, f2, hsz⟩ := hrel
        have HBJ : Hid (BoxJ (w.alloc (.cells (jCells 7 ⟨#[]⟩ ak nk ck) 24)) w.heap.size 7 ⟨#[]⟩ ak nk ck _) := Lib.hid ⟨hbl, f0, f1, f2, hsz⟩
        have hBW := HBX.out.trans (hbl.mono (by omega))
        have HKW := Lib.hid (HKS.out.below hBW)
        have HBW := Lib.hid hBW
        clear hbl hBW
        by_cases hlt : j < nk
        · obtain ⟨⟨n, vv⟩, hx⟩ := M.get_some m j (by rw [HML.out]; exact hlt)
          have hwg := wtM_get m j n vv hx
          have hcd := checkM_drop m j n vv hx
          obtain ⟨b0, o0, y, k', t', x', m', ak', nk', ck', rfl, rfl, e1, e2, e3, e4, e5, e6, e7, g0, g1, g2, g3⟩ := (HKW.out.at hx).cells
          have hyl : y.size = n.length := by rw [← e1, sl_len]
          have hj0 : (0 : Int) ≤ (j : Int) := by omega
          have hj1 : (j : Int) < (nk : Int) := by omega
          have CI := fun W => Lib.hid (rwhole_calls y (by omega) W)
          rw [e1, hyl] at CI
          have HC := Lib.hid (fun S W c => HOF.out _ (show wtJ (.mk k' t' m') ≤ d by omega) S W c)
          have E7 := Lib.hid e7
          have hwk : wtJ (.mk k' t' m') ≤ 100000 := by omega
          obtain ⟨q, hq⟩ : ∃ q, q = checkJ (.mk k' t' m') := ⟨_, rfl⟩
          rw [← hq] at HC hcd
          by_cases hw : wholeTo n = n.length
          case neg =>
            rw [show (wholeTo n == n.length) = false by simpa using hw] at CI
            have HR : Hid (r = 4) := by
              show _ = _
              rw [HRM.out, hcr.out, hcd, if_pos (by unfold wholeB; simpa using hw)]
            clear hx hwg hcd hw e1 e3 e4 e7 hq
            go_wp2_with fail
            refine (CI _).out.mono ?_
            rintro e w5 ⟨rfl, hb5⟩
            have HL := Lib.hid (HBJ.out.keep hb5)
            clear hb5
            go_wp2_with fail
            go_ret
            exact ⟨by rw [HR.out]; rfl, HBX.out.trans (HL.out.1.mono (by omega))⟩
          rw [show (wholeTo n == n.length) = true by simpa using hw] at CI
          rw [if_neg (by unfold wholeB; simp [hw])] at hcd
          by_cases hq0 : q = 0
          · subst hq0
            have HN : Hid (checkM m = checkM (m.drop (j + 1))) := by
              show _ = _
              rw [hcr.out, hcd]
              simp
            clear hx hwg hcd hw e1 e3 e4 e7 hq
            go_wp2_with fail
            refine (CI _).out.mono ?_
            rintro e w5 ⟨rfl, hb5⟩
            obtain ⟨_, u0, u1, u2, hsz5⟩ := HBJ.out.keep hb5
            have HL := Lib.hid (HBJ.out.keep hb5)
            have v0 := cell_below hb5 g0
            have v1 := cell_below hb5 g1
            have v2 := cell_below hb5 g2
            have v3 := cell_below hb5 g3
            have HK5 := Lib.hid hb5
            clear hb5 g0 g1 g2 g3 f0 f1 f2
            go_wp2_with fail
            refine (HC.out _ _ _ (E7.out.below HK5.out) hwk).mono ?_
            rintro e w6 ⟨rfl, hb6⟩
            have HL6 := Lib.hid (HL.out.keep hb6)
            clear hb6
            go_wp2_with fail
            go_roundw
            case rel => exact ⟨j + 1, by simp, by omega, HN, HL6.out⟩
            case measure => simp [intOf]; omega
          · have HR : Hid (r = q) := by
              show _ = _
              rw [HRM.out, hcr.out, hcd, if_pos hq0]
            have hq1 : ((q : Int) == 0) = false := by simp; omega
            have hq2 : ((q : Int) != 0) = true := by simp; omega
            clear hx hwg hcd hw e1 e3 e4 e7 hq
            go_wp2_with fail
            refine (CI _).out.mono ?_
            rintro e w5 ⟨rfl, hb5⟩
            obtain ⟨_, u0, u1, u2, hsz5⟩ := HBJ.out.keep hb5
            have HL := Lib.hid (HBJ.out.keep hb5)
            have v0 := cell_below hb5 g0
            have v1 := cell_below hb5 g1
            have v2 := cell_below hb5 g2
            have v3 := cell_below hb5 g3
            have HK5 := Lib.hid hb5
            clear hb5 g0 g1 g2 g3 f0 f1 f2
            go_wp2_with fail
            refine (HC.out _ _ _ (E7.out.below HK5.out) hwk).mono ?_
            rintro e w6 ⟨rfl, hb6⟩
            have HL6 := Lib.hid (HL.out.keep hb6)
            clear hb6
            go_wp2_with fail
            go_ret
            exact ⟨by rw [HR.out]; rfl, HBX.out.trans (HL6.out.1.mono (by omega))⟩
        · have HR : Hid (r = 0) := by
            show _ = _
            rw [HRM.out, hcr.out, M.drop_len m j (by rw [HML.out]; omega)]
            rfl
          go_wp2_with fail
          go_ret
          exact ⟨by rw [HR.out]; rfl, HBW.out⟩

theorem rchk_all : ∀ d, ChkSaid 23 d
  | 0 => fun j hj => by cases j; simp [wtJ] at hj
  | d + 1 => rchk_step d (rchk_all d)

end Go.Proofs.Ytamhdoijmkjngaa

namespace Go.Proofs.Ytamhdoijmkjngaa
open Go.RowKit
set_option linter.unusedVariables false
set_option linter.unusedSimpArgs false

def PrtSaid (d : Nat) : Prop := ∀ (j : J), wtJ j ≤ d → checkJ j = 0 → wtJ j ≤ 80000 → ∀ (S : Nat → Prop) (w : World) (c : Array Value), RdJ S w j c →
  Calls Try.prog 40 #[.agg c] w fun e w' => (∃ v, e = .returned v ∧ SrcB w' v (printJ j)) ∧ Below w.heap.size w w'

theorem cell_mk {w : World} {C : Array Value} {t : TypeId} {mk : Nat × Nat} {n i : Nat} {v : Value} (hn : n = w.heap.size) (hv : C[i]? = some v) : (w.alloc (.cells C t mk)).cell? ⟨n, i, none⟩ = some v := by
  subst hn
  rw [cell_of_row _ w.heap.size i _ _ _ (heap_alloc_new w _)]
  exact hv

theorem SrcB.below {w w' : World} {v : Value} {l : List UInt8} (h : SrcB w v l) (hb : Below w.heap.size w w') : SrcB w' v l := by
  obtain ⟨a, m, c, rfl, hr, hc⟩ := h
  exact ⟨a, m, c, rfl, hr.keep hb, hc⟩

def PrRel (w1 : World) (g : Nat) (obj : Bool) (m : M) (u i : Value) (wr : World) : Prop :=
  ∃ (j : Nat) (cur : List UInt8), i = .int .i64 j ∧ j ≤ m.len ∧ Hid (printM obj true m = cur ++ printM obj (decide (j = 0)) (m.drop j)) ∧ OwnB wr (g + 1) u cur ∧ Below (g + 1) w1 wr ∧ cur.length + 8 * wtM (m.drop j) ≤ 640000

theorem pr_rel {w1 w' : World} {g : Nat} {obj : Bool} {m : M} {u' i : Value} {j : Nat} {cur : List UInt8} {n : List UInt8} {vv : J} (hx : m.get? j = some (n, vv)) (hall : printM obj true m = cur ++ printM obj (decide (j = 0)) (m.drop j))
    (ho : OwnB w' (g + 1) u' (cur ++ ((if decide (j = 0) then [] else [44]) ++ (named obj n ++ printJ vv)))) (hb : Below (g + 1) w1 w') (hj : j < m.len) (hi : i = .int .i64 ((j : Int) + 1)) (hw : cur.length + 8 * wtM (m.drop j) ≤ 640000) : PrRel w1 g obj m u' i w' := by
  refine ⟨j + 1, _, by rw [hi]; simp, hj, ?_, ho, hb, ?_⟩
  · show _ = _
    rw [hall, M.drop_get m j n vv hx, printM]
    simp
  · have g1 := (wtM_get m j n vv hx).1
    have g2 := print_wt vv
    have g3 := quoteL_len n
    have g4 := quoteM_len n
    have g5 : (named obj n).length ≤ 6 * n.length + 3 := by
      unfold named
      cases obj
      · simp
      · simp only [if_true, List.length_append, List.length_cons, List.length_nil]; omega
    have g6 : (if decide (j = 0) then ([] : List UInt8) else [44]).length ≤ 1 := by cases decide (j = 0) <;> simp
    simp only [List.length_append]
    omega

set_option maxRecDepth 100000 in
set_option maxHeartbeats 16000000 in
theorem prt_step (d : Nat) (hof : PrtSaid d) : PrtSaid (d + 1) := by
  intro j hj hck hw8 S w c h
  obtain ⟨k, t, m⟩ := j
  obtain ⟨x, ak, nk, ck, rfl, hxt, hxs, hkb, hml, hnk, hks⟩ := h
  obtain ⟨hk7, _, _, _, _, hw5, hcm⟩ := checkJ_parts hck
  have hwt : wtJ (.mk k t m) = 2 + t.length + wtM m := rfl
  rw [hwt] at hj hw8
  have hxl : x.size = t.length := by rw [← hxt, sl_len]
  have hml2 := wtM_len m
  rw [hml] at hml2
  have HOF := Lib.hid hof
  have HKS := Lib.hid (hks.imp (S' := fun k => k < w.heap.size) (fun k h _ => h))
  have HXT := Lib.hid hxt
  have HML := Lib.hid hml
  have HCM := Lib.hid hcm
  have hnk9 := hnk.1
  clear hof hks hml hnk hck hwt
  have hbox : Below w.heap.size w (w.alloc (.cells (jCells k x ak nk ck) 24)) := (Below.refl _ _).alloc (Nat.le_refl _) _
  have HBX := Lib.hid hbox
  clear hbox
  have hk : k = 1 ∨ k = 2 ∨ k = 3 ∨ k = 4 ∨ k = 5 ∨ k = 6 ∨ k = 7 := by omega
  clear hkb hk7
  rcases hk with rfl | rfl | rfl | rfl | rfl | rfl | rfl
  · have HP : printJ (.mk 1 t m) = [110, 117, 108, 108] := by rw [printJ]; rfl
    rw [HP]
    have kc1 := Lib.run_convert_bytes_const (P := Try.prog) (w.alloc (.cells (jCells 1 x ak nk ck) 24)) 47 5 #[.int .u8 110, .int .u8 117, .int .u8 108, .int .u8 108] 4 4 Try.underlying47 Try.underlying5
    have hsa : (w.alloc (.cells (jCells 1 x ak nk ck) 24)).heap.size = w.heap.size + 1 := by simp
    rw [hsa] at kc1
    clear hsa
    go_enter Try.func40, Try.ntmps40
    go_wp2_with fail
    go_ret
    refine ⟨⟨_, rfl, _, 4, 4, rfl, ⟨rfl, by omega, fun i hi => ⟨_, 0, rfl, ?_⟩⟩, by simp⟩, HBX.out.alloc (by simp) _⟩
    match i, hi with
    | 0, _ => exact cell_mk (by simp) rfl
    | 1, _ => exact cell_mk (by simp) rfl
    | 2, _ => exact cell_mk (by simp) rfl
    | 3, _ => exact cell_mk (by simp) rfl
  · have HP : printJ (.mk 2 t m) = [102, 97, 108, 115, 101] := by rw [printJ]; rfl
    rw [HP]
    have kc1 := Lib.run_convert_bytes_const (P := Try.prog) (w.alloc (.cells (jCells 2 x ak nk ck) 24)) 47 5 #[.int .u8 102, .int .u8 97, .int .u8 108, .int .u8 115, .int .u8 101] 5 5 Try.underlying47 Try.underlying5
    have hsa : (w.alloc (.cells (jCells 2 x ak nk ck) 24)).heap.size = w.heap.size + 1 := by simp
    rw [hsa] at kc1
    clear hsa
    go_enter Try.func40, Try.ntmps40
    go_wp2_with fail
    go_ret
    refine ⟨⟨_, rfl, _, 5, 5, rfl, ⟨rfl, by omega, fun i hi => ⟨_, 0, rfl, ?_⟩⟩, by simp⟩, HBX.out.alloc (by simp) _⟩
    match i, hi with
    | 0, _ => exact cell_mk (by simp) rfl
    | 1, _ => exact cell_mk (by simp) rfl
    | 2, _ => exact cell_mk (by simp) rfl
    | 3, _ => exact cell_mk (by simp) rfl
    | 4, _ => exact cell_mk (by simp) rfl
  · have HP : printJ (.mk 3 t m) = [116, 114, 117, 101] := by rw [printJ]; rfl
    rw [HP]
    have kc1 := Lib.run_convert_bytes_const (P := Try.prog) (w.alloc (.cells (jCells 3 x ak nk ck) 24)) 47 5 #[.int .u8 116, .int .u8 114, .int .u8 117, .int .u8 101] 4 4 Try.underlying47 Try.underlying5
    have hsa : (w.alloc (.cells (jCells 3 x ak nk ck) 24)).heap.size = w.heap.size + 1 := by simp
    rw [hsa] at kc1
    clear hsa
    go_enter Try.func40, Try.ntmps40
    go_wp2_with fail
    go_ret
    refine ⟨⟨_, rfl, _, 4, 4, rfl, ⟨rfl, by omega, fun i hi => ⟨_, 0, rfl, ?_⟩⟩, by simp⟩, HBX.out.alloc (by simp) _⟩
    match i, hi with
    | 0, _ => exact cell_mk (by simp) rfl
    | 1, _ => exact cell_mk (by simp) rfl
    | 2, _ => exact cell_mk (by simp) rfl
    | 3, _ => exact cell_mk (by simp) rfl
  · have HP : printJ (.mk 4 t m) = t := by rw [printJ]; rfl
    rw [HP]
    obtain ⟨cap3, w3, hrun, hb3, hs3, hr3, hz1, hz2⟩ := conv_bytes (w.alloc (.cells (jCells 4 x ak nk ck) 24)) x (by omega)
    rw [hxt] at hr3
    have HR3 := Lib.hid hr3
    have HB3 := Lib.hid (HBX.out.trans (hb3.mono (by simp)))
    clear hr3 hb3 hz2 hxt
    go_enter Try.func40, Try.ntmps40
    go_wp2_with fail
    go_ret
    exact ⟨⟨_, rfl, _, _, _, rfl, by simpa [hxl] using HR3.out, by simp⟩, HB3.out⟩
  · have HP : printJ (.mk 5 t m) = quoteL t := by rw [printJ]; rfl
    rw [HP]
    have hwh := hw5 rfl
    have CQ := fun W => Lib.hid ((rquote_calls x (by omega) W).mono (by rintro e w' ⟨h1, _, h3⟩; exact (show e = .returned (.tuple #[.string (txt (quoteL t)), .bool true]) ∧ Below _ _ w' from ⟨by rw [h1 (by rw [hxt, hxl]; exact hwh), hxt], h3⟩)))
    clear hwh hw5 hxt
    go_enter Try.func40, Try.ntmps40
    go_wp2_with fail
    refine (CQ _).out.mono ?_
    rintro e w2 ⟨rfl, hb2⟩
    have hql := quoteL_len t
    have hqm := quoteM_len t
    obtain ⟨cap3, w3, hrun, hb3, hs3, hr3, hz1, hz2⟩ := conv_bytes w2 (txt (quoteL t)) (by rw [← sl_len, sl_txt]; omega)
    rw [sl_txt] at hr3
    have HR3 := Lib.hid hr3
    have HB2 := Lib.hid (HBX.out.trans (hb2.mono (by simp)))
    have HB3 := Lib.hid (HB2.out.trans (hb3.mono HB2.out.size))
    clear hr3 hb2 hb3 hz2
    go_wp2_with fail
    go_ret
    exact ⟨⟨_, rfl, _, _, _, rfl, HR3.out, by simp⟩, HB3.out⟩
  · have HP : printJ (.mk 6 t m) = 91 :: (printM false true m ++ [93]) := by rw [printJ]; rfl
    rw [HP]
    go_enter Try.func40, Try.ntmps40
    go_wp2_with fail
    go_loopw [3, 6] (fun u i wr => PrRel (w.alloc (.cells (jCells 6 x ak nk ck) 24)) w.heap.size false m u i wr) (fun _ i _ => nk - (intOf i).toNat)
    case atStart => exact ⟨0, [], rfl, Nat.zero_le _, Lib.hid rfl, World.ownsRow_nil _ _ _ _, Below.refl _ _, by simp [M.drop]; omega⟩
    case round =>
      obtain ⟨j, cur, rfl, hjm, hall, hou, hbl, hcw⟩ := hrel
      have f0 : wr.cell? ⟨w.heap.size, 0, none⟩ = some (.int .i64 6) := below_cellB hbl (by simp [go_sem]) (by simp)
      have f2 : wr.cell? ⟨w.heap.size, 2, none⟩ = some (.slice ak nk ck) := below_cellB hbl (by simp [go_sem]) (by simp)
      have hsz : w.heap.size + 1 ≤ wr.heap.size := by have := hbl.size; simpa using this
      have hBW := HBX.out.trans (hbl.mono (by omega))
      have HBW := Lib.hid hBW
      have HBL := Lib.hid hbl
      have HOU := Lib.hid hou
      rw [HML.out] at hjm
      clear hou hbl hBW
      by_cases hlt : j < nk
      · obtain ⟨⟨n, vv⟩, hx⟩ := M.get_some m j (by rw [HML.out]; exact hlt)
        have hwg := wtM_get m j n vv hx
        have hcg := checkM_get m j n vv HCM.out hx
        obtain ⟨b0, o0, y, k', t', x', m', ak', nk', ck', rfl, rfl, e1, e2, e3, e4, e5, e6, e7, g0w, g1w, g2w, g3w⟩ := (HKS.out.at hx).cells
        have E7 := Lib.hid e7
        have HX := Lib.hid hx
        have hyl : y.size = n.length := by rw [← e1, sl_len]
        have hwy : wholeTo (sl y) = y.size := by rw [e1, hcg.1, hyl]
        have HC := Lib.hid (fun S W c => HOF.out _ (show wtJ (.mk k' t' m') ≤ d by omega) hcg.2 (show wtJ (.mk k' t' m') ≤ 80000 by omega) S W c)
        have HE1 := Lib.hid e1
        have hpw := print_wt (.mk k' t' m')
        have hcl2 : cur.length + 8 * (n.length + wtJ (.mk k' t' m')) ≤ 640000 := by omega
        have hj0 : (0 : Int) ≤ (j : Int) := by omega
        have hj1 : (j : Int) < (nk : Int) := by omega
        have hys : y.size ≤ 100000 := by omega
        have CQ := fun W => Lib.hid ((rquote_calls y (by omega) W).mono (by rintro e w' ⟨h1, _, h3⟩; exact (show e = .returned (.tuple #[.string (txt (quoteL (sl y))), .bool true]) ∧ Below _ _ w' from ⟨h1 hwy, h3⟩)))
        have hql : (quoteL (sl y)).length ≤ 6 * n.length + 2 := by
          have h1 := quoteL_len (sl y)
          have h2 := quoteM_len (sl y)
          rw [sl_len, hyl] at h2
          omega
        clear hwg hcg e1 e3 e4 e5 e7 hx hwy
        obtain ⟨P, hP⟩ : ∃ P, P = printJ (.mk k' t' m') := ⟨_, rfl⟩
        rw [← hP] at HC hpw
        have HPP := Lib.hid hP
        clear hP
        by_cases hjz : j = 0

        · subst hjz
          simp only [Nat.zero_mul, Nat.add_zero] at g0w g1w g2w g3w
          have HWL := Lib.hid (HBX.out.trans (HBL.out.mono (by omega)))
          have f0L : wr.cell? ⟨w.heap.size, 0, none⟩ = some (.int .i64 6) := below_cellB HBL.out (by simp [go_sem]) (by simp)
          have f2L : wr.cell? ⟨w.heap.size, 2, none⟩ = some (.slice (some ⟨b0, o0, none⟩) nk ck) := below_cellB HBL.out (by simp [go_sem]) (by simp)
          have hzL : w.heap.size + 1 ≤ wr.heap.size := by have := HBL.out.size; simpa using this
          have g0L := cell_below HWL.out g0w
          have g1L := cell_below HWL.out g1w
          have g2L := cell_below HWL.out g2w
          have g3L := cell_below HWL.out g3w
          have lbL : b0 < wr.heap.size := by omega
          have lwL : w.heap.size < wr.heap.size := by omega
          have HOL := HOU
          go_wp2_with fail
          refine (HC.out _ _ _ (E7.out.below HWL.out)).mono ?_
          rintro e wP ⟨⟨sv, rfl, hsv⟩, hbP⟩
          have HBP := Lib.hid (HBL.out.trans (hbP.mono hzL))
          have HOP := Lib.hid (HOL.out.keep hbP)
          have HSV := Lib.hid hsv
          clear hbP hsv
          have HWP := Lib.hid (HBX.out.trans (HBP.out.mono (by omega)))
          have f0P : wP.cell? ⟨w.heap.size, 0, none⟩ = some (.int .i64 6) := below_cellB HBP.out (by simp [go_sem]) (by simp)
          have f2P : wP.cell? ⟨w.heap.size, 2, none⟩ = some (.slice (some ⟨b0, o0, none⟩) nk ck) := below_cellB HBP.out (by simp [go_sem]) (by simp)
          have hzP : w.heap.size + 1 ≤ wP.heap.size := by have := HBP.out.size; simpa using this
          have g0P := cell_below HWP.out g0w
          have g1P := cell_below HWP.out g1w
          have g2P := cell_below HWP.out g2w
          have g3P := cell_below HWP.out g3w
          have lbP : b0 < wP.heap.size := by omega
          have lwP : w.heap.size < wP.heap.size := by omega
          go_wp2_with (at_builtin; refine wpList_appL (v := u3) (bs := _) (sv := sv) (l := P) (B := w.heap.size + 1) (by rfl) _ _ (by rfl) (by rfl) HOP.out (by rfl) HSV.out ?o3 ?o4 ?_)
          case o3 => first | omega | (simp; done) | (simp; omega)
          case o4 => first | omega | (simp; done) | (simp; omega)
          intro uZ wZ ho hl
          have HBZ := Lib.hid (hl.below HBP.out (by omega) (fun k hk => (owns_lt HOP.out k hk).1))
          have HOZ := Lib.hid ho
          clear ho hl
          go_wp2_with fail
          go_roundw
          case rel =>
            refine pr_rel HX.out hall.out ?_ HBZ.out (by rw [HML.out]; exact hlt) (by simp) hcw
            have e := HOZ.out
            rw [HPP.out] at e
            simpa [named, HE1.out] using e
          case measure => simp [intOf]; omega
        · have djz : decide ((0 : Int) < (j : Int)) = true := by simp; omega
          have HWL := Lib.hid (HBX.out.trans (HBL.out.mono (by omega)))
          have f0L : wr.cell? ⟨w.heap.size, 0, none⟩ = some (.int .i64 6) := below_cellB HBL.out (by simp [go_sem]) (by simp)
          have f2L : wr.cell? ⟨w.heap.size, 2, none⟩ = some (.slice (some ⟨b0, o0, none⟩) nk ck) := below_cellB HBL.out (by simp [go_sem]) (by simp)
          have hzL : w.heap.size + 1 ≤ wr.heap.size := by have := HBL.out.size; simpa using this
          have g0L := cell_below HWL.out g0w
          have g1L := cell_below HWL.out g1w
          have g2L := cell_below HWL.out g2w
          have g3L := cell_below HWL.out g3w
          have lbL : b0 < wr.heap.size := by omega
          have lwL : w.heap.size < wr.heap.size := by omega
          have HOL := HOU
          go_wp2_with (at_builtin; refine wpList_appL (v := u3) (bs := _) (sv := .slice (some ⟨wr.heap.size, 0, none⟩) 1 1) (l := [44]) (B := w.heap.size + 1) (by rfl) _ _ (by rfl) (by rfl) (HOL.out.alloc _) (by rfl) (by have := srcB_one wr 44 (by omega); simpa using this) ?o3 ?o4 ?_)
          case o3 => first | omega | (simp; done) | (simp; omega)
          case o4 => first | omega | (simp; done) | (simp; omega)
          intro uA wA ho hl
          have HBA := Lib.hid ((((LayF.fresh ((Below.refl _ _).alloc (Nat.le_refl _) _) u3).trans hl)).below HBL.out (by omega) (fun k hk => (owns_lt HOL.out k hk).1))
          have HOA := Lib.hid ho
          clear ho hl
          have HWA := Lib.hid (HBX.out.trans (HBA.out.mono (by omega)))
          have f0A : wA.cell? ⟨w.heap.size, 0, none⟩ = some (.int .i64 6) := below_cellB HBA.out (by simp [go_sem]) (by simp)
          have f2A : wA.cell? ⟨w.heap.size, 2, none⟩ = some (.slice (some ⟨b0, o0, none⟩) nk ck) := below_cellB HBA.out (by simp [go_sem]) (by simp)
          have hzA : w.heap.size + 1 ≤ wA.heap.size := by have := HBA.out.size; simpa using this
          have g0A := cell_below HWA.out g0w
          have g1A := cell_below HWA.out g1w
          have g2A := cell_below HWA.out g2w
          have g3A := cell_below HWA.out g3w
          have lbA : b0 < wA.heap.size := by omega
          have lwA : w.heap.size < wA.heap.size := by omega
          go_wp2_with fail
          refine (HC.out _ _ _ (E7.out.below HWA.out)).mono ?_
          rintro e wP ⟨⟨sv, rfl, hsv⟩, hbP⟩
          have HBP := Lib.hid (HBA.out.trans (hbP.mono hzA))
          have HOP := Lib.hid (HOA.out.keep hbP)
          have HSV := Lib.hid hsv
          clear hbP hsv
          have HWP := Lib.hid (HBX.out.trans (HBP.out.mono (by omega)))
          have f0P : wP.cell? ⟨w.heap.size, 0, none⟩ = some (.int .i64 6) := below_cellB HBP.out (by simp [go_sem]) (by simp)
          have f2P : wP.cell? ⟨w.heap.size, 2, none⟩ = some (.slice (some ⟨b0, o0, none⟩) nk ck) := below_cellB HBP.out (by simp [go_sem]) (by simp)
          have hzP : w.heap.size + 1 ≤ wP.heap.size := by have := HBP.out.size; simpa using this
          have g0P := cell_below HWP.out g0w
          have g1P := cell_below HWP.out g1w
          have g2P := cell_below HWP.out g2w
          have g3P := cell_below HWP.out g3w
          have lbP : b0 < wP.heap.size := by omega
          have lwP : w.heap.size < wP.heap.size := by omega
          go_wp2_with (at_builtin; refine wpList_appL (v := uA) (bs := _) (sv := sv) (l := P) (B := w.heap.size + 1) (by rfl) _ _ (by rfl) (by rfl) HOP.out (by rfl) HSV.out ?o3 ?o4 ?_)
          case o3 => first | omega | (simp; done) | (simp; omega)
          case o4 => first | omega | (simp; done) | (simp; omega)
          intro uZ wZ ho hl
          have HBZ := Lib.hid (hl.below HBP.out (by omega) (fun k hk => (owns_lt HOP.out k hk).1))
          have HOZ := Lib.hid ho
          clear ho hl
          go_wp2_with fail
          go_roundw
          case rel =>
            refine pr_rel HX.out hall.out ?_ HBZ.out (by rw [HML.out]; exact hlt) (by simp) hcw
            have e := HOZ.out
            rw [HPP.out] at e
            simpa [named, HE1.out, hjz] using e
          case measure => simp [intOf]; omega
      · have HD : Hid (printM false true m = cur) := by
          show _ = _
          rw [hall.out, M.drop_len m j (by rw [HML.out]; omega)]
          simp [printM]
        have hcl : cur.length ≤ 640000 := by omega
        have hs0 := HOU.out.srcB
        have HS0 := Lib.hid (hs0.below ((Below.refl _ _).alloc (Nat.le_refl _) (.cells #[.int .u8 91] 5)))
        clear hs0
        go_wp2_with (at_builtin; refine wpList_appL (v := .slice (some ⟨wr.heap.size, 0, none⟩) 1 1) (bs := _) (sv := u3) (l := cur) (B := w.heap.size + 1) (by rfl) _ _ (by rfl) (by rfl) (by have := own_fresh wr (w.heap.size + 1) 91 (by omega) hsz; simpa using this) (by rfl) HS0.out ?o3 ?o4 ?_)
        case o3 => first | omega | (simp; done) | (simp; omega)
        case o4 => first | omega | (simp; done) | (simp; omega)
        intro uA wA ho hl
        have HBA := Lib.hid (hl.below (HBL.out.alloc hsz (.cells #[.int .u8 91] 5)) (by simp; omega) (fun k hk => by simp [Value.ownBlock] at hk; omega))
        have HOA := Lib.hid ho
        have hzA : w.heap.size + 1 ≤ wA.heap.size := by have := HBA.out.size; simpa using this
        clear ho hl
        go_wp2_with (at_builtin; refine wpList_appL (v := uA) (bs := _) (sv := .slice (some ⟨wA.heap.size, 0, none⟩) 1 1) (l := [93]) (B := w.heap.size + 1) (by rfl) _ _ (by rfl) (by rfl) (HOA.out.alloc _) (by rfl) (by have := srcB_one wA 93 (by omega); simpa using this) ?o3 ?o4 ?_)
        case o3 => first | omega | (simp; done) | (simp; omega)
        case o4 => first | omega | (simp; done) | (simp; omega)
        intro uC wC ho hl
        have HBC := Lib.hid ((((LayF.fresh ((Below.refl _ _).alloc (Nat.le_refl _) _) uA).trans hl)).below HBA.out (by omega) (fun k hk => (owns_lt HOA.out k hk).1))
        have HOC := Lib.hid ho
        clear ho hl
        go_wp2_with fail
        go_ret
        refine ⟨⟨_, rfl, ?_⟩, HBX.out.trans (HBC.out.mono (by omega))⟩
        rw [HD.out]
        have e := HOC.out.srcB
        simpa using e
  · have HP : printJ (.mk 7 t m) = 123 :: (printM true true m ++ [125]) := by rw [printJ]; rfl
    rw [HP]
    go_enter Try.func40, Try.ntmps40
    go_wp2_with fail
    go_loopw [3, 6] (fun u i wr => PrRel (w.alloc (.cells (jCells 7 x ak nk ck) 24)) w.heap.size true m u i wr) (fun _ i _ => nk - (intOf i).toNat)
    case atStart => exact ⟨0, [], rfl, Nat.zero_le _, Lib.hid rfl, World.ownsRow_nil _ _ _ _, Below.refl _ _, by simp [M.drop]; omega⟩
    case round =>
      obtain ⟨j, cur, rfl, hjm, hall, hou, hbl, hcw⟩ := hrel
      have f0 : wr.cell? ⟨w.heap.size, 0, none⟩ = some (.int .i64 7) := below_cellB hbl (by simp [go_sem]) (by simp)
      have f2 : wr.cell? ⟨w.heap.size, 2, none⟩ = some (.slice ak nk ck) := below_cellB hbl (by simp [go_sem]) (by simp)
      have hsz : w.heap.size + 1 ≤ wr.heap.size := by have := hbl.size; simpa using this
      have hBW := HBX.out.trans (hbl.mono (by omega))
      have HBW := Lib.hid hBW
      have HBL := Lib.hid hbl
      have HOU := Lib.hid hou
      rw [HML.out] at hjm
      clear hou hbl hBW
      by_cases hlt : j < nk
      · obtain ⟨⟨n, vv⟩, hx⟩ := M.get_some m j (by rw [HML.out]; exact hlt)
        have hwg := wtM_get m j n vv hx
        have hcg := checkM_get m j n vv HCM.out hx
        obtain ⟨b0, o0, y, k', t', x', m', ak', nk', ck', rfl, rfl, e1, e2, e3, e4, e5, e6, e7, g0w, g1w, g2w, g3w⟩ := (HKS.out.at hx).cells
        have E7 := Lib.hid e7
        have HX := Lib.hid hx
        have hyl : y.size = n.length := by rw [← e1, sl_len]
        have hwy : wholeTo (sl y) = y.size := by rw [e1, hcg.1, hyl]
        have HC := Lib.hid (fun S W c => HOF.out _ (show wtJ (.mk k' t' m') ≤ d by omega) hcg.2 (show wtJ (.mk k' t' m') ≤ 80000 by omega) S W c)
        have HE1 := Lib.hid e1
        have hpw := print_wt (.mk k' t' m')
        have hcl2 : cur.length + 8 * (n.length + wtJ (.mk k' t' m')) ≤ 640000 := by omega
        have hj0 : (0 : Int) ≤ (j : Int) := by omega
        have hj1 : (j : Int) < (nk : Int) := by omega
        have hys : y.size ≤ 100000 := by omega
        have CQ := fun W => Lib.hid ((rquote_calls y (by omega) W).mono (by rintro e w' ⟨h1, _, h3⟩; exact (show e = .returned (.tuple #[.string (txt (quoteL (sl y))), .bool true]) ∧ Below _ _ w' from ⟨h1 hwy, h3⟩)))
        have hql : (quoteL (sl y)).length ≤ 6 * n.length + 2 := by
          have h1 := quoteL_len (sl y)
          have h2 := quoteM_len (sl y)
          rw [sl_len, hyl] at h2
          omega
        clear hwg hcg e1 e3 e4 e5 e7 hx hwy
        obtain ⟨P, hP⟩ : ∃ P, P = printJ (.mk k' t' m') := ⟨_, rfl⟩
        rw [← hP] at HC hpw
        have HPP := Lib.hid hP
        clear hP
        by_cases hjz : j = 0

        · subst hjz
          simp only [Nat.zero_mul, Nat.add_zero] at g0w g1w g2w g3w
          have HWL := Lib.hid (HBX.out.trans (HBL.out.mono (by omega)))
          have f0L : wr.cell? ⟨w.heap.size, 0, none⟩ = some (.int .i64 7) := below_cellB HBL.out (by simp [go_sem]) (by simp)
          have f2L : wr.cell? ⟨w.heap.size, 2, none⟩ = some (.slice (some ⟨b0, o0, none⟩) nk ck) := below_cellB HBL.out (by simp [go_sem]) (by simp)
          have hzL : w.heap.size + 1 ≤ wr.heap.size := by have := HBL.out.size; simpa using this
          have g0L := cell_below HWL.out g0w
          have g1L := cell_below HWL.out g1w
          have g2L := cell_below HWL.out g2w
          have g3L := cell_below HWL.out g3w
          have lbL : b0 < wr.heap.size := by omega
          have lwL : w.heap.size < wr.heap.size := by omega
          have HOL := HOU
          go_wp2_with fail
          refine (CQ _).out.mono ?_
          rintro e wQ ⟨rfl, hbQ⟩
          have HBQ := Lib.hid (HBL.out.trans (hbQ.mono hzL))
          have HOQ := Lib.hid (HOL.out.keep hbQ)
          clear hbQ
          have HWQ := Lib.hid (HBX.out.trans (HBQ.out.mono (by omega)))
          have f0Q : wQ.cell? ⟨w.heap.size, 0, none⟩ = some (.int .i64 7) := below_cellB HBQ.out (by simp [go_sem]) (by simp)
          have f2Q : wQ.cell? ⟨w.heap.size, 2, none⟩ = some (.slice (some ⟨b0, o0, none⟩) nk ck) := below_cellB HBQ.out (by simp [go_sem]) (by simp)
          have hzQ : w.heap.size + 1 ≤ wQ.heap.size := by have := HBQ.out.size; simpa using this
          have g0Q := cell_below HWQ.out g0w
          have g1Q := cell_below HWQ.out g1w
          have g2Q := cell_below HWQ.out g2w
          have g3Q := cell_below HWQ.out g3w
          have lbQ : b0 < wQ.heap.size := by omega
          have lwQ : w.heap.size < wQ.heap.size := by omega
          go_wp2_with (at_builtin; refine wpList_appT (v := u3) (bs := _) (t := txt (quoteL (sl y))) (B := w.heap.size + 1) (by rfl) _ _ (by rfl) (by rfl) HOQ.out (by rfl) ?o3 ?o4 ?_)
          case o3 => (rw [← sl_len, sl_txt]; first | omega | (simp; done) | (simp; omega))
          case o4 => first | omega | (simp; done) | (simp; omega)
          intro uR wR ho hl
          rw [sl_txt] at ho
          have HBR := Lib.hid (hl.below HBQ.out (by omega) (fun k hk => (owns_lt HOQ.out k hk).1))
          have HOR := Lib.hid ho
          clear ho hl
          have HWR := Lib.hid (HBX.out.trans (HBR.out.mono (by omega)))
          have f0R : wR.cell? ⟨w.heap.size, 0, none⟩ = some (.int .i64 7) := below_cellB HBR.out (by simp [go_sem]) (by simp)
          have f2R : wR.cell? ⟨w.heap.size, 2, none⟩ = some (.slice (some ⟨b0, o0, none⟩) nk ck) := below_cellB HBR.out (by simp [go_sem]) (by simp)
          have hzR : w.heap.size + 1 ≤ wR.heap.size := by have := HBR.out.size; simpa using this
          have g0R := cell_below HWR.out g0w
          have g1R := cell_below HWR.out g1w
          have g2R := cell_below HWR.out g2w
          have g3R := cell_below HWR.out g3w
          have lbR : b0 < wR.heap.size := by omega
          have lwR : w.heap.size < wR.heap.size := by omega
          go_wp2_with (at_builtin; refine wpList_appL (v := uR) (bs := _) (sv := .slice (some ⟨wR.heap.size, 0, none⟩) 1 1) (l := [58]) (B := w.heap.size + 1) (by rfl) _ _ (by rfl) (by rfl) (HOR.out.alloc _) (by rfl) (by have := srcB_one wR 58 (by omega); simpa using this) ?o3 ?o4 ?_)
          case o3 => first | omega | (simp; done) | (simp; omega)
          case o4 => first | omega | (simp; done) | (simp; omega)
          intro uC wC ho hl
          have HBC := Lib.hid ((((LayF.fresh ((Below.refl _ _).alloc (Nat.le_refl _) _) uR).trans hl)).below HBR.out (by omega) (fun k hk => (owns_lt HOR.out k hk).1))
          have HOC := Lib.hid ho
          clear ho hl
          have HWC := Lib.hid (HBX.out.trans (HBC.out.mono (by omega)))
          have f0C : wC.cell? ⟨w.heap.size, 0, none⟩ = some (.int .i64 7) := below_cellB HBC.out (by simp [go_sem]) (by simp)
          have f2C : wC.cell? ⟨w.heap.size, 2, none⟩ = some (.slice (some ⟨b0, o0, none⟩) nk ck) := below_cellB HBC.out (by simp [go_sem]) (by simp)
          have hzC : w.heap.size + 1 ≤ wC.heap.size := by have := HBC.out.size; simpa using this
          have g0C := cell_below HWC.out g0w
          have g1C := cell_below HWC.out g1w
          have g2C := cell_below HWC.out g2w
          have g3C := cell_below HWC.out g3w
          have lbC : b0 < wC.heap.size := by omega
          have lwC : w.heap.size < wC.heap.size := by omega
          go_wp2_with fail
          refine (HC.out _ _ _ (E7.out.below HWC.out)).mono ?_
          rintro e wP ⟨⟨sv, rfl, hsv⟩, hbP⟩
          have HBP := Lib.hid (HBC.out.trans (hbP.mono hzC))
          have HOP := Lib.hid (HOC.out.keep hbP)
          have HSV := Lib.hid hsv
          clear hbP hsv
          have HWP := Lib.hid (HBX.out.trans (HBP.out.mono (by omega)))
          have f0P : wP.cell? ⟨w.heap.size, 0, none⟩ = some (.int .i64 7) := below_cellB HBP.out (by simp [go_sem]) (by simp)
          have f2P : wP.cell? ⟨w.heap.size, 2, none⟩ = some (.slice (some ⟨b0, o0, none⟩) nk ck) := below_cellB HBP.out (by simp [go_sem]) (by simp)
          have hzP : w.heap.size + 1 ≤ wP.heap.size := by have := HBP.out.size; simpa using this
          have g0P := cell_below HWP.out g0w
          have g1P := cell_below HWP.out g1w
          have g2P := cell_below HWP.out g2w
          have g3P := cell_below HWP.out g3w
          have lbP : b0 < wP.heap.size := by omega
          have lwP : w.heap.size < wP.heap.size := by omega
          go_wp2_with (at_builtin; refine wpList_appL (v := uC) (bs := _) (sv := sv) (l := P) (B := w.heap.size + 1) (by rfl) _ _ (by rfl) (by rfl) HOP.out (by rfl) HSV.out ?o3 ?o4 ?_)
          case o3 => first | omega | (simp; done) | (simp; omega)
          case o4 => first | omega | (simp; done) | (simp; omega)
          intro uZ wZ ho hl
          have HBZ := Lib.hid (hl.below HBP.out (by omega) (fun k hk => (owns_lt HOP.out k hk).1))
          have HOZ := Lib.hid ho
          clear ho hl
          go_wp2_with fail
          go_roundw
          case rel =>
            refine pr_rel HX.out hall.out ?_ HBZ.out (by rw [HML.out]; exact hlt) (by simp) hcw
            have e := HOZ.out
            rw [HPP.out] at e
            simpa [named, HE1.out] using e
          case measure => simp [intOf]; omega
        · have djz : decide ((0 : Int) < (j : Int)) = true := by simp; omega
          have HWL := Lib.hid (HBX.out.trans (HBL.out.mono (by omega)))
          have f0L : wr.cell? ⟨w.heap.size, 0, none⟩ = some (.int .i64 7) := below_cellB HBL.out (by simp [go_sem]) (by simp)
          have f2L : wr.cell? ⟨w.heap.size, 2, none⟩ = some (.slice (some ⟨b0, o0, none⟩) nk ck) := below_cellB HBL.out (by simp [go_sem]) (by simp)
          have hzL : w.heap.size + 1 ≤ wr.heap.size := by have := HBL.out.size; simpa using this
          have g0L := cell_below HWL.out g0w
          have g1L := cell_below HWL.out g1w
          have g2L := cell_below HWL.out g2w
          have g3L := cell_below HWL.out g3w
          have lbL : b0 < wr.heap.size := by omega
          have lwL : w.heap.size < wr.heap.size := by omega
          have HOL := HOU
          go_wp2_with (at_builtin; refine wpList_appL (v := u3) (bs := _) (sv := .slice (some ⟨wr.heap.size, 0, none⟩) 1 1) (l := [44]) (B := w.heap.size + 1) (by rfl) _ _ (by rfl) (by rfl) (HOL.out.alloc _) (by rfl) (by have := srcB_one wr 44 (by omega); simpa using this) ?o3 ?o4 ?_)
          case o3 => first | omega | (simp; done) | (simp; omega)
          case o4 => first | omega | (simp; done) | (simp; omega)
          intro uA wA ho hl
          have HBA := Lib.hid ((((LayF.fresh ((Below.refl _ _).alloc (Nat.le_refl _) _) u3).trans hl)).below HBL.out (by omega) (fun k hk => (owns_lt HOL.out k hk).1))
          have HOA := Lib.hid ho
          clear ho hl
          have HWA := Lib.hid (HBX.out.trans (HBA.out.mono (by omega)))
          have f0A : wA.cell? ⟨w.heap.size, 0, none⟩ = some (.int .i64 7) := below_cellB HBA.out (by simp [go_sem]) (by simp)
          have f2A : wA.cell? ⟨w.heap.size, 2, none⟩ = some (.slice (some ⟨b0, o0, none⟩) nk ck) := below_cellB HBA.out (by simp [go_sem]) (by simp)
          have hzA : w.heap.size + 1 ≤ wA.heap.size := by have := HBA.out.size; simpa using this
          have g0A := cell_below HWA.out g0w
          have g1A := cell_below HWA.out g1w
          have g2A := cell_below HWA.out g2w
          have g3A := cell_below HWA.out g3w
          have lbA : b0 < wA.heap.size := by omega
          have lwA : w.heap.size < wA.heap.size := by omega
          go_wp2_with fail
          refine (CQ _).out.mono ?_
          rintro e wQ ⟨rfl, hbQ⟩
          have HBQ := Lib.hid (HBA.out.trans (hbQ.mono hzA))
          have HOQ := Lib.hid (HOA.out.keep hbQ)
          clear hbQ
          have HWQ := Lib.hid (HBX.out.trans (HBQ.out.mono (by omega)))
          have f0Q : wQ.cell? ⟨w.heap.size, 0, none⟩ = some (.int .i64 7) := below_cellB HBQ.out (by simp [go_sem]) (by simp)
          have f2Q : wQ.cell? ⟨w.heap.size, 2, none⟩ = some (.slice (some ⟨b0, o0, none⟩) nk ck) := below_cellB HBQ.out (by simp [go_sem]) (by simp)
          have hzQ : w.heap.size + 1 ≤ wQ.heap.size := by have := HBQ.out.size; simpa using this
          have g0Q := cell_below HWQ.out g0w
          have g1Q := cell_below HWQ.out g1w
          have g2Q := cell_below HWQ.out g2w
          have g3Q := cell_below HWQ.out g3w
          have lbQ : b0 < wQ.heap.size := by omega
          have lwQ : w.heap.size < wQ.heap.size := by omega
          go_wp2_with (at_builtin; refine wpList_appT (v := uA) (bs := _) (t := txt (quoteL (sl y))) (B := w.heap.size + 1) (by rfl) _ _ (by rfl) (by rfl) HOQ.out (by rfl) ?o3 ?o4 ?_)
          case o3 => (rw [← sl_len, sl_txt]; first | omega | (simp; done) | (simp; omega))
          case o4 => first | omega | (simp; done) | (simp; omega)
          intro uR wR ho hl
          rw [sl_txt] at ho
          have HBR := Lib.hid (hl.below HBQ.out (by omega) (fun k hk => (owns_lt HOQ.out k hk).1))
          have HOR := Lib.hid ho
          clear ho hl
          have HWR := Lib.hid (HBX.out.trans (HBR.out.mono (by omega)))
          have f0R : wR.cell? ⟨w.heap.size, 0, none⟩ = some (.int .i64 7) := below_cellB HBR.out (by simp [go_sem]) (by simp)
          have f2R : wR.cell? ⟨w.heap.size, 2, none⟩ = some (.slice (some ⟨b0, o0, none⟩) nk ck) := below_cellB HBR.out (by simp [go_sem]) (by simp)
          have hzR : w.heap.size + 1 ≤ wR.heap.size := by have := HBR.out.size; simpa using this
          have g0R := cell_below HWR.out g0w
          have g1R := cell_below HWR.out g1w
          have g2R := cell_below HWR.out g2w
          have g3R := cell_below HWR.out g3w
          have lbR : b0 < wR.heap.size := by omega
          have lwR : w.heap.size < wR.heap.size := by omega
          go_wp2_with (at_builtin; refine wpList_appL (v := uR) (bs := _) (sv := .slice (some ⟨wR.heap.size, 0, none⟩) 1 1) (l := [58]) (B := w.heap.size + 1) (by rfl) _ _ (by rfl) (by rfl) (HOR.out.alloc _) (by rfl) (by have := srcB_one wR 58 (by omega); simpa using this) ?o3 ?o4 ?_)
          case o3 => first | omega | (simp; done) | (simp; omega)
          case o4 => first | omega | (simp; done) | (simp; omega)
          intro uC wC ho hl
          have HBC := Lib.hid ((((LayF.fresh ((Below.refl _ _).alloc (Nat.le_refl _) _) uR).trans hl)).below HBR.out (by omega) (fun k hk => (owns_lt HOR.out k hk).1))
          have HOC := Lib.hid ho
          clear ho hl
          have HWC := Lib.hid (HBX.out.trans (HBC.out.mono (by omega)))
          have f0C : wC.cell? ⟨w.heap.size, 0, none⟩ = some (.int .i64 7) := below_cellB HBC.out (by simp [go_sem]) (by simp)
          have f2C : wC.cell? ⟨w.heap.size, 2, none⟩ = some (.slice (some ⟨b0, o0, none⟩) nk ck) := below_cellB HBC.out (by simp [go_sem]) (by simp)
          have hzC : w.heap.size + 1 ≤ wC.heap.size := by have := HBC.out.size; simpa using this
          have g0C := cell_below HWC.out g0w
          have g1C := cell_below HWC.out g1w
          have g2C := cell_below HWC.out g2w
          have g3C := cell_below HWC.out g3w
          have lbC : b0 < wC.heap.size := by omega
          have lwC : w.heap.size < wC.heap.size := by omega
          go_wp2_with fail
          refine (HC.out _ _ _ (E7.out.below HWC.out)).mono ?_
          rintro e wP ⟨⟨sv, rfl, hsv⟩, hbP⟩
          have HBP := Lib.hid (HBC.out.trans (hbP.mono hzC))
          have HOP := Lib.hid (HOC.out.keep hbP)
          have HSV := Lib.hid hsv
          clear hbP hsv
          have HWP := Lib.hid (HBX.out.trans (HBP.out.mono (by omega)))
          have f0P : wP.cell? ⟨w.heap.size, 0, none⟩ = some (.int .i64 7) := below_cellB HBP.out (by simp [go_sem]) (by simp)
          have f2P : wP.cell? ⟨w.heap.size, 2, none⟩ = some (.slice (some ⟨b0, o0, none⟩) nk ck) := below_cellB HBP.out (by simp [go_sem]) (by simp)
          have hzP : w.heap.size + 1 ≤ wP.heap.size := by have := HBP.out.size; simpa using this
          have g0P := cell_below HWP.out g0w
          have g1P := cell_below HWP.out g1w
          have g2P := cell_below HWP.out g2w
          have g3P := cell_below HWP.out g3w
          have lbP : b0 < wP.heap.size := by omega
          have lwP : w.heap.size < wP.heap.size := by omega
          go_wp2_with (at_builtin; refine wpList_appL (v := uC) (bs := _) (sv := sv) (l := P) (B := w.heap.size + 1) (by rfl) _ _ (by rfl) (by rfl) HOP.out (by rfl) HSV.out ?o3 ?o4 ?_)
          case o3 => first | omega | (simp; done) | (simp; omega)
          case o4 => first | omega | (simp; done) | (simp; omega)
          intro uZ wZ ho hl
          have HBZ := Lib.hid (hl.below HBP.out (by omega) (fun k hk => (owns_lt HOP.out k hk).1))
          have HOZ := Lib.hid ho
          clear ho hl
          go_wp2_with fail
          go_roundw
          case rel =>
            refine pr_rel HX.out hall.out ?_ HBZ.out (by rw [HML.out]; exact hlt) (by simp) hcw
            have e := HOZ.out
            rw [HPP.out] at e
            simpa [named, HE1.out, hjz] using e
          case measure => simp [intOf]; omega
      · have HD : Hid (printM true true m = cur) := by
          show _ = _
          rw [hall.out, M.drop_len m j (by rw [HML.out]; omega)]
          simp [printM]
        have hcl : cur.length ≤ 640000 := by omega
        have hs0 := HOU.out.srcB
        have HS0 := Lib.hid (hs0.below ((Below.refl _ _).alloc (Nat.le_refl _) (.cells #[.int .u8 123] 5)))
        clear hs0
        go_wp2_with (at_builtin; refine wpList_appL (v := .slice (some ⟨wr.heap.size, 0, none⟩) 1 1) (bs := _) (sv := u3) (l := cur) (B := w.heap.size + 1) (by rfl) _ _ (by rfl) (by rfl) (by have := own_fresh wr (w.heap.size + 1) 123 (by omega) hsz; simpa using this) (by rfl) HS0.out ?o3 ?o4 ?_)
        case o3 => first | omega | (simp; done) | (simp; omega)
        case o4 => first | omega | (simp; done) | (simp; omega)
        intro uA wA ho hl
        have HBA := Lib.hid (hl.below (HBL.out.alloc hsz (.cells #[.int .u8 123] 5)) (by simp; omega) (fun k hk => by simp [Value.ownBlock] at hk; omega))
        have HOA := Lib.hid ho
        have hzA : w.heap.size + 1 ≤ wA.heap.size := by have := HBA.out.size; simpa using this
        clear ho hl
        go_wp2_with (at_builtin; refine wpList_appL (v := uA) (bs := _) (sv := .slice (some ⟨wA.heap.size, 0, none⟩) 1 1) (l := [125]) (B := w.heap.size + 1) (by rfl) _ _ (by rfl) (by rfl) (HOA.out.alloc _) (by rfl) (by have := srcB_one wA 125 (by omega); simpa using this) ?o3 ?o4 ?_)
        case o3 => first | omega | (simp; done) | (simp; omega)
        case o4 => first | omega | (simp; done) | (simp; omega)
        intro uC wC ho hl
        have HBC := Lib.hid ((((LayF.fresh ((Below.refl _ _).alloc (Nat.le_refl _) _) uA).trans hl)).below HBA.out (by omega) (fun k hk => (owns_lt HOA.out k hk).1))
        have HOC := Lib.hid ho
        clear ho hl
        go_wp2_with fail
        go_ret
        refine ⟨⟨_, rfl, ?_⟩, HBX.out.trans (HBC.out.mono (by omega))⟩
        rw [HD.out]
        have e := HOC.out.srcB
        simpa using e

theorem prt_all : ∀ d, PrtSaid d
  | 0 => fun j hj => by cases j; simp [wtJ] at hj
  | d + 1 => prt_step d (prt_all d)

end Go.Proofs.Ytamhdoijmkjngaa

namespace Go.Proofs.Ytamhdoijmkjngaa
open Go.RowKit
set_option linter.unusedVariables false
set_option linter.unusedSimpArgs false

set_option maxRecDepth 100000 in
set_option maxHeartbeats 4000000 in
theorem rprint_calls (j : J) (hw : wtJ j ≤ 80000) (S : Nat → Prop) (w : World) (c : Array Value) (h : RdJ S w j c) :
    Calls Try.prog 21 #[.agg c] w fun e w' => (checkJ j = 0 → e = .returned (.tuple #[.string (txt (printJ j)), .int .i64 0])) ∧ (checkJ j ≠ 0 → e = .returned (.tuple #[.string ⟨#[]⟩, .int .i64 (checkJ j : Nat)])) ∧ Below w.heap.size w w' := by
  have hc0 := h
  have CC := Lib.hid (fun S W c => rchk_all (wtJ j) j (Nat.le_refl _) S W c)
  have CL := Lib.hid (fun hc S W c => prt_all (wtJ j) j (Nat.le_refl _) hc hw S W c)
  obtain ⟨q, hq⟩ : ∃ q, q = checkJ j := ⟨_, rfl⟩
  rw [← hq] at CC CL
  have HR := Lib.hid hc0
  have hs3 : ∃ (k : Int) (x : ByteArray) (ak : Option Addr) (nk ck : Nat), c = jCells k x ak nk ck := by
    cases j with
    | mk k t m => obtain ⟨x, ak, nk, ck, rfl, _⟩ := h; exact ⟨k, x, ak, nk, ck, rfl⟩
  obtain ⟨k, x, ak, nk, ck, rfl⟩ := hs3
  have hB1 : Below w.heap.size w (w.alloc (.cells (jCells k x ak nk ck) 24)) := (Below.refl _ _).alloc (Nat.le_refl _) _
  have HB1 := Lib.hid hB1
  have hw2 : wtJ j ≤ 100000 := by omega
  have HQ := Lib.hid hq
  clear h hc0 hB1 hq
  by_cases hq0 : q = 0
  · subst hq0
    go_enter Try.func21, Try.ntmps21
    go_wp2_with fail
    refine (CC.out _ _ _ (HR.out.below HB1.out) hw2).mono ?_
    rintro e w2 ⟨rfl, hb2⟩
    have f0 : w2.cell? ⟨w.heap.size, 0, none⟩ = some (.int .i64 k) := below_cellB hb2 (by simp [go_sem]) (by simp)
    have f1 : w2.cell? ⟨w.heap.size, 1, none⟩ = some (.string x) := below_cellB hb2 (by simp [go_sem]) (by simp)
    have f2 : w2.cell? ⟨w.heap.size, 2, none⟩ = some (.slice ak nk ck) := below_cellB hb2 (by simp [go_sem]) (by simp)
    have HB2 := Lib.hid (HB1.out.trans (hb2.mono (by simp)))
    have HR2 := Lib.hid ((HR.out.below HB1.out).below hb2)
    clear hb2
    go_wp2_with fail
    refine (CL.out trivial _ _ _ HR2.out).mono ?_
    rintro e w3 ⟨⟨v3, rfl, hsv⟩, hb3⟩
    obtain ⟨a9, m9, c9, rfl, hr9, _⟩ := hsv
    have hcv := conv_str hr9 c9
    have HB3 := Lib.hid (HB2.out.trans (hb3.mono HB2.out.size))
    clear hr9 hb3
    go_wp2_with fail
    go_ret2
    exact ⟨fun _ => rfl, fun h => absurd HQ.out.symm h, HB3.out⟩
  · have d1 : ((q : Int) == 0) = false := by simp; omega
    have d2 : ((q : Int) != 0) = true := by simp; omega
    go_enter Try.func21, Try.ntmps21
    go_wp2_with fail
    refine (CC.out _ _ _ (HR.out.below HB1.out) hw2).mono ?_
    rintro e w2 ⟨rfl, hb2⟩
    have HB2 := Lib.hid (HB1.out.trans (hb2.mono (by simp)))
    clear hb2
    go_wp2_with fail
    go_ret2
    exact ⟨fun h => absurd (HQ.out.trans h) hq0, fun _ => by rw [← HQ.out]; rfl, HB2.out⟩

theorem onec {w W : World} {ka : Int} {xa : ByteArray} {aa : Option Addr} {na ca : Nat} (h : Below (w.heap.size + 1) (w.alloc (.cells (jCells ka xa aa na ca) 24)) W) :
    W.cell? ⟨w.heap.size, 0, none⟩ = some (.int .i64 ka) ∧ W.cell? ⟨w.heap.size, 1, none⟩ = some (.string xa) ∧ W.cell? ⟨w.heap.size, 2, none⟩ = some (.slice aa na ca) ∧ w.heap.size + 1 ≤ W.heap.size := by
  refine ⟨?_, ?_, ?_, ?_⟩
  · exact below_cellB h (by simp [go_sem]) (by simp)
  · exact below_cellB h (by simp [go_sem]) (by simp)
  · exact below_cellB h (by simp [go_sem]) (by simp)
  · have := h.size; simpa using this

set_option maxRecDepth 100000 in
set_option maxHeartbeats 16000000 in
theorem JoutPrints_walk (w : World) (c : Array Value) (a : J) (ha : RdJ (fun _ => True) w a c) :
    Calls Try.prog 3 #[.agg c] w fun e w' => e = .returned (.bool true) ∧ Below w.heap.size w w' := by
  have CA := fun W => Lib.hid (awake24 W)
  have HA := Lib.hid ha
  obtain ⟨ka, xa, aa, na, ca, rfl⟩ : ∃ (k : Int) (x : ByteArray) (ak : Option Addr) (nk ck : Nat), c = jCells k x ak nk ck := by
    cases a; obtain ⟨x, ak, nk, ck, rfl, _⟩ := ha; exact ⟨_, x, ak, nk, ck, rfl⟩
  have hbx : Below w.heap.size w (w.alloc (.cells (jCells ka xa aa na ca) 24)) := (Below.refl _ _).alloc (Nat.le_refl _) _
  have HBX := Lib.hid hbx
  have CSa := fun W (h : RdJ (fun _ => True) W a (jCells ka xa aa na ca)) => Lib.hid (small_calls a (fun _ => True) W _ h)
  obtain ⟨sa, hsa⟩ : ∃ s, s = smallJ a := ⟨_, rfl⟩
  rw [← hsa] at CSa
  have HSA := Lib.hid hsa
  clear ha hbx hsa
  cases sa with
  | false =>
    go_enter Try.func3, Try.ntmps3
    go_wp2_with fail
    refine (CA _).out.mono ?_
    rintro e w1 ⟨rfl, hb1⟩
    have hB1 : Below (w.heap.size + 1) (w.alloc (.cells (jCells ka xa aa na ca) 24)) w1 := by rw [show w.heap.size + 1 = (w.alloc (.cells (jCells ka xa aa na ca) 24)).heap.size by simp]; exact hb1
    obtain ⟨f0, f1, f2, hz1⟩ := onec hB1
    have HA1 : Hid (RdJ (fun _ => True) w1 a (jCells ka xa aa na ca)) := HA.out.below (HBX.out.trans (hB1.mono (by omega)))
    have HB1 := Lib.hid hB1
    clear hb1 hB1
    go_wp2_with fail
    refine (CSa _ HA1.out).out.mono ?_
    rintro e w2 ⟨rfl, hb2⟩
    clear f0 f1 f2
    have hB2 : Below (w.heap.size + 1) (w.alloc (.cells (jCells ka xa aa na ca) 24)) w2 := HB1.out.trans (hb2.mono hz1)
    obtain ⟨f0, f1, f2, hz2⟩ := onec hB2
    have HA2 : Hid (RdJ (fun _ => True) w2 a (jCells ka xa aa na ca)) := HA.out.below (HBX.out.trans (hB2.mono (by omega)))
    have HB2 := Lib.hid hB2
    clear hb2 hB2
    go_wp2_with fail
    go_ret
    exact ⟨rfl, HBX.out.trans (HB2.out.mono (by omega))⟩
  | true =>
  have hwa := smallJ_wt HSA.out.symm
  obtain ⟨p, q, hp⟩ : ∃ (p : ByteArray) (q : Nat), (∀ S W c, RdJ S W a c → Hid (Calls Try.prog 20 #[.agg c] W fun e w' => e = .returned (.tuple #[.string p, .int .i64 (q : Nat)]) ∧ Below W.heap.size W w')) ∧
      (∀ S W c, RdJ S W a c → Hid (Calls Try.prog 21 #[.agg c] W fun e w' => e = .returned (.tuple #[.string p, .int .i64 (q : Nat)]) ∧ Below W.heap.size W w')) ∧ q = checkJ a := by
    by_cases h : checkJ a = 0
    · refine ⟨txt (printJ a), checkJ a, fun S W c hr => Lib.hid ((jprint_calls a (by omega) S W c hr).mono fun e w' x => ⟨by rw [x.1 h, h]; rfl, x.2.2⟩), fun S W c hr => Lib.hid ((rprint_calls a (by omega) S W c hr).mono fun e w' x => ⟨by rw [x.1 h, h]; rfl, x.2.2⟩), rfl⟩
    · refine ⟨⟨#[]⟩, checkJ a, fun S W c hr => Lib.hid ((jprint_calls a (by omega) S W c hr).mono fun e w' x => ⟨x.2.1 h, x.2.2⟩), fun S W c hr => Lib.hid ((rprint_calls a (by omega) S W c hr).mono fun e w' x => ⟨x.2.1 h, x.2.2⟩), rfl⟩
  obtain ⟨C1, C2, hq⟩ := hp
  have C3 := fun S W c hr => Lib.hid (chk_all (wtJ a) a (Nat.le_refl _) S W c hr (by omega))
  have C4 := fun S W c hr => Lib.hid (rchk_all (wtJ a) a (Nat.le_refl _) S W c hr (by omega))
  rw [← hq] at C3 C4
  have hpe : (p.toList == p.toList) = true := by simp
  have hqe : ((q : Int) == (q : Int)) = true := by simp
  clear hq
  go_enter Try.func3, Try.ntmps3
  go_wp2_with fail
  refine (CA _).out.mono ?_
  rintro e w1 ⟨rfl, hb1⟩
  have hB1 : Below (w.heap.size + 1) (w.alloc (.cells (jCells ka xa aa na ca) 24)) w1 := by rw [show w.heap.size + 1 = (w.alloc (.cells (jCells ka xa aa na ca) 24)).heap.size by simp]; exact hb1
  obtain ⟨f0, f1, f2, hz1⟩ := onec hB1
  have HA1 : Hid (RdJ (fun _ => True) w1 a (jCells ka xa aa na ca)) := HA.out.below (HBX.out.trans (hB1.mono (by omega)))
  have HB1 := Lib.hid hB1
  clear hb1 hB1
  go_wp2_with fail
  refine (CSa _ HA1.out).out.mono ?_
  rintro e w2 ⟨rfl, hb2⟩
  clear f0 f1 f2
  have hB2 : Below (w.heap.size + 1) (w.alloc (.cells (jCells ka xa aa na ca) 24)) w2 := HB1.out.trans (hb2.mono hz1)
  obtain ⟨f0, f1, f2, hz2⟩ := onec hB2
  have HA2 : Hid (RdJ (fun _ => True) w2 a (jCells ka xa aa na ca)) := HA.out.below (HBX.out.trans (hB2.mono (by omega)))
  have HB2 := Lib.hid hB2
  clear hb2 hB2
  go_wp2_with fail
  refine (C1 _ _ _ HA2.out).out.mono ?_
  rintro e w3 ⟨rfl, hb3⟩
  clear f0 f1 f2
  have hB3 : Below (w.heap.size + 1) (w.alloc (.cells (jCells ka xa aa na ca) 24)) w3 := HB2.out.trans (hb3.mono hz2)
  obtain ⟨f0, f1, f2, hz3⟩ := onec hB3
  have HA3 : Hid (RdJ (fun _ => True) w3 a (jCells ka xa aa na ca)) := HA.out.below (HBX.out.trans (hB3.mono (by omega)))
  have HB3 := Lib.hid hB3
  clear hb3 hB3
  go_wp2_with fail
  refine (C2 _ _ _ HA3.out).out.mono ?_
  rintro e w4 ⟨rfl, hb4⟩
  clear f0 f1 f2
  have hB4 : Below (w.heap.size + 1) (w.alloc (.cells (jCells ka xa aa na ca) 24)) w4 := HB3.out.trans (hb4.mono hz3)
  obtain ⟨f0, f1, f2, hz4⟩ := onec hB4
  have HA4 : Hid (RdJ (fun _ => True) w4 a (jCells ka xa aa na ca)) := HA.out.below (HBX.out.trans (hB4.mono (by omega)))
  have HB4 := Lib.hid hB4
  clear hb4 hB4
  go_wp2_with fail
  have HKS : Hid (∀ W, Below (w.heap.size + 1) (w.alloc (.cells (jCells ka xa aa na ca) 24)) W → (Hid (Below (w.heap.size + 1) (w.alloc (.cells (jCells ka xa aa na ca) 24)) W) ∧ W.cell? ⟨w.heap.size, 0, none⟩ = some (.int .i64 ka) ∧ W.cell? ⟨w.heap.size, 1, none⟩ = some (.string xa) ∧ W.cell? ⟨w.heap.size, 2, none⟩ = some (.slice aa na ca))) := by
    show ∀ W, _
    intro W hW
    obtain ⟨h0, h1, h2, _⟩ := onec hW
    exact ⟨Lib.hid hW, h0, h1, h2⟩
  have HSZ : Hid (∀ W, Below (w.heap.size + 1) (w.alloc (.cells (jCells ka xa aa na ca) 24)) W → w.heap.size + 1 ≤ W.heap.size) := by
    show ∀ W, _
    intro W hW
    have := hW.size
    simpa using this
  have HB4d : Hid (Below (w.heap.size + 1) (w.alloc (.cells (jCells ka xa aa na ca) 24)) w4.drew) := HB4.out.drew
  go_region_held3 (fun W => Hid (Below (w.heap.size + 1) (w.alloc (.cells (jCells ka xa aa na ca) 24)) W) ∧ W.cell? ⟨w.heap.size, 0, none⟩ = some (.int .i64 ka) ∧ W.cell? ⟨w.heap.size, 1, none⟩ = some (.string xa) ∧ W.cell? ⟨w.heap.size, 2, none⟩ = some (.slice aa na ca)) (first | with_reducible exact HKS.out _ HB4d.out | with_reducible exact HKS.out _ hB9 | fail) (first | (go_at_call 22; (have hb0 := (‹Hid (Below (w.heap.size + 1) _ _) ∧ _›).1.out); refine (C3 _ _ _ (HA.out.below (HBX.out.trans (hb0.mono (by omega))))).out.mono ?_; rintro e w' ⟨rfl, hb⟩; (have hB9 := hb0.trans (hb.mono (HSZ.out _ hb0)))) | (go_at_call 23; (have hb0 := (‹Hid (Below (w.heap.size + 1) _ _) ∧ _›).1.out); refine (C4 _ _ _ (HA.out.below (HBX.out.trans (hb0.mono (by omega))))).out.mono ?_; rintro e w' ⟨rfl, hb⟩; (have hB9 := hb0.trans (hb.mono (HSZ.out _ hb0)))))
  all_goals
    go_wp2_with fail
    go_ret
    exact ⟨rfl, HBX.out.trans ((‹Hid (Below (w.heap.size + 1) _ _) ∧ _›).1.out.mono (by omega))⟩

end Go.Proofs.Ytamhdoijmkjngaa

namespace Go.Proofs.Ytamhdoijmkjngaa
open Go.RowKit
set_option linter.unusedVariables false
set_option linter.unusedSimpArgs false

def NestSaid (d : Nat) : Prop := ∀ (j : J), wtJ j ≤ d → wtJ j ≤ 80000 → ∀ (S : Nat → Prop) (w : World) (c : Array Value), RdJ S w j c →
  Calls Try.prog 35 #[.agg c] w fun e w' => e = .returned (.int .i64 (nestJ j : Nat)) ∧ Below w.heap.size w w'

set_option maxRecDepth 100000 in
set_option maxHeartbeats 8000000 in
theorem nest_step (d : Nat) (hof : NestSaid d) : NestSaid (d + 1) := by
  intro j hj hw8 S w c h
  obtain ⟨k, t, m⟩ := j
  obtain ⟨x, ak, nk, ck, rfl, hxt, hxs, hkb, hml, hnk, hks⟩ := h
  have hwt : wtJ (.mk k t m) = 2 + t.length + wtM m := rfl
  rw [hwt] at hj hw8
  have hml2 := wtM_len m
  rw [hml] at hml2
  have HOF := Lib.hid hof
  have HKS := Lib.hid (hks.imp (S' := fun k => k < w.heap.size) (fun k h _ => h))
  have HML := Lib.hid hml
  have hnk9 := hnk.1
  have HB0 := Lib.hid (BoxJ.start (w := w) (k := k) (x := x) (ak := ak) (nk := nk) (ck := ck))
  have hbox : Below w.heap.size w (w.alloc (.cells (jCells k x ak nk ck) 24)) := (Below.refl _ _).alloc (Nat.le_refl _) _
  have HBX := Lib.hid hbox
  clear hof hks hml hnk hbox hxt
  by_cases hk : k = 6 ∨ k = 7
  case neg =>
    have HP : nestJ (.mk k t m) = 0 := by unfold nestJ; simp; omega
    rw [HP]
    have b6 : (k != 6) = true := by simp; omega
    have b7 : (k != 7) = true := by simp; omega
    go_enter Try.func35, Try.ntmps35
    go_wp2_with fail
    go_ret
    exact ⟨rfl, HBX.out⟩
  have HP : nestJ (.mk k t m) = nestM m + 1 := by unfold nestJ; simp; omega
  rw [HP]
  rcases hk with rfl | rfl
  · go_enter Try.func35, Try.ntmps35
    go_wp2_with fail
    go_loopw [3, 4] (fun u i wr => ∃ n j : Nat, u = .int .i64 n ∧ i = .int .i64 j ∧ j ≤ nk ∧ n ≤ 80000 ∧ Hid (nestM m = max n (nestM (m.drop j))) ∧ BoxJ (w.alloc (.cells (jCells 6 x ak nk ck) 24)) w.heap.size 6 x ak nk ck wr) (fun _ i _ => nk - (intOf i).toNat)
    case atStart => exact ⟨0, 0, rfl, rfl, Nat.zero_le _, by omega, by show _ = _; simp [M.drop], HB0.out⟩
    case round =>
      obtain ⟨n, j, rfl, rfl, hjm, hn8, hz, hbl, f0, f1, f2, hsz⟩ := hrel
      have HBJ : Hid (BoxJ (w.alloc (.cells (jCells 6 x ak nk ck) 24)) w.heap.size 6 x ak nk ck wr) := Lib.hid ⟨hbl, f0, f1, f2, hsz⟩
      have HBW := Lib.hid (HBX.out.trans (hbl.mono (by omega)))
      clear hbl
      by_cases hlt : j < nk
      · obtain ⟨⟨nm, vv⟩, hx⟩ := M.get_some m j (by rw [HML.out]; exact hlt)
        have hwg := wtM_get m j nm vv hx
        have hdg := M.drop_get m j nm vv hx
        obtain ⟨b0, o0, y, k', t', x', m', ak', nk', ck', rfl, rfl, e1, e2, e3, e4, e5, e6, e7, g0w, g1w, g2w, g3w⟩ := (HKS.out.at hx).cells
        have g1 := cell_below HBW.out g1w
        have g2 := cell_below HBW.out g2w
        have g3 := cell_below HBW.out g3w
        have E7 := Lib.hid e7
        have hj0 : (0 : Int) ≤ (j : Int) := by omega
        have hj1 : (j : Int) < (nk : Int) := by omega
        have HC := Lib.hid (fun S W c => HOF.out _ (show wtJ (.mk k' t' m') ≤ d by omega) (show wtJ (.mk k' t' m') ≤ 80000 by omega) S W c)
        have hnw := nest_wt (.mk k' t' m')
        obtain ⟨q, hq⟩ : ∃ q, q = nestJ (.mk k' t' m') := ⟨_, rfl⟩
        rw [← hq] at HC hnw
        have HN : Hid (nestM m = max (max n q) (nestM (m.drop (j + 1)))) := by
          show _ = _
          rw [hz.out, hdg, hq]; simp only [nestM]; omega
        clear hx hdg e1 e3 e4 e7 g0w g1w g2w g3w hq
        go_wp2_with fail
        refine (HC.out _ _ _ (E7.out.below HBW.out)).mono ?_
        rintro e w5 ⟨rfl, hb5⟩
        have HL := Lib.hid (HBJ.out.keep hb5)
        clear hb5
        go_wp2_with fail
        go_roundw
        case rel => exact ⟨max n q, j + 1, by first | rfl | (simp; done) | (simp; omega), by simp, by omega, by omega, HN, HL.out⟩
        case measure => simp [intOf]; omega
      · have HR : Hid (nestM m = n) := by
          show _ = _
          rw [hz.out, M.drop_len m j (by rw [HML.out]; omega)]; simp [nestM]
        go_wp2_with fail
        go_ret
        exact ⟨by rw [HR.out]; first | rfl | (simp; done), HBW.out⟩
  · go_enter Try.func35, Try.ntmps35
    go_wp2_with fail
    go_loopw [3, 4] (fun u i wr => ∃ n j : Nat, u = .int .i64 n ∧ i = .int .i64 j ∧ j ≤ nk ∧ n ≤ 80000 ∧ Hid (nestM m = max n (nestM (m.drop j))) ∧ BoxJ (w.alloc (.cells (jCells 7 x ak nk ck) 24)) w.heap.size 7 x ak nk ck wr) (fun _ i _ => nk - (intOf i).toNat)
    case atStart => exact ⟨0, 0, rfl, rfl, Nat.zero_le _, by omega, by show _ = _; simp [M.drop], HB0.out⟩
    case round =>
      obtain ⟨n, j, rfl, rfl, hjm, hn8, hz, hbl, f0, f1, f2, hsz⟩ := hrel
      have HBJ : Hid (BoxJ (w.alloc (.cells (jCells 7 x ak nk ck) 24)) w.heap.size 7 x ak nk ck wr) := Lib.hid ⟨hbl, f0, f1, f2, hsz⟩
      have HBW := Lib.hid (HBX.out.trans (hbl.mono (by omega)))
      clear hbl
      by_cases hlt : j < nk
      · obtain ⟨⟨nm, vv⟩, hx⟩ := M.get_some m j (by rw [HML.out]; exact hlt)
        have hwg := wtM_get m j nm vv hx
        have hdg := M.drop_get m j nm vv hx
        obtain ⟨b0, o0, y, k', t', x', m', ak', nk', ck', rfl, rfl, e1, e2, e3, e4, e5, e6, e7, g0w, g1w, g2w, g3w⟩ := (HKS.out.at hx).cells
        have g1 := cell_below HBW.out g1w
        have g2 := cell_below HBW.out g2w
        have g3 := cell_below HBW.out g3w
        have E7 := Lib.hid e7
        have hj0 : (0 : Int) ≤ (j : Int) := by omega
        have hj1 : (j : Int) < (nk : Int) := by omega
        have HC := Lib.hid (fun S W c => HOF.out _ (show wtJ (.mk k' t' m') ≤ d by omega) (show wtJ (.mk k' t' m') ≤ 80000 by omega) S W c)
        have hnw := nest_wt (.mk k' t' m')
        obtain ⟨q, hq⟩ : ∃ q, q = nestJ (.mk k' t' m') := ⟨_, rfl⟩
        rw [← hq] at HC hnw
        have HN : Hid (nestM m = max (max n q) (nestM (m.drop (j + 1)))) := by
          show _ = _
          rw [hz.out, hdg, hq]; simp only [nestM]; omega
        clear hx hdg e1 e3 e4 e7 g0w g1w g2w g3w hq
        go_wp2_with fail
        refine (HC.out _ _ _ (E7.out.below HBW.out)).mono ?_
        rintro e w5 ⟨rfl, hb5⟩
        have HL := Lib.hid (HBJ.out.keep hb5)
        clear hb5
        go_wp2_with fail
        go_roundw
        case rel => exact ⟨max n q, j + 1, by first | rfl | (simp; done) | (simp; omega), by simp, by omega, by omega, HN, HL.out⟩
        case measure => simp [intOf]; omega
      · have HR : Hid (nestM m = n) := by
          show _ = _
          rw [hz.out, M.drop_len m j (by rw [HML.out]; omega)]; simp [nestM]
        go_wp2_with fail
        go_ret
        exact ⟨by rw [HR.out]; first | rfl | (simp; done), HBW.out⟩

theorem nest_all : ∀ d, NestSaid d
  | 0 => fun j hj => by cases j; simp [wtJ] at hj
  | d + 1 => nest_step d (nest_all d)

end Go.Proofs.Ytamhdoijmkjngaa
