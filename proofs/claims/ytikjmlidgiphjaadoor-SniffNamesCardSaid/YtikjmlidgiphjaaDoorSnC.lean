/- The reference's Guess, walked. -/
import Derived.Test.YtikjmlidgiphjaaDoorSnB
import Derived.Deep.CutRange
namespace Go.Proofs.YtikjmlidgiphjaaDoor
open Go.RowKit
set_option linter.unusedVariables false
set_option linter.unusedSimpArgs false

theorem brace_lead {L : List UInt8} (h : lead L < L.length) : brace L = (bAt L (lead L) == 123) := by unfold brace; rw [decide_eq_true h]; rfl
theorem brace_none {L : List UInt8} (h : ¬ lead L < L.length) : brace L = false := by unfold brace; rw [decide_eq_false h]; rfl
theorem blank_at {L : List UInt8} {k : Nat} (h : k < lead L) : bAt L k = 9 ∨ bAt L k = 10 ∨ bAt L k = 13 ∨ bAt L k = 32 := (blank_iff _).1 (lead_at L k h)
theorem blank_end {L : List UInt8} (h : lead L < L.length) : ¬ (bAt L (lead L) = 9 ∨ bAt L (lead L) = 10 ∨ bAt L (lead L) = 13 ∨ bAt L (lead L) = 32) := fun e => by
  have := (blank_iff (L.getD (lead L) 0)).2 e
  rw [lead_end L h] at this
  exact absurd this (by simp)
theorem low_any (a : Option Addr) (n cap : Nat) (L : List UInt8) (w : World) (h : RdB w a n L) (hn : n ≤ 1000000) : Calls Tryd.prog 13 #[.slice a n cap, .int .i64 0, .int .i64 4] w fun e w' => e = .returned (.tuple #[.int .u64 ((if n < 4 then 0 else le (seg L 0 4) : Nat) : Int), .bool (decide (4 ≤ n))]) ∧ w = w' := by
  by_cases h4 : n < 4
  · rw [if_pos h4, decide_eq_false (by omega)]
    exact low_no a n cap 0 4 w (by omega) (.inr (.inr (.inr (by omega)))) (by omega) (by omega)
  · rw [if_neg h4, decide_eq_true (by omega)]
    exact low_yes a n cap 0 4 w L h (by omega) (by omega) (by omega)

set_option maxRecDepth 100000 in
set_option maxHeartbeats 16000000 in
theorem rguess_calls (a : Option Addr) (n cap : Nat) (L : List UInt8) (w : World) (h : RdB w a n L) (hn : n ≤ 1000000) :
    Calls Tryd.prog 7 #[.slice a n cap] w fun e w' => e = .returned (.int .i64 (guessN L : Nat)) ∧ w = w' := by
  have hL : L.length = n := h.1
  obtain ⟨R, hR⟩ : ∃ R, R = guessN L := ⟨_, rfl⟩
  rw [← hR]
  have HRD := Lib.hid h
  have hle := lead_le L
  obtain ⟨K, hK⟩ : ∃ k, k = lead L := ⟨_, rfl⟩
  rw [← hK, hL] at hle
  have HKK := Lib.hid hK
  have wn : IntKind.u64.wrap (n : Int) = (n : Int) := IntWalk.u64_in _ (by omega)
  have hcase : n < 4 ∨ n = 4 ∨ (5 ≤ n ∧ ¬ le (seg L 0 4) = n) ∨ (5 ≤ n ∧ le (seg L 0 4) = n ∧ ¬ bAt L (n - 1) = 0) ∨ (5 ≤ n ∧ le (seg L 0 4) = n ∧ bAt L (n - 1) = 0) := by omega
  have HCASE := Lib.hid hcase
  have CL := Lib.hid (low_any a n cap L w h hn)
  obtain ⟨V, hV⟩ : ∃ V, V = if n < 4 then 0 else le (seg L 0 4) := ⟨_, rfl⟩
  rw [← hV] at CL
  obtain ⟨B4, hB4⟩ : ∃ V, V = decide (4 ≤ n) := ⟨_, rfl⟩
  rw [← hB4] at CL
  have HV := Lib.hid hV
  have HB4 := Lib.hid hB4
  obtain ⟨C, hC⟩ : ∃ C, C = decide (5 ≤ n ∧ bAt L (n - 1) = 0 ∧ le (seg L 0 4) = n) := ⟨_, rfl⟩
  have HC := Lib.hid hC
  clear hcase hV hB4 hC hK h
  go_enter Tryd.func7, Tryd.ntmps7
  go_wp2_with fail
  refine CL.out.mono ?_
  rintro e w1 ⟨rfl, rfl⟩
  clear CL
  go_upto_region 2 with fail
  go_cut [32] from 11 to 32 (fun p W => p = .bool C ∧ W = w)
  case first =>
    rcases HCASE.out with hh | hh | hh | hh | hh
    · have b4 : B4 = false := by rw [HB4.out]; exact decide_eq_false (by omega)
      have hc : C = false := by rw [HC.out]; exact decide_eq_false (by omega)
      subst b4
      clear hh hn hL hle
      go_wp2_with fail
      go_meet
      case rel => exact ⟨by rw [hc], rfl⟩
    · have b4 : B4 = true := by rw [HB4.out]; exact decide_eq_true (by omega)
      have hc : C = false := by rw [HC.out]; exact decide_eq_false (by omega)
      have g5 : decide ((5 : Int) ≤ (n : Int)) = false := by simp; omega
      have g5n : decide (5 ≤ n) = false := by simp; omega
      subst b4
      clear hh hn hL hle
      go_wp2_with fail
      go_meet
      case rel => exact ⟨by rw [hc], rfl⟩
    · have b4 : B4 = true := by rw [HB4.out]; exact decide_eq_true (by omega)
      have hc : C = false := by rw [HC.out]; exact decide_eq_false (by omega)
      have g5 : decide ((5 : Int) ≤ (n : Int)) = true := by simp; omega
      have g5n : decide (5 ≤ n) = true := by simp; omega
      have gV : ((V : Int) == (n : Int)) = false := by rw [HV.out, if_neg (by omega)]; simp; omega
      subst b4
      clear hh hn hL hle
      go_wp2_with fail
      go_meet
      case rel => exact ⟨by rw [hc], rfl⟩
    all_goals
      obtain ⟨n1, hn1⟩ : ∃ x, x = n - 1 := ⟨_, rfl⟩
      have b4 : B4 = true := by rw [HB4.out]; exact decide_eq_true (by omega)
      have g5 : decide ((5 : Int) ≤ (n : Int)) = true := by simp; omega
      have g5n : decide (5 ≤ n) = true := by simp; omega
      have gV : ((V : Int) == (n : Int)) = true := by rw [HV.out, if_neg (by omega)]; simp; omega
      have w1 : IntKind.i64.wrap ((n : Int) - 1) = (n1 : Int) := (IntWalk.i64_in _ (by omega)).trans (by omega)
      have i0 : (0 : Int) ≤ (n1 : Int) := by omega
      have i1 : (n1 : Int) < (n : Int) := by omega
      obtain ⟨b0, o0, ea, cl⟩ := HRD.out.at n1 (by omega)
      subst ea
      subst b4
    · have hc : C = false := by rw [HC.out]; exact decide_eq_false (by omega)
      have gz : ((bAt L n1 : Int) == 0) = false := by rw [hn1]; simp; omega
      generalize bAt L n1 = z at gz cl
      clear hh hn hL hle hn1
      go_wp2_with fail
      go_meet
      case rel => exact ⟨by rw [hc], rfl⟩
    · have hc : C = true := by rw [HC.out]; exact decide_eq_true ⟨by omega, hh.2.2, hh.2.1⟩
      have gz : ((bAt L n1 : Int) == 0) = true := by rw [hn1]; simp; omega
      generalize bAt L n1 = z at gz cl
      clear hh hn hL hle hn1
      go_wp2_with fail
      go_meet
      case rel => exact ⟨by rw [hc], rfl⟩
  obtain ⟨rfl, rfl⟩ := hcut
  cases C with
  | true =>
    have HF : Hid (R = 1) := by
      show _ = _
      have := of_decide_eq_true HC.out.symm
      rw [hR]; unfold guessN; rw [if_pos (by rw [hL]; exact this)]
    clear hR
    go_wp2_with fail
    go_ret
    exact ⟨by rw [HF.out]; rfl, rfl⟩
  | false =>
  have HNG : Hid (¬ (5 ≤ L.length ∧ bAt L (L.length - 1) = 0 ∧ le (seg L 0 4) = L.length)) := by
    show ¬ _
    rw [hL]
    exact of_decide_eq_false HC.out.symm
  clear HCASE HV HB4 HC
  go_wp2_with fail
  go_loopw [5] (fun i wr => ∃ j : Nat, j ≤ K ∧ i = .int .i64 (j : Nat) ∧ wr = wc) (fun i _ => K - (intOf i).toNat)
  case atStart => exact ⟨0, Nat.zero_le _, rfl, rfl⟩
  case round =>
    obtain ⟨j, hj, rfl, rfl⟩ := hrel
    go_upto_region 5 with fail
    go_cut [64] from 33 to 64 (fun p W => p = .bool (decide (j < K)) ∧ W = wr)
    case first =>
      by_cases hjn : j < n
      case neg =>
        have dj : decide ((j : Int) < (n : Int)) = false := by simp; omega
        have djn : decide (j < n) = false := by simp; omega
        have hc : decide (j < K) = false := by simp; omega
        clear hjn hj hle hn hL
        go_wp2_with fail
        go_meet
        case rel => exact ⟨by rw [hc], rfl⟩
      obtain ⟨bj, oj, ea, cj⟩ := HRD.out.at j hjn
      subst ea
      have hx9 := bAt_lt L j
      obtain ⟨x, hx⟩ : ∃ x, x = bAt L j := ⟨_, rfl⟩
      rw [← hx] at cj hx9
      have dj : decide ((j : Int) < (n : Int)) = true := by simp; omega
      have djn : decide (j < n) = true := by simp; omega
      have j0 : (0 : Int) ≤ (j : Int) := by omega
      have j1 : (j : Int) < (n : Int) := by omega
      by_cases hjK : j < K
      · have hbl := blank_at (L := L) (k := j) (by rw [← HKK.out]; exact hjK)
        rw [← hx] at hbl
        have hc : decide (j < K) = true := by simp; omega
        clear hj hjK hjn hx hR hle hn hL
        rcases hbl with hb | hb | hb | hb
        · have p9 : ((x : Int) == 9) = true := by simp; omega
          have p10 : ((x : Int) == 10) = false := by simp; omega
          have p13 : ((x : Int) == 13) = false := by simp; omega
          have p32 : ((x : Int) == 32) = false := by simp; omega
          clear hb
          go_wp2_with fail
          go_meet
          case rel => exact ⟨by rw [hc], rfl⟩
        · have p9 : ((x : Int) == 9) = false := by simp; omega
          have p10 : ((x : Int) == 10) = true := by simp; omega
          have p13 : ((x : Int) == 13) = false := by simp; omega
          have p32 : ((x : Int) == 32) = false := by simp; omega
          clear hb
          go_wp2_with fail
          go_meet
          case rel => exact ⟨by rw [hc], rfl⟩
        · have p9 : ((x : Int) == 9) = false := by simp; omega
          have p10 : ((x : Int) == 10) = false := by simp; omega
          have p13 : ((x : Int) == 13) = true := by simp; omega
          have p32 : ((x : Int) == 32) = false := by simp; omega
          clear hb
          go_wp2_with fail
          go_meet
          case rel => exact ⟨by rw [hc], rfl⟩
        · have p9 : ((x : Int) == 9) = false := by simp; omega
          have p10 : ((x : Int) == 10) = false := by simp; omega
          have p13 : ((x : Int) == 13) = false := by simp; omega
          have p32 : ((x : Int) == 32) = true := by simp; omega
          clear hb
          go_wp2_with fail
          go_meet
          case rel => exact ⟨by rw [hc], rfl⟩
      · have hKj : j = K := by omega
        have hne := blank_end (L := L) (by rw [← HKK.out, hL]; omega)
        rw [← HKK.out, ← hKj, ← hx] at hne
        have p9 : ((x : Int) == 9) = false := by simp; omega
        have p10 : ((x : Int) == 10) = false := by simp; omega
        have p13 : ((x : Int) == 13) = false := by simp; omega
        have p32 : ((x : Int) == 32) = false := by simp; omega
        have hc : decide (j < K) = false := by simp; omega
        clear hj hjK hjn hx hR hle hn hL hne hKj
        go_wp2_with fail
        go_meet
        case rel => exact ⟨by rw [hc], rfl⟩
    obtain ⟨rfl, rfl⟩ := hcut
    by_cases hjK : j < K
    · have hc : decide (j < K) = true := by simp; omega
      have wj : IntKind.i64.wrap ((j : Int) + 1) = ((j + 1 : Nat) : Int) := (IntWalk.i64_in _ (by omega)).trans (by omega)
      obtain ⟨j2, hj2⟩ : ∃ x, x = j + 1 := ⟨_, rfl⟩
      rw [← hj2] at wj
      have HJ2 : Hid (j < j2 ∧ j2 ≤ K ∧ j < K) := by show _ ∧ _ ∧ _; omega
      clear hj hjK hj2 hR
      rw [hc]
      clear hc
      go_wp2_with fail
      go_roundw
      case rel => exact ⟨j2, HJ2.out.2.1, rfl, trivial⟩
      case measure => have := HJ2.out; simp only [intOf]; omega
    have hc : decide (j < K) = false := by simp; omega
    obtain rfl : j = K := by omega
    rw [hc]
    clear hc hjK hj
    obtain ⟨BR, hBR⟩ : ∃ b, b = brace L := ⟨_, rfl⟩
    have HBR := Lib.hid hBR
    clear hBR
    go_upto_region 7 with fail
    go_cut [67] from 68 to 78 (fun p W => p = .bool BR ∧ W = wc)
    case first =>
      by_cases hjn : j < n
      case neg =>
        have dj : decide ((j : Int) < (n : Int)) = false := by simp; omega
        have djn : decide (j < n) = false := by simp; omega
        have hb : BR = false := by rw [HBR.out]; exact brace_none (by rw [← HKK.out]; omega)
        clear hjn hle hn hL hR
        go_wp2_with fail
        go_meet
        case rel => exact ⟨by rw [hb], rfl⟩
      obtain ⟨bj, oj, ea, cj⟩ := HRD.out.at j hjn
      subst ea
      have hbr := brace_lead (L := L) (by rw [← HKK.out, hL]; exact hjn)
      rw [← HKK.out, ← HBR.out] at hbr
      obtain ⟨x, hx⟩ : ∃ x, x = bAt L j := ⟨_, rfl⟩
      rw [← hx] at cj hbr
      have p123 : ((x : Int) == 123) = BR := by
        rw [hbr, Bool.eq_iff_iff, beq_iff_eq, beq_iff_eq]
        omega
      have dj : decide ((j : Int) < (n : Int)) = true := by simp; omega
      have djn : decide (j < n) = true := by simp; omega
      have j0 : (0 : Int) ≤ (j : Int) := by omega
      have j1 : (j : Int) < (n : Int) := by omega
      clear hjn hle hn hL hR hx hbr
      go_wp2_with fail
      go_meet
      case rel => exact ⟨rfl, rfl⟩
    obtain ⟨rfl, rfl⟩ := hcut
    cases BR with
    | true =>
      have HF : Hid (R = 2) := by show _ = _; rw [hR]; unfold guessN; rw [if_neg HNG.out, ← HBR.out, if_pos rfl]
      clear hR
      go_wp2_with fail
      go_ret
      exact ⟨by rw [HF.out]; rfl, rfl⟩
    | false =>
    have HBF := Lib.hid HBR.out.symm
    by_cases h0 : n = 0
    · have HF : Hid (R = 0) := by show _ = _; rw [hR]; unfold guessN; rw [if_neg HNG.out, ← HBR.out, if_neg (by simp), if_pos (by omega)]
      have e0 : decide ((0 : Int) < (n : Int)) = false := by simp; omega
      have e0n : decide (0 < n) = false := by simp; omega
      clear hR h0
      go_wp2_with fail
      go_ret
      exact ⟨by rw [HF.out]; rfl, rfl⟩
    obtain ⟨c, hcc⟩ : ∃ c, c = bAt L 0 := ⟨_, rfl⟩
    have HRR : Hid (R = if 160 ≤ c ∧ c ≤ 187 then 4 else if (128 ≤ c ∧ c ≤ 143) ∨ c = 222 ∨ c = 223 then 5 else 0) := by show _ = _; rw [hR, guess_rest HNG.out HBF.out (by omega), ← hcc]
    obtain ⟨bb, oo, eb, cc⟩ := HRD.out.at 0 (by omega)
    subst eb
    have hc9 := bAt_lt L 0
    rw [← hcc] at cc hc9
    rw [Nat.add_zero] at cc
    have u0 : (0 : Int) < (n : Int) := by omega
    have u0n : 0 < n := by omega
    have u0d : decide ((0 : Int) < (n : Int)) = true := by simp; omega
    have u0e : decide (0 < n) = true := by simp; omega
    have hcs : c < 128 ∨ (128 ≤ c ∧ c ≤ 143) ∨ (144 ≤ c ∧ c ≤ 159) ∨ (160 ≤ c ∧ c ≤ 187) ∨ (188 ≤ c ∧ c ≤ 221) ∨ c = 222 ∨ c = 223 ∨ 224 ≤ c := by omega
    clear hR hcc hle
    rcases hcs with hh2 | hh2 | hh2 | hh2 | hh2 | hh2 | hh2 | hh2
    · have HF : Hid (R = 0) := by show _ = _; rw [HRR.out, if_neg (by omega), if_neg (by omega)]
      have d160 : decide ((160 : Int) ≤ (c : Int)) = false := by simp; omega
      have d160n : decide (160 ≤ c) = false := by simp; omega
      have d187 : decide ((c : Int) ≤ 187) = true := by simp; omega
      have d187n : decide (c ≤ 187) = true := by simp; omega
      have d128 : decide ((128 : Int) ≤ (c : Int)) = false := by simp; omega
      have d128n : decide (128 ≤ c) = false := by simp; omega
      have d143 : decide ((c : Int) ≤ 143) = true := by simp; omega
      have d143n : decide (c ≤ 143) = true := by simp; omega
      have e222 : ((c : Int) == 222) = false := by simp; omega
      have e223 : ((c : Int) == 223) = false := by simp; omega
      clear HRR hh2 hc9
      go_wp2_with fail
      go_ret
      exact ⟨by rw [HF.out]; rfl, rfl⟩
    · have HF : Hid (R = 5) := by show _ = _; rw [HRR.out, if_neg (by omega), if_pos (by omega)]
      have d160 : decide ((160 : Int) ≤ (c : Int)) = false := by simp; omega
      have d160n : decide (160 ≤ c) = false := by simp; omega
      have d187 : decide ((c : Int) ≤ 187) = true := by simp; omega
      have d187n : decide (c ≤ 187) = true := by simp; omega
      have d128 : decide ((128 : Int) ≤ (c : Int)) = true := by simp; omega
      have d128n : decide (128 ≤ c) = true := by simp; omega
      have d143 : decide ((c : Int) ≤ 143) = true := by simp; omega
      have d143n : decide (c ≤ 143) = true := by simp; omega
      have e222 : ((c : Int) == 222) = false := by simp; omega
      have e223 : ((c : Int) == 223) = false := by simp; omega
      clear HRR hh2 hc9
      go_wp2_with fail
      go_ret
      exact ⟨by rw [HF.out]; rfl, rfl⟩
    · have HF : Hid (R = 0) := by show _ = _; rw [HRR.out, if_neg (by omega), if_neg (by omega)]
      have d160 : decide ((160 : Int) ≤ (c : Int)) = false := by simp; omega
      have d160n : decide (160 ≤ c) = false := by simp; omega
      have d187 : decide ((c : Int) ≤ 187) = true := by simp; omega
      have d187n : decide (c ≤ 187) = true := by simp; omega
      have d128 : decide ((128 : Int) ≤ (c : Int)) = true := by simp; omega
      have d128n : decide (128 ≤ c) = true := by simp; omega
      have d143 : decide ((c : Int) ≤ 143) = false := by simp; omega
      have d143n : decide (c ≤ 143) = false := by simp; omega
      have e222 : ((c : Int) == 222) = false := by simp; omega
      have e223 : ((c : Int) == 223) = false := by simp; omega
      clear HRR hh2 hc9
      go_wp2_with fail
      go_ret
      exact ⟨by rw [HF.out]; rfl, rfl⟩
    · have HF : Hid (R = 4) := by show _ = _; rw [HRR.out, if_pos (by omega)]
      have d160 : decide ((160 : Int) ≤ (c : Int)) = true := by simp; omega
      have d160n : decide (160 ≤ c) = true := by simp; omega
      have d187 : decide ((c : Int) ≤ 187) = true := by simp; omega
      have d187n : decide (c ≤ 187) = true := by simp; omega
      have d128 : decide ((128 : Int) ≤ (c : Int)) = true := by simp; omega
      have d128n : decide (128 ≤ c) = true := by simp; omega
      have d143 : decide ((c : Int) ≤ 143) = false := by simp; omega
      have d143n : decide (c ≤ 143) = false := by simp; omega
      have e222 : ((c : Int) == 222) = false := by simp; omega
      have e223 : ((c : Int) == 223) = false := by simp; omega
      clear HRR hh2 hc9
      go_wp2_with fail
      go_ret
      exact ⟨by rw [HF.out]; rfl, rfl⟩
    · have HF : Hid (R = 0) := by show _ = _; rw [HRR.out, if_neg (by omega), if_neg (by omega)]
      have d160 : decide ((160 : Int) ≤ (c : Int)) = true := by simp; omega
      have d160n : decide (160 ≤ c) = true := by simp; omega
      have d187 : decide ((c : Int) ≤ 187) = false := by simp; omega
      have d187n : decide (c ≤ 187) = false := by simp; omega
      have d128 : decide ((128 : Int) ≤ (c : Int)) = true := by simp; omega
      have d128n : decide (128 ≤ c) = true := by simp; omega
      have d143 : decide ((c : Int) ≤ 143) = false := by simp; omega
      have d143n : decide (c ≤ 143) = false := by simp; omega
      have e222 : ((c : Int) == 222) = false := by simp; omega
      have e223 : ((c : Int) == 223) = false := by simp; omega
      clear HRR hh2 hc9
      go_wp2_with fail
      go_ret
      exact ⟨by rw [HF.out]; rfl, rfl⟩
    · have HF : Hid (R = 5) := by show _ = _; rw [HRR.out, if_neg (by omega), if_pos (by omega)]
      have d160 : decide ((160 : Int) ≤ (c : Int)) = true := by simp; omega
      have d160n : decide (160 ≤ c) = true := by simp; omega
      have d187 : decide ((c : Int) ≤ 187) = false := by simp; omega
      have d187n : decide (c ≤ 187) = false := by simp; omega
      have d128 : decide ((128 : Int) ≤ (c : Int)) = true := by simp; omega
      have d128n : decide (128 ≤ c) = true := by simp; omega
      have d143 : decide ((c : Int) ≤ 143) = false := by simp; omega
      have d143n : decide (c ≤ 143) = false := by simp; omega
      have e222 : ((c : Int) == 222) = true := by simp; omega
      have e223 : ((c : Int) == 223) = false := by simp; omega
      clear HRR hh2 hc9
      go_wp2_with fail
      go_ret
      exact ⟨by rw [HF.out]; rfl, rfl⟩
    · have HF : Hid (R = 5) := by show _ = _; rw [HRR.out, if_neg (by omega), if_pos (by omega)]
      have d160 : decide ((160 : Int) ≤ (c : Int)) = true := by simp; omega
      have d160n : decide (160 ≤ c) = true := by simp; omega
      have d187 : decide ((c : Int) ≤ 187) = false := by simp; omega
      have d187n : decide (c ≤ 187) = false := by simp; omega
      have d128 : decide ((128 : Int) ≤ (c : Int)) = true := by simp; omega
      have d128n : decide (128 ≤ c) = true := by simp; omega
      have d143 : decide ((c : Int) ≤ 143) = false := by simp; omega
      have d143n : decide (c ≤ 143) = false := by simp; omega
      have e222 : ((c : Int) == 222) = false := by simp; omega
      have e223 : ((c : Int) == 223) = true := by simp; omega
      clear HRR hh2 hc9
      go_wp2_with fail
      go_ret
      exact ⟨by rw [HF.out]; rfl, rfl⟩
    · have HF : Hid (R = 0) := by show _ = _; rw [HRR.out, if_neg (by omega), if_neg (by omega)]
      have d160 : decide ((160 : Int) ≤ (c : Int)) = true := by simp; omega
      have d160n : decide (160 ≤ c) = true := by simp; omega
      have d187 : decide ((c : Int) ≤ 187) = false := by simp; omega
      have d187n : decide (c ≤ 187) = false := by simp; omega
      have d128 : decide ((128 : Int) ≤ (c : Int)) = true := by simp; omega
      have d128n : decide (128 ≤ c) = true := by simp; omega
      have d143 : decide ((c : Int) ≤ 143) = false := by simp; omega
      have d143n : decide (c ≤ 143) = false := by simp; omega
      have e222 : ((c : Int) == 222) = false := by simp; omega
      have e223 : ((c : Int) == 223) = false := by simp; omega
      clear HRR hh2 hc9
      go_wp2_with fail
      go_ret
      exact ⟨by rw [HF.out]; rfl, rfl⟩

end Go.Proofs.YtikjmlidgiphjaaDoor
