/- The reference's CText. -/
import Derived.Test.YtkcfkdmffbhljaaCtW
namespace Go.Proofs.Ytkcfkdmffbhljaa
open Go.RowKit
set_option linter.unusedVariables false
set_option linter.unusedSimpArgs false

set_option maxRecDepth 100000 in
set_option maxHeartbeats 1000000 in
theorem rctext_out (a : Option Addr) (len cap : Nat) (p : Int) (w : World) (hm : len ≤ 9223372036854775807) (h : p < 0 ∨ (len : Int) < p) :
    Calls Try.prog 97 #[.slice a len cap, .int .i64 p] w (CTextOut ([], 0, 1) w) := by
  by_cases h0 : p < 0
  · have d0 : decide (p < 0) = true := by simp; omega
    go_enter Try.func97, Try.ntmps97
    go_wp2_with fail
    go_ret3
    exact ⟨rfl, rfl⟩
  · have d0 : decide (p < 0) = false := by simp; omega
    have d1 : decide ((len : Int) < p) = true := by simp; omega
    go_enter Try.func97, Try.ntmps97
    go_wp2_with fail
    go_ret3
    exact ⟨rfl, rfl⟩

set_option maxRecDepth 100000 in
set_option maxHeartbeats 1000000 in
theorem rctext_calls (a : Option Addr) (len cap p : Nat) (w : World) (l : List UInt8) (h : RdB w a len l) (hc : len ≤ cap) :
    Calls Try.prog 97 #[.slice a len cap, .int .i64 p] w (CTextOut (cText l p) w) := by
  have hm := h.2.1
  have hL := h.1
  by_cases h0 : len < p
  · have e : cText l p = ([], 0, 1) := by unfold cText; simp only; rw [if_pos (by omega)]
    rw [e]
    exact rctext_out a len cap p w hm (.inr (by omega))
  have H := Lib.hid h
  have HE : Hid (cText l p = if p + zeroIn (l.drop p) = len then ([], 0, 2) else if wholeTo ((l.drop p).take (zeroIn (l.drop p))) = zeroIn (l.drop p) then ((l.drop p).take (zeroIn (l.drop p)), p + zeroIn (l.drop p) + 1, 0) else ([], 0, 4)) := by
    show _ = _
    unfold cText
    simp only
    rw [if_neg (by omega), hL]
  have HL := Lib.hid hL
  have d0 : decide ((p : Int) < 0) = false := by simp
  have d1 : decide ((len : Int) < (p : Int)) = false := by simp; omega
  clear h hL
  go_enter Try.func97, Try.ntmps97
  go_wp2_with fail
  go_loop [7] (fun x => ∃ q : Nat, x = .int .i64 q ∧ p ≤ q ∧ q ≤ len ∧ Hid (zeroIn (l.drop p) = q - p + zeroIn (l.drop q))) (fun x => len - (intOf x).toNat)
  case atStart => exact ⟨p, rfl, by omega, by omega, by show _ = _; omega⟩
  case round =>
    obtain ⟨q, rfl, hpq, hq, hz⟩ := hrel
    by_cases hlt : q < len
    · obtain ⟨b, o, rfl, hcc⟩ := H.out.at q hlt
      have hcb := bAt_lt l q
      have hdq := drop_getD l 0 q (by rw [HL.out]; exact hlt)
      have hbq : bAt l q = (l.getD q 0).toNat := rfl
      generalize l.getD q 0 = x at hdq hbq
      rw [hbq] at hcc hcb
      clear hbq
      by_cases hx0 : x = 0
      · subst hx0
        have hzq : zeroIn (l.drop p) = q - p := by rw [hz.out, hdq]; simp [zeroIn]
        have hE := HE.out
        have hd := rd_drop H.out p (by omega)
        have hT := rd_take hd (q - p) (by omega)
        rw [hzq, if_neg (by omega)] at hE
        have C2 := Lib.hid (rcheck_calls _ _ (cap - p) w _ hT)
        have HV := Lib.hid (fun W => conv_str (hT.keep (below_drewN w W _)) (cap - p))
        have i0 : (0 : Int) ≤ (p : Int) := by omega
        have i2 : ¬ cap = p := by omega
        have i3 : ¬ p = cap := by omega
        have j2 : (p : Int) ≤ (q : Int) := by omega
        have j3 : (q : Int) ≤ (cap : Int) := by omega
        have hz0 : (((0 : UInt8).toNat : Nat) : Int) = 0 := rfl
        rw [hz0] at hcc
        generalize (l.drop p).take (q - p) = t at C2 HV hE
        have hv := HV.out 0
        change (convert _ _ _).run Try.prog w = .ok _ w at hv
        obtain ⟨tt, htt⟩ : ∃ tt, tt = txt t := ⟨_, rfl⟩
        rw [← htt] at hv
        have HTT := Lib.hid htt
        by_cases hw : wholeTo t = q - p
        · rw [if_pos hw, show p + (q - p) + 1 = q + 1 by omega] at hE
          rw [hw, show ((q - p) == (q - p)) = true by simp] at C2
          have HE2 := Lib.hid hE
          clear hz HE hE hzq hdq hd hT HV htt hw hz0
          go_wp2_with (go_at_call 103; refine C2.out.mono ?_; rintro e w' ⟨rfl, rfl⟩)
          go_ret3
          exact ⟨by rw [HE2.out]; show _ = Ending.returned (.tuple #[.string (txt t), _, _]); rw [← HTT.out]; rfl, rfl⟩
        · rw [if_neg hw] at hE
          have e2 : (wholeTo t == (q - p)) = false := by simpa using hw
          rw [e2] at C2
          generalize wholeTo t = y at C2
          have HE2 := Lib.hid hE
          clear hz HE hE hzq hdq hd hT HV htt hw hz0 e2
          go_wp2_with (go_at_call 103; refine C2.out.mono ?_; rintro e w' ⟨rfl, rfl⟩)
          go_ret3
          exact ⟨by rw [HE2.out]; rfl, rfl⟩
      · have HZ : Hid (zeroIn (l.drop p) = q + 1 - p + zeroIn (l.drop (q + 1))) := by
          show _ = _
          rw [hz.out, hdq]
          simp only [zeroIn]
          rw [if_neg hx0]; omega
        have hxn : x.toNat ≠ 0 := by intro e; exact hx0 (UInt8.toNat_inj.1 e)
        clear hz hdq hx0
        generalize x.toNat = y at hxn hcc hcb
        have dy : ((y : Int) == 0) = false := by simp; omega
        have dy2 : ((y : Int) != 0) = true := by simp; omega
        go_wp2_with fail
        go_round
        case rel => exact ⟨q + 1, by simp, by omega, by omega, HZ⟩
        case measure => simp [intOf]; omega
    · obtain rfl : q = len := by omega
      have hzq : zeroIn (l.drop p) = q - p := by rw [hz.out, List.drop_of_length_le (by rw [HL.out]; omega)]; simp [zeroIn]
      have hE := HE.out
      rw [hzq, if_pos (by omega)] at hE
      have HE2 := Lib.hid hE
      clear hz HE hE hzq
      go_wp2_with fail
      go_ret3
      exact ⟨by rw [HE2.out]; rfl, rfl⟩

end Go.Proofs.Ytkcfkdmffbhljaa
