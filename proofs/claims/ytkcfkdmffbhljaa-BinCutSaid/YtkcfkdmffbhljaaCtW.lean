/- utf.CText. -/
import Derived.Test.YtkcfkdmffbhljaaMI
import Derived.Test.YtkcfkdmffbhljaaIdx
import Derived.Test.YtkcfkdmffbhljaaMA
import Derived.Test.YtkcfkdmffbhljaaMU
namespace Go.Proofs.Ytkcfkdmffbhljaa
open Go.RowKit
set_option linter.unusedVariables false
set_option linter.unusedSimpArgs false

theorem zeroIn_at (l : List UInt8) (k : Nat) (h : k < zeroIn l) : bAt l k ≠ 0 := by
  have h1 := zeroIn_drop l k (by omega)
  have hl := zeroIn_le l
  rw [drop_getD l 0 k (by omega)] at h1
  simp only [zeroIn] at h1
  intro e
  have : l.getD k 0 = 0 := by apply UInt8.toNat_inj.1; exact e
  rw [if_pos this] at h1
  omega

theorem zeroIn_end (l : List UInt8) (h : zeroIn l < l.length) : bAt l (zeroIn l) = 0 := by
  have h1 := zeroIn_drop l (zeroIn l) (by omega)
  rw [drop_getD l 0 _ h] at h1
  simp only [zeroIn] at h1
  split at h1
  · rename_i e; unfold bAt; rw [e]; rfl
  · omega

/-- What CText answers. -/
def CTextOut (x : List UInt8 × Nat × Nat) (w : World) (e : Ending) (w' : World) : Prop := e = .returned (.tuple #[.string (txt x.1), .int .i64 (x.2.1 : Nat), .int .i64 (x.2.2 : Nat)]) ∧ w = w'

set_option maxRecDepth 100000 in
set_option maxHeartbeats 1000000 in
theorem ctext_out (a : Option Addr) (len cap : Nat) (p : Int) (w : World) (hm : len ≤ 9223372036854775807) (h : p < 0 ∨ (len : Int) < p) :
    Calls Try.prog 52 #[.slice a len cap, .int .i64 p] w (CTextOut ([], 0, 1) w) := by
  by_cases h0 : p < 0
  · have d0 : decide (p < 0) = true := by simp; omega
    go_enter Try.func52, Try.ntmps52
    go_wp2_with fail
    go_ret3
    exact ⟨rfl, rfl⟩
  · have d0 : decide (p < 0) = false := by simp; omega
    have d1 : decide ((len : Int) < p) = true := by simp; omega
    go_enter Try.func52, Try.ntmps52
    go_wp2_with fail
    go_ret3
    exact ⟨rfl, rfl⟩

set_option maxRecDepth 100000 in
set_option maxHeartbeats 1000000 in
theorem ctext_calls (a : Option Addr) (len cap p : Nat) (w : World) (l : List UInt8) (h : RdB w a len l) (hc : len ≤ cap) :
    Calls Try.prog 52 #[.slice a len cap, .int .i64 p] w (CTextOut (cText l p) w) := by
  have hm := h.2.1
  have hL := h.1
  by_cases h0 : len < p
  · have e : cText l p = ([], 0, 1) := by unfold cText; simp only; rw [if_pos (by omega)]
    rw [e]
    exact ctext_out a len cap p w hm (.inr (by omega))
  by_cases h1 : p = len
  · subst h1
    have e : cText l p = ([], 0, 2) := by
      have : l.drop p = [] := List.drop_of_length_le (by omega)
      unfold cText; simp only; rw [this, if_neg (by omega), if_pos (by simp [zeroIn]; omega)]
    rw [e]
    have C := Lib.hid (fun a c => index_calls a 0 c [] 0 w (RdB.nil _ _))
    have ez : Lib.indexByte [] ((0 : Int).toNat.toUInt8) = -1 := rfl
    rw [ez] at C
    clear h e ez hL h0
    have i0 : (0 : Int) ≤ (p : Int) := by omega
    by_cases hcp : cap = p
    · subst hcp
      go_enter Try.func52, Try.ntmps52
      go_wp2_with (go_at_call 72; refine (C.out _ _).mono ?_; rintro e w' ⟨rfl, rfl⟩)
      go_ret3
      exact ⟨rfl, rfl⟩
    · cases a
      all_goals
        go_enter Try.func52, Try.ntmps52
        go_wp2_with (go_at_call 72; refine (C.out _ _).mono ?_; rintro e w' ⟨rfl, rfl⟩)
        go_ret3
        exact ⟨rfl, rfl⟩
  obtain ⟨b, o, rfl, _⟩ := h.at p (by omega)
  have hd := rd_drop h p (by omega)
  have hz := zeroIn_le (l.drop p)
  rw [List.length_drop, hL] at hz
  have C := Lib.hid (index_calls _ _ (cap - p) _ 0 w hd)
  rw [show ((0 : Int).toNat.toUInt8) = 0 from rfl, index_zero, List.length_drop, hL] at C
  have hT := rd_take hd (zeroIn (l.drop p)) hz
  have C2 := Lib.hid (check_calls _ _ (cap - p) w _ hT)
  have HV := Lib.hid (fun W => conv_str (hT.keep (below_drewN w W _)) (cap - p))
  have HE : Hid (cText l p = if p + zeroIn (l.drop p) = len then ([], 0, 2) else if wholeTo ((l.drop p).take (zeroIn (l.drop p))) = zeroIn (l.drop p) then ((l.drop p).take (zeroIn (l.drop p)), p + zeroIn (l.drop p) + 1, 0) else ([], 0, 4)) := by
    show _ = _
    unfold cText
    simp only
    rw [if_neg (by omega), hL]
  clear h hd hT hL
  generalize zeroIn (l.drop p) = z at C C2 HV HE hz
  generalize (l.drop p).take z = t at C2 HV HE
  by_cases hs : p + z = len
  · rw [if_neg (by omega)] at C
    rw [if_pos hs] at HE
    rw [HE.out]
    have i0 : (0 : Int) ≤ (p : Int) := by omega
    have i1 : (p : Int) ≤ (len : Int) := by omega
    have i2 : ¬ cap = p := by omega
    have i3 : ¬ p = cap := by omega
    clear hs
    go_enter Try.func52, Try.ntmps52
    go_wp2_with (go_at_call 72; refine C.out.mono ?_; rintro e w' ⟨rfl, rfl⟩)
    go_ret3
    exact ⟨rfl, rfl⟩
  · rw [if_pos (by omega)] at C
    rw [if_neg hs] at HE
    rw [HE.out]
    have i0 : (0 : Int) ≤ (p : Int) := by omega
    have i1 : (p : Int) ≤ (len : Int) := by omega
    have i2 : ¬ cap = p := by omega
    have i3 : ¬ p = cap := by omega
    have q1 : IntKind.i64.wrap ((p : Int) + (z : Int)) = (p : Int) + (z : Int) := IntWalk.i64_in _ (by omega)
    have j1 : (0 : Int) ≤ (p : Int) + (z : Int) := by omega
    have j2 : (p : Int) ≤ (p : Int) + (z : Int) := by omega
    have j3 : (p : Int) + (z : Int) ≤ (cap : Int) := by omega
    have j4 : ((p : Int) + (z : Int)).toNat = p + z := by omega
    have j5 : p + z - p = z := by omega
    have j6 : p + z < len := by omega
    by_cases hw : wholeTo t = z
    · rw [if_pos hw]
      have e2 : (wholeTo t == z) = true := by simpa using hw
      rw [hw, show (z == z) = true by simp] at C2
      have hv := HV.out 0
      change (convert _ _ _).run Try.prog w = .ok _ w at hv
      obtain ⟨tt, htt⟩ : ∃ tt, tt = txt t := ⟨_, rfl⟩
      rw [← htt] at hv
      have HTT := Lib.hid htt
      clear htt
      clear hs hw HE e2 HV
      go_enter Try.func52, Try.ntmps52
      go_wp2_with (first | (go_at_call 72; refine C.out.mono ?_; rintro e w' ⟨rfl, rfl⟩) | (go_at_call 73; refine C2.out.mono ?_; rintro e w' ⟨rfl, rfl⟩))
      go_ret3
      exact ⟨by show _ = Ending.returned (.tuple #[.string (txt t), _, _]); rw [← HTT.out]; rfl, rfl⟩
    · rw [if_neg hw]
      have e2 : (wholeTo t == z) = false := by simpa using hw
      rw [e2] at C2
      generalize wholeTo t = y at C2
      clear hs hw HE e2 HV
      go_enter Try.func52, Try.ntmps52
      go_wp2_with (first | (go_at_call 72; refine C.out.mono ?_; rintro e w' ⟨rfl, rfl⟩) | (go_at_call 73; refine C2.out.mono ?_; rintro e w' ⟨rfl, rfl⟩))
      go_ret3
      exact ⟨rfl, rfl⟩

end Go.Proofs.Ytkcfkdmffbhljaa
