/- Check of both, walked. -/
import Derived.Test.YtambhapgjonmmaaUtf8
namespace Go.Proofs.Ytambhapgjonmmaa
open Go.RowKit
set_option linter.unusedVariables false
set_option linter.unusedSimpArgs false

theorem look_step (l : List UInt8) (p c n : Nat) (hp : p < l.length) (hn : (runeAt l p).2 = n) (h0 : n ≠ 0) : lookAt l l.length p c = lookAt l l.length (p + n) (c + 1) := by
  rw [lookAt_more l l.length (l.length + 1) p c (by omega) (by omega), lookAt, hn, if_pos ⟨hp, h0⟩]

theorem look_stop (l : List UInt8) (p c : Nat) (h : l.length ≤ p ∨ (runeAt l p).2 = 0) : lookAt l l.length p c = (p, c) := by
  rw [lookAt_more l l.length (l.length + 1) p c (by omega) (by omega), lookAt, if_neg (by omega)]

/-- The relation of the three loops. -/
def LookRel (l : List UInt8) (len p c : Nat) : Prop := p ≤ len ∧ c ≤ p ∧ Hid (lookAt l l.length 0 0 = lookAt l l.length p c)

theorem LookRel.step {l : List UInt8} {len p c n : Nat} (hl : l.length = len) (h : LookRel l len p c) (hp : p < len) (hn : (runeAt l p).2 = n) (h0 : n ≠ 0) : LookRel l len (p + n) (c + 1) := by
  have := (runeAt_bd l p).2.2 (by omega)
  exact ⟨by omega, by have := h.2.1; omega, h.2.2.out.trans (look_step l p c n (by omega) hn h0)⟩

set_option maxRecDepth 100000 in
set_option maxHeartbeats 1000000 in
theorem look_calls (ab : Option Addr) (len cap : Nat) (w : World) (l : List UInt8) (h : RdB w ab len l) :
    Calls Try.prog 44 #[.slice ab len cap] w fun e w' => e = .returned (.tuple #[.int .i64 (wholeTo l : Nat), .int .i64 (chars l : Nat)]) ∧ w = w' := by
  have hm := h.2.1
  have H := Lib.hid h
  have HL := Lib.hid h.1
  clear h
  go_enter Try.func44, Try.ntmps44
  go_wp2_with fail
  go_loop [2, 3] (fun x y => ∃ p c : Nat, x = .int .i64 p ∧ y = .int .i64 c ∧ LookRel l len p c) (fun x _ => len - (intOf x).toNat)
  case atStart => exact ⟨0, 0, rfl, rfl, by omega, by omega, rfl⟩
  case round =>
    obtain ⟨p, c, rfl, rfl, hR⟩ := hrel
    have HR := Lib.hid hR
    have hp := hR.1
    have hc := hR.2.1
    clear hR
    have C := Lib.hid (rune_calls ab len cap p w l H.out)
    unfold RuneOut at C
    by_cases hlt : p < len
    · obtain ⟨r, hr⟩ : ∃ r, r = (runeAt l p).1 := ⟨_, rfl⟩
      obtain ⟨n, hn⟩ : ∃ n, n = (runeAt l p).2 := ⟨_, rfl⟩
      have hb := runeAt_bd l p
      rw [← hr, ← hn] at C hb
      by_cases h0 : n = 0
      · have HF := Lib.hid (HR.out.2.2.out.trans (look_stop l p c (.inr (by omega))))
        subst h0
        clear hn hr hb
        go_wp2_with (go_at_call 54; refine C.out.mono ?_; rintro e w' ⟨rfl, rfl⟩)
        go_ret2
        exact ⟨by unfold wholeTo chars; rw [HF.out]; rfl, rfl⟩
      · have HN := Lib.hid (HR.out.step HL.out hlt hn.symm h0)
        have hb3 := hb.2.2 (by rw [HL.out]; exact hp)
        rw [HL.out] at hb3
        have hb4 := hb.2.1
        clear hn hr hb
        go_wp2_with (go_at_call 54; refine C.out.mono ?_; rintro e w' ⟨rfl, rfl⟩)
        go_round
        case rel => first | exact ⟨p + n, c + 1, by simp, by simp, HN.out⟩ | exact ⟨_, _, _, _, ⟨p + n, c + 1, by simp, by simp, HN.out⟩, rfl, rfl, rfl, rfl⟩
        case measure => simp [intOf]; omega
    · have HF := Lib.hid (HR.out.2.2.out.trans (look_stop l p c (.inl (by rw [HL.out]; omega))))
      go_wp2_with fail
      go_ret2
      exact ⟨by unfold wholeTo chars; rw [HF.out]; rfl, rfl⟩

set_option maxRecDepth 100000 in
set_option maxHeartbeats 1000000 in
theorem check_calls (ab : Option Addr) (len cap : Nat) (w : World) (l : List UInt8) (h : RdB w ab len l) :
    Calls Try.prog 27 #[.slice ab len cap] w fun e w' => e = .returned (.tuple #[.int .i64 (wholeTo l : Nat), .bool (wholeTo l == len)]) ∧ w = w' := by
  have C := Lib.hid (look_calls ab len cap w l h)
  have hm := h.2.1
  have hb := wholeTo_le l
  rw [h.1] at hb
  clear h
  generalize wholeTo l = p at C hb
  generalize chars l = c at C
  have HB : Hid ((p == len) = ((p : Int) == (len : Int))) := by show _ = _; rw [Bool.eq_iff_iff]; simp; omega
  go_enter Try.func27, Try.ntmps27
  go_wp2_with (go_at_call 44; refine C.out.mono ?_; rintro e w' ⟨rfl, rfl⟩)
  go_ret2
  exact ⟨by rw [HB.out]; rfl, rfl⟩

set_option maxRecDepth 100000 in
set_option maxHeartbeats 1000000 in
theorem rcheck_calls (ab : Option Addr) (len cap : Nat) (w : World) (l : List UInt8) (h : RdB w ab len l) :
    Calls Try.prog 55 #[.slice ab len cap] w fun e w' => e = .returned (.tuple #[.int .i64 (wholeTo l : Nat), .bool (wholeTo l == len)]) ∧ w = w' := by
  have hm := h.2.1
  have H := Lib.hid h
  have HL := Lib.hid h.1
  clear h
  go_enter Try.func55, Try.ntmps55
  go_wp2_with fail
  go_loop [4] (fun x => ∃ p c : Nat, x = .int .i64 p ∧ LookRel l len p c) (fun x => len - (intOf x).toNat)
  case atStart => exact ⟨0, 0, rfl, by omega, by omega, rfl⟩
  case round =>
    obtain ⟨p, c, rfl, hR⟩ := hrel
    have HR := Lib.hid hR
    have hp := hR.1
    have hc := hR.2.1
    clear hR
    have C := Lib.hid (rrune_calls ab len cap p w l H.out)
    by_cases hlt : p < len
    · obtain ⟨r, hr⟩ : ∃ r, r = (runeAt l p).1 := ⟨_, rfl⟩
      obtain ⟨n, hn⟩ : ∃ n, n = (runeAt l p).2 := ⟨_, rfl⟩
      have hb := runeAt_bd l p
      rw [← hr, ← hn] at C hb
      by_cases h0 : n = 0
      · have HF := Lib.hid (HR.out.2.2.out.trans (look_stop l p c (.inr (by omega))))
        subst h0
        clear hn hr hb
        go_wp2_with (go_at_call 59; refine C.out.mono ?_; rintro e w' ⟨rfl, rfl⟩)
        go_ret2
        have e1 : (p == len) = false := by simp; omega
        exact ⟨by unfold wholeTo; rw [HF.out]; simp only [e1]; rfl, rfl⟩
      · have HN := Lib.hid (HR.out.step HL.out hlt hn.symm h0)
        have hb3 := hb.2.2 (by rw [HL.out]; exact hp)
        rw [HL.out] at hb3
        have hb4 := hb.2.1
        clear hn hr hb
        go_wp2_with (go_at_call 59; refine C.out.mono ?_; rintro e w' ⟨rfl, rfl⟩)
        go_round
        case rel => first | exact ⟨p + n, c + 1, by simp, HN.out⟩ | exact ⟨_, _, _, ⟨p + n, c + 1, by simp, HN.out⟩, rfl, rfl, rfl⟩
        case measure => simp [intOf]; omega
    · have HF := Lib.hid (HR.out.2.2.out.trans (look_stop l p c (.inl (by rw [HL.out]; omega))))
      obtain rfl : p = len := by omega
      go_wp2_with fail
      go_ret2
      exact ⟨by unfold wholeTo; rw [HF.out]; simp, rfl⟩

end Go.Proofs.Ytambhapgjonmmaa
