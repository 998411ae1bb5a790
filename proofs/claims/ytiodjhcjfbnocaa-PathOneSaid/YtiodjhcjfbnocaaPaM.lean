/- bytes.Equal and path.alike. -/
import Derived.Test.YtiodjhcjfbnocaaPaS
namespace Go.Proofs.Ytiodjhcjfbnocaa
open Go.RowKit
set_option linter.unusedVariables false
set_option linter.unusedSimpArgs false

theorem equal_calls (a1 a2 : Option Addr) (n1 n2 c1 c2 : Nat) (l1 l2 : List UInt8) (w : World) (h1 : RdB w a1 n1 l1) (h2 : RdB w a2 n2 l2) :
    Calls Try.prog 50 #[.slice a1 n1 c1, .slice a2 n2 c2] w fun e w' => e = .returned (.bool (l1 == l2)) ∧ w = w' := by
  have kc1 := conv_str h1 c1
  have kc2 := conv_str h2 c2
  rw [← txt_beq]
  generalize txt l1 = x1 at *
  generalize txt l2 = x2 at *
  clear h1 h2
  go_enter Try.func50, Try.ntmps50
  go_wp2
  go_ret
  exact ⟨rfl, rfl⟩

set_option maxRecDepth 100000 in
set_option maxHeartbeats 8000000 in
theorem alike_calls (t u : T) (w : World) (c c2 : Array Value) (h1 : RdT w t c) (h2 : RdT w u c2) :
    Calls Try.prog 49 #[.agg c, .agg c2] w fun e w' => e = .returned (.bool (ownEq t u)) ∧ Below w.heap.size w w' := by
  obtain ⟨k, bits, hi, lo, text, more, sub, bs, kids⟩ := t
  obtain ⟨k2, bits2, hi2, lo2, text2, more2, sub2, bs2, kids2⟩ := u
  obtain ⟨ab, nb, cb, ak, nk, ck, rfl, hok, hrb, -, -, -⟩ := h1
  obtain ⟨ab2, nb2, cb2, ak2, nk2, ck2, rfl, hok2, hrb2, -, -, -⟩ := h2
  have hbx : Below w.heap.size w ((w.alloc (.cells (valCells k bits hi lo text more sub ab nb cb ak nk ck) 26)).alloc (.cells (valCells k2 bits2 hi2 lo2 text2 more2 sub2 ab2 nb2 cb2 ak2 nk2 ck2) 26)) := ((Below.refl _ _).alloc (Nat.le_refl _) _).alloc (by simp) _
  have CE := Lib.hid (equal_calls ab ab2 nb nb2 cb cb2 bs bs2 _ (hrb.keep hbx) (hrb2.keep hbx))
  obtain ⟨q, hq⟩ : ∃ q, q = (bs == bs2) := ⟨_, rfl⟩
  rw [← hq] at CE
  obtain ⟨r, hr⟩ : ∃ r, r = ownEq (.mk k bits hi lo text more sub bs kids) (.mk k2 bits2 hi2 lo2 text2 more2 sub2 bs2 kids2) := ⟨_, rfl⟩
  rw [← hr]
  have HR : Hid (r = (k == k2 && bits == bits2 && hi == hi2 && lo == lo2 && text.toList == text2.toList && more.toList == more2.toList && sub == sub2 && q)) := by
    show _ = _
    rw [hr, hq]; rfl
  have HBX := Lib.hid hbx
  clear hbx hrb hrb2 hok hok2 hr hq
  by_cases q0 : k = k2
  case neg =>
    have e1 : (k == k2) = false := by simpa using q0
    have HF : Hid (r = false) := by
      show _ = _
      rw [HR.out, show (k == k2) = false by simpa using q0]; simp
    clear HR CE
    go_enter Try.func49, Try.ntmps49
    go_wp2_with fail
    go_ret
    exact ⟨by rw [HF.out]; rfl, HBX.out⟩
  subst q0
  rw [show (k == k) = true by simp] at HR
  by_cases q1 : bits = bits2
  case neg =>
    have e1 : ((bits : Int) == (bits2 : Int)) = false := by simp; omega
    have HF : Hid (r = false) := by
      show _ = _
      rw [HR.out, show (bits == bits2) = false by simpa using q1]; simp
    clear HR CE
    go_enter Try.func49, Try.ntmps49
    go_wp2_with fail
    go_ret
    exact ⟨by rw [HF.out]; rfl, HBX.out⟩
  subst q1
  rw [show (bits == bits) = true by simp] at HR
  by_cases q2 : hi = hi2
  case neg =>
    have e1 : ((hi : Int) == (hi2 : Int)) = false := by simp; omega
    have HF : Hid (r = false) := by
      show _ = _
      rw [HR.out, show (hi == hi2) = false by simpa using q2]; simp
    clear HR CE
    go_enter Try.func49, Try.ntmps49
    go_wp2_with fail
    go_ret
    exact ⟨by rw [HF.out]; rfl, HBX.out⟩
  subst q2
  rw [show (hi == hi) = true by simp] at HR
  by_cases q3 : lo = lo2
  case neg =>
    have e1 : ((lo : Int) == (lo2 : Int)) = false := by simp; omega
    have HF : Hid (r = false) := by
      show _ = _
      rw [HR.out, show (lo == lo2) = false by simpa using q3]; simp
    clear HR CE
    go_enter Try.func49, Try.ntmps49
    go_wp2_with fail
    go_ret
    exact ⟨by rw [HF.out]; rfl, HBX.out⟩
  subst q3
  rw [show (lo == lo) = true by simp] at HR
  cases q4 : (text.toList == text2.toList) with
  | false =>
    have HF : Hid (r = false) := by show _ = _; rw [HR.out, q4]; simp
    clear HR CE
    go_enter Try.func49, Try.ntmps49
    go_wp2_with fail
    go_ret
    exact ⟨by rw [HF.out]; rfl, HBX.out⟩
  | true =>
  rw [q4] at HR
  cases q5 : (more.toList == more2.toList) with
  | false =>
    have HF : Hid (r = false) := by show _ = _; rw [HR.out, q5]; simp
    clear HR CE
    go_enter Try.func49, Try.ntmps49
    go_wp2_with fail
    go_ret
    exact ⟨by rw [HF.out]; rfl, HBX.out⟩
  | true =>
  rw [q5] at HR
  by_cases q6 : sub = sub2
  case neg =>
    have e1 : (sub == sub2) = false := by simpa using q6
    have HF : Hid (r = false) := by
      show _ = _
      rw [HR.out, show (sub == sub2) = false by simpa using q6]; simp
    clear HR CE
    go_enter Try.func49, Try.ntmps49
    go_wp2_with fail
    go_ret
    exact ⟨by rw [HF.out]; rfl, HBX.out⟩
  subst q6
  rw [show (sub == sub) = true by simp] at HR
  have HF : Hid (r = q) := by show _ = _; rw [HR.out]; simp
  clear HR
  go_enter Try.func49, Try.ntmps49
  go_wp2_with fail
  refine CE.out.mono ?_
  rintro e w1 ⟨rfl, rfl⟩
  go_wp2_with fail
  go_ret
  exact ⟨by rw [HF.out]; rfl, HBX.out⟩

end Go.Proofs.Ytiodjhcjfbnocaa
