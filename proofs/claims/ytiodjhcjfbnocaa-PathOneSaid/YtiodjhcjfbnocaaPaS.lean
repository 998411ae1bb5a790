/- The reference's Own and Same of trees. -/
import Derived.Test.YtiodjhcjfbnocaaPathP
import Derived.Test.YtiodjhcjfbnocaaWt
import Derived.Test.YtiodjhcjfbnocaaBook2
import Derived.Test.YtiodjhcjfbnocaaStr
import Derived.Deep.RegionHeld3
namespace Go.Proofs.Ytiodjhcjfbnocaa
open Go.RowKit
set_option linter.unusedVariables false
set_option linter.unusedSimpArgs false

theorem txt_beq (a b : List UInt8) : ((txt a).toList == (txt b).toList) = (a == b) := by
  rw [ByteArray.toList_eq, ByteArray.toList_eq]; rfl

set_option maxRecDepth 100000 in
set_option maxHeartbeats 8000000 in
theorem own_calls (t u : T) (w : World) (c c2 : Array Value) (h1 : RdT w t c) (h2 : RdT w u c2) :
    Calls Try.prog 40 #[.agg c, .agg c2] w fun e w' => e = .returned (.bool (ownEq t u)) ∧ Below w.heap.size w w' := by
  obtain ⟨k, bits, hi, lo, text, more, sub, bs, kids⟩ := t
  obtain ⟨k2, bits2, hi2, lo2, text2, more2, sub2, bs2, kids2⟩ := u
  obtain ⟨ab, nb, cb, ak, nk, ck, rfl, hok, hrb, -, -, -⟩ := h1
  obtain ⟨ab2, nb2, cb2, ak2, nk2, ck2, rfl, hok2, hrb2, -, -, -⟩ := h2
  have hbx : Below w.heap.size w ((w.alloc (.cells (valCells k bits hi lo text more sub ab nb cb ak nk ck) 26)).alloc (.cells (valCells k2 bits2 hi2 lo2 text2 more2 sub2 ab2 nb2 cb2 ak2 nk2 ck2) 26)) := ((Below.refl _ _).alloc (Nat.le_refl _) _).alloc (by simp) _
  have kc1 := conv_str (hrb.keep hbx) cb
  have kc2 := conv_str (hrb2.keep hbx) cb2
  obtain ⟨x1, hx1⟩ : ∃ x, x = txt bs := ⟨_, rfl⟩
  obtain ⟨x2, hx2⟩ : ∃ x, x = txt bs2 := ⟨_, rfl⟩
  have hxe : (bs == bs2) = (x1.toList == x2.toList) := by rw [hx1, hx2, txt_beq]
  rw [← hx1] at kc1
  rw [← hx2] at kc2
  obtain ⟨r, hr⟩ : ∃ r, r = ownEq (.mk k bits hi lo text more sub bs kids) (.mk k2 bits2 hi2 lo2 text2 more2 sub2 bs2 kids2) := ⟨_, rfl⟩
  rw [← hr]
  have HR : Hid (r = (k == k2 && bits == bits2 && hi == hi2 && lo == lo2 && text.toList == text2.toList && more.toList == more2.toList && sub == sub2 && (x1.toList == x2.toList))) := by
    show _ = _
    rw [hr, ← hxe]; rfl
  have HBX := Lib.hid hbx
  have HBX2 := Lib.hid hbx
  clear hbx hrb hrb2 hok hok2 hx1 hx2 hr hxe
  by_cases q0 : k = k2
  case neg =>
    have e1 : (k == k2) = false := by simpa using q0
    have HF : Hid (r = false) := by
      show _ = _
      rw [HR.out, show (k == k2) = false by simpa using q0]; simp
    clear HR
    go_enter Try.func40, Try.ntmps40
    go_wp2_with fail
    go_ret
    exact ⟨by rw [HF.out]; rfl, HBX.out⟩
  subst q0
  rw [show (k == k) = true by simp] at HR
  by_cases q1 : bits = bits2
  case neg =>
    have e1 : ((bits : Int) == (bits2 : Int)) = false := by simp; omega
    have HF : Hid (r = false) := by
      show _ = _
      rw [HR.out, show (bits == bits2) = false by simpa using q1]; simp
    clear HR
    go_enter Try.func40, Try.ntmps40
    go_wp2_with fail
    go_ret
    exact ⟨by rw [HF.out]; rfl, HBX.out⟩
  subst q1
  rw [show (bits == bits) = true by simp] at HR
  by_cases q2 : hi = hi2
  case neg =>
    have e1 : ((hi : Int) == (hi2 : Int)) = false := by simp; omega
    have HF : Hid (r = false) := by
      show _ = _
      rw [HR.out, show (hi == hi2) = false by simpa using q2]; simp
    clear HR
    go_enter Try.func40, Try.ntmps40
    go_wp2_with fail
    go_ret
    exact ⟨by rw [HF.out]; rfl, HBX.out⟩
  subst q2
  rw [show (hi == hi) = true by simp] at HR
  by_cases q3 : lo = lo2
  case neg =>
    have e1 : ((lo : Int) == (lo2 : Int)) = false := by simp; omega
    have HF : Hid (r = false) := by
      show _ = _
      rw [HR.out, show (lo == lo2) = false by simpa using q3]; simp
    clear HR
    go_enter Try.func40, Try.ntmps40
    go_wp2_with fail
    go_ret
    exact ⟨by rw [HF.out]; rfl, HBX.out⟩
  subst q3
  rw [show (lo == lo) = true by simp] at HR
  cases q4 : (text.toList == text2.toList) with
  | false =>
    have HF : Hid (r = false) := by show _ = _; rw [HR.out, q4]; simp
    clear HR
    go_enter Try.func40, Try.ntmps40
    go_wp2_with fail
    go_ret
    exact ⟨by rw [HF.out]; rfl, HBX.out⟩
  | true =>
  rw [q4] at HR
  cases q5 : (more.toList == more2.toList) with
  | false =>
    have HF : Hid (r = false) := by show _ = _; rw [HR.out, q5]; simp
    clear HR
    go_enter Try.func40, Try.ntmps40
    go_wp2_with fail
    go_ret
    exact ⟨by rw [HF.out]; rfl, HBX.out⟩
  | true =>
  rw [q5] at HR
  by_cases q6 : sub = sub2
  case neg =>
    have e1 : (sub == sub2) = false := by simpa using q6
    have HF : Hid (r = false) := by
      show _ = _
      rw [HR.out, show (sub == sub2) = false by simpa using q6]; simp
    clear HR
    go_enter Try.func40, Try.ntmps40
    go_wp2_with fail
    go_ret
    exact ⟨by rw [HF.out]; rfl, HBX.out⟩
  subst q6
  rw [show (sub == sub) = true by simp] at HR
  cases q7 : (x1.toList == x2.toList) with
  | false =>
    have HF : Hid (r = false) := by show _ = _; rw [HR.out, q7]; simp
    clear HR
    go_enter Try.func40, Try.ntmps40
    go_wp2_with fail
    go_ret
    exact ⟨by rw [HF.out]; rfl, HBX.out⟩
  | true =>
  rw [q7] at HR
  have HF : Hid (r = true) := by show _ = _; rw [HR.out]; rfl
  clear HR
  go_enter Try.func40, Try.ntmps40
  go_wp2_with fail
  go_ret
  exact ⟨by rw [HF.out]; rfl, HBX.out⟩

theorem sameF_get (a b : F) (j : Nat) (n n' : ByteArray) (v v' : T) (h : a.get? j = some (n, v)) (h' : b.get? j = some (n', v')) : sameF (a.drop j) (b.drop j) = ((n.toList == n'.toList) && sameT v v' && sameF (a.drop (j + 1)) (b.drop (j + 1))) := by
  rw [F.drop_get a j n v h, F.drop_get b j n' v' h']; rfl
theorem sameF_end (a b : F) (j : Nat) (h : a.len ≤ j) : sameF (a.drop j) (b.drop j) = true := by
  rw [F.drop_len a j h]; cases b.drop j <;> rfl

def TSame (d : Nat) : Prop := ∀ (t u : T), t.wt ≤ d → ∀ (w : World) (c c2 : Array Value), RdT w t c → RdT w u c2 →
  Calls Try.prog 22 #[.agg c, .agg c2] w fun e w' => e = .returned (.bool (sameT t u)) ∧ Below w.heap.size w w'
def TsRel (w1 : World) (g : Nat) (a b : F) (i : Value) (wr : World) : Prop := ∃ j : Nat, i = .int .i64 j ∧ j ≤ a.len ∧ Hid (sameF a b = sameF (a.drop j) (b.drop j)) ∧ Below g w1 wr

end Go.Proofs.Ytiodjhcjfbnocaa
