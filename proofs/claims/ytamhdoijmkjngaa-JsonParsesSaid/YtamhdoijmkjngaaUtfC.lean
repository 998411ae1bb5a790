/- The reference's Put. -/
import Derived.Test.YtamhdoijmkjngaaUtfP
namespace Go.Proofs.Ytamhdoijmkjngaa
open Go.RowKit
set_option linter.unusedVariables false
set_option linter.unusedSimpArgs false

set_option maxRecDepth 100000 in
set_option maxHeartbeats 1000000 in
theorem ris_calls (r : Int) (w : World) : Calls Try.prog 54 #[.int .i64 r] w fun e w' => e = .returned (.bool (isCh r)) ∧ w = w' := by
  have hv : r < 0 ∨ (0 ≤ r ∧ r < 55296) ∨ (55296 ≤ r ∧ r ≤ 57343) ∨ (57343 < r ∧ r ≤ 1114111) ∨ 1114111 < r := by omega
  rcases hv with h | ⟨h, h'⟩ | ⟨h, h'⟩ | ⟨h, h'⟩ | h
  · have e : isCh r = false := by unfold isCh; simp; omega
    rw [e]; clear e
    have d : decide (0 ≤ r) = false := by simp; omega
    go_enter Try.func54, Try.ntmps54
    go_wp2
    go_ret
    exact ⟨rfl, rfl⟩
  · have e : isCh r = true := by unfold isCh; simp; omega
    rw [e]; clear e
    go_enter Try.func54, Try.ntmps54
    go_wp2
    go_ret
    exact ⟨rfl, rfl⟩
  · have e : isCh r = false := by unfold isCh; simp; omega
    rw [e]; clear e
    have d : decide (r < 55296) = false := by simp; omega
    have d2 : decide (57343 < r) = false := by simp; omega
    go_enter Try.func54, Try.ntmps54
    go_wp2
    go_ret
    exact ⟨rfl, rfl⟩
  · have e : isCh r = true := by unfold isCh; simp; omega
    rw [e]; clear e
    have d : decide (r < 55296) = false := by simp; omega
    go_enter Try.func54, Try.ntmps54
    go_wp2
    go_ret
    exact ⟨rfl, rfl⟩
  · have e : isCh r = false := by unfold isCh; simp; omega
    rw [e]; clear e
    have d : decide (r ≤ 1114111) = false := by simp; omega
    go_enter Try.func54, Try.ntmps54
    go_wp2
    go_ret
    exact ⟨rfl, rfl⟩

set_option maxRecDepth 100000 in
set_option maxHeartbeats 1000000 in
theorem rput_calls (r : Int) (w : World) : Calls Try.prog 30 #[.int .i64 r] w (PutOut r w) := by
  have C := Lib.hid (ris_calls r w)
  cases hi : isCh r with
  | false =>
    rw [hi] at C
    have HP : ∀ e w', (e = .returned (.tuple #[.slice none 0 0, .bool false]) ∧ w = w') → PutOut r w e w' := fun e w' h => by unfold PutOut; rw [if_neg (by rw [hi]; simp)]; exact h
    refine Calls.mono ?_ HP
    clear hi HP
    go_enter Try.func30, Try.ntmps30
    go_wp2_with (go_at_call 54; refine C.out.mono ?_; rintro e w' ⟨rfl, rfl⟩)
    go_ret2
    exact ⟨rfl, rfl⟩
  | true =>
    rw [hi] at C
    have h0 : 0 ≤ r ∧ r ≤ 1114111 := by simp [isCh] at hi; omega
    obtain ⟨n, rfl⟩ : ∃ n : Nat, r = n := ⟨r.toNat, by omega⟩
    have HI := Lib.hid hi
    have hn : n ≤ 1114111 := by omega
    have hn0 : (0 : Int) ≤ (n : Int) := by omega
    have hn1 : (n : Int) ≤ 1114111 := by omega
    clear hi h0
    by_cases h1 : n < 128
    · have HC := Lib.hid (cells1 n h1)
      have HN : Hid (1 = (putL n).length) := by show _ = _; unfold putL; rw [if_pos h1]; rfl
      have q1 := wrap8 n (by omega)
      have g1 : decide ((n:Int) < 128) = true := by simp; omega
      clear h1 hn
      go_enter Try.func30, Try.ntmps30
      go_wp2_with (go_at_call 54; refine C.out.mono ?_; rintro e w' ⟨rfl, rfl⟩)
      go_ret2
      exact put_out HI.out HC.out.symm HN.out
    by_cases h2 : n < 2048
    · have HC := Lib.hid (cells2 n h1 h2)
      have HN : Hid (2 = (putL n).length) := by show _ = _; unfold putL; rw [if_neg h1, if_pos h2]; rfl
      obtain ⟨y0, hy0⟩ : ∃ y : Nat, y = 192 + n / 64 := ⟨_, rfl⟩
      obtain ⟨y1, hy1⟩ : ∃ y : Nat, y = 128 + n % 64 := ⟨_, rfl⟩
      rw [← hy0, ← hy1] at HC
      have q0 : IntKind.u8.wrap (192 + (n : Int) / 64) = (y0 : Int) := by rw [IntKind.wrap_u8']; omega
      have q1 : IntKind.u8.wrap (128 + (n : Int) % 64) = (y1 : Int) := by rw [IntKind.wrap_u8']; omega
      clear hy0 hy1
      have g1 : decide ((n:Int) < 128) = false := by simp; omega
      have g2 : decide ((n:Int) < 2048) = true := by simp; omega
      clear h1 h2 hn
      go_enter Try.func30, Try.ntmps30
      go_wp2_with (go_at_call 54; refine C.out.mono ?_; rintro e w' ⟨rfl, rfl⟩)
      go_ret2
      exact put_out HI.out HC.out.symm HN.out
    by_cases h3 : n < 65536
    · have HC := Lib.hid (cells3 n h1 h2 h3)
      have HN : Hid (3 = (putL n).length) := by show _ = _; unfold putL; rw [if_neg h1, if_neg h2, if_pos h3]; rfl
      obtain ⟨y0, hy0⟩ : ∃ y : Nat, y = 224 + n / 4096 := ⟨_, rfl⟩
      obtain ⟨y1, hy1⟩ : ∃ y : Nat, y = 128 + n / 64 % 64 := ⟨_, rfl⟩
      obtain ⟨y2, hy2⟩ : ∃ y : Nat, y = 128 + n % 64 := ⟨_, rfl⟩
      rw [← hy0, ← hy1, ← hy2] at HC
      have q0 : IntKind.u8.wrap (224 + (n : Int) / 4096) = (y0 : Int) := by rw [IntKind.wrap_u8']; omega
      have q1 : IntKind.u8.wrap (128 + (n : Int) / 64 % 64) = (y1 : Int) := by rw [IntKind.wrap_u8']; omega
      have q2 : IntKind.u8.wrap (128 + (n : Int) % 64) = (y2 : Int) := by rw [IntKind.wrap_u8']; omega
      clear hy0 hy1 hy2
      have g1 : decide ((n:Int) < 128) = false := by simp; omega
      have g2 : decide ((n:Int) < 2048) = false := by simp; omega
      have g3 : decide ((n:Int) < 65536) = true := by simp; omega
      clear h1 h2 h3 hn
      go_enter Try.func30, Try.ntmps30
      go_wp2_with (go_at_call 54; refine C.out.mono ?_; rintro e w' ⟨rfl, rfl⟩)
      go_ret2
      exact put_out HI.out HC.out.symm HN.out
    · have HC := Lib.hid (cells4 n h1 h2 h3 (by omega))
      have HN : Hid (4 = (putL n).length) := by show _ = _; unfold putL; rw [if_neg h1, if_neg h2, if_neg h3]; rfl
      obtain ⟨y0, hy0⟩ : ∃ y : Nat, y = 240 + n / 262144 := ⟨_, rfl⟩
      obtain ⟨y1, hy1⟩ : ∃ y : Nat, y = 128 + n / 4096 % 64 := ⟨_, rfl⟩
      obtain ⟨y2, hy2⟩ : ∃ y : Nat, y = 128 + n / 64 % 64 := ⟨_, rfl⟩
      obtain ⟨y3, hy3⟩ : ∃ y : Nat, y = 128 + n % 64 := ⟨_, rfl⟩
      rw [← hy0, ← hy1, ← hy2, ← hy3] at HC
      have q0 : IntKind.u8.wrap (240 + (n : Int) / 262144) = (y0 : Int) := by rw [IntKind.wrap_u8']; omega
      have q1 : IntKind.u8.wrap (128 + (n : Int) / 4096 % 64) = (y1 : Int) := by rw [IntKind.wrap_u8']; omega
      have q2 : IntKind.u8.wrap (128 + (n : Int) / 64 % 64) = (y2 : Int) := by rw [IntKind.wrap_u8']; omega
      have q3 : IntKind.u8.wrap (128 + (n : Int) % 64) = (y3 : Int) := by rw [IntKind.wrap_u8']; omega
      clear hy0 hy1 hy2 hy3
      have g1 : decide ((n:Int) < 128) = false := by simp; omega
      have g2 : decide ((n:Int) < 2048) = false := by simp; omega
      have g3 : decide ((n:Int) < 65536) = false := by simp; omega
      clear h1 h2 h3 hn
      go_enter Try.func30, Try.ntmps30
      go_wp2_with (go_at_call 54; refine C.out.mono ?_; rintro e w' ⟨rfl, rfl⟩)
      go_ret2
      exact put_out HI.out HC.out.symm HN.out

end Go.Proofs.Ytamhdoijmkjngaa
