/- Digits within a text: by the program, by the reference. -/
import Derived.Test.YtamhdoijmkjngaaSl
namespace Go.Proofs.Ytamhdoijmkjngaa
open Go.RowKit
set_option linter.unusedVariables false
set_option linter.unusedSimpArgs false

theorem isDig_iff (c : UInt8) : isDig c = true ↔ 48 ≤ c.toNat ∧ c.toNat ≤ 57 := by
  unfold isDig; simp [UInt8.le_iff_toNat_le]

theorem digs_cons (c : UInt8) (r : List UInt8) : digs (c :: r) = if 48 ≤ c.toNat ∧ c.toNat ≤ 57 then digs r + 1 else 0 := by
  simp only [digs]
  by_cases h : isDig c = true
  · rw [if_pos h, if_pos ((isDig_iff c).1 h)]
  · rw [if_neg h, if_neg (fun e => h ((isDig_iff c).2 e))]

set_option maxRecDepth 100000 in
set_option maxHeartbeats 1000000 in
theorem digits_calls (s : ByteArray) (hs : s.size ≤ 1000000) (p : Nat) (hp : p ≤ s.size) (w : World) :
    Calls Try.prog 65 #[.string s, .int .i64 p] w fun e w' => e = .returned (.int .i64 ((p + digs ((sl s).drop p) : Nat) : Int)) ∧ w = w' := by
  obtain ⟨R, hR⟩ : ∃ R : Nat, R = p + digs ((sl s).drop p) := ⟨_, rfl⟩
  rw [← hR]
  have HR := Lib.hid hR
  clear hR
  go_enter Try.func65, Try.ntmps65
  go_wp2_with fail
  go_loop [1] (fun x => ∃ q : Nat, x = .int .i64 q ∧ q ≤ s.size ∧ Hid (R = q + digs ((sl s).drop q))) (fun x => s.size - (intOf x).toNat)
  case atStart => exact ⟨p, rfl, hp, HR⟩
  case round =>
    obtain ⟨q, rfl, hq, hz⟩ := hrel
    by_cases hlt : q < s.size
    · have hd := sl_drop hlt
      have hdc := digs_cons (s[q]'hlt) ((sl s).drop (q + 1))
      rw [← hd] at hdc
      have HD := Lib.hid hdc
      clear hd hdc
      by_cases h1 : 48 ≤ (s[q]'hlt).toNat
      · by_cases h2 : (s[q]'hlt).toNat ≤ 57
        · have HN : Hid (R = q + 1 + digs ((sl s).drop (q + 1))) := by
            show _ = _
            rw [hz.out, HD.out, if_pos ⟨h1, h2⟩]; omega
          go_wp2_with fail
          go_round
          case rel => exact ⟨q + 1, by simp, by omega, HN⟩
          case measure => simp [intOf]; omega
        · have HN : Hid (R = q) := by
            show _ = _
            rw [hz.out, HD.out, if_neg (by omega)]; omega
          go_wp2_with fail
          go_ret
          exact ⟨by rw [HN.out]; rfl, rfl⟩
      · have HN : Hid (R = q) := by
          show _ = _
          rw [hz.out, HD.out, if_neg (by omega)]; omega
        go_wp2_with fail
        go_ret
        exact ⟨by rw [HN.out]; rfl, rfl⟩
    · obtain rfl : q = s.size := by omega
      have HN : Hid (R = s.size) := by
        show _ = _
        rw [hz.out, List.drop_of_length_le (by rw [sl_len]; omega)]; rfl
      go_wp2_with fail
      go_ret
      exact ⟨by rw [HN.out]; rfl, rfl⟩

set_option maxRecDepth 100000 in
set_option maxHeartbeats 1000000 in
theorem run_calls (s : ByteArray) (hs : s.size ≤ 1000000) (w : World) :
    Calls Try.prog 67 #[.string s] w fun e w' => e = .returned (.int .i64 ((digs (sl s) : Nat) : Int)) ∧ w = w' := by
  obtain ⟨R, hR⟩ : ∃ R : Nat, R = digs (sl s) := ⟨_, rfl⟩
  rw [← hR]
  have HR := Lib.hid hR
  clear hR
  go_enter Try.func67, Try.ntmps67
  go_wp2_with fail
  go_loop [3] (fun x => ∃ q : Nat, x = .int .i64 q ∧ q ≤ s.size ∧ Hid (R = q + digs ((sl s).drop q))) (fun x => s.size - (intOf x).toNat)
  case atStart => exact ⟨0, rfl, by omega, by show _ = _; rw [HR.out]; simp⟩
  case round =>
    obtain ⟨q, rfl, hq, hz⟩ := hrel
    by_cases hlt : q < s.size
    · have hd := sl_drop hlt
      have hdc := digs_cons (s[q]'hlt) ((sl s).drop (q + 1))
      rw [← hd] at hdc
      have HD := Lib.hid hdc
      clear hd hdc
      by_cases h1 : 48 ≤ (s[q]'hlt).toNat
      · by_cases h2 : (s[q]'hlt).toNat ≤ 57
        · have HN : Hid (R = q + 1 + digs ((sl s).drop (q + 1))) := by
            show _ = _
            rw [hz.out, HD.out, if_pos ⟨h1, h2⟩]; omega
          go_wp2_with fail
          go_round
          case rel => exact ⟨q + 1, by simp, by omega, HN⟩
          case measure => simp [intOf]; omega
        · have HN : Hid (R = q) := by
            show _ = _
            rw [hz.out, HD.out, if_neg (by omega)]; omega
          go_wp2_with fail
          go_ret
          exact ⟨by rw [HN.out]; rfl, rfl⟩
      · have HN : Hid (R = q) := by
          show _ = _
          rw [hz.out, HD.out, if_neg (by omega)]; omega
        go_wp2_with fail
        go_ret
        exact ⟨by rw [HN.out]; rfl, rfl⟩
    · obtain rfl : q = s.size := by omega
      have HN : Hid (R = s.size) := by
        show _ = _
        rw [hz.out, List.drop_of_length_le (by rw [sl_len]; omega)]; rfl
      go_wp2_with fail
      go_ret
      exact ⟨by rw [HN.out]; rfl, rfl⟩

end Go.Proofs.Ytamhdoijmkjngaa
