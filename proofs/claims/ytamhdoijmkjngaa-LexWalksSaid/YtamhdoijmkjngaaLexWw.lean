/- LexWalks: the walk. -/
import Derived.Test.YtamhdoijmkjngaaLexO
namespace Go.Proofs.Ytamhdoijmkjngaa
open Go.RowKit
set_option linter.unusedVariables false
set_option linter.unusedSimpArgs false

set_option maxRecDepth 100000 in
set_option maxHeartbeats 8000000 in
theorem LexWalks_walk (w : World) (s : ByteArray) (hs9 : s.size ≤ 9223372036854775807) :
    Calls Try.prog 9 #[.string s] w fun e w' => e = .returned (.bool true) ∧ Below w.heap.size w w' := by
  have CA := fun W => Lib.hid (awake22 W)
  by_cases h3 : 300 < s.size
  · have d3 : decide ((300 : Int) < (s.size : Int)) = true := by simp; omega
    go_enter Try.func9, Try.ntmps9
    go_wp2_with fail
    refine (CA _).out.mono ?_
    rintro e w1 ⟨rfl, hb1⟩
    go_wp2_with fail
    go_ret
    exact ⟨rfl, hb1⟩
  have d3 : decide ((300 : Int) < (s.size : Int)) = false := by simp; omega
  have hs : s.size ≤ 300 := by omega
  go_enter Try.func9, Try.ntmps9
  go_wp2_with fail
  refine (CA _).out.mono ?_
  rintro e w1 ⟨rfl, hb1⟩
  have HB1 := Lib.hid hb1
  clear hb1
  go_wp2_with fail
  go_loopw [3, 4, 5, 6] (fun x y _ _ wr => ∃ p i : Nat, x = .int .i64 p ∧ y = .int .i64 i ∧ i ≤ p ∧ p ≤ s.size ∧ Hid (Below w.heap.size w wr)) (fun _ y _ _ _ => s.size + 1 - (intOf y).toNat)
  case atStart => exact ⟨0, 0, rfl, rfl, by omega, by omega, HB1⟩
  case round =>
    obtain ⟨p, i, rfl, rfl, hip, hp, HB⟩ := hrel
    have CN := fun W => Lib.hid (next_calls s (by omega) (p : Int) (by omega) W)
    have hbd := nextAt_bd (sl s) p (by rw [sl_len]; exact hp)
    have herr := nextI_err (sl s) (p : Int)
    rw [nextI_nat] at CN herr
    rw [sl_len] at hbd
    obtain ⟨R, hR⟩ : ∃ R, nextAt (sl s) p = R := ⟨_, rfl⟩
    rw [hR] at CN hbd herr
    clear hR
    cases R with
    | err x a =>
      simp only [NextOk] at hbd
      obtain ⟨b1, b2⟩ := hbd
      have hx := herr x a rfl
      have e1 : ((x : Int) == 0) = false := by simp; omega
      have e2 : ((x : Int) != 0) = true := by simp; omega
      have e3 : decide ((p : Int) ≤ a) = true := by simp; omega
      have e4 : decide ((a : Int) < s.size) = true := by simp; omega
      clear herr hx
      go_wp2_with fail
      refine (CN _).out.mono ?_
      rintro e w2 ⟨rfl, hb2⟩
      have HB2 := Lib.hid (HB.out.trans (hb2.mono HB.out.size))
      clear hb2
      simp only [tokV, errV]
      go_wp2_with fail
      go_ret
      exact ⟨rfl, (HB2.out.alloc (HB2.out.size) _).alloc (by have := HB2.out.size; simp; omega) _⟩
    | tok k a e t =>
      simp only [NextOk] at hbd
      obtain ⟨b1, b2, b3, b4, b5⟩ := hbd
      clear herr
      by_cases hk : k = 1
      · subst hk
        obtain ⟨rfl, rfl⟩ := b3 rfl
        clear b3 b4
        go_wp2_with fail
        refine (CN _).out.mono ?_
        rintro e w2 ⟨rfl, hb2⟩
        have HB2 := Lib.hid (HB.out.trans (hb2.mono HB.out.size))
        clear hb2
        simp only [tokV, errV]
        go_wp2_with fail
        go_ret
        exact ⟨rfl, (HB2.out.alloc (HB2.out.size) _).alloc (by have := HB2.out.size; simp; omega) _⟩
      · have b4' := b4 hk
        have e1 : ((k : Int) == 1) = false := by simp; omega
        have e2 : ((k : Int) != 1) = true := by simp; omega
        have e3 : decide ((a : Int) < p) = false := by simp; omega
        have e4 : decide ((s.size : Int) < e) = false := by simp; omega
        have e5 : decide ((e : Int) ≤ a) = false := by simp; omega
        clear b3 b4
        go_wp2_with fail
        refine (CN _).out.mono ?_
        rintro e w2 ⟨rfl, hb2⟩
        have HB2 := Lib.hid (HB.out.trans (hb2.mono HB.out.size))
        clear hb2
        simp only [tokV, errV]
        go_wp2_with fail
        go_roundw
        case rel => exact ⟨_, i + 1, rfl, by simp, by omega, by omega, Lib.hid ((HB2.out.alloc (HB2.out.size) _).alloc (by have := HB2.out.size; simp; omega) _)⟩
        case measure => simp [intOf]; omega

end Go.Proofs.Ytamhdoijmkjngaa
