/- The statements' own look (awake), and FramesLengths. -/
import Derived.Test.YtcoapmfbibjjpaaFrames3
import Derived.Test.YtcoapmfbibjjpaaFrLib
import Derived.Test.YtcoapmfbibjjpaaOpen
namespace Go.Proofs.Ytcoapmfbibjjpaa
open Go.RowKit
set_option linter.unusedVariables false
set_option linter.unusedSimpArgs false

theorem cut_awake : cutAll [5, 0, 0, 0, 0, 5] 100 = ([(0, 5)], 2, 5) := by decide +kernel

set_option maxRecDepth 100000 in
set_option maxHeartbeats 1000000 in
theorem awake34 (w : World) : Calls Try.prog 15 #[] w fun e w' => e = .returned (.bool true) ∧ Below w.heap.size w w' := by
  have hr : RdB (w.alloc (.cells #[.int .u8 5, .int .u8 0, .int .u8 0, .int .u8 0, .int .u8 0, .int .u8 5] 5)) (some ⟨w.heap.size, 0, none⟩) 6 [5, 0, 0, 0, 0, 5] := by
    refine ⟨rfl, by omega, fun i hi => ⟨_, _, rfl, ?_⟩⟩
    match i, hi with
    | 0, _ | 1, _ | 2, _ | 3, _ | 4, _ | 5, _ => simp [bAt]
  have c := cut_calls _ 6 6 100 _ _ hr (by omega)
  rw [cut_awake] at c
  have C := Lib.hid c
  clear c hr
  go_enter Try.func15, Try.ntmps15
  go_wp2_with fail
  refine (C.out.mono fun _ _ h => h.reads).mono ?_
  rintro e w1 ⟨a, cap, rfl, hm, hs, hb⟩
  obtain ⟨b, o, rfl, c1, c2⟩ := hs 0 (by decide)
  have hz := hb.size
  simp at hz
  clear hs
  simp at c1 c2
  have q1 := cell_block c1
  simp at q1
  have q2 : b ≠ w1.heap.size := by omega
  go_wp2_with fail
  go_ret
  exact ⟨rfl, (((Below.refl w.heap.size w).alloc (Nat.le_refl _) _).trans (hb.mono (by simp))).alloc (by omega) _⟩

set_option maxRecDepth 100000 in
set_option maxHeartbeats 1000000 in
theorem FramesLengths_walk (w : World) (a : Option Addr) (len cap : Nat) (l : List UInt8) (h : RdB w a len l) (p : Int) (hp : (Lit.int .i64 p).wf = true) :
    Calls Try.prog 3 #[.slice a len cap, .int .i64 p] w fun e w' => e = .returned (.bool true) ∧ Below w.heap.size w w' := by
  have hp' := wf_i64 hp
  have H := Lib.hid h
  have hm := h.2.1
  clear h hp
  by_cases hl : 200 < len
  · go_enter Try.func3, Try.ntmps3
    go_wp2_with (go_at_call 15; refine (awake34 _).mono ?_; rintro e w1 ⟨rfl, hb⟩)
    go_ret
    exact ⟨rfl, hb⟩
  · by_cases hv : 0 ≤ p ∧ p + 4 ≤ len
    · obtain ⟨n, rfl⟩ : ∃ n : Nat, p = n := ⟨p.toNat, by omega⟩
      go_enter Try.func3, Try.ntmps3
      go_wp2_with (first | (go_at_call 15; refine (awake34 _).mono ?_; rintro e w1 ⟨rfl, hb⟩) | (go_at_call 16; refine (length_yes _ _ _ _ _ _ (H.out.keep hb) (by omega)).mono ?_; rintro e w2 ⟨rfl, nd, rfl⟩) | (go_at_call 17; refine (rlength_yes _ _ _ _ _ _ (H.out.keep (Below_drewN hb)) (by omega)).mono ?_; rintro e w2 ⟨rfl, rfl⟩))
      go_ret
      exact ⟨rfl, Below_drewN hb⟩
    · have hv' : p < 0 ∨ (len : Int) < p + 4 := by omega
      have HV := Lib.hid hv'
      clear hv hv'
      go_enter Try.func3, Try.ntmps3
      go_wp2_with (first | (go_at_call 15; refine (awake34 _).mono ?_; rintro e w1 ⟨rfl, hb⟩) | (go_at_call 16; refine (length_no _ _ _ _ _ hm HV.out hp'.2).mono ?_; rintro e w2 ⟨rfl, rfl⟩) | (go_at_call 17; refine (rlength_no _ _ _ _ _ hm HV.out hp'.2).mono ?_; rintro e w2 ⟨rfl, rfl⟩))
      go_ret
      exact ⟨rfl, hb⟩
end Go.Proofs.Ytcoapmfbibjjpaa
