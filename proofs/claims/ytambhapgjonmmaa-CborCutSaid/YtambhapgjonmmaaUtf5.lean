/- The reference's Rune at more bytes than one, walked. -/
import Derived.Test.YtambhapgjonmmaaUtf4
namespace Go.Proofs.Ytambhapgjonmmaa
open Go.RowKit
set_option linter.unusedVariables false
set_option linter.unusedSimpArgs false

set_option maxRecDepth 100000 in
set_option maxHeartbeats 2000000 in
theorem rrune_2 (a : Option Addr) (len cap p : Nat) (w : World) (l : List UInt8) (h : RdB w a len l) (hp : p < len) (h1 : 192 ≤ bAt l p) (h2 : bAt l p < 224) :
    Calls Try.prog 59 #[.slice a len cap, .int .i64 p] w fun e w' => e = .returned (.tuple #[.int .i64 ((more l p 2 (bAt l p - 192) 128).1 : Nat), .int .i64 ((more l p 2 (bAt l p - 192) 128).2 : Nat)]) ∧ w = w' := by
  have hm := h.2.1
  unfold more
  rw [h.1]
  obtain ⟨b, o, rfl, hcc⟩ := h.at p hp
  have H := Lib.hid h
  clear h
  generalize hc : bAt l p = c at hcc h1 h2
  have HC := Lib.hid hc
  clear hc
  have d0 : decide ((p : Int) < 0) = false := by simp
  have d1 : decide ((len : Int) ≤ (p : Int)) = false := by simp; omega
  have q0 : IntKind.i64.wrap ((len : Int) - (p : Int)) = (len : Int) - (p : Int) := IntWalk.i64_in _ (by omega)
  by_cases hs : len < p + 2
  · rw [if_pos hs]
    have d2 : decide ((len : Int) - (p : Int) < 2) = true := by simp; omega
    go_enter Try.func59, Try.ntmps59
    go_wp2_with fail
    go_ret2
    exact ⟨rfl, rfl⟩
  · rw [if_neg hs]
    have d2 : decide ((len : Int) - (p : Int) < 2) = false := by simp; omega
    obtain ⟨r0, hr0⟩ : ∃ r : Nat, r = c - 192 := ⟨_, rfl⟩
    have hr0' : (c : Int) - 192 = (r0 : Int) := by omega
    rw [← hr0]
    have hrb : r0 < 32 := by omega
    clear hr0
    go_enter Try.func59, Try.ntmps59
    go_wp2_with fail
    go_loop [8, 10] (fun r i => ∃ k rr : Nat, 1 ≤ k ∧ k ≤ 2 ∧ i = .int .i64 k ∧ r = .int .i64 rr ∧ Hid (tails l (k - 1) (p + 1) r0 = some rr) ∧ (k = 1 → rr < 32) ∧ (k = 2 → rr < 2048) ∧ (k = 3 → rr < 131072) ∧ rr < 8388608) (fun _ i => 2 - (intOf i).toNat)
    case atStart => exact ⟨1, r0, by omega, by omega, rfl, rfl, rfl, by omega, by omega, by omega, by omega⟩
    case round =>
      obtain ⟨k, rr, hk1, hk, rfl, rfl, ht, b1, b2, b3, b4⟩ := hrel
      by_cases hlt : k < 2
      · obtain ⟨b', o', ha', hx⟩ := H.out.at (p + k) (by omega)
        simp only [Option.some.injEq, Addr.mk.injEq, and_true] at ha'
        obtain ⟨rfl, rfl⟩ := ha'
        have hxb := bAt_bd l (p + k)
        have hsn := tails_snoc l (k - 1) (p + 1) r0 rr ht.out
        rw [show k - 1 + 1 = k from by omega, show p + 1 + (k - 1) = p + k from by omega] at hsn
        generalize bAt l (p + k) = x at hx hxb hsn
        have j0 : (0 : Int) ≤ (p : Int) + (k : Int) := by omega
        have j1 : (p : Int) + (k : Int) < (len : Int) := by omega
        have j3 : ((p : Int) + (k : Int)).toNat = p + k := by omega
        by_cases hx1 : 128 ≤ x ∧ x < 192
        · rw [if_pos hx1] at hsn
          obtain ⟨h3, h4⟩ := hx1
          have HS := Lib.hid hsn
          have hw : (rr : Int) * 64 + (x : Int) - 128 = ((rr * 64 + (x - 128) : Nat) : Int) := by omega
          have HW := Lib.hid hw
          clear hsn hw
          go_wp2_with fail
          go_round
          case rel => exact ⟨_, _, _, _, ⟨k + 1, by omega, by omega, by simp, rr * 64 + (x - 128), by rw [HW.out], HS.out, by omega, by omega, by omega, by omega⟩, rfl, rfl, rfl, rfl⟩
          case measure => simp [intOf]; omega
        · rw [if_neg hx1] at hsn
          have hn := tails_none l k (1 - k) (p + 1) r0 hsn
          rw [show k + (1 - k) = 1 from by omega] at hn
          have HN := Lib.hid hn
          clear hsn hn
          rcases (show x < 128 ∨ 192 ≤ x by omega) with g | g
          all_goals
            clear hx1
            go_wp2_with fail
            go_ret2
            exact ⟨by rw [HN.out]; rfl, rfl⟩
      · obtain rfl : k = 2 := by omega
        have HT : Hid (tails l 1 (p + 1) r0 = some rr) := ht
        clear ht b1 b2 b3
        rcases (show rr < 128 ∨ (128 ≤ rr ∧ 1114111 < rr) ∨ (128 ≤ rr ∧ 55296 ≤ rr ∧ rr ≤ 57343) ∨ (128 ≤ rr ∧ rr < 55296) ∨ (128 ≤ rr ∧ 57343 < rr ∧ rr ≤ 1114111) by omega) with g | ⟨g, g2⟩ | ⟨g, g2, g3⟩ | ⟨g, g2⟩ | ⟨g, g2, g3⟩
        · have HF : Hid (fin (some rr) 2 128 = (0, 0)) := by show fin _ _ _ = _; unfold fin; simp only; rw [if_pos (.inl g)]
          go_wp2_with fail
          go_ret2
          exact ⟨by rw [HT.out, HF.out]; rfl, rfl⟩
        · have HF : Hid (fin (some rr) 2 128 = (0, 0)) := by show fin _ _ _ = _; unfold fin; simp only; rw [if_pos (.inr (by unfold isCh; simp; omega))]
          go_wp2_with fail
          go_ret2
          exact ⟨by rw [HT.out, HF.out]; rfl, rfl⟩
        · have HF : Hid (fin (some rr) 2 128 = (0, 0)) := by show fin _ _ _ = _; unfold fin; simp only; rw [if_pos (.inr (by unfold isCh; simp; omega))]
          go_wp2_with fail
          go_ret2
          exact ⟨by rw [HT.out, HF.out]; rfl, rfl⟩
        · have HF : Hid (fin (some rr) 2 128 = (rr, 2)) := by show fin _ _ _ = _; unfold fin; simp only; rw [if_neg (by unfold isCh; simp; omega)]
          go_wp2_with fail
          go_ret2
          exact ⟨by rw [HT.out, HF.out]; rfl, rfl⟩
        · have HF : Hid (fin (some rr) 2 128 = (rr, 2)) := by show fin _ _ _ = _; unfold fin; simp only; rw [if_neg (by unfold isCh; simp; omega)]
          go_wp2_with fail
          go_ret2
          exact ⟨by rw [HT.out, HF.out]; rfl, rfl⟩
set_option maxRecDepth 100000 in
set_option maxHeartbeats 2000000 in
theorem rrune_3 (a : Option Addr) (len cap p : Nat) (w : World) (l : List UInt8) (h : RdB w a len l) (hp : p < len) (h1 : 224 ≤ bAt l p) (h2 : bAt l p < 240) :
    Calls Try.prog 59 #[.slice a len cap, .int .i64 p] w fun e w' => e = .returned (.tuple #[.int .i64 ((more l p 3 (bAt l p - 224) 2048).1 : Nat), .int .i64 ((more l p 3 (bAt l p - 224) 2048).2 : Nat)]) ∧ w = w' := by
  have hm := h.2.1
  unfold more
  rw [h.1]
  obtain ⟨b, o, rfl, hcc⟩ := h.at p hp
  have H := Lib.hid h
  clear h
  generalize hc : bAt l p = c at hcc h1 h2
  have HC := Lib.hid hc
  clear hc
  have d0 : decide ((p : Int) < 0) = false := by simp
  have d1 : decide ((len : Int) ≤ (p : Int)) = false := by simp; omega
  have q0 : IntKind.i64.wrap ((len : Int) - (p : Int)) = (len : Int) - (p : Int) := IntWalk.i64_in _ (by omega)
  by_cases hs : len < p + 3
  · rw [if_pos hs]
    have d2 : decide ((len : Int) - (p : Int) < 3) = true := by simp; omega
    go_enter Try.func59, Try.ntmps59
    go_wp2_with fail
    go_ret2
    exact ⟨rfl, rfl⟩
  · rw [if_neg hs]
    have d2 : decide ((len : Int) - (p : Int) < 3) = false := by simp; omega
    obtain ⟨r0, hr0⟩ : ∃ r : Nat, r = c - 224 := ⟨_, rfl⟩
    have hr0' : (c : Int) - 224 = (r0 : Int) := by omega
    rw [← hr0]
    have hrb : r0 < 32 := by omega
    clear hr0
    go_enter Try.func59, Try.ntmps59
    go_wp2_with fail
    go_loop [8, 10] (fun r i => ∃ k rr : Nat, 1 ≤ k ∧ k ≤ 3 ∧ i = .int .i64 k ∧ r = .int .i64 rr ∧ Hid (tails l (k - 1) (p + 1) r0 = some rr) ∧ (k = 1 → rr < 32) ∧ (k = 2 → rr < 2048) ∧ (k = 3 → rr < 131072) ∧ rr < 8388608) (fun _ i => 3 - (intOf i).toNat)
    case atStart => exact ⟨1, r0, by omega, by omega, rfl, rfl, rfl, by omega, by omega, by omega, by omega⟩
    case round =>
      obtain ⟨k, rr, hk1, hk, rfl, rfl, ht, b1, b2, b3, b4⟩ := hrel
      by_cases hlt : k < 3
      · obtain ⟨b', o', ha', hx⟩ := H.out.at (p + k) (by omega)
        simp only [Option.some.injEq, Addr.mk.injEq, and_true] at ha'
        obtain ⟨rfl, rfl⟩ := ha'
        have hxb := bAt_bd l (p + k)
        have hsn := tails_snoc l (k - 1) (p + 1) r0 rr ht.out
        rw [show k - 1 + 1 = k from by omega, show p + 1 + (k - 1) = p + k from by omega] at hsn
        generalize bAt l (p + k) = x at hx hxb hsn
        have j0 : (0 : Int) ≤ (p : Int) + (k : Int) := by omega
        have j1 : (p : Int) + (k : Int) < (len : Int) := by omega
        have j3 : ((p : Int) + (k : Int)).toNat = p + k := by omega
        by_cases hx1 : 128 ≤ x ∧ x < 192
        · rw [if_pos hx1] at hsn
          obtain ⟨h3, h4⟩ := hx1
          have HS := Lib.hid hsn
          have hw : (rr : Int) * 64 + (x : Int) - 128 = ((rr * 64 + (x - 128) : Nat) : Int) := by omega
          have HW := Lib.hid hw
          clear hsn hw
          go_wp2_with fail
          go_round
          case rel => exact ⟨_, _, _, _, ⟨k + 1, by omega, by omega, by simp, rr * 64 + (x - 128), by rw [HW.out], HS.out, by omega, by omega, by omega, by omega⟩, rfl, rfl, rfl, rfl⟩
          case measure => simp [intOf]; omega
        · rw [if_neg hx1] at hsn
          have hn := tails_none l k (2 - k) (p + 1) r0 hsn
          rw [show k + (2 - k) = 2 from by omega] at hn
          have HN := Lib.hid hn
          clear hsn hn
          rcases (show x < 128 ∨ 192 ≤ x by omega) with g | g
          all_goals
            clear hx1
            go_wp2_with fail
            go_ret2
            exact ⟨by rw [HN.out]; rfl, rfl⟩
      · obtain rfl : k = 3 := by omega
        have HT : Hid (tails l 2 (p + 1) r0 = some rr) := ht
        clear ht b1 b2 b3
        rcases (show rr < 2048 ∨ (2048 ≤ rr ∧ 1114111 < rr) ∨ (2048 ≤ rr ∧ 55296 ≤ rr ∧ rr ≤ 57343) ∨ (2048 ≤ rr ∧ rr < 55296) ∨ (2048 ≤ rr ∧ 57343 < rr ∧ rr ≤ 1114111) by omega) with g | ⟨g, g2⟩ | ⟨g, g2, g3⟩ | ⟨g, g2⟩ | ⟨g, g2, g3⟩
        · have HF : Hid (fin (some rr) 3 2048 = (0, 0)) := by show fin _ _ _ = _; unfold fin; simp only; rw [if_pos (.inl g)]
          go_wp2_with fail
          go_ret2
          exact ⟨by rw [HT.out, HF.out]; rfl, rfl⟩
        · have HF : Hid (fin (some rr) 3 2048 = (0, 0)) := by show fin _ _ _ = _; unfold fin; simp only; rw [if_pos (.inr (by unfold isCh; simp; omega))]
          go_wp2_with fail
          go_ret2
          exact ⟨by rw [HT.out, HF.out]; rfl, rfl⟩
        · have HF : Hid (fin (some rr) 3 2048 = (0, 0)) := by show fin _ _ _ = _; unfold fin; simp only; rw [if_pos (.inr (by unfold isCh; simp; omega))]
          go_wp2_with fail
          go_ret2
          exact ⟨by rw [HT.out, HF.out]; rfl, rfl⟩
        · have HF : Hid (fin (some rr) 3 2048 = (rr, 3)) := by show fin _ _ _ = _; unfold fin; simp only; rw [if_neg (by unfold isCh; simp; omega)]
          go_wp2_with fail
          go_ret2
          exact ⟨by rw [HT.out, HF.out]; rfl, rfl⟩
        · have HF : Hid (fin (some rr) 3 2048 = (rr, 3)) := by show fin _ _ _ = _; unfold fin; simp only; rw [if_neg (by unfold isCh; simp; omega)]
          go_wp2_with fail
          go_ret2
          exact ⟨by rw [HT.out, HF.out]; rfl, rfl⟩
set_option maxRecDepth 100000 in
set_option maxHeartbeats 2000000 in
theorem rrune_4 (a : Option Addr) (len cap p : Nat) (w : World) (l : List UInt8) (h : RdB w a len l) (hp : p < len) (h1 : 240 ≤ bAt l p) (h2 : bAt l p < 248) :
    Calls Try.prog 59 #[.slice a len cap, .int .i64 p] w fun e w' => e = .returned (.tuple #[.int .i64 ((more l p 4 (bAt l p - 240) 65536).1 : Nat), .int .i64 ((more l p 4 (bAt l p - 240) 65536).2 : Nat)]) ∧ w = w' := by
  have hm := h.2.1
  unfold more
  rw [h.1]
  obtain ⟨b, o, rfl, hcc⟩ := h.at p hp
  have H := Lib.hid h
  clear h
  generalize hc : bAt l p = c at hcc h1 h2
  have HC := Lib.hid hc
  clear hc
  have d0 : decide ((p : Int) < 0) = false := by simp
  have d1 : decide ((len : Int) ≤ (p : Int)) = false := by simp; omega
  have q0 : IntKind.i64.wrap ((len : Int) - (p : Int)) = (len : Int) - (p : Int) := IntWalk.i64_in _ (by omega)
  by_cases hs : len < p + 4
  · rw [if_pos hs]
    have d2 : decide ((len : Int) - (p : Int) < 4) = true := by simp; omega
    go_enter Try.func59, Try.ntmps59
    go_wp2_with fail
    go_ret2
    exact ⟨rfl, rfl⟩
  · rw [if_neg hs]
    have d2 : decide ((len : Int) - (p : Int) < 4) = false := by simp; omega
    obtain ⟨r0, hr0⟩ : ∃ r : Nat, r = c - 240 := ⟨_, rfl⟩
    have hr0' : (c : Int) - 240 = (r0 : Int) := by omega
    rw [← hr0]
    have hrb : r0 < 32 := by omega
    clear hr0
    go_enter Try.func59, Try.ntmps59
    go_wp2_with fail
    go_loop [8, 10] (fun r i => ∃ k rr : Nat, 1 ≤ k ∧ k ≤ 4 ∧ i = .int .i64 k ∧ r = .int .i64 rr ∧ Hid (tails l (k - 1) (p + 1) r0 = some rr) ∧ (k = 1 → rr < 32) ∧ (k = 2 → rr < 2048) ∧ (k = 3 → rr < 131072) ∧ rr < 8388608) (fun _ i => 4 - (intOf i).toNat)
    case atStart => exact ⟨1, r0, by omega, by omega, rfl, rfl, rfl, by omega, by omega, by omega, by omega⟩
    case round =>
      obtain ⟨k, rr, hk1, hk, rfl, rfl, ht, b1, b2, b3, b4⟩ := hrel
      by_cases hlt : k < 4
      · obtain ⟨b', o', ha', hx⟩ := H.out.at (p + k) (by omega)
        simp only [Option.some.injEq, Addr.mk.injEq, and_true] at ha'
        obtain ⟨rfl, rfl⟩ := ha'
        have hxb := bAt_bd l (p + k)
        have hsn := tails_snoc l (k - 1) (p + 1) r0 rr ht.out
        rw [show k - 1 + 1 = k from by omega, show p + 1 + (k - 1) = p + k from by omega] at hsn
        generalize bAt l (p + k) = x at hx hxb hsn
        have j0 : (0 : Int) ≤ (p : Int) + (k : Int) := by omega
        have j1 : (p : Int) + (k : Int) < (len : Int) := by omega
        have j3 : ((p : Int) + (k : Int)).toNat = p + k := by omega
        by_cases hx1 : 128 ≤ x ∧ x < 192
        · rw [if_pos hx1] at hsn
          obtain ⟨h3, h4⟩ := hx1
          have HS := Lib.hid hsn
          have hw : (rr : Int) * 64 + (x : Int) - 128 = ((rr * 64 + (x - 128) : Nat) : Int) := by omega
          have HW := Lib.hid hw
          clear hsn hw
          go_wp2_with fail
          go_round
          case rel => exact ⟨_, _, _, _, ⟨k + 1, by omega, by omega, by simp, rr * 64 + (x - 128), by rw [HW.out], HS.out, by omega, by omega, by omega, by omega⟩, rfl, rfl, rfl, rfl⟩
          case measure => simp [intOf]; omega
        · rw [if_neg hx1] at hsn
          have hn := tails_none l k (3 - k) (p + 1) r0 hsn
          rw [show k + (3 - k) = 3 from by omega] at hn
          have HN := Lib.hid hn
          clear hsn hn
          rcases (show x < 128 ∨ 192 ≤ x by omega) with g | g
          all_goals
            clear hx1
            go_wp2_with fail
            go_ret2
            exact ⟨by rw [HN.out]; rfl, rfl⟩
      · obtain rfl : k = 4 := by omega
        have HT : Hid (tails l 3 (p + 1) r0 = some rr) := ht
        clear ht b1 b2 b3
        rcases (show rr < 65536 ∨ (65536 ≤ rr ∧ 1114111 < rr) ∨ (65536 ≤ rr ∧ 57343 < rr ∧ rr ≤ 1114111) by omega) with g | ⟨g, g2⟩ | ⟨g, g2, g3⟩
        · have HF : Hid (fin (some rr) 4 65536 = (0, 0)) := by show fin _ _ _ = _; unfold fin; simp only; rw [if_pos (.inl g)]
          go_wp2_with fail
          go_ret2
          exact ⟨by rw [HT.out, HF.out]; rfl, rfl⟩
        · have HF : Hid (fin (some rr) 4 65536 = (0, 0)) := by show fin _ _ _ = _; unfold fin; simp only; rw [if_pos (.inr (by unfold isCh; simp; omega))]
          go_wp2_with fail
          go_ret2
          exact ⟨by rw [HT.out, HF.out]; rfl, rfl⟩
        · have HF : Hid (fin (some rr) 4 65536 = (rr, 4)) := by show fin _ _ _ = _; unfold fin; simp only; rw [if_neg (by unfold isCh; simp; omega)]
          go_wp2_with fail
          go_ret2
          exact ⟨by rw [HT.out, HF.out]; rfl, rfl⟩
end Go.Proofs.Ytambhapgjonmmaa
