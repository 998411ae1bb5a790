/- CurReads: the walk. -/
import Derived.Test.YtcoapmfbibjjpaaCurA
import Derived.Test.YtcoapmfbibjjpaaCur7
import Derived.Test.YtcoapmfbibjjpaaActs
namespace Go.Proofs.Ytcoapmfbibjjpaa
open Go.RowKit
set_option linter.unusedVariables false
set_option linter.unusedSimpArgs false

/-- What stands at the head of each round. -/
def ReadRel (w : World) (r : Nat) (l : List UInt8) (len : Nat) (q i : Value) (wr : World) : Prop :=
  ∃ k p : Nat, k ≤ len ∧ i = .int .i64 k ∧ q = .int .i64 p ∧ Rdr wr r l p ∧ Below w.heap.size w wr

theorem rdr_le {w : World} {r : Nat} {bs : List UInt8} {p : Nat} (h : Rdr w r bs p) : p ≤ bs.length := by obtain ⟨_, _, _, _, _, _, _, _, h7, _⟩ := h; exact h7

set_option maxRecDepth 100000 in
set_option maxHeartbeats 4000000 in
theorem CurReads_core (w : World) (a : Option Addr) (len cap : Nat) (l : List UInt8) (h : RdB w a len l) (hnc : a = none → cap = 0) (hcc : len ≤ cap) (a1 : Option Addr) (len1 cap1 : Nat) (f : Nat → Int × Int) (h1 : RdA w a1 len1 f) (hl : len ≤ 200) (hl1 : len1 ≤ 60) :
    Calls Try.prog 13 #[.slice a len cap, .slice a1 len1 cap1] w fun e w' => e = .returned (.bool true) ∧ Below w.heap.size w w' := by
  have H := Lib.hid h
  have HA := Lib.hid h1
  have HL := Lib.hid h.1
  have HN := Lib.hid hnc
  clear h h1 hnc
  go_enter Try.func13, Try.ntmps13
  go_wp2_with fail
  refine (awake1 _).mono ?_
  rintro e w1 ⟨rfl, hb1⟩
  have H1 := Lib.hid hb1
  clear hb1
  go_wp2_with fail
  refine (new_calls a len cap l _ (H.out.keep H1.out) HN.out (by omega)).mono ?_
  rintro e w2 ⟨r, rfl, hr2, hb2, hrr⟩
  have H2 := Lib.hid (H1.out.trans (hb2.mono H1.out.size))
  have hrw : w.heap.size ≤ r := Nat.le_trans H1.out.size hrr
  have HR2 := Lib.hid hr2
  clear hr2 hb2 hrr
  go_wp2_with fail
  go_loopw [6, 7] (fun q i wr => ReadRel w r l len1 q i wr) (fun _ i _ => len1 - (intOf i).toNat)
  case atStart => exact ⟨0, 0, by omega, rfl, rfl, HR2.out, H2.out⟩
  case round =>
    obtain ⟨k, p, hk, rfl, rfl, hrd, hbl⟩ := hrel
    have HRr := Lib.hid hrd
    have HBr := Lib.hid hbl
    have hszr := hbl.size
    have HAr := Lib.hid (HA.out.keep hbl)
    have HBt := Lib.hid (H.out.keep hbl)
    have hpl : p ≤ len := by have := rdr_le hrd; rw [HL.out] at this; exact this
    clear hrd hbl
    by_cases hlt : k < len1
    · obtain ⟨b1, b2, b, o, rfl, c1, c2⟩ := HAr.out.2 k hlt
      generalize (f k).1 = kd at b1 c1
      generalize (f k).2 = n at b2 c2
      unfold inI64 at b1 b2
      by_cases h0 : kd = 0
      · subst h0
        by_cases hp : p < len
        · obtain ⟨b', o', rfl, cc⟩ := HBt.out.at p hp
          have C := Lib.hid (rbyte_yes r p l _ HRr.out (by rw [HL.out]; exact hp))
          go_wp2_with fail
          refine C.out.mono ?_
          rintro e w5 ⟨rfl, hr5, hc5⟩
          have hb5 : Below w.heap.size wr w5 := hc5.below hszr (by rintro i rfl; exact hrw)
          have cc5 : w5.cell? ⟨b', o' + p, none⟩ = some (.int .u8 (bAt l p : Nat)) := by
            obtain ⟨b'', o'', ha'', hc0⟩ := H.out.at p hp
            have hcb := cell_block hc0
            simp only [Option.some.injEq, Addr.mk.injEq, and_true] at ha''
            obtain ⟨rfl, rfl⟩ := ha''
            exact (hb5.cell (p := ⟨b', o' + p, none⟩) hcb).trans cc
          have q := bAt_bd l p
          have HB5 := Lib.hid (HBr.out.trans hb5)
          have HR5 := Lib.hid hr5
          clear hr5 hc5 hb5
          have CL := rleft_calls r _ _ _ HR5.out
          rw [HL.out] at CL
          have CLH := Lib.hid CL
          have CA := Lib.hid (rat_calls r _ _ _ HR5.out)
          clear CL
          go_wp2_with (first | (go_at_call 46; refine CA.out.mono ?_; rintro e w7 ⟨rfl, rfl⟩) | (go_at_call 45; refine CLH.out.mono ?_; rintro e w7 ⟨rfl, nd, rfl⟩))
          go_roundw
          case rel => first | exact ⟨k + 1, _, by omega, by simp, by first | rfl | simp, HR5.out.keep (below_drewN _ _ _), Below_drewN HB5.out⟩ | exact ⟨k + 1, p, by omega, by simp, by first | rfl | simp, HRr.out.keep (below_drewN _ _ _), Below_drewN HBr.out⟩
          case measure => simp [intOf]; omega
        · have hpe : p = len := by omega
          have hR : Rdr wr r l l.length := by rw [HL.out, ← hpe]; exact HRr.out
          have C := Lib.hid (rbyte_no r l _ hR)
          clear hR hpe
          go_wp2_with fail
          refine C.out.mono ?_
          rintro e w5 ⟨rfl, nd5, rfl⟩
          have HB5 := Lib.hid (Below_drewN (k := nd5) HBr.out)
          have HR5 := Lib.hid (HRr.out.keep (below_drewN wr nd5 _))
          have CL := rleft_calls r _ _ _ HR5.out
          rw [HL.out] at CL
          have CLH := Lib.hid CL
          have CA := Lib.hid (rat_calls r _ _ _ HR5.out)
          clear CL
          go_wp2_with (first | (go_at_call 46; refine CA.out.mono ?_; rintro e w7 ⟨rfl, rfl⟩) | (go_at_call 45; refine CLH.out.mono ?_; rintro e w7 ⟨rfl, nd, rfl⟩))
          go_roundw
          case rel => first | exact ⟨k + 1, _, by omega, by simp, by first | rfl | simp, HR5.out.keep (below_drewN _ _ _), Below_drewN HB5.out⟩ | exact ⟨k + 1, p, by omega, by simp, by first | rfl | simp, HRr.out.keep (below_drewN _ _ _), Below_drewN HBr.out⟩
          case measure => simp [intOf]; omega
      · by_cases h1 : kd = 1
        · subst h1
          by_cases hv : 0 ≤ n ∧ (p : Int) + n ≤ len
          · obtain ⟨m, rfl⟩ : ∃ m : Nat, n = m := ⟨n.toNat, by omega⟩
            have C : Calls Try.prog 48 #[.pointer (some ⟨r, 0, none⟩), .int .i64 m] wr (TakePost wr r l p m) := by
              rcases Nat.eq_zero_or_pos m with h0 | h0
              · subst h0; exact rtake_zero r p l wr HRr.out
              · exact rtake_yes r p l _ HRr.out m h0 (by rw [HL.out]; omega)
            have C := Lib.hid C
            have i0 : (0 : Int) ≤ (p : Int) := by omega
            have i1 : (p : Int) ≤ (p : Int) + (m : Int) := by omega
            have i2 : (p : Int) + (m : Int) ≤ (cap : Int) := by omega
            have i3 : (m : Int) ≤ (len : Int) - (p : Int) := by omega
            have q0 : IntKind.i64.wrap (p : Int) = (p : Int) := IntWalk.i64_in _ (by omega)
            have q2 : IntKind.i64.wrap ((len : Int) - (p : Int)) = (len : Int) - (p : Int) := IntWalk.i64_in _ (by omega)
            have q1 : IntKind.i64.wrap ((p : Int) + (m : Int)) = (p : Int) + (m : Int) := IntWalk.i64_in _ (by omega)
            by_cases hm0 : m < 1
            · go_wp2_with fail
              refine C.out.mono ?_
              rintro e w5 ⟨v5, rfl, ho5, hr5, hc5⟩
              have hb5 : Below w.heap.size wr w5 := hc5.below hszr (by rintro i rfl; exact hrw)
              have HB4 := Lib.hid (HBr.out.trans hb5)
              have HR4 := Lib.hid hr5
              obtain ⟨a5, c5, hve, hrd5⟩ := ho5.reads
              rw [seg_length l p m (by rw [HL.out]; omega)] at hve hrd5
              rw [hve]
              have hcb' : ∀ nq x c, (convert 22 9 (.slice x m c)).run Try.prog (w5.drewN nq) = .ok (.string (txt (seg l p m))) (w5.drewN nq) := fun nq x c => conv_str ⟨seg_length l p m (by rw [HL.out]; omega), by omega, fun i hi => absurd hi (by omega)⟩ c
              generalize txt (seg l p m) = tx at hcb'
              clear hr5 hc5 hb5 ho5 hve hrd5
              go_wp2_with fail
              go_quiet (fail)
              have HB5 := Lib.hid (Below_drewN (k := nq) HB4.out)
              have HR5 := Lib.hid (HR4.out.keep (below_drewN w5 nq _))
              clear hcb'
              have CL := rleft_calls r _ _ _ HR5.out
              rw [HL.out] at CL
              have CLH := Lib.hid CL
              have CA := Lib.hid (rat_calls r _ _ _ HR5.out)
              clear CL
              go_wp2_with (first | (go_at_call 46; refine CA.out.mono ?_; rintro e w7 ⟨rfl, rfl⟩) | (go_at_call 45; refine CLH.out.mono ?_; rintro e w7 ⟨rfl, nd, rfl⟩))
              go_roundw
              case rel => exact ⟨k + 1, _, by omega, (by first | rfl | simp), (by first | rfl | simp), HR4.out.keep (below_drewN _ _ _), Below_drewN HB4.out⟩
              case measure => simp [intOf]; omega
            · obtain ⟨b', o', rfl, cc⟩ := HBt.out.at p (by omega)
              have i4 : ¬ cap = p := by omega
              clear cc
              go_wp2_with fail
              refine C.out.mono ?_
              rintro e w5 ⟨v5, rfl, ho5, hr5, hc5⟩
              have hb5 : Below w.heap.size wr w5 := hc5.below hszr (by rintro i rfl; exact hrw)
              have HB4 := Lib.hid (HBr.out.trans hb5)
              have HR4 := Lib.hid hr5
              obtain ⟨a5, c5, hve, hrd5⟩ := ho5.reads
              rw [seg_length l p m (by rw [HL.out]; omega)] at hve hrd5
              rw [hve]
              have hcv := fun nq => conv_str (hrd5.keep (below_drewN w5 nq _)) c5
              have hrb := H.out.keep HB4.out
              have hrb2 : RdB w5 (some ⟨b', o', none⟩) l.length l := by rw [HL.out]; exact hrb
              have hcb' := fun nq => conv_str (seg_rd (hrb2.keep (below_drewN w5 nq _)) p m (by rw [HL.out]; omega)) (cap - p)
              generalize txt (seg l p m) = tx at hcv hcb'
              clear hr5 hc5 hb5 ho5 hve hrd5 hrb hrb2
              go_wp2_with fail
              go_quiet (fail)
              have HB5 := Lib.hid (Below_drewN (k := nq) HB4.out)
              have HR5 := Lib.hid (HR4.out.keep (below_drewN w5 nq _))
              clear hcv hcb'
              have CL := rleft_calls r _ _ _ HR5.out
              rw [HL.out] at CL
              have CLH := Lib.hid CL
              have CA := Lib.hid (rat_calls r _ _ _ HR5.out)
              clear CL
              go_wp2_with (first | (go_at_call 46; refine CA.out.mono ?_; rintro e w7 ⟨rfl, rfl⟩) | (go_at_call 45; refine CLH.out.mono ?_; rintro e w7 ⟨rfl, nd, rfl⟩))
              go_roundw
              case rel => exact ⟨k + 1, _, by omega, (by first | rfl | simp), (by first | rfl | simp), HR4.out.keep (below_drewN _ _ _), Below_drewN HB4.out⟩
              case measure => simp [intOf]; omega
          · have hv' : n < 0 ∨ (l.length : Int) - p < n := by rw [HL.out]; omega
            have C := Lib.hid (rtake_no r p l _ HRr.out n hv')
            have q2 : IntKind.i64.wrap ((len : Int) - (p : Int)) = (len : Int) - (p : Int) := IntWalk.i64_in _ (by omega)
            by_cases hn0 : n < 0
            · have hn3 : decide (0 ≤ n) = false := by simp; omega
              clear hv hv'
              go_wp2_with fail
              refine C.out.mono ?_
              rintro e w5 ⟨rfl, nd5, rfl⟩
              go_wp2_with fail
              go_quiet (fail)
              have HB5 := Lib.hid (Below_drewN (k := nd5 + nq) HBr.out)
              have HB4 := HBr
              have HR4 := HRr
              have HR5 := Lib.hid (HRr.out.keep (below_drewN wr (nd5 + nq) _))
              have CL := rleft_calls r _ _ _ HR5.out
              rw [HL.out] at CL
              have CLH := Lib.hid CL
              have CA := Lib.hid (rat_calls r _ _ _ HR5.out)
              clear CL
              go_wp2_with (first | (go_at_call 46; refine CA.out.mono ?_; rintro e w7 ⟨rfl, rfl⟩) | (go_at_call 45; refine CLH.out.mono ?_; rintro e w7 ⟨rfl, nd, rfl⟩))
              go_roundw
              case rel => exact ⟨k + 1, _, by omega, (by first | rfl | simp), (by first | rfl | simp), HR4.out.keep (below_drewN _ _ _), Below_drewN HB4.out⟩
              case measure => simp [intOf]; omega
            · have hn1 : 0 ≤ n := by omega
              have hn2 : (len : Int) - p < n := by omega
              have hn3 : decide (n ≤ (len : Int) - p) = false := by simp; omega
              clear hv hv' hn0
              go_wp2_with fail
              refine C.out.mono ?_
              rintro e w5 ⟨rfl, nd5, rfl⟩
              go_wp2_with fail
              go_quiet (fail)
              have HB5 := Lib.hid (Below_drewN (k := nd5 + nq) HBr.out)
              have HB4 := HBr
              have HR4 := HRr
              have HR5 := Lib.hid (HRr.out.keep (below_drewN wr (nd5 + nq) _))
              have CL := rleft_calls r _ _ _ HR5.out
              rw [HL.out] at CL
              have CLH := Lib.hid CL
              have CA := Lib.hid (rat_calls r _ _ _ HR5.out)
              clear CL
              go_wp2_with (first | (go_at_call 46; refine CA.out.mono ?_; rintro e w7 ⟨rfl, rfl⟩) | (go_at_call 45; refine CLH.out.mono ?_; rintro e w7 ⟨rfl, nd, rfl⟩))
              go_roundw
              case rel => exact ⟨k + 1, _, by omega, (by first | rfl | simp), (by first | rfl | simp), HR4.out.keep (below_drewN _ _ _), Below_drewN HB4.out⟩
              case measure => simp [intOf]; omega
        · have n0 : (kd == 0) = false := by simp [h0]
          have n1 : (kd == 1) = false := by simp [h1]
          clear h0 h1
          by_cases h2 : kd = 2
          · subst h2
            by_cases hv : 1 ≤ n ∧ n ≤ 8 ∧ (p : Int) + n ≤ len
            · obtain ⟨m, rfl⟩ : ∃ m : Nat, n = m := ⟨n.toNat, by omega⟩
              have C := Lib.hid (rlow_yes r p l _ HRr.out m (by omega) (by omega) (by rw [HL.out]; omega))
              have C2 := Lib.hid (fun (W : World) (hW : Below w.heap.size w W) => low_yes a len cap p m W l (H.out.keep hW) (by omega) (by omega) (by omega))
              generalize le (seg l p m) = z at C C2
              have hzz : ((z : Int) != z) = false := by simp
              go_wp2_with fail
              refine C.out.mono ?_
              rintro e w5 ⟨rfl, hr5, hc5⟩
              have hb5 : Below w.heap.size wr w5 := hc5.below hszr (by rintro i rfl; exact hrw)
              have HB5 := Lib.hid (HBr.out.trans hb5)
              have HR5 := Lib.hid hr5
              clear hr5 hc5 hb5
              have CL := rleft_calls r _ _ _ HR5.out
              rw [HL.out] at CL
              have CLH := Lib.hid CL
              have CA := Lib.hid (rat_calls r _ _ _ HR5.out)
              clear CL
              go_wp2_with (first | (go_at_call 46; refine CA.out.mono ?_; rintro e w7 ⟨rfl, rfl⟩) | (go_at_call 45; refine CLH.out.mono ?_; rintro e w7 ⟨rfl, nd, rfl⟩) | (go_at_call 21; refine (C2.out _ HB5.out).mono ?_; rintro e w7 ⟨rfl, rfl⟩))
              go_roundw
              case rel => first | exact ⟨k + 1, _, by omega, by simp, by first | rfl | simp, HR5.out.keep (below_drewN _ _ _), Below_drewN HB5.out⟩ | exact ⟨k + 1, p, by omega, by simp, by first | rfl | simp, HRr.out.keep (below_drewN _ _ _), Below_drewN HBr.out⟩
              case measure => simp [intOf]; omega
            · have hv' : n < 1 ∨ 8 < n ∨ (l.length : Int) - p < n := by rw [HL.out]; omega
              have hv2 : n < 1 ∨ 8 < n ∨ (p : Int) < 0 ∨ (len : Int) < p + n := by omega
              have C := Lib.hid (rlow_no r p l _ HRr.out n hv')
              have C2 := Lib.hid (fun (W : World) => low_no a len cap p n W (by omega) hv2 b2.2 (by omega))
              clear hv hv' hv2
              go_wp2_with fail
              refine C.out.mono ?_
              rintro e w5 ⟨rfl, nd5, rfl⟩
              have HB5 := Lib.hid (Below_drewN (k := nd5) HBr.out)
              have HR5 := Lib.hid (HRr.out.keep (below_drewN wr nd5 _))
              have CL := rleft_calls r _ _ _ HR5.out
              rw [HL.out] at CL
              have CLH := Lib.hid CL
              have CA := Lib.hid (rat_calls r _ _ _ HR5.out)
              clear CL
              go_wp2_with (first | (go_at_call 46; refine CA.out.mono ?_; rintro e w7 ⟨rfl, rfl⟩) | (go_at_call 45; refine CLH.out.mono ?_; rintro e w7 ⟨rfl, nd, rfl⟩) | (go_at_call 21; refine (C2.out _).mono ?_; rintro e w7 ⟨rfl, rfl⟩))
              go_roundw
              case rel => first | exact ⟨k + 1, _, by omega, by simp, by first | rfl | simp, HR5.out.keep (below_drewN _ _ _), Below_drewN HB5.out⟩ | exact ⟨k + 1, p, by omega, by simp, by first | rfl | simp, HRr.out.keep (below_drewN _ _ _), Below_drewN HBr.out⟩
              case measure => simp [intOf]; omega
          · have n2 : (kd == 2) = false := by simp [h2]
            clear h2
            by_cases hv : 1 ≤ n ∧ n ≤ 8 ∧ (p : Int) + n ≤ len
            · obtain ⟨m, rfl⟩ : ∃ m : Nat, n = m := ⟨n.toNat, by omega⟩
              have C := Lib.hid (rhigh_yes r p l _ HRr.out m (by omega) (by omega) (by rw [HL.out]; omega))
              have C2 := Lib.hid (fun (W : World) (hW : Below w.heap.size w W) => high_yes a len cap p m W l (H.out.keep hW) (by omega) (by omega) (by omega))
              generalize be (seg l p m) = z at C C2
              have hzz : ((z : Int) != z) = false := by simp
              go_wp2_with fail
              refine C.out.mono ?_
              rintro e w5 ⟨rfl, hr5, hc5⟩
              have hb5 : Below w.heap.size wr w5 := hc5.below hszr (by rintro i rfl; exact hrw)
              have HB5 := Lib.hid (HBr.out.trans hb5)
              have HR5 := Lib.hid hr5
              clear hr5 hc5 hb5
              have CL := rleft_calls r _ _ _ HR5.out
              rw [HL.out] at CL
              have CLH := Lib.hid CL
              have CA := Lib.hid (rat_calls r _ _ _ HR5.out)
              clear CL
              go_wp2_with (first | (go_at_call 46; refine CA.out.mono ?_; rintro e w7 ⟨rfl, rfl⟩) | (go_at_call 45; refine CLH.out.mono ?_; rintro e w7 ⟨rfl, nd, rfl⟩) | (go_at_call 50; refine (C2.out _ HB5.out).mono ?_; rintro e w7 ⟨rfl, rfl⟩))
              go_roundw
              case rel => first | exact ⟨k + 1, _, by omega, by simp, by first | rfl | simp, HR5.out.keep (below_drewN _ _ _), Below_drewN HB5.out⟩ | exact ⟨k + 1, p, by omega, by simp, by first | rfl | simp, HRr.out.keep (below_drewN _ _ _), Below_drewN HBr.out⟩
              case measure => simp [intOf]; omega
            · have hv' : n < 1 ∨ 8 < n ∨ (l.length : Int) - p < n := by rw [HL.out]; omega
              have hv2 : n < 1 ∨ 8 < n ∨ (p : Int) < 0 ∨ (len : Int) < p + n := by omega
              have C := Lib.hid (rhigh_no r p l _ HRr.out n hv')
              have C2 := Lib.hid (fun (W : World) => high_no a len cap p n W (by omega) hv2 b2.2 (by omega))
              clear hv hv' hv2
              go_wp2_with fail
              refine C.out.mono ?_
              rintro e w5 ⟨rfl, nd5, rfl⟩
              have HB5 := Lib.hid (Below_drewN (k := nd5) HBr.out)
              have HR5 := Lib.hid (HRr.out.keep (below_drewN wr nd5 _))
              have CL := rleft_calls r _ _ _ HR5.out
              rw [HL.out] at CL
              have CLH := Lib.hid CL
              have CA := Lib.hid (rat_calls r _ _ _ HR5.out)
              clear CL
              go_wp2_with (first | (go_at_call 46; refine CA.out.mono ?_; rintro e w7 ⟨rfl, rfl⟩) | (go_at_call 45; refine CLH.out.mono ?_; rintro e w7 ⟨rfl, nd, rfl⟩) | (go_at_call 50; refine (C2.out _).mono ?_; rintro e w7 ⟨rfl, rfl⟩))
              go_roundw
              case rel => first | exact ⟨k + 1, _, by omega, by simp, by first | rfl | simp, HR5.out.keep (below_drewN _ _ _), Below_drewN HB5.out⟩ | exact ⟨k + 1, p, by omega, by simp, by first | rfl | simp, HRr.out.keep (below_drewN _ _ _), Below_drewN HBr.out⟩
              case measure => simp [intOf]; omega
    · go_wp2_with fail
      go_ret
      exact ⟨rfl, HBr.out⟩

set_option maxRecDepth 100000 in
set_option maxHeartbeats 1000000 in
theorem CurReads_walk (w : World) (a : Option Addr) (len cap : Nat) (l : List UInt8) (h : RdB w a len l) (hnc : a = none → cap = 0) (hcc : len ≤ cap) (a1 : Option Addr) (len1 cap1 : Nat) (f : Nat → Int × Int) (h1 : RdA w a1 len1 f) :
    Calls Try.prog 13 #[.slice a len cap, .slice a1 len1 cap1] w fun e w' => e = .returned (.bool true) ∧ Below w.heap.size w w' := by
  have hm := h.2.1
  have hm1 := h1.1
  by_cases hl : len ≤ 200
  · by_cases hl1 : len1 ≤ 60
    · exact CurReads_core w a len cap l h hnc hcc a1 len1 cap1 f h1 hl hl1
    · clear h h1
      have d0 : decide ((200 : Int) < (len : Int)) = false := by simp; omega
      have d1 : decide ((60 : Int) < (len1 : Int)) = true := by simp; omega
      go_enter Try.func13, Try.ntmps13
      go_wp2_with (go_at_call 37; refine (awake1 _).mono ?_; rintro e w1 ⟨rfl, hb⟩)
      go_ret
      exact ⟨rfl, hb⟩
  · clear h h1
    have d0 : decide ((200 : Int) < (len : Int)) = true := by simp; omega
    go_enter Try.func13, Try.ntmps13
    go_wp2_with (go_at_call 37; refine (awake1 _).mono ?_; rintro e w1 ⟨rfl, hb⟩)
    go_ret
    exact ⟨rfl, hb⟩
end Go.Proofs.Ytcoapmfbibjjpaa
