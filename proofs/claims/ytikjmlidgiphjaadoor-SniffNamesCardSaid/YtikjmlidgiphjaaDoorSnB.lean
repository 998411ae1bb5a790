/- sniff.Guess, walked. -/
import Derived.Test.YtikjmlidgiphjaaDoorSnA
namespace Go.Proofs.YtikjmlidgiphjaaDoor
open Go.RowKit
set_option linter.unusedVariables false
set_option linter.unusedSimpArgs false

theorem guess_rest {L : List UInt8} (h1 : ¬ (5 ≤ L.length ∧ bAt L (L.length - 1) = 0 ∧ le (seg L 0 4) = L.length)) (h2 : brace L = false) (h3 : ¬ L.length = 0) : guessN L = if 160 ≤ bAt L 0 ∧ bAt L 0 ≤ 187 then 4 else if (128 ≤ bAt L 0 ∧ bAt L 0 ≤ 143) ∨ bAt L 0 = 222 ∨ bAt L 0 = 223 then 5 else 0 := by
  unfold guessN
  rw [if_neg h1, h2, if_neg (by simp), if_neg h3]

set_option maxRecDepth 100000 in
set_option maxHeartbeats 16000000 in
theorem guess_calls (a : Option Addr) (n cap : Nat) (L : List UInt8) (w : World) (h : RdB w a n L) (hc : n ≤ cap) (hcap : cap ≤ 9223372036854775807) (hn : n ≤ 1000000) :
    Calls Tryd.prog 6 #[.slice a n cap] w fun e w' => e = .returned (.int .i64 (guessN L : Nat)) ∧ Below w.heap.size w w' := by
  have hL : L.length = n := h.1
  obtain ⟨R, hR⟩ : ∃ R, R = guessN L := ⟨_, rfl⟩
  rw [← hR]
  have HT := Lib.hid (fun W (hW : RdB W a n L) => trim_calls a n cap L W hW hc hcap)
  have HK := Lib.hid (fun W (hW : RdB W a n L) b d (k : RdB W b 1 [123]) => brace_calls a b n cap d L W hW hc k)
  have HRD := Lib.hid h
  obtain ⟨TV, hTV⟩ : ∃ v, v = TrimV a n cap L := ⟨_, rfl⟩
  obtain ⟨B, hB⟩ : ∃ v, v = brace L := ⟨_, rfl⟩
  have HTV := Lib.hid hTV
  have kc := fun (w : World) (C : Array Value) (n c : Nat) => Lib.run_convert_bytes_const (P := Tryd.prog) w 22 5 C n c Tryd.underlying22 Tryd.underlying5
  have HB := Lib.hid hB
  rw [← hTV] at HT
  have hcase : n < 5 ∨ (5 ≤ n ∧ ¬ bAt L (n - 1) = 0) ∨ (5 ≤ n ∧ bAt L (n - 1) = 0 ∧ ¬ le (seg L 0 4) = n) ∨ (5 ≤ n ∧ bAt L (n - 1) = 0 ∧ le (seg L 0 4) = n) := by omega
  rcases hcase with hh | hh | hh | hh
  · as_aux_lemma =>
      have HNG : Hid (¬ (5 ≤ L.length ∧ bAt L (L.length - 1) = 0 ∧ le (seg L 0 4) = L.length)) := by show ¬ _; rw [hL]; omega
      have g5 : decide ((5 : Int) ≤ (n : Int)) = false := by simp; omega
      have g5n : decide (5 ≤ n) = false := by simp; omega
      clear hTV hB h
      go_enter Tryd.func6, Tryd.ntmps6
      go_wp2_with fail
      go_quiet (fail)
      go_wp2_with fail
      obtain ⟨wb, hwb⟩ : ∃ W, W = w.drewN nq := ⟨_, rfl⟩
      have hbb : Below w.heap.size w wb := by rw [hwb]; exact below_drewN w nq w.heap.size
      rw [← hwb]
      clear hwb
      refine (HT.out wb (HRD.out.keep hbb)).mono ?_
      rintro e w1 ⟨rfl, hb1⟩
      have HB1 : Hid (Below w.heap.size w w1) := hbb.trans (hb1.mono hbb.size)
      clear hb1 hbb HT
      obtain ⟨gb, hgb⟩ : ∃ g, g = w1.heap.size := ⟨_, rfl⟩
      obtain ⟨w2, hw2⟩ : ∃ W, W = w1.alloc (.cells #[.int .u8 123] 5 (1, 2)) := ⟨_, rfl⟩
      have hb2 : Below w.heap.size w w2 := by rw [hw2]; exact HB1.out.alloc HB1.out.size _
      have hk : RdB w2 (some ⟨gb, 0, none⟩) 1 [123] := by
        refine ⟨rfl, by omega, fun i hi => ⟨gb, 0, rfl, ?_⟩⟩
        obtain rfl : i = 0 := by omega
        rw [hw2, hgb]
        first | (simp [go_sem, bAt]; done) | (simp [go_sem, bAt, World.cell?_alloc_mark]; done) | (rw [World.cell?_alloc_mark]; rfl)
      obtain ⟨tx, tm, tc, htv, hpc⟩ := HK.out w2 (HRD.out.keep hb2) (some ⟨gb, 0, none⟩) 1 hk
      rw [← HTV.out] at htv
      rw [← HB.out] at hpc
      have HPC := Lib.hid hpc
      have HB2 := Lib.hid hb2
      subst htv
      have HW2 := Lib.hid hw2
      have HGB := Lib.hid hgb
      clear hk hpc hb2 HK hw2 hgb
      go_wp2_with fail
      rw [← HGB.out, ← HW2.out]
      refine HPC.out.mono ?_
      rintro e w3 ⟨rfl, rfl⟩
      clear HPC HW2 HGB HB1
      cases B with
      | true =>
        have HF : Hid (R = 2) := by show _ = _; rw [hR]; unfold guessN; rw [if_neg HNG.out, ← HB.out, if_pos rfl]
        clear hR
        go_wp2_with fail
        go_ret
        exact ⟨by rw [HF.out]; rfl, HB2.out⟩
      | false =>
        have HG := Lib.hid (guess_rest HNG.out HB.out.symm)
        by_cases h0 : n = 0
        · have HF : Hid (R = 0) := by show _ = _; rw [hR]; unfold guessN; rw [if_neg HNG.out, ← HB.out, if_neg (by simp), if_pos (by omega)]
          have e0 : ((n : Int) == 0) = true := by simp; omega
          clear hR HG h0
          go_wp2_with fail
          go_ret
          exact ⟨by rw [HF.out]; rfl, HB2.out⟩
        have e0 : ((n : Int) == 0) = false := by simp; omega
        obtain ⟨c, hcc⟩ : ∃ c, c = bAt L 0 := ⟨_, rfl⟩
        have HRR : Hid (R = if 160 ≤ c ∧ c ≤ 187 then 4 else if (128 ≤ c ∧ c ≤ 143) ∨ c = 222 ∨ c = 223 then 5 else 0) := by show _ = _; rw [hR, HG.out (by omega), ← hcc]
        obtain ⟨bb, oo, eb, cc⟩ := (HRD.out.keep HB2.out).at 0 (by omega)
        subst eb
        have hc9 := bAt_lt L 0
        rw [← hcc] at cc hc9
        have u0 : (0 : Int) < (n : Int) := by omega
        have u0n : 0 < n := by omega
        rw [Nat.add_zero] at cc
        have hcs : c < 128 ∨ (128 ≤ c ∧ c ≤ 143) ∨ (144 ≤ c ∧ c ≤ 159) ∨ (160 ≤ c ∧ c ≤ 187) ∨ (188 ≤ c ∧ c ≤ 221) ∨ c = 222 ∨ c = 223 ∨ 224 ≤ c := by omega
        clear hR HG hcc
        rcases hcs with hh2 | hh2 | hh2 | hh2 | hh2 | hh2 | hh2 | hh2
        · have HF : Hid (R = 0) := by show _ = _; rw [HRR.out, if_neg (by omega), if_neg (by omega)]
          have d160 : decide ((160 : Int) ≤ (c : Int)) = false := by simp; omega
          have d160n : decide (160 ≤ c) = false := by simp; omega
          have d187 : decide ((c : Int) ≤ 187) = true := by simp; omega
          have d187n : decide (c ≤ 187) = true := by simp; omega
          have d128 : decide ((128 : Int) ≤ (c : Int)) = false := by simp; omega
          have d128n : decide (128 ≤ c) = false := by simp; omega
          have d143 : decide ((c : Int) ≤ 143) = true := by simp; omega
          have d143n : decide (c ≤ 143) = true := by simp; omega
          have e222 : ((c : Int) == 222) = false := by simp; omega
          have e223 : ((c : Int) == 223) = false := by simp; omega
          clear HRR hh2 hc9
          go_wp2_with fail
          go_ret
          exact ⟨by rw [HF.out]; rfl, HB2.out⟩
        · have HF : Hid (R = 5) := by show _ = _; rw [HRR.out, if_neg (by omega), if_pos (by omega)]
          have d160 : decide ((160 : Int) ≤ (c : Int)) = false := by simp; omega
          have d160n : decide (160 ≤ c) = false := by simp; omega
          have d187 : decide ((c : Int) ≤ 187) = true := by simp; omega
          have d187n : decide (c ≤ 187) = true := by simp; omega
          have d128 : decide ((128 : Int) ≤ (c : Int)) = true := by simp; omega
          have d128n : decide (128 ≤ c) = true := by simp; omega
          have d143 : decide ((c : Int) ≤ 143) = true := by simp; omega
          have d143n : decide (c ≤ 143) = true := by simp; omega
          have e222 : ((c : Int) == 222) = false := by simp; omega
          have e223 : ((c : Int) == 223) = false := by simp; omega
          clear HRR hh2 hc9
          go_wp2_with fail
          go_ret
          exact ⟨by rw [HF.out]; rfl, HB2.out⟩
        · have HF : Hid (R = 0) := by show _ = _; rw [HRR.out, if_neg (by omega), if_neg (by omega)]
          have d160 : decide ((160 : Int) ≤ (c : Int)) = false := by simp; omega
          have d160n : decide (160 ≤ c) = false := by simp; omega
          have d187 : decide ((c : Int) ≤ 187) = true := by simp; omega
          have d187n : decide (c ≤ 187) = true := by simp; omega
          have d128 : decide ((128 : Int) ≤ (c : Int)) = true := by simp; omega
          have d128n : decide (128 ≤ c) = true := by simp; omega
          have d143 : decide ((c : Int) ≤ 143) = false := by simp; omega
          have d143n : decide (c ≤ 143) = false := by simp; omega
          have e222 : ((c : Int) == 222) = false := by simp; omega
          have e223 : ((c : Int) == 223) = false := by simp; omega
          clear HRR hh2 hc9
          go_wp2_with fail
          go_ret
          exact ⟨by rw [HF.out]; rfl, HB2.out⟩
        · have HF : Hid (R = 4) := by show _ = _; rw [HRR.out, if_pos (by omega)]
          have d160 : decide ((160 : Int) ≤ (c : Int)) = true := by simp; omega
          have d160n : decide (160 ≤ c) = true := by simp; omega
          have d187 : decide ((c : Int) ≤ 187) = true := by simp; omega
          have d187n : decide (c ≤ 187) = true := by simp; omega
          have d128 : decide ((128 : Int) ≤ (c : Int)) = true := by simp; omega
          have d128n : decide (128 ≤ c) = true := by simp; omega
          have d143 : decide ((c : Int) ≤ 143) = false := by simp; omega
          have d143n : decide (c ≤ 143) = false := by simp; omega
          have e222 : ((c : Int) == 222) = false := by simp; omega
          have e223 : ((c : Int) == 223) = false := by simp; omega
          clear HRR hh2 hc9
          go_wp2_with fail
          go_ret
          exact ⟨by rw [HF.out]; rfl, HB2.out⟩
        · have HF : Hid (R = 0) := by show _ = _; rw [HRR.out, if_neg (by omega), if_neg (by omega)]
          have d160 : decide ((160 : Int) ≤ (c : Int)) = true := by simp; omega
          have d160n : decide (160 ≤ c) = true := by simp; omega
          have d187 : decide ((c : Int) ≤ 187) = false := by simp; omega
          have d187n : decide (c ≤ 187) = false := by simp; omega
          have d128 : decide ((128 : Int) ≤ (c : Int)) = true := by simp; omega
          have d128n : decide (128 ≤ c) = true := by simp; omega
          have d143 : decide ((c : Int) ≤ 143) = false := by simp; omega
          have d143n : decide (c ≤ 143) = false := by simp; omega
          have e222 : ((c : Int) == 222) = false := by simp; omega
          have e223 : ((c : Int) == 223) = false := by simp; omega
          clear HRR hh2 hc9
          go_wp2_with fail
          go_ret
          exact ⟨by rw [HF.out]; rfl, HB2.out⟩
        · have HF : Hid (R = 5) := by show _ = _; rw [HRR.out, if_neg (by omega), if_pos (by omega)]
          have d160 : decide ((160 : Int) ≤ (c : Int)) = true := by simp; omega
          have d160n : decide (160 ≤ c) = true := by simp; omega
          have d187 : decide ((c : Int) ≤ 187) = false := by simp; omega
          have d187n : decide (c ≤ 187) = false := by simp; omega
          have d128 : decide ((128 : Int) ≤ (c : Int)) = true := by simp; omega
          have d128n : decide (128 ≤ c) = true := by simp; omega
          have d143 : decide ((c : Int) ≤ 143) = false := by simp; omega
          have d143n : decide (c ≤ 143) = false := by simp; omega
          have e222 : ((c : Int) == 222) = true := by simp; omega
          have e223 : ((c : Int) == 223) = false := by simp; omega
          clear HRR hh2 hc9
          go_wp2_with fail
          go_ret
          exact ⟨by rw [HF.out]; rfl, HB2.out⟩
        · have HF : Hid (R = 5) := by show _ = _; rw [HRR.out, if_neg (by omega), if_pos (by omega)]
          have d160 : decide ((160 : Int) ≤ (c : Int)) = true := by simp; omega
          have d160n : decide (160 ≤ c) = true := by simp; omega
          have d187 : decide ((c : Int) ≤ 187) = false := by simp; omega
          have d187n : decide (c ≤ 187) = false := by simp; omega
          have d128 : decide ((128 : Int) ≤ (c : Int)) = true := by simp; omega
          have d128n : decide (128 ≤ c) = true := by simp; omega
          have d143 : decide ((c : Int) ≤ 143) = false := by simp; omega
          have d143n : decide (c ≤ 143) = false := by simp; omega
          have e222 : ((c : Int) == 222) = false := by simp; omega
          have e223 : ((c : Int) == 223) = true := by simp; omega
          clear HRR hh2 hc9
          go_wp2_with fail
          go_ret
          exact ⟨by rw [HF.out]; rfl, HB2.out⟩
        · have HF : Hid (R = 0) := by show _ = _; rw [HRR.out, if_neg (by omega), if_neg (by omega)]
          have d160 : decide ((160 : Int) ≤ (c : Int)) = true := by simp; omega
          have d160n : decide (160 ≤ c) = true := by simp; omega
          have d187 : decide ((c : Int) ≤ 187) = false := by simp; omega
          have d187n : decide (c ≤ 187) = false := by simp; omega
          have d128 : decide ((128 : Int) ≤ (c : Int)) = true := by simp; omega
          have d128n : decide (128 ≤ c) = true := by simp; omega
          have d143 : decide ((c : Int) ≤ 143) = false := by simp; omega
          have d143n : decide (c ≤ 143) = false := by simp; omega
          have e222 : ((c : Int) == 222) = false := by simp; omega
          have e223 : ((c : Int) == 223) = false := by simp; omega
          clear HRR hh2 hc9
          go_wp2_with fail
          go_ret
          exact ⟨by rw [HF.out]; rfl, HB2.out⟩
  · as_aux_lemma =>
      have HNG : Hid (¬ (5 ≤ L.length ∧ bAt L (L.length - 1) = 0 ∧ le (seg L 0 4) = L.length)) := by show ¬ _; rw [hL]; omega
      have g5 : decide ((5 : Int) ≤ (n : Int)) = true := by simp; omega
      have g5n : decide (5 ≤ n) = true := by simp; omega
      obtain ⟨n1, hn1⟩ : ∃ x, x = n - 1 := ⟨_, rfl⟩
      have w1 : IntKind.i64.wrap ((n : Int) - 1) = (n1 : Int) := (IntWalk.i64_in _ (by omega)).trans (by omega)
      have i0 : (0 : Int) ≤ (n1 : Int) := by omega
      have i1 : (n1 : Int) < (n : Int) := by omega
      rw [← hn1] at hh
      obtain ⟨b0, o0, rfl, cl⟩ := HRD.out.at n1 (by omega)
      have t0 : (0 : Int) < (n : Int) := by omega
      have t0n : 0 < n := by omega
      have t1n : 1 < n := by omega
      have t2n : 2 < n := by omega
      have t3n : 3 < n := by omega
      have t1 : (1 : Int) < (n : Int) := by omega
      have t2 : (2 : Int) < (n : Int) := by omega
      have t3 : (3 : Int) < (n : Int) := by omega
      obtain ⟨b2, o2, e2, c0⟩ := HRD.out.at 0 (by omega)
      simp only [Option.some.injEq, Addr.mk.injEq, and_true] at e2
      obtain ⟨rfl, rfl⟩ := e2
      have q0 := bAt_lt L 0
      obtain ⟨b2, o2, e2, c1⟩ := HRD.out.at 1 (by omega)
      simp only [Option.some.injEq, Addr.mk.injEq, and_true] at e2
      obtain ⟨rfl, rfl⟩ := e2
      have q1 := bAt_lt L 1
      obtain ⟨b2, o2, e2, c2⟩ := HRD.out.at 2 (by omega)
      simp only [Option.some.injEq, Addr.mk.injEq, and_true] at e2
      obtain ⟨rfl, rfl⟩ := e2
      have q2 := bAt_lt L 2
      obtain ⟨b2, o2, e2, c3⟩ := HRD.out.at 3 (by omega)
      simp only [Option.some.injEq, Addr.mk.injEq, and_true] at e2
      obtain ⟨rfl, rfl⟩ := e2
      have q3 := bAt_lt L 3
      rw [Nat.add_zero] at c0
      obtain ⟨z, hz⟩ : ∃ z, z = bAt L n1 := ⟨_, rfl⟩
      rw [← hz] at cl hh
      have gz : ((z : Int) == 0) = false := by simp; omega
      obtain ⟨x0, hx0⟩ : ∃ x, x = bAt L 0 := ⟨_, rfl⟩
      rw [← hx0] at c0 q0
      obtain ⟨x1, hx1⟩ : ∃ x, x = bAt L 1 := ⟨_, rfl⟩
      rw [← hx1] at c1 q1
      obtain ⟨x2, hx2⟩ : ∃ x, x = bAt L 2 := ⟨_, rfl⟩
      rw [← hx2] at c2 q2
      obtain ⟨x3, hx3⟩ : ∃ x, x = bAt L 3 := ⟨_, rfl⟩
      rw [← hx3] at c3 q3
      have v0 : IntKind.i64.wrap (x0 : Int) = (x0 : Int) := IntWalk.i64_in _ (by omega)
      have v1 : IntKind.i64.wrap (x1 : Int) = (x1 : Int) := IntWalk.i64_in _ (by omega)
      have v2 : IntKind.i64.wrap (x2 : Int) = (x2 : Int) := IntWalk.i64_in _ (by omega)
      have v3 : IntKind.i64.wrap (x3 : Int) = (x3 : Int) := IntWalk.i64_in _ (by omega)
      have s1 : IntKind.i64.wrap ((x1 : Int) * 256) = (x1 : Int) * 256 := IntWalk.i64_in _ (by omega)
      have s2 : IntKind.i64.wrap ((x2 : Int) * 65536) = (x2 : Int) * 65536 := IntWalk.i64_in _ (by omega)
      have s3 : IntKind.i64.wrap ((x3 : Int) * 16777216) = (x3 : Int) * 16777216 := IntWalk.i64_in _ (by omega)
      obtain ⟨V, hV⟩ : ∃ V, V = x0 + 256 * (x1 + 256 * (x2 + 256 * x3)) := ⟨_, rfl⟩
      have hor := or_four64 x0 x1 x2 x3 q0 q1 q2 q3
      rw [← hV] at hor
      clear hz hx0 hx1 hx2 hx3 hV hn1
      clear hTV hB h
      go_enter Tryd.func6, Tryd.ntmps6
      go_wp2_with fail
      go_quiet (fail)
      go_wp2_with fail
      obtain ⟨wb, hwb⟩ : ∃ W, W = w.drewN nq := ⟨_, rfl⟩
      have hbb : Below w.heap.size w wb := by rw [hwb]; exact below_drewN w nq w.heap.size
      rw [← hwb]
      clear hwb
      refine (HT.out wb (HRD.out.keep hbb)).mono ?_
      rintro e w1 ⟨rfl, hb1⟩
      have HB1 : Hid (Below w.heap.size w w1) := hbb.trans (hb1.mono hbb.size)
      clear hb1 hbb HT
      obtain ⟨gb, hgb⟩ : ∃ g, g = w1.heap.size := ⟨_, rfl⟩
      obtain ⟨w2, hw2⟩ : ∃ W, W = w1.alloc (.cells #[.int .u8 123] 5 (1, 2)) := ⟨_, rfl⟩
      have hb2 : Below w.heap.size w w2 := by rw [hw2]; exact HB1.out.alloc HB1.out.size _
      have hk : RdB w2 (some ⟨gb, 0, none⟩) 1 [123] := by
        refine ⟨rfl, by omega, fun i hi => ⟨gb, 0, rfl, ?_⟩⟩
        obtain rfl : i = 0 := by omega
        rw [hw2, hgb]
        first | (simp [go_sem, bAt]; done) | (simp [go_sem, bAt, World.cell?_alloc_mark]; done) | (rw [World.cell?_alloc_mark]; rfl)
      obtain ⟨tx, tm, tc, htv, hpc⟩ := HK.out w2 (HRD.out.keep hb2) (some ⟨gb, 0, none⟩) 1 hk
      rw [← HTV.out] at htv
      rw [← HB.out] at hpc
      have HPC := Lib.hid hpc
      have HB2 := Lib.hid hb2
      subst htv
      have HW2 := Lib.hid hw2
      have HGB := Lib.hid hgb
      clear hk hpc hb2 HK hw2 hgb
      go_wp2_with fail
      rw [← HGB.out, ← HW2.out]
      refine HPC.out.mono ?_
      rintro e w3 ⟨rfl, rfl⟩
      clear HPC HW2 HGB HB1
      cases B with
      | true =>
        have HF : Hid (R = 2) := by show _ = _; rw [hR]; unfold guessN; rw [if_neg HNG.out, ← HB.out, if_pos rfl]
        clear hR
        go_wp2_with fail
        go_ret
        exact ⟨by rw [HF.out]; rfl, HB2.out⟩
      | false =>
        have HG := Lib.hid (guess_rest HNG.out HB.out.symm)
        have e0 : ((n : Int) == 0) = false := by simp; omega
        obtain ⟨c, hcc⟩ : ∃ c, c = bAt L 0 := ⟨_, rfl⟩
        have HRR : Hid (R = if 160 ≤ c ∧ c ≤ 187 then 4 else if (128 ≤ c ∧ c ≤ 143) ∨ c = 222 ∨ c = 223 then 5 else 0) := by show _ = _; rw [hR, HG.out (by omega), ← hcc]
        obtain ⟨bb, oo, eb, cc⟩ := (HRD.out.keep HB2.out).at 0 (by omega)
        simp only [Option.some.injEq, Addr.mk.injEq, and_true] at eb
        obtain ⟨rfl, rfl⟩ := eb
        have hc9 := bAt_lt L 0
        rw [← hcc] at cc hc9
        have u0 : (0 : Int) < (n : Int) := by omega
        have u0n : 0 < n := by omega
        rw [Nat.add_zero] at cc
        have hcs : c < 128 ∨ (128 ≤ c ∧ c ≤ 143) ∨ (144 ≤ c ∧ c ≤ 159) ∨ (160 ≤ c ∧ c ≤ 187) ∨ (188 ≤ c ∧ c ≤ 221) ∨ c = 222 ∨ c = 223 ∨ 224 ≤ c := by omega
        clear hR HG hcc
        rcases hcs with hh2 | hh2 | hh2 | hh2 | hh2 | hh2 | hh2 | hh2
        · have HF : Hid (R = 0) := by show _ = _; rw [HRR.out, if_neg (by omega), if_neg (by omega)]
          have d160 : decide ((160 : Int) ≤ (c : Int)) = false := by simp; omega
          have d160n : decide (160 ≤ c) = false := by simp; omega
          have d187 : decide ((c : Int) ≤ 187) = true := by simp; omega
          have d187n : decide (c ≤ 187) = true := by simp; omega
          have d128 : decide ((128 : Int) ≤ (c : Int)) = false := by simp; omega
          have d128n : decide (128 ≤ c) = false := by simp; omega
          have d143 : decide ((c : Int) ≤ 143) = true := by simp; omega
          have d143n : decide (c ≤ 143) = true := by simp; omega
          have e222 : ((c : Int) == 222) = false := by simp; omega
          have e223 : ((c : Int) == 223) = false := by simp; omega
          clear HRR hh2 hc9
          go_wp2_with fail
          go_ret
          exact ⟨by rw [HF.out]; rfl, HB2.out⟩
        · have HF : Hid (R = 5) := by show _ = _; rw [HRR.out, if_neg (by omega), if_pos (by omega)]
          have d160 : decide ((160 : Int) ≤ (c : Int)) = false := by simp; omega
          have d160n : decide (160 ≤ c) = false := by simp; omega
          have d187 : decide ((c : Int) ≤ 187) = true := by simp; omega
          have d187n : decide (c ≤ 187) = true := by simp; omega
          have d128 : decide ((128 : Int) ≤ (c : Int)) = true := by simp; omega
          have d128n : decide (128 ≤ c) = true := by simp; omega
          have d143 : decide ((c : Int) ≤ 143) = true := by simp; omega
          have d143n : decide (c ≤ 143) = true := by simp; omega
          have e222 : ((c : Int) == 222) = false := by simp; omega
          have e223 : ((c : Int) == 223) = false := by simp; omega
          clear HRR hh2 hc9
          go_wp2_with fail
          go_ret
          exact ⟨by rw [HF.out]; rfl, HB2.out⟩
        · have HF : Hid (R = 0) := by show _ = _; rw [HRR.out, if_neg (by omega), if_neg (by omega)]
          have d160 : decide ((160 : Int) ≤ (c : Int)) = false := by simp; omega
          have d160n : decide (160 ≤ c) = false := by simp; omega
          have d187 : decide ((c : Int) ≤ 187) = true := by simp; omega
          have d187n : decide (c ≤ 187) = true := by simp; omega
          have d128 : decide ((128 : Int) ≤ (c : Int)) = true := by simp; omega
          have d128n : decide (128 ≤ c) = true := by simp; omega
          have d143 : decide ((c : Int) ≤ 143) = false := by simp; omega
          have d143n : decide (c ≤ 143) = false := by simp; omega
          have e222 : ((c : Int) == 222) = false := by simp; omega
          have e223 : ((c : Int) == 223) = false := by simp; omega
          clear HRR hh2 hc9
          go_wp2_with fail
          go_ret
          exact ⟨by rw [HF.out]; rfl, HB2.out⟩
        · have HF : Hid (R = 4) := by show _ = _; rw [HRR.out, if_pos (by omega)]
          have d160 : decide ((160 : Int) ≤ (c : Int)) = true := by simp; omega
          have d160n : decide (160 ≤ c) = true := by simp; omega
          have d187 : decide ((c : Int) ≤ 187) = true := by simp; omega
          have d187n : decide (c ≤ 187) = true := by simp; omega
          have d128 : decide ((128 : Int) ≤ (c : Int)) = true := by simp; omega
          have d128n : decide (128 ≤ c) = true := by simp; omega
          have d143 : decide ((c : Int) ≤ 143) = false := by simp; omega
          have d143n : decide (c ≤ 143) = false := by simp; omega
          have e222 : ((c : Int) == 222) = false := by simp; omega
          have e223 : ((c : Int) == 223) = false := by simp; omega
          clear HRR hh2 hc9
          go_wp2_with fail
          go_ret
          exact ⟨by rw [HF.out]; rfl, HB2.out⟩
        · have HF : Hid (R = 0) := by show _ = _; rw [HRR.out, if_neg (by omega), if_neg (by omega)]
          have d160 : decide ((160 : Int) ≤ (c : Int)) = true := by simp; omega
          have d160n : decide (160 ≤ c) = true := by simp; omega
          have d187 : decide ((c : Int) ≤ 187) = false := by simp; omega
          have d187n : decide (c ≤ 187) = false := by simp; omega
          have d128 : decide ((128 : Int) ≤ (c : Int)) = true := by simp; omega
          have d128n : decide (128 ≤ c) = true := by simp; omega
          have d143 : decide ((c : Int) ≤ 143) = false := by simp; omega
          have d143n : decide (c ≤ 143) = false := by simp; omega
          have e222 : ((c : Int) == 222) = false := by simp; omega
          have e223 : ((c : Int) == 223) = false := by simp; omega
          clear HRR hh2 hc9
          go_wp2_with fail
          go_ret
          exact ⟨by rw [HF.out]; rfl, HB2.out⟩
        · have HF : Hid (R = 5) := by show _ = _; rw [HRR.out, if_neg (by omega), if_pos (by omega)]
          have d160 : decide ((160 : Int) ≤ (c : Int)) = true := by simp; omega
          have d160n : decide (160 ≤ c) = true := by simp; omega
          have d187 : decide ((c : Int) ≤ 187) = false := by simp; omega
          have d187n : decide (c ≤ 187) = false := by simp; omega
          have d128 : decide ((128 : Int) ≤ (c : Int)) = true := by simp; omega
          have d128n : decide (128 ≤ c) = true := by simp; omega
          have d143 : decide ((c : Int) ≤ 143) = false := by simp; omega
          have d143n : decide (c ≤ 143) = false := by simp; omega
          have e222 : ((c : Int) == 222) = true := by simp; omega
          have e223 : ((c : Int) == 223) = false := by simp; omega
          clear HRR hh2 hc9
          go_wp2_with fail
          go_ret
          exact ⟨by rw [HF.out]; rfl, HB2.out⟩
        · have HF : Hid (R = 5) := by show _ = _; rw [HRR.out, if_neg (by omega), if_pos (by omega)]
          have d160 : decide ((160 : Int) ≤ (c : Int)) = true := by simp; omega
          have d160n : decide (160 ≤ c) = true := by simp; omega
          have d187 : decide ((c : Int) ≤ 187) = false := by simp; omega
          have d187n : decide (c ≤ 187) = false := by simp; omega
          have d128 : decide ((128 : Int) ≤ (c : Int)) = true := by simp; omega
          have d128n : decide (128 ≤ c) = true := by simp; omega
          have d143 : decide ((c : Int) ≤ 143) = false := by simp; omega
          have d143n : decide (c ≤ 143) = false := by simp; omega
          have e222 : ((c : Int) == 222) = false := by simp; omega
          have e223 : ((c : Int) == 223) = true := by simp; omega
          clear HRR hh2 hc9
          go_wp2_with fail
          go_ret
          exact ⟨by rw [HF.out]; rfl, HB2.out⟩
        · have HF : Hid (R = 0) := by show _ = _; rw [HRR.out, if_neg (by omega), if_neg (by omega)]
          have d160 : decide ((160 : Int) ≤ (c : Int)) = true := by simp; omega
          have d160n : decide (160 ≤ c) = true := by simp; omega
          have d187 : decide ((c : Int) ≤ 187) = false := by simp; omega
          have d187n : decide (c ≤ 187) = false := by simp; omega
          have d128 : decide ((128 : Int) ≤ (c : Int)) = true := by simp; omega
          have d128n : decide (128 ≤ c) = true := by simp; omega
          have d143 : decide ((c : Int) ≤ 143) = false := by simp; omega
          have d143n : decide (c ≤ 143) = false := by simp; omega
          have e222 : ((c : Int) == 222) = false := by simp; omega
          have e223 : ((c : Int) == 223) = false := by simp; omega
          clear HRR hh2 hc9
          go_wp2_with fail
          go_ret
          exact ⟨by rw [HF.out]; rfl, HB2.out⟩
  · as_aux_lemma =>
      have HNG : Hid (¬ (5 ≤ L.length ∧ bAt L (L.length - 1) = 0 ∧ le (seg L 0 4) = L.length)) := by show ¬ _; rw [hL]; omega
      have g5 : decide ((5 : Int) ≤ (n : Int)) = true := by simp; omega
      have g5n : decide (5 ≤ n) = true := by simp; omega
      obtain ⟨n1, hn1⟩ : ∃ x, x = n - 1 := ⟨_, rfl⟩
      have w1 : IntKind.i64.wrap ((n : Int) - 1) = (n1 : Int) := (IntWalk.i64_in _ (by omega)).trans (by omega)
      have i0 : (0 : Int) ≤ (n1 : Int) := by omega
      have i1 : (n1 : Int) < (n : Int) := by omega
      rw [← hn1] at hh
      obtain ⟨b0, o0, rfl, cl⟩ := HRD.out.at n1 (by omega)
      have t0 : (0 : Int) < (n : Int) := by omega
      have t0n : 0 < n := by omega
      have t1n : 1 < n := by omega
      have t2n : 2 < n := by omega
      have t3n : 3 < n := by omega
      have t1 : (1 : Int) < (n : Int) := by omega
      have t2 : (2 : Int) < (n : Int) := by omega
      have t3 : (3 : Int) < (n : Int) := by omega
      obtain ⟨b2, o2, e2, c0⟩ := HRD.out.at 0 (by omega)
      simp only [Option.some.injEq, Addr.mk.injEq, and_true] at e2
      obtain ⟨rfl, rfl⟩ := e2
      have q0 := bAt_lt L 0
      obtain ⟨b2, o2, e2, c1⟩ := HRD.out.at 1 (by omega)
      simp only [Option.some.injEq, Addr.mk.injEq, and_true] at e2
      obtain ⟨rfl, rfl⟩ := e2
      have q1 := bAt_lt L 1
      obtain ⟨b2, o2, e2, c2⟩ := HRD.out.at 2 (by omega)
      simp only [Option.some.injEq, Addr.mk.injEq, and_true] at e2
      obtain ⟨rfl, rfl⟩ := e2
      have q2 := bAt_lt L 2
      obtain ⟨b2, o2, e2, c3⟩ := HRD.out.at 3 (by omega)
      simp only [Option.some.injEq, Addr.mk.injEq, and_true] at e2
      obtain ⟨rfl, rfl⟩ := e2
      have q3 := bAt_lt L 3
      rw [Nat.add_zero] at c0
      obtain ⟨z, hz⟩ : ∃ z, z = bAt L n1 := ⟨_, rfl⟩
      rw [← hz] at cl hh
      have gz : ((z : Int) == 0) = true := by simp; omega
      have hle := le_seg4 L 0 (by omega)
      simp only [Nat.zero_add] at hle
      rw [hle] at hh
      obtain ⟨x0, hx0⟩ : ∃ x, x = bAt L 0 := ⟨_, rfl⟩
      rw [← hx0] at c0 q0 hh
      obtain ⟨x1, hx1⟩ : ∃ x, x = bAt L 1 := ⟨_, rfl⟩
      rw [← hx1] at c1 q1 hh
      obtain ⟨x2, hx2⟩ : ∃ x, x = bAt L 2 := ⟨_, rfl⟩
      rw [← hx2] at c2 q2 hh
      obtain ⟨x3, hx3⟩ : ∃ x, x = bAt L 3 := ⟨_, rfl⟩
      rw [← hx3] at c3 q3 hh
      have v0 : IntKind.i64.wrap (x0 : Int) = (x0 : Int) := IntWalk.i64_in _ (by omega)
      have v1 : IntKind.i64.wrap (x1 : Int) = (x1 : Int) := IntWalk.i64_in _ (by omega)
      have v2 : IntKind.i64.wrap (x2 : Int) = (x2 : Int) := IntWalk.i64_in _ (by omega)
      have v3 : IntKind.i64.wrap (x3 : Int) = (x3 : Int) := IntWalk.i64_in _ (by omega)
      have s1 : IntKind.i64.wrap ((x1 : Int) * 256) = (x1 : Int) * 256 := IntWalk.i64_in _ (by omega)
      have s2 : IntKind.i64.wrap ((x2 : Int) * 65536) = (x2 : Int) * 65536 := IntWalk.i64_in _ (by omega)
      have s3 : IntKind.i64.wrap ((x3 : Int) * 16777216) = (x3 : Int) * 16777216 := IntWalk.i64_in _ (by omega)
      obtain ⟨V, hV⟩ : ∃ V, V = x0 + 256 * (x1 + 256 * (x2 + 256 * x3)) := ⟨_, rfl⟩
      have hor := or_four64 x0 x1 x2 x3 q0 q1 q2 q3
      rw [← hV] at hor
      rw [← hV] at hh
      have gV : ((V : Int) == (n : Int)) = false := by simp; omega
      clear hz hx0 hx1 hx2 hx3 hV hn1 hle
      clear hTV hB h
      go_enter Tryd.func6, Tryd.ntmps6
      go_wp2_with fail
      go_quiet (fail)
      go_wp2_with fail
      obtain ⟨wb, hwb⟩ : ∃ W, W = w.drewN nq := ⟨_, rfl⟩
      have hbb : Below w.heap.size w wb := by rw [hwb]; exact below_drewN w nq w.heap.size
      rw [← hwb]
      clear hwb
      refine (HT.out wb (HRD.out.keep hbb)).mono ?_
      rintro e w1 ⟨rfl, hb1⟩
      have HB1 : Hid (Below w.heap.size w w1) := hbb.trans (hb1.mono hbb.size)
      clear hb1 hbb HT
      obtain ⟨gb, hgb⟩ : ∃ g, g = w1.heap.size := ⟨_, rfl⟩
      obtain ⟨w2, hw2⟩ : ∃ W, W = w1.alloc (.cells #[.int .u8 123] 5 (1, 2)) := ⟨_, rfl⟩
      have hb2 : Below w.heap.size w w2 := by rw [hw2]; exact HB1.out.alloc HB1.out.size _
      have hk : RdB w2 (some ⟨gb, 0, none⟩) 1 [123] := by
        refine ⟨rfl, by omega, fun i hi => ⟨gb, 0, rfl, ?_⟩⟩
        obtain rfl : i = 0 := by omega
        rw [hw2, hgb]
        first | (simp [go_sem, bAt]; done) | (simp [go_sem, bAt, World.cell?_alloc_mark]; done) | (rw [World.cell?_alloc_mark]; rfl)
      obtain ⟨tx, tm, tc, htv, hpc⟩ := HK.out w2 (HRD.out.keep hb2) (some ⟨gb, 0, none⟩) 1 hk
      rw [← HTV.out] at htv
      rw [← HB.out] at hpc
      have HPC := Lib.hid hpc
      have HB2 := Lib.hid hb2
      subst htv
      have HW2 := Lib.hid hw2
      have HGB := Lib.hid hgb
      clear hk hpc hb2 HK hw2 hgb
      go_wp2_with fail
      rw [← HGB.out, ← HW2.out]
      refine HPC.out.mono ?_
      rintro e w3 ⟨rfl, rfl⟩
      clear HPC HW2 HGB HB1
      cases B with
      | true =>
        have HF : Hid (R = 2) := by show _ = _; rw [hR]; unfold guessN; rw [if_neg HNG.out, ← HB.out, if_pos rfl]
        clear hR
        go_wp2_with fail
        go_ret
        exact ⟨by rw [HF.out]; rfl, HB2.out⟩
      | false =>
        have HG := Lib.hid (guess_rest HNG.out HB.out.symm)
        have e0 : ((n : Int) == 0) = false := by simp; omega
        obtain ⟨c, hcc⟩ : ∃ c, c = bAt L 0 := ⟨_, rfl⟩
        have HRR : Hid (R = if 160 ≤ c ∧ c ≤ 187 then 4 else if (128 ≤ c ∧ c ≤ 143) ∨ c = 222 ∨ c = 223 then 5 else 0) := by show _ = _; rw [hR, HG.out (by omega), ← hcc]
        obtain ⟨bb, oo, eb, cc⟩ := (HRD.out.keep HB2.out).at 0 (by omega)
        simp only [Option.some.injEq, Addr.mk.injEq, and_true] at eb
        obtain ⟨rfl, rfl⟩ := eb
        have hc9 := bAt_lt L 0
        rw [← hcc] at cc hc9
        have u0 : (0 : Int) < (n : Int) := by omega
        have u0n : 0 < n := by omega
        rw [Nat.add_zero] at cc
        have hcs : c < 128 ∨ (128 ≤ c ∧ c ≤ 143) ∨ (144 ≤ c ∧ c ≤ 159) ∨ (160 ≤ c ∧ c ≤ 187) ∨ (188 ≤ c ∧ c ≤ 221) ∨ c = 222 ∨ c = 223 ∨ 224 ≤ c := by omega
        clear hR HG hcc
        rcases hcs with hh2 | hh2 | hh2 | hh2 | hh2 | hh2 | hh2 | hh2
        · have HF : Hid (R = 0) := by show _ = _; rw [HRR.out, if_neg (by omega), if_neg (by omega)]
          have d160 : decide ((160 : Int) ≤ (c : Int)) = false := by simp; omega
          have d160n : decide (160 ≤ c) = false := by simp; omega
          have d187 : decide ((c : Int) ≤ 187) = true := by simp; omega
          have d187n : decide (c ≤ 187) = true := by simp; omega
          have d128 : decide ((128 : Int) ≤ (c : Int)) = false := by simp; omega
          have d128n : decide (128 ≤ c) = false := by simp; omega
          have d143 : decide ((c : Int) ≤ 143) = true := by simp; omega
          have d143n : decide (c ≤ 143) = true := by simp; omega
          have e222 : ((c : Int) == 222) = false := by simp; omega
          have e223 : ((c : Int) == 223) = false := by simp; omega
          clear HRR hh2 hc9
          go_wp2_with fail
          go_ret
          exact ⟨by rw [HF.out]; rfl, HB2.out⟩
        · have HF : Hid (R = 5) := by show _ = _; rw [HRR.out, if_neg (by omega), if_pos (by omega)]
          have d160 : decide ((160 : Int) ≤ (c : Int)) = false := by simp; omega
          have d160n : decide (160 ≤ c) = false := by simp; omega
          have d187 : decide ((c : Int) ≤ 187) = true := by simp; omega
          have d187n : decide (c ≤ 187) = true := by simp; omega
          have d128 : decide ((128 : Int) ≤ (c : Int)) = true := by simp; omega
          have d128n : decide (128 ≤ c) = true := by simp; omega
          have d143 : decide ((c : Int) ≤ 143) = true := by simp; omega
          have d143n : decide (c ≤ 143) = true := by simp; omega
          have e222 : ((c : Int) == 222) = false := by simp; omega
          have e223 : ((c : Int) == 223) = false := by simp; omega
          clear HRR hh2 hc9
          go_wp2_with fail
          go_ret
          exact ⟨by rw [HF.out]; rfl, HB2.out⟩
        · have HF : Hid (R = 0) := by show _ = _; rw [HRR.out, if_neg (by omega), if_neg (by omega)]
          have d160 : decide ((160 : Int) ≤ (c : Int)) = false := by simp; omega
          have d160n : decide (160 ≤ c) = false := by simp; omega
          have d187 : decide ((c : Int) ≤ 187) = true := by simp; omega
          have d187n : decide (c ≤ 187) = true := by simp; omega
          have d128 : decide ((128 : Int) ≤ (c : Int)) = true := by simp; omega
          have d128n : decide (128 ≤ c) = true := by simp; omega
          have d143 : decide ((c : Int) ≤ 143) = false := by simp; omega
          have d143n : decide (c ≤ 143) = false := by simp; omega
          have e222 : ((c : Int) == 222) = false := by simp; omega
          have e223 : ((c : Int) == 223) = false := by simp; omega
          clear HRR hh2 hc9
          go_wp2_with fail
          go_ret
          exact ⟨by rw [HF.out]; rfl, HB2.out⟩
        · have HF : Hid (R = 4) := by show _ = _; rw [HRR.out, if_pos (by omega)]
          have d160 : decide ((160 : Int) ≤ (c : Int)) = true := by simp; omega
          have d160n : decide (160 ≤ c) = true := by simp; omega
          have d187 : decide ((c : Int) ≤ 187) = true := by simp; omega
          have d187n : decide (c ≤ 187) = true := by simp; omega
          have d128 : decide ((128 : Int) ≤ (c : Int)) = true := by simp; omega
          have d128n : decide (128 ≤ c) = true := by simp; omega
          have d143 : decide ((c : Int) ≤ 143) = false := by simp; omega
          have d143n : decide (c ≤ 143) = false := by simp; omega
          have e222 : ((c : Int) == 222) = false := by simp; omega
          have e223 : ((c : Int) == 223) = false := by simp; omega
          clear HRR hh2 hc9
          go_wp2_with fail
          go_ret
          exact ⟨by rw [HF.out]; rfl, HB2.out⟩
        · have HF : Hid (R = 0) := by show _ = _; rw [HRR.out, if_neg (by omega), if_neg (by omega)]
          have d160 : decide ((160 : Int) ≤ (c : Int)) = true := by simp; omega
          have d160n : decide (160 ≤ c) = true := by simp; omega
          have d187 : decide ((c : Int) ≤ 187) = false := by simp; omega
          have d187n : decide (c ≤ 187) = false := by simp; omega
          have d128 : decide ((128 : Int) ≤ (c : Int)) = true := by simp; omega
          have d128n : decide (128 ≤ c) = true := by simp; omega
          have d143 : decide ((c : Int) ≤ 143) = false := by simp; omega
          have d143n : decide (c ≤ 143) = false := by simp; omega
          have e222 : ((c : Int) == 222) = false := by simp; omega
          have e223 : ((c : Int) == 223) = false := by simp; omega
          clear HRR hh2 hc9
          go_wp2_with fail
          go_ret
          exact ⟨by rw [HF.out]; rfl, HB2.out⟩
        · have HF : Hid (R = 5) := by show _ = _; rw [HRR.out, if_neg (by omega), if_pos (by omega)]
          have d160 : decide ((160 : Int) ≤ (c : Int)) = true := by simp; omega
          have d160n : decide (160 ≤ c) = true := by simp; omega
          have d187 : decide ((c : Int) ≤ 187) = false := by simp; omega
          have d187n : decide (c ≤ 187) = false := by simp; omega
          have d128 : decide ((128 : Int) ≤ (c : Int)) = true := by simp; omega
          have d128n : decide (128 ≤ c) = true := by simp; omega
          have d143 : decide ((c : Int) ≤ 143) = false := by simp; omega
          have d143n : decide (c ≤ 143) = false := by simp; omega
          have e222 : ((c : Int) == 222) = true := by simp; omega
          have e223 : ((c : Int) == 223) = false := by simp; omega
          clear HRR hh2 hc9
          go_wp2_with fail
          go_ret
          exact ⟨by rw [HF.out]; rfl, HB2.out⟩
        · have HF : Hid (R = 5) := by show _ = _; rw [HRR.out, if_neg (by omega), if_pos (by omega)]
          have d160 : decide ((160 : Int) ≤ (c : Int)) = true := by simp; omega
          have d160n : decide (160 ≤ c) = true := by simp; omega
          have d187 : decide ((c : Int) ≤ 187) = false := by simp; omega
          have d187n : decide (c ≤ 187) = false := by simp; omega
          have d128 : decide ((128 : Int) ≤ (c : Int)) = true := by simp; omega
          have d128n : decide (128 ≤ c) = true := by simp; omega
          have d143 : decide ((c : Int) ≤ 143) = false := by simp; omega
          have d143n : decide (c ≤ 143) = false := by simp; omega
          have e222 : ((c : Int) == 222) = false := by simp; omega
          have e223 : ((c : Int) == 223) = true := by simp; omega
          clear HRR hh2 hc9
          go_wp2_with fail
          go_ret
          exact ⟨by rw [HF.out]; rfl, HB2.out⟩
        · have HF : Hid (R = 0) := by show _ = _; rw [HRR.out, if_neg (by omega), if_neg (by omega)]
          have d160 : decide ((160 : Int) ≤ (c : Int)) = true := by simp; omega
          have d160n : decide (160 ≤ c) = true := by simp; omega
          have d187 : decide ((c : Int) ≤ 187) = false := by simp; omega
          have d187n : decide (c ≤ 187) = false := by simp; omega
          have d128 : decide ((128 : Int) ≤ (c : Int)) = true := by simp; omega
          have d128n : decide (128 ≤ c) = true := by simp; omega
          have d143 : decide ((c : Int) ≤ 143) = false := by simp; omega
          have d143n : decide (c ≤ 143) = false := by simp; omega
          have e222 : ((c : Int) == 222) = false := by simp; omega
          have e223 : ((c : Int) == 223) = false := by simp; omega
          clear HRR hh2 hc9
          go_wp2_with fail
          go_ret
          exact ⟨by rw [HF.out]; rfl, HB2.out⟩
  · as_aux_lemma =>
      have g5 : decide ((5 : Int) ≤ (n : Int)) = true := by simp; omega
      have g5n : decide (5 ≤ n) = true := by simp; omega
      obtain ⟨n1, hn1⟩ : ∃ x, x = n - 1 := ⟨_, rfl⟩
      have w1 : IntKind.i64.wrap ((n : Int) - 1) = (n1 : Int) := (IntWalk.i64_in _ (by omega)).trans (by omega)
      have i0 : (0 : Int) ≤ (n1 : Int) := by omega
      have i1 : (n1 : Int) < (n : Int) := by omega
      rw [← hn1] at hh
      obtain ⟨b0, o0, rfl, cl⟩ := HRD.out.at n1 (by omega)
      have t0 : (0 : Int) < (n : Int) := by omega
      have t0n : 0 < n := by omega
      have t1n : 1 < n := by omega
      have t2n : 2 < n := by omega
      have t3n : 3 < n := by omega
      have t1 : (1 : Int) < (n : Int) := by omega
      have t2 : (2 : Int) < (n : Int) := by omega
      have t3 : (3 : Int) < (n : Int) := by omega
      obtain ⟨b2, o2, e2, c0⟩ := HRD.out.at 0 (by omega)
      simp only [Option.some.injEq, Addr.mk.injEq, and_true] at e2
      obtain ⟨rfl, rfl⟩ := e2
      have q0 := bAt_lt L 0
      obtain ⟨b2, o2, e2, c1⟩ := HRD.out.at 1 (by omega)
      simp only [Option.some.injEq, Addr.mk.injEq, and_true] at e2
      obtain ⟨rfl, rfl⟩ := e2
      have q1 := bAt_lt L 1
      obtain ⟨b2, o2, e2, c2⟩ := HRD.out.at 2 (by omega)
      simp only [Option.some.injEq, Addr.mk.injEq, and_true] at e2
      obtain ⟨rfl, rfl⟩ := e2
      have q2 := bAt_lt L 2
      obtain ⟨b2, o2, e2, c3⟩ := HRD.out.at 3 (by omega)
      simp only [Option.some.injEq, Addr.mk.injEq, and_true] at e2
      obtain ⟨rfl, rfl⟩ := e2
      have q3 := bAt_lt L 3
      rw [Nat.add_zero] at c0
      obtain ⟨z, hz⟩ : ∃ z, z = bAt L n1 := ⟨_, rfl⟩
      rw [← hz] at cl hh
      have gz : ((z : Int) == 0) = true := by simp; omega
      have hle := le_seg4 L 0 (by omega)
      simp only [Nat.zero_add] at hle
      rw [hle] at hh
      obtain ⟨x0, hx0⟩ : ∃ x, x = bAt L 0 := ⟨_, rfl⟩
      rw [← hx0] at c0 q0 hh
      obtain ⟨x1, hx1⟩ : ∃ x, x = bAt L 1 := ⟨_, rfl⟩
      rw [← hx1] at c1 q1 hh
      obtain ⟨x2, hx2⟩ : ∃ x, x = bAt L 2 := ⟨_, rfl⟩
      rw [← hx2] at c2 q2 hh
      obtain ⟨x3, hx3⟩ : ∃ x, x = bAt L 3 := ⟨_, rfl⟩
      rw [← hx3] at c3 q3 hh
      have v0 : IntKind.i64.wrap (x0 : Int) = (x0 : Int) := IntWalk.i64_in _ (by omega)
      have v1 : IntKind.i64.wrap (x1 : Int) = (x1 : Int) := IntWalk.i64_in _ (by omega)
      have v2 : IntKind.i64.wrap (x2 : Int) = (x2 : Int) := IntWalk.i64_in _ (by omega)
      have v3 : IntKind.i64.wrap (x3 : Int) = (x3 : Int) := IntWalk.i64_in _ (by omega)
      have s1 : IntKind.i64.wrap ((x1 : Int) * 256) = (x1 : Int) * 256 := IntWalk.i64_in _ (by omega)
      have s2 : IntKind.i64.wrap ((x2 : Int) * 65536) = (x2 : Int) * 65536 := IntWalk.i64_in _ (by omega)
      have s3 : IntKind.i64.wrap ((x3 : Int) * 16777216) = (x3 : Int) * 16777216 := IntWalk.i64_in _ (by omega)
      obtain ⟨V, hV⟩ : ∃ V, V = x0 + 256 * (x1 + 256 * (x2 + 256 * x3)) := ⟨_, rfl⟩
      have hor := or_four64 x0 x1 x2 x3 q0 q1 q2 q3
      rw [← hV] at hor
      rw [← hV] at hh
      have gV : ((V : Int) == (n : Int)) = true := by simp; omega
      have HF : Hid (R = 1) := by show _ = _; rw [hR]; unfold guessN; rw [if_pos (by rw [hL, ← hn1, ← hz, hle, ← hx0, ← hx1, ← hx2, ← hx3, ← hV]; omega)]
      clear hz hx0 hx1 hx2 hx3 hV hn1 hle
      clear hTV hB h hR
      go_enter Tryd.func6, Tryd.ntmps6
      go_wp2_with fail
      go_quiet (fail)
      go_wp2_with fail
      go_ret
      exact ⟨by rw [HF.out]; rfl, below_drewN w nq w.heap.size⟩

end Go.Proofs.YtikjmlidgiphjaaDoor
