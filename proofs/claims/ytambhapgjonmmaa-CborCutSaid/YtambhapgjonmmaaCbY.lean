/- cbor.read, walked over a contract of kids. -/
import Derived.Test.YtambhapgjonmmaaCbY1
import Derived.Test.YtambhapgjonmmaaCbY2
namespace Go.Proofs.Ytambhapgjonmmaa
open Go.RowKit
set_option linter.unusedVariables false
set_option linter.unusedSimpArgs false

set_option maxRecDepth 100000 in
set_option maxHeartbeats 8000000 in
theorem read_need (d : Nat) (hd : d ≤ 1000) (hK : KidsSaid28 d) (bs : List UInt8) (hl9 : bs.length ≤ 1000000) (r p : Nat) (w : World) (h : Rdr w r bs p) (hlt : r < w.heap.size) (hlen : ¬ bs.length ≤ p) (m low : Nat) (hm : m = bAt bs p / 32) (hlw : low = bAt bs p % 32) (h27 : ¬ 27 < low) (hsh : ¬ bs.length < p + 1 + sizeL low) (h7 : ¬ m = 7) (h24 : 24 ≤ low) (hnd0 : ¬ needN (numL bs p low) = wideB low) :
    Calls Try.prog 31 #[.pointer (some ⟨r, 0, none⟩), .int .i64 ((d + 1 : Nat) : Int)] w (ReadO w r bs (readQ bs (d + 1) p)) := by
  obtain ⟨wa, hwa⟩ : ∃ W, W = (w.alloc (.cells #[.int .i64 0, .int .u64 0, .slice none 0 0, .string ⟨#[]⟩, .slice none 0 0] 26)).alloc (.cells #[.int .i64 0, .int .i64 0, .slice none 0 0] 35) := ⟨_, rfl⟩
  have hba : Below w.heap.size w wa := by
    rw [hwa]
    exact ((Below.refl _ _).alloc (Nat.le_refl _) _).alloc (by simp) _
  have hbx : RBz wa w.heap.size (w.heap.size + 1) := by rw [hwa]; exact RBz.new _ _ _
  have hz : wa.heap.size = w.heap.size + 2 := by rw [hwa]; simp
  have hpb := h.le
  have HX := Lib.hid hbx
  have HZ := Lib.hid hz
  have HRD := Lib.hid (h.keep hba)
  have HAT := Lib.hid (rat_calls r p bs wa (h.keep hba))
  have CW := Lib.hid (fun e W => wrong28 e p W)
  have HBA := Lib.hid hba
  have HLT := Lib.hid hlt
  obtain ⟨R, hR⟩ : ∃ R, R = readQ bs (d + 1) p := ⟨_, rfl⟩
  rw [← hR]
  rw [readQ] at hR
  have CK := Lib.hid (fun q k nn n e W hr hlt hk hnn hn he => hK bs hl9 r q k nn n e W hr hlt hk hnn hn he)
  obtain ⟨D, hD⟩ : ∃ D, D = d + 1 := ⟨_, rfl⟩
  rw [← hD] at CK ⊢
  have g0 : ((D : Int) == 0) = false := by simp; omega
  have g0n : ¬ (D : Int) = 0 := by omega
  clear h hba hbx hlt hz hD hK
  rw [if_neg hlen] at hR
  have CB := Lib.hid (rbyte_yes r p bs wa HRD.out (by omega))
  have hc9 := bAt_lt bs p
  obtain ⟨c, hc⟩ : ∃ c, c = bAt bs p := ⟨_, rfl⟩
  rw [← hc] at CB hR hc9
  have wq : (c : Int).tdiv 32 = (m : Int) := by rw [Int.tdiv_eq_ediv_of_nonneg (by omega)]; omega
  have wr : (c : Int).tmod 32 = (low : Int) := by rw [Int.tmod_eq_emod_of_nonneg (by omega)]; omega
  have wq2 : IntKind.i64.wrap (m : Int) = (m : Int) := IntWalk.i64_in _ (by omega)
  have wr2 : IntKind.i64.wrap (low : Int) = (low : Int) := IntWalk.i64_in _ (by omega)
  have hm7 : m ≤ 7 := by omega
  rw [← hc] at hm hlw
  rw [← hm, ← hlw] at hR
  have hpl : p + 1 ≤ bs.length := by omega
  clear hc hm hlw hc9 hlen
  rw [if_neg h27] at hR
  have g1 : decide ((27 : Int) < (low : Int)) = false := by simp; omega
  have g1n : decide (27 < low) = false := by simp; omega
  rw [if_neg hsh] at hR
  have CN := Lib.hid (fun W (hr : Rdr W r bs (p + 1)) => num28_ok r p bs low (by omega) W hr (by omega))
  have hn9 := numL_lt bs p low (by omega) (by omega)
  obtain ⟨n, hn⟩ : ∃ n, n = numL bs p low := ⟨_, rfl⟩
  obtain ⟨q, hq⟩ : ∃ q, q = p + 1 + sizeL low := ⟨_, rfl⟩
  rw [← hn, ← hq] at CN hR
  rw [← hn] at hnd0
  rw [← hn] at hn9
  rw [← hq] at hsh
  clear hn hq
  have HRR := Lib.hid hR
  clear hR
  have q1 : decide ((24 : Int) ≤ (low : Int)) = true := by simp; omega
  have q1n : decide (24 ≤ low) = true := by simp; omega
  have CND := Lib.hid (fun W => need_calls n W)
  obtain ⟨sh, hsh2⟩ : ∃ k, k = low - 24 := ⟨_, rfl⟩
  obtain ⟨Wd, hWd⟩ : ∃ k, k = wideB low := ⟨_, rfl⟩
  have ws : IntKind.i64.wrap ((low : Int) - 24) = (sh : Int) := (IntWalk.i64_in _ (by omega)).trans (by omega)
  have hpw : (2 : Int) ^ sh = (Wd : Int) := by
    rw [hWd, hsh2]
    have : low = 24 ∨ low = 25 ∨ low = 26 ∨ low = 27 := by omega
    rcases this with rfl | rfl | rfl | rfl <;> rfl
  have hW8 : Wd ≤ 8 := by rw [hWd]; exact (wideB_le _).2
  have wW : IntKind.i64.wrap (Wd : Int) = (Wd : Int) := IntWalk.i64_in _ (by omega)
  have ws1 : IntKind.i64.wrap (1 * 2 ^ sh) = (Wd : Int) := by rw [Int.one_mul, hpw]; exact wW
  have ws2 : IntKind.i64.wrap (2 ^ sh) = (Wd : Int) := by rw [hpw]; exact wW
  have ws4 : wrap64 (2 ^ min sh 64) = (Wd : Int) := by
    rw [show min sh 64 = sh from by omega, hpw]
    unfold wrap64; omega
  have ws0 : (0 : Int) ≤ (sh : Int) := by omega
  have ws3 : decide ((sh : Int) < 0) = false := by simp
  have HWd := Lib.hid hWd
  clear hsh2 hWd
  have hnd : ¬ needN n = Wd := fun h => hnd0 (h.trans HWd.out)
  clear hnd0
  have HR : Hid (R = .error (3, p)) := by show _ = _; rw [HRR.out]; unfold behQ; rw [if_neg h7, if_pos ⟨h24, by rw [← HWd.out]; exact hnd⟩]
  have x7 : ((m : Int) == 7) = false := by simp; omega
  obtain ⟨N, hN⟩ : ∃ k, k = needN n := ⟨_, rfl⟩
  rw [← hN] at CND hnd
  have y1 : ((N : Int) != (Wd : Int)) = true := bne_iff_ne.mpr (fun h => hnd (Int.ofNat.inj h))
  clear hN HRR CK h24
  go_enter Try.func31, Try.ntmps31
  go_upto_region 1 with fail
  rw [← hwa]
  clear hwa
  go_wp2_with fail
  refine HAT.out.mono ?_
  rintro e w1 ⟨rfl, rfl⟩
  clear HAT
  go_wp2_with fail
  refine CB.out.mono ?_
  rintro e w2 ⟨rfl, hr2, hc2⟩
  have HR2 := Lib.hid hr2
  have HCa := Lib.hid hc2
  clear hr2 hc2 CB
  go_wp2_with fail
  refine (CN.out _ HR2.out).mono ?_
  rintro e w3 ⟨rfl, hr3, hc3⟩
  have HR3 := Lib.hid hr3
  have HC3 : Hid (Chg (fun k => k = r) wa w3) := HCa.out.2.1.trans hc3.2.1 fun _ _ h => h
  have HCE : Hid (w3.cell? ⟨r, 0, none⟩ = w.cell? ⟨r, 0, none⟩) := hc3.2.2.trans (HCa.out.2.2.trans (cell_eq_below HBA.out HLT.out))
  clear hr3 hc3 CN
  go_wp2_with fail
  go_quiet ((go_at_call 48; refine Calls.quiet_of_same ((CND.out _).mono fun e w' h => ⟨h.1, h.2.symm⟩)))
  go_wp2_with fail
  refine (CW.out 3 _).mono ?_
  rintro e w9 ⟨rfl, hb9⟩
  have HC9 : Hid (Chg (fun k => k = r) wa w9) := (HC3.out.trans (Chg.of_below (S := fun k => k = r) (below_drewN w3 nq w3.heap.size)) fun _ _ h => h).trans (Chg.of_below (S := fun _ => False) hb9) fun _ _ h => h.elim
  clear hb9
  obtain ⟨⟨⟨h0, h1, h2, h3, h4⟩, ⟨f0, f1, f2, f3, f4⟩, ⟨k0, k1, k2⟩, ⟨l0, l1, l2⟩⟩, -⟩ := HX.out.chg HC9.out (by have := HLT.out; omega) (by have := HLT.out; omega)
  (repeat (first | go_values | go_skip | go_guarded | go_step | go_upon | (go_simp; go_at_K)))
  refine bodyPost_ret (v := .tuple #[zIt, fltV 3 p]) (by simp [results, Try.results31, go_sem, *]) rfl ?_
  rw [HR.out]
  refine read_err ?_
  have HL9 := HLT.out
  have HCW : Chg (fun k => k = r) w w9 := (Chg.of_below (S := fun k => k = r) HBA.out).trans HC9.out fun _ _ h => h
  (repeat' (first | with_reducible exact HCW | with_reducible apply Chg.drew | with_reducible refine Chg.alloc ?_ _ | with_reducible refine Chg.setCell ?_ (fun h => ?_) _))
  all_goals (dsimp only at h; omega)

theorem read_step (d : Nat) (hd : d ≤ 1000) (hK : KidsSaid28 d) : ReadSaid (d + 1) := by
  intro bs hl9 r p w h hlt
  by_cases hlen : bs.length ≤ p
  · exact read_short d hd hK bs hl9 r p w h hlt hlen
  by_cases h27 : 27 < bAt bs p % 32
  · exact read_form d hd hK bs hl9 r p w h hlt hlen _ _ rfl rfl h27
  by_cases hsh : bs.length < p + 1 + sizeL (bAt bs p % 32)
  · exact read_cut d hd hK bs hl9 r p w h hlt hlen _ _ rfl rfl h27 hsh
  by_cases h7 : bAt bs p / 32 = 7
  · exact read_7 d hd hK bs hl9 r p w h hlt hlen _ _ rfl rfl h27 hsh h7
  have hb := bAt_lt bs p
  have h6 : bAt bs p / 32 = 0 ∨ bAt bs p / 32 = 1 ∨ bAt bs p / 32 = 2 ∨ bAt bs p / 32 = 3 ∨ bAt bs p / 32 = 4 ∨ bAt bs p / 32 = 5 ∨ bAt bs p / 32 = 6 := by omega
  by_cases h24 : 24 ≤ bAt bs p % 32
  · by_cases hnd : needN (numL bs p (bAt bs p % 32)) = wideB (bAt bs p % 32)
    · rcases h6 with e | e | e | e | e | e | e
      · exact read_C0 d hd hK bs hl9 r p w h hlt hlen _ _ rfl rfl h27 hsh e h24 hnd
      · exact read_C1 d hd hK bs hl9 r p w h hlt hlen _ _ rfl rfl h27 hsh e h24 hnd
      · exact read_C2 d hd hK bs hl9 r p w h hlt hlen _ _ rfl rfl h27 hsh e h24 hnd
      · exact read_C3 d hd hK bs hl9 r p w h hlt hlen _ _ rfl rfl h27 hsh e h24 hnd
      · exact read_C4 d hd hK bs hl9 r p w h hlt hlen _ _ rfl rfl h27 hsh e h24 hnd
      · exact read_C5 d hd hK bs hl9 r p w h hlt hlen _ _ rfl rfl h27 hsh e h24 hnd
      · exact read_C6 d hd hK bs hl9 r p w h hlt hlen _ _ rfl rfl h27 hsh e h24 hnd
    · exact read_need d hd hK bs hl9 r p w h hlt hlen _ _ rfl rfl h27 hsh h7 h24 hnd
  · rcases h6 with e | e | e | e | e | e | e
    · exact read_A0 d hd hK bs hl9 r p w h hlt hlen _ _ rfl rfl h27 hsh e h24
    · exact read_A1 d hd hK bs hl9 r p w h hlt hlen _ _ rfl rfl h27 hsh e h24
    · exact read_A2 d hd hK bs hl9 r p w h hlt hlen _ _ rfl rfl h27 hsh e h24
    · exact read_A3 d hd hK bs hl9 r p w h hlt hlen _ _ rfl rfl h27 hsh e h24
    · exact read_A4 d hd hK bs hl9 r p w h hlt hlen _ _ rfl rfl h27 hsh e h24
    · exact read_A5 d hd hK bs hl9 r p w h hlt hlen _ _ rfl rfl h27 hsh e h24
    · exact read_A6 d hd hK bs hl9 r p w h hlt hlen _ _ rfl rfl h27 hsh e h24

end Go.Proofs.Ytambhapgjonmmaa
