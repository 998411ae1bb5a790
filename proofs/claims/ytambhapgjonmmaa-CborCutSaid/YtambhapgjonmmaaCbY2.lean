/- cbor.read, walked over a contract of kids. -/
import Derived.Test.YtambhapgjonmmaaCbY0
namespace Go.Proofs.Ytambhapgjonmmaa
open Go.RowKit
set_option linter.unusedVariables false
set_option linter.unusedSimpArgs false

set_option maxRecDepth 100000 in
set_option maxHeartbeats 8000000 in
theorem read_C0 (d : Nat) (hd : d ≤ 1000) (hK : KidsSaid28 d) (bs : List UInt8) (hl9 : bs.length ≤ 1000000) (r p : Nat) (w : World) (h : Rdr w r bs p) (hlt : r < w.heap.size) (hlen : ¬ bs.length ≤ p) (m low : Nat) (hm : m = bAt bs p / 32) (hlw : low = bAt bs p % 32) (h27 : ¬ 27 < low) (hsh : ¬ bs.length < p + 1 + sizeL low) (hmv : m = 0) (h24 : 24 ≤ low) (hnd0 : needN (numL bs p low) = wideB low) :
    Calls Try.prog 31 #[.pointer (some ⟨r, 0, none⟩), .int .i64 ((d + 1 : Nat) : Int)] w (ReadO w r bs (readQ bs (d + 1) p)) := by
  obtain ⟨wa, hwa⟩ : ∃ W, W = (w.alloc (.cells #[.int .i64 0, .int .u64 0, .slice none 0 0, .string ⟨#[]⟩, .slice none 0 0] 26)).alloc (.cells #[.int .i64 0, .int .i64 0, .slice none 0 0] 35) := ⟨_, rfl⟩
  have hba : Below w.heap.size w wa := by
    rw [hwa]
    exact ((Below.refl _ _).alloc (Nat.le_refl _) _).alloc (by simp) _
  have hbx : RBz wa w.heap.size (w.heap.size + 1) := by rw [hwa]; exact RBz.new _ _ _
  have hz : wa.heap.size = w.heap.size + 2 := by rw [hwa]; simp
  have hpb := h.le
  have HX := Lib.hid hbx
  have HZ := Lib.hid hz
  have HRD := Lib.hid (h.keep hba)
  have HAT := Lib.hid (rat_calls r p bs wa (h.keep hba))
  have CW := Lib.hid (fun e W => wrong28 e p W)
  have HBA := Lib.hid hba
  have HLT := Lib.hid hlt
  obtain ⟨R, hR⟩ : ∃ R, R = readQ bs (d + 1) p := ⟨_, rfl⟩
  rw [← hR]
  rw [readQ] at hR
  have CK := Lib.hid (fun q k nn n e W hr hlt hk hnn hn he => hK bs hl9 r q k nn n e W hr hlt hk hnn hn he)
  obtain ⟨D, hD⟩ : ∃ D, D = d + 1 := ⟨_, rfl⟩
  rw [← hD] at CK ⊢
  have g0 : ((D : Int) == 0) = false := by simp; omega
  have g0n : ¬ (D : Int) = 0 := by omega
  clear h hba hbx hlt hz hD hK
  rw [if_neg hlen] at hR
  have CB := Lib.hid (rbyte_yes r p bs wa HRD.out (by omega))
  have hc9 := bAt_lt bs p
  obtain ⟨c, hc⟩ : ∃ c, c = bAt bs p := ⟨_, rfl⟩
  rw [← hc] at CB hR hc9
  have wq : (c : Int).tdiv 32 = (m : Int) := by rw [Int.tdiv_eq_ediv_of_nonneg (by omega)]; omega
  have wr : (c : Int).tmod 32 = (low : Int) := by rw [Int.tmod_eq_emod_of_nonneg (by omega)]; omega
  have wq2 : IntKind.i64.wrap (m : Int) = (m : Int) := IntWalk.i64_in _ (by omega)
  have wr2 : IntKind.i64.wrap (low : Int) = (low : Int) := IntWalk.i64_in _ (by omega)
  have hm7 : m ≤ 7 := by omega
  rw [← hc] at hm hlw
  rw [← hm, ← hlw] at hR
  have hpl : p + 1 ≤ bs.length := by omega
  clear hc hm hlw hc9 hlen
  rw [if_neg h27] at hR
  have g1 : decide ((27 : Int) < (low : Int)) = false := by simp; omega
  have g1n : decide (27 < low) = false := by simp; omega
  rw [if_neg hsh] at hR
  have CN := Lib.hid (fun W (hr : Rdr W r bs (p + 1)) => num28_ok r p bs low (by omega) W hr (by omega))
  have hn9 := numL_lt bs p low (by omega) (by omega)
  obtain ⟨n, hn⟩ : ∃ n, n = numL bs p low := ⟨_, rfl⟩
  obtain ⟨q, hq⟩ : ∃ q, q = p + 1 + sizeL low := ⟨_, rfl⟩
  rw [← hn, ← hq] at CN hR
  rw [← hn] at hnd0
  rw [← hn] at hn9
  rw [← hq] at hsh
  clear hn hq
  have HRR := Lib.hid hR
  clear hR
  subst hmv
  have HNM := Lib.hid (fun W k (hk : 0 ≤ k ∧ k ≤ 100) => num_it W (fun k => w.heap.size + 2 ≤ k) k hk n hn9 ⟨#[]⟩ (by decide))
  have q1 : decide ((24 : Int) ≤ (low : Int)) = true := by simp; omega
  have q1n : decide (24 ≤ low) = true := by simp; omega
  have CND := Lib.hid (fun W => need_calls n W)
  obtain ⟨sh, hsh2⟩ : ∃ k, k = low - 24 := ⟨_, rfl⟩
  obtain ⟨Wd, hWd⟩ : ∃ k, k = wideB low := ⟨_, rfl⟩
  have ws : IntKind.i64.wrap ((low : Int) - 24) = (sh : Int) := (IntWalk.i64_in _ (by omega)).trans (by omega)
  have hpw : (2 : Int) ^ sh = (Wd : Int) := by
    rw [hWd, hsh2]
    have : low = 24 ∨ low = 25 ∨ low = 26 ∨ low = 27 := by omega
    rcases this with rfl | rfl | rfl | rfl <;> rfl
  have hW8 : Wd ≤ 8 := by rw [hWd]; exact (wideB_le _).2
  have wW : IntKind.i64.wrap (Wd : Int) = (Wd : Int) := IntWalk.i64_in _ (by omega)
  have ws1 : IntKind.i64.wrap (1 * 2 ^ sh) = (Wd : Int) := by rw [Int.one_mul, hpw]; exact wW
  have ws2 : IntKind.i64.wrap (2 ^ sh) = (Wd : Int) := by rw [hpw]; exact wW
  have ws4 : wrap64 (2 ^ min sh 64) = (Wd : Int) := by
    rw [show min sh 64 = sh from by omega, hpw]
    unfold wrap64; omega
  have ws0 : (0 : Int) ≤ (sh : Int) := by omega
  have ws3 : decide ((sh : Int) < 0) = false := by simp
  have HWd := Lib.hid hWd
  clear hsh2 hWd
  have hnd : needN n = Wd := hnd0.trans HWd.out.symm
  have HG : ¬ (24 ≤ low ∧ needN n ≠ wideB low) := fun h => h.2 hnd0
  rw [hnd] at CND
  clear h24 hnd hnd0
  have HR : Hid (R = .ok (.mk 1 n [] ⟨#[]⟩ .nil, q)) := by show _ = _; rw [HRR.out]; unfold behQ; rw [if_neg (by omega), if_neg HG, if_pos rfl]
  clear HRR CK HG
  go_enter Try.func31, Try.ntmps31
  go_upto_region 1 with fail
  rw [← hwa]
  clear hwa
  go_wp2_with fail
  refine HAT.out.mono ?_
  rintro e w1 ⟨rfl, rfl⟩
  clear HAT
  go_wp2_with fail
  refine CB.out.mono ?_
  rintro e w2 ⟨rfl, hr2, hc2⟩
  have HR2 := Lib.hid hr2
  have HCa := Lib.hid hc2
  clear hr2 hc2 CB
  go_wp2_with fail
  refine (CN.out _ HR2.out).mono ?_
  rintro e w3 ⟨rfl, hr3, hc3⟩
  have HR3 := Lib.hid hr3
  have HC3 : Hid (Chg (fun k => k = r) wa w3) := HCa.out.2.1.trans hc3.2.1 fun _ _ h => h
  have HCE : Hid (w3.cell? ⟨r, 0, none⟩ = w.cell? ⟨r, 0, none⟩) := hc3.2.2.trans (HCa.out.2.2.trans (cell_eq_below HBA.out HLT.out))
  clear hr3 hc3 CN
  go_wp2_with fail
  go_quiet ((go_at_call 48; refine Calls.quiet_of_same ((CND.out _).mono fun e w' h => ⟨h.1, h.2.symm⟩)))
  have HR3 := Lib.hid (HR3.out.keep (below_drewN w3 nq w3.heap.size))
  have HC3 : Hid (Chg (fun k => k = r) wa (w3.drewN nq)) := HC3.out.trans (Chg.of_below (S := fun k => k = r) (below_drewN w3 nq w3.heap.size)) fun _ _ h => h
  have HCE : Hid ((w3.drewN nq).cell? ⟨r, 0, none⟩ = w.cell? ⟨r, 0, none⟩) := (cell_eq_below (below_drewN w3 nq w3.heap.size) (Nat.lt_of_lt_of_le HLT.out (Nat.le_trans HBA.out.size (by have := HC3.out.size; exact this)))).trans HCE.out
  obtain ⟨⟨⟨h0, h1, h2, h3, h4⟩, ⟨f0, f1, f2, f3, f4⟩, ⟨k0, k1, k2⟩, ⟨l0, l1, l2⟩⟩, -⟩ := HX.out.chg HC3.out (by have := HLT.out; omega) (by have := HLT.out; omega)
  (repeat (first | go_values | go_skip | go_guarded | go_step | go_upon | (go_simp; go_at_K)))
  refine bodyPost_ret (v := .tuple #[.agg #[.int .i64 1, .int .u64 (n : Nat), .slice none 0 0, .string ⟨#[]⟩, .slice none 0 0], fltV 0 0]) (by simp [results, Try.results31, go_sem, *]) rfl ?_
  rw [HR.out]
  refine read_fin (W := (w3.drewN nq)) (HX.out.chg HC3.out (by have := HLT.out; omega) (by have := HLT.out; omega)) ?_ HR3.out ((Chg.of_below (S := fun k => k = r) HBA.out).trans HC3.out fun _ _ h => h) ?_ rfl rfl HLT.out HCE.out
  case refine_1 => exact HNM.out _ 1 (by omega)
  (repeat' (first | with_reducible exact Chg.refl _ _ | with_reducible apply Chg.drew | with_reducible refine Chg.alloc ?_ _ | with_reducible refine Chg.setCell ?_ (fun h => ?_) _))
  all_goals (dsimp only; omega)

set_option maxRecDepth 100000 in
set_option maxHeartbeats 8000000 in
theorem read_C1 (d : Nat) (hd : d ≤ 1000) (hK : KidsSaid28 d) (bs : List UInt8) (hl9 : bs.length ≤ 1000000) (r p : Nat) (w : World) (h : Rdr w r bs p) (hlt : r < w.heap.size) (hlen : ¬ bs.length ≤ p) (m low : Nat) (hm : m = bAt bs p / 32) (hlw : low = bAt bs p % 32) (h27 : ¬ 27 < low) (hsh : ¬ bs.length < p + 1 + sizeL low) (hmv : m = 1) (h24 : 24 ≤ low) (hnd0 : needN (numL bs p low) = wideB low) :
    Calls Try.prog 31 #[.pointer (some ⟨r, 0, none⟩), .int .i64 ((d + 1 : Nat) : Int)] w (ReadO w r bs (readQ bs (d + 1) p)) := by
  obtain ⟨wa, hwa⟩ : ∃ W, W = (w.alloc (.cells #[.int .i64 0, .int .u64 0, .slice none 0 0, .string ⟨#[]⟩, .slice none 0 0] 26)).alloc (.cells #[.int .i64 0, .int .i64 0, .slice none 0 0] 35) := ⟨_, rfl⟩
  have hba : Below w.heap.size w wa := by
    rw [hwa]
    exact ((Below.refl _ _).alloc (Nat.le_refl _) _).alloc (by simp) _
  have hbx : RBz wa w.heap.size (w.heap.size + 1) := by rw [hwa]; exact RBz.new _ _ _
  have hz : wa.heap.size = w.heap.size + 2 := by rw [hwa]; simp
  have hpb := h.le
  have HX := Lib.hid hbx
  have HZ := Lib.hid hz
  have HRD := Lib.hid (h.keep hba)
  have HAT := Lib.hid (rat_calls r p bs wa (h.keep hba))
  have CW := Lib.hid (fun e W => wrong28 e p W)
  have HBA := Lib.hid hba
  have HLT := Lib.hid hlt
  obtain ⟨R, hR⟩ : ∃ R, R = readQ bs (d + 1) p := ⟨_, rfl⟩
  rw [← hR]
  rw [readQ] at hR
  have CK := Lib.hid (fun q k nn n e W hr hlt hk hnn hn he => hK bs hl9 r q k nn n e W hr hlt hk hnn hn he)
  obtain ⟨D, hD⟩ : ∃ D, D = d + 1 := ⟨_, rfl⟩
  rw [← hD] at CK ⊢
  have g0 : ((D : Int) == 0) = false := by simp; omega
  have g0n : ¬ (D : Int) = 0 := by omega
  clear h hba hbx hlt hz hD hK
  rw [if_neg hlen] at hR
  have CB := Lib.hid (rbyte_yes r p bs wa HRD.out (by omega))
  have hc9 := bAt_lt bs p
  obtain ⟨c, hc⟩ : ∃ c, c = bAt bs p := ⟨_, rfl⟩
  rw [← hc] at CB hR hc9
  have wq : (c : Int).tdiv 32 = (m : Int) := by rw [Int.tdiv_eq_ediv_of_nonneg (by omega)]; omega
  have wr : (c : Int).tmod 32 = (low : Int) := by rw [Int.tmod_eq_emod_of_nonneg (by omega)]; omega
  have wq2 : IntKind.i64.wrap (m : Int) = (m : Int) := IntWalk.i64_in _ (by omega)
  have wr2 : IntKind.i64.wrap (low : Int) = (low : Int) := IntWalk.i64_in _ (by omega)
  have hm7 : m ≤ 7 := by omega
  rw [← hc] at hm hlw
  rw [← hm, ← hlw] at hR
  have hpl : p + 1 ≤ bs.length := by omega
  clear hc hm hlw hc9 hlen
  rw [if_neg h27] at hR
  have g1 : decide ((27 : Int) < (low : Int)) = false := by simp; omega
  have g1n : decide (27 < low) = false := by simp; omega
  rw [if_neg hsh] at hR
  have CN := Lib.hid (fun W (hr : Rdr W r bs (p + 1)) => num28_ok r p bs low (by omega) W hr (by omega))
  have hn9 := numL_lt bs p low (by omega) (by omega)
  obtain ⟨n, hn⟩ : ∃ n, n = numL bs p low := ⟨_, rfl⟩
  obtain ⟨q, hq⟩ : ∃ q, q = p + 1 + sizeL low := ⟨_, rfl⟩
  rw [← hn, ← hq] at CN hR
  rw [← hn] at hnd0
  rw [← hn] at hn9
  rw [← hq] at hsh
  clear hn hq
  have HRR := Lib.hid hR
  clear hR
  subst hmv
  have HNM := Lib.hid (fun W k (hk : 0 ≤ k ∧ k ≤ 100) => num_it W (fun k => w.heap.size + 2 ≤ k) k hk n hn9 ⟨#[]⟩ (by decide))
  have q1 : decide ((24 : Int) ≤ (low : Int)) = true := by simp; omega
  have q1n : decide (24 ≤ low) = true := by simp; omega
  have CND := Lib.hid (fun W => need_calls n W)
  obtain ⟨sh, hsh2⟩ : ∃ k, k = low - 24 := ⟨_, rfl⟩
  obtain ⟨Wd, hWd⟩ : ∃ k, k = wideB low := ⟨_, rfl⟩
  have ws : IntKind.i64.wrap ((low : Int) - 24) = (sh : Int) := (IntWalk.i64_in _ (by omega)).trans (by omega)
  have hpw : (2 : Int) ^ sh = (Wd : Int) := by
    rw [hWd, hsh2]
    have : low = 24 ∨ low = 25 ∨ low = 26 ∨ low = 27 := by omega
    rcases this with rfl | rfl | rfl | rfl <;> rfl
  have hW8 : Wd ≤ 8 := by rw [hWd]; exact (wideB_le _).2
  have wW : IntKind.i64.wrap (Wd : Int) = (Wd : Int) := IntWalk.i64_in _ (by omega)
  have ws1 : IntKind.i64.wrap (1 * 2 ^ sh) = (Wd : Int) := by rw [Int.one_mul, hpw]; exact wW
  have ws2 : IntKind.i64.wrap (2 ^ sh) = (Wd : Int) := by rw [hpw]; exact wW
  have ws4 : wrap64 (2 ^ min sh 64) = (Wd : Int) := by
    rw [show min sh 64 = sh from by omega, hpw]
    unfold wrap64; omega
  have ws0 : (0 : Int) ≤ (sh : Int) := by omega
  have ws3 : decide ((sh : Int) < 0) = false := by simp
  have HWd := Lib.hid hWd
  clear hsh2 hWd
  have hnd : needN n = Wd := hnd0.trans HWd.out.symm
  have HG : ¬ (24 ≤ low ∧ needN n ≠ wideB low) := fun h => h.2 hnd0
  rw [hnd] at CND
  clear h24 hnd hnd0
  have HR : Hid (R = .ok (.mk 2 n [] ⟨#[]⟩ .nil, q)) := by show _ = _; rw [HRR.out]; unfold behQ; rw [if_neg (by omega), if_neg HG, if_neg (by omega), if_pos rfl]
  clear HRR CK HG
  go_enter Try.func31, Try.ntmps31
  go_upto_region 1 with fail
  rw [← hwa]
  clear hwa
  go_wp2_with fail
  refine HAT.out.mono ?_
  rintro e w1 ⟨rfl, rfl⟩
  clear HAT
  go_wp2_with fail
  refine CB.out.mono ?_
  rintro e w2 ⟨rfl, hr2, hc2⟩
  have HR2 := Lib.hid hr2
  have HCa := Lib.hid hc2
  clear hr2 hc2 CB
  go_wp2_with fail
  refine (CN.out _ HR2.out).mono ?_
  rintro e w3 ⟨rfl, hr3, hc3⟩
  have HR3 := Lib.hid hr3
  have HC3 : Hid (Chg (fun k => k = r) wa w3) := HCa.out.2.1.trans hc3.2.1 fun _ _ h => h
  have HCE : Hid (w3.cell? ⟨r, 0, none⟩ = w.cell? ⟨r, 0, none⟩) := hc3.2.2.trans (HCa.out.2.2.trans (cell_eq_below HBA.out HLT.out))
  clear hr3 hc3 CN
  go_wp2_with fail
  go_quiet ((go_at_call 48; refine Calls.quiet_of_same ((CND.out _).mono fun e w' h => ⟨h.1, h.2.symm⟩)))
  have HR3 := Lib.hid (HR3.out.keep (below_drewN w3 nq w3.heap.size))
  have HC3 : Hid (Chg (fun k => k = r) wa (w3.drewN nq)) := HC3.out.trans (Chg.of_below (S := fun k => k = r) (below_drewN w3 nq w3.heap.size)) fun _ _ h => h
  have HCE : Hid ((w3.drewN nq).cell? ⟨r, 0, none⟩ = w.cell? ⟨r, 0, none⟩) := (cell_eq_below (below_drewN w3 nq w3.heap.size) (Nat.lt_of_lt_of_le HLT.out (Nat.le_trans HBA.out.size (by have := HC3.out.size; exact this)))).trans HCE.out
  obtain ⟨⟨⟨h0, h1, h2, h3, h4⟩, ⟨f0, f1, f2, f3, f4⟩, ⟨k0, k1, k2⟩, ⟨l0, l1, l2⟩⟩, -⟩ := HX.out.chg HC3.out (by have := HLT.out; omega) (by have := HLT.out; omega)
  (repeat (first | go_values | go_skip | go_guarded | go_step | go_upon | (go_simp; go_at_K)))
  refine bodyPost_ret (v := .tuple #[.agg #[.int .i64 2, .int .u64 (n : Nat), .slice none 0 0, .string ⟨#[]⟩, .slice none 0 0], fltV 0 0]) (by simp [results, Try.results31, go_sem, *]) rfl ?_
  rw [HR.out]
  refine read_fin (W := (w3.drewN nq)) (HX.out.chg HC3.out (by have := HLT.out; omega) (by have := HLT.out; omega)) ?_ HR3.out ((Chg.of_below (S := fun k => k = r) HBA.out).trans HC3.out fun _ _ h => h) ?_ rfl rfl HLT.out HCE.out
  case refine_1 => exact HNM.out _ 2 (by omega)
  (repeat' (first | with_reducible exact Chg.refl _ _ | with_reducible apply Chg.drew | with_reducible refine Chg.alloc ?_ _ | with_reducible refine Chg.setCell ?_ (fun h => ?_) _))
  all_goals (dsimp only; omega)

set_option maxRecDepth 100000 in
set_option maxHeartbeats 8000000 in
theorem read_C2 (d : Nat) (hd : d ≤ 1000) (hK : KidsSaid28 d) (bs : List UInt8) (hl9 : bs.length ≤ 1000000) (r p : Nat) (w : World) (h : Rdr w r bs p) (hlt : r < w.heap.size) (hlen : ¬ bs.length ≤ p) (m low : Nat) (hm : m = bAt bs p / 32) (hlw : low = bAt bs p % 32) (h27 : ¬ 27 < low) (hsh : ¬ bs.length < p + 1 + sizeL low) (hmv : m = 2) (h24 : 24 ≤ low) (hnd0 : needN (numL bs p low) = wideB low) :
    Calls Try.prog 31 #[.pointer (some ⟨r, 0, none⟩), .int .i64 ((d + 1 : Nat) : Int)] w (ReadO w r bs (readQ bs (d + 1) p)) := by
  obtain ⟨wa, hwa⟩ : ∃ W, W = (w.alloc (.cells #[.int .i64 0, .int .u64 0, .slice none 0 0, .string ⟨#[]⟩, .slice none 0 0] 26)).alloc (.cells #[.int .i64 0, .int .i64 0, .slice none 0 0] 35) := ⟨_, rfl⟩
  have hba : Below w.heap.size w wa := by
    rw [hwa]
    exact ((Below.refl _ _).alloc (Nat.le_refl _) _).alloc (by simp) _
  have hbx : RBz wa w.heap.size (w.heap.size + 1) := by rw [hwa]; exact RBz.new _ _ _
  have hz : wa.heap.size = w.heap.size + 2 := by rw [hwa]; simp
  have hpb := h.le
  have HX := Lib.hid hbx
  have HZ := Lib.hid hz
  have HRD := Lib.hid (h.keep hba)
  have HAT := Lib.hid (rat_calls r p bs wa (h.keep hba))
  have CW := Lib.hid (fun e W => wrong28 e p W)
  have HBA := Lib.hid hba
  have HLT := Lib.hid hlt
  obtain ⟨R, hR⟩ : ∃ R, R = readQ bs (d + 1) p := ⟨_, rfl⟩
  rw [← hR]
  rw [readQ] at hR
  have CK := Lib.hid (fun q k nn n e W hr hlt hk hnn hn he => hK bs hl9 r q k nn n e W hr hlt hk hnn hn he)
  obtain ⟨D, hD⟩ : ∃ D, D = d + 1 := ⟨_, rfl⟩
  rw [← hD] at CK ⊢
  have g0 : ((D : Int) == 0) = false := by simp; omega
  have g0n : ¬ (D : Int) = 0 := by omega
  clear h hba hbx hlt hz hD hK
  rw [if_neg hlen] at hR
  have CB := Lib.hid (rbyte_yes r p bs wa HRD.out (by omega))
  have hc9 := bAt_lt bs p
  obtain ⟨c, hc⟩ : ∃ c, c = bAt bs p := ⟨_, rfl⟩
  rw [← hc] at CB hR hc9
  have wq : (c : Int).tdiv 32 = (m : Int) := by rw [Int.tdiv_eq_ediv_of_nonneg (by omega)]; omega
  have wr : (c : Int).tmod 32 = (low : Int) := by rw [Int.tmod_eq_emod_of_nonneg (by omega)]; omega
  have wq2 : IntKind.i64.wrap (m : Int) = (m : Int) := IntWalk.i64_in _ (by omega)
  have wr2 : IntKind.i64.wrap (low : Int) = (low : Int) := IntWalk.i64_in _ (by omega)
  have hm7 : m ≤ 7 := by omega
  rw [← hc] at hm hlw
  rw [← hm, ← hlw] at hR
  have hpl : p + 1 ≤ bs.length := by omega
  clear hc hm hlw hc9 hlen
  rw [if_neg h27] at hR
  have g1 : decide ((27 : Int) < (low : Int)) = false := by simp; omega
  have g1n : decide (27 < low) = false := by simp; omega
  rw [if_neg hsh] at hR
  have CN := Lib.hid (fun W (hr : Rdr W r bs (p + 1)) => num28_ok r p bs low (by omega) W hr (by omega))
  have hn9 := numL_lt bs p low (by omega) (by omega)
  obtain ⟨n, hn⟩ : ∃ n, n = numL bs p low := ⟨_, rfl⟩
  obtain ⟨q, hq⟩ : ∃ q, q = p + 1 + sizeL low := ⟨_, rfl⟩
  rw [← hn, ← hq] at CN hR
  rw [← hn] at hnd0
  rw [← hn] at hn9
  rw [← hq] at hsh
  clear hn hq
  have HRR := Lib.hid hR
  clear hR
  subst hmv
  have HNM := Lib.hid (fun W k (hk : 0 ≤ k ∧ k ≤ 100) => num_it W (fun k => w.heap.size + 2 ≤ k) k hk n hn9 ⟨#[]⟩ (by decide))
  have q1 : decide ((24 : Int) ≤ (low : Int)) = true := by simp; omega
  have q1n : decide (24 ≤ low) = true := by simp; omega
  have CND := Lib.hid (fun W => need_calls n W)
  obtain ⟨sh, hsh2⟩ : ∃ k, k = low - 24 := ⟨_, rfl⟩
  obtain ⟨Wd, hWd⟩ : ∃ k, k = wideB low := ⟨_, rfl⟩
  have ws : IntKind.i64.wrap ((low : Int) - 24) = (sh : Int) := (IntWalk.i64_in _ (by omega)).trans (by omega)
  have hpw : (2 : Int) ^ sh = (Wd : Int) := by
    rw [hWd, hsh2]
    have : low = 24 ∨ low = 25 ∨ low = 26 ∨ low = 27 := by omega
    rcases this with rfl | rfl | rfl | rfl <;> rfl
  have hW8 : Wd ≤ 8 := by rw [hWd]; exact (wideB_le _).2
  have wW : IntKind.i64.wrap (Wd : Int) = (Wd : Int) := IntWalk.i64_in _ (by omega)
  have ws1 : IntKind.i64.wrap (1 * 2 ^ sh) = (Wd : Int) := by rw [Int.one_mul, hpw]; exact wW
  have ws2 : IntKind.i64.wrap (2 ^ sh) = (Wd : Int) := by rw [hpw]; exact wW
  have ws4 : wrap64 (2 ^ min sh 64) = (Wd : Int) := by
    rw [show min sh 64 = sh from by omega, hpw]
    unfold wrap64; omega
  have ws0 : (0 : Int) ≤ (sh : Int) := by omega
  have ws3 : decide ((sh : Int) < 0) = false := by simp
  have HWd := Lib.hid hWd
  clear hsh2 hWd
  have hnd : needN n = Wd := hnd0.trans HWd.out.symm
  have HG : ¬ (24 ≤ low ∧ needN n ≠ wideB low) := fun h => h.2 hnd0
  rw [hnd] at CND
  clear h24 hnd hnd0
  obtain ⟨R1, hR1⟩ : ∃ R1, R1 = rowQ bs p q 2 n := ⟨_, rfl⟩
  have HR1 : Hid (R = R1) := by show _ = _; rw [hR1]; rw [HRR.out]; unfold behQ; rw [if_neg (by omega), if_neg HG, if_neg (by omega), if_neg (by omega), if_pos (by omega)]
  have C1 : Hid (∀ W, Rdr W r bs q → r < W.heap.size → Calls Try.prog 49 #[.pointer (some ⟨r, 0, none⟩), .int .i64 p, .int .i64 2, .int .u64 n] W (ReadO W r bs R1)) := fun W hr hlt => row_calls r p q 2 n bs W hr hl9 hlt (.inl rfl) hn9 R1 hR1
  clear HRR CK HG hR1 HNM
  go_enter Try.func31, Try.ntmps31
  go_upto_region 1 with fail
  rw [← hwa]
  clear hwa
  go_wp2_with fail
  refine HAT.out.mono ?_
  rintro e w1 ⟨rfl, rfl⟩
  clear HAT
  go_wp2_with fail
  refine CB.out.mono ?_
  rintro e w2 ⟨rfl, hr2, hc2⟩
  have HR2 := Lib.hid hr2
  have HCa := Lib.hid hc2
  clear hr2 hc2 CB
  go_wp2_with fail
  refine (CN.out _ HR2.out).mono ?_
  rintro e w3 ⟨rfl, hr3, hc3⟩
  have HR3 := Lib.hid hr3
  have HC3 : Hid (Chg (fun k => k = r) wa w3) := HCa.out.2.1.trans hc3.2.1 fun _ _ h => h
  have HCE : Hid (w3.cell? ⟨r, 0, none⟩ = w.cell? ⟨r, 0, none⟩) := hc3.2.2.trans (HCa.out.2.2.trans (cell_eq_below HBA.out HLT.out))
  clear hr3 hc3 CN
  go_wp2_with fail
  go_quiet ((go_at_call 48; refine Calls.quiet_of_same ((CND.out _).mono fun e w' h => ⟨h.1, h.2.symm⟩)))
  have HR3 := Lib.hid (HR3.out.keep (below_drewN w3 nq w3.heap.size))
  have HC3 : Hid (Chg (fun k => k = r) wa (w3.drewN nq)) := HC3.out.trans (Chg.of_below (S := fun k => k = r) (below_drewN w3 nq w3.heap.size)) fun _ _ h => h
  have HCE : Hid ((w3.drewN nq).cell? ⟨r, 0, none⟩ = w.cell? ⟨r, 0, none⟩) := (cell_eq_below (below_drewN w3 nq w3.heap.size) (Nat.lt_of_lt_of_le HLT.out (Nat.le_trans HBA.out.size (by have := HC3.out.size; exact this)))).trans HCE.out
  go_wp2_with fail
  refine (C1.out _ HR3.out (HR3.out.lt)).mono ?_
  rintro e w4 ⟨hc4, hres⟩
  have HC4 : Hid (Chg (fun k => k = r) wa w4) := HC3.out.trans hc4 fun _ _ h => h
  clear hc4
  cases R1 with
  | error ea =>
    obtain ⟨x, a⟩ := ea
    subst hres
    have HR : Hid (R = .error (x, a)) := HR1.out
    obtain ⟨w9, hw9⟩ : ∃ W : World, W = w4 := ⟨_, rfl⟩
    subst hw9
    have HC9 := HC4
    obtain ⟨⟨⟨h0, h1, h2, h3, h4⟩, ⟨f0, f1, f2, f3, f4⟩, ⟨k0, k1, k2⟩, ⟨l0, l1, l2⟩⟩, -⟩ := HX.out.chg HC9.out (by have := HLT.out; omega) (by have := HLT.out; omega)
    (repeat (first | go_values | go_skip | go_guarded | go_step | go_upon | (go_simp; go_at_K)))
    refine bodyPost_ret (v := .tuple #[zIt, fltV x a]) (by simp [results, Try.results31, go_sem, *]) rfl ?_
    rw [HR.out]
    refine read_err ?_
    have HL9 := HLT.out
    have HCW : Chg (fun k => k = r) w w9 := (Chg.of_below (S := fun k => k = r) HBA.out).trans HC9.out fun _ _ h => h
    (repeat' (first | with_reducible exact HCW | with_reducible apply Chg.drew | with_reducible refine Chg.alloc ?_ _ | with_reducible refine Chg.setCell ?_ (fun h => ?_) _))
    all_goals (dsimp only at h; omega)
  | ok xq =>
    obtain ⟨x, qe⟩ := xq
    obtain ⟨c4, rfl, hrd, hr4, hce⟩ := hres
    have HRI : Hid (RdIt (fun k => w.heap.size + 2 ≤ k) w4 x c4) := hrd.imp fun k _ h => by have h1 := HC3.out.size; have h2 := HZ.out; omega
    have HR4 := Lib.hid hr4
    have HCE4 : Hid (w4.cell? ⟨r, 0, none⟩ = w.cell? ⟨r, 0, none⟩) := hce.trans HCE.out
    have HR : Hid (R = .ok (x, qe)) := HR1.out
    obtain ⟨ki, ni, ab, nb, cb, text, ak, nk, ck, rfl⟩ := hrd.shape
    clear hrd hr4 hce
    obtain ⟨⟨⟨h0, h1, h2, h3, h4⟩, ⟨f0, f1, f2, f3, f4⟩, ⟨k0, k1, k2⟩, ⟨l0, l1, l2⟩⟩, -⟩ := HX.out.chg HC4.out (by have := HLT.out; omega) (by have := HLT.out; omega)
    (repeat (first | go_values | go_skip | go_guarded | go_step | go_upon | (go_simp; go_at_K)))
    refine bodyPost_ret (v := .tuple #[.agg #[.int .i64 ki, .int .u64 (ni : Nat), .slice ab nb cb, .string text, .slice ak nk ck], fltV 0 0]) (by simp [results, Try.results31, go_sem, *]) rfl ?_
    rw [HR.out]
    refine read_fin (W := w4) (HX.out.chg HC4.out (by have := HLT.out; omega) (by have := HLT.out; omega)) ?_ HR4.out ((Chg.of_below (S := fun k => k = r) HBA.out).trans HC4.out fun _ _ h => h) ?_ rfl rfl HLT.out HCE4.out
    case refine_1 => exact HRI.out
    (repeat' (first | with_reducible exact Chg.refl _ _ | with_reducible apply Chg.drew | with_reducible refine Chg.alloc ?_ _ | with_reducible refine Chg.setCell ?_ (fun h => ?_) _))
    all_goals (dsimp only; omega)

set_option maxRecDepth 100000 in
set_option maxHeartbeats 8000000 in
theorem read_C3 (d : Nat) (hd : d ≤ 1000) (hK : KidsSaid28 d) (bs : List UInt8) (hl9 : bs.length ≤ 1000000) (r p : Nat) (w : World) (h : Rdr w r bs p) (hlt : r < w.heap.size) (hlen : ¬ bs.length ≤ p) (m low : Nat) (hm : m = bAt bs p / 32) (hlw : low = bAt bs p % 32) (h27 : ¬ 27 < low) (hsh : ¬ bs.length < p + 1 + sizeL low) (hmv : m = 3) (h24 : 24 ≤ low) (hnd0 : needN (numL bs p low) = wideB low) :
    Calls Try.prog 31 #[.pointer (some ⟨r, 0, none⟩), .int .i64 ((d + 1 : Nat) : Int)] w (ReadO w r bs (readQ bs (d + 1) p)) := by
  obtain ⟨wa, hwa⟩ : ∃ W, W = (w.alloc (.cells #[.int .i64 0, .int .u64 0, .slice none 0 0, .string ⟨#[]⟩, .slice none 0 0] 26)).alloc (.cells #[.int .i64 0, .int .i64 0, .slice none 0 0] 35) := ⟨_, rfl⟩
  have hba : Below w.heap.size w wa := by
    rw [hwa]
    exact ((Below.refl _ _).alloc (Nat.le_refl _) _).alloc (by simp) _
  have hbx : RBz wa w.heap.size (w.heap.size + 1) := by rw [hwa]; exact RBz.new _ _ _
  have hz : wa.heap.size = w.heap.size + 2 := by rw [hwa]; simp
  have hpb := h.le
  have HX := Lib.hid hbx
  have HZ := Lib.hid hz
  have HRD := Lib.hid (h.keep hba)
  have HAT := Lib.hid (rat_calls r p bs wa (h.keep hba))
  have CW := Lib.hid (fun e W => wrong28 e p W)
  have HBA := Lib.hid hba
  have HLT := Lib.hid hlt
  obtain ⟨R, hR⟩ : ∃ R, R = readQ bs (d + 1) p := ⟨_, rfl⟩
  rw [← hR]
  rw [readQ] at hR
  have CK := Lib.hid (fun q k nn n e W hr hlt hk hnn hn he => hK bs hl9 r q k nn n e W hr hlt hk hnn hn he)
  obtain ⟨D, hD⟩ : ∃ D, D = d + 1 := ⟨_, rfl⟩
  rw [← hD] at CK ⊢
  have g0 : ((D : Int) == 0) = false := by simp; omega
  have g0n : ¬ (D : Int) = 0 := by omega
  clear h hba hbx hlt hz hD hK
  rw [if_neg hlen] at hR
  have CB := Lib.hid (rbyte_yes r p bs wa HRD.out (by omega))
  have hc9 := bAt_lt bs p
  obtain ⟨c, hc⟩ : ∃ c, c = bAt bs p := ⟨_, rfl⟩
  rw [← hc] at CB hR hc9
  have wq : (c : Int).tdiv 32 = (m : Int) := by rw [Int.tdiv_eq_ediv_of_nonneg (by omega)]; omega
  have wr : (c : Int).tmod 32 = (low : Int) := by rw [Int.tmod_eq_emod_of_nonneg (by omega)]; omega
  have wq2 : IntKind.i64.wrap (m : Int) = (m : Int) := IntWalk.i64_in _ (by omega)
  have wr2 : IntKind.i64.wrap (low : Int) = (low : Int) := IntWalk.i64_in _ (by omega)
  have hm7 : m ≤ 7 := by omega
  rw [← hc] at hm hlw
  rw [← hm, ← hlw] at hR
  have hpl : p + 1 ≤ bs.length := by omega
  clear hc hm hlw hc9 hlen
  rw [if_neg h27] at hR
  have g1 : decide ((27 : Int) < (low : Int)) = false := by simp; omega
  have g1n : decide (27 < low) = false := by simp; omega
  rw [if_neg hsh] at hR
  have CN := Lib.hid (fun W (hr : Rdr W r bs (p + 1)) => num28_ok r p bs low (by omega) W hr (by omega))
  have hn9 := numL_lt bs p low (by omega) (by omega)
  obtain ⟨n, hn⟩ : ∃ n, n = numL bs p low := ⟨_, rfl⟩
  obtain ⟨q, hq⟩ : ∃ q, q = p + 1 + sizeL low := ⟨_, rfl⟩
  rw [← hn, ← hq] at CN hR
  rw [← hn] at hnd0
  rw [← hn] at hn9
  rw [← hq] at hsh
  clear hn hq
  have HRR := Lib.hid hR
  clear hR
  subst hmv
  have HNM := Lib.hid (fun W k (hk : 0 ≤ k ∧ k ≤ 100) => num_it W (fun k => w.heap.size + 2 ≤ k) k hk n hn9 ⟨#[]⟩ (by decide))
  have q1 : decide ((24 : Int) ≤ (low : Int)) = true := by simp; omega
  have q1n : decide (24 ≤ low) = true := by simp; omega
  have CND := Lib.hid (fun W => need_calls n W)
  obtain ⟨sh, hsh2⟩ : ∃ k, k = low - 24 := ⟨_, rfl⟩
  obtain ⟨Wd, hWd⟩ : ∃ k, k = wideB low := ⟨_, rfl⟩
  have ws : IntKind.i64.wrap ((low : Int) - 24) = (sh : Int) := (IntWalk.i64_in _ (by omega)).trans (by omega)
  have hpw : (2 : Int) ^ sh = (Wd : Int) := by
    rw [hWd, hsh2]
    have : low = 24 ∨ low = 25 ∨ low = 26 ∨ low = 27 := by omega
    rcases this with rfl | rfl | rfl | rfl <;> rfl
  have hW8 : Wd ≤ 8 := by rw [hWd]; exact (wideB_le _).2
  have wW : IntKind.i64.wrap (Wd : Int) = (Wd : Int) := IntWalk.i64_in _ (by omega)
  have ws1 : IntKind.i64.wrap (1 * 2 ^ sh) = (Wd : Int) := by rw [Int.one_mul, hpw]; exact wW
  have ws2 : IntKind.i64.wrap (2 ^ sh) = (Wd : Int) := by rw [hpw]; exact wW
  have ws4 : wrap64 (2 ^ min sh 64) = (Wd : Int) := by
    rw [show min sh 64 = sh from by omega, hpw]
    unfold wrap64; omega
  have ws0 : (0 : Int) ≤ (sh : Int) := by omega
  have ws3 : decide ((sh : Int) < 0) = false := by simp
  have HWd := Lib.hid hWd
  clear hsh2 hWd
  have hnd : needN n = Wd := hnd0.trans HWd.out.symm
  have HG : ¬ (24 ≤ low ∧ needN n ≠ wideB low) := fun h => h.2 hnd0
  rw [hnd] at CND
  clear h24 hnd hnd0
  obtain ⟨R1, hR1⟩ : ∃ R1, R1 = rowQ bs p q 3 n := ⟨_, rfl⟩
  have HR1 : Hid (R = R1) := by show _ = _; rw [hR1]; rw [HRR.out]; unfold behQ; rw [if_neg (by omega), if_neg HG, if_neg (by omega), if_neg (by omega), if_pos (by omega)]
  have C1 : Hid (∀ W, Rdr W r bs q → r < W.heap.size → Calls Try.prog 49 #[.pointer (some ⟨r, 0, none⟩), .int .i64 p, .int .i64 3, .int .u64 n] W (ReadO W r bs R1)) := fun W hr hlt => row_calls r p q 3 n bs W hr hl9 hlt (.inr rfl) hn9 R1 hR1
  clear HRR CK HG hR1 HNM
  go_enter Try.func31, Try.ntmps31
  go_upto_region 1 with fail
  rw [← hwa]
  clear hwa
  go_wp2_with fail
  refine HAT.out.mono ?_
  rintro e w1 ⟨rfl, rfl⟩
  clear HAT
  go_wp2_with fail
  refine CB.out.mono ?_
  rintro e w2 ⟨rfl, hr2, hc2⟩
  have HR2 := Lib.hid hr2
  have HCa := Lib.hid hc2
  clear hr2 hc2 CB
  go_wp2_with fail
  refine (CN.out _ HR2.out).mono ?_
  rintro e w3 ⟨rfl, hr3, hc3⟩
  have HR3 := Lib.hid hr3
  have HC3 : Hid (Chg (fun k => k = r) wa w3) := HCa.out.2.1.trans hc3.2.1 fun _ _ h => h
  have HCE : Hid (w3.cell? ⟨r, 0, none⟩ = w.cell? ⟨r, 0, none⟩) := hc3.2.2.trans (HCa.out.2.2.trans (cell_eq_below HBA.out HLT.out))
  clear hr3 hc3 CN
  go_wp2_with fail
  go_quiet ((go_at_call 48; refine Calls.quiet_of_same ((CND.out _).mono fun e w' h => ⟨h.1, h.2.symm⟩)))
  have HR3 := Lib.hid (HR3.out.keep (below_drewN w3 nq w3.heap.size))
  have HC3 : Hid (Chg (fun k => k = r) wa (w3.drewN nq)) := HC3.out.trans (Chg.of_below (S := fun k => k = r) (below_drewN w3 nq w3.heap.size)) fun _ _ h => h
  have HCE : Hid ((w3.drewN nq).cell? ⟨r, 0, none⟩ = w.cell? ⟨r, 0, none⟩) := (cell_eq_below (below_drewN w3 nq w3.heap.size) (Nat.lt_of_lt_of_le HLT.out (Nat.le_trans HBA.out.size (by have := HC3.out.size; exact this)))).trans HCE.out
  go_wp2_with fail
  refine (C1.out _ HR3.out (HR3.out.lt)).mono ?_
  rintro e w4 ⟨hc4, hres⟩
  have HC4 : Hid (Chg (fun k => k = r) wa w4) := HC3.out.trans hc4 fun _ _ h => h
  clear hc4
  cases R1 with
  | error ea =>
    obtain ⟨x, a⟩ := ea
    subst hres
    have HR : Hid (R = .error (x, a)) := HR1.out
    obtain ⟨w9, hw9⟩ : ∃ W : World, W = w4 := ⟨_, rfl⟩
    subst hw9
    have HC9 := HC4
    obtain ⟨⟨⟨h0, h1, h2, h3, h4⟩, ⟨f0, f1, f2, f3, f4⟩, ⟨k0, k1, k2⟩, ⟨l0, l1, l2⟩⟩, -⟩ := HX.out.chg HC9.out (by have := HLT.out; omega) (by have := HLT.out; omega)
    (repeat (first | go_values | go_skip | go_guarded | go_step | go_upon | (go_simp; go_at_K)))
    refine bodyPost_ret (v := .tuple #[zIt, fltV x a]) (by simp [results, Try.results31, go_sem, *]) rfl ?_
    rw [HR.out]
    refine read_err ?_
    have HL9 := HLT.out
    have HCW : Chg (fun k => k = r) w w9 := (Chg.of_below (S := fun k => k = r) HBA.out).trans HC9.out fun _ _ h => h
    (repeat' (first | with_reducible exact HCW | with_reducible apply Chg.drew | with_reducible refine Chg.alloc ?_ _ | with_reducible refine Chg.setCell ?_ (fun h => ?_) _))
    all_goals (dsimp only at h; omega)
  | ok xq =>
    obtain ⟨x, qe⟩ := xq
    obtain ⟨c4, rfl, hrd, hr4, hce⟩ := hres
    have HRI : Hid (RdIt (fun k => w.heap.size + 2 ≤ k) w4 x c4) := hrd.imp fun k _ h => by have h1 := HC3.out.size; have h2 := HZ.out; omega
    have HR4 := Lib.hid hr4
    have HCE4 : Hid (w4.cell? ⟨r, 0, none⟩ = w.cell? ⟨r, 0, none⟩) := hce.trans HCE.out
    have HR : Hid (R = .ok (x, qe)) := HR1.out
    obtain ⟨ki, ni, ab, nb, cb, text, ak, nk, ck, rfl⟩ := hrd.shape
    clear hrd hr4 hce
    obtain ⟨⟨⟨h0, h1, h2, h3, h4⟩, ⟨f0, f1, f2, f3, f4⟩, ⟨k0, k1, k2⟩, ⟨l0, l1, l2⟩⟩, -⟩ := HX.out.chg HC4.out (by have := HLT.out; omega) (by have := HLT.out; omega)
    (repeat (first | go_values | go_skip | go_guarded | go_step | go_upon | (go_simp; go_at_K)))
    refine bodyPost_ret (v := .tuple #[.agg #[.int .i64 ki, .int .u64 (ni : Nat), .slice ab nb cb, .string text, .slice ak nk ck], fltV 0 0]) (by simp [results, Try.results31, go_sem, *]) rfl ?_
    rw [HR.out]
    refine read_fin (W := w4) (HX.out.chg HC4.out (by have := HLT.out; omega) (by have := HLT.out; omega)) ?_ HR4.out ((Chg.of_below (S := fun k => k = r) HBA.out).trans HC4.out fun _ _ h => h) ?_ rfl rfl HLT.out HCE4.out
    case refine_1 => exact HRI.out
    (repeat' (first | with_reducible exact Chg.refl _ _ | with_reducible apply Chg.drew | with_reducible refine Chg.alloc ?_ _ | with_reducible refine Chg.setCell ?_ (fun h => ?_) _))
    all_goals (dsimp only; omega)

set_option maxRecDepth 100000 in
set_option maxHeartbeats 8000000 in
theorem read_C4 (d : Nat) (hd : d ≤ 1000) (hK : KidsSaid28 d) (bs : List UInt8) (hl9 : bs.length ≤ 1000000) (r p : Nat) (w : World) (h : Rdr w r bs p) (hlt : r < w.heap.size) (hlen : ¬ bs.length ≤ p) (m low : Nat) (hm : m = bAt bs p / 32) (hlw : low = bAt bs p % 32) (h27 : ¬ 27 < low) (hsh : ¬ bs.length < p + 1 + sizeL low) (hmv : m = 4) (h24 : 24 ≤ low) (hnd0 : needN (numL bs p low) = wideB low) :
    Calls Try.prog 31 #[.pointer (some ⟨r, 0, none⟩), .int .i64 ((d + 1 : Nat) : Int)] w (ReadO w r bs (readQ bs (d + 1) p)) := by
  obtain ⟨wa, hwa⟩ : ∃ W, W = (w.alloc (.cells #[.int .i64 0, .int .u64 0, .slice none 0 0, .string ⟨#[]⟩, .slice none 0 0] 26)).alloc (.cells #[.int .i64 0, .int .i64 0, .slice none 0 0] 35) := ⟨_, rfl⟩
  have hba : Below w.heap.size w wa := by
    rw [hwa]
    exact ((Below.refl _ _).alloc (Nat.le_refl _) _).alloc (by simp) _
  have hbx : RBz wa w.heap.size (w.heap.size + 1) := by rw [hwa]; exact RBz.new _ _ _
  have hz : wa.heap.size = w.heap.size + 2 := by rw [hwa]; simp
  have hpb := h.le
  have HX := Lib.hid hbx
  have HZ := Lib.hid hz
  have HRD := Lib.hid (h.keep hba)
  have HAT := Lib.hid (rat_calls r p bs wa (h.keep hba))
  have CW := Lib.hid (fun e W => wrong28 e p W)
  have HBA := Lib.hid hba
  have HLT := Lib.hid hlt
  obtain ⟨R, hR⟩ : ∃ R, R = readQ bs (d + 1) p := ⟨_, rfl⟩
  rw [← hR]
  rw [readQ] at hR
  have CK := Lib.hid (fun q k nn n e W hr hlt hk hnn hn he => hK bs hl9 r q k nn n e W hr hlt hk hnn hn he)
  obtain ⟨D, hD⟩ : ∃ D, D = d + 1 := ⟨_, rfl⟩
  rw [← hD] at CK ⊢
  have g0 : ((D : Int) == 0) = false := by simp; omega
  have g0n : ¬ (D : Int) = 0 := by omega
  clear h hba hbx hlt hz hD hK
  rw [if_neg hlen] at hR
  have CB := Lib.hid (rbyte_yes r p bs wa HRD.out (by omega))
  have hc9 := bAt_lt bs p
  obtain ⟨c, hc⟩ : ∃ c, c = bAt bs p := ⟨_, rfl⟩
  rw [← hc] at CB hR hc9
  have wq : (c : Int).tdiv 32 = (m : Int) := by rw [Int.tdiv_eq_ediv_of_nonneg (by omega)]; omega
  have wr : (c : Int).tmod 32 = (low : Int) := by rw [Int.tmod_eq_emod_of_nonneg (by omega)]; omega
  have wq2 : IntKind.i64.wrap (m : Int) = (m : Int) := IntWalk.i64_in _ (by omega)
  have wr2 : IntKind.i64.wrap (low : Int) = (low : Int) := IntWalk.i64_in _ (by omega)
  have hm7 : m ≤ 7 := by omega
  rw [← hc] at hm hlw
  rw [← hm, ← hlw] at hR
  have hpl : p + 1 ≤ bs.length := by omega
  clear hc hm hlw hc9 hlen
  rw [if_neg h27] at hR
  have g1 : decide ((27 : Int) < (low : Int)) = false := by simp; omega
  have g1n : decide (27 < low) = false := by simp; omega
  rw [if_neg hsh] at hR
  have CN := Lib.hid (fun W (hr : Rdr W r bs (p + 1)) => num28_ok r p bs low (by omega) W hr (by omega))
  have hn9 := numL_lt bs p low (by omega) (by omega)
  obtain ⟨n, hn⟩ : ∃ n, n = numL bs p low := ⟨_, rfl⟩
  obtain ⟨q, hq⟩ : ∃ q, q = p + 1 + sizeL low := ⟨_, rfl⟩
  rw [← hn, ← hq] at CN hR
  rw [← hn] at hnd0
  rw [← hn] at hn9
  rw [← hq] at hsh
  clear hn hq
  have HRR := Lib.hid hR
  clear hR
  subst hmv
  have HNM := Lib.hid (fun W k (hk : 0 ≤ k ∧ k ≤ 100) => num_it W (fun k => w.heap.size + 2 ≤ k) k hk n hn9 ⟨#[]⟩ (by decide))
  have q1 : decide ((24 : Int) ≤ (low : Int)) = true := by simp; omega
  have q1n : decide (24 ≤ low) = true := by simp; omega
  have CND := Lib.hid (fun W => need_calls n W)
  obtain ⟨sh, hsh2⟩ : ∃ k, k = low - 24 := ⟨_, rfl⟩
  obtain ⟨Wd, hWd⟩ : ∃ k, k = wideB low := ⟨_, rfl⟩
  have ws : IntKind.i64.wrap ((low : Int) - 24) = (sh : Int) := (IntWalk.i64_in _ (by omega)).trans (by omega)
  have hpw : (2 : Int) ^ sh = (Wd : Int) := by
    rw [hWd, hsh2]
    have : low = 24 ∨ low = 25 ∨ low = 26 ∨ low = 27 := by omega
    rcases this with rfl | rfl | rfl | rfl <;> rfl
  have hW8 : Wd ≤ 8 := by rw [hWd]; exact (wideB_le _).2
  have wW : IntKind.i64.wrap (Wd : Int) = (Wd : Int) := IntWalk.i64_in _ (by omega)
  have ws1 : IntKind.i64.wrap (1 * 2 ^ sh) = (Wd : Int) := by rw [Int.one_mul, hpw]; exact wW
  have ws2 : IntKind.i64.wrap (2 ^ sh) = (Wd : Int) := by rw [hpw]; exact wW
  have ws4 : wrap64 (2 ^ min sh 64) = (Wd : Int) := by
    rw [show min sh 64 = sh from by omega, hpw]
    unfold wrap64; omega
  have ws0 : (0 : Int) ≤ (sh : Int) := by omega
  have ws3 : decide ((sh : Int) < 0) = false := by simp
  have HWd := Lib.hid hWd
  clear hsh2 hWd
  have hnd : needN n = Wd := hnd0.trans HWd.out.symm
  have HG : ¬ (24 ≤ low ∧ needN n ≠ wideB low) := fun h => h.2 hnd0
  rw [hnd] at CND
  clear h24 hnd hnd0
  obtain ⟨R1, hR1⟩ : ∃ R1, R1 = withKids 5 0 (kidsW (readQ bs d) n q) := ⟨_, rfl⟩
  have HR1 : Hid (R = R1) := by show _ = _; rw [hR1]; rw [HRR.out]; unfold behQ; rw [if_neg (by omega), if_neg HG, if_neg (by omega), if_neg (by omega), if_neg (by omega), if_pos rfl]
  have C1 : Hid (∀ W, Rdr W r bs q → r < W.heap.size → Calls Try.prog 50 #[.pointer (some ⟨r, 0, none⟩), .agg #[.int .i64 5, .int .u64 0, .slice none 0 0, .string ⟨#[]⟩, .slice none 0 0], .int .u64 (n : Nat), .int .i64 1, .int .i64 (D : Nat)] W (ReadO W r bs R1)) := fun W hr hlt => by have := CK.out q 5 0 n 1 W hr hlt (by omega) (by decide) hn9 (.inl rfl); rw [hR1]; rw [Nat.mul_one] at this; exact this
  clear HRR CK HG hR1 HNM
  go_enter Try.func31, Try.ntmps31
  go_upto_region 1 with fail
  rw [← hwa]
  clear hwa
  go_wp2_with fail
  refine HAT.out.mono ?_
  rintro e w1 ⟨rfl, rfl⟩
  clear HAT
  go_wp2_with fail
  refine CB.out.mono ?_
  rintro e w2 ⟨rfl, hr2, hc2⟩
  have HR2 := Lib.hid hr2
  have HCa := Lib.hid hc2
  clear hr2 hc2 CB
  go_wp2_with fail
  refine (CN.out _ HR2.out).mono ?_
  rintro e w3 ⟨rfl, hr3, hc3⟩
  have HR3 := Lib.hid hr3
  have HC3 : Hid (Chg (fun k => k = r) wa w3) := HCa.out.2.1.trans hc3.2.1 fun _ _ h => h
  have HCE : Hid (w3.cell? ⟨r, 0, none⟩ = w.cell? ⟨r, 0, none⟩) := hc3.2.2.trans (HCa.out.2.2.trans (cell_eq_below HBA.out HLT.out))
  clear hr3 hc3 CN
  go_wp2_with fail
  go_quiet ((go_at_call 48; refine Calls.quiet_of_same ((CND.out _).mono fun e w' h => ⟨h.1, h.2.symm⟩)))
  have HR3 := Lib.hid (HR3.out.keep (below_drewN w3 nq w3.heap.size))
  have HC3 : Hid (Chg (fun k => k = r) wa (w3.drewN nq)) := HC3.out.trans (Chg.of_below (S := fun k => k = r) (below_drewN w3 nq w3.heap.size)) fun _ _ h => h
  have HCE : Hid ((w3.drewN nq).cell? ⟨r, 0, none⟩ = w.cell? ⟨r, 0, none⟩) := (cell_eq_below (below_drewN w3 nq w3.heap.size) (Nat.lt_of_lt_of_le HLT.out (Nat.le_trans HBA.out.size (by have := HC3.out.size; exact this)))).trans HCE.out
  go_wp2_with fail
  refine (C1.out _ HR3.out (HR3.out.lt)).mono ?_
  rintro e w4 ⟨hc4, hres⟩
  have HC4 : Hid (Chg (fun k => k = r) wa w4) := HC3.out.trans hc4 fun _ _ h => h
  clear hc4
  cases R1 with
  | error ea =>
    obtain ⟨x, a⟩ := ea
    subst hres
    have HR : Hid (R = .error (x, a)) := HR1.out
    obtain ⟨w9, hw9⟩ : ∃ W : World, W = w4 := ⟨_, rfl⟩
    subst hw9
    have HC9 := HC4
    obtain ⟨⟨⟨h0, h1, h2, h3, h4⟩, ⟨f0, f1, f2, f3, f4⟩, ⟨k0, k1, k2⟩, ⟨l0, l1, l2⟩⟩, -⟩ := HX.out.chg HC9.out (by have := HLT.out; omega) (by have := HLT.out; omega)
    (repeat (first | go_values | go_skip | go_guarded | go_step | go_upon | (go_simp; go_at_K)))
    refine bodyPost_ret (v := .tuple #[zIt, fltV x a]) (by simp [results, Try.results31, go_sem, *]) rfl ?_
    rw [HR.out]
    refine read_err ?_
    have HL9 := HLT.out
    have HCW : Chg (fun k => k = r) w w9 := (Chg.of_below (S := fun k => k = r) HBA.out).trans HC9.out fun _ _ h => h
    (repeat' (first | with_reducible exact HCW | with_reducible apply Chg.drew | with_reducible refine Chg.alloc ?_ _ | with_reducible refine Chg.setCell ?_ (fun h => ?_) _))
    all_goals (dsimp only at h; omega)
  | ok xq =>
    obtain ⟨x, qe⟩ := xq
    obtain ⟨c4, rfl, hrd, hr4, hce⟩ := hres
    have HRI : Hid (RdIt (fun k => w.heap.size + 2 ≤ k) w4 x c4) := hrd.imp fun k _ h => by have h1 := HC3.out.size; have h2 := HZ.out; omega
    have HR4 := Lib.hid hr4
    have HCE4 : Hid (w4.cell? ⟨r, 0, none⟩ = w.cell? ⟨r, 0, none⟩) := hce.trans HCE.out
    have HR : Hid (R = .ok (x, qe)) := HR1.out
    obtain ⟨ki, ni, ab, nb, cb, text, ak, nk, ck, rfl⟩ := hrd.shape
    clear hrd hr4 hce
    obtain ⟨⟨⟨h0, h1, h2, h3, h4⟩, ⟨f0, f1, f2, f3, f4⟩, ⟨k0, k1, k2⟩, ⟨l0, l1, l2⟩⟩, -⟩ := HX.out.chg HC4.out (by have := HLT.out; omega) (by have := HLT.out; omega)
    (repeat (first | go_values | go_skip | go_guarded | go_step | go_upon | (go_simp; go_at_K)))
    refine bodyPost_ret (v := .tuple #[.agg #[.int .i64 ki, .int .u64 (ni : Nat), .slice ab nb cb, .string text, .slice ak nk ck], fltV 0 0]) (by simp [results, Try.results31, go_sem, *]) rfl ?_
    rw [HR.out]
    refine read_fin (W := w4) (HX.out.chg HC4.out (by have := HLT.out; omega) (by have := HLT.out; omega)) ?_ HR4.out ((Chg.of_below (S := fun k => k = r) HBA.out).trans HC4.out fun _ _ h => h) ?_ rfl rfl HLT.out HCE4.out
    case refine_1 => exact HRI.out
    (repeat' (first | with_reducible exact Chg.refl _ _ | with_reducible apply Chg.drew | with_reducible refine Chg.alloc ?_ _ | with_reducible refine Chg.setCell ?_ (fun h => ?_) _))
    all_goals (dsimp only; omega)

set_option maxRecDepth 100000 in
set_option maxHeartbeats 8000000 in
theorem read_C5 (d : Nat) (hd : d ≤ 1000) (hK : KidsSaid28 d) (bs : List UInt8) (hl9 : bs.length ≤ 1000000) (r p : Nat) (w : World) (h : Rdr w r bs p) (hlt : r < w.heap.size) (hlen : ¬ bs.length ≤ p) (m low : Nat) (hm : m = bAt bs p / 32) (hlw : low = bAt bs p % 32) (h27 : ¬ 27 < low) (hsh : ¬ bs.length < p + 1 + sizeL low) (hmv : m = 5) (h24 : 24 ≤ low) (hnd0 : needN (numL bs p low) = wideB low) :
    Calls Try.prog 31 #[.pointer (some ⟨r, 0, none⟩), .int .i64 ((d + 1 : Nat) : Int)] w (ReadO w r bs (readQ bs (d + 1) p)) := by
  obtain ⟨wa, hwa⟩ : ∃ W, W = (w.alloc (.cells #[.int .i64 0, .int .u64 0, .slice none 0 0, .string ⟨#[]⟩, .slice none 0 0] 26)).alloc (.cells #[.int .i64 0, .int .i64 0, .slice none 0 0] 35) := ⟨_, rfl⟩
  have hba : Below w.heap.size w wa := by
    rw [hwa]
    exact ((Below.refl _ _).alloc (Nat.le_refl _) _).alloc (by simp) _
  have hbx : RBz wa w.heap.size (w.heap.size + 1) := by rw [hwa]; exact RBz.new _ _ _
  have hz : wa.heap.size = w.heap.size + 2 := by rw [hwa]; simp
  have hpb := h.le
  have HX := Lib.hid hbx
  have HZ := Lib.hid hz
  have HRD := Lib.hid (h.keep hba)
  have HAT := Lib.hid (rat_calls r p bs wa (h.keep hba))
  have CW := Lib.hid (fun e W => wrong28 e p W)
  have HBA := Lib.hid hba
  have HLT := Lib.hid hlt
  obtain ⟨R, hR⟩ : ∃ R, R = readQ bs (d + 1) p := ⟨_, rfl⟩
  rw [← hR]
  rw [readQ] at hR
  have CK := Lib.hid (fun q k nn n e W hr hlt hk hnn hn he => hK bs hl9 r q k nn n e W hr hlt hk hnn hn he)
  obtain ⟨D, hD⟩ : ∃ D, D = d + 1 := ⟨_, rfl⟩
  rw [← hD] at CK ⊢
  have g0 : ((D : Int) == 0) = false := by simp; omega
  have g0n : ¬ (D : Int) = 0 := by omega
  clear h hba hbx hlt hz hD hK
  rw [if_neg hlen] at hR
  have CB := Lib.hid (rbyte_yes r p bs wa HRD.out (by omega))
  have hc9 := bAt_lt bs p
  obtain ⟨c, hc⟩ : ∃ c, c = bAt bs p := ⟨_, rfl⟩
  rw [← hc] at CB hR hc9
  have wq : (c : Int).tdiv 32 = (m : Int) := by rw [Int.tdiv_eq_ediv_of_nonneg (by omega)]; omega
  have wr : (c : Int).tmod 32 = (low : Int) := by rw [Int.tmod_eq_emod_of_nonneg (by omega)]; omega
  have wq2 : IntKind.i64.wrap (m : Int) = (m : Int) := IntWalk.i64_in _ (by omega)
  have wr2 : IntKind.i64.wrap (low : Int) = (low : Int) := IntWalk.i64_in _ (by omega)
  have hm7 : m ≤ 7 := by omega
  rw [← hc] at hm hlw
  rw [← hm, ← hlw] at hR
  have hpl : p + 1 ≤ bs.length := by omega
  clear hc hm hlw hc9 hlen
  rw [if_neg h27] at hR
  have g1 : decide ((27 : Int) < (low : Int)) = false := by simp; omega
  have g1n : decide (27 < low) = false := by simp; omega
  rw [if_neg hsh] at hR
  have CN := Lib.hid (fun W (hr : Rdr W r bs (p + 1)) => num28_ok r p bs low (by omega) W hr (by omega))
  have hn9 := numL_lt bs p low (by omega) (by omega)
  obtain ⟨n, hn⟩ : ∃ n, n = numL bs p low := ⟨_, rfl⟩
  obtain ⟨q, hq⟩ : ∃ q, q = p + 1 + sizeL low := ⟨_, rfl⟩
  rw [← hn, ← hq] at CN hR
  rw [← hn] at hnd0
  rw [← hn] at hn9
  rw [← hq] at hsh
  clear hn hq
  have HRR := Lib.hid hR
  clear hR
  subst hmv
  have HNM := Lib.hid (fun W k (hk : 0 ≤ k ∧ k ≤ 100) => num_it W (fun k => w.heap.size + 2 ≤ k) k hk n hn9 ⟨#[]⟩ (by decide))
  have q1 : decide ((24 : Int) ≤ (low : Int)) = true := by simp; omega
  have q1n : decide (24 ≤ low) = true := by simp; omega
  have CND := Lib.hid (fun W => need_calls n W)
  obtain ⟨sh, hsh2⟩ : ∃ k, k = low - 24 := ⟨_, rfl⟩
  obtain ⟨Wd, hWd⟩ : ∃ k, k = wideB low := ⟨_, rfl⟩
  have ws : IntKind.i64.wrap ((low : Int) - 24) = (sh : Int) := (IntWalk.i64_in _ (by omega)).trans (by omega)
  have hpw : (2 : Int) ^ sh = (Wd : Int) := by
    rw [hWd, hsh2]
    have : low = 24 ∨ low = 25 ∨ low = 26 ∨ low = 27 := by omega
    rcases this with rfl | rfl | rfl | rfl <;> rfl
  have hW8 : Wd ≤ 8 := by rw [hWd]; exact (wideB_le _).2
  have wW : IntKind.i64.wrap (Wd : Int) = (Wd : Int) := IntWalk.i64_in _ (by omega)
  have ws1 : IntKind.i64.wrap (1 * 2 ^ sh) = (Wd : Int) := by rw [Int.one_mul, hpw]; exact wW
  have ws2 : IntKind.i64.wrap (2 ^ sh) = (Wd : Int) := by rw [hpw]; exact wW
  have ws4 : wrap64 (2 ^ min sh 64) = (Wd : Int) := by
    rw [show min sh 64 = sh from by omega, hpw]
    unfold wrap64; omega
  have ws0 : (0 : Int) ≤ (sh : Int) := by omega
  have ws3 : decide ((sh : Int) < 0) = false := by simp
  have HWd := Lib.hid hWd
  clear hsh2 hWd
  have hnd : needN n = Wd := hnd0.trans HWd.out.symm
  have HG : ¬ (24 ≤ low ∧ needN n ≠ wideB low) := fun h => h.2 hnd0
  rw [hnd] at CND
  clear h24 hnd hnd0
  obtain ⟨R1, hR1⟩ : ∃ R1, R1 = withKids 6 0 (kidsW (readQ bs d) (n * 2) q) := ⟨_, rfl⟩
  have HR1 : Hid (R = R1) := by show _ = _; rw [hR1]; rw [HRR.out]; unfold behQ; rw [if_neg (by omega), if_neg HG, if_neg (by omega), if_neg (by omega), if_neg (by omega), if_neg (by omega), if_pos rfl]
  have C1 : Hid (∀ W, Rdr W r bs q → r < W.heap.size → Calls Try.prog 50 #[.pointer (some ⟨r, 0, none⟩), .agg #[.int .i64 6, .int .u64 0, .slice none 0 0, .string ⟨#[]⟩, .slice none 0 0], .int .u64 (n : Nat), .int .i64 2, .int .i64 (D : Nat)] W (ReadO W r bs R1)) := fun W hr hlt => by have := CK.out q 6 0 n 2 W hr hlt (by omega) (by decide) hn9 (.inr rfl); rw [hR1]; exact this
  clear HRR CK HG hR1 HNM
  go_enter Try.func31, Try.ntmps31
  go_upto_region 1 with fail
  rw [← hwa]
  clear hwa
  go_wp2_with fail
  refine HAT.out.mono ?_
  rintro e w1 ⟨rfl, rfl⟩
  clear HAT
  go_wp2_with fail
  refine CB.out.mono ?_
  rintro e w2 ⟨rfl, hr2, hc2⟩
  have HR2 := Lib.hid hr2
  have HCa := Lib.hid hc2
  clear hr2 hc2 CB
  go_wp2_with fail
  refine (CN.out _ HR2.out).mono ?_
  rintro e w3 ⟨rfl, hr3, hc3⟩
  have HR3 := Lib.hid hr3
  have HC3 : Hid (Chg (fun k => k = r) wa w3) := HCa.out.2.1.trans hc3.2.1 fun _ _ h => h
  have HCE : Hid (w3.cell? ⟨r, 0, none⟩ = w.cell? ⟨r, 0, none⟩) := hc3.2.2.trans (HCa.out.2.2.trans (cell_eq_below HBA.out HLT.out))
  clear hr3 hc3 CN
  go_wp2_with fail
  go_quiet ((go_at_call 48; refine Calls.quiet_of_same ((CND.out _).mono fun e w' h => ⟨h.1, h.2.symm⟩)))
  have HR3 := Lib.hid (HR3.out.keep (below_drewN w3 nq w3.heap.size))
  have HC3 : Hid (Chg (fun k => k = r) wa (w3.drewN nq)) := HC3.out.trans (Chg.of_below (S := fun k => k = r) (below_drewN w3 nq w3.heap.size)) fun _ _ h => h
  have HCE : Hid ((w3.drewN nq).cell? ⟨r, 0, none⟩ = w.cell? ⟨r, 0, none⟩) := (cell_eq_below (below_drewN w3 nq w3.heap.size) (Nat.lt_of_lt_of_le HLT.out (Nat.le_trans HBA.out.size (by have := HC3.out.size; exact this)))).trans HCE.out
  go_wp2_with fail
  refine (C1.out _ HR3.out (HR3.out.lt)).mono ?_
  rintro e w4 ⟨hc4, hres⟩
  have HC4 : Hid (Chg (fun k => k = r) wa w4) := HC3.out.trans hc4 fun _ _ h => h
  clear hc4
  cases R1 with
  | error ea =>
    obtain ⟨x, a⟩ := ea
    subst hres
    have HR : Hid (R = .error (x, a)) := HR1.out
    obtain ⟨w9, hw9⟩ : ∃ W : World, W = w4 := ⟨_, rfl⟩
    subst hw9
    have HC9 := HC4
    obtain ⟨⟨⟨h0, h1, h2, h3, h4⟩, ⟨f0, f1, f2, f3, f4⟩, ⟨k0, k1, k2⟩, ⟨l0, l1, l2⟩⟩, -⟩ := HX.out.chg HC9.out (by have := HLT.out; omega) (by have := HLT.out; omega)
    (repeat (first | go_values | go_skip | go_guarded | go_step | go_upon | (go_simp; go_at_K)))
    refine bodyPost_ret (v := .tuple #[zIt, fltV x a]) (by simp [results, Try.results31, go_sem, *]) rfl ?_
    rw [HR.out]
    refine read_err ?_
    have HL9 := HLT.out
    have HCW : Chg (fun k => k = r) w w9 := (Chg.of_below (S := fun k => k = r) HBA.out).trans HC9.out fun _ _ h => h
    (repeat' (first | with_reducible exact HCW | with_reducible apply Chg.drew | with_reducible refine Chg.alloc ?_ _ | with_reducible refine Chg.setCell ?_ (fun h => ?_) _))
    all_goals (dsimp only at h; omega)
  | ok xq =>
    obtain ⟨x, qe⟩ := xq
    obtain ⟨c4, rfl, hrd, hr4, hce⟩ := hres
    have HRI : Hid (RdIt (fun k => w.heap.size + 2 ≤ k) w4 x c4) := hrd.imp fun k _ h => by have h1 := HC3.out.size; have h2 := HZ.out; omega
    have HR4 := Lib.hid hr4
    have HCE4 : Hid (w4.cell? ⟨r, 0, none⟩ = w.cell? ⟨r, 0, none⟩) := hce.trans HCE.out
    have HR : Hid (R = .ok (x, qe)) := HR1.out
    obtain ⟨ki, ni, ab, nb, cb, text, ak, nk, ck, rfl⟩ := hrd.shape
    clear hrd hr4 hce
    obtain ⟨⟨⟨h0, h1, h2, h3, h4⟩, ⟨f0, f1, f2, f3, f4⟩, ⟨k0, k1, k2⟩, ⟨l0, l1, l2⟩⟩, -⟩ := HX.out.chg HC4.out (by have := HLT.out; omega) (by have := HLT.out; omega)
    (repeat (first | go_values | go_skip | go_guarded | go_step | go_upon | (go_simp; go_at_K)))
    refine bodyPost_ret (v := .tuple #[.agg #[.int .i64 ki, .int .u64 (ni : Nat), .slice ab nb cb, .string text, .slice ak nk ck], fltV 0 0]) (by simp [results, Try.results31, go_sem, *]) rfl ?_
    rw [HR.out]
    refine read_fin (W := w4) (HX.out.chg HC4.out (by have := HLT.out; omega) (by have := HLT.out; omega)) ?_ HR4.out ((Chg.of_below (S := fun k => k = r) HBA.out).trans HC4.out fun _ _ h => h) ?_ rfl rfl HLT.out HCE4.out
    case refine_1 => exact HRI.out
    (repeat' (first | with_reducible exact Chg.refl _ _ | with_reducible apply Chg.drew | with_reducible refine Chg.alloc ?_ _ | with_reducible refine Chg.setCell ?_ (fun h => ?_) _))
    all_goals (dsimp only; omega)

set_option maxRecDepth 100000 in
set_option maxHeartbeats 8000000 in
theorem read_C6 (d : Nat) (hd : d ≤ 1000) (hK : KidsSaid28 d) (bs : List UInt8) (hl9 : bs.length ≤ 1000000) (r p : Nat) (w : World) (h : Rdr w r bs p) (hlt : r < w.heap.size) (hlen : ¬ bs.length ≤ p) (m low : Nat) (hm : m = bAt bs p / 32) (hlw : low = bAt bs p % 32) (h27 : ¬ 27 < low) (hsh : ¬ bs.length < p + 1 + sizeL low) (hmv : m = 6) (h24 : 24 ≤ low) (hnd0 : needN (numL bs p low) = wideB low) :
    Calls Try.prog 31 #[.pointer (some ⟨r, 0, none⟩), .int .i64 ((d + 1 : Nat) : Int)] w (ReadO w r bs (readQ bs (d + 1) p)) := by
  obtain ⟨wa, hwa⟩ : ∃ W, W = (w.alloc (.cells #[.int .i64 0, .int .u64 0, .slice none 0 0, .string ⟨#[]⟩, .slice none 0 0] 26)).alloc (.cells #[.int .i64 0, .int .i64 0, .slice none 0 0] 35) := ⟨_, rfl⟩
  have hba : Below w.heap.size w wa := by
    rw [hwa]
    exact ((Below.refl _ _).alloc (Nat.le_refl _) _).alloc (by simp) _
  have hbx : RBz wa w.heap.size (w.heap.size + 1) := by rw [hwa]; exact RBz.new _ _ _
  have hz : wa.heap.size = w.heap.size + 2 := by rw [hwa]; simp
  have hpb := h.le
  have HX := Lib.hid hbx
  have HZ := Lib.hid hz
  have HRD := Lib.hid (h.keep hba)
  have HAT := Lib.hid (rat_calls r p bs wa (h.keep hba))
  have CW := Lib.hid (fun e W => wrong28 e p W)
  have HBA := Lib.hid hba
  have HLT := Lib.hid hlt
  obtain ⟨R, hR⟩ : ∃ R, R = readQ bs (d + 1) p := ⟨_, rfl⟩
  rw [← hR]
  rw [readQ] at hR
  have CK := Lib.hid (fun q k nn n e W hr hlt hk hnn hn he => hK bs hl9 r q k nn n e W hr hlt hk hnn hn he)
  obtain ⟨D, hD⟩ : ∃ D, D = d + 1 := ⟨_, rfl⟩
  rw [← hD] at CK ⊢
  have g0 : ((D : Int) == 0) = false := by simp; omega
  have g0n : ¬ (D : Int) = 0 := by omega
  clear h hba hbx hlt hz hD hK
  rw [if_neg hlen] at hR
  have CB := Lib.hid (rbyte_yes r p bs wa HRD.out (by omega))
  have hc9 := bAt_lt bs p
  obtain ⟨c, hc⟩ : ∃ c, c = bAt bs p := ⟨_, rfl⟩
  rw [← hc] at CB hR hc9
  have wq : (c : Int).tdiv 32 = (m : Int) := by rw [Int.tdiv_eq_ediv_of_nonneg (by omega)]; omega
  have wr : (c : Int).tmod 32 = (low : Int) := by rw [Int.tmod_eq_emod_of_nonneg (by omega)]; omega
  have wq2 : IntKind.i64.wrap (m : Int) = (m : Int) := IntWalk.i64_in _ (by omega)
  have wr2 : IntKind.i64.wrap (low : Int) = (low : Int) := IntWalk.i64_in _ (by omega)
  have hm7 : m ≤ 7 := by omega
  rw [← hc] at hm hlw
  rw [← hm, ← hlw] at hR
  have hpl : p + 1 ≤ bs.length := by omega
  clear hc hm hlw hc9 hlen
  rw [if_neg h27] at hR
  have g1 : decide ((27 : Int) < (low : Int)) = false := by simp; omega
  have g1n : decide (27 < low) = false := by simp; omega
  rw [if_neg hsh] at hR
  have CN := Lib.hid (fun W (hr : Rdr W r bs (p + 1)) => num28_ok r p bs low (by omega) W hr (by omega))
  have hn9 := numL_lt bs p low (by omega) (by omega)
  obtain ⟨n, hn⟩ : ∃ n, n = numL bs p low := ⟨_, rfl⟩
  obtain ⟨q, hq⟩ : ∃ q, q = p + 1 + sizeL low := ⟨_, rfl⟩
  rw [← hn, ← hq] at CN hR
  rw [← hn] at hnd0
  rw [← hn] at hn9
  rw [← hq] at hsh
  clear hn hq
  have HRR := Lib.hid hR
  clear hR
  subst hmv
  have HNM := Lib.hid (fun W k (hk : 0 ≤ k ∧ k ≤ 100) => num_it W (fun k => w.heap.size + 2 ≤ k) k hk n hn9 ⟨#[]⟩ (by decide))
  have q1 : decide ((24 : Int) ≤ (low : Int)) = true := by simp; omega
  have q1n : decide (24 ≤ low) = true := by simp; omega
  have CND := Lib.hid (fun W => need_calls n W)
  obtain ⟨sh, hsh2⟩ : ∃ k, k = low - 24 := ⟨_, rfl⟩
  obtain ⟨Wd, hWd⟩ : ∃ k, k = wideB low := ⟨_, rfl⟩
  have ws : IntKind.i64.wrap ((low : Int) - 24) = (sh : Int) := (IntWalk.i64_in _ (by omega)).trans (by omega)
  have hpw : (2 : Int) ^ sh = (Wd : Int) := by
    rw [hWd, hsh2]
    have : low = 24 ∨ low = 25 ∨ low = 26 ∨ low = 27 := by omega
    rcases this with rfl | rfl | rfl | rfl <;> rfl
  have hW8 : Wd ≤ 8 := by rw [hWd]; exact (wideB_le _).2
  have wW : IntKind.i64.wrap (Wd : Int) = (Wd : Int) := IntWalk.i64_in _ (by omega)
  have ws1 : IntKind.i64.wrap (1 * 2 ^ sh) = (Wd : Int) := by rw [Int.one_mul, hpw]; exact wW
  have ws2 : IntKind.i64.wrap (2 ^ sh) = (Wd : Int) := by rw [hpw]; exact wW
  have ws4 : wrap64 (2 ^ min sh 64) = (Wd : Int) := by
    rw [show min sh 64 = sh from by omega, hpw]
    unfold wrap64; omega
  have ws0 : (0 : Int) ≤ (sh : Int) := by omega
  have ws3 : decide ((sh : Int) < 0) = false := by simp
  have HWd := Lib.hid hWd
  clear hsh2 hWd
  have hnd : needN n = Wd := hnd0.trans HWd.out.symm
  have HG : ¬ (24 ≤ low ∧ needN n ≠ wideB low) := fun h => h.2 hnd0
  rw [hnd] at CND
  clear h24 hnd hnd0
  obtain ⟨R1, hR1⟩ : ∃ R1, R1 = withKids 7 n (kidsW (readQ bs d) 1 q) := ⟨_, rfl⟩
  have HR1 : Hid (R = R1) := by show _ = _; rw [hR1]; rw [HRR.out]; unfold behQ; rw [if_neg (by omega), if_neg HG, if_neg (by omega), if_neg (by omega), if_neg (by omega), if_neg (by omega), if_neg (by omega)]
  have C1 : Hid (∀ W, Rdr W r bs q → r < W.heap.size → Calls Try.prog 50 #[.pointer (some ⟨r, 0, none⟩), .agg #[.int .i64 7, .int .u64 (n : Nat), .slice none 0 0, .string ⟨#[]⟩, .slice none 0 0], .int .u64 1, .int .i64 1, .int .i64 (D : Nat)] W (ReadO W r bs R1)) := fun W hr hlt => by have := CK.out q 7 n 1 1 W hr hlt (by omega) hn9 (by decide) (.inl rfl); rw [hR1]; rw [Nat.mul_one] at this; exact this
  clear HRR CK HG hR1 HNM
  go_enter Try.func31, Try.ntmps31
  go_upto_region 1 with fail
  rw [← hwa]
  clear hwa
  go_wp2_with fail
  refine HAT.out.mono ?_
  rintro e w1 ⟨rfl, rfl⟩
  clear HAT
  go_wp2_with fail
  refine CB.out.mono ?_
  rintro e w2 ⟨rfl, hr2, hc2⟩
  have HR2 := Lib.hid hr2
  have HCa := Lib.hid hc2
  clear hr2 hc2 CB
  go_wp2_with fail
  refine (CN.out _ HR2.out).mono ?_
  rintro e w3 ⟨rfl, hr3, hc3⟩
  have HR3 := Lib.hid hr3
  have HC3 : Hid (Chg (fun k => k = r) wa w3) := HCa.out.2.1.trans hc3.2.1 fun _ _ h => h
  have HCE : Hid (w3.cell? ⟨r, 0, none⟩ = w.cell? ⟨r, 0, none⟩) := hc3.2.2.trans (HCa.out.2.2.trans (cell_eq_below HBA.out HLT.out))
  clear hr3 hc3 CN
  go_wp2_with fail
  go_quiet ((go_at_call 48; refine Calls.quiet_of_same ((CND.out _).mono fun e w' h => ⟨h.1, h.2.symm⟩)))
  have HR3 := Lib.hid (HR3.out.keep (below_drewN w3 nq w3.heap.size))
  have HC3 : Hid (Chg (fun k => k = r) wa (w3.drewN nq)) := HC3.out.trans (Chg.of_below (S := fun k => k = r) (below_drewN w3 nq w3.heap.size)) fun _ _ h => h
  have HCE : Hid ((w3.drewN nq).cell? ⟨r, 0, none⟩ = w.cell? ⟨r, 0, none⟩) := (cell_eq_below (below_drewN w3 nq w3.heap.size) (Nat.lt_of_lt_of_le HLT.out (Nat.le_trans HBA.out.size (by have := HC3.out.size; exact this)))).trans HCE.out
  go_wp2_with fail
  refine (C1.out _ HR3.out (HR3.out.lt)).mono ?_
  rintro e w4 ⟨hc4, hres⟩
  have HC4 : Hid (Chg (fun k => k = r) wa w4) := HC3.out.trans hc4 fun _ _ h => h
  clear hc4
  cases R1 with
  | error ea =>
    obtain ⟨x, a⟩ := ea
    subst hres
    have HR : Hid (R = .error (x, a)) := HR1.out
    obtain ⟨w9, hw9⟩ : ∃ W : World, W = w4 := ⟨_, rfl⟩
    subst hw9
    have HC9 := HC4
    obtain ⟨⟨⟨h0, h1, h2, h3, h4⟩, ⟨f0, f1, f2, f3, f4⟩, ⟨k0, k1, k2⟩, ⟨l0, l1, l2⟩⟩, -⟩ := HX.out.chg HC9.out (by have := HLT.out; omega) (by have := HLT.out; omega)
    (repeat (first | go_values | go_skip | go_guarded | go_step | go_upon | (go_simp; go_at_K)))
    refine bodyPost_ret (v := .tuple #[zIt, fltV x a]) (by simp [results, Try.results31, go_sem, *]) rfl ?_
    rw [HR.out]
    refine read_err ?_
    have HL9 := HLT.out
    have HCW : Chg (fun k => k = r) w w9 := (Chg.of_below (S := fun k => k = r) HBA.out).trans HC9.out fun _ _ h => h
    (repeat' (first | with_reducible exact HCW | with_reducible apply Chg.drew | with_reducible refine Chg.alloc ?_ _ | with_reducible refine Chg.setCell ?_ (fun h => ?_) _))
    all_goals (dsimp only at h; omega)
  | ok xq =>
    obtain ⟨x, qe⟩ := xq
    obtain ⟨c4, rfl, hrd, hr4, hce⟩ := hres
    have HRI : Hid (RdIt (fun k => w.heap.size + 2 ≤ k) w4 x c4) := hrd.imp fun k _ h => by have h1 := HC3.out.size; have h2 := HZ.out; omega
    have HR4 := Lib.hid hr4
    have HCE4 : Hid (w4.cell? ⟨r, 0, none⟩ = w.cell? ⟨r, 0, none⟩) := hce.trans HCE.out
    have HR : Hid (R = .ok (x, qe)) := HR1.out
    obtain ⟨ki, ni, ab, nb, cb, text, ak, nk, ck, rfl⟩ := hrd.shape
    clear hrd hr4 hce
    obtain ⟨⟨⟨h0, h1, h2, h3, h4⟩, ⟨f0, f1, f2, f3, f4⟩, ⟨k0, k1, k2⟩, ⟨l0, l1, l2⟩⟩, -⟩ := HX.out.chg HC4.out (by have := HLT.out; omega) (by have := HLT.out; omega)
    (repeat (first | go_values | go_skip | go_guarded | go_step | go_upon | (go_simp; go_at_K)))
    refine bodyPost_ret (v := .tuple #[.agg #[.int .i64 ki, .int .u64 (ni : Nat), .slice ab nb cb, .string text, .slice ak nk ck], fltV 0 0]) (by simp [results, Try.results31, go_sem, *]) rfl ?_
    rw [HR.out]
    refine read_fin (W := w4) (HX.out.chg HC4.out (by have := HLT.out; omega) (by have := HLT.out; omega)) ?_ HR4.out ((Chg.of_below (S := fun k => k = r) HBA.out).trans HC4.out fun _ _ h => h) ?_ rfl rfl HLT.out HCE4.out
    case refine_1 => exact HRI.out
    (repeat' (first | with_reducible exact Chg.refl _ _ | with_reducible apply Chg.drew | with_reducible refine Chg.alloc ?_ _ | with_reducible refine Chg.setCell ?_ (fun h => ?_) _))
    all_goals (dsimp only; omega)


end Go.Proofs.Ytambhapgjonmmaa
