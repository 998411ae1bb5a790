/- The reference's read of CBOR: errors and numbers. -/
import Derived.Test.YtambhapgjonmmaaRc0
import Derived.BigQuiet
namespace Go.Proofs.Ytambhapgjonmmaa
open Go.RowKit
set_option linter.unusedVariables false
set_option linter.unusedSimpArgs false

set_option maxRecDepth 100000 in
set_option maxHeartbeats 4000000 in
theorem rread_zero : RReadSaid 0 := by
  intro a n cp bs p wi dp w h hn9 hcp hpn hd hd9
  have HR : Hid (readQ bs 0 p = .error (8, p)) := by show _ = _; rw [readQ]
  generalize readQ bs 0 p = R at HR
  obtain ⟨wa, hwa⟩ : ∃ W, W = ((w.alloc (.cells #[.int .i64 0, .int .u64 0, .slice none 0 0, .string ⟨#[]⟩, .slice none 0 0] 26)).alloc (.cells #[.int .i64 0, .int .i64 0, .slice none 0 0] 35)).alloc (.cells #[.int .i64 0, .int .u64 0, .slice none 0 0, .string ⟨#[]⟩, .slice none 0 0] 26) := ⟨_, rfl⟩
  have hba : Below w.heap.size w wa := by
    rw [hwa]
    exact (((Below.refl _ _).alloc (Nat.le_refl _) _).alloc (by simp) _).alloc (by simp; omega) _
  have hbx : RBx wa w.heap.size (w.heap.size + 1) ∧ IBx wa (w.heap.size + 2) 0 0 (.slice none 0 0) ⟨#[]⟩ (.slice none 0 0) := by rw [hwa]; exact three _ _ _
  have hz : wa.heap.size = w.heap.size + 3 := by rw [hwa]; simp
  have HX := Lib.hid hbx.1
  have HI := Lib.hid hbx.2
  have HZ := Lib.hid hz
  have HRD := Lib.hid (h.keep hba)
  have HBA := Lib.hid hba
  have HBW := Lib.hid hba
  have hbl : bs.length = n := h.1
  have hzr : 0 < wa.heap.size := by omega
  obtain ⟨⟨h0, h1, h2, h3, h4⟩, ⟨f0, f1, f2, f3, f4⟩, ⟨k0, k1, k2⟩, ⟨l0, l1, l2⟩⟩ := HX.out
  obtain ⟨⟨i0, i1, i2, i3, i4⟩, ⟨j0, j1, j2, j3, j4⟩⟩ := HI.out
  have d1 : decide ((dp : Int) ≤ (wi : Int)) = true := by simp; omega
  have d2 : decide (dp ≤ wi) = true := by simp; omega
  clear h hba hbx hz hd hpn hcp
  go_enter Try.func34, Try.ntmps34
  go_upto_region 2 with fail
  rw [← hwa]
  clear hwa
  (repeat (first | go_values | go_skip | go_guarded | go_step | go_upon | (go_simp; go_at_K)))
  refine bodyPost_ret (v := .tuple #[zIt, .int .i64 0, fltV 8 p]) (by simp [results, Try.results34, go_sem, *]) rfl ?_
  rw [HR.out]
  refine rread_err ?_
  (repeat' (first | with_reducible exact HBW.out | with_reducible apply Below.drew | with_reducible refine Below.alloc ?_ (by first | omega | (simp; done) | (simp; omega)) _ | with_reducible refine Below.setCell ?_ (by first | (simp; done) | (simp only []; omega)) _))

set_option maxRecDepth 100000 in
set_option maxHeartbeats 8000000 in
theorem rread_short (d : Nat) (hof : RReadSaid d) (a : Option Addr) (n cp : Nat) (bs : List UInt8) (p wi dp : Nat) (w : World) (h : RdB w a n bs) (hn9 : n ≤ 1000000) (hcp : n ≤ cp) (hpn : p ≤ n) (hd : dp = wi + (d + 1)) (hd9 : dp ≤ 1000) (hlen : n ≤ p) :
    Calls Try.prog 34 #[.slice a n cp, .int .i64 (p : Nat), .int .i64 (wi : Nat), .int .i64 (dp : Nat)] w (RReadO w (readQ bs (d + 1) p)) := by
  obtain ⟨wa, hwa⟩ : ∃ W, W = ((w.alloc (.cells #[.int .i64 0, .int .u64 0, .slice none 0 0, .string ⟨#[]⟩, .slice none 0 0] 26)).alloc (.cells #[.int .i64 0, .int .i64 0, .slice none 0 0] 35)).alloc (.cells #[.int .i64 0, .int .u64 0, .slice none 0 0, .string ⟨#[]⟩, .slice none 0 0] 26) := ⟨_, rfl⟩
  have hba : Below w.heap.size w wa := by
    rw [hwa]
    exact (((Below.refl _ _).alloc (Nat.le_refl _) _).alloc (by simp) _).alloc (by simp; omega) _
  have hbx : RBx wa w.heap.size (w.heap.size + 1) ∧ IBx wa (w.heap.size + 2) 0 0 (.slice none 0 0) ⟨#[]⟩ (.slice none 0 0) := by rw [hwa]; exact three _ _ _
  have hz : wa.heap.size = w.heap.size + 3 := by rw [hwa]; simp
  have HX := Lib.hid hbx.1
  have HI := Lib.hid hbx.2
  have HZ := Lib.hid hz
  have HRD := Lib.hid (h.keep hba)
  have HBA := Lib.hid hba
  have HBW := Lib.hid hba
  have hbl : bs.length = n := h.1
  have hzr : 0 < wa.heap.size := by omega
  obtain ⟨R, hR⟩ : ∃ R, R = readQ bs (d + 1) p := ⟨_, rfl⟩
  rw [← hR]
  rw [readQ, hbl] at hR
  have d1 : decide ((dp : Int) ≤ (wi : Int)) = false := by simp; omega
  have d2 : decide (dp ≤ wi) = false := by simp; omega
  have wwi : IntKind.i64.wrap ((wi : Int) + 1) = ((wi + 1 : Nat) : Int) := (IntWalk.i64_in _ (by omega)).trans (by omega)
  have CRD : Hid (∀ W q, RdB W a n bs → q ≤ n → Calls Try.prog 34 #[.slice a n cp, .int .i64 (q : Nat), .int .i64 ((wi + 1 : Nat) : Int), .int .i64 (dp : Nat)] W (RReadO W (readQ bs d q))) := Lib.hid (fun W q hW hq => hof a n cp bs q (wi + 1) dp W hW hn9 hcp hq (by omega) hd9)
  obtain ⟨wj, hwj⟩ : ∃ x, x = wi + 1 := ⟨_, rfl⟩
  rw [← hwj] at wwi CRD
  clear hwj hof
  have HR : Hid (R = .error (2, p)) := by show _ = _; rw [hR, if_pos hlen]
  have dl : decide ((n : Int) ≤ (p : Int)) = true := by simp; omega
  have dl2 : decide (n ≤ p) = true := by simp; omega
  clear hR CRD
  obtain ⟨⟨h0, h1, h2, h3, h4⟩, ⟨f0, f1, f2, f3, f4⟩, ⟨k0, k1, k2⟩, ⟨l0, l1, l2⟩⟩ := HX.out
  obtain ⟨⟨i0, i1, i2, i3, i4⟩, ⟨j0, j1, j2, j3, j4⟩⟩ := HI.out
  clear h hba hbx hz hd hd9 hcp
  go_enter Try.func34, Try.ntmps34
  go_upto_region 2 with fail
  rw [← hwa]
  clear hwa
  (repeat (first | go_values | go_skip | go_guarded | go_step | go_upon | (go_simp; go_at_K)))
  refine bodyPost_ret (v := .tuple #[zIt, .int .i64 0, fltV 2 p]) (by simp [results, Try.results34, go_sem, *]) rfl ?_
  rw [HR.out]
  refine rread_err ?_
  (repeat' (first | with_reducible exact HBW.out | with_reducible apply Below.drew | with_reducible refine Below.alloc ?_ (by first | omega | (simp; done) | (simp; omega)) _ | with_reducible refine Below.setCell ?_ (by first | (simp; done) | (simp only []; omega)) _))

set_option maxRecDepth 100000 in
set_option maxHeartbeats 8000000 in
theorem rread_form (d : Nat) (hof : RReadSaid d) (a : Option Addr) (n cp : Nat) (bs : List UInt8) (p wi dp : Nat) (w : World) (h : RdB w a n bs) (hn9 : n ≤ 1000000) (hcp : n ≤ cp) (hpn : p ≤ n) (hd : dp = wi + (d + 1)) (hd9 : dp ≤ 1000) (hlen : ¬ n ≤ p) (m low : Nat) (hm : m = bAt bs p / 32) (hlw : low = bAt bs p % 32) (h27 : 27 < low) :
    Calls Try.prog 34 #[.slice a n cp, .int .i64 (p : Nat), .int .i64 (wi : Nat), .int .i64 (dp : Nat)] w (RReadO w (readQ bs (d + 1) p)) := by
  obtain ⟨wa, hwa⟩ : ∃ W, W = ((w.alloc (.cells #[.int .i64 0, .int .u64 0, .slice none 0 0, .string ⟨#[]⟩, .slice none 0 0] 26)).alloc (.cells #[.int .i64 0, .int .i64 0, .slice none 0 0] 35)).alloc (.cells #[.int .i64 0, .int .u64 0, .slice none 0 0, .string ⟨#[]⟩, .slice none 0 0] 26) := ⟨_, rfl⟩
  have hba : Below w.heap.size w wa := by
    rw [hwa]
    exact (((Below.refl _ _).alloc (Nat.le_refl _) _).alloc (by simp) _).alloc (by simp; omega) _
  have hbx : RBx wa w.heap.size (w.heap.size + 1) ∧ IBx wa (w.heap.size + 2) 0 0 (.slice none 0 0) ⟨#[]⟩ (.slice none 0 0) := by rw [hwa]; exact three _ _ _
  have hz : wa.heap.size = w.heap.size + 3 := by rw [hwa]; simp
  have HX := Lib.hid hbx.1
  have HI := Lib.hid hbx.2
  have HZ := Lib.hid hz
  have HRD := Lib.hid (h.keep hba)
  have HBA := Lib.hid hba
  have HBW := Lib.hid hba
  have hbl : bs.length = n := h.1
  have hzr : 0 < wa.heap.size := by omega
  obtain ⟨R, hR⟩ : ∃ R, R = readQ bs (d + 1) p := ⟨_, rfl⟩
  rw [← hR]
  rw [readQ, hbl] at hR
  have d1 : decide ((dp : Int) ≤ (wi : Int)) = false := by simp; omega
  have d2 : decide (dp ≤ wi) = false := by simp; omega
  have wwi : IntKind.i64.wrap ((wi : Int) + 1) = ((wi + 1 : Nat) : Int) := (IntWalk.i64_in _ (by omega)).trans (by omega)
  have CRD : Hid (∀ W q, RdB W a n bs → q ≤ n → Calls Try.prog 34 #[.slice a n cp, .int .i64 (q : Nat), .int .i64 ((wi + 1 : Nat) : Int), .int .i64 (dp : Nat)] W (RReadO W (readQ bs d q))) := Lib.hid (fun W q hW hq => hof a n cp bs q (wi + 1) dp W hW hn9 hcp hq (by omega) hd9)
  obtain ⟨wj, hwj⟩ : ∃ x, x = wi + 1 := ⟨_, rfl⟩
  rw [← hwj] at wwi CRD
  clear hwj hof
  rw [if_neg hlen] at hR
  have dl : decide ((n : Int) ≤ (p : Int)) = false := by simp; omega
  have dl2 : decide (n ≤ p) = false := by simp; omega
  have hpl : p < n := by omega
  obtain ⟨b, o, rfl, hat⟩ := HRD.out.at p hpl
  have hc9 := bAt_lt bs p
  obtain ⟨c, hc⟩ : ∃ c, c = bAt bs p := ⟨_, rfl⟩
  rw [← hc] at hat hc9 hR hm hlw
  have wq : (c : Int).tdiv 32 = (m : Int) := by rw [Int.tdiv_eq_ediv_of_nonneg (by omega)]; omega
  have wr : (c : Int).tmod 32 = (low : Int) := by rw [Int.tmod_eq_emod_of_nonneg (by omega)]; omega
  have wq8 : IntKind.u8.wrap (m : Int) = (m : Int) := IntWalk.u8_in _ (by omega)
  have wr8 : IntKind.u8.wrap (low : Int) = (low : Int) := IntWalk.u8_in _ (by omega)
  have wq2 : IntKind.i64.wrap (m : Int) = (m : Int) := IntWalk.i64_in _ (by omega)
  have wr2 : IntKind.i64.wrap (low : Int) = (low : Int) := IntWalk.i64_in _ (by omega)
  have hm7 : m ≤ 7 := by omega
  rw [← hm, ← hlw] at hR
  have ip0 : (0 : Int) ≤ (p : Int) := by omega
  have ip1 : (p : Int) < (n : Int) := by omega
  clear hc hm hlw hc9 hlen
  have HR : Hid (R = .error (3, p)) := by show _ = _; rw [hR, if_pos h27]
  have g1 : decide ((27 : Int) < (low : Int)) = true := by simp; omega
  have g1n : decide (27 < low) = true := by simp; omega
  clear hR CRD
  obtain ⟨⟨h0, h1, h2, h3, h4⟩, ⟨f0, f1, f2, f3, f4⟩, ⟨k0, k1, k2⟩, ⟨l0, l1, l2⟩⟩ := HX.out
  obtain ⟨⟨i0, i1, i2, i3, i4⟩, ⟨j0, j1, j2, j3, j4⟩⟩ := HI.out
  clear h hba hbx hz hd hd9 hcp
  go_enter Try.func34, Try.ntmps34
  go_upto_region 2 with fail
  rw [← hwa]
  clear hwa
  go_wp2_with fail
  go_quiet (fail)
  obtain ⟨wb, hwb⟩ : ∃ W, W = wa.drewN nq := ⟨_, rfl⟩
  have hbb : Below wa.heap.size wa wb := by rw [hwb]; exact below_drewN wa nq wa.heap.size
  rw [← hwb]
  clear hwb
  have HBB := Lib.hid hbb
  have HBW := Lib.hid (HBA.out.trans (hbb.mono HBA.out.size))
  have hzb : w.heap.size + 3 ≤ wb.heap.size := by have := hbb.size; have := HZ.out; omega
  clear hbb h0 h1 h2 h3 h4 f0 f1 f2 f3 f4 k0 k1 k2 l0 l1 l2 i0 i1 i2 i3 i4 j0 j1 j2 j3 j4 hat
  obtain ⟨⟨h0, h1, h2, h3, h4⟩, ⟨f0, f1, f2, f3, f4⟩, ⟨k0, k1, k2⟩, ⟨l0, l1, l2⟩⟩ := HX.out.keep HBB.out
  obtain ⟨⟨i0, i1, i2, i3, i4⟩, ⟨j0, j1, j2, j3, j4⟩⟩ := HI.out.keep HBB.out
  (repeat (first | go_values | go_skip | go_guarded | go_step | go_upon | (go_simp; go_at_K)))
  refine bodyPost_ret (v := .tuple #[zIt, .int .i64 0, fltV 3 p]) (by simp [results, Try.results34, go_sem, *]) rfl ?_
  rw [HR.out]
  refine rread_err ?_
  (repeat' (first | with_reducible exact HBW.out | with_reducible apply Below.drew | with_reducible refine Below.alloc ?_ (by first | omega | (simp; done) | (simp; omega)) _ | with_reducible refine Below.setCell ?_ (by first | (simp; done) | (simp only []; omega)) _))

set_option maxRecDepth 100000 in
set_option maxHeartbeats 8000000 in
theorem rread_cut (d : Nat) (hof : RReadSaid d) (a : Option Addr) (n cp : Nat) (bs : List UInt8) (p wi dp : Nat) (w : World) (h : RdB w a n bs) (hn9 : n ≤ 1000000) (hcp : n ≤ cp) (hpn : p ≤ n) (hd : dp = wi + (d + 1)) (hd9 : dp ≤ 1000) (hlen : ¬ n ≤ p) (m low : Nat) (hm : m = bAt bs p / 32) (hlw : low = bAt bs p % 32) (h27 : ¬ 27 < low) (h24 : 24 ≤ low) (hsh : n < p + 1 + sizeL low) :
    Calls Try.prog 34 #[.slice a n cp, .int .i64 (p : Nat), .int .i64 (wi : Nat), .int .i64 (dp : Nat)] w (RReadO w (readQ bs (d + 1) p)) := by
  obtain ⟨wa, hwa⟩ : ∃ W, W = ((w.alloc (.cells #[.int .i64 0, .int .u64 0, .slice none 0 0, .string ⟨#[]⟩, .slice none 0 0] 26)).alloc (.cells #[.int .i64 0, .int .i64 0, .slice none 0 0] 35)).alloc (.cells #[.int .i64 0, .int .u64 0, .slice none 0 0, .string ⟨#[]⟩, .slice none 0 0] 26) := ⟨_, rfl⟩
  have hba : Below w.heap.size w wa := by
    rw [hwa]
    exact (((Below.refl _ _).alloc (Nat.le_refl _) _).alloc (by simp) _).alloc (by simp; omega) _
  have hbx : RBx wa w.heap.size (w.heap.size + 1) ∧ IBx wa (w.heap.size + 2) 0 0 (.slice none 0 0) ⟨#[]⟩ (.slice none 0 0) := by rw [hwa]; exact three _ _ _
  have hz : wa.heap.size = w.heap.size + 3 := by rw [hwa]; simp
  have HX := Lib.hid hbx.1
  have HI := Lib.hid hbx.2
  have HZ := Lib.hid hz
  have HRD := Lib.hid (h.keep hba)
  have HBA := Lib.hid hba
  have HBW := Lib.hid hba
  have hbl : bs.length = n := h.1
  have hzr : 0 < wa.heap.size := by omega
  obtain ⟨R, hR⟩ : ∃ R, R = readQ bs (d + 1) p := ⟨_, rfl⟩
  rw [← hR]
  rw [readQ, hbl] at hR
  have d1 : decide ((dp : Int) ≤ (wi : Int)) = false := by simp; omega
  have d2 : decide (dp ≤ wi) = false := by simp; omega
  have wwi : IntKind.i64.wrap ((wi : Int) + 1) = ((wi + 1 : Nat) : Int) := (IntWalk.i64_in _ (by omega)).trans (by omega)
  have CRD : Hid (∀ W q, RdB W a n bs → q ≤ n → Calls Try.prog 34 #[.slice a n cp, .int .i64 (q : Nat), .int .i64 ((wi + 1 : Nat) : Int), .int .i64 (dp : Nat)] W (RReadO W (readQ bs d q))) := Lib.hid (fun W q hW hq => hof a n cp bs q (wi + 1) dp W hW hn9 hcp hq (by omega) hd9)
  obtain ⟨wj, hwj⟩ : ∃ x, x = wi + 1 := ⟨_, rfl⟩
  rw [← hwj] at wwi CRD
  clear hwj hof
  rw [if_neg hlen] at hR
  have dl : decide ((n : Int) ≤ (p : Int)) = false := by simp; omega
  have dl2 : decide (n ≤ p) = false := by simp; omega
  have hpl : p < n := by omega
  obtain ⟨b, o, rfl, hat⟩ := HRD.out.at p hpl
  have hc9 := bAt_lt bs p
  obtain ⟨c, hc⟩ : ∃ c, c = bAt bs p := ⟨_, rfl⟩
  rw [← hc] at hat hc9 hR hm hlw
  have wq : (c : Int).tdiv 32 = (m : Int) := by rw [Int.tdiv_eq_ediv_of_nonneg (by omega)]; omega
  have wr : (c : Int).tmod 32 = (low : Int) := by rw [Int.tmod_eq_emod_of_nonneg (by omega)]; omega
  have wq8 : IntKind.u8.wrap (m : Int) = (m : Int) := IntWalk.u8_in _ (by omega)
  have wr8 : IntKind.u8.wrap (low : Int) = (low : Int) := IntWalk.u8_in _ (by omega)
  have wq2 : IntKind.i64.wrap (m : Int) = (m : Int) := IntWalk.i64_in _ (by omega)
  have wr2 : IntKind.i64.wrap (low : Int) = (low : Int) := IntWalk.i64_in _ (by omega)
  have hm7 : m ≤ 7 := by omega
  rw [← hm, ← hlw] at hR
  have ip0 : (0 : Int) ≤ (p : Int) := by omega
  have ip1 : (p : Int) < (n : Int) := by omega
  clear hc hm hlw hc9 hlen
  rw [if_neg h27] at hR
  have g1 : decide ((27 : Int) < (low : Int)) = false := by simp; omega
  have g1n : decide (27 < low) = false := by simp; omega
  obtain ⟨x1, hx1⟩ : ∃ x, x = n - p := ⟨_, rfl⟩
  obtain ⟨x2, hx2⟩ : ∃ x, x = n - p - 1 := ⟨_, rfl⟩
  have wx1 : IntKind.i64.wrap ((n : Int) - (p : Int)) = (x1 : Int) := (IntWalk.i64_in _ (by omega)).trans (by omega)
  have wx2 : IntKind.i64.wrap ((x1 : Int) - 1) = (x2 : Int) := (IntWalk.i64_in _ (by omega)).trans (by omega)
  have q1 : decide ((24 : Int) ≤ (low : Int)) = true := by simp; omega
  have q1n : decide (24 ≤ low) = true := by simp; omega
  have e1 : sizeL low = wideB low := if_neg (by omega)
  rw [e1] at hR hsh
  obtain ⟨sh, hsh2⟩ : ∃ k, k = low - 24 := ⟨_, rfl⟩
  obtain ⟨Wd, hWd⟩ : ∃ k, k = wideB low := ⟨_, rfl⟩
  have wsh : IntKind.i64.wrap ((low : Int) - 24) = (sh : Int) := (IntWalk.i64_in _ (by omega)).trans (by omega)
  have wsu : IntKind.u64.wrap (sh : Int) = (sh : Int) := IntWalk.u64_in _ (by omega)
  have hpw : (2 : Int) ^ sh = (Wd : Int) := by
    rw [hWd, hsh2]
    have : low = 24 ∨ low = 25 ∨ low = 26 ∨ low = 27 := by omega
    rcases this with rfl | rfl | rfl | rfl <;> rfl
  have hW8 : Wd ≤ 8 := by rw [hWd]; exact (wideB_le _).2
  have hW1 : 1 ≤ Wd := by rw [hWd]; exact (wideB_le _).1
  have wW : IntKind.i64.wrap (Wd : Int) = (Wd : Int) := IntWalk.i64_in _ (by omega)
  have ws4' : wrap64 (Wd : Int) = (Wd : Int) := by unfold wrap64; omega
  have ws0 : (0 : Int) ≤ (sh : Int) := by omega
  have hms : min sh 64 = sh := by omega
  have HWS : Hid (IntKind.i64.wrap (1 * 2 ^ sh) = (Wd : Int) ∧ IntKind.i64.wrap (2 ^ sh) = (Wd : Int) ∧ wrap64 (2 ^ min sh 64) = (Wd : Int)) := Lib.hid ⟨by rw [Int.one_mul, hpw]; exact wW, by rw [hpw]; exact wW, by rw [hms, hpw]; exact ws4'⟩
  clear hpw hms ws4'
  have ws3 : decide ((sh : Int) < 0) = false := by simp
  rw [← hWd] at hR hsh
  have q3 : decide ((x2 : Int) < (Wd : Int)) = true := by simp; omega
  have q3n : decide (x2 < Wd) = true := by simp; omega
  have HR : Hid (R = .error (2, p)) := by show _ = _; rw [hR, if_pos hsh]
  clear hR hsh hx1 hx2 hWd hsh2 e1
  clear CRD
  obtain ⟨⟨h0, h1, h2, h3, h4⟩, ⟨f0, f1, f2, f3, f4⟩, ⟨k0, k1, k2⟩, ⟨l0, l1, l2⟩⟩ := HX.out
  obtain ⟨⟨i0, i1, i2, i3, i4⟩, ⟨j0, j1, j2, j3, j4⟩⟩ := HI.out
  clear h hba hbx hz hd hd9 hcp
  obtain ⟨ws1, ws2, ws4⟩ := HWS.out
  go_enter Try.func34, Try.ntmps34
  go_upto_region 2 with fail
  rw [← hwa]
  clear hwa
  go_wp2_with fail
  go_quiet (fail)
  obtain ⟨wb, hwb⟩ : ∃ W, W = wa.drewN nq := ⟨_, rfl⟩
  have hbb : Below wa.heap.size wa wb := by rw [hwb]; exact below_drewN wa nq wa.heap.size
  rw [← hwb]
  clear hwb
  have HBB := Lib.hid hbb
  have HBW := Lib.hid (HBA.out.trans (hbb.mono HBA.out.size))
  have hzb : w.heap.size + 3 ≤ wb.heap.size := by have := hbb.size; have := HZ.out; omega
  clear hbb h0 h1 h2 h3 h4 f0 f1 f2 f3 f4 k0 k1 k2 l0 l1 l2 i0 i1 i2 i3 i4 j0 j1 j2 j3 j4 hat
  obtain ⟨⟨h0, h1, h2, h3, h4⟩, ⟨f0, f1, f2, f3, f4⟩, ⟨k0, k1, k2⟩, ⟨l0, l1, l2⟩⟩ := HX.out.keep HBB.out
  obtain ⟨⟨i0, i1, i2, i3, i4⟩, ⟨j0, j1, j2, j3, j4⟩⟩ := HI.out.keep HBB.out
  (repeat (first | go_values | go_skip | go_guarded | go_step | go_upon | (go_simp; go_at_K)))
  refine bodyPost_ret (v := .tuple #[zIt, .int .i64 0, fltV 2 p]) (by simp [results, Try.results34, go_sem, *]) rfl ?_
  rw [HR.out]
  refine rread_err ?_
  (repeat' (first | with_reducible exact HBW.out | with_reducible apply Below.drew | with_reducible refine Below.alloc ?_ (by first | omega | (simp; done) | (simp; omega)) _ | with_reducible refine Below.setCell ?_ (by first | (simp; done) | (simp only []; omega)) _))

set_option maxRecDepth 100000 in
set_option maxHeartbeats 8000000 in
theorem rread_7A8 (d : Nat) (hof : RReadSaid d) (a : Option Addr) (n cp : Nat) (bs : List UInt8) (p wi dp : Nat) (w : World) (h : RdB w a n bs) (hn9 : n ≤ 1000000) (hcp : n ≤ cp) (hpn : p ≤ n) (hd : dp = wi + (d + 1)) (hd9 : dp ≤ 1000) (hlen : ¬ n ≤ p) (m low : Nat) (hm : m = bAt bs p / 32) (hlw : low = bAt bs p % 32) (h27 : ¬ 27 < low) (hsh : ¬ n < p + 1 + sizeL low) (h20 : 20 ≤ low) (h24 : low ≤ 23) (h7 : m = 7) :
    Calls Try.prog 34 #[.slice a n cp, .int .i64 (p : Nat), .int .i64 (wi : Nat), .int .i64 (dp : Nat)] w (RReadO w (readQ bs (d + 1) p)) := by
  obtain ⟨wa, hwa⟩ : ∃ W, W = ((w.alloc (.cells #[.int .i64 0, .int .u64 0, .slice none 0 0, .string ⟨#[]⟩, .slice none 0 0] 26)).alloc (.cells #[.int .i64 0, .int .i64 0, .slice none 0 0] 35)).alloc (.cells #[.int .i64 0, .int .u64 0, .slice none 0 0, .string ⟨#[]⟩, .slice none 0 0] 26) := ⟨_, rfl⟩
  have hba : Below w.heap.size w wa := by
    rw [hwa]
    exact (((Below.refl _ _).alloc (Nat.le_refl _) _).alloc (by simp) _).alloc (by simp; omega) _
  have hbx : RBx wa w.heap.size (w.heap.size + 1) ∧ IBx wa (w.heap.size + 2) 0 0 (.slice none 0 0) ⟨#[]⟩ (.slice none 0 0) := by rw [hwa]; exact three _ _ _
  have hz : wa.heap.size = w.heap.size + 3 := by rw [hwa]; simp
  have HX := Lib.hid hbx.1
  have HI := Lib.hid hbx.2
  have HZ := Lib.hid hz
  have HRD := Lib.hid (h.keep hba)
  have HBA := Lib.hid hba
  have HBW := Lib.hid hba
  have hbl : bs.length = n := h.1
  have hzr : 0 < wa.heap.size := by omega
  obtain ⟨R, hR⟩ : ∃ R, R = readQ bs (d + 1) p := ⟨_, rfl⟩
  rw [← hR]
  rw [readQ, hbl] at hR
  have d1 : decide ((dp : Int) ≤ (wi : Int)) = false := by simp; omega
  have d2 : decide (dp ≤ wi) = false := by simp; omega
  have wwi : IntKind.i64.wrap ((wi : Int) + 1) = ((wi + 1 : Nat) : Int) := (IntWalk.i64_in _ (by omega)).trans (by omega)
  have CRD : Hid (∀ W q, RdB W a n bs → q ≤ n → Calls Try.prog 34 #[.slice a n cp, .int .i64 (q : Nat), .int .i64 ((wi + 1 : Nat) : Int), .int .i64 (dp : Nat)] W (RReadO W (readQ bs d q))) := Lib.hid (fun W q hW hq => hof a n cp bs q (wi + 1) dp W hW hn9 hcp hq (by omega) hd9)
  obtain ⟨wj, hwj⟩ : ∃ x, x = wi + 1 := ⟨_, rfl⟩
  rw [← hwj] at wwi CRD
  clear hwj hof
  rw [if_neg hlen] at hR
  have dl : decide ((n : Int) ≤ (p : Int)) = false := by simp; omega
  have dl2 : decide (n ≤ p) = false := by simp; omega
  have hpl : p < n := by omega
  obtain ⟨b, o, rfl, hat⟩ := HRD.out.at p hpl
  have hc9 := bAt_lt bs p
  obtain ⟨c, hc⟩ : ∃ c, c = bAt bs p := ⟨_, rfl⟩
  rw [← hc] at hat hc9 hR hm hlw
  have wq : (c : Int).tdiv 32 = (m : Int) := by rw [Int.tdiv_eq_ediv_of_nonneg (by omega)]; omega
  have wr : (c : Int).tmod 32 = (low : Int) := by rw [Int.tmod_eq_emod_of_nonneg (by omega)]; omega
  have wq8 : IntKind.u8.wrap (m : Int) = (m : Int) := IntWalk.u8_in _ (by omega)
  have wr8 : IntKind.u8.wrap (low : Int) = (low : Int) := IntWalk.u8_in _ (by omega)
  have wq2 : IntKind.i64.wrap (m : Int) = (m : Int) := IntWalk.i64_in _ (by omega)
  have wr2 : IntKind.i64.wrap (low : Int) = (low : Int) := IntWalk.i64_in _ (by omega)
  have hm7 : m ≤ 7 := by omega
  rw [← hm, ← hlw] at hR
  have ip0 : (0 : Int) ≤ (p : Int) := by omega
  have ip1 : (p : Int) < (n : Int) := by omega
  clear hc hm hlw hc9 hlen
  rw [if_neg h27] at hR
  have g1 : decide ((27 : Int) < (low : Int)) = false := by simp; omega
  have g1n : decide (27 < low) = false := by simp; omega
  obtain ⟨x1, hx1⟩ : ∃ x, x = n - p := ⟨_, rfl⟩
  obtain ⟨x2, hx2⟩ : ∃ x, x = n - p - 1 := ⟨_, rfl⟩
  have wx1 : IntKind.i64.wrap ((n : Int) - (p : Int)) = (x1 : Int) := (IntWalk.i64_in _ (by omega)).trans (by omega)
  have wx2 : IntKind.i64.wrap ((x1 : Int) - 1) = (x2 : Int) := (IntWalk.i64_in _ (by omega)).trans (by omega)
  have q1 : decide ((24 : Int) ≤ (low : Int)) = false := by simp; omega
  have q1n : decide (24 ≤ low) = false := by simp; omega
  have e1 : sizeL low = 0 := if_pos (by omega)
  rw [e1] at hR hsh
  have q3 : decide ((x2 : Int) < 0) = false := by simp
  rw [if_neg hsh] at hR
  have en : numL bs p low = low := if_pos (by omega)
  obtain ⟨nv, hnv⟩ : ∃ x, x = numL bs p low := ⟨_, rfl⟩
  have wl : IntKind.u64.wrap (low : Int) = (nv : Int) := (IntWalk.u64_in _ (by omega)).trans (by omega)
  obtain ⟨q, hq⟩ : ∃ q, q = p + 1 + 0 := ⟨_, rfl⟩
  have wp1 : IntKind.i64.wrap ((p : Int) + 1) = (q : Int) := (IntWalk.i64_in _ (by omega)).trans (by omega)
  have wp2 : IntKind.i64.wrap (q : Int) = (q : Int) := IntWalk.i64_in _ (by omega)
  have hnv9 : nv < okSize := by rw [hnv, en]; unfold okSize; omega
  rw [← hq, ← hnv] at hR
  have hqn : q ≤ n := by omega
  have HND : Hid (needN nv = 0) := by show _ = _; rw [hnv, en]; unfold needN; rw [if_pos (by omega)]
  clear hsh hx1 hx2 e1 en hnv hq
  have HR : Hid (R = .ok (.mk 8 nv [] ⟨#[]⟩ .nil, q)) := by show _ = _; rw [hR]; unfold behQ; rw [if_pos h7, if_neg (by omega), if_pos ⟨h20, h24⟩]
  have y1 : decide ((low : Int) ≤ 23) = true := by simp; omega
  have y1n : decide (low ≤ 23) = true := by simp; omega
  have y2 : decide ((20 : Int) ≤ (low : Int)) = true := by simp; omega
  have y2n : decide (20 ≤ low) = true := by simp; omega
  have y4 : ((m : Int) == 7) = true := by simp; omega
  clear hR CRD h24 h7 h20
  obtain ⟨⟨h0, h1, h2, h3, h4⟩, ⟨f0, f1, f2, f3, f4⟩, ⟨k0, k1, k2⟩, ⟨l0, l1, l2⟩⟩ := HX.out
  obtain ⟨⟨i0, i1, i2, i3, i4⟩, ⟨j0, j1, j2, j3, j4⟩⟩ := HI.out
  clear h hba hbx hz hd hd9 hcp
  go_enter Try.func34, Try.ntmps34
  go_upto_region 2 with fail
  rw [← hwa]
  clear hwa
  go_wp2_with fail
  go_quiet (fail)
  obtain ⟨wb, hwb⟩ : ∃ W, W = wa.drewN nq := ⟨_, rfl⟩
  have hbb : Below wa.heap.size wa wb := by rw [hwb]; exact below_drewN wa nq wa.heap.size
  rw [← hwb]
  clear hwb
  have HBB := Lib.hid hbb
  have HBW := Lib.hid (HBA.out.trans (hbb.mono HBA.out.size))
  have hzb : w.heap.size + 3 ≤ wb.heap.size := by have := hbb.size; have := HZ.out; omega
  clear hbb h0 h1 h2 h3 h4 f0 f1 f2 f3 f4 k0 k1 k2 l0 l1 l2 i0 i1 i2 i3 i4 j0 j1 j2 j3 j4 hat
  obtain ⟨⟨h0, h1, h2, h3, h4⟩, ⟨f0, f1, f2, f3, f4⟩, ⟨k0, k1, k2⟩, ⟨l0, l1, l2⟩⟩ := HX.out.keep HBB.out
  obtain ⟨⟨i0, i1, i2, i3, i4⟩, ⟨j0, j1, j2, j3, j4⟩⟩ := HI.out.keep HBB.out
  (repeat (first | go_values | go_skip | go_guarded | go_step | go_upon | (go_simp; go_at_K)))
  refine bodyPost_ret (v := .tuple #[.agg #[.int .i64 8, .int .u64 (nv : Nat), .slice none 0 0, .string ⟨#[]⟩, .slice none 0 0], .int .i64 (q : Nat), fltV 0 0]) (by simp [results, Try.results34, go_sem, *]) rfl ?_
  rw [HR.out]
  refine ⟨?_, _, rfl, ?_⟩
  case refine_2 => exact num_it _ _ 8 (by omega) nv hnv9 _ (by decide)
  (repeat' (first | with_reducible exact HBW.out | with_reducible apply Below.drew | with_reducible refine Below.alloc ?_ (by first | omega | (simp; done) | (simp; omega)) _ | with_reducible refine Below.setCell ?_ (by first | (simp; done) | (simp only []; omega)) _))

set_option maxRecDepth 100000 in
set_option maxHeartbeats 8000000 in
theorem rread_7AE (d : Nat) (hof : RReadSaid d) (a : Option Addr) (n cp : Nat) (bs : List UInt8) (p wi dp : Nat) (w : World) (h : RdB w a n bs) (hn9 : n ≤ 1000000) (hcp : n ≤ cp) (hpn : p ≤ n) (hd : dp = wi + (d + 1)) (hd9 : dp ≤ 1000) (hlen : ¬ n ≤ p) (m low : Nat) (hm : m = bAt bs p / 32) (hlw : low = bAt bs p % 32) (h27 : ¬ 27 < low) (hsh : ¬ n < p + 1 + sizeL low) (h24 : low < 20) (h7 : m = 7) :
    Calls Try.prog 34 #[.slice a n cp, .int .i64 (p : Nat), .int .i64 (wi : Nat), .int .i64 (dp : Nat)] w (RReadO w (readQ bs (d + 1) p)) := by
  obtain ⟨wa, hwa⟩ : ∃ W, W = ((w.alloc (.cells #[.int .i64 0, .int .u64 0, .slice none 0 0, .string ⟨#[]⟩, .slice none 0 0] 26)).alloc (.cells #[.int .i64 0, .int .i64 0, .slice none 0 0] 35)).alloc (.cells #[.int .i64 0, .int .u64 0, .slice none 0 0, .string ⟨#[]⟩, .slice none 0 0] 26) := ⟨_, rfl⟩
  have hba : Below w.heap.size w wa := by
    rw [hwa]
    exact (((Below.refl _ _).alloc (Nat.le_refl _) _).alloc (by simp) _).alloc (by simp; omega) _
  have hbx : RBx wa w.heap.size (w.heap.size + 1) ∧ IBx wa (w.heap.size + 2) 0 0 (.slice none 0 0) ⟨#[]⟩ (.slice none 0 0) := by rw [hwa]; exact three _ _ _
  have hz : wa.heap.size = w.heap.size + 3 := by rw [hwa]; simp
  have HX := Lib.hid hbx.1
  have HI := Lib.hid hbx.2
  have HZ := Lib.hid hz
  have HRD := Lib.hid (h.keep hba)
  have HBA := Lib.hid hba
  have HBW := Lib.hid hba
  have hbl : bs.length = n := h.1
  have hzr : 0 < wa.heap.size := by omega
  obtain ⟨R, hR⟩ : ∃ R, R = readQ bs (d + 1) p := ⟨_, rfl⟩
  rw [← hR]
  rw [readQ, hbl] at hR
  have d1 : decide ((dp : Int) ≤ (wi : Int)) = false := by simp; omega
  have d2 : decide (dp ≤ wi) = false := by simp; omega
  have wwi : IntKind.i64.wrap ((wi : Int) + 1) = ((wi + 1 : Nat) : Int) := (IntWalk.i64_in _ (by omega)).trans (by omega)
  have CRD : Hid (∀ W q, RdB W a n bs → q ≤ n → Calls Try.prog 34 #[.slice a n cp, .int .i64 (q : Nat), .int .i64 ((wi + 1 : Nat) : Int), .int .i64 (dp : Nat)] W (RReadO W (readQ bs d q))) := Lib.hid (fun W q hW hq => hof a n cp bs q (wi + 1) dp W hW hn9 hcp hq (by omega) hd9)
  obtain ⟨wj, hwj⟩ : ∃ x, x = wi + 1 := ⟨_, rfl⟩
  rw [← hwj] at wwi CRD
  clear hwj hof
  rw [if_neg hlen] at hR
  have dl : decide ((n : Int) ≤ (p : Int)) = false := by simp; omega
  have dl2 : decide (n ≤ p) = false := by simp; omega
  have hpl : p < n := by omega
  obtain ⟨b, o, rfl, hat⟩ := HRD.out.at p hpl
  have hc9 := bAt_lt bs p
  obtain ⟨c, hc⟩ : ∃ c, c = bAt bs p := ⟨_, rfl⟩
  rw [← hc] at hat hc9 hR hm hlw
  have wq : (c : Int).tdiv 32 = (m : Int) := by rw [Int.tdiv_eq_ediv_of_nonneg (by omega)]; omega
  have wr : (c : Int).tmod 32 = (low : Int) := by rw [Int.tmod_eq_emod_of_nonneg (by omega)]; omega
  have wq8 : IntKind.u8.wrap (m : Int) = (m : Int) := IntWalk.u8_in _ (by omega)
  have wr8 : IntKind.u8.wrap (low : Int) = (low : Int) := IntWalk.u8_in _ (by omega)
  have wq2 : IntKind.i64.wrap (m : Int) = (m : Int) := IntWalk.i64_in _ (by omega)
  have wr2 : IntKind.i64.wrap (low : Int) = (low : Int) := IntWalk.i64_in _ (by omega)
  have hm7 : m ≤ 7 := by omega
  rw [← hm, ← hlw] at hR
  have ip0 : (0 : Int) ≤ (p : Int) := by omega
  have ip1 : (p : Int) < (n : Int) := by omega
  clear hc hm hlw hc9 hlen
  rw [if_neg h27] at hR
  have g1 : decide ((27 : Int) < (low : Int)) = false := by simp; omega
  have g1n : decide (27 < low) = false := by simp; omega
  obtain ⟨x1, hx1⟩ : ∃ x, x = n - p := ⟨_, rfl⟩
  obtain ⟨x2, hx2⟩ : ∃ x, x = n - p - 1 := ⟨_, rfl⟩
  have wx1 : IntKind.i64.wrap ((n : Int) - (p : Int)) = (x1 : Int) := (IntWalk.i64_in _ (by omega)).trans (by omega)
  have wx2 : IntKind.i64.wrap ((x1 : Int) - 1) = (x2 : Int) := (IntWalk.i64_in _ (by omega)).trans (by omega)
  have q1 : decide ((24 : Int) ≤ (low : Int)) = false := by simp; omega
  have q1n : decide (24 ≤ low) = false := by simp; omega
  have e1 : sizeL low = 0 := if_pos (by omega)
  rw [e1] at hR hsh
  have q3 : decide ((x2 : Int) < 0) = false := by simp
  rw [if_neg hsh] at hR
  have en : numL bs p low = low := if_pos (by omega)
  obtain ⟨nv, hnv⟩ : ∃ x, x = numL bs p low := ⟨_, rfl⟩
  have wl : IntKind.u64.wrap (low : Int) = (nv : Int) := (IntWalk.u64_in _ (by omega)).trans (by omega)
  obtain ⟨q, hq⟩ : ∃ q, q = p + 1 + 0 := ⟨_, rfl⟩
  have wp1 : IntKind.i64.wrap ((p : Int) + 1) = (q : Int) := (IntWalk.i64_in _ (by omega)).trans (by omega)
  have wp2 : IntKind.i64.wrap (q : Int) = (q : Int) := IntWalk.i64_in _ (by omega)
  have hnv9 : nv < okSize := by rw [hnv, en]; unfold okSize; omega
  rw [← hq, ← hnv] at hR
  have hqn : q ≤ n := by omega
  have HND : Hid (needN nv = 0) := by show _ = _; rw [hnv, en]; unfold needN; rw [if_pos (by omega)]
  clear hsh hx1 hx2 e1 en hnv hq
  have HR : Hid (R = .error (3, p)) := by show _ = _; rw [hR]; unfold behQ; rw [if_pos h7, if_neg (by omega), if_neg (by omega)]
  have y2 : decide ((20 : Int) ≤ (low : Int)) = false := by simp; omega
  have y2n : decide (20 ≤ low) = false := by simp; omega
  have y3 : ((low : Int) == 27) = false := by simp; omega
  have y4 : ((m : Int) == 7) = true := by simp; omega
  clear hR CRD h24 h7
  obtain ⟨⟨h0, h1, h2, h3, h4⟩, ⟨f0, f1, f2, f3, f4⟩, ⟨k0, k1, k2⟩, ⟨l0, l1, l2⟩⟩ := HX.out
  obtain ⟨⟨i0, i1, i2, i3, i4⟩, ⟨j0, j1, j2, j3, j4⟩⟩ := HI.out
  clear h hba hbx hz hd hd9 hcp
  go_enter Try.func34, Try.ntmps34
  go_upto_region 2 with fail
  rw [← hwa]
  clear hwa
  go_wp2_with fail
  go_quiet (fail)
  obtain ⟨wb, hwb⟩ : ∃ W, W = wa.drewN nq := ⟨_, rfl⟩
  have hbb : Below wa.heap.size wa wb := by rw [hwb]; exact below_drewN wa nq wa.heap.size
  rw [← hwb]
  clear hwb
  have HBB := Lib.hid hbb
  have HBW := Lib.hid (HBA.out.trans (hbb.mono HBA.out.size))
  have hzb : w.heap.size + 3 ≤ wb.heap.size := by have := hbb.size; have := HZ.out; omega
  clear hbb h0 h1 h2 h3 h4 f0 f1 f2 f3 f4 k0 k1 k2 l0 l1 l2 i0 i1 i2 i3 i4 j0 j1 j2 j3 j4 hat
  obtain ⟨⟨h0, h1, h2, h3, h4⟩, ⟨f0, f1, f2, f3, f4⟩, ⟨k0, k1, k2⟩, ⟨l0, l1, l2⟩⟩ := HX.out.keep HBB.out
  obtain ⟨⟨i0, i1, i2, i3, i4⟩, ⟨j0, j1, j2, j3, j4⟩⟩ := HI.out.keep HBB.out
  (repeat (first | go_values | go_skip | go_guarded | go_step | go_upon | (go_simp; go_at_K)))
  refine bodyPost_ret (v := .tuple #[zIt, .int .i64 0, fltV 3 p]) (by simp [results, Try.results34, go_sem, *]) rfl ?_
  rw [HR.out]
  refine rread_err ?_
  (repeat' (first | with_reducible exact HBW.out | with_reducible apply Below.drew | with_reducible refine Below.alloc ?_ (by first | omega | (simp; done) | (simp; omega)) _ | with_reducible refine Below.setCell ?_ (by first | (simp; done) | (simp only []; omega)) _))

set_option maxRecDepth 100000 in
set_option maxHeartbeats 8000000 in
theorem rread_7C9 (d : Nat) (hof : RReadSaid d) (a : Option Addr) (n cp : Nat) (bs : List UInt8) (p wi dp : Nat) (w : World) (h : RdB w a n bs) (hn9 : n ≤ 1000000) (hcp : n ≤ cp) (hpn : p ≤ n) (hd : dp = wi + (d + 1)) (hd9 : dp ≤ 1000) (hlen : ¬ n ≤ p) (m low : Nat) (hm : m = bAt bs p / 32) (hlw : low = bAt bs p % 32) (h27 : ¬ 27 < low) (hsh : ¬ n < p + 1 + sizeL low) (h24 : low = 27) (h7 : m = 7) :
    Calls Try.prog 34 #[.slice a n cp, .int .i64 (p : Nat), .int .i64 (wi : Nat), .int .i64 (dp : Nat)] w (RReadO w (readQ bs (d + 1) p)) := by
  obtain ⟨wa, hwa⟩ : ∃ W, W = ((w.alloc (.cells #[.int .i64 0, .int .u64 0, .slice none 0 0, .string ⟨#[]⟩, .slice none 0 0] 26)).alloc (.cells #[.int .i64 0, .int .i64 0, .slice none 0 0] 35)).alloc (.cells #[.int .i64 0, .int .u64 0, .slice none 0 0, .string ⟨#[]⟩, .slice none 0 0] 26) := ⟨_, rfl⟩
  have hba : Below w.heap.size w wa := by
    rw [hwa]
    exact (((Below.refl _ _).alloc (Nat.le_refl _) _).alloc (by simp) _).alloc (by simp; omega) _
  have hbx : RBx wa w.heap.size (w.heap.size + 1) ∧ IBx wa (w.heap.size + 2) 0 0 (.slice none 0 0) ⟨#[]⟩ (.slice none 0 0) := by rw [hwa]; exact three _ _ _
  have hz : wa.heap.size = w.heap.size + 3 := by rw [hwa]; simp
  have HX := Lib.hid hbx.1
  have HI := Lib.hid hbx.2
  have HZ := Lib.hid hz
  have HRD := Lib.hid (h.keep hba)
  have HBA := Lib.hid hba
  have HBW := Lib.hid hba
  have hbl : bs.length = n := h.1
  have hzr : 0 < wa.heap.size := by omega
  obtain ⟨R, hR⟩ : ∃ R, R = readQ bs (d + 1) p := ⟨_, rfl⟩
  rw [← hR]
  rw [readQ, hbl] at hR
  have d1 : decide ((dp : Int) ≤ (wi : Int)) = false := by simp; omega
  have d2 : decide (dp ≤ wi) = false := by simp; omega
  have wwi : IntKind.i64.wrap ((wi : Int) + 1) = ((wi + 1 : Nat) : Int) := (IntWalk.i64_in _ (by omega)).trans (by omega)
  have CRD : Hid (∀ W q, RdB W a n bs → q ≤ n → Calls Try.prog 34 #[.slice a n cp, .int .i64 (q : Nat), .int .i64 ((wi + 1 : Nat) : Int), .int .i64 (dp : Nat)] W (RReadO W (readQ bs d q))) := Lib.hid (fun W q hW hq => hof a n cp bs q (wi + 1) dp W hW hn9 hcp hq (by omega) hd9)
  obtain ⟨wj, hwj⟩ : ∃ x, x = wi + 1 := ⟨_, rfl⟩
  rw [← hwj] at wwi CRD
  clear hwj hof
  rw [if_neg hlen] at hR
  have dl : decide ((n : Int) ≤ (p : Int)) = false := by simp; omega
  have dl2 : decide (n ≤ p) = false := by simp; omega
  have hpl : p < n := by omega
  obtain ⟨b, o, rfl, hat⟩ := HRD.out.at p hpl
  have hc9 := bAt_lt bs p
  obtain ⟨c, hc⟩ : ∃ c, c = bAt bs p := ⟨_, rfl⟩
  rw [← hc] at hat hc9 hR hm hlw
  have wq : (c : Int).tdiv 32 = (m : Int) := by rw [Int.tdiv_eq_ediv_of_nonneg (by omega)]; omega
  have wr : (c : Int).tmod 32 = (low : Int) := by rw [Int.tmod_eq_emod_of_nonneg (by omega)]; omega
  have wq8 : IntKind.u8.wrap (m : Int) = (m : Int) := IntWalk.u8_in _ (by omega)
  have wr8 : IntKind.u8.wrap (low : Int) = (low : Int) := IntWalk.u8_in _ (by omega)
  have wq2 : IntKind.i64.wrap (m : Int) = (m : Int) := IntWalk.i64_in _ (by omega)
  have wr2 : IntKind.i64.wrap (low : Int) = (low : Int) := IntWalk.i64_in _ (by omega)
  have hm7 : m ≤ 7 := by omega
  rw [← hm, ← hlw] at hR
  have ip0 : (0 : Int) ≤ (p : Int) := by omega
  have ip1 : (p : Int) < (n : Int) := by omega
  clear hc hm hlw hc9 hlen
  rw [if_neg h27] at hR
  have g1 : decide ((27 : Int) < (low : Int)) = false := by simp; omega
  have g1n : decide (27 < low) = false := by simp; omega
  obtain ⟨x1, hx1⟩ : ∃ x, x = n - p := ⟨_, rfl⟩
  obtain ⟨x2, hx2⟩ : ∃ x, x = n - p - 1 := ⟨_, rfl⟩
  have wx1 : IntKind.i64.wrap ((n : Int) - (p : Int)) = (x1 : Int) := (IntWalk.i64_in _ (by omega)).trans (by omega)
  have wx2 : IntKind.i64.wrap ((x1 : Int) - 1) = (x2 : Int) := (IntWalk.i64_in _ (by omega)).trans (by omega)
  have q1 : decide ((24 : Int) ≤ (low : Int)) = true := by simp; omega
  have q1n : decide (24 ≤ low) = true := by simp; omega
  have e1 : sizeL low = wideB low := if_neg (by omega)
  rw [e1] at hR hsh
  obtain ⟨sh, hsh2⟩ : ∃ k, k = low - 24 := ⟨_, rfl⟩
  obtain ⟨Wd, hWd⟩ : ∃ k, k = wideB low := ⟨_, rfl⟩
  have wsh : IntKind.i64.wrap ((low : Int) - 24) = (sh : Int) := (IntWalk.i64_in _ (by omega)).trans (by omega)
  have wsu : IntKind.u64.wrap (sh : Int) = (sh : Int) := IntWalk.u64_in _ (by omega)
  have hpw : (2 : Int) ^ sh = (Wd : Int) := by
    rw [hWd, hsh2]
    have : low = 24 ∨ low = 25 ∨ low = 26 ∨ low = 27 := by omega
    rcases this with rfl | rfl | rfl | rfl <;> rfl
  have hW8 : Wd ≤ 8 := by rw [hWd]; exact (wideB_le _).2
  have hW1 : 1 ≤ Wd := by rw [hWd]; exact (wideB_le _).1
  have wW : IntKind.i64.wrap (Wd : Int) = (Wd : Int) := IntWalk.i64_in _ (by omega)
  have ws4' : wrap64 (Wd : Int) = (Wd : Int) := by unfold wrap64; omega
  have ws0 : (0 : Int) ≤ (sh : Int) := by omega
  have hms : min sh 64 = sh := by omega
  have HWS : Hid (IntKind.i64.wrap (1 * 2 ^ sh) = (Wd : Int) ∧ IntKind.i64.wrap (2 ^ sh) = (Wd : Int) ∧ wrap64 (2 ^ min sh 64) = (Wd : Int)) := Lib.hid ⟨by rw [Int.one_mul, hpw]; exact wW, by rw [hpw]; exact wW, by rw [hms, hpw]; exact ws4'⟩
  clear hpw hms ws4'
  have ws3 : decide ((sh : Int) < 0) = false := by simp
  rw [← hWd] at hR hsh
  rw [if_neg hsh] at hR
  have q3 : decide ((x2 : Int) < (Wd : Int)) = false := by simp; omega
  have q3n : decide (x2 < Wd) = false := by simp; omega
  have q4 : decide ((0 : Int) < (Wd : Int)) = true := by simp; omega
  have q4n : decide (0 < Wd) = true := by simp; omega
  have en : numL bs p low = be (seg bs (p + 1) Wd) := by rw [hWd]; exact if_neg (by omega)
  have CN := Lib.hid (fun W hW => high_yes (some ⟨b, o, none⟩) n cp (p + 1) Wd W bs hW (by omega) hW1 hW8)
  rw [← en] at CN
  have hnv9 : numL bs p low < okSize := numL_lt bs p low (by omega) (by rw [e1, ← hWd, hbl]; omega)
  obtain ⟨nv, hnv⟩ : ∃ x, x = numL bs p low := ⟨_, rfl⟩
  rw [← hnv] at CN hnv9 hR
  obtain ⟨p1, hp1⟩ : ∃ x, x = p + 1 := ⟨_, rfl⟩
  have wp1 : IntKind.i64.wrap ((p : Int) + 1) = (p1 : Int) := (IntWalk.i64_in _ (by omega)).trans (by omega)
  rw [← hp1] at CN hR
  obtain ⟨q, hq⟩ : ∃ q, q = p1 + Wd := ⟨_, rfl⟩
  have wp2 : IntKind.i64.wrap ((p1 : Int) + (Wd : Int)) = (q : Int) := (IntWalk.i64_in _ (by omega)).trans (by omega)
  have wlw : IntKind.u64.wrap (low : Int) = (low : Int) := IntWalk.u64_in _ (by omega)
  rw [← hq] at hR
  have hqn : q ≤ n := by omega
  have HWd := Lib.hid hWd
  clear hsh hx1 hx2 e1 en hnv hq hp1 hsh2 hWd
  have HR : Hid (R = .ok (.mk 9 nv [] ⟨#[]⟩ .nil, q)) := by show _ = _; rw [hR]; unfold behQ; rw [if_pos h7, if_pos h24]
  have y1 : decide ((low : Int) ≤ 23) = false := by simp; omega
  have y1n : decide (low ≤ 23) = false := by simp; omega
  have y2 : decide ((20 : Int) ≤ (low : Int)) = true := by simp; omega
  have y2n : decide (20 ≤ low) = true := by simp; omega
  have y3 : ((low : Int) == 27) = true := by simp; omega
  have y4 : ((m : Int) == 7) = true := by simp; omega
  clear hR CRD h24 h7
  obtain ⟨⟨h0, h1, h2, h3, h4⟩, ⟨f0, f1, f2, f3, f4⟩, ⟨k0, k1, k2⟩, ⟨l0, l1, l2⟩⟩ := HX.out
  obtain ⟨⟨i0, i1, i2, i3, i4⟩, ⟨j0, j1, j2, j3, j4⟩⟩ := HI.out
  clear h hba hbx hz hd hd9 hcp
  obtain ⟨ws1, ws2, ws4⟩ := HWS.out
  go_enter Try.func34, Try.ntmps34
  go_upto_region 2 with fail
  rw [← hwa]
  clear hwa
  go_wp2_with fail
  go_quiet (fail)
  obtain ⟨wb, hwb⟩ : ∃ W, W = wa.drewN nq := ⟨_, rfl⟩
  have hbb : Below wa.heap.size wa wb := by rw [hwb]; exact below_drewN wa nq wa.heap.size
  rw [← hwb]
  clear hwb
  have HBB := Lib.hid hbb
  have HBW := Lib.hid (HBA.out.trans (hbb.mono HBA.out.size))
  have hzb : w.heap.size + 3 ≤ wb.heap.size := by have := hbb.size; have := HZ.out; omega
  clear hbb h0 h1 h2 h3 h4 f0 f1 f2 f3 f4 k0 k1 k2 l0 l1 l2 i0 i1 i2 i3 i4 j0 j1 j2 j3 j4 hat
  obtain ⟨⟨h0, h1, h2, h3, h4⟩, ⟨f0, f1, f2, f3, f4⟩, ⟨k0, k1, k2⟩, ⟨l0, l1, l2⟩⟩ := HX.out.keep HBB.out
  obtain ⟨⟨i0, i1, i2, i3, i4⟩, ⟨j0, j1, j2, j3, j4⟩⟩ := HI.out.keep HBB.out
  go_wp2_with fail
  refine (CN.out wb (HRD.out.keep HBB.out)).mono ?_
  rintro e w1 ⟨rfl, rfl⟩
  (repeat (first | go_values | go_skip | go_guarded | go_step | go_upon | (go_simp; go_at_K)))
  refine bodyPost_ret (v := .tuple #[.agg #[.int .i64 9, .int .u64 (nv : Nat), .slice none 0 0, .string ⟨#[]⟩, .slice none 0 0], .int .i64 (q : Nat), fltV 0 0]) (by simp [results, Try.results34, go_sem, *]) rfl ?_
  rw [HR.out]
  refine ⟨?_, _, rfl, ?_⟩
  case refine_2 => exact num_it _ _ 9 (by omega) nv hnv9 _ (by decide)
  (repeat' (first | with_reducible exact HBW.out | with_reducible apply Below.drew | with_reducible refine Below.alloc ?_ (by first | omega | (simp; done) | (simp; omega)) _ | with_reducible refine Below.setCell ?_ (by first | (simp; done) | (simp only []; omega)) _))

set_option maxRecDepth 100000 in
set_option maxHeartbeats 8000000 in
theorem rread_7CE (d : Nat) (hof : RReadSaid d) (a : Option Addr) (n cp : Nat) (bs : List UInt8) (p wi dp : Nat) (w : World) (h : RdB w a n bs) (hn9 : n ≤ 1000000) (hcp : n ≤ cp) (hpn : p ≤ n) (hd : dp = wi + (d + 1)) (hd9 : dp ≤ 1000) (hlen : ¬ n ≤ p) (m low : Nat) (hm : m = bAt bs p / 32) (hlw : low = bAt bs p % 32) (h27 : ¬ 27 < low) (hsh : ¬ n < p + 1 + sizeL low) (h24 : 24 ≤ low) (hne : low ≠ 27) (h7 : m = 7) :
    Calls Try.prog 34 #[.slice a n cp, .int .i64 (p : Nat), .int .i64 (wi : Nat), .int .i64 (dp : Nat)] w (RReadO w (readQ bs (d + 1) p)) := by
  obtain ⟨wa, hwa⟩ : ∃ W, W = ((w.alloc (.cells #[.int .i64 0, .int .u64 0, .slice none 0 0, .string ⟨#[]⟩, .slice none 0 0] 26)).alloc (.cells #[.int .i64 0, .int .i64 0, .slice none 0 0] 35)).alloc (.cells #[.int .i64 0, .int .u64 0, .slice none 0 0, .string ⟨#[]⟩, .slice none 0 0] 26) := ⟨_, rfl⟩
  have hba : Below w.heap.size w wa := by
    rw [hwa]
    exact (((Below.refl _ _).alloc (Nat.le_refl _) _).alloc (by simp) _).alloc (by simp; omega) _
  have hbx : RBx wa w.heap.size (w.heap.size + 1) ∧ IBx wa (w.heap.size + 2) 0 0 (.slice none 0 0) ⟨#[]⟩ (.slice none 0 0) := by rw [hwa]; exact three _ _ _
  have hz : wa.heap.size = w.heap.size + 3 := by rw [hwa]; simp
  have HX := Lib.hid hbx.1
  have HI := Lib.hid hbx.2
  have HZ := Lib.hid hz
  have HRD := Lib.hid (h.keep hba)
  have HBA := Lib.hid hba
  have HBW := Lib.hid hba
  have hbl : bs.length = n := h.1
  have hzr : 0 < wa.heap.size := by omega
  obtain ⟨R, hR⟩ : ∃ R, R = readQ bs (d + 1) p := ⟨_, rfl⟩
  rw [← hR]
  rw [readQ, hbl] at hR
  have d1 : decide ((dp : Int) ≤ (wi : Int)) = false := by simp; omega
  have d2 : decide (dp ≤ wi) = false := by simp; omega
  have wwi : IntKind.i64.wrap ((wi : Int) + 1) = ((wi + 1 : Nat) : Int) := (IntWalk.i64_in _ (by omega)).trans (by omega)
  have CRD : Hid (∀ W q, RdB W a n bs → q ≤ n → Calls Try.prog 34 #[.slice a n cp, .int .i64 (q : Nat), .int .i64 ((wi + 1 : Nat) : Int), .int .i64 (dp : Nat)] W (RReadO W (readQ bs d q))) := Lib.hid (fun W q hW hq => hof a n cp bs q (wi + 1) dp W hW hn9 hcp hq (by omega) hd9)
  obtain ⟨wj, hwj⟩ : ∃ x, x = wi + 1 := ⟨_, rfl⟩
  rw [← hwj] at wwi CRD
  clear hwj hof
  rw [if_neg hlen] at hR
  have dl : decide ((n : Int) ≤ (p : Int)) = false := by simp; omega
  have dl2 : decide (n ≤ p) = false := by simp; omega
  have hpl : p < n := by omega
  obtain ⟨b, o, rfl, hat⟩ := HRD.out.at p hpl
  have hc9 := bAt_lt bs p
  obtain ⟨c, hc⟩ : ∃ c, c = bAt bs p := ⟨_, rfl⟩
  rw [← hc] at hat hc9 hR hm hlw
  have wq : (c : Int).tdiv 32 = (m : Int) := by rw [Int.tdiv_eq_ediv_of_nonneg (by omega)]; omega
  have wr : (c : Int).tmod 32 = (low : Int) := by rw [Int.tmod_eq_emod_of_nonneg (by omega)]; omega
  have wq8 : IntKind.u8.wrap (m : Int) = (m : Int) := IntWalk.u8_in _ (by omega)
  have wr8 : IntKind.u8.wrap (low : Int) = (low : Int) := IntWalk.u8_in _ (by omega)
  have wq2 : IntKind.i64.wrap (m : Int) = (m : Int) := IntWalk.i64_in _ (by omega)
  have wr2 : IntKind.i64.wrap (low : Int) = (low : Int) := IntWalk.i64_in _ (by omega)
  have hm7 : m ≤ 7 := by omega
  rw [← hm, ← hlw] at hR
  have ip0 : (0 : Int) ≤ (p : Int) := by omega
  have ip1 : (p : Int) < (n : Int) := by omega
  clear hc hm hlw hc9 hlen
  rw [if_neg h27] at hR
  have g1 : decide ((27 : Int) < (low : Int)) = false := by simp; omega
  have g1n : decide (27 < low) = false := by simp; omega
  obtain ⟨x1, hx1⟩ : ∃ x, x = n - p := ⟨_, rfl⟩
  obtain ⟨x2, hx2⟩ : ∃ x, x = n - p - 1 := ⟨_, rfl⟩
  have wx1 : IntKind.i64.wrap ((n : Int) - (p : Int)) = (x1 : Int) := (IntWalk.i64_in _ (by omega)).trans (by omega)
  have wx2 : IntKind.i64.wrap ((x1 : Int) - 1) = (x2 : Int) := (IntWalk.i64_in _ (by omega)).trans (by omega)
  have q1 : decide ((24 : Int) ≤ (low : Int)) = true := by simp; omega
  have q1n : decide (24 ≤ low) = true := by simp; omega
  have e1 : sizeL low = wideB low := if_neg (by omega)
  rw [e1] at hR hsh
  obtain ⟨sh, hsh2⟩ : ∃ k, k = low - 24 := ⟨_, rfl⟩
  obtain ⟨Wd, hWd⟩ : ∃ k, k = wideB low := ⟨_, rfl⟩
  have wsh : IntKind.i64.wrap ((low : Int) - 24) = (sh : Int) := (IntWalk.i64_in _ (by omega)).trans (by omega)
  have wsu : IntKind.u64.wrap (sh : Int) = (sh : Int) := IntWalk.u64_in _ (by omega)
  have hpw : (2 : Int) ^ sh = (Wd : Int) := by
    rw [hWd, hsh2]
    have : low = 24 ∨ low = 25 ∨ low = 26 ∨ low = 27 := by omega
    rcases this with rfl | rfl | rfl | rfl <;> rfl
  have hW8 : Wd ≤ 8 := by rw [hWd]; exact (wideB_le _).2
  have hW1 : 1 ≤ Wd := by rw [hWd]; exact (wideB_le _).1
  have wW : IntKind.i64.wrap (Wd : Int) = (Wd : Int) := IntWalk.i64_in _ (by omega)
  have ws4' : wrap64 (Wd : Int) = (Wd : Int) := by unfold wrap64; omega
  have ws0 : (0 : Int) ≤ (sh : Int) := by omega
  have hms : min sh 64 = sh := by omega
  have HWS : Hid (IntKind.i64.wrap (1 * 2 ^ sh) = (Wd : Int) ∧ IntKind.i64.wrap (2 ^ sh) = (Wd : Int) ∧ wrap64 (2 ^ min sh 64) = (Wd : Int)) := Lib.hid ⟨by rw [Int.one_mul, hpw]; exact wW, by rw [hpw]; exact wW, by rw [hms, hpw]; exact ws4'⟩
  clear hpw hms ws4'
  have ws3 : decide ((sh : Int) < 0) = false := by simp
  rw [← hWd] at hR hsh
  rw [if_neg hsh] at hR
  have q3 : decide ((x2 : Int) < (Wd : Int)) = false := by simp; omega
  have q3n : decide (x2 < Wd) = false := by simp; omega
  have q4 : decide ((0 : Int) < (Wd : Int)) = true := by simp; omega
  have q4n : decide (0 < Wd) = true := by simp; omega
  have en : numL bs p low = be (seg bs (p + 1) Wd) := by rw [hWd]; exact if_neg (by omega)
  have CN := Lib.hid (fun W hW => high_yes (some ⟨b, o, none⟩) n cp (p + 1) Wd W bs hW (by omega) hW1 hW8)
  rw [← en] at CN
  have hnv9 : numL bs p low < okSize := numL_lt bs p low (by omega) (by rw [e1, ← hWd, hbl]; omega)
  obtain ⟨nv, hnv⟩ : ∃ x, x = numL bs p low := ⟨_, rfl⟩
  rw [← hnv] at CN hnv9 hR
  obtain ⟨p1, hp1⟩ : ∃ x, x = p + 1 := ⟨_, rfl⟩
  have wp1 : IntKind.i64.wrap ((p : Int) + 1) = (p1 : Int) := (IntWalk.i64_in _ (by omega)).trans (by omega)
  rw [← hp1] at CN hR
  obtain ⟨q, hq⟩ : ∃ q, q = p1 + Wd := ⟨_, rfl⟩
  have wp2 : IntKind.i64.wrap ((p1 : Int) + (Wd : Int)) = (q : Int) := (IntWalk.i64_in _ (by omega)).trans (by omega)
  have wlw : IntKind.u64.wrap (low : Int) = (low : Int) := IntWalk.u64_in _ (by omega)
  rw [← hq] at hR
  have hqn : q ≤ n := by omega
  have HWd := Lib.hid hWd
  clear hsh hx1 hx2 e1 en hnv hq hp1 hsh2 hWd
  have HR : Hid (R = .error (3, p)) := by show _ = _; rw [hR]; unfold behQ; rw [if_pos h7, if_neg hne, if_neg (by omega)]
  have y1 : decide ((low : Int) ≤ 23) = false := by simp; omega
  have y1n : decide (low ≤ 23) = false := by simp; omega
  have y2 : decide ((20 : Int) ≤ (low : Int)) = true := by simp; omega
  have y2n : decide (20 ≤ low) = true := by simp; omega
  have y3 : ((low : Int) == 27) = false := by simp; omega
  have y4 : ((m : Int) == 7) = true := by simp; omega
  clear hR CRD hne h24 h7
  obtain ⟨⟨h0, h1, h2, h3, h4⟩, ⟨f0, f1, f2, f3, f4⟩, ⟨k0, k1, k2⟩, ⟨l0, l1, l2⟩⟩ := HX.out
  obtain ⟨⟨i0, i1, i2, i3, i4⟩, ⟨j0, j1, j2, j3, j4⟩⟩ := HI.out
  clear h hba hbx hz hd hd9 hcp
  obtain ⟨ws1, ws2, ws4⟩ := HWS.out
  go_enter Try.func34, Try.ntmps34
  go_upto_region 2 with fail
  rw [← hwa]
  clear hwa
  go_wp2_with fail
  go_quiet (fail)
  obtain ⟨wb, hwb⟩ : ∃ W, W = wa.drewN nq := ⟨_, rfl⟩
  have hbb : Below wa.heap.size wa wb := by rw [hwb]; exact below_drewN wa nq wa.heap.size
  rw [← hwb]
  clear hwb
  have HBB := Lib.hid hbb
  have HBW := Lib.hid (HBA.out.trans (hbb.mono HBA.out.size))
  have hzb : w.heap.size + 3 ≤ wb.heap.size := by have := hbb.size; have := HZ.out; omega
  clear hbb h0 h1 h2 h3 h4 f0 f1 f2 f3 f4 k0 k1 k2 l0 l1 l2 i0 i1 i2 i3 i4 j0 j1 j2 j3 j4 hat
  obtain ⟨⟨h0, h1, h2, h3, h4⟩, ⟨f0, f1, f2, f3, f4⟩, ⟨k0, k1, k2⟩, ⟨l0, l1, l2⟩⟩ := HX.out.keep HBB.out
  obtain ⟨⟨i0, i1, i2, i3, i4⟩, ⟨j0, j1, j2, j3, j4⟩⟩ := HI.out.keep HBB.out
  go_wp2_with fail
  refine (CN.out wb (HRD.out.keep HBB.out)).mono ?_
  rintro e w1 ⟨rfl, rfl⟩
  (repeat (first | go_values | go_skip | go_guarded | go_step | go_upon | (go_simp; go_at_K)))
  refine bodyPost_ret (v := .tuple #[zIt, .int .i64 0, fltV 3 p]) (by simp [results, Try.results34, go_sem, *]) rfl ?_
  rw [HR.out]
  refine rread_err ?_
  (repeat' (first | with_reducible exact HBW.out | with_reducible apply Below.drew | with_reducible refine Below.alloc ?_ (by first | omega | (simp; done) | (simp; omega)) _ | with_reducible refine Below.setCell ?_ (by first | (simp; done) | (simp only []; omega)) _))

set_option maxRecDepth 100000 in
set_option maxHeartbeats 8000000 in
theorem rread_need (d : Nat) (hof : RReadSaid d) (a : Option Addr) (n cp : Nat) (bs : List UInt8) (p wi dp : Nat) (w : World) (h : RdB w a n bs) (hn9 : n ≤ 1000000) (hcp : n ≤ cp) (hpn : p ≤ n) (hd : dp = wi + (d + 1)) (hd9 : dp ≤ 1000) (hlen : ¬ n ≤ p) (m low : Nat) (hm : m = bAt bs p / 32) (hlw : low = bAt bs p % 32) (h27 : ¬ 27 < low) (hsh : ¬ n < p + 1 + sizeL low) (h7 : ¬ m = 7) (h24 : 24 ≤ low) (hnd : ¬ needN (numL bs p low) = wideB low) :
    Calls Try.prog 34 #[.slice a n cp, .int .i64 (p : Nat), .int .i64 (wi : Nat), .int .i64 (dp : Nat)] w (RReadO w (readQ bs (d + 1) p)) := by
  obtain ⟨wa, hwa⟩ : ∃ W, W = ((w.alloc (.cells #[.int .i64 0, .int .u64 0, .slice none 0 0, .string ⟨#[]⟩, .slice none 0 0] 26)).alloc (.cells #[.int .i64 0, .int .i64 0, .slice none 0 0] 35)).alloc (.cells #[.int .i64 0, .int .u64 0, .slice none 0 0, .string ⟨#[]⟩, .slice none 0 0] 26) := ⟨_, rfl⟩
  have hba : Below w.heap.size w wa := by
    rw [hwa]
    exact (((Below.refl _ _).alloc (Nat.le_refl _) _).alloc (by simp) _).alloc (by simp; omega) _
  have hbx : RBx wa w.heap.size (w.heap.size + 1) ∧ IBx wa (w.heap.size + 2) 0 0 (.slice none 0 0) ⟨#[]⟩ (.slice none 0 0) := by rw [hwa]; exact three _ _ _
  have hz : wa.heap.size = w.heap.size + 3 := by rw [hwa]; simp
  have HX := Lib.hid hbx.1
  have HI := Lib.hid hbx.2
  have HZ := Lib.hid hz
  have HRD := Lib.hid (h.keep hba)
  have HBA := Lib.hid hba
  have HBW := Lib.hid hba
  have hbl : bs.length = n := h.1
  have hzr : 0 < wa.heap.size := by omega
  obtain ⟨R, hR⟩ : ∃ R, R = readQ bs (d + 1) p := ⟨_, rfl⟩
  rw [← hR]
  rw [readQ, hbl] at hR
  have d1 : decide ((dp : Int) ≤ (wi : Int)) = false := by simp; omega
  have d2 : decide (dp ≤ wi) = false := by simp; omega
  have wwi : IntKind.i64.wrap ((wi : Int) + 1) = ((wi + 1 : Nat) : Int) := (IntWalk.i64_in _ (by omega)).trans (by omega)
  have CRD : Hid (∀ W q, RdB W a n bs → q ≤ n → Calls Try.prog 34 #[.slice a n cp, .int .i64 (q : Nat), .int .i64 ((wi + 1 : Nat) : Int), .int .i64 (dp : Nat)] W (RReadO W (readQ bs d q))) := Lib.hid (fun W q hW hq => hof a n cp bs q (wi + 1) dp W hW hn9 hcp hq (by omega) hd9)
  obtain ⟨wj, hwj⟩ : ∃ x, x = wi + 1 := ⟨_, rfl⟩
  rw [← hwj] at wwi CRD
  clear hwj hof
  rw [if_neg hlen] at hR
  have dl : decide ((n : Int) ≤ (p : Int)) = false := by simp; omega
  have dl2 : decide (n ≤ p) = false := by simp; omega
  have hpl : p < n := by omega
  obtain ⟨b, o, rfl, hat⟩ := HRD.out.at p hpl
  have hc9 := bAt_lt bs p
  obtain ⟨c, hc⟩ : ∃ c, c = bAt bs p := ⟨_, rfl⟩
  rw [← hc] at hat hc9 hR hm hlw
  have wq : (c : Int).tdiv 32 = (m : Int) := by rw [Int.tdiv_eq_ediv_of_nonneg (by omega)]; omega
  have wr : (c : Int).tmod 32 = (low : Int) := by rw [Int.tmod_eq_emod_of_nonneg (by omega)]; omega
  have wq8 : IntKind.u8.wrap (m : Int) = (m : Int) := IntWalk.u8_in _ (by omega)
  have wr8 : IntKind.u8.wrap (low : Int) = (low : Int) := IntWalk.u8_in _ (by omega)
  have wq2 : IntKind.i64.wrap (m : Int) = (m : Int) := IntWalk.i64_in _ (by omega)
  have wr2 : IntKind.i64.wrap (low : Int) = (low : Int) := IntWalk.i64_in _ (by omega)
  have hm7 : m ≤ 7 := by omega
  rw [← hm, ← hlw] at hR
  have ip0 : (0 : Int) ≤ (p : Int) := by omega
  have ip1 : (p : Int) < (n : Int) := by omega
  clear hc hm hlw hc9 hlen
  rw [if_neg h27] at hR
  have g1 : decide ((27 : Int) < (low : Int)) = false := by simp; omega
  have g1n : decide (27 < low) = false := by simp; omega
  obtain ⟨x1, hx1⟩ : ∃ x, x = n - p := ⟨_, rfl⟩
  obtain ⟨x2, hx2⟩ : ∃ x, x = n - p - 1 := ⟨_, rfl⟩
  have wx1 : IntKind.i64.wrap ((n : Int) - (p : Int)) = (x1 : Int) := (IntWalk.i64_in _ (by omega)).trans (by omega)
  have wx2 : IntKind.i64.wrap ((x1 : Int) - 1) = (x2 : Int) := (IntWalk.i64_in _ (by omega)).trans (by omega)
  have q1 : decide ((24 : Int) ≤ (low : Int)) = true := by simp; omega
  have q1n : decide (24 ≤ low) = true := by simp; omega
  have e1 : sizeL low = wideB low := if_neg (by omega)
  rw [e1] at hR hsh
  obtain ⟨sh, hsh2⟩ : ∃ k, k = low - 24 := ⟨_, rfl⟩
  obtain ⟨Wd, hWd⟩ : ∃ k, k = wideB low := ⟨_, rfl⟩
  have wsh : IntKind.i64.wrap ((low : Int) - 24) = (sh : Int) := (IntWalk.i64_in _ (by omega)).trans (by omega)
  have wsu : IntKind.u64.wrap (sh : Int) = (sh : Int) := IntWalk.u64_in _ (by omega)
  have hpw : (2 : Int) ^ sh = (Wd : Int) := by
    rw [hWd, hsh2]
    have : low = 24 ∨ low = 25 ∨ low = 26 ∨ low = 27 := by omega
    rcases this with rfl | rfl | rfl | rfl <;> rfl
  have hW8 : Wd ≤ 8 := by rw [hWd]; exact (wideB_le _).2
  have hW1 : 1 ≤ Wd := by rw [hWd]; exact (wideB_le _).1
  have wW : IntKind.i64.wrap (Wd : Int) = (Wd : Int) := IntWalk.i64_in _ (by omega)
  have ws4' : wrap64 (Wd : Int) = (Wd : Int) := by unfold wrap64; omega
  have ws0 : (0 : Int) ≤ (sh : Int) := by omega
  have hms : min sh 64 = sh := by omega
  have HWS : Hid (IntKind.i64.wrap (1 * 2 ^ sh) = (Wd : Int) ∧ IntKind.i64.wrap (2 ^ sh) = (Wd : Int) ∧ wrap64 (2 ^ min sh 64) = (Wd : Int)) := Lib.hid ⟨by rw [Int.one_mul, hpw]; exact wW, by rw [hpw]; exact wW, by rw [hms, hpw]; exact ws4'⟩
  clear hpw hms ws4'
  have ws3 : decide ((sh : Int) < 0) = false := by simp
  rw [← hWd] at hR hsh
  rw [if_neg hsh] at hR
  have q3 : decide ((x2 : Int) < (Wd : Int)) = false := by simp; omega
  have q3n : decide (x2 < Wd) = false := by simp; omega
  have q4 : decide ((0 : Int) < (Wd : Int)) = true := by simp; omega
  have q4n : decide (0 < Wd) = true := by simp; omega
  have en : numL bs p low = be (seg bs (p + 1) Wd) := by rw [hWd]; exact if_neg (by omega)
  have CN := Lib.hid (fun W hW => high_yes (some ⟨b, o, none⟩) n cp (p + 1) Wd W bs hW (by omega) hW1 hW8)
  rw [← en] at CN
  have hnv9 : numL bs p low < okSize := numL_lt bs p low (by omega) (by rw [e1, ← hWd, hbl]; omega)
  obtain ⟨nv, hnv⟩ : ∃ x, x = numL bs p low := ⟨_, rfl⟩
  rw [← hnv] at CN hnv9 hR hnd
  obtain ⟨p1, hp1⟩ : ∃ x, x = p + 1 := ⟨_, rfl⟩
  have wp1 : IntKind.i64.wrap ((p : Int) + 1) = (p1 : Int) := (IntWalk.i64_in _ (by omega)).trans (by omega)
  rw [← hp1] at CN hR
  obtain ⟨q, hq⟩ : ∃ q, q = p1 + Wd := ⟨_, rfl⟩
  have wp2 : IntKind.i64.wrap ((p1 : Int) + (Wd : Int)) = (q : Int) := (IntWalk.i64_in _ (by omega)).trans (by omega)
  have wlw : IntKind.u64.wrap (low : Int) = (low : Int) := IntWalk.u64_in _ (by omega)
  rw [← hq] at hR
  have hqn : q ≤ n := by omega
  have HWd := Lib.hid hWd
  clear hsh hx1 hx2 e1 en hnv hq hp1 hsh2 hWd
  have HR : Hid (R = .error (3, p)) := by show _ = _; rw [hR]; unfold behQ; rw [if_neg h7, if_pos ⟨h24, hnd⟩]
  have y4 : ((m : Int) == 7) = false := by simp; omega
  have w1W : IntKind.i64.wrap (1 + (Wd : Int)) = ((1 + Wd : Nat) : Int) := (IntWalk.i64_in _ (by omega)).trans (by omega)
  obtain ⟨W1, hW1'⟩ : ∃ x, x = 1 + Wd := ⟨_, rfl⟩
  rw [← hW1'] at w1W
  obtain ⟨hl2, hhl2⟩ : ∃ x, x = (headB m nv).length := ⟨_, rfl⟩
  have HLN : Hid ((headB m nv).length = hl2) := hhl2.symm
  rw [headB_len] at hhl2
  have hln : ((hl2 : Int) != (W1 : Int)) = true := by
    rw [← HWd.out] at hnd
    simp only [bne_iff_ne, ne_eq]; omega
  have CH := Lib.hid (fun W => rhead_calls (m : Nat) m rfl hm7 nv hnv9 W)
  clear hR CRD h24 h7 hnd hhl2 hW1'
  obtain ⟨⟨h0, h1, h2, h3, h4⟩, ⟨f0, f1, f2, f3, f4⟩, ⟨k0, k1, k2⟩, ⟨l0, l1, l2⟩⟩ := HX.out
  obtain ⟨⟨i0, i1, i2, i3, i4⟩, ⟨j0, j1, j2, j3, j4⟩⟩ := HI.out
  clear h hba hbx hz hd hd9 hcp
  obtain ⟨ws1, ws2, ws4⟩ := HWS.out
  go_enter Try.func34, Try.ntmps34
  go_upto_region 2 with fail
  rw [← hwa]
  clear hwa
  go_wp2_with fail
  go_quiet (fail)
  obtain ⟨wb, hwb⟩ : ∃ W, W = wa.drewN nq := ⟨_, rfl⟩
  have hbb : Below wa.heap.size wa wb := by rw [hwb]; exact below_drewN wa nq wa.heap.size
  rw [← hwb]
  clear hwb
  have HBB := Lib.hid hbb
  have HBW := Lib.hid (HBA.out.trans (hbb.mono HBA.out.size))
  have hzb : w.heap.size + 3 ≤ wb.heap.size := by have := hbb.size; have := HZ.out; omega
  clear hbb h0 h1 h2 h3 h4 f0 f1 f2 f3 f4 k0 k1 k2 l0 l1 l2 i0 i1 i2 i3 i4 j0 j1 j2 j3 j4 hat
  obtain ⟨⟨h0, h1, h2, h3, h4⟩, ⟨f0, f1, f2, f3, f4⟩, ⟨k0, k1, k2⟩, ⟨l0, l1, l2⟩⟩ := HX.out.keep HBB.out
  obtain ⟨⟨i0, i1, i2, i3, i4⟩, ⟨j0, j1, j2, j3, j4⟩⟩ := HI.out.keep HBB.out
  go_wp2_with fail
  refine (CN.out wb (HRD.out.keep HBB.out)).mono ?_
  rintro e w1 ⟨rfl, rfl⟩
  go_wp2_with fail
  refine (CH.out _).mono ?_
  rintro e w2 ⟨v2, rfl, hst⟩
  obtain ⟨a2, c2, rfl, hr2⟩ := hst.1.reads
  rw [HLN.out] at hst hr2 ⊢
  have HB2 := Lib.hid (HBB.out.trans (hst.2.mono HBB.out.size))
  have HBW := Lib.hid (HBA.out.trans (HB2.out.mono HBA.out.size))
  have hzr2 : w.heap.size + 3 ≤ w2.heap.size := by have := HB2.out.size; have := HZ.out; omega
  clear h0 h1 h2 h3 h4 f0 f1 f2 f3 f4 k0 k1 k2 l0 l1 l2 i0 i1 i2 i3 i4 j0 j1 j2 j3 j4 hzb
  obtain ⟨⟨h0, h1, h2, h3, h4⟩, ⟨f0, f1, f2, f3, f4⟩, ⟨k0, k1, k2⟩, ⟨l0, l1, l2⟩⟩ := HX.out.keep HB2.out
  have HI2 := Lib.hid (HI.out.keep HB2.out)
  obtain ⟨⟨i0, i1, i2, i3, i4⟩, ⟨j0, j1, j2, j3, j4⟩⟩ := HI2.out
  have HRD2 := Lib.hid (HRD.out.keep HB2.out)
  clear hst hr2 CH HLN
  (repeat (first | go_values | go_skip | go_guarded | go_step | go_upon | (go_simp; go_at_K)))
  refine bodyPost_ret (v := .tuple #[zIt, .int .i64 0, fltV 3 p]) (by simp [results, Try.results34, go_sem, *]) rfl ?_
  rw [HR.out]
  refine rread_err ?_
  (repeat' (first | with_reducible exact HBW.out | with_reducible apply Below.drew | with_reducible refine Below.alloc ?_ (by first | omega | (simp; done) | (simp; omega)) _ | with_reducible refine Below.setCell ?_ (by first | (simp; done) | (simp only []; omega)) _))

set_option maxRecDepth 100000 in
set_option maxHeartbeats 8000000 in
theorem rread_A0 (d : Nat) (hof : RReadSaid d) (a : Option Addr) (n cp : Nat) (bs : List UInt8) (p wi dp : Nat) (w : World) (h : RdB w a n bs) (hn9 : n ≤ 1000000) (hcp : n ≤ cp) (hpn : p ≤ n) (hd : dp = wi + (d + 1)) (hd9 : dp ≤ 1000) (hlen : ¬ n ≤ p) (m low : Nat) (hm : m = bAt bs p / 32) (hlw : low = bAt bs p % 32) (h27 : ¬ 27 < low) (hsh : ¬ n < p + 1 + sizeL low) (h24 : ¬ 24 ≤ low) (hmv : m = 0) :
    Calls Try.prog 34 #[.slice a n cp, .int .i64 (p : Nat), .int .i64 (wi : Nat), .int .i64 (dp : Nat)] w (RReadO w (readQ bs (d + 1) p)) := by
  obtain ⟨wa, hwa⟩ : ∃ W, W = ((w.alloc (.cells #[.int .i64 0, .int .u64 0, .slice none 0 0, .string ⟨#[]⟩, .slice none 0 0] 26)).alloc (.cells #[.int .i64 0, .int .i64 0, .slice none 0 0] 35)).alloc (.cells #[.int .i64 0, .int .u64 0, .slice none 0 0, .string ⟨#[]⟩, .slice none 0 0] 26) := ⟨_, rfl⟩
  have hba : Below w.heap.size w wa := by
    rw [hwa]
    exact (((Below.refl _ _).alloc (Nat.le_refl _) _).alloc (by simp) _).alloc (by simp; omega) _
  have hbx : RBx wa w.heap.size (w.heap.size + 1) ∧ IBx wa (w.heap.size + 2) 0 0 (.slice none 0 0) ⟨#[]⟩ (.slice none 0 0) := by rw [hwa]; exact three _ _ _
  have hz : wa.heap.size = w.heap.size + 3 := by rw [hwa]; simp
  have HX := Lib.hid hbx.1
  have HI := Lib.hid hbx.2
  have HZ := Lib.hid hz
  have HRD := Lib.hid (h.keep hba)
  have HBA := Lib.hid hba
  have HBW := Lib.hid hba
  have hbl : bs.length = n := h.1
  have hzr : 0 < wa.heap.size := by omega
  obtain ⟨R, hR⟩ : ∃ R, R = readQ bs (d + 1) p := ⟨_, rfl⟩
  rw [← hR]
  rw [readQ, hbl] at hR
  have d1 : decide ((dp : Int) ≤ (wi : Int)) = false := by simp; omega
  have d2 : decide (dp ≤ wi) = false := by simp; omega
  have wwi : IntKind.i64.wrap ((wi : Int) + 1) = ((wi + 1 : Nat) : Int) := (IntWalk.i64_in _ (by omega)).trans (by omega)
  have CRD : Hid (∀ W q, RdB W a n bs → q ≤ n → Calls Try.prog 34 #[.slice a n cp, .int .i64 (q : Nat), .int .i64 ((wi + 1 : Nat) : Int), .int .i64 (dp : Nat)] W (RReadO W (readQ bs d q))) := Lib.hid (fun W q hW hq => hof a n cp bs q (wi + 1) dp W hW hn9 hcp hq (by omega) hd9)
  obtain ⟨wj, hwj⟩ : ∃ x, x = wi + 1 := ⟨_, rfl⟩
  rw [← hwj] at wwi CRD
  clear hwj hof
  rw [if_neg hlen] at hR
  have dl : decide ((n : Int) ≤ (p : Int)) = false := by simp; omega
  have dl2 : decide (n ≤ p) = false := by simp; omega
  have hpl : p < n := by omega
  obtain ⟨b, o, rfl, hat⟩ := HRD.out.at p hpl
  have hc9 := bAt_lt bs p
  obtain ⟨c, hc⟩ : ∃ c, c = bAt bs p := ⟨_, rfl⟩
  rw [← hc] at hat hc9 hR hm hlw
  have wq : (c : Int).tdiv 32 = (m : Int) := by rw [Int.tdiv_eq_ediv_of_nonneg (by omega)]; omega
  have wr : (c : Int).tmod 32 = (low : Int) := by rw [Int.tmod_eq_emod_of_nonneg (by omega)]; omega
  have wq8 : IntKind.u8.wrap (m : Int) = (m : Int) := IntWalk.u8_in _ (by omega)
  have wr8 : IntKind.u8.wrap (low : Int) = (low : Int) := IntWalk.u8_in _ (by omega)
  have wq2 : IntKind.i64.wrap (m : Int) = (m : Int) := IntWalk.i64_in _ (by omega)
  have wr2 : IntKind.i64.wrap (low : Int) = (low : Int) := IntWalk.i64_in _ (by omega)
  have hm7 : m ≤ 7 := by omega
  rw [← hm, ← hlw] at hR
  have ip0 : (0 : Int) ≤ (p : Int) := by omega
  have ip1 : (p : Int) < (n : Int) := by omega
  clear hc hm hlw hc9 hlen
  rw [if_neg h27] at hR
  have g1 : decide ((27 : Int) < (low : Int)) = false := by simp; omega
  have g1n : decide (27 < low) = false := by simp; omega
  obtain ⟨x1, hx1⟩ : ∃ x, x = n - p := ⟨_, rfl⟩
  obtain ⟨x2, hx2⟩ : ∃ x, x = n - p - 1 := ⟨_, rfl⟩
  have wx1 : IntKind.i64.wrap ((n : Int) - (p : Int)) = (x1 : Int) := (IntWalk.i64_in _ (by omega)).trans (by omega)
  have wx2 : IntKind.i64.wrap ((x1 : Int) - 1) = (x2 : Int) := (IntWalk.i64_in _ (by omega)).trans (by omega)
  have q1 : decide ((24 : Int) ≤ (low : Int)) = false := by simp; omega
  have q1n : decide (24 ≤ low) = false := by simp; omega
  have e1 : sizeL low = 0 := if_pos (by omega)
  rw [e1] at hR hsh
  have q3 : decide ((x2 : Int) < 0) = false := by simp
  rw [if_neg hsh] at hR
  have en : numL bs p low = low := if_pos (by omega)
  obtain ⟨nv, hnv⟩ : ∃ x, x = numL bs p low := ⟨_, rfl⟩
  have wl : IntKind.u64.wrap (low : Int) = (nv : Int) := (IntWalk.u64_in _ (by omega)).trans (by omega)
  obtain ⟨q, hq⟩ : ∃ q, q = p + 1 + 0 := ⟨_, rfl⟩
  have wp1 : IntKind.i64.wrap ((p : Int) + 1) = (q : Int) := (IntWalk.i64_in _ (by omega)).trans (by omega)
  have wp2 : IntKind.i64.wrap (q : Int) = (q : Int) := IntWalk.i64_in _ (by omega)
  have hnv9 : nv < okSize := by rw [hnv, en]; unfold okSize; omega
  rw [← hq, ← hnv] at hR
  have hqn : q ≤ n := by omega
  have HND : Hid (needN nv = 0) := by show _ = _; rw [hnv, en]; unfold needN; rw [if_pos (by omega)]
  clear hsh hx1 hx2 e1 en hnv hq
  have HR : Hid (R = .ok (.mk 1 nv [] ⟨#[]⟩ .nil, q)) := by show _ = _; rw [hR]; unfold behQ; rw [if_neg (by omega), if_neg (by omega), if_pos (by omega)]
  obtain ⟨hl2, hhl2⟩ : ∃ x, x = (headB m nv).length := ⟨_, rfl⟩
  have HLN : Hid ((headB m nv).length = hl2) := hhl2.symm
  rw [headB_len, HND.out] at hhl2
  have hln : ((hl2 : Int) != 1) = false := by simp; omega
  clear hhl2
  subst hmv
  have CH := Lib.hid (fun W => rhead_calls (0 : Nat) 0 rfl (by omega) nv hnv9 W)
  clear hR CRD h24
  obtain ⟨⟨h0, h1, h2, h3, h4⟩, ⟨f0, f1, f2, f3, f4⟩, ⟨k0, k1, k2⟩, ⟨l0, l1, l2⟩⟩ := HX.out
  obtain ⟨⟨i0, i1, i2, i3, i4⟩, ⟨j0, j1, j2, j3, j4⟩⟩ := HI.out
  clear h hba hbx hz hd hd9 hcp
  go_enter Try.func34, Try.ntmps34
  go_upto_region 2 with fail
  rw [← hwa]
  clear hwa
  go_wp2_with fail
  go_quiet (fail)
  obtain ⟨wb, hwb⟩ : ∃ W, W = wa.drewN nq := ⟨_, rfl⟩
  have hbb : Below wa.heap.size wa wb := by rw [hwb]; exact below_drewN wa nq wa.heap.size
  rw [← hwb]
  clear hwb
  have HBB := Lib.hid hbb
  have HBW := Lib.hid (HBA.out.trans (hbb.mono HBA.out.size))
  have hzb : w.heap.size + 3 ≤ wb.heap.size := by have := hbb.size; have := HZ.out; omega
  clear hbb h0 h1 h2 h3 h4 f0 f1 f2 f3 f4 k0 k1 k2 l0 l1 l2 i0 i1 i2 i3 i4 j0 j1 j2 j3 j4 hat
  obtain ⟨⟨h0, h1, h2, h3, h4⟩, ⟨f0, f1, f2, f3, f4⟩, ⟨k0, k1, k2⟩, ⟨l0, l1, l2⟩⟩ := HX.out.keep HBB.out
  obtain ⟨⟨i0, i1, i2, i3, i4⟩, ⟨j0, j1, j2, j3, j4⟩⟩ := HI.out.keep HBB.out
  go_wp2_with fail
  refine (CH.out _).mono ?_
  rintro e w2 ⟨v2, rfl, hst⟩
  obtain ⟨a2, c2, rfl, hr2⟩ := hst.1.reads
  rw [HLN.out] at hst hr2 ⊢
  have HB2 := Lib.hid (HBB.out.trans (hst.2.mono HBB.out.size))
  have HBW := Lib.hid (HBA.out.trans (HB2.out.mono HBA.out.size))
  have hzr2 : w.heap.size + 3 ≤ w2.heap.size := by have := HB2.out.size; have := HZ.out; omega
  clear h0 h1 h2 h3 h4 f0 f1 f2 f3 f4 k0 k1 k2 l0 l1 l2 i0 i1 i2 i3 i4 j0 j1 j2 j3 j4 hzb
  obtain ⟨⟨h0, h1, h2, h3, h4⟩, ⟨f0, f1, f2, f3, f4⟩, ⟨k0, k1, k2⟩, ⟨l0, l1, l2⟩⟩ := HX.out.keep HB2.out
  have HI2 := Lib.hid (HI.out.keep HB2.out)
  obtain ⟨⟨i0, i1, i2, i3, i4⟩, ⟨j0, j1, j2, j3, j4⟩⟩ := HI2.out
  have HRD2 := Lib.hid (HRD.out.keep HB2.out)
  clear hst hr2 CH HLN
  go_upto_region 48 with fail
  obtain ⟨wz, hwz⟩ : ∃ W, W = (w2.setCell ⟨w.heap.size + 2, 0, none⟩ (.int .i64 1)).setCell ⟨w.heap.size + 2, 1, none⟩ (.int .u64 (nv : Nat)) := ⟨_, rfl⟩
  rw [← hwz]
  have hiz : IBx wz (w.heap.size + 2) 1 nv (.slice none 0 0) ⟨#[]⟩ (.slice none 0 0) := by rw [hwz]; exact HI2.out.set0.set1
  have hcz : Chg (fun i => i = w.heap.size + 2) w2 wz := by
    rw [hwz]
    have hX : (fun i => i = w.heap.size + 2) (w.heap.size + 2) := rfl
    (repeat' (first | with_reducible exact Chg.refl _ _ | refine Chg.setCell ?_ (fun _ => hX) _))
  clear hwz
  have HBW := Lib.hid (HBW.out.trans ((hcz.below (B := w.heap.size) (by omega) (fun i e => by omega))))
  have hbx3 := (HX.out.keep HB2.out).chg hcz (by omega) (by omega)
  have hzz : w.heap.size + 3 ≤ wz.heap.size := by have := hcz.size; omega
  clear h0 h1 h2 h3 h4 f0 f1 f2 f3 f4 k0 k1 k2 l0 l1 l2 i0 i1 i2 i3 i4 j0 j1 j2 j3 j4 hcz
  obtain ⟨⟨h0, h1, h2, h3, h4⟩, ⟨f0, f1, f2, f3, f4⟩, ⟨k0, k1, k2⟩, ⟨l0, l1, l2⟩⟩ := hbx3
  obtain ⟨⟨i0, i1, i2, i3, i4⟩, ⟨j0, j1, j2, j3, j4⟩⟩ := hiz
  go_loopw [16, 19] (fun nx i wr => nx = .int .i64 (q : Nat) ∧ i = .int .u64 0 ∧ wr = wz) (fun _ _ _ => 0)
  case atStart => exact ⟨rfl, rfl, rfl⟩
  case round =>
    obtain ⟨rfl, rfl, rfl⟩ := hrel
    (repeat (first | go_values | go_skip | go_guarded | go_step | go_upon | (go_simp; go_at_K)))
    refine bodyPost_ret (v := .tuple #[.agg #[.int .i64 1, .int .u64 (nv : Nat), .slice none 0 0, .string ⟨#[]⟩, .slice none 0 0], .int .i64 (q : Nat), fltV 0 0]) (by simp [results, Try.results34, go_sem, *]) rfl ?_
    rw [HR.out]
    refine ⟨?_, _, rfl, ?_⟩
    case refine_2 => exact num_it _ _ 1 (by omega) nv hnv9 _ (by decide)
    (repeat' (first | with_reducible exact HBW.out | with_reducible apply Below.drew | with_reducible refine Below.alloc ?_ (by first | omega | (simp; done) | (simp; omega)) _ | with_reducible refine Below.setCell ?_ (by first | (simp; done) | (simp only []; omega)) _))

set_option maxRecDepth 100000 in
set_option maxHeartbeats 8000000 in
theorem rread_A1 (d : Nat) (hof : RReadSaid d) (a : Option Addr) (n cp : Nat) (bs : List UInt8) (p wi dp : Nat) (w : World) (h : RdB w a n bs) (hn9 : n ≤ 1000000) (hcp : n ≤ cp) (hpn : p ≤ n) (hd : dp = wi + (d + 1)) (hd9 : dp ≤ 1000) (hlen : ¬ n ≤ p) (m low : Nat) (hm : m = bAt bs p / 32) (hlw : low = bAt bs p % 32) (h27 : ¬ 27 < low) (hsh : ¬ n < p + 1 + sizeL low) (h24 : ¬ 24 ≤ low) (hmv : m = 1) :
    Calls Try.prog 34 #[.slice a n cp, .int .i64 (p : Nat), .int .i64 (wi : Nat), .int .i64 (dp : Nat)] w (RReadO w (readQ bs (d + 1) p)) := by
  obtain ⟨wa, hwa⟩ : ∃ W, W = ((w.alloc (.cells #[.int .i64 0, .int .u64 0, .slice none 0 0, .string ⟨#[]⟩, .slice none 0 0] 26)).alloc (.cells #[.int .i64 0, .int .i64 0, .slice none 0 0] 35)).alloc (.cells #[.int .i64 0, .int .u64 0, .slice none 0 0, .string ⟨#[]⟩, .slice none 0 0] 26) := ⟨_, rfl⟩
  have hba : Below w.heap.size w wa := by
    rw [hwa]
    exact (((Below.refl _ _).alloc (Nat.le_refl _) _).alloc (by simp) _).alloc (by simp; omega) _
  have hbx : RBx wa w.heap.size (w.heap.size + 1) ∧ IBx wa (w.heap.size + 2) 0 0 (.slice none 0 0) ⟨#[]⟩ (.slice none 0 0) := by rw [hwa]; exact three _ _ _
  have hz : wa.heap.size = w.heap.size + 3 := by rw [hwa]; simp
  have HX := Lib.hid hbx.1
  have HI := Lib.hid hbx.2
  have HZ := Lib.hid hz
  have HRD := Lib.hid (h.keep hba)
  have HBA := Lib.hid hba
  have HBW := Lib.hid hba
  have hbl : bs.length = n := h.1
  have hzr : 0 < wa.heap.size := by omega
  obtain ⟨R, hR⟩ : ∃ R, R = readQ bs (d + 1) p := ⟨_, rfl⟩
  rw [← hR]
  rw [readQ, hbl] at hR
  have d1 : decide ((dp : Int) ≤ (wi : Int)) = false := by simp; omega
  have d2 : decide (dp ≤ wi) = false := by simp; omega
  have wwi : IntKind.i64.wrap ((wi : Int) + 1) = ((wi + 1 : Nat) : Int) := (IntWalk.i64_in _ (by omega)).trans (by omega)
  have CRD : Hid (∀ W q, RdB W a n bs → q ≤ n → Calls Try.prog 34 #[.slice a n cp, .int .i64 (q : Nat), .int .i64 ((wi + 1 : Nat) : Int), .int .i64 (dp : Nat)] W (RReadO W (readQ bs d q))) := Lib.hid (fun W q hW hq => hof a n cp bs q (wi + 1) dp W hW hn9 hcp hq (by omega) hd9)
  obtain ⟨wj, hwj⟩ : ∃ x, x = wi + 1 := ⟨_, rfl⟩
  rw [← hwj] at wwi CRD
  clear hwj hof
  rw [if_neg hlen] at hR
  have dl : decide ((n : Int) ≤ (p : Int)) = false := by simp; omega
  have dl2 : decide (n ≤ p) = false := by simp; omega
  have hpl : p < n := by omega
  obtain ⟨b, o, rfl, hat⟩ := HRD.out.at p hpl
  have hc9 := bAt_lt bs p
  obtain ⟨c, hc⟩ : ∃ c, c = bAt bs p := ⟨_, rfl⟩
  rw [← hc] at hat hc9 hR hm hlw
  have wq : (c : Int).tdiv 32 = (m : Int) := by rw [Int.tdiv_eq_ediv_of_nonneg (by omega)]; omega
  have wr : (c : Int).tmod 32 = (low : Int) := by rw [Int.tmod_eq_emod_of_nonneg (by omega)]; omega
  have wq8 : IntKind.u8.wrap (m : Int) = (m : Int) := IntWalk.u8_in _ (by omega)
  have wr8 : IntKind.u8.wrap (low : Int) = (low : Int) := IntWalk.u8_in _ (by omega)
  have wq2 : IntKind.i64.wrap (m : Int) = (m : Int) := IntWalk.i64_in _ (by omega)
  have wr2 : IntKind.i64.wrap (low : Int) = (low : Int) := IntWalk.i64_in _ (by omega)
  have hm7 : m ≤ 7 := by omega
  rw [← hm, ← hlw] at hR
  have ip0 : (0 : Int) ≤ (p : Int) := by omega
  have ip1 : (p : Int) < (n : Int) := by omega
  clear hc hm hlw hc9 hlen
  rw [if_neg h27] at hR
  have g1 : decide ((27 : Int) < (low : Int)) = false := by simp; omega
  have g1n : decide (27 < low) = false := by simp; omega
  obtain ⟨x1, hx1⟩ : ∃ x, x = n - p := ⟨_, rfl⟩
  obtain ⟨x2, hx2⟩ : ∃ x, x = n - p - 1 := ⟨_, rfl⟩
  have wx1 : IntKind.i64.wrap ((n : Int) - (p : Int)) = (x1 : Int) := (IntWalk.i64_in _ (by omega)).trans (by omega)
  have wx2 : IntKind.i64.wrap ((x1 : Int) - 1) = (x2 : Int) := (IntWalk.i64_in _ (by omega)).trans (by omega)
  have q1 : decide ((24 : Int) ≤ (low : Int)) = false := by simp; omega
  have q1n : decide (24 ≤ low) = false := by simp; omega
  have e1 : sizeL low = 0 := if_pos (by omega)
  rw [e1] at hR hsh
  have q3 : decide ((x2 : Int) < 0) = false := by simp
  rw [if_neg hsh] at hR
  have en : numL bs p low = low := if_pos (by omega)
  obtain ⟨nv, hnv⟩ : ∃ x, x = numL bs p low := ⟨_, rfl⟩
  have wl : IntKind.u64.wrap (low : Int) = (nv : Int) := (IntWalk.u64_in _ (by omega)).trans (by omega)
  obtain ⟨q, hq⟩ : ∃ q, q = p + 1 + 0 := ⟨_, rfl⟩
  have wp1 : IntKind.i64.wrap ((p : Int) + 1) = (q : Int) := (IntWalk.i64_in _ (by omega)).trans (by omega)
  have wp2 : IntKind.i64.wrap (q : Int) = (q : Int) := IntWalk.i64_in _ (by omega)
  have hnv9 : nv < okSize := by rw [hnv, en]; unfold okSize; omega
  rw [← hq, ← hnv] at hR
  have hqn : q ≤ n := by omega
  have HND : Hid (needN nv = 0) := by show _ = _; rw [hnv, en]; unfold needN; rw [if_pos (by omega)]
  clear hsh hx1 hx2 e1 en hnv hq
  have HR : Hid (R = .ok (.mk 2 nv [] ⟨#[]⟩ .nil, q)) := by show _ = _; rw [hR]; unfold behQ; rw [if_neg (by omega), if_neg (by omega), if_neg (by omega), if_pos (by omega)]
  obtain ⟨hl2, hhl2⟩ : ∃ x, x = (headB m nv).length := ⟨_, rfl⟩
  have HLN : Hid ((headB m nv).length = hl2) := hhl2.symm
  rw [headB_len, HND.out] at hhl2
  have hln : ((hl2 : Int) != 1) = false := by simp; omega
  clear hhl2
  subst hmv
  have CH := Lib.hid (fun W => rhead_calls (1 : Nat) 1 rfl (by omega) nv hnv9 W)
  clear hR CRD h24
  obtain ⟨⟨h0, h1, h2, h3, h4⟩, ⟨f0, f1, f2, f3, f4⟩, ⟨k0, k1, k2⟩, ⟨l0, l1, l2⟩⟩ := HX.out
  obtain ⟨⟨i0, i1, i2, i3, i4⟩, ⟨j0, j1, j2, j3, j4⟩⟩ := HI.out
  clear h hba hbx hz hd hd9 hcp
  go_enter Try.func34, Try.ntmps34
  go_upto_region 2 with fail
  rw [← hwa]
  clear hwa
  go_wp2_with fail
  go_quiet (fail)
  obtain ⟨wb, hwb⟩ : ∃ W, W = wa.drewN nq := ⟨_, rfl⟩
  have hbb : Below wa.heap.size wa wb := by rw [hwb]; exact below_drewN wa nq wa.heap.size
  rw [← hwb]
  clear hwb
  have HBB := Lib.hid hbb
  have HBW := Lib.hid (HBA.out.trans (hbb.mono HBA.out.size))
  have hzb : w.heap.size + 3 ≤ wb.heap.size := by have := hbb.size; have := HZ.out; omega
  clear hbb h0 h1 h2 h3 h4 f0 f1 f2 f3 f4 k0 k1 k2 l0 l1 l2 i0 i1 i2 i3 i4 j0 j1 j2 j3 j4 hat
  obtain ⟨⟨h0, h1, h2, h3, h4⟩, ⟨f0, f1, f2, f3, f4⟩, ⟨k0, k1, k2⟩, ⟨l0, l1, l2⟩⟩ := HX.out.keep HBB.out
  obtain ⟨⟨i0, i1, i2, i3, i4⟩, ⟨j0, j1, j2, j3, j4⟩⟩ := HI.out.keep HBB.out
  go_wp2_with fail
  refine (CH.out _).mono ?_
  rintro e w2 ⟨v2, rfl, hst⟩
  obtain ⟨a2, c2, rfl, hr2⟩ := hst.1.reads
  rw [HLN.out] at hst hr2 ⊢
  have HB2 := Lib.hid (HBB.out.trans (hst.2.mono HBB.out.size))
  have HBW := Lib.hid (HBA.out.trans (HB2.out.mono HBA.out.size))
  have hzr2 : w.heap.size + 3 ≤ w2.heap.size := by have := HB2.out.size; have := HZ.out; omega
  clear h0 h1 h2 h3 h4 f0 f1 f2 f3 f4 k0 k1 k2 l0 l1 l2 i0 i1 i2 i3 i4 j0 j1 j2 j3 j4 hzb
  obtain ⟨⟨h0, h1, h2, h3, h4⟩, ⟨f0, f1, f2, f3, f4⟩, ⟨k0, k1, k2⟩, ⟨l0, l1, l2⟩⟩ := HX.out.keep HB2.out
  have HI2 := Lib.hid (HI.out.keep HB2.out)
  obtain ⟨⟨i0, i1, i2, i3, i4⟩, ⟨j0, j1, j2, j3, j4⟩⟩ := HI2.out
  have HRD2 := Lib.hid (HRD.out.keep HB2.out)
  clear hst hr2 CH HLN
  go_upto_region 48 with fail
  obtain ⟨wz, hwz⟩ : ∃ W, W = (w2.setCell ⟨w.heap.size + 2, 0, none⟩ (.int .i64 2)).setCell ⟨w.heap.size + 2, 1, none⟩ (.int .u64 (nv : Nat)) := ⟨_, rfl⟩
  rw [← hwz]
  have hiz : IBx wz (w.heap.size + 2) 2 nv (.slice none 0 0) ⟨#[]⟩ (.slice none 0 0) := by rw [hwz]; exact HI2.out.set0.set1
  have hcz : Chg (fun i => i = w.heap.size + 2) w2 wz := by
    rw [hwz]
    have hX : (fun i => i = w.heap.size + 2) (w.heap.size + 2) := rfl
    (repeat' (first | with_reducible exact Chg.refl _ _ | refine Chg.setCell ?_ (fun _ => hX) _))
  clear hwz
  have HBW := Lib.hid (HBW.out.trans ((hcz.below (B := w.heap.size) (by omega) (fun i e => by omega))))
  have hbx3 := (HX.out.keep HB2.out).chg hcz (by omega) (by omega)
  have hzz : w.heap.size + 3 ≤ wz.heap.size := by have := hcz.size; omega
  clear h0 h1 h2 h3 h4 f0 f1 f2 f3 f4 k0 k1 k2 l0 l1 l2 i0 i1 i2 i3 i4 j0 j1 j2 j3 j4 hcz
  obtain ⟨⟨h0, h1, h2, h3, h4⟩, ⟨f0, f1, f2, f3, f4⟩, ⟨k0, k1, k2⟩, ⟨l0, l1, l2⟩⟩ := hbx3
  obtain ⟨⟨i0, i1, i2, i3, i4⟩, ⟨j0, j1, j2, j3, j4⟩⟩ := hiz
  go_loopw [16, 19] (fun nx i wr => nx = .int .i64 (q : Nat) ∧ i = .int .u64 0 ∧ wr = wz) (fun _ _ _ => 0)
  case atStart => exact ⟨rfl, rfl, rfl⟩
  case round =>
    obtain ⟨rfl, rfl, rfl⟩ := hrel
    (repeat (first | go_values | go_skip | go_guarded | go_step | go_upon | (go_simp; go_at_K)))
    refine bodyPost_ret (v := .tuple #[.agg #[.int .i64 2, .int .u64 (nv : Nat), .slice none 0 0, .string ⟨#[]⟩, .slice none 0 0], .int .i64 (q : Nat), fltV 0 0]) (by simp [results, Try.results34, go_sem, *]) rfl ?_
    rw [HR.out]
    refine ⟨?_, _, rfl, ?_⟩
    case refine_2 => exact num_it _ _ 2 (by omega) nv hnv9 _ (by decide)
    (repeat' (first | with_reducible exact HBW.out | with_reducible apply Below.drew | with_reducible refine Below.alloc ?_ (by first | omega | (simp; done) | (simp; omega)) _ | with_reducible refine Below.setCell ?_ (by first | (simp; done) | (simp only []; omega)) _))

set_option maxRecDepth 100000 in
set_option maxHeartbeats 8000000 in
theorem rread_C0 (d : Nat) (hof : RReadSaid d) (a : Option Addr) (n cp : Nat) (bs : List UInt8) (p wi dp : Nat) (w : World) (h : RdB w a n bs) (hn9 : n ≤ 1000000) (hcp : n ≤ cp) (hpn : p ≤ n) (hd : dp = wi + (d + 1)) (hd9 : dp ≤ 1000) (hlen : ¬ n ≤ p) (m low : Nat) (hm : m = bAt bs p / 32) (hlw : low = bAt bs p % 32) (h27 : ¬ 27 < low) (hsh : ¬ n < p + 1 + sizeL low) (h24 : 24 ≤ low) (hmv : m = 0) (hnd : needN (numL bs p low) = wideB low) :
    Calls Try.prog 34 #[.slice a n cp, .int .i64 (p : Nat), .int .i64 (wi : Nat), .int .i64 (dp : Nat)] w (RReadO w (readQ bs (d + 1) p)) := by
  obtain ⟨wa, hwa⟩ : ∃ W, W = ((w.alloc (.cells #[.int .i64 0, .int .u64 0, .slice none 0 0, .string ⟨#[]⟩, .slice none 0 0] 26)).alloc (.cells #[.int .i64 0, .int .i64 0, .slice none 0 0] 35)).alloc (.cells #[.int .i64 0, .int .u64 0, .slice none 0 0, .string ⟨#[]⟩, .slice none 0 0] 26) := ⟨_, rfl⟩
  have hba : Below w.heap.size w wa := by
    rw [hwa]
    exact (((Below.refl _ _).alloc (Nat.le_refl _) _).alloc (by simp) _).alloc (by simp; omega) _
  have hbx : RBx wa w.heap.size (w.heap.size + 1) ∧ IBx wa (w.heap.size + 2) 0 0 (.slice none 0 0) ⟨#[]⟩ (.slice none 0 0) := by rw [hwa]; exact three _ _ _
  have hz : wa.heap.size = w.heap.size + 3 := by rw [hwa]; simp
  have HX := Lib.hid hbx.1
  have HI := Lib.hid hbx.2
  have HZ := Lib.hid hz
  have HRD := Lib.hid (h.keep hba)
  have HBA := Lib.hid hba
  have HBW := Lib.hid hba
  have hbl : bs.length = n := h.1
  have hzr : 0 < wa.heap.size := by omega
  obtain ⟨R, hR⟩ : ∃ R, R = readQ bs (d + 1) p := ⟨_, rfl⟩
  rw [← hR]
  rw [readQ, hbl] at hR
  have d1 : decide ((dp : Int) ≤ (wi : Int)) = false := by simp; omega
  have d2 : decide (dp ≤ wi) = false := by simp; omega
  have wwi : IntKind.i64.wrap ((wi : Int) + 1) = ((wi + 1 : Nat) : Int) := (IntWalk.i64_in _ (by omega)).trans (by omega)
  have CRD : Hid (∀ W q, RdB W a n bs → q ≤ n → Calls Try.prog 34 #[.slice a n cp, .int .i64 (q : Nat), .int .i64 ((wi + 1 : Nat) : Int), .int .i64 (dp : Nat)] W (RReadO W (readQ bs d q))) := Lib.hid (fun W q hW hq => hof a n cp bs q (wi + 1) dp W hW hn9 hcp hq (by omega) hd9)
  obtain ⟨wj, hwj⟩ : ∃ x, x = wi + 1 := ⟨_, rfl⟩
  rw [← hwj] at wwi CRD
  clear hwj hof
  rw [if_neg hlen] at hR
  have dl : decide ((n : Int) ≤ (p : Int)) = false := by simp; omega
  have dl2 : decide (n ≤ p) = false := by simp; omega
  have hpl : p < n := by omega
  obtain ⟨b, o, rfl, hat⟩ := HRD.out.at p hpl
  have hc9 := bAt_lt bs p
  obtain ⟨c, hc⟩ : ∃ c, c = bAt bs p := ⟨_, rfl⟩
  rw [← hc] at hat hc9 hR hm hlw
  have wq : (c : Int).tdiv 32 = (m : Int) := by rw [Int.tdiv_eq_ediv_of_nonneg (by omega)]; omega
  have wr : (c : Int).tmod 32 = (low : Int) := by rw [Int.tmod_eq_emod_of_nonneg (by omega)]; omega
  have wq8 : IntKind.u8.wrap (m : Int) = (m : Int) := IntWalk.u8_in _ (by omega)
  have wr8 : IntKind.u8.wrap (low : Int) = (low : Int) := IntWalk.u8_in _ (by omega)
  have wq2 : IntKind.i64.wrap (m : Int) = (m : Int) := IntWalk.i64_in _ (by omega)
  have wr2 : IntKind.i64.wrap (low : Int) = (low : Int) := IntWalk.i64_in _ (by omega)
  have hm7 : m ≤ 7 := by omega
  rw [← hm, ← hlw] at hR
  have ip0 : (0 : Int) ≤ (p : Int) := by omega
  have ip1 : (p : Int) < (n : Int) := by omega
  clear hc hm hlw hc9 hlen
  rw [if_neg h27] at hR
  have g1 : decide ((27 : Int) < (low : Int)) = false := by simp; omega
  have g1n : decide (27 < low) = false := by simp; omega
  obtain ⟨x1, hx1⟩ : ∃ x, x = n - p := ⟨_, rfl⟩
  obtain ⟨x2, hx2⟩ : ∃ x, x = n - p - 1 := ⟨_, rfl⟩
  have wx1 : IntKind.i64.wrap ((n : Int) - (p : Int)) = (x1 : Int) := (IntWalk.i64_in _ (by omega)).trans (by omega)
  have wx2 : IntKind.i64.wrap ((x1 : Int) - 1) = (x2 : Int) := (IntWalk.i64_in _ (by omega)).trans (by omega)
  have q1 : decide ((24 : Int) ≤ (low : Int)) = true := by simp; omega
  have q1n : decide (24 ≤ low) = true := by simp; omega
  have e1 : sizeL low = wideB low := if_neg (by omega)
  rw [e1] at hR hsh
  obtain ⟨sh, hsh2⟩ : ∃ k, k = low - 24 := ⟨_, rfl⟩
  obtain ⟨Wd, hWd⟩ : ∃ k, k = wideB low := ⟨_, rfl⟩
  have wsh : IntKind.i64.wrap ((low : Int) - 24) = (sh : Int) := (IntWalk.i64_in _ (by omega)).trans (by omega)
  have wsu : IntKind.u64.wrap (sh : Int) = (sh : Int) := IntWalk.u64_in _ (by omega)
  have hpw : (2 : Int) ^ sh = (Wd : Int) := by
    rw [hWd, hsh2]
    have : low = 24 ∨ low = 25 ∨ low = 26 ∨ low = 27 := by omega
    rcases this with rfl | rfl | rfl | rfl <;> rfl
  have hW8 : Wd ≤ 8 := by rw [hWd]; exact (wideB_le _).2
  have hW1 : 1 ≤ Wd := by rw [hWd]; exact (wideB_le _).1
  have wW : IntKind.i64.wrap (Wd : Int) = (Wd : Int) := IntWalk.i64_in _ (by omega)
  have ws4' : wrap64 (Wd : Int) = (Wd : Int) := by unfold wrap64; omega
  have ws0 : (0 : Int) ≤ (sh : Int) := by omega
  have hms : min sh 64 = sh := by omega
  have HWS : Hid (IntKind.i64.wrap (1 * 2 ^ sh) = (Wd : Int) ∧ IntKind.i64.wrap (2 ^ sh) = (Wd : Int) ∧ wrap64 (2 ^ min sh 64) = (Wd : Int)) := Lib.hid ⟨by rw [Int.one_mul, hpw]; exact wW, by rw [hpw]; exact wW, by rw [hms, hpw]; exact ws4'⟩
  clear hpw hms ws4'
  have ws3 : decide ((sh : Int) < 0) = false := by simp
  rw [← hWd] at hR hsh
  rw [if_neg hsh] at hR
  have q3 : decide ((x2 : Int) < (Wd : Int)) = false := by simp; omega
  have q3n : decide (x2 < Wd) = false := by simp; omega
  have q4 : decide ((0 : Int) < (Wd : Int)) = true := by simp; omega
  have q4n : decide (0 < Wd) = true := by simp; omega
  have en : numL bs p low = be (seg bs (p + 1) Wd) := by rw [hWd]; exact if_neg (by omega)
  have CN := Lib.hid (fun W hW => high_yes (some ⟨b, o, none⟩) n cp (p + 1) Wd W bs hW (by omega) hW1 hW8)
  rw [← en] at CN
  have hnv9 : numL bs p low < okSize := numL_lt bs p low (by omega) (by rw [e1, ← hWd, hbl]; omega)
  obtain ⟨nv, hnv⟩ : ∃ x, x = numL bs p low := ⟨_, rfl⟩
  rw [← hnv] at CN hnv9 hR hnd
  obtain ⟨p1, hp1⟩ : ∃ x, x = p + 1 := ⟨_, rfl⟩
  have wp1 : IntKind.i64.wrap ((p : Int) + 1) = (p1 : Int) := (IntWalk.i64_in _ (by omega)).trans (by omega)
  rw [← hp1] at CN hR
  obtain ⟨q, hq⟩ : ∃ q, q = p1 + Wd := ⟨_, rfl⟩
  have wp2 : IntKind.i64.wrap ((p1 : Int) + (Wd : Int)) = (q : Int) := (IntWalk.i64_in _ (by omega)).trans (by omega)
  have wlw : IntKind.u64.wrap (low : Int) = (low : Int) := IntWalk.u64_in _ (by omega)
  rw [← hq] at hR
  have hqn : q ≤ n := by omega
  have HWd := Lib.hid hWd
  have HND : Hid (needN nv = Wd) := hnd.trans HWd.out.symm
  clear hsh hx1 hx2 e1 en hnv hq hp1 hsh2 hWd
  have HR : Hid (R = .ok (.mk 1 nv [] ⟨#[]⟩ .nil, q)) := by show _ = _; rw [hR]; unfold behQ; rw [if_neg (by omega), if_neg (fun h => h.2 hnd), if_pos (by omega)]
  obtain ⟨hl2, hhl2⟩ : ∃ x, x = (headB m nv).length := ⟨_, rfl⟩
  have HLN : Hid ((headB m nv).length = hl2) := hhl2.symm
  rw [headB_len, HND.out] at hhl2
  have w1W : IntKind.i64.wrap (1 + (Wd : Int)) = (hl2 : Int) := (IntWalk.i64_in _ (by omega)).trans (by omega)
  have hln : ((hl2 : Int) != (hl2 : Int)) = false := by simp
  clear hhl2
  subst hmv
  have CH := Lib.hid (fun W => rhead_calls (0 : Nat) 0 rfl (by omega) nv hnv9 W)
  clear hR CRD h24 hnd
  obtain ⟨⟨h0, h1, h2, h3, h4⟩, ⟨f0, f1, f2, f3, f4⟩, ⟨k0, k1, k2⟩, ⟨l0, l1, l2⟩⟩ := HX.out
  obtain ⟨⟨i0, i1, i2, i3, i4⟩, ⟨j0, j1, j2, j3, j4⟩⟩ := HI.out
  clear h hba hbx hz hd hd9 hcp
  obtain ⟨ws1, ws2, ws4⟩ := HWS.out
  go_enter Try.func34, Try.ntmps34
  go_upto_region 2 with fail
  rw [← hwa]
  clear hwa
  go_wp2_with fail
  go_quiet (fail)
  obtain ⟨wb, hwb⟩ : ∃ W, W = wa.drewN nq := ⟨_, rfl⟩
  have hbb : Below wa.heap.size wa wb := by rw [hwb]; exact below_drewN wa nq wa.heap.size
  rw [← hwb]
  clear hwb
  have HBB := Lib.hid hbb
  have HBW := Lib.hid (HBA.out.trans (hbb.mono HBA.out.size))
  have hzb : w.heap.size + 3 ≤ wb.heap.size := by have := hbb.size; have := HZ.out; omega
  clear hbb h0 h1 h2 h3 h4 f0 f1 f2 f3 f4 k0 k1 k2 l0 l1 l2 i0 i1 i2 i3 i4 j0 j1 j2 j3 j4 hat
  obtain ⟨⟨h0, h1, h2, h3, h4⟩, ⟨f0, f1, f2, f3, f4⟩, ⟨k0, k1, k2⟩, ⟨l0, l1, l2⟩⟩ := HX.out.keep HBB.out
  obtain ⟨⟨i0, i1, i2, i3, i4⟩, ⟨j0, j1, j2, j3, j4⟩⟩ := HI.out.keep HBB.out
  go_wp2_with fail
  refine (CN.out wb (HRD.out.keep HBB.out)).mono ?_
  rintro e w1 ⟨rfl, rfl⟩
  go_wp2_with fail
  refine (CH.out _).mono ?_
  rintro e w2 ⟨v2, rfl, hst⟩
  obtain ⟨a2, c2, rfl, hr2⟩ := hst.1.reads
  rw [HLN.out] at hst hr2 ⊢
  have HB2 := Lib.hid (HBB.out.trans (hst.2.mono HBB.out.size))
  have HBW := Lib.hid (HBA.out.trans (HB2.out.mono HBA.out.size))
  have hzr2 : w.heap.size + 3 ≤ w2.heap.size := by have := HB2.out.size; have := HZ.out; omega
  clear h0 h1 h2 h3 h4 f0 f1 f2 f3 f4 k0 k1 k2 l0 l1 l2 i0 i1 i2 i3 i4 j0 j1 j2 j3 j4 hzb
  obtain ⟨⟨h0, h1, h2, h3, h4⟩, ⟨f0, f1, f2, f3, f4⟩, ⟨k0, k1, k2⟩, ⟨l0, l1, l2⟩⟩ := HX.out.keep HB2.out
  have HI2 := Lib.hid (HI.out.keep HB2.out)
  obtain ⟨⟨i0, i1, i2, i3, i4⟩, ⟨j0, j1, j2, j3, j4⟩⟩ := HI2.out
  have HRD2 := Lib.hid (HRD.out.keep HB2.out)
  clear hst hr2 CH HLN
  go_upto_region 48 with fail
  obtain ⟨wz, hwz⟩ : ∃ W, W = (w2.setCell ⟨w.heap.size + 2, 0, none⟩ (.int .i64 1)).setCell ⟨w.heap.size + 2, 1, none⟩ (.int .u64 (nv : Nat)) := ⟨_, rfl⟩
  rw [← hwz]
  have hiz : IBx wz (w.heap.size + 2) 1 nv (.slice none 0 0) ⟨#[]⟩ (.slice none 0 0) := by rw [hwz]; exact HI2.out.set0.set1
  have hcz : Chg (fun i => i = w.heap.size + 2) w2 wz := by
    rw [hwz]
    have hX : (fun i => i = w.heap.size + 2) (w.heap.size + 2) := rfl
    (repeat' (first | with_reducible exact Chg.refl _ _ | refine Chg.setCell ?_ (fun _ => hX) _))
  clear hwz
  have HBW := Lib.hid (HBW.out.trans ((hcz.below (B := w.heap.size) (by omega) (fun i e => by omega))))
  have hbx3 := (HX.out.keep HB2.out).chg hcz (by omega) (by omega)
  have hzz : w.heap.size + 3 ≤ wz.heap.size := by have := hcz.size; omega
  clear h0 h1 h2 h3 h4 f0 f1 f2 f3 f4 k0 k1 k2 l0 l1 l2 i0 i1 i2 i3 i4 j0 j1 j2 j3 j4 hcz
  obtain ⟨⟨h0, h1, h2, h3, h4⟩, ⟨f0, f1, f2, f3, f4⟩, ⟨k0, k1, k2⟩, ⟨l0, l1, l2⟩⟩ := hbx3
  obtain ⟨⟨i0, i1, i2, i3, i4⟩, ⟨j0, j1, j2, j3, j4⟩⟩ := hiz
  go_loopw [16, 19] (fun nx i wr => nx = .int .i64 (q : Nat) ∧ i = .int .u64 0 ∧ wr = wz) (fun _ _ _ => 0)
  case atStart => exact ⟨rfl, rfl, rfl⟩
  case round =>
    obtain ⟨rfl, rfl, rfl⟩ := hrel
    (repeat (first | go_values | go_skip | go_guarded | go_step | go_upon | (go_simp; go_at_K)))
    refine bodyPost_ret (v := .tuple #[.agg #[.int .i64 1, .int .u64 (nv : Nat), .slice none 0 0, .string ⟨#[]⟩, .slice none 0 0], .int .i64 (q : Nat), fltV 0 0]) (by simp [results, Try.results34, go_sem, *]) rfl ?_
    rw [HR.out]
    refine ⟨?_, _, rfl, ?_⟩
    case refine_2 => exact num_it _ _ 1 (by omega) nv hnv9 _ (by decide)
    (repeat' (first | with_reducible exact HBW.out | with_reducible apply Below.drew | with_reducible refine Below.alloc ?_ (by first | omega | (simp; done) | (simp; omega)) _ | with_reducible refine Below.setCell ?_ (by first | (simp; done) | (simp only []; omega)) _))

set_option maxRecDepth 100000 in
set_option maxHeartbeats 8000000 in
theorem rread_C1 (d : Nat) (hof : RReadSaid d) (a : Option Addr) (n cp : Nat) (bs : List UInt8) (p wi dp : Nat) (w : World) (h : RdB w a n bs) (hn9 : n ≤ 1000000) (hcp : n ≤ cp) (hpn : p ≤ n) (hd : dp = wi + (d + 1)) (hd9 : dp ≤ 1000) (hlen : ¬ n ≤ p) (m low : Nat) (hm : m = bAt bs p / 32) (hlw : low = bAt bs p % 32) (h27 : ¬ 27 < low) (hsh : ¬ n < p + 1 + sizeL low) (h24 : 24 ≤ low) (hmv : m = 1) (hnd : needN (numL bs p low) = wideB low) :
    Calls Try.prog 34 #[.slice a n cp, .int .i64 (p : Nat), .int .i64 (wi : Nat), .int .i64 (dp : Nat)] w (RReadO w (readQ bs (d + 1) p)) := by
  obtain ⟨wa, hwa⟩ : ∃ W, W = ((w.alloc (.cells #[.int .i64 0, .int .u64 0, .slice none 0 0, .string ⟨#[]⟩, .slice none 0 0] 26)).alloc (.cells #[.int .i64 0, .int .i64 0, .slice none 0 0] 35)).alloc (.cells #[.int .i64 0, .int .u64 0, .slice none 0 0, .string ⟨#[]⟩, .slice none 0 0] 26) := ⟨_, rfl⟩
  have hba : Below w.heap.size w wa := by
    rw [hwa]
    exact (((Below.refl _ _).alloc (Nat.le_refl _) _).alloc (by simp) _).alloc (by simp; omega) _
  have hbx : RBx wa w.heap.size (w.heap.size + 1) ∧ IBx wa (w.heap.size + 2) 0 0 (.slice none 0 0) ⟨#[]⟩ (.slice none 0 0) := by rw [hwa]; exact three _ _ _
  have hz : wa.heap.size = w.heap.size + 3 := by rw [hwa]; simp
  have HX := Lib.hid hbx.1
  have HI := Lib.hid hbx.2
  have HZ := Lib.hid hz
  have HRD := Lib.hid (h.keep hba)
  have HBA := Lib.hid hba
  have HBW := Lib.hid hba
  have hbl : bs.length = n := h.1
  have hzr : 0 < wa.heap.size := by omega
  obtain ⟨R, hR⟩ : ∃ R, R = readQ bs (d + 1) p := ⟨_, rfl⟩
  rw [← hR]
  rw [readQ, hbl] at hR
  have d1 : decide ((dp : Int) ≤ (wi : Int)) = false := by simp; omega
  have d2 : decide (dp ≤ wi) = false := by simp; omega
  have wwi : IntKind.i64.wrap ((wi : Int) + 1) = ((wi + 1 : Nat) : Int) := (IntWalk.i64_in _ (by omega)).trans (by omega)
  have CRD : Hid (∀ W q, RdB W a n bs → q ≤ n → Calls Try.prog 34 #[.slice a n cp, .int .i64 (q : Nat), .int .i64 ((wi + 1 : Nat) : Int), .int .i64 (dp : Nat)] W (RReadO W (readQ bs d q))) := Lib.hid (fun W q hW hq => hof a n cp bs q (wi + 1) dp W hW hn9 hcp hq (by omega) hd9)
  obtain ⟨wj, hwj⟩ : ∃ x, x = wi + 1 := ⟨_, rfl⟩
  rw [← hwj] at wwi CRD
  clear hwj hof
  rw [if_neg hlen] at hR
  have dl : decide ((n : Int) ≤ (p : Int)) = false := by simp; omega
  have dl2 : decide (n ≤ p) = false := by simp; omega
  have hpl : p < n := by omega
  obtain ⟨b, o, rfl, hat⟩ := HRD.out.at p hpl
  have hc9 := bAt_lt bs p
  obtain ⟨c, hc⟩ : ∃ c, c = bAt bs p := ⟨_, rfl⟩
  rw [← hc] at hat hc9 hR hm hlw
  have wq : (c : Int).tdiv 32 = (m : Int) := by rw [Int.tdiv_eq_ediv_of_nonneg (by omega)]; omega
  have wr : (c : Int).tmod 32 = (low : Int) := by rw [Int.tmod_eq_emod_of_nonneg (by omega)]; omega
  have wq8 : IntKind.u8.wrap (m : Int) = (m : Int) := IntWalk.u8_in _ (by omega)
  have wr8 : IntKind.u8.wrap (low : Int) = (low : Int) := IntWalk.u8_in _ (by omega)
  have wq2 : IntKind.i64.wrap (m : Int) = (m : Int) := IntWalk.i64_in _ (by omega)
  have wr2 : IntKind.i64.wrap (low : Int) = (low : Int) := IntWalk.i64_in _ (by omega)
  have hm7 : m ≤ 7 := by omega
  rw [← hm, ← hlw] at hR
  have ip0 : (0 : Int) ≤ (p : Int) := by omega
  have ip1 : (p : Int) < (n : Int) := by omega
  clear hc hm hlw hc9 hlen
  rw [if_neg h27] at hR
  have g1 : decide ((27 : Int) < (low : Int)) = false := by simp; omega
  have g1n : decide (27 < low) = false := by simp; omega
  obtain ⟨x1, hx1⟩ : ∃ x, x = n - p := ⟨_, rfl⟩
  obtain ⟨x2, hx2⟩ : ∃ x, x = n - p - 1 := ⟨_, rfl⟩
  have wx1 : IntKind.i64.wrap ((n : Int) - (p : Int)) = (x1 : Int) := (IntWalk.i64_in _ (by omega)).trans (by omega)
  have wx2 : IntKind.i64.wrap ((x1 : Int) - 1) = (x2 : Int) := (IntWalk.i64_in _ (by omega)).trans (by omega)
  have q1 : decide ((24 : Int) ≤ (low : Int)) = true := by simp; omega
  have q1n : decide (24 ≤ low) = true := by simp; omega
  have e1 : sizeL low = wideB low := if_neg (by omega)
  rw [e1] at hR hsh
  obtain ⟨sh, hsh2⟩ : ∃ k, k = low - 24 := ⟨_, rfl⟩
  obtain ⟨Wd, hWd⟩ : ∃ k, k = wideB low := ⟨_, rfl⟩
  have wsh : IntKind.i64.wrap ((low : Int) - 24) = (sh : Int) := (IntWalk.i64_in _ (by omega)).trans (by omega)
  have wsu : IntKind.u64.wrap (sh : Int) = (sh : Int) := IntWalk.u64_in _ (by omega)
  have hpw : (2 : Int) ^ sh = (Wd : Int) := by
    rw [hWd, hsh2]
    have : low = 24 ∨ low = 25 ∨ low = 26 ∨ low = 27 := by omega
    rcases this with rfl | rfl | rfl | rfl <;> rfl
  have hW8 : Wd ≤ 8 := by rw [hWd]; exact (wideB_le _).2
  have hW1 : 1 ≤ Wd := by rw [hWd]; exact (wideB_le _).1
  have wW : IntKind.i64.wrap (Wd : Int) = (Wd : Int) := IntWalk.i64_in _ (by omega)
  have ws4' : wrap64 (Wd : Int) = (Wd : Int) := by unfold wrap64; omega
  have ws0 : (0 : Int) ≤ (sh : Int) := by omega
  have hms : min sh 64 = sh := by omega
  have HWS : Hid (IntKind.i64.wrap (1 * 2 ^ sh) = (Wd : Int) ∧ IntKind.i64.wrap (2 ^ sh) = (Wd : Int) ∧ wrap64 (2 ^ min sh 64) = (Wd : Int)) := Lib.hid ⟨by rw [Int.one_mul, hpw]; exact wW, by rw [hpw]; exact wW, by rw [hms, hpw]; exact ws4'⟩
  clear hpw hms ws4'
  have ws3 : decide ((sh : Int) < 0) = false := by simp
  rw [← hWd] at hR hsh
  rw [if_neg hsh] at hR
  have q3 : decide ((x2 : Int) < (Wd : Int)) = false := by simp; omega
  have q3n : decide (x2 < Wd) = false := by simp; omega
  have q4 : decide ((0 : Int) < (Wd : Int)) = true := by simp; omega
  have q4n : decide (0 < Wd) = true := by simp; omega
  have en : numL bs p low = be (seg bs (p + 1) Wd) := by rw [hWd]; exact if_neg (by omega)
  have CN := Lib.hid (fun W hW => high_yes (some ⟨b, o, none⟩) n cp (p + 1) Wd W bs hW (by omega) hW1 hW8)
  rw [← en] at CN
  have hnv9 : numL bs p low < okSize := numL_lt bs p low (by omega) (by rw [e1, ← hWd, hbl]; omega)
  obtain ⟨nv, hnv⟩ : ∃ x, x = numL bs p low := ⟨_, rfl⟩
  rw [← hnv] at CN hnv9 hR hnd
  obtain ⟨p1, hp1⟩ : ∃ x, x = p + 1 := ⟨_, rfl⟩
  have wp1 : IntKind.i64.wrap ((p : Int) + 1) = (p1 : Int) := (IntWalk.i64_in _ (by omega)).trans (by omega)
  rw [← hp1] at CN hR
  obtain ⟨q, hq⟩ : ∃ q, q = p1 + Wd := ⟨_, rfl⟩
  have wp2 : IntKind.i64.wrap ((p1 : Int) + (Wd : Int)) = (q : Int) := (IntWalk.i64_in _ (by omega)).trans (by omega)
  have wlw : IntKind.u64.wrap (low : Int) = (low : Int) := IntWalk.u64_in _ (by omega)
  rw [← hq] at hR
  have hqn : q ≤ n := by omega
  have HWd := Lib.hid hWd
  have HND : Hid (needN nv = Wd) := hnd.trans HWd.out.symm
  clear hsh hx1 hx2 e1 en hnv hq hp1 hsh2 hWd
  have HR : Hid (R = .ok (.mk 2 nv [] ⟨#[]⟩ .nil, q)) := by show _ = _; rw [hR]; unfold behQ; rw [if_neg (by omega), if_neg (fun h => h.2 hnd), if_neg (by omega), if_pos (by omega)]
  obtain ⟨hl2, hhl2⟩ : ∃ x, x = (headB m nv).length := ⟨_, rfl⟩
  have HLN : Hid ((headB m nv).length = hl2) := hhl2.symm
  rw [headB_len, HND.out] at hhl2
  have w1W : IntKind.i64.wrap (1 + (Wd : Int)) = (hl2 : Int) := (IntWalk.i64_in _ (by omega)).trans (by omega)
  have hln : ((hl2 : Int) != (hl2 : Int)) = false := by simp
  clear hhl2
  subst hmv
  have CH := Lib.hid (fun W => rhead_calls (1 : Nat) 1 rfl (by omega) nv hnv9 W)
  clear hR CRD h24 hnd
  obtain ⟨⟨h0, h1, h2, h3, h4⟩, ⟨f0, f1, f2, f3, f4⟩, ⟨k0, k1, k2⟩, ⟨l0, l1, l2⟩⟩ := HX.out
  obtain ⟨⟨i0, i1, i2, i3, i4⟩, ⟨j0, j1, j2, j3, j4⟩⟩ := HI.out
  clear h hba hbx hz hd hd9 hcp
  obtain ⟨ws1, ws2, ws4⟩ := HWS.out
  go_enter Try.func34, Try.ntmps34
  go_upto_region 2 with fail
  rw [← hwa]
  clear hwa
  go_wp2_with fail
  go_quiet (fail)
  obtain ⟨wb, hwb⟩ : ∃ W, W = wa.drewN nq := ⟨_, rfl⟩
  have hbb : Below wa.heap.size wa wb := by rw [hwb]; exact below_drewN wa nq wa.heap.size
  rw [← hwb]
  clear hwb
  have HBB := Lib.hid hbb
  have HBW := Lib.hid (HBA.out.trans (hbb.mono HBA.out.size))
  have hzb : w.heap.size + 3 ≤ wb.heap.size := by have := hbb.size; have := HZ.out; omega
  clear hbb h0 h1 h2 h3 h4 f0 f1 f2 f3 f4 k0 k1 k2 l0 l1 l2 i0 i1 i2 i3 i4 j0 j1 j2 j3 j4 hat
  obtain ⟨⟨h0, h1, h2, h3, h4⟩, ⟨f0, f1, f2, f3, f4⟩, ⟨k0, k1, k2⟩, ⟨l0, l1, l2⟩⟩ := HX.out.keep HBB.out
  obtain ⟨⟨i0, i1, i2, i3, i4⟩, ⟨j0, j1, j2, j3, j4⟩⟩ := HI.out.keep HBB.out
  go_wp2_with fail
  refine (CN.out wb (HRD.out.keep HBB.out)).mono ?_
  rintro e w1 ⟨rfl, rfl⟩
  go_wp2_with fail
  refine (CH.out _).mono ?_
  rintro e w2 ⟨v2, rfl, hst⟩
  obtain ⟨a2, c2, rfl, hr2⟩ := hst.1.reads
  rw [HLN.out] at hst hr2 ⊢
  have HB2 := Lib.hid (HBB.out.trans (hst.2.mono HBB.out.size))
  have HBW := Lib.hid (HBA.out.trans (HB2.out.mono HBA.out.size))
  have hzr2 : w.heap.size + 3 ≤ w2.heap.size := by have := HB2.out.size; have := HZ.out; omega
  clear h0 h1 h2 h3 h4 f0 f1 f2 f3 f4 k0 k1 k2 l0 l1 l2 i0 i1 i2 i3 i4 j0 j1 j2 j3 j4 hzb
  obtain ⟨⟨h0, h1, h2, h3, h4⟩, ⟨f0, f1, f2, f3, f4⟩, ⟨k0, k1, k2⟩, ⟨l0, l1, l2⟩⟩ := HX.out.keep HB2.out
  have HI2 := Lib.hid (HI.out.keep HB2.out)
  obtain ⟨⟨i0, i1, i2, i3, i4⟩, ⟨j0, j1, j2, j3, j4⟩⟩ := HI2.out
  have HRD2 := Lib.hid (HRD.out.keep HB2.out)
  clear hst hr2 CH HLN
  go_upto_region 48 with fail
  obtain ⟨wz, hwz⟩ : ∃ W, W = (w2.setCell ⟨w.heap.size + 2, 0, none⟩ (.int .i64 2)).setCell ⟨w.heap.size + 2, 1, none⟩ (.int .u64 (nv : Nat)) := ⟨_, rfl⟩
  rw [← hwz]
  have hiz : IBx wz (w.heap.size + 2) 2 nv (.slice none 0 0) ⟨#[]⟩ (.slice none 0 0) := by rw [hwz]; exact HI2.out.set0.set1
  have hcz : Chg (fun i => i = w.heap.size + 2) w2 wz := by
    rw [hwz]
    have hX : (fun i => i = w.heap.size + 2) (w.heap.size + 2) := rfl
    (repeat' (first | with_reducible exact Chg.refl _ _ | refine Chg.setCell ?_ (fun _ => hX) _))
  clear hwz
  have HBW := Lib.hid (HBW.out.trans ((hcz.below (B := w.heap.size) (by omega) (fun i e => by omega))))
  have hbx3 := (HX.out.keep HB2.out).chg hcz (by omega) (by omega)
  have hzz : w.heap.size + 3 ≤ wz.heap.size := by have := hcz.size; omega
  clear h0 h1 h2 h3 h4 f0 f1 f2 f3 f4 k0 k1 k2 l0 l1 l2 i0 i1 i2 i3 i4 j0 j1 j2 j3 j4 hcz
  obtain ⟨⟨h0, h1, h2, h3, h4⟩, ⟨f0, f1, f2, f3, f4⟩, ⟨k0, k1, k2⟩, ⟨l0, l1, l2⟩⟩ := hbx3
  obtain ⟨⟨i0, i1, i2, i3, i4⟩, ⟨j0, j1, j2, j3, j4⟩⟩ := hiz
  go_loopw [16, 19] (fun nx i wr => nx = .int .i64 (q : Nat) ∧ i = .int .u64 0 ∧ wr = wz) (fun _ _ _ => 0)
  case atStart => exact ⟨rfl, rfl, rfl⟩
  case round =>
    obtain ⟨rfl, rfl, rfl⟩ := hrel
    (repeat (first | go_values | go_skip | go_guarded | go_step | go_upon | (go_simp; go_at_K)))
    refine bodyPost_ret (v := .tuple #[.agg #[.int .i64 2, .int .u64 (nv : Nat), .slice none 0 0, .string ⟨#[]⟩, .slice none 0 0], .int .i64 (q : Nat), fltV 0 0]) (by simp [results, Try.results34, go_sem, *]) rfl ?_
    rw [HR.out]
    refine ⟨?_, _, rfl, ?_⟩
    case refine_2 => exact num_it _ _ 2 (by omega) nv hnv9 _ (by decide)
    (repeat' (first | with_reducible exact HBW.out | with_reducible apply Below.drew | with_reducible refine Below.alloc ?_ (by first | omega | (simp; done) | (simp; omega)) _ | with_reducible refine Below.setCell ?_ (by first | (simp; done) | (simp only []; omega)) _))

end Go.Proofs.Ytambhapgjonmmaa
