/- The reference's read of CBOR: bytes and texts. -/
import Derived.Test.YtambhapgjonmmaaRc0
import Derived.BigQuiet
namespace Go.Proofs.Ytambhapgjonmmaa
open Go.RowKit
set_option linter.unusedVariables false
set_option linter.unusedSimpArgs false

theorem ownB_empty28 {w : World} {B g : Nat} (h : w.heap[g]? = some (.cells #[] 5 (0, 0))) (hB : B ≤ g) : OwnB w B (.slice (some ⟨g, 0, none⟩) 0 0) [] := ⟨rfl, .inr ⟨g, 0, #[], rfl, hB, h, Nat.le_refl _, by unfold maxLen; omega, rfl, rfl⟩⟩
theorem rd_seg28 {w : World} {b o n q nv : Nat} {bs : List UInt8} (h : RdB w (some ⟨b, o, none⟩) n bs) (hq : q + nv ≤ n) : RdB w (some ⟨b, o + q, none⟩) nv (seg bs q nv) := rd_take (rd_drop h q (by omega)) nv (by omega)
theorem rd_nil28 {w : World} {b o n q nv : Nat} {bs : List UInt8} (hl : bs.length = n) (hq : n ≤ q) (h0 : nv = 0) : RdB w (some ⟨b, o, none⟩) nv (seg bs q nv) := by
  subst h0
  exact RdB.nil _ _

set_option maxRecDepth 100000 in
set_option maxHeartbeats 8000000 in
theorem rread_A2s (d : Nat) (hof : RReadSaid d) (a : Option Addr) (n cp : Nat) (bs : List UInt8) (p wi dp : Nat) (w : World) (h : RdB w a n bs) (hn9 : n ≤ 1000000) (hcp : n ≤ cp) (hpn : p ≤ n) (hd : dp = wi + (d + 1)) (hd9 : dp ≤ 1000) (hlen : ¬ n ≤ p) (m low : Nat) (hm : m = bAt bs p / 32) (hlw : low = bAt bs p % 32) (h27 : ¬ 27 < low) (hsh : ¬ n < p + 1 + sizeL low) (h24 : ¬ 24 ≤ low) (hmv : m = 2) (hsr : n < p + 1 + sizeL low + numL bs p low) :
    Calls Try.prog 34 #[.slice a n cp, .int .i64 (p : Nat), .int .i64 (wi : Nat), .int .i64 (dp : Nat)] w (RReadO w (readQ bs (d + 1) p)) := by
  obtain ⟨wa, hwa⟩ : ∃ W, W = ((w.alloc (.cells #[.int .i64 0, .int .u64 0, .slice none 0 0, .string ⟨#[]⟩, .slice none 0 0] 26)).alloc (.cells #[.int .i64 0, .int .i64 0, .slice none 0 0] 35)).alloc (.cells #[.int .i64 0, .int .u64 0, .slice none 0 0, .string ⟨#[]⟩, .slice none 0 0] 26) := ⟨_, rfl⟩
  have hba : Below w.heap.size w wa := by
    rw [hwa]
    exact (((Below.refl _ _).alloc (Nat.le_refl _) _).alloc (by simp) _).alloc (by simp; omega) _
  have hbx : RBx wa w.heap.size (w.heap.size + 1) ∧ IBx wa (w.heap.size + 2) 0 0 (.slice none 0 0) ⟨#[]⟩ (.slice none 0 0) := by rw [hwa]; exact three _ _ _
  have hz : wa.heap.size = w.heap.size + 3 := by rw [hwa]; simp
  have HX := Lib.hid hbx.1
  have HI := Lib.hid hbx.2
  have HZ := Lib.hid hz
  have HRD := Lib.hid (h.keep hba)
  have HBA := Lib.hid hba
  have HBW := Lib.hid hba
  have hbl : bs.length = n := h.1
  have hzr : 0 < wa.heap.size := by omega
  obtain ⟨R, hR⟩ : ∃ R, R = readQ bs (d + 1) p := ⟨_, rfl⟩
  rw [← hR]
  rw [readQ, hbl] at hR
  have d1 : decide ((dp : Int) ≤ (wi : Int)) = false := by simp; omega
  have d2 : decide (dp ≤ wi) = false := by simp; omega
  have wwi : IntKind.i64.wrap ((wi : Int) + 1) = ((wi + 1 : Nat) : Int) := (IntWalk.i64_in _ (by omega)).trans (by omega)
  have CRD : Hid (∀ W q, RdB W a n bs → q ≤ n → Calls Try.prog 34 #[.slice a n cp, .int .i64 (q : Nat), .int .i64 ((wi + 1 : Nat) : Int), .int .i64 (dp : Nat)] W (RReadO W (readQ bs d q))) := Lib.hid (fun W q hW hq => hof a n cp bs q (wi + 1) dp W hW hn9 hcp hq (by omega) hd9)
  obtain ⟨wj, hwj⟩ : ∃ x, x = wi + 1 := ⟨_, rfl⟩
  rw [← hwj] at wwi CRD
  clear hwj hof
  rw [if_neg hlen] at hR
  have dl : decide ((n : Int) ≤ (p : Int)) = false := by simp; omega
  have dl2 : decide (n ≤ p) = false := by simp; omega
  have hpl : p < n := by omega
  obtain ⟨b, o, rfl, hat⟩ := HRD.out.at p hpl
  have hc9 := bAt_lt bs p
  obtain ⟨c, hc⟩ : ∃ c, c = bAt bs p := ⟨_, rfl⟩
  rw [← hc] at hat hc9 hR hm hlw
  have wq : (c : Int).tdiv 32 = (m : Int) := by rw [Int.tdiv_eq_ediv_of_nonneg (by omega)]; omega
  have wr : (c : Int).tmod 32 = (low : Int) := by rw [Int.tmod_eq_emod_of_nonneg (by omega)]; omega
  have wq8 : IntKind.u8.wrap (m : Int) = (m : Int) := IntWalk.u8_in _ (by omega)
  have wr8 : IntKind.u8.wrap (low : Int) = (low : Int) := IntWalk.u8_in _ (by omega)
  have wq2 : IntKind.i64.wrap (m : Int) = (m : Int) := IntWalk.i64_in _ (by omega)
  have wr2 : IntKind.i64.wrap (low : Int) = (low : Int) := IntWalk.i64_in _ (by omega)
  have hm7 : m ≤ 7 := by omega
  rw [← hm, ← hlw] at hR
  have ip0 : (0 : Int) ≤ (p : Int) := by omega
  have ip1 : (p : Int) < (n : Int) := by omega
  clear hc hm hlw hc9 hlen
  rw [if_neg h27] at hR
  have g1 : decide ((27 : Int) < (low : Int)) = false := by simp; omega
  have g1n : decide (27 < low) = false := by simp; omega
  obtain ⟨x1, hx1⟩ : ∃ x, x = n - p := ⟨_, rfl⟩
  obtain ⟨x2, hx2⟩ : ∃ x, x = n - p - 1 := ⟨_, rfl⟩
  have wx1 : IntKind.i64.wrap ((n : Int) - (p : Int)) = (x1 : Int) := (IntWalk.i64_in _ (by omega)).trans (by omega)
  have wx2 : IntKind.i64.wrap ((x1 : Int) - 1) = (x2 : Int) := (IntWalk.i64_in _ (by omega)).trans (by omega)
  have q1 : decide ((24 : Int) ≤ (low : Int)) = false := by simp; omega
  have q1n : decide (24 ≤ low) = false := by simp; omega
  have e1 : sizeL low = 0 := if_pos (by omega)
  rw [e1] at hR hsh hsr
  have q3 : decide ((x2 : Int) < 0) = false := by simp
  rw [if_neg hsh] at hR
  have en : numL bs p low = low := if_pos (by omega)
  obtain ⟨nv, hnv⟩ : ∃ x, x = numL bs p low := ⟨_, rfl⟩
  have wl : IntKind.u64.wrap (low : Int) = (nv : Int) := (IntWalk.u64_in _ (by omega)).trans (by omega)
  obtain ⟨q, hq⟩ : ∃ q, q = p + 1 + 0 := ⟨_, rfl⟩
  have wp1 : IntKind.i64.wrap ((p : Int) + 1) = (q : Int) := (IntWalk.i64_in _ (by omega)).trans (by omega)
  have wp2 : IntKind.i64.wrap (q : Int) = (q : Int) := IntWalk.i64_in _ (by omega)
  have hnv9 : nv < okSize := by rw [hnv, en]; unfold okSize; omega
  rw [← hq, ← hnv] at hR hsr
  have hqn : q ≤ n := by omega
  have HND : Hid (needN nv = 0) := by show _ = _; rw [hnv, en]; unfold needN; rw [if_pos (by omega)]
  clear hsh hx1 hx2 e1 en hnv hq
  have HR : Hid (R = .error (2, p)) := by show _ = _; rw [hR]; unfold behQ; rw [if_neg (by omega), if_neg (by omega), if_neg (by omega), if_neg (by omega), if_pos (by omega)]; unfold rowQ; rw [hbl, if_pos hsr]
  obtain ⟨Lf, hLf⟩ : ∃ L, L = n - q := ⟨_, rfl⟩
  have wl1 : IntKind.i64.wrap ((n : Int) - (q : Int)) = (Lf : Int) := (IntWalk.i64_in _ (by omega)).trans (by omega)
  have wl2 : IntKind.u64.wrap (Lf : Int) = (Lf : Int) := IntWalk.u64_in _ (by omega)
  have g5 : decide ((Lf : Int) < (nv : Int)) = true := by simp; omega
  have g5n : decide (Lf < nv) = true := by simp; omega
  obtain ⟨hl2, hhl2⟩ : ∃ x, x = (headB m nv).length := ⟨_, rfl⟩
  have HLN : Hid ((headB m nv).length = hl2) := hhl2.symm
  rw [headB_len, HND.out] at hhl2
  have hln : ((hl2 : Int) != 1) = false := by simp; omega
  clear hhl2
  subst hmv
  have CH := Lib.hid (fun W => rhead_calls (2 : Nat) 2 rfl (by omega) nv hnv9 W)
  clear hR hLf hsr CRD h24
  obtain ⟨⟨h0, h1, h2, h3, h4⟩, ⟨f0, f1, f2, f3, f4⟩, ⟨k0, k1, k2⟩, ⟨l0, l1, l2⟩⟩ := HX.out
  obtain ⟨⟨i0, i1, i2, i3, i4⟩, ⟨j0, j1, j2, j3, j4⟩⟩ := HI.out
  clear h hba hbx hz hd hd9 hcp
  go_enter Try.func34, Try.ntmps34
  go_upto_region 2 with fail
  rw [← hwa]
  clear hwa
  go_wp2_with fail
  go_quiet (fail)
  obtain ⟨wb, hwb⟩ : ∃ W, W = wa.drewN nq := ⟨_, rfl⟩
  have hbb : Below wa.heap.size wa wb := by rw [hwb]; exact below_drewN wa nq wa.heap.size
  rw [← hwb]
  clear hwb
  have HBB := Lib.hid hbb
  have HBW := Lib.hid (HBA.out.trans (hbb.mono HBA.out.size))
  have hzb : w.heap.size + 3 ≤ wb.heap.size := by have := hbb.size; have := HZ.out; omega
  clear hbb h0 h1 h2 h3 h4 f0 f1 f2 f3 f4 k0 k1 k2 l0 l1 l2 i0 i1 i2 i3 i4 j0 j1 j2 j3 j4 hat
  obtain ⟨⟨h0, h1, h2, h3, h4⟩, ⟨f0, f1, f2, f3, f4⟩, ⟨k0, k1, k2⟩, ⟨l0, l1, l2⟩⟩ := HX.out.keep HBB.out
  obtain ⟨⟨i0, i1, i2, i3, i4⟩, ⟨j0, j1, j2, j3, j4⟩⟩ := HI.out.keep HBB.out
  go_wp2_with fail
  refine (CH.out _).mono ?_
  rintro e w2 ⟨v2, rfl, hst⟩
  obtain ⟨a2, c2, rfl, hr2⟩ := hst.1.reads
  rw [HLN.out] at hst hr2 ⊢
  have HB2 := Lib.hid (HBB.out.trans (hst.2.mono HBB.out.size))
  have HBW := Lib.hid (HBA.out.trans (HB2.out.mono HBA.out.size))
  have hzr2 : w.heap.size + 3 ≤ w2.heap.size := by have := HB2.out.size; have := HZ.out; omega
  clear h0 h1 h2 h3 h4 f0 f1 f2 f3 f4 k0 k1 k2 l0 l1 l2 i0 i1 i2 i3 i4 j0 j1 j2 j3 j4 hzb
  obtain ⟨⟨h0, h1, h2, h3, h4⟩, ⟨f0, f1, f2, f3, f4⟩, ⟨k0, k1, k2⟩, ⟨l0, l1, l2⟩⟩ := HX.out.keep HB2.out
  have HI2 := Lib.hid (HI.out.keep HB2.out)
  obtain ⟨⟨i0, i1, i2, i3, i4⟩, ⟨j0, j1, j2, j3, j4⟩⟩ := HI2.out
  have HRD2 := Lib.hid (HRD.out.keep HB2.out)
  clear hst hr2 CH HLN
  (repeat (first | go_values | go_skip | go_guarded | go_step | go_upon | (go_simp; go_at_K)))
  refine bodyPost_ret (v := .tuple #[zIt, .int .i64 0, fltV 2 p]) (by simp [results, Try.results34, go_sem, *]) rfl ?_
  rw [HR.out]
  refine rread_err ?_
  (repeat' (first | with_reducible exact HBW.out | with_reducible apply Below.drew | with_reducible refine Below.alloc ?_ (by first | omega | (simp; done) | (simp; omega)) _ | with_reducible refine Below.setCell ?_ (by first | (simp; done) | (simp only []; omega)) _))

set_option maxRecDepth 100000 in
set_option maxHeartbeats 8000000 in
theorem rread_A2 (d : Nat) (hof : RReadSaid d) (a : Option Addr) (n cp : Nat) (bs : List UInt8) (p wi dp : Nat) (w : World) (h : RdB w a n bs) (hn9 : n ≤ 1000000) (hcp : n ≤ cp) (hpn : p ≤ n) (hd : dp = wi + (d + 1)) (hd9 : dp ≤ 1000) (hlen : ¬ n ≤ p) (m low : Nat) (hm : m = bAt bs p / 32) (hlw : low = bAt bs p % 32) (h27 : ¬ 27 < low) (hsh : ¬ n < p + 1 + sizeL low) (h24 : ¬ 24 ≤ low) (hmv : m = 2) (hsr : ¬ n < p + 1 + sizeL low + numL bs p low) (hcq : ¬ cp = p + 1 + sizeL low) :
    Calls Try.prog 34 #[.slice a n cp, .int .i64 (p : Nat), .int .i64 (wi : Nat), .int .i64 (dp : Nat)] w (RReadO w (readQ bs (d + 1) p)) := by
  obtain ⟨wa, hwa⟩ : ∃ W, W = ((w.alloc (.cells #[.int .i64 0, .int .u64 0, .slice none 0 0, .string ⟨#[]⟩, .slice none 0 0] 26)).alloc (.cells #[.int .i64 0, .int .i64 0, .slice none 0 0] 35)).alloc (.cells #[.int .i64 0, .int .u64 0, .slice none 0 0, .string ⟨#[]⟩, .slice none 0 0] 26) := ⟨_, rfl⟩
  have hba : Below w.heap.size w wa := by
    rw [hwa]
    exact (((Below.refl _ _).alloc (Nat.le_refl _) _).alloc (by simp) _).alloc (by simp; omega) _
  have hbx : RBx wa w.heap.size (w.heap.size + 1) ∧ IBx wa (w.heap.size + 2) 0 0 (.slice none 0 0) ⟨#[]⟩ (.slice none 0 0) := by rw [hwa]; exact three _ _ _
  have hz : wa.heap.size = w.heap.size + 3 := by rw [hwa]; simp
  have HX := Lib.hid hbx.1
  have HI := Lib.hid hbx.2
  have HZ := Lib.hid hz
  have HRD := Lib.hid (h.keep hba)
  have HBA := Lib.hid hba
  have HBW := Lib.hid hba
  have hbl : bs.length = n := h.1
  have hzr : 0 < wa.heap.size := by omega
  obtain ⟨R, hR⟩ : ∃ R, R = readQ bs (d + 1) p := ⟨_, rfl⟩
  rw [← hR]
  rw [readQ, hbl] at hR
  have d1 : decide ((dp : Int) ≤ (wi : Int)) = false := by simp; omega
  have d2 : decide (dp ≤ wi) = false := by simp; omega
  have wwi : IntKind.i64.wrap ((wi : Int) + 1) = ((wi + 1 : Nat) : Int) := (IntWalk.i64_in _ (by omega)).trans (by omega)
  have CRD : Hid (∀ W q, RdB W a n bs → q ≤ n → Calls Try.prog 34 #[.slice a n cp, .int .i64 (q : Nat), .int .i64 ((wi + 1 : Nat) : Int), .int .i64 (dp : Nat)] W (RReadO W (readQ bs d q))) := Lib.hid (fun W q hW hq => hof a n cp bs q (wi + 1) dp W hW hn9 hcp hq (by omega) hd9)
  obtain ⟨wj, hwj⟩ : ∃ x, x = wi + 1 := ⟨_, rfl⟩
  rw [← hwj] at wwi CRD
  clear hwj hof
  have h0b := Lib.hid h
  rw [if_neg hlen] at hR
  have dl : decide ((n : Int) ≤ (p : Int)) = false := by simp; omega
  have dl2 : decide (n ≤ p) = false := by simp; omega
  have hpl : p < n := by omega
  obtain ⟨b, o, rfl, hat⟩ := HRD.out.at p hpl
  have hc9 := bAt_lt bs p
  obtain ⟨c, hc⟩ : ∃ c, c = bAt bs p := ⟨_, rfl⟩
  rw [← hc] at hat hc9 hR hm hlw
  have wq : (c : Int).tdiv 32 = (m : Int) := by rw [Int.tdiv_eq_ediv_of_nonneg (by omega)]; omega
  have wr : (c : Int).tmod 32 = (low : Int) := by rw [Int.tmod_eq_emod_of_nonneg (by omega)]; omega
  have wq8 : IntKind.u8.wrap (m : Int) = (m : Int) := IntWalk.u8_in _ (by omega)
  have wr8 : IntKind.u8.wrap (low : Int) = (low : Int) := IntWalk.u8_in _ (by omega)
  have wq2 : IntKind.i64.wrap (m : Int) = (m : Int) := IntWalk.i64_in _ (by omega)
  have wr2 : IntKind.i64.wrap (low : Int) = (low : Int) := IntWalk.i64_in _ (by omega)
  have hm7 : m ≤ 7 := by omega
  rw [← hm, ← hlw] at hR
  have ip0 : (0 : Int) ≤ (p : Int) := by omega
  have ip1 : (p : Int) < (n : Int) := by omega
  clear hc hm hlw hc9 hlen
  rw [if_neg h27] at hR
  have g1 : decide ((27 : Int) < (low : Int)) = false := by simp; omega
  have g1n : decide (27 < low) = false := by simp; omega
  obtain ⟨x1, hx1⟩ : ∃ x, x = n - p := ⟨_, rfl⟩
  obtain ⟨x2, hx2⟩ : ∃ x, x = n - p - 1 := ⟨_, rfl⟩
  have wx1 : IntKind.i64.wrap ((n : Int) - (p : Int)) = (x1 : Int) := (IntWalk.i64_in _ (by omega)).trans (by omega)
  have wx2 : IntKind.i64.wrap ((x1 : Int) - 1) = (x2 : Int) := (IntWalk.i64_in _ (by omega)).trans (by omega)
  have q1 : decide ((24 : Int) ≤ (low : Int)) = false := by simp; omega
  have q1n : decide (24 ≤ low) = false := by simp; omega
  have e1 : sizeL low = 0 := if_pos (by omega)
  rw [e1] at hR hsh hsr hcq
  have q3 : decide ((x2 : Int) < 0) = false := by simp
  rw [if_neg hsh] at hR
  have en : numL bs p low = low := if_pos (by omega)
  obtain ⟨nv, hnv⟩ : ∃ x, x = numL bs p low := ⟨_, rfl⟩
  have wl : IntKind.u64.wrap (low : Int) = (nv : Int) := (IntWalk.u64_in _ (by omega)).trans (by omega)
  obtain ⟨q, hq⟩ : ∃ q, q = p + 1 + 0 := ⟨_, rfl⟩
  have wp1 : IntKind.i64.wrap ((p : Int) + 1) = (q : Int) := (IntWalk.i64_in _ (by omega)).trans (by omega)
  have wp2 : IntKind.i64.wrap (q : Int) = (q : Int) := IntWalk.i64_in _ (by omega)
  have hnv9 : nv < okSize := by rw [hnv, en]; unfold okSize; omega
  rw [← hq, ← hnv] at hR hsr
  rw [← hq] at hcq
  have hqn : q ≤ n := by omega
  have HND : Hid (needN nv = 0) := by show _ = _; rw [hnv, en]; unfold needN; rw [if_pos (by omega)]
  clear hsh hx1 hx2 e1 en hnv hq
  obtain ⟨Lf, hLf⟩ : ∃ L, L = n - q := ⟨_, rfl⟩
  have wl1 : IntKind.i64.wrap ((n : Int) - (q : Int)) = (Lf : Int) := (IntWalk.i64_in _ (by omega)).trans (by omega)
  have wl2 : IntKind.u64.wrap (Lf : Int) = (Lf : Int) := IntWalk.u64_in _ (by omega)
  have hle : q + nv ≤ n := by omega
  have g5 : decide ((Lf : Int) < (nv : Int)) = false := by simp; omega
  have g5n : decide (Lf < nv) = false := by simp; omega
  have wn : IntKind.i64.wrap (nv : Int) = (nv : Int) := IntWalk.i64_in _ (by omega)
  obtain ⟨E, hE⟩ : ∃ x, x = q + nv := ⟨_, rfl⟩
  have wE : IntKind.i64.wrap ((q : Int) + (nv : Int)) = (E : Int) := (IntWalk.i64_in _ (by omega)).trans (by omega)
  have r1 : (0 : Int) ≤ (q : Int) := by omega
  have r2 : (q : Int) ≤ (E : Int) := by omega
  have r3 : (E : Int) ≤ (cp : Int) := by omega
  obtain ⟨S, hS⟩ : ∃ S, S = seg bs q nv := ⟨_, rfl⟩
  have HLS : Hid (S.length = nv) := by show _ = _; rw [hS]; exact seg_length _ _ _ (by rw [hbl]; omega)
  have hnv6 : nv ≤ 1000000 := by omega
  have hEq : E - q = nv := by omega
  have r4 : ¬ cp = q := by omega
  have r5 : ¬ q = cp := by omega
  have HSE : Hid (∀ W, RdB W (some ⟨b, o, none⟩) n bs → RdB W (some ⟨b, o + q, none⟩) (E - q) S) := Lib.hid (fun W h => by rw [hS, hEq]; exact rd_seg28 h hle)
  have HR : Hid (R = .ok (.mk 3 0 S ⟨#[]⟩ .nil, E)) := by show _ = _; rw [hR]; unfold behQ; rw [if_neg (by omega), if_neg (by omega), if_neg (by omega), if_neg (by omega), if_pos (by omega)]; unfold rowQ; rw [hbl, if_neg hsr, if_pos hmv, ← hS, ← hE]
  obtain ⟨hl2, hhl2⟩ : ∃ x, x = (headB m nv).length := ⟨_, rfl⟩
  have HLN : Hid ((headB m nv).length = hl2) := hhl2.symm
  rw [headB_len, HND.out] at hhl2
  have hln : ((hl2 : Int) != 1) = false := by simp; omega
  clear hhl2
  subst hmv
  have CH := Lib.hid (fun W => rhead_calls (2 : Nat) 2 rfl (by omega) nv hnv9 W)
  clear hS hE hEq hle hsr hLf
  clear hR CRD h24
  obtain ⟨⟨h0, h1, h2, h3, h4⟩, ⟨f0, f1, f2, f3, f4⟩, ⟨k0, k1, k2⟩, ⟨l0, l1, l2⟩⟩ := HX.out
  obtain ⟨⟨i0, i1, i2, i3, i4⟩, ⟨j0, j1, j2, j3, j4⟩⟩ := HI.out
  clear h hba hbx hz hd hd9 hcp
  clear hcq
  go_enter Try.func34, Try.ntmps34
  go_upto_region 2 with fail
  rw [← hwa]
  clear hwa
  go_wp2_with fail
  go_quiet (fail)
  obtain ⟨wb, hwb⟩ : ∃ W, W = wa.drewN nq := ⟨_, rfl⟩
  have hbb : Below wa.heap.size wa wb := by rw [hwb]; exact below_drewN wa nq wa.heap.size
  rw [← hwb]
  clear hwb
  have HBB := Lib.hid hbb
  have HBW := Lib.hid (HBA.out.trans (hbb.mono HBA.out.size))
  have hzb : w.heap.size + 3 ≤ wb.heap.size := by have := hbb.size; have := HZ.out; omega
  clear hbb h0 h1 h2 h3 h4 f0 f1 f2 f3 f4 k0 k1 k2 l0 l1 l2 i0 i1 i2 i3 i4 j0 j1 j2 j3 j4 hat
  obtain ⟨⟨h0, h1, h2, h3, h4⟩, ⟨f0, f1, f2, f3, f4⟩, ⟨k0, k1, k2⟩, ⟨l0, l1, l2⟩⟩ := HX.out.keep HBB.out
  obtain ⟨⟨i0, i1, i2, i3, i4⟩, ⟨j0, j1, j2, j3, j4⟩⟩ := HI.out.keep HBB.out
  go_wp2_with fail
  refine (CH.out _).mono ?_
  rintro e w2 ⟨v2, rfl, hst⟩
  obtain ⟨a2, c2, rfl, hr2⟩ := hst.1.reads
  rw [HLN.out] at hst hr2 ⊢
  have HB2 := Lib.hid (HBB.out.trans (hst.2.mono HBB.out.size))
  have HBW := Lib.hid (HBA.out.trans (HB2.out.mono HBA.out.size))
  have hzr2 : w.heap.size + 3 ≤ w2.heap.size := by have := HB2.out.size; have := HZ.out; omega
  clear h0 h1 h2 h3 h4 f0 f1 f2 f3 f4 k0 k1 k2 l0 l1 l2 i0 i1 i2 i3 i4 j0 j1 j2 j3 j4 hzb
  obtain ⟨⟨h0, h1, h2, h3, h4⟩, ⟨f0, f1, f2, f3, f4⟩, ⟨k0, k1, k2⟩, ⟨l0, l1, l2⟩⟩ := HX.out.keep HB2.out
  have HI2 := Lib.hid (HI.out.keep HB2.out)
  obtain ⟨⟨i0, i1, i2, i3, i4⟩, ⟨j0, j1, j2, j3, j4⟩⟩ := HI2.out
  have HRD2 := Lib.hid (HRD.out.keep HB2.out)
  clear hst hr2 CH HLN
  go_upto_region 40 with fail
  obtain ⟨wy, hwy⟩ : ∃ W, W = w2.setCell ⟨w.heap.size + 2, 0, none⟩ (.int .i64 3) := ⟨_, rfl⟩
  rw [← hwy]
  have hiy : IBx wy (w.heap.size + 2) 3 0 (.slice none 0 0) ⟨#[]⟩ (.slice none 0 0) := by rw [hwy]; exact HI2.out.set0
  have hcy : Chg (fun i => i = w.heap.size + 2) w2 wy := by
    rw [hwy]
    have hX : (fun i => i = w.heap.size + 2) (w.heap.size + 2) := rfl
    exact Chg.setCell (Chg.refl _ _) (fun _ => hX) _
  clear hwy
  have hb9 : b < w.heap.size := by
    obtain ⟨bb, oo, e, hcc⟩ := h0b.out.at p hpl
    obtain ⟨rfl, -⟩ : bb = b ∧ oo = o := by simpa using (Option.some.inj e).symm
    simpa using cell_block hcc
  have hry : RdB wy (some ⟨b, o, none⟩) n bs := HRD2.out.chg hcy (fun x hx e => by rw [← Option.some.inj hx] at e; have e' : b = w.heap.size + 2 := e; omega)
  have HSY := Lib.hid (HSE.out wy hry)
  have HIY := Lib.hid hiy
  have HBY := Lib.hid (HBW.out.trans ((hcy.below (B := w.heap.size) (by omega) (fun i e => by omega))))
  have HXY := Lib.hid ((HX.out.keep HB2.out).chg hcy (by omega) (by omega))
  have hzy : w.heap.size + 3 ≤ wy.heap.size := by have := hcy.size; omega
  clear hcy hry hiy h0 h1 h2 h3 h4 f0 f1 f2 f3 f4 k0 k1 k2 l0 l1 l2 i0 i1 i2 i3 i4 j0 j1 j2 j3 j4 HI2 HB2 HX hb9
  obtain ⟨⟨i0, i1, i2, i3, i4⟩, ⟨j0, j1, j2, j3, j4⟩⟩ := HIY.out
  have HE : Hid (OwnB (wy.alloc (.cells #[] 5)) wy.heap.size (.slice (some ⟨wy.heap.size, 0, none⟩) 0 0) []) := ownB_empty28 (heap_alloc_new wy _) (Nat.le_refl _)
  have HSS : Hid (SrcB (wy.alloc (.cells #[] 5)) (.slice (some ⟨b, o + q, none⟩) (E - q) (cp - q)) S) := Lib.hid ⟨_, _, _, rfl, HSY.out.keep ((Below.refl _ _).alloc (Nat.le_refl _) _), by simp⟩
  go_wp2_with (at_builtin; refine wpList_appB (v := .slice (some ⟨wy.heap.size, 0, none⟩) 0 0) (bs := []) (sv := .slice (some ⟨b, o + q, none⟩) (E - q) (cp - q)) (l := S) (B := wy.heap.size) (by rfl) _ _ (by rfl) (by rfl) HE.out (by rfl) HSS.out ?o2 ?o3 ?_)
  case o2 => have := HLS.out; simp only [List.length_nil]; omega
  case o3 => simp
  intro v4 w4 ho4 ha4
  have hb4 : Below wy.heap.size wy w4 := ha4.below ((Below.refl _ _).alloc (Nat.le_refl _) _) (by simp) (fun i hi => by have : wy.heap.size = i := Option.some.inj hi; omega)
  obtain ⟨a4, c4, rfl, -⟩ := ho4.reads
  rw [HLS.out] at ho4 ⊢
  have HO4 := Lib.hid ho4
  clear ho4 ha4
  have HBW := Lib.hid (HBY.out.trans (hb4.mono HBY.out.size))
  have HIV := Lib.hid (HIY.out.keep hb4)
  have HXV := Lib.hid (HXY.out.keep hb4)
  have hzv : w.heap.size + 3 ≤ w4.heap.size := by have := hb4.size; omega
  clear i0 i1 i2 i3 i4 j0 j1 j2 j3 j4 hb4
  obtain ⟨⟨i0, i1, i2, i3, i4⟩, ⟨j0, j1, j2, j3, j4⟩⟩ := HIV.out
  go_upto_region 48 with fail
  obtain ⟨wz, hwz⟩ : ∃ W, W = w4.setCell ⟨w.heap.size + 2, 2, none⟩ (.slice a4 nv c4) := ⟨_, rfl⟩
  rw [← hwz]
  have hiz : IBx wz (w.heap.size + 2) 3 0 (.slice a4 nv c4) ⟨#[]⟩ (.slice none 0 0) := by rw [hwz]; exact HIV.out.set2
  have hcz : Chg (fun i => i = w.heap.size + 2) w4 wz := by
    rw [hwz]
    have hX : (fun i => i = w.heap.size + 2) (w.heap.size + 2) := rfl
    exact Chg.setCell (Chg.refl _ _) (fun _ => hX) _
  clear hwz
  have HBW := Lib.hid (HBW.out.trans ((hcz.below (B := w.heap.size) (by omega) (fun i e => by omega))))
  have hbx3 := HXV.out.chg hcz (by omega) (by omega)
  have hzz : w.heap.size + 3 ≤ wz.heap.size := by have := hcz.size; omega
  have HCZ := Lib.hid hcz
  clear i0 i1 i2 i3 i4 j0 j1 j2 j3 j4 hcz
  obtain ⟨⟨h0, h1, h2, h3, h4⟩, ⟨f0, f1, f2, f3, f4⟩, ⟨k0, k1, k2⟩, ⟨l0, l1, l2⟩⟩ := hbx3
  obtain ⟨⟨i0, i1, i2, i3, i4⟩, ⟨j0, j1, j2, j3, j4⟩⟩ := hiz
  go_loopw [16, 19] (fun nx i wr => nx = .int .i64 (E : Nat) ∧ i = .int .u64 0 ∧ wr = wz) (fun _ _ _ => 0)
  case atStart => exact ⟨rfl, rfl, rfl⟩
  case round =>
    obtain ⟨rfl, rfl, rfl⟩ := hrel
    (repeat (first | go_values | go_skip | go_guarded | go_step | go_upon | (go_simp; go_at_K)))
    refine bodyPost_ret (v := .tuple #[.agg #[.int .i64 3, .int .u64 0, .slice a4 nv c4, .string ⟨#[]⟩, .slice none 0 0], .int .i64 (E : Nat), fltV 0 0]) (by simp [results, Try.results34, go_sem, *]) rfl ?_
    rw [HR.out]
    refine ⟨?_, _, rfl, ?_⟩
    case refine_2 =>
      have ho5 : OwnB wr (w.heap.size + 3) (.slice a4 nv c4) S := (HO4.out.chg HCZ.out (fun i hi e => by have h1 := (owns_lt HO4.out i hi).1; have e' : i = w.heap.size + 2 := e; omega)).weaken (by omega)
      refine ((bytes_it ho5 hnv6).keep (KeepS.chg (X := fun i => i = w.heap.size ∨ i = w.heap.size + 1) ?_ (fun k hk e => by omega))).imp (fun k _ h => by omega)
      (repeat' (first | with_reducible exact Chg.refl _ _ | with_reducible apply Chg.drew | with_reducible refine Chg.setCell ?_ (fun h => ?_) _))
      all_goals (dsimp only; omega)
    (repeat' (first | with_reducible exact HBW.out | with_reducible apply Below.drew | with_reducible refine Below.alloc ?_ (by first | omega | (simp; done) | (simp; omega)) _ | with_reducible refine Below.setCell ?_ (by first | (simp; done) | (simp only []; omega)) _))

set_option maxRecDepth 100000 in
set_option maxHeartbeats 8000000 in
theorem rread_A2q (d : Nat) (hof : RReadSaid d) (a : Option Addr) (n cp : Nat) (bs : List UInt8) (p wi dp : Nat) (w : World) (h : RdB w a n bs) (hn9 : n ≤ 1000000) (hcp : n ≤ cp) (hpn : p ≤ n) (hd : dp = wi + (d + 1)) (hd9 : dp ≤ 1000) (hlen : ¬ n ≤ p) (m low : Nat) (hm : m = bAt bs p / 32) (hlw : low = bAt bs p % 32) (h27 : ¬ 27 < low) (hsh : ¬ n < p + 1 + sizeL low) (h24 : ¬ 24 ≤ low) (hmv : m = 2) (hsr : ¬ n < p + 1 + sizeL low + numL bs p low) (hcq : cp = p + 1 + sizeL low) :
    Calls Try.prog 34 #[.slice a n cp, .int .i64 (p : Nat), .int .i64 (wi : Nat), .int .i64 (dp : Nat)] w (RReadO w (readQ bs (d + 1) p)) := by
  obtain ⟨wa, hwa⟩ : ∃ W, W = ((w.alloc (.cells #[.int .i64 0, .int .u64 0, .slice none 0 0, .string ⟨#[]⟩, .slice none 0 0] 26)).alloc (.cells #[.int .i64 0, .int .i64 0, .slice none 0 0] 35)).alloc (.cells #[.int .i64 0, .int .u64 0, .slice none 0 0, .string ⟨#[]⟩, .slice none 0 0] 26) := ⟨_, rfl⟩
  have hba : Below w.heap.size w wa := by
    rw [hwa]
    exact (((Below.refl _ _).alloc (Nat.le_refl _) _).alloc (by simp) _).alloc (by simp; omega) _
  have hbx : RBx wa w.heap.size (w.heap.size + 1) ∧ IBx wa (w.heap.size + 2) 0 0 (.slice none 0 0) ⟨#[]⟩ (.slice none 0 0) := by rw [hwa]; exact three _ _ _
  have hz : wa.heap.size = w.heap.size + 3 := by rw [hwa]; simp
  have HX := Lib.hid hbx.1
  have HI := Lib.hid hbx.2
  have HZ := Lib.hid hz
  have HRD := Lib.hid (h.keep hba)
  have HBA := Lib.hid hba
  have HBW := Lib.hid hba
  have hbl : bs.length = n := h.1
  have hzr : 0 < wa.heap.size := by omega
  obtain ⟨R, hR⟩ : ∃ R, R = readQ bs (d + 1) p := ⟨_, rfl⟩
  rw [← hR]
  rw [readQ, hbl] at hR
  have d1 : decide ((dp : Int) ≤ (wi : Int)) = false := by simp; omega
  have d2 : decide (dp ≤ wi) = false := by simp; omega
  have wwi : IntKind.i64.wrap ((wi : Int) + 1) = ((wi + 1 : Nat) : Int) := (IntWalk.i64_in _ (by omega)).trans (by omega)
  have CRD : Hid (∀ W q, RdB W a n bs → q ≤ n → Calls Try.prog 34 #[.slice a n cp, .int .i64 (q : Nat), .int .i64 ((wi + 1 : Nat) : Int), .int .i64 (dp : Nat)] W (RReadO W (readQ bs d q))) := Lib.hid (fun W q hW hq => hof a n cp bs q (wi + 1) dp W hW hn9 hcp hq (by omega) hd9)
  obtain ⟨wj, hwj⟩ : ∃ x, x = wi + 1 := ⟨_, rfl⟩
  rw [← hwj] at wwi CRD
  clear hwj hof
  have h0b := Lib.hid h
  rw [if_neg hlen] at hR
  have dl : decide ((n : Int) ≤ (p : Int)) = false := by simp; omega
  have dl2 : decide (n ≤ p) = false := by simp; omega
  have hpl : p < n := by omega
  obtain ⟨b, o, rfl, hat⟩ := HRD.out.at p hpl
  have hc9 := bAt_lt bs p
  obtain ⟨c, hc⟩ : ∃ c, c = bAt bs p := ⟨_, rfl⟩
  rw [← hc] at hat hc9 hR hm hlw
  have wq : (c : Int).tdiv 32 = (m : Int) := by rw [Int.tdiv_eq_ediv_of_nonneg (by omega)]; omega
  have wr : (c : Int).tmod 32 = (low : Int) := by rw [Int.tmod_eq_emod_of_nonneg (by omega)]; omega
  have wq8 : IntKind.u8.wrap (m : Int) = (m : Int) := IntWalk.u8_in _ (by omega)
  have wr8 : IntKind.u8.wrap (low : Int) = (low : Int) := IntWalk.u8_in _ (by omega)
  have wq2 : IntKind.i64.wrap (m : Int) = (m : Int) := IntWalk.i64_in _ (by omega)
  have wr2 : IntKind.i64.wrap (low : Int) = (low : Int) := IntWalk.i64_in _ (by omega)
  have hm7 : m ≤ 7 := by omega
  rw [← hm, ← hlw] at hR
  have ip0 : (0 : Int) ≤ (p : Int) := by omega
  have ip1 : (p : Int) < (n : Int) := by omega
  clear hc hm hlw hc9 hlen
  rw [if_neg h27] at hR
  have g1 : decide ((27 : Int) < (low : Int)) = false := by simp; omega
  have g1n : decide (27 < low) = false := by simp; omega
  obtain ⟨x1, hx1⟩ : ∃ x, x = n - p := ⟨_, rfl⟩
  obtain ⟨x2, hx2⟩ : ∃ x, x = n - p - 1 := ⟨_, rfl⟩
  have wx1 : IntKind.i64.wrap ((n : Int) - (p : Int)) = (x1 : Int) := (IntWalk.i64_in _ (by omega)).trans (by omega)
  have wx2 : IntKind.i64.wrap ((x1 : Int) - 1) = (x2 : Int) := (IntWalk.i64_in _ (by omega)).trans (by omega)
  have q1 : decide ((24 : Int) ≤ (low : Int)) = false := by simp; omega
  have q1n : decide (24 ≤ low) = false := by simp; omega
  have e1 : sizeL low = 0 := if_pos (by omega)
  rw [e1] at hR hsh hsr hcq
  have q3 : decide ((x2 : Int) < 0) = false := by simp
  rw [if_neg hsh] at hR
  have en : numL bs p low = low := if_pos (by omega)
  obtain ⟨nv, hnv⟩ : ∃ x, x = numL bs p low := ⟨_, rfl⟩
  have wl : IntKind.u64.wrap (low : Int) = (nv : Int) := (IntWalk.u64_in _ (by omega)).trans (by omega)
  obtain ⟨q, hq⟩ : ∃ q, q = p + 1 + 0 := ⟨_, rfl⟩
  have wp1 : IntKind.i64.wrap ((p : Int) + 1) = (q : Int) := (IntWalk.i64_in _ (by omega)).trans (by omega)
  have wp2 : IntKind.i64.wrap (q : Int) = (q : Int) := IntWalk.i64_in _ (by omega)
  have hnv9 : nv < okSize := by rw [hnv, en]; unfold okSize; omega
  rw [← hq, ← hnv] at hR hsr
  rw [← hq] at hcq
  have hqn : q ≤ n := by omega
  have HND : Hid (needN nv = 0) := by show _ = _; rw [hnv, en]; unfold needN; rw [if_pos (by omega)]
  clear hsh hx1 hx2 e1 en hnv hq
  obtain ⟨Lf, hLf⟩ : ∃ L, L = n - q := ⟨_, rfl⟩
  have wl1 : IntKind.i64.wrap ((n : Int) - (q : Int)) = (Lf : Int) := (IntWalk.i64_in _ (by omega)).trans (by omega)
  have wl2 : IntKind.u64.wrap (Lf : Int) = (Lf : Int) := IntWalk.u64_in _ (by omega)
  have hle : q + nv ≤ n := by omega
  have g5 : decide ((Lf : Int) < (nv : Int)) = false := by simp; omega
  have g5n : decide (Lf < nv) = false := by simp; omega
  have wn : IntKind.i64.wrap (nv : Int) = (nv : Int) := IntWalk.i64_in _ (by omega)
  obtain ⟨E, hE⟩ : ∃ x, x = q + nv := ⟨_, rfl⟩
  have wE : IntKind.i64.wrap ((q : Int) + (nv : Int)) = (E : Int) := (IntWalk.i64_in _ (by omega)).trans (by omega)
  have r1 : (0 : Int) ≤ (q : Int) := by omega
  have r2 : (q : Int) ≤ (E : Int) := by omega
  have r3 : (E : Int) ≤ (cp : Int) := by omega
  obtain ⟨S, hS⟩ : ∃ S, S = seg bs q nv := ⟨_, rfl⟩
  have HLS : Hid (S.length = nv) := by show _ = _; rw [hS]; exact seg_length _ _ _ (by rw [hbl]; omega)
  have hnv6 : nv ≤ 1000000 := by omega
  have hEq : E - q = nv := by omega
  have hnv0 : nv = 0 := by omega
  have HSE : Hid (∀ W, RdB W (some ⟨b, o, none⟩) n bs → RdB W (some ⟨b, o, none⟩) (E - q) S) := Lib.hid (fun W h => by rw [hS, hEq]; exact rd_nil28 hbl (by omega) hnv0)
  have HR : Hid (R = .ok (.mk 3 0 S ⟨#[]⟩ .nil, E)) := by show _ = _; rw [hR]; unfold behQ; rw [if_neg (by omega), if_neg (by omega), if_neg (by omega), if_neg (by omega), if_pos (by omega)]; unfold rowQ; rw [hbl, if_neg hsr, if_pos hmv, ← hS, ← hE]
  obtain ⟨hl2, hhl2⟩ : ∃ x, x = (headB m nv).length := ⟨_, rfl⟩
  have HLN : Hid ((headB m nv).length = hl2) := hhl2.symm
  rw [headB_len, HND.out] at hhl2
  have hln : ((hl2 : Int) != 1) = false := by simp; omega
  clear hhl2
  subst hmv
  have CH := Lib.hid (fun W => rhead_calls (2 : Nat) 2 rfl (by omega) nv hnv9 W)
  clear hS hE hEq hle hnv0 hsr hLf
  clear hR CRD h24
  obtain ⟨⟨h0, h1, h2, h3, h4⟩, ⟨f0, f1, f2, f3, f4⟩, ⟨k0, k1, k2⟩, ⟨l0, l1, l2⟩⟩ := HX.out
  obtain ⟨⟨i0, i1, i2, i3, i4⟩, ⟨j0, j1, j2, j3, j4⟩⟩ := HI.out
  clear h hba hbx hz hd hd9 hcp
  subst cp
  go_enter Try.func34, Try.ntmps34
  go_upto_region 2 with fail
  rw [← hwa]
  clear hwa
  go_wp2_with fail
  go_quiet (fail)
  obtain ⟨wb, hwb⟩ : ∃ W, W = wa.drewN nq := ⟨_, rfl⟩
  have hbb : Below wa.heap.size wa wb := by rw [hwb]; exact below_drewN wa nq wa.heap.size
  rw [← hwb]
  clear hwb
  have HBB := Lib.hid hbb
  have HBW := Lib.hid (HBA.out.trans (hbb.mono HBA.out.size))
  have hzb : w.heap.size + 3 ≤ wb.heap.size := by have := hbb.size; have := HZ.out; omega
  clear hbb h0 h1 h2 h3 h4 f0 f1 f2 f3 f4 k0 k1 k2 l0 l1 l2 i0 i1 i2 i3 i4 j0 j1 j2 j3 j4 hat
  obtain ⟨⟨h0, h1, h2, h3, h4⟩, ⟨f0, f1, f2, f3, f4⟩, ⟨k0, k1, k2⟩, ⟨l0, l1, l2⟩⟩ := HX.out.keep HBB.out
  obtain ⟨⟨i0, i1, i2, i3, i4⟩, ⟨j0, j1, j2, j3, j4⟩⟩ := HI.out.keep HBB.out
  go_wp2_with fail
  refine (CH.out _).mono ?_
  rintro e w2 ⟨v2, rfl, hst⟩
  obtain ⟨a2, c2, rfl, hr2⟩ := hst.1.reads
  rw [HLN.out] at hst hr2 ⊢
  have HB2 := Lib.hid (HBB.out.trans (hst.2.mono HBB.out.size))
  have HBW := Lib.hid (HBA.out.trans (HB2.out.mono HBA.out.size))
  have hzr2 : w.heap.size + 3 ≤ w2.heap.size := by have := HB2.out.size; have := HZ.out; omega
  clear h0 h1 h2 h3 h4 f0 f1 f2 f3 f4 k0 k1 k2 l0 l1 l2 i0 i1 i2 i3 i4 j0 j1 j2 j3 j4 hzb
  obtain ⟨⟨h0, h1, h2, h3, h4⟩, ⟨f0, f1, f2, f3, f4⟩, ⟨k0, k1, k2⟩, ⟨l0, l1, l2⟩⟩ := HX.out.keep HB2.out
  have HI2 := Lib.hid (HI.out.keep HB2.out)
  obtain ⟨⟨i0, i1, i2, i3, i4⟩, ⟨j0, j1, j2, j3, j4⟩⟩ := HI2.out
  have HRD2 := Lib.hid (HRD.out.keep HB2.out)
  clear hst hr2 CH HLN
  go_upto_region 40 with fail
  obtain ⟨wy, hwy⟩ : ∃ W, W = w2.setCell ⟨w.heap.size + 2, 0, none⟩ (.int .i64 3) := ⟨_, rfl⟩
  rw [← hwy]
  have hiy : IBx wy (w.heap.size + 2) 3 0 (.slice none 0 0) ⟨#[]⟩ (.slice none 0 0) := by rw [hwy]; exact HI2.out.set0
  have hcy : Chg (fun i => i = w.heap.size + 2) w2 wy := by
    rw [hwy]
    have hX : (fun i => i = w.heap.size + 2) (w.heap.size + 2) := rfl
    exact Chg.setCell (Chg.refl _ _) (fun _ => hX) _
  clear hwy
  have hb9 : b < w.heap.size := by
    obtain ⟨bb, oo, e, hcc⟩ := h0b.out.at p hpl
    obtain ⟨rfl, -⟩ : bb = b ∧ oo = o := by simpa using (Option.some.inj e).symm
    simpa using cell_block hcc
  have hry : RdB wy (some ⟨b, o, none⟩) n bs := HRD2.out.chg hcy (fun x hx e => by rw [← Option.some.inj hx] at e; have e' : b = w.heap.size + 2 := e; omega)
  have HSY := Lib.hid (HSE.out wy hry)
  have HIY := Lib.hid hiy
  have HBY := Lib.hid (HBW.out.trans ((hcy.below (B := w.heap.size) (by omega) (fun i e => by omega))))
  have HXY := Lib.hid ((HX.out.keep HB2.out).chg hcy (by omega) (by omega))
  have hzy : w.heap.size + 3 ≤ wy.heap.size := by have := hcy.size; omega
  clear hcy hry hiy h0 h1 h2 h3 h4 f0 f1 f2 f3 f4 k0 k1 k2 l0 l1 l2 i0 i1 i2 i3 i4 j0 j1 j2 j3 j4 HI2 HB2 HX hb9
  obtain ⟨⟨i0, i1, i2, i3, i4⟩, ⟨j0, j1, j2, j3, j4⟩⟩ := HIY.out
  have HE : Hid (OwnB (wy.alloc (.cells #[] 5)) wy.heap.size (.slice (some ⟨wy.heap.size, 0, none⟩) 0 0) []) := ownB_empty28 (heap_alloc_new wy _) (Nat.le_refl _)
  have HSS : Hid (SrcB (wy.alloc (.cells #[] 5)) (.slice (some ⟨b, o, none⟩) (E - q) (0)) S) := Lib.hid ⟨_, _, _, rfl, HSY.out.keep ((Below.refl _ _).alloc (Nat.le_refl _) _), by simp⟩
  go_wp2_with (at_builtin; refine wpList_appB (v := .slice (some ⟨wy.heap.size, 0, none⟩) 0 0) (bs := []) (sv := .slice (some ⟨b, o, none⟩) (E - q) (0)) (l := S) (B := wy.heap.size) (by rfl) _ _ (by rfl) (by rfl) HE.out (by rfl) HSS.out ?o2 ?o3 ?_)
  case o2 => have := HLS.out; simp only [List.length_nil]; omega
  case o3 => simp
  intro v4 w4 ho4 ha4
  have hb4 : Below wy.heap.size wy w4 := ha4.below ((Below.refl _ _).alloc (Nat.le_refl _) _) (by simp) (fun i hi => by have : wy.heap.size = i := Option.some.inj hi; omega)
  obtain ⟨a4, c4, rfl, -⟩ := ho4.reads
  rw [HLS.out] at ho4 ⊢
  have HO4 := Lib.hid ho4
  clear ho4 ha4
  have HBW := Lib.hid (HBY.out.trans (hb4.mono HBY.out.size))
  have HIV := Lib.hid (HIY.out.keep hb4)
  have HXV := Lib.hid (HXY.out.keep hb4)
  have hzv : w.heap.size + 3 ≤ w4.heap.size := by have := hb4.size; omega
  clear i0 i1 i2 i3 i4 j0 j1 j2 j3 j4 hb4
  obtain ⟨⟨i0, i1, i2, i3, i4⟩, ⟨j0, j1, j2, j3, j4⟩⟩ := HIV.out
  go_upto_region 48 with fail
  obtain ⟨wz, hwz⟩ : ∃ W, W = w4.setCell ⟨w.heap.size + 2, 2, none⟩ (.slice a4 nv c4) := ⟨_, rfl⟩
  rw [← hwz]
  have hiz : IBx wz (w.heap.size + 2) 3 0 (.slice a4 nv c4) ⟨#[]⟩ (.slice none 0 0) := by rw [hwz]; exact HIV.out.set2
  have hcz : Chg (fun i => i = w.heap.size + 2) w4 wz := by
    rw [hwz]
    have hX : (fun i => i = w.heap.size + 2) (w.heap.size + 2) := rfl
    exact Chg.setCell (Chg.refl _ _) (fun _ => hX) _
  clear hwz
  have HBW := Lib.hid (HBW.out.trans ((hcz.below (B := w.heap.size) (by omega) (fun i e => by omega))))
  have hbx3 := HXV.out.chg hcz (by omega) (by omega)
  have hzz : w.heap.size + 3 ≤ wz.heap.size := by have := hcz.size; omega
  have HCZ := Lib.hid hcz
  clear i0 i1 i2 i3 i4 j0 j1 j2 j3 j4 hcz
  obtain ⟨⟨h0, h1, h2, h3, h4⟩, ⟨f0, f1, f2, f3, f4⟩, ⟨k0, k1, k2⟩, ⟨l0, l1, l2⟩⟩ := hbx3
  obtain ⟨⟨i0, i1, i2, i3, i4⟩, ⟨j0, j1, j2, j3, j4⟩⟩ := hiz
  go_loopw [16, 19] (fun nx i wr => nx = .int .i64 (E : Nat) ∧ i = .int .u64 0 ∧ wr = wz) (fun _ _ _ => 0)
  case atStart => exact ⟨rfl, rfl, rfl⟩
  case round =>
    obtain ⟨rfl, rfl, rfl⟩ := hrel
    (repeat (first | go_values | go_skip | go_guarded | go_step | go_upon | (go_simp; go_at_K)))
    refine bodyPost_ret (v := .tuple #[.agg #[.int .i64 3, .int .u64 0, .slice a4 nv c4, .string ⟨#[]⟩, .slice none 0 0], .int .i64 (E : Nat), fltV 0 0]) (by simp [results, Try.results34, go_sem, *]) rfl ?_
    rw [HR.out]
    refine ⟨?_, _, rfl, ?_⟩
    case refine_2 =>
      have ho5 : OwnB wr (w.heap.size + 3) (.slice a4 nv c4) S := (HO4.out.chg HCZ.out (fun i hi e => by have h1 := (owns_lt HO4.out i hi).1; have e' : i = w.heap.size + 2 := e; omega)).weaken (by omega)
      refine ((bytes_it ho5 hnv6).keep (KeepS.chg (X := fun i => i = w.heap.size ∨ i = w.heap.size + 1) ?_ (fun k hk e => by omega))).imp (fun k _ h => by omega)
      (repeat' (first | with_reducible exact Chg.refl _ _ | with_reducible apply Chg.drew | with_reducible refine Chg.setCell ?_ (fun h => ?_) _))
      all_goals (dsimp only; omega)
    (repeat' (first | with_reducible exact HBW.out | with_reducible apply Below.drew | with_reducible refine Below.alloc ?_ (by first | omega | (simp; done) | (simp; omega)) _ | with_reducible refine Below.setCell ?_ (by first | (simp; done) | (simp only []; omega)) _))

set_option maxRecDepth 100000 in
set_option maxHeartbeats 8000000 in
theorem rread_A3s (d : Nat) (hof : RReadSaid d) (a : Option Addr) (n cp : Nat) (bs : List UInt8) (p wi dp : Nat) (w : World) (h : RdB w a n bs) (hn9 : n ≤ 1000000) (hcp : n ≤ cp) (hpn : p ≤ n) (hd : dp = wi + (d + 1)) (hd9 : dp ≤ 1000) (hlen : ¬ n ≤ p) (m low : Nat) (hm : m = bAt bs p / 32) (hlw : low = bAt bs p % 32) (h27 : ¬ 27 < low) (hsh : ¬ n < p + 1 + sizeL low) (h24 : ¬ 24 ≤ low) (hmv : m = 3) (hsr : n < p + 1 + sizeL low + numL bs p low) :
    Calls Try.prog 34 #[.slice a n cp, .int .i64 (p : Nat), .int .i64 (wi : Nat), .int .i64 (dp : Nat)] w (RReadO w (readQ bs (d + 1) p)) := by
  obtain ⟨wa, hwa⟩ : ∃ W, W = ((w.alloc (.cells #[.int .i64 0, .int .u64 0, .slice none 0 0, .string ⟨#[]⟩, .slice none 0 0] 26)).alloc (.cells #[.int .i64 0, .int .i64 0, .slice none 0 0] 35)).alloc (.cells #[.int .i64 0, .int .u64 0, .slice none 0 0, .string ⟨#[]⟩, .slice none 0 0] 26) := ⟨_, rfl⟩
  have hba : Below w.heap.size w wa := by
    rw [hwa]
    exact (((Below.refl _ _).alloc (Nat.le_refl _) _).alloc (by simp) _).alloc (by simp; omega) _
  have hbx : RBx wa w.heap.size (w.heap.size + 1) ∧ IBx wa (w.heap.size + 2) 0 0 (.slice none 0 0) ⟨#[]⟩ (.slice none 0 0) := by rw [hwa]; exact three _ _ _
  have hz : wa.heap.size = w.heap.size + 3 := by rw [hwa]; simp
  have HX := Lib.hid hbx.1
  have HI := Lib.hid hbx.2
  have HZ := Lib.hid hz
  have HRD := Lib.hid (h.keep hba)
  have HBA := Lib.hid hba
  have HBW := Lib.hid hba
  have hbl : bs.length = n := h.1
  have hzr : 0 < wa.heap.size := by omega
  obtain ⟨R, hR⟩ : ∃ R, R = readQ bs (d + 1) p := ⟨_, rfl⟩
  rw [← hR]
  rw [readQ, hbl] at hR
  have d1 : decide ((dp : Int) ≤ (wi : Int)) = false := by simp; omega
  have d2 : decide (dp ≤ wi) = false := by simp; omega
  have wwi : IntKind.i64.wrap ((wi : Int) + 1) = ((wi + 1 : Nat) : Int) := (IntWalk.i64_in _ (by omega)).trans (by omega)
  have CRD : Hid (∀ W q, RdB W a n bs → q ≤ n → Calls Try.prog 34 #[.slice a n cp, .int .i64 (q : Nat), .int .i64 ((wi + 1 : Nat) : Int), .int .i64 (dp : Nat)] W (RReadO W (readQ bs d q))) := Lib.hid (fun W q hW hq => hof a n cp bs q (wi + 1) dp W hW hn9 hcp hq (by omega) hd9)
  obtain ⟨wj, hwj⟩ : ∃ x, x = wi + 1 := ⟨_, rfl⟩
  rw [← hwj] at wwi CRD
  clear hwj hof
  rw [if_neg hlen] at hR
  have dl : decide ((n : Int) ≤ (p : Int)) = false := by simp; omega
  have dl2 : decide (n ≤ p) = false := by simp; omega
  have hpl : p < n := by omega
  obtain ⟨b, o, rfl, hat⟩ := HRD.out.at p hpl
  have hc9 := bAt_lt bs p
  obtain ⟨c, hc⟩ : ∃ c, c = bAt bs p := ⟨_, rfl⟩
  rw [← hc] at hat hc9 hR hm hlw
  have wq : (c : Int).tdiv 32 = (m : Int) := by rw [Int.tdiv_eq_ediv_of_nonneg (by omega)]; omega
  have wr : (c : Int).tmod 32 = (low : Int) := by rw [Int.tmod_eq_emod_of_nonneg (by omega)]; omega
  have wq8 : IntKind.u8.wrap (m : Int) = (m : Int) := IntWalk.u8_in _ (by omega)
  have wr8 : IntKind.u8.wrap (low : Int) = (low : Int) := IntWalk.u8_in _ (by omega)
  have wq2 : IntKind.i64.wrap (m : Int) = (m : Int) := IntWalk.i64_in _ (by omega)
  have wr2 : IntKind.i64.wrap (low : Int) = (low : Int) := IntWalk.i64_in _ (by omega)
  have hm7 : m ≤ 7 := by omega
  rw [← hm, ← hlw] at hR
  have ip0 : (0 : Int) ≤ (p : Int) := by omega
  have ip1 : (p : Int) < (n : Int) := by omega
  clear hc hm hlw hc9 hlen
  rw [if_neg h27] at hR
  have g1 : decide ((27 : Int) < (low : Int)) = false := by simp; omega
  have g1n : decide (27 < low) = false := by simp; omega
  obtain ⟨x1, hx1⟩ : ∃ x, x = n - p := ⟨_, rfl⟩
  obtain ⟨x2, hx2⟩ : ∃ x, x = n - p - 1 := ⟨_, rfl⟩
  have wx1 : IntKind.i64.wrap ((n : Int) - (p : Int)) = (x1 : Int) := (IntWalk.i64_in _ (by omega)).trans (by omega)
  have wx2 : IntKind.i64.wrap ((x1 : Int) - 1) = (x2 : Int) := (IntWalk.i64_in _ (by omega)).trans (by omega)
  have q1 : decide ((24 : Int) ≤ (low : Int)) = false := by simp; omega
  have q1n : decide (24 ≤ low) = false := by simp; omega
  have e1 : sizeL low = 0 := if_pos (by omega)
  rw [e1] at hR hsh hsr
  have q3 : decide ((x2 : Int) < 0) = false := by simp
  rw [if_neg hsh] at hR
  have en : numL bs p low = low := if_pos (by omega)
  obtain ⟨nv, hnv⟩ : ∃ x, x = numL bs p low := ⟨_, rfl⟩
  have wl : IntKind.u64.wrap (low : Int) = (nv : Int) := (IntWalk.u64_in _ (by omega)).trans (by omega)
  obtain ⟨q, hq⟩ : ∃ q, q = p + 1 + 0 := ⟨_, rfl⟩
  have wp1 : IntKind.i64.wrap ((p : Int) + 1) = (q : Int) := (IntWalk.i64_in _ (by omega)).trans (by omega)
  have wp2 : IntKind.i64.wrap (q : Int) = (q : Int) := IntWalk.i64_in _ (by omega)
  have hnv9 : nv < okSize := by rw [hnv, en]; unfold okSize; omega
  rw [← hq, ← hnv] at hR hsr
  have hqn : q ≤ n := by omega
  have HND : Hid (needN nv = 0) := by show _ = _; rw [hnv, en]; unfold needN; rw [if_pos (by omega)]
  clear hsh hx1 hx2 e1 en hnv hq
  have HR : Hid (R = .error (2, p)) := by show _ = _; rw [hR]; unfold behQ; rw [if_neg (by omega), if_neg (by omega), if_neg (by omega), if_neg (by omega), if_pos (by omega)]; unfold rowQ; rw [hbl, if_pos hsr]
  obtain ⟨Lf, hLf⟩ : ∃ L, L = n - q := ⟨_, rfl⟩
  have wl1 : IntKind.i64.wrap ((n : Int) - (q : Int)) = (Lf : Int) := (IntWalk.i64_in _ (by omega)).trans (by omega)
  have wl2 : IntKind.u64.wrap (Lf : Int) = (Lf : Int) := IntWalk.u64_in _ (by omega)
  have g5 : decide ((Lf : Int) < (nv : Int)) = true := by simp; omega
  have g5n : decide (Lf < nv) = true := by simp; omega
  obtain ⟨hl2, hhl2⟩ : ∃ x, x = (headB m nv).length := ⟨_, rfl⟩
  have HLN : Hid ((headB m nv).length = hl2) := hhl2.symm
  rw [headB_len, HND.out] at hhl2
  have hln : ((hl2 : Int) != 1) = false := by simp; omega
  clear hhl2
  subst hmv
  have CH := Lib.hid (fun W => rhead_calls (3 : Nat) 3 rfl (by omega) nv hnv9 W)
  clear hR hLf hsr CRD h24
  obtain ⟨⟨h0, h1, h2, h3, h4⟩, ⟨f0, f1, f2, f3, f4⟩, ⟨k0, k1, k2⟩, ⟨l0, l1, l2⟩⟩ := HX.out
  obtain ⟨⟨i0, i1, i2, i3, i4⟩, ⟨j0, j1, j2, j3, j4⟩⟩ := HI.out
  clear h hba hbx hz hd hd9 hcp
  go_enter Try.func34, Try.ntmps34
  go_upto_region 2 with fail
  rw [← hwa]
  clear hwa
  go_wp2_with fail
  go_quiet (fail)
  obtain ⟨wb, hwb⟩ : ∃ W, W = wa.drewN nq := ⟨_, rfl⟩
  have hbb : Below wa.heap.size wa wb := by rw [hwb]; exact below_drewN wa nq wa.heap.size
  rw [← hwb]
  clear hwb
  have HBB := Lib.hid hbb
  have HBW := Lib.hid (HBA.out.trans (hbb.mono HBA.out.size))
  have hzb : w.heap.size + 3 ≤ wb.heap.size := by have := hbb.size; have := HZ.out; omega
  clear hbb h0 h1 h2 h3 h4 f0 f1 f2 f3 f4 k0 k1 k2 l0 l1 l2 i0 i1 i2 i3 i4 j0 j1 j2 j3 j4 hat
  obtain ⟨⟨h0, h1, h2, h3, h4⟩, ⟨f0, f1, f2, f3, f4⟩, ⟨k0, k1, k2⟩, ⟨l0, l1, l2⟩⟩ := HX.out.keep HBB.out
  obtain ⟨⟨i0, i1, i2, i3, i4⟩, ⟨j0, j1, j2, j3, j4⟩⟩ := HI.out.keep HBB.out
  go_wp2_with fail
  refine (CH.out _).mono ?_
  rintro e w2 ⟨v2, rfl, hst⟩
  obtain ⟨a2, c2, rfl, hr2⟩ := hst.1.reads
  rw [HLN.out] at hst hr2 ⊢
  have HB2 := Lib.hid (HBB.out.trans (hst.2.mono HBB.out.size))
  have HBW := Lib.hid (HBA.out.trans (HB2.out.mono HBA.out.size))
  have hzr2 : w.heap.size + 3 ≤ w2.heap.size := by have := HB2.out.size; have := HZ.out; omega
  clear h0 h1 h2 h3 h4 f0 f1 f2 f3 f4 k0 k1 k2 l0 l1 l2 i0 i1 i2 i3 i4 j0 j1 j2 j3 j4 hzb
  obtain ⟨⟨h0, h1, h2, h3, h4⟩, ⟨f0, f1, f2, f3, f4⟩, ⟨k0, k1, k2⟩, ⟨l0, l1, l2⟩⟩ := HX.out.keep HB2.out
  have HI2 := Lib.hid (HI.out.keep HB2.out)
  obtain ⟨⟨i0, i1, i2, i3, i4⟩, ⟨j0, j1, j2, j3, j4⟩⟩ := HI2.out
  have HRD2 := Lib.hid (HRD.out.keep HB2.out)
  clear hst hr2 CH HLN
  (repeat (first | go_values | go_skip | go_guarded | go_step | go_upon | (go_simp; go_at_K)))
  refine bodyPost_ret (v := .tuple #[zIt, .int .i64 0, fltV 2 p]) (by simp [results, Try.results34, go_sem, *]) rfl ?_
  rw [HR.out]
  refine rread_err ?_
  (repeat' (first | with_reducible exact HBW.out | with_reducible apply Below.drew | with_reducible refine Below.alloc ?_ (by first | omega | (simp; done) | (simp; omega)) _ | with_reducible refine Below.setCell ?_ (by first | (simp; done) | (simp only []; omega)) _))

set_option maxRecDepth 100000 in
set_option maxHeartbeats 8000000 in
theorem rread_A3 (d : Nat) (hof : RReadSaid d) (a : Option Addr) (n cp : Nat) (bs : List UInt8) (p wi dp : Nat) (w : World) (h : RdB w a n bs) (hn9 : n ≤ 1000000) (hcp : n ≤ cp) (hpn : p ≤ n) (hd : dp = wi + (d + 1)) (hd9 : dp ≤ 1000) (hlen : ¬ n ≤ p) (m low : Nat) (hm : m = bAt bs p / 32) (hlw : low = bAt bs p % 32) (h27 : ¬ 27 < low) (hsh : ¬ n < p + 1 + sizeL low) (h24 : ¬ 24 ≤ low) (hmv : m = 3) (hsr : ¬ n < p + 1 + sizeL low + numL bs p low) (hcq : ¬ cp = p + 1 + sizeL low) :
    Calls Try.prog 34 #[.slice a n cp, .int .i64 (p : Nat), .int .i64 (wi : Nat), .int .i64 (dp : Nat)] w (RReadO w (readQ bs (d + 1) p)) := by
  obtain ⟨wa, hwa⟩ : ∃ W, W = ((w.alloc (.cells #[.int .i64 0, .int .u64 0, .slice none 0 0, .string ⟨#[]⟩, .slice none 0 0] 26)).alloc (.cells #[.int .i64 0, .int .i64 0, .slice none 0 0] 35)).alloc (.cells #[.int .i64 0, .int .u64 0, .slice none 0 0, .string ⟨#[]⟩, .slice none 0 0] 26) := ⟨_, rfl⟩
  have hba : Below w.heap.size w wa := by
    rw [hwa]
    exact (((Below.refl _ _).alloc (Nat.le_refl _) _).alloc (by simp) _).alloc (by simp; omega) _
  have hbx : RBx wa w.heap.size (w.heap.size + 1) ∧ IBx wa (w.heap.size + 2) 0 0 (.slice none 0 0) ⟨#[]⟩ (.slice none 0 0) := by rw [hwa]; exact three _ _ _
  have hz : wa.heap.size = w.heap.size + 3 := by rw [hwa]; simp
  have HX := Lib.hid hbx.1
  have HI := Lib.hid hbx.2
  have HZ := Lib.hid hz
  have HRD := Lib.hid (h.keep hba)
  have HBA := Lib.hid hba
  have HBW := Lib.hid hba
  have hbl : bs.length = n := h.1
  have hzr : 0 < wa.heap.size := by omega
  obtain ⟨R, hR⟩ : ∃ R, R = readQ bs (d + 1) p := ⟨_, rfl⟩
  rw [← hR]
  rw [readQ, hbl] at hR
  have d1 : decide ((dp : Int) ≤ (wi : Int)) = false := by simp; omega
  have d2 : decide (dp ≤ wi) = false := by simp; omega
  have wwi : IntKind.i64.wrap ((wi : Int) + 1) = ((wi + 1 : Nat) : Int) := (IntWalk.i64_in _ (by omega)).trans (by omega)
  have CRD : Hid (∀ W q, RdB W a n bs → q ≤ n → Calls Try.prog 34 #[.slice a n cp, .int .i64 (q : Nat), .int .i64 ((wi + 1 : Nat) : Int), .int .i64 (dp : Nat)] W (RReadO W (readQ bs d q))) := Lib.hid (fun W q hW hq => hof a n cp bs q (wi + 1) dp W hW hn9 hcp hq (by omega) hd9)
  obtain ⟨wj, hwj⟩ : ∃ x, x = wi + 1 := ⟨_, rfl⟩
  rw [← hwj] at wwi CRD
  clear hwj hof
  have h0b := Lib.hid h
  rw [if_neg hlen] at hR
  have dl : decide ((n : Int) ≤ (p : Int)) = false := by simp; omega
  have dl2 : decide (n ≤ p) = false := by simp; omega
  have hpl : p < n := by omega
  obtain ⟨b, o, rfl, hat⟩ := HRD.out.at p hpl
  have hc9 := bAt_lt bs p
  obtain ⟨c, hc⟩ : ∃ c, c = bAt bs p := ⟨_, rfl⟩
  rw [← hc] at hat hc9 hR hm hlw
  have wq : (c : Int).tdiv 32 = (m : Int) := by rw [Int.tdiv_eq_ediv_of_nonneg (by omega)]; omega
  have wr : (c : Int).tmod 32 = (low : Int) := by rw [Int.tmod_eq_emod_of_nonneg (by omega)]; omega
  have wq8 : IntKind.u8.wrap (m : Int) = (m : Int) := IntWalk.u8_in _ (by omega)
  have wr8 : IntKind.u8.wrap (low : Int) = (low : Int) := IntWalk.u8_in _ (by omega)
  have wq2 : IntKind.i64.wrap (m : Int) = (m : Int) := IntWalk.i64_in _ (by omega)
  have wr2 : IntKind.i64.wrap (low : Int) = (low : Int) := IntWalk.i64_in _ (by omega)
  have hm7 : m ≤ 7 := by omega
  rw [← hm, ← hlw] at hR
  have ip0 : (0 : Int) ≤ (p : Int) := by omega
  have ip1 : (p : Int) < (n : Int) := by omega
  clear hc hm hlw hc9 hlen
  rw [if_neg h27] at hR
  have g1 : decide ((27 : Int) < (low : Int)) = false := by simp; omega
  have g1n : decide (27 < low) = false := by simp; omega
  obtain ⟨x1, hx1⟩ : ∃ x, x = n - p := ⟨_, rfl⟩
  obtain ⟨x2, hx2⟩ : ∃ x, x = n - p - 1 := ⟨_, rfl⟩
  have wx1 : IntKind.i64.wrap ((n : Int) - (p : Int)) = (x1 : Int) := (IntWalk.i64_in _ (by omega)).trans (by omega)
  have wx2 : IntKind.i64.wrap ((x1 : Int) - 1) = (x2 : Int) := (IntWalk.i64_in _ (by omega)).trans (by omega)
  have q1 : decide ((24 : Int) ≤ (low : Int)) = false := by simp; omega
  have q1n : decide (24 ≤ low) = false := by simp; omega
  have e1 : sizeL low = 0 := if_pos (by omega)
  rw [e1] at hR hsh hsr hcq
  have q3 : decide ((x2 : Int) < 0) = false := by simp
  rw [if_neg hsh] at hR
  have en : numL bs p low = low := if_pos (by omega)
  obtain ⟨nv, hnv⟩ : ∃ x, x = numL bs p low := ⟨_, rfl⟩
  have wl : IntKind.u64.wrap (low : Int) = (nv : Int) := (IntWalk.u64_in _ (by omega)).trans (by omega)
  obtain ⟨q, hq⟩ : ∃ q, q = p + 1 + 0 := ⟨_, rfl⟩
  have wp1 : IntKind.i64.wrap ((p : Int) + 1) = (q : Int) := (IntWalk.i64_in _ (by omega)).trans (by omega)
  have wp2 : IntKind.i64.wrap (q : Int) = (q : Int) := IntWalk.i64_in _ (by omega)
  have hnv9 : nv < okSize := by rw [hnv, en]; unfold okSize; omega
  rw [← hq, ← hnv] at hR hsr
  rw [← hq] at hcq
  have hqn : q ≤ n := by omega
  have HND : Hid (needN nv = 0) := by show _ = _; rw [hnv, en]; unfold needN; rw [if_pos (by omega)]
  clear hsh hx1 hx2 e1 en hnv hq
  obtain ⟨Lf, hLf⟩ : ∃ L, L = n - q := ⟨_, rfl⟩
  have wl1 : IntKind.i64.wrap ((n : Int) - (q : Int)) = (Lf : Int) := (IntWalk.i64_in _ (by omega)).trans (by omega)
  have wl2 : IntKind.u64.wrap (Lf : Int) = (Lf : Int) := IntWalk.u64_in _ (by omega)
  have hle : q + nv ≤ n := by omega
  have g5 : decide ((Lf : Int) < (nv : Int)) = false := by simp; omega
  have g5n : decide (Lf < nv) = false := by simp; omega
  have wn : IntKind.i64.wrap (nv : Int) = (nv : Int) := IntWalk.i64_in _ (by omega)
  obtain ⟨E, hE⟩ : ∃ x, x = q + nv := ⟨_, rfl⟩
  have wE : IntKind.i64.wrap ((q : Int) + (nv : Int)) = (E : Int) := (IntWalk.i64_in _ (by omega)).trans (by omega)
  have r1 : (0 : Int) ≤ (q : Int) := by omega
  have r2 : (q : Int) ≤ (E : Int) := by omega
  have r3 : (E : Int) ≤ (cp : Int) := by omega
  obtain ⟨S, hS⟩ : ∃ S, S = seg bs q nv := ⟨_, rfl⟩
  have HLS : Hid (S.length = nv) := by show _ = _; rw [hS]; exact seg_length _ _ _ (by rw [hbl]; omega)
  have hnv6 : nv ≤ 1000000 := by omega
  have hEq : E - q = nv := by omega
  have r4 : ¬ cp = q := by omega
  have r5 : ¬ q = cp := by omega
  have HSE : Hid (∀ W, RdB W (some ⟨b, o, none⟩) n bs → RdB W (some ⟨b, o + q, none⟩) (E - q) S) := Lib.hid (fun W h => by rw [hS, hEq]; exact rd_seg28 h hle)
  have HQ : Hid (R = if (wholeTo S == nv) = false then .error (4, p) else .ok (.mk 4 0 [] (txt S) .nil, E)) := by show _ = _; rw [hR]; unfold behQ; rw [if_neg (by omega), if_neg (by omega), if_neg (by omega), if_neg (by omega), if_pos (by omega)]; unfold rowQ; rw [hbl, if_neg hsr, if_neg (by omega), ← hS, ← hE]
  obtain ⟨hl2, hhl2⟩ : ∃ x, x = (headB m nv).length := ⟨_, rfl⟩
  have HLN : Hid ((headB m nv).length = hl2) := hhl2.symm
  rw [headB_len, HND.out] at hhl2
  have hln : ((hl2 : Int) != 1) = false := by simp; omega
  clear hhl2
  subst hmv
  have CH := Lib.hid (fun W => rhead_calls (3 : Nat) 3 rfl (by omega) nv hnv9 W)
  clear hS hE hEq hle hsr hLf
  clear hR CRD h24
  obtain ⟨⟨h0, h1, h2, h3, h4⟩, ⟨f0, f1, f2, f3, f4⟩, ⟨k0, k1, k2⟩, ⟨l0, l1, l2⟩⟩ := HX.out
  obtain ⟨⟨i0, i1, i2, i3, i4⟩, ⟨j0, j1, j2, j3, j4⟩⟩ := HI.out
  clear h hba hbx hz hd hd9 hcp
  clear hcq
  go_enter Try.func34, Try.ntmps34
  go_upto_region 2 with fail
  rw [← hwa]
  clear hwa
  go_wp2_with fail
  go_quiet (fail)
  obtain ⟨wb, hwb⟩ : ∃ W, W = wa.drewN nq := ⟨_, rfl⟩
  have hbb : Below wa.heap.size wa wb := by rw [hwb]; exact below_drewN wa nq wa.heap.size
  rw [← hwb]
  clear hwb
  have HBB := Lib.hid hbb
  have HBW := Lib.hid (HBA.out.trans (hbb.mono HBA.out.size))
  have hzb : w.heap.size + 3 ≤ wb.heap.size := by have := hbb.size; have := HZ.out; omega
  clear hbb h0 h1 h2 h3 h4 f0 f1 f2 f3 f4 k0 k1 k2 l0 l1 l2 i0 i1 i2 i3 i4 j0 j1 j2 j3 j4 hat
  obtain ⟨⟨h0, h1, h2, h3, h4⟩, ⟨f0, f1, f2, f3, f4⟩, ⟨k0, k1, k2⟩, ⟨l0, l1, l2⟩⟩ := HX.out.keep HBB.out
  obtain ⟨⟨i0, i1, i2, i3, i4⟩, ⟨j0, j1, j2, j3, j4⟩⟩ := HI.out.keep HBB.out
  go_wp2_with fail
  refine (CH.out _).mono ?_
  rintro e w2 ⟨v2, rfl, hst⟩
  obtain ⟨a2, c2, rfl, hr2⟩ := hst.1.reads
  rw [HLN.out] at hst hr2 ⊢
  have HB2 := Lib.hid (HBB.out.trans (hst.2.mono HBB.out.size))
  have HBW := Lib.hid (HBA.out.trans (HB2.out.mono HBA.out.size))
  have hzr2 : w.heap.size + 3 ≤ w2.heap.size := by have := HB2.out.size; have := HZ.out; omega
  clear h0 h1 h2 h3 h4 f0 f1 f2 f3 f4 k0 k1 k2 l0 l1 l2 i0 i1 i2 i3 i4 j0 j1 j2 j3 j4 hzb
  obtain ⟨⟨h0, h1, h2, h3, h4⟩, ⟨f0, f1, f2, f3, f4⟩, ⟨k0, k1, k2⟩, ⟨l0, l1, l2⟩⟩ := HX.out.keep HB2.out
  have HI2 := Lib.hid (HI.out.keep HB2.out)
  obtain ⟨⟨i0, i1, i2, i3, i4⟩, ⟨j0, j1, j2, j3, j4⟩⟩ := HI2.out
  have HRD2 := Lib.hid (HRD.out.keep HB2.out)
  clear hst hr2 CH HLN
  go_upto_region 41 with fail
  obtain ⟨wy, hwy⟩ : ∃ W, W = w2.setCell ⟨w.heap.size + 2, 0, none⟩ (.int .i64 4) := ⟨_, rfl⟩
  rw [← hwy]
  have hiy : IBx wy (w.heap.size + 2) 4 0 (.slice none 0 0) ⟨#[]⟩ (.slice none 0 0) := by rw [hwy]; exact HI2.out.set0
  have hcy : Chg (fun i => i = w.heap.size + 2) w2 wy := by
    rw [hwy]
    have hX : (fun i => i = w.heap.size + 2) (w.heap.size + 2) := rfl
    exact Chg.setCell (Chg.refl _ _) (fun _ => hX) _
  clear hwy
  have hb9 : b < w.heap.size := by
    obtain ⟨bb, oo, e, hcc⟩ := h0b.out.at p hpl
    obtain ⟨rfl, -⟩ : bb = b ∧ oo = o := by simpa using (Option.some.inj e).symm
    simpa using cell_block hcc
  have hry : RdB wy (some ⟨b, o, none⟩) n bs := HRD2.out.chg hcy (fun x hx e => by rw [← Option.some.inj hx] at e; have e' : b = w.heap.size + 2 := e; omega)
  have HSY := Lib.hid (HSE.out wy hry)
  have HIY := Lib.hid hiy
  have HBY := Lib.hid (HBW.out.trans ((hcy.below (B := w.heap.size) (by omega) (fun i e => by omega))))
  have HXY := Lib.hid ((HX.out.keep HB2.out).chg hcy (by omega) (by omega))
  have hzy : w.heap.size + 3 ≤ wy.heap.size := by have := hcy.size; omega
  clear hcy hry hiy h0 h1 h2 h3 h4 f0 f1 f2 f3 f4 k0 k1 k2 l0 l1 l2 i0 i1 i2 i3 i4 j0 j1 j2 j3 j4 HI2 HB2 HX hb9
  obtain ⟨⟨i0, i1, i2, i3, i4⟩, ⟨j0, j1, j2, j3, j4⟩⟩ := HIY.out
  have hcv := conv_str HSY.out (cp - q)
  have hts : (txt S).size = nv := by rw [← sl_len, sl_txt]; exact HLS.out
  have CWH := Lib.hid (fun W => rwhole_calls (txt S) (by rw [hts]; omega) W)
  rw [sl_txt, hts] at CWH
  obtain ⟨T, hT⟩ : ∃ T, T = txt S := ⟨_, rfl⟩
  have HTS : Hid (T.size = nv) := by show _ = _; rw [hT]; exact hts
  rw [← hT] at CWH hcv
  have HQ2 : Hid (R = if (wholeTo S == nv) = false then .error (4, p) else .ok (.mk 4 0 [] T .nil, E)) := by show _ = _; rw [HQ.out, hT]
  have HCV : Hid (∀ W, Below wy.heap.size wy W → (convert 23 9 (.slice (some ⟨b, o + q, none⟩) (E - q) (cp - q))).run Try.prog W = .ok (.string T) W) := Lib.hid (fun W hW => by rw [hT]; exact conv_str (HSY.out.keep hW) (cp - q))
  clear hT hts HQ
  go_wp2_with fail
  refine (CWH.out _).mono ?_
  rintro e w4 ⟨rfl, hb4⟩
  have hcv4 := HCV.out w4 hb4
  clear CWH HCV hcv
  have HBW := Lib.hid (HBY.out.trans (hb4.mono HBY.out.size))
  have HIV := Lib.hid (HIY.out.keep hb4)
  have HXV := Lib.hid (HXY.out.keep hb4)
  have hzv : w.heap.size + 3 ≤ w4.heap.size := by have := hb4.size; omega
  clear i0 i1 i2 i3 i4 j0 j1 j2 j3 j4 hb4
  obtain ⟨⟨i0, i1, i2, i3, i4⟩, ⟨j0, j1, j2, j3, j4⟩⟩ := HIV.out
  cases hw : (wholeTo S == nv) with
  | false =>
    have HR : Hid (R = .error (4, p)) := by show _ = _; rw [HQ2.out, if_pos hw]
    obtain ⟨⟨h0, h1, h2, h3, h4⟩, ⟨f0, f1, f2, f3, f4⟩, ⟨k0, k1, k2⟩, ⟨l0, l1, l2⟩⟩ := HXV.out
    clear hw HQ2
    (repeat (first | go_values | go_skip | go_guarded | go_step | go_upon | (go_simp; go_at_K)))
    refine bodyPost_ret (v := .tuple #[zIt, .int .i64 0, fltV 4 p]) (by simp [results, Try.results34, go_sem, *]) rfl ?_
    rw [HR.out]
    refine rread_err ?_
    (repeat' (first | with_reducible exact HBW.out | with_reducible apply Below.drew | with_reducible refine Below.alloc ?_ (by first | omega | (simp; done) | (simp; omega)) _ | with_reducible refine Below.setCell ?_ (by first | (simp; done) | (simp only []; omega)) _))
  | true =>
    have HR : Hid (R = .ok (.mk 4 0 [] T .nil, E)) := by show _ = _; rw [HQ2.out, if_neg (by rw [hw]; simp)]
    have hT6 : T.size ≤ 1000000 := by rw [HTS.out]; exact hnv6
    clear hw HQ2
    go_upto_region 48 with fail
    obtain ⟨wz, hwz⟩ : ∃ W, W = w4.setCell ⟨w.heap.size + 2, 3, none⟩ (.string T) := ⟨_, rfl⟩
    rw [← hwz]
    have hiz : IBx wz (w.heap.size + 2) 4 0 (.slice none 0 0) T (.slice none 0 0) := by rw [hwz]; exact HIV.out.set3
    have hcz : Chg (fun i => i = w.heap.size + 2) w4 wz := by
      rw [hwz]
      have hX : (fun i => i = w.heap.size + 2) (w.heap.size + 2) := rfl
      exact Chg.setCell (Chg.refl _ _) (fun _ => hX) _
    clear hwz
    have HBW := Lib.hid (HBW.out.trans ((hcz.below (B := w.heap.size) (by omega) (fun i e => by omega))))
    have hbx3 := HXV.out.chg hcz (by omega) (by omega)
    have hzz : w.heap.size + 3 ≤ wz.heap.size := by have := hcz.size; omega
    have HCZ := Lib.hid hcz
    clear i0 i1 i2 i3 i4 j0 j1 j2 j3 j4 hcz
    obtain ⟨⟨h0, h1, h2, h3, h4⟩, ⟨f0, f1, f2, f3, f4⟩, ⟨k0, k1, k2⟩, ⟨l0, l1, l2⟩⟩ := hbx3
    obtain ⟨⟨i0, i1, i2, i3, i4⟩, ⟨j0, j1, j2, j3, j4⟩⟩ := hiz
    go_loopw [16, 19] (fun nx i wr => nx = .int .i64 (E : Nat) ∧ i = .int .u64 0 ∧ wr = wz) (fun _ _ _ => 0)
    case atStart => exact ⟨rfl, rfl, rfl⟩
    case round =>
      obtain ⟨rfl, rfl, rfl⟩ := hrel
      (repeat (first | go_values | go_skip | go_guarded | go_step | go_upon | (go_simp; go_at_K)))
      refine bodyPost_ret (v := .tuple #[.agg #[.int .i64 4, .int .u64 0, .slice none 0 0, .string T, .slice none 0 0], .int .i64 (E : Nat), fltV 0 0]) (by simp [results, Try.results34, go_sem, *]) rfl ?_
      rw [HR.out]
      refine ⟨?_, _, rfl, ?_⟩
      case refine_2 => exact num_it _ _ 4 (by omega) 0 (by decide) T hT6
      (repeat' (first | with_reducible exact HBW.out | with_reducible apply Below.drew | with_reducible refine Below.alloc ?_ (by first | omega | (simp; done) | (simp; omega)) _ | with_reducible refine Below.setCell ?_ (by first | (simp; done) | (simp only []; omega)) _))

set_option maxRecDepth 100000 in
set_option maxHeartbeats 8000000 in
theorem rread_A3q (d : Nat) (hof : RReadSaid d) (a : Option Addr) (n cp : Nat) (bs : List UInt8) (p wi dp : Nat) (w : World) (h : RdB w a n bs) (hn9 : n ≤ 1000000) (hcp : n ≤ cp) (hpn : p ≤ n) (hd : dp = wi + (d + 1)) (hd9 : dp ≤ 1000) (hlen : ¬ n ≤ p) (m low : Nat) (hm : m = bAt bs p / 32) (hlw : low = bAt bs p % 32) (h27 : ¬ 27 < low) (hsh : ¬ n < p + 1 + sizeL low) (h24 : ¬ 24 ≤ low) (hmv : m = 3) (hsr : ¬ n < p + 1 + sizeL low + numL bs p low) (hcq : cp = p + 1 + sizeL low) :
    Calls Try.prog 34 #[.slice a n cp, .int .i64 (p : Nat), .int .i64 (wi : Nat), .int .i64 (dp : Nat)] w (RReadO w (readQ bs (d + 1) p)) := by
  obtain ⟨wa, hwa⟩ : ∃ W, W = ((w.alloc (.cells #[.int .i64 0, .int .u64 0, .slice none 0 0, .string ⟨#[]⟩, .slice none 0 0] 26)).alloc (.cells #[.int .i64 0, .int .i64 0, .slice none 0 0] 35)).alloc (.cells #[.int .i64 0, .int .u64 0, .slice none 0 0, .string ⟨#[]⟩, .slice none 0 0] 26) := ⟨_, rfl⟩
  have hba : Below w.heap.size w wa := by
    rw [hwa]
    exact (((Below.refl _ _).alloc (Nat.le_refl _) _).alloc (by simp) _).alloc (by simp; omega) _
  have hbx : RBx wa w.heap.size (w.heap.size + 1) ∧ IBx wa (w.heap.size + 2) 0 0 (.slice none 0 0) ⟨#[]⟩ (.slice none 0 0) := by rw [hwa]; exact three _ _ _
  have hz : wa.heap.size = w.heap.size + 3 := by rw [hwa]; simp
  have HX := Lib.hid hbx.1
  have HI := Lib.hid hbx.2
  have HZ := Lib.hid hz
  have HRD := Lib.hid (h.keep hba)
  have HBA := Lib.hid hba
  have HBW := Lib.hid hba
  have hbl : bs.length = n := h.1
  have hzr : 0 < wa.heap.size := by omega
  obtain ⟨R, hR⟩ : ∃ R, R = readQ bs (d + 1) p := ⟨_, rfl⟩
  rw [← hR]
  rw [readQ, hbl] at hR
  have d1 : decide ((dp : Int) ≤ (wi : Int)) = false := by simp; omega
  have d2 : decide (dp ≤ wi) = false := by simp; omega
  have wwi : IntKind.i64.wrap ((wi : Int) + 1) = ((wi + 1 : Nat) : Int) := (IntWalk.i64_in _ (by omega)).trans (by omega)
  have CRD : Hid (∀ W q, RdB W a n bs → q ≤ n → Calls Try.prog 34 #[.slice a n cp, .int .i64 (q : Nat), .int .i64 ((wi + 1 : Nat) : Int), .int .i64 (dp : Nat)] W (RReadO W (readQ bs d q))) := Lib.hid (fun W q hW hq => hof a n cp bs q (wi + 1) dp W hW hn9 hcp hq (by omega) hd9)
  obtain ⟨wj, hwj⟩ : ∃ x, x = wi + 1 := ⟨_, rfl⟩
  rw [← hwj] at wwi CRD
  clear hwj hof
  have h0b := Lib.hid h
  rw [if_neg hlen] at hR
  have dl : decide ((n : Int) ≤ (p : Int)) = false := by simp; omega
  have dl2 : decide (n ≤ p) = false := by simp; omega
  have hpl : p < n := by omega
  obtain ⟨b, o, rfl, hat⟩ := HRD.out.at p hpl
  have hc9 := bAt_lt bs p
  obtain ⟨c, hc⟩ : ∃ c, c = bAt bs p := ⟨_, rfl⟩
  rw [← hc] at hat hc9 hR hm hlw
  have wq : (c : Int).tdiv 32 = (m : Int) := by rw [Int.tdiv_eq_ediv_of_nonneg (by omega)]; omega
  have wr : (c : Int).tmod 32 = (low : Int) := by rw [Int.tmod_eq_emod_of_nonneg (by omega)]; omega
  have wq8 : IntKind.u8.wrap (m : Int) = (m : Int) := IntWalk.u8_in _ (by omega)
  have wr8 : IntKind.u8.wrap (low : Int) = (low : Int) := IntWalk.u8_in _ (by omega)
  have wq2 : IntKind.i64.wrap (m : Int) = (m : Int) := IntWalk.i64_in _ (by omega)
  have wr2 : IntKind.i64.wrap (low : Int) = (low : Int) := IntWalk.i64_in _ (by omega)
  have hm7 : m ≤ 7 := by omega
  rw [← hm, ← hlw] at hR
  have ip0 : (0 : Int) ≤ (p : Int) := by omega
  have ip1 : (p : Int) < (n : Int) := by omega
  clear hc hm hlw hc9 hlen
  rw [if_neg h27] at hR
  have g1 : decide ((27 : Int) < (low : Int)) = false := by simp; omega
  have g1n : decide (27 < low) = false := by simp; omega
  obtain ⟨x1, hx1⟩ : ∃ x, x = n - p := ⟨_, rfl⟩
  obtain ⟨x2, hx2⟩ : ∃ x, x = n - p - 1 := ⟨_, rfl⟩
  have wx1 : IntKind.i64.wrap ((n : Int) - (p : Int)) = (x1 : Int) := (IntWalk.i64_in _ (by omega)).trans (by omega)
  have wx2 : IntKind.i64.wrap ((x1 : Int) - 1) = (x2 : Int) := (IntWalk.i64_in _ (by omega)).trans (by omega)
  have q1 : decide ((24 : Int) ≤ (low : Int)) = false := by simp; omega
  have q1n : decide (24 ≤ low) = false := by simp; omega
  have e1 : sizeL low = 0 := if_pos (by omega)
  rw [e1] at hR hsh hsr hcq
  have q3 : decide ((x2 : Int) < 0) = false := by simp
  rw [if_neg hsh] at hR
  have en : numL bs p low = low := if_pos (by omega)
  obtain ⟨nv, hnv⟩ : ∃ x, x = numL bs p low := ⟨_, rfl⟩
  have wl : IntKind.u64.wrap (low : Int) = (nv : Int) := (IntWalk.u64_in _ (by omega)).trans (by omega)
  obtain ⟨q, hq⟩ : ∃ q, q = p + 1 + 0 := ⟨_, rfl⟩
  have wp1 : IntKind.i64.wrap ((p : Int) + 1) = (q : Int) := (IntWalk.i64_in _ (by omega)).trans (by omega)
  have wp2 : IntKind.i64.wrap (q : Int) = (q : Int) := IntWalk.i64_in _ (by omega)
  have hnv9 : nv < okSize := by rw [hnv, en]; unfold okSize; omega
  rw [← hq, ← hnv] at hR hsr
  rw [← hq] at hcq
  have hqn : q ≤ n := by omega
  have HND : Hid (needN nv = 0) := by show _ = _; rw [hnv, en]; unfold needN; rw [if_pos (by omega)]
  clear hsh hx1 hx2 e1 en hnv hq
  obtain ⟨Lf, hLf⟩ : ∃ L, L = n - q := ⟨_, rfl⟩
  have wl1 : IntKind.i64.wrap ((n : Int) - (q : Int)) = (Lf : Int) := (IntWalk.i64_in _ (by omega)).trans (by omega)
  have wl2 : IntKind.u64.wrap (Lf : Int) = (Lf : Int) := IntWalk.u64_in _ (by omega)
  have hle : q + nv ≤ n := by omega
  have g5 : decide ((Lf : Int) < (nv : Int)) = false := by simp; omega
  have g5n : decide (Lf < nv) = false := by simp; omega
  have wn : IntKind.i64.wrap (nv : Int) = (nv : Int) := IntWalk.i64_in _ (by omega)
  obtain ⟨E, hE⟩ : ∃ x, x = q + nv := ⟨_, rfl⟩
  have wE : IntKind.i64.wrap ((q : Int) + (nv : Int)) = (E : Int) := (IntWalk.i64_in _ (by omega)).trans (by omega)
  have r1 : (0 : Int) ≤ (q : Int) := by omega
  have r2 : (q : Int) ≤ (E : Int) := by omega
  have r3 : (E : Int) ≤ (cp : Int) := by omega
  obtain ⟨S, hS⟩ : ∃ S, S = seg bs q nv := ⟨_, rfl⟩
  have HLS : Hid (S.length = nv) := by show _ = _; rw [hS]; exact seg_length _ _ _ (by rw [hbl]; omega)
  have hnv6 : nv ≤ 1000000 := by omega
  have hEq : E - q = nv := by omega
  have hnv0 : nv = 0 := by omega
  have HSE : Hid (∀ W, RdB W (some ⟨b, o, none⟩) n bs → RdB W (some ⟨b, o, none⟩) (E - q) S) := Lib.hid (fun W h => by rw [hS, hEq]; exact rd_nil28 hbl (by omega) hnv0)
  have HQ : Hid (R = if (wholeTo S == nv) = false then .error (4, p) else .ok (.mk 4 0 [] (txt S) .nil, E)) := by show _ = _; rw [hR]; unfold behQ; rw [if_neg (by omega), if_neg (by omega), if_neg (by omega), if_neg (by omega), if_pos (by omega)]; unfold rowQ; rw [hbl, if_neg hsr, if_neg (by omega), ← hS, ← hE]
  obtain ⟨hl2, hhl2⟩ : ∃ x, x = (headB m nv).length := ⟨_, rfl⟩
  have HLN : Hid ((headB m nv).length = hl2) := hhl2.symm
  rw [headB_len, HND.out] at hhl2
  have hln : ((hl2 : Int) != 1) = false := by simp; omega
  clear hhl2
  subst hmv
  have CH := Lib.hid (fun W => rhead_calls (3 : Nat) 3 rfl (by omega) nv hnv9 W)
  clear hS hE hEq hle hnv0 hsr hLf
  clear hR CRD h24
  obtain ⟨⟨h0, h1, h2, h3, h4⟩, ⟨f0, f1, f2, f3, f4⟩, ⟨k0, k1, k2⟩, ⟨l0, l1, l2⟩⟩ := HX.out
  obtain ⟨⟨i0, i1, i2, i3, i4⟩, ⟨j0, j1, j2, j3, j4⟩⟩ := HI.out
  clear h hba hbx hz hd hd9 hcp
  subst cp
  go_enter Try.func34, Try.ntmps34
  go_upto_region 2 with fail
  rw [← hwa]
  clear hwa
  go_wp2_with fail
  go_quiet (fail)
  obtain ⟨wb, hwb⟩ : ∃ W, W = wa.drewN nq := ⟨_, rfl⟩
  have hbb : Below wa.heap.size wa wb := by rw [hwb]; exact below_drewN wa nq wa.heap.size
  rw [← hwb]
  clear hwb
  have HBB := Lib.hid hbb
  have HBW := Lib.hid (HBA.out.trans (hbb.mono HBA.out.size))
  have hzb : w.heap.size + 3 ≤ wb.heap.size := by have := hbb.size; have := HZ.out; omega
  clear hbb h0 h1 h2 h3 h4 f0 f1 f2 f3 f4 k0 k1 k2 l0 l1 l2 i0 i1 i2 i3 i4 j0 j1 j2 j3 j4 hat
  obtain ⟨⟨h0, h1, h2, h3, h4⟩, ⟨f0, f1, f2, f3, f4⟩, ⟨k0, k1, k2⟩, ⟨l0, l1, l2⟩⟩ := HX.out.keep HBB.out
  obtain ⟨⟨i0, i1, i2, i3, i4⟩, ⟨j0, j1, j2, j3, j4⟩⟩ := HI.out.keep HBB.out
  go_wp2_with fail
  refine (CH.out _).mono ?_
  rintro e w2 ⟨v2, rfl, hst⟩
  obtain ⟨a2, c2, rfl, hr2⟩ := hst.1.reads
  rw [HLN.out] at hst hr2 ⊢
  have HB2 := Lib.hid (HBB.out.trans (hst.2.mono HBB.out.size))
  have HBW := Lib.hid (HBA.out.trans (HB2.out.mono HBA.out.size))
  have hzr2 : w.heap.size + 3 ≤ w2.heap.size := by have := HB2.out.size; have := HZ.out; omega
  clear h0 h1 h2 h3 h4 f0 f1 f2 f3 f4 k0 k1 k2 l0 l1 l2 i0 i1 i2 i3 i4 j0 j1 j2 j3 j4 hzb
  obtain ⟨⟨h0, h1, h2, h3, h4⟩, ⟨f0, f1, f2, f3, f4⟩, ⟨k0, k1, k2⟩, ⟨l0, l1, l2⟩⟩ := HX.out.keep HB2.out
  have HI2 := Lib.hid (HI.out.keep HB2.out)
  obtain ⟨⟨i0, i1, i2, i3, i4⟩, ⟨j0, j1, j2, j3, j4⟩⟩ := HI2.out
  have HRD2 := Lib.hid (HRD.out.keep HB2.out)
  clear hst hr2 CH HLN
  go_upto_region 41 with fail
  obtain ⟨wy, hwy⟩ : ∃ W, W = w2.setCell ⟨w.heap.size + 2, 0, none⟩ (.int .i64 4) := ⟨_, rfl⟩
  rw [← hwy]
  have hiy : IBx wy (w.heap.size + 2) 4 0 (.slice none 0 0) ⟨#[]⟩ (.slice none 0 0) := by rw [hwy]; exact HI2.out.set0
  have hcy : Chg (fun i => i = w.heap.size + 2) w2 wy := by
    rw [hwy]
    have hX : (fun i => i = w.heap.size + 2) (w.heap.size + 2) := rfl
    exact Chg.setCell (Chg.refl _ _) (fun _ => hX) _
  clear hwy
  have hb9 : b < w.heap.size := by
    obtain ⟨bb, oo, e, hcc⟩ := h0b.out.at p hpl
    obtain ⟨rfl, -⟩ : bb = b ∧ oo = o := by simpa using (Option.some.inj e).symm
    simpa using cell_block hcc
  have hry : RdB wy (some ⟨b, o, none⟩) n bs := HRD2.out.chg hcy (fun x hx e => by rw [← Option.some.inj hx] at e; have e' : b = w.heap.size + 2 := e; omega)
  have HSY := Lib.hid (HSE.out wy hry)
  have HIY := Lib.hid hiy
  have HBY := Lib.hid (HBW.out.trans ((hcy.below (B := w.heap.size) (by omega) (fun i e => by omega))))
  have HXY := Lib.hid ((HX.out.keep HB2.out).chg hcy (by omega) (by omega))
  have hzy : w.heap.size + 3 ≤ wy.heap.size := by have := hcy.size; omega
  clear hcy hry hiy h0 h1 h2 h3 h4 f0 f1 f2 f3 f4 k0 k1 k2 l0 l1 l2 i0 i1 i2 i3 i4 j0 j1 j2 j3 j4 HI2 HB2 HX hb9
  obtain ⟨⟨i0, i1, i2, i3, i4⟩, ⟨j0, j1, j2, j3, j4⟩⟩ := HIY.out
  have hcv := conv_str HSY.out (0)
  have hts : (txt S).size = nv := by rw [← sl_len, sl_txt]; exact HLS.out
  have CWH := Lib.hid (fun W => rwhole_calls (txt S) (by rw [hts]; omega) W)
  rw [sl_txt, hts] at CWH
  obtain ⟨T, hT⟩ : ∃ T, T = txt S := ⟨_, rfl⟩
  have HTS : Hid (T.size = nv) := by show _ = _; rw [hT]; exact hts
  rw [← hT] at CWH hcv
  have HQ2 : Hid (R = if (wholeTo S == nv) = false then .error (4, p) else .ok (.mk 4 0 [] T .nil, E)) := by show _ = _; rw [HQ.out, hT]
  have HCV : Hid (∀ W, Below wy.heap.size wy W → (convert 23 9 (.slice (some ⟨b, o, none⟩) (E - q) (0))).run Try.prog W = .ok (.string T) W) := Lib.hid (fun W hW => by rw [hT]; exact conv_str (HSY.out.keep hW) (0))
  clear hT hts HQ
  go_wp2_with fail
  refine (CWH.out _).mono ?_
  rintro e w4 ⟨rfl, hb4⟩
  have hcv4 := HCV.out w4 hb4
  clear CWH HCV hcv
  have HBW := Lib.hid (HBY.out.trans (hb4.mono HBY.out.size))
  have HIV := Lib.hid (HIY.out.keep hb4)
  have HXV := Lib.hid (HXY.out.keep hb4)
  have hzv : w.heap.size + 3 ≤ w4.heap.size := by have := hb4.size; omega
  clear i0 i1 i2 i3 i4 j0 j1 j2 j3 j4 hb4
  obtain ⟨⟨i0, i1, i2, i3, i4⟩, ⟨j0, j1, j2, j3, j4⟩⟩ := HIV.out
  cases hw : (wholeTo S == nv) with
  | false =>
    have HR : Hid (R = .error (4, p)) := by show _ = _; rw [HQ2.out, if_pos hw]
    obtain ⟨⟨h0, h1, h2, h3, h4⟩, ⟨f0, f1, f2, f3, f4⟩, ⟨k0, k1, k2⟩, ⟨l0, l1, l2⟩⟩ := HXV.out
    clear hw HQ2
    (repeat (first | go_values | go_skip | go_guarded | go_step | go_upon | (go_simp; go_at_K)))
    refine bodyPost_ret (v := .tuple #[zIt, .int .i64 0, fltV 4 p]) (by simp [results, Try.results34, go_sem, *]) rfl ?_
    rw [HR.out]
    refine rread_err ?_
    (repeat' (first | with_reducible exact HBW.out | with_reducible apply Below.drew | with_reducible refine Below.alloc ?_ (by first | omega | (simp; done) | (simp; omega)) _ | with_reducible refine Below.setCell ?_ (by first | (simp; done) | (simp only []; omega)) _))
  | true =>
    have HR : Hid (R = .ok (.mk 4 0 [] T .nil, E)) := by show _ = _; rw [HQ2.out, if_neg (by rw [hw]; simp)]
    have hT6 : T.size ≤ 1000000 := by rw [HTS.out]; exact hnv6
    clear hw HQ2
    go_upto_region 48 with fail
    obtain ⟨wz, hwz⟩ : ∃ W, W = w4.setCell ⟨w.heap.size + 2, 3, none⟩ (.string T) := ⟨_, rfl⟩
    rw [← hwz]
    have hiz : IBx wz (w.heap.size + 2) 4 0 (.slice none 0 0) T (.slice none 0 0) := by rw [hwz]; exact HIV.out.set3
    have hcz : Chg (fun i => i = w.heap.size + 2) w4 wz := by
      rw [hwz]
      have hX : (fun i => i = w.heap.size + 2) (w.heap.size + 2) := rfl
      exact Chg.setCell (Chg.refl _ _) (fun _ => hX) _
    clear hwz
    have HBW := Lib.hid (HBW.out.trans ((hcz.below (B := w.heap.size) (by omega) (fun i e => by omega))))
    have hbx3 := HXV.out.chg hcz (by omega) (by omega)
    have hzz : w.heap.size + 3 ≤ wz.heap.size := by have := hcz.size; omega
    have HCZ := Lib.hid hcz
    clear i0 i1 i2 i3 i4 j0 j1 j2 j3 j4 hcz
    obtain ⟨⟨h0, h1, h2, h3, h4⟩, ⟨f0, f1, f2, f3, f4⟩, ⟨k0, k1, k2⟩, ⟨l0, l1, l2⟩⟩ := hbx3
    obtain ⟨⟨i0, i1, i2, i3, i4⟩, ⟨j0, j1, j2, j3, j4⟩⟩ := hiz
    go_loopw [16, 19] (fun nx i wr => nx = .int .i64 (E : Nat) ∧ i = .int .u64 0 ∧ wr = wz) (fun _ _ _ => 0)
    case atStart => exact ⟨rfl, rfl, rfl⟩
    case round =>
      obtain ⟨rfl, rfl, rfl⟩ := hrel
      (repeat (first | go_values | go_skip | go_guarded | go_step | go_upon | (go_simp; go_at_K)))
      refine bodyPost_ret (v := .tuple #[.agg #[.int .i64 4, .int .u64 0, .slice none 0 0, .string T, .slice none 0 0], .int .i64 (E : Nat), fltV 0 0]) (by simp [results, Try.results34, go_sem, *]) rfl ?_
      rw [HR.out]
      refine ⟨?_, _, rfl, ?_⟩
      case refine_2 => exact num_it _ _ 4 (by omega) 0 (by decide) T hT6
      (repeat' (first | with_reducible exact HBW.out | with_reducible apply Below.drew | with_reducible refine Below.alloc ?_ (by first | omega | (simp; done) | (simp; omega)) _ | with_reducible refine Below.setCell ?_ (by first | (simp; done) | (simp only []; omega)) _))

set_option maxRecDepth 100000 in
set_option maxHeartbeats 8000000 in
theorem rread_C2s (d : Nat) (hof : RReadSaid d) (a : Option Addr) (n cp : Nat) (bs : List UInt8) (p wi dp : Nat) (w : World) (h : RdB w a n bs) (hn9 : n ≤ 1000000) (hcp : n ≤ cp) (hpn : p ≤ n) (hd : dp = wi + (d + 1)) (hd9 : dp ≤ 1000) (hlen : ¬ n ≤ p) (m low : Nat) (hm : m = bAt bs p / 32) (hlw : low = bAt bs p % 32) (h27 : ¬ 27 < low) (hsh : ¬ n < p + 1 + sizeL low) (h24 : 24 ≤ low) (hmv : m = 2) (hnd : needN (numL bs p low) = wideB low) (hsr : n < p + 1 + sizeL low + numL bs p low) :
    Calls Try.prog 34 #[.slice a n cp, .int .i64 (p : Nat), .int .i64 (wi : Nat), .int .i64 (dp : Nat)] w (RReadO w (readQ bs (d + 1) p)) := by
  obtain ⟨wa, hwa⟩ : ∃ W, W = ((w.alloc (.cells #[.int .i64 0, .int .u64 0, .slice none 0 0, .string ⟨#[]⟩, .slice none 0 0] 26)).alloc (.cells #[.int .i64 0, .int .i64 0, .slice none 0 0] 35)).alloc (.cells #[.int .i64 0, .int .u64 0, .slice none 0 0, .string ⟨#[]⟩, .slice none 0 0] 26) := ⟨_, rfl⟩
  have hba : Below w.heap.size w wa := by
    rw [hwa]
    exact (((Below.refl _ _).alloc (Nat.le_refl _) _).alloc (by simp) _).alloc (by simp; omega) _
  have hbx : RBx wa w.heap.size (w.heap.size + 1) ∧ IBx wa (w.heap.size + 2) 0 0 (.slice none 0 0) ⟨#[]⟩ (.slice none 0 0) := by rw [hwa]; exact three _ _ _
  have hz : wa.heap.size = w.heap.size + 3 := by rw [hwa]; simp
  have HX := Lib.hid hbx.1
  have HI := Lib.hid hbx.2
  have HZ := Lib.hid hz
  have HRD := Lib.hid (h.keep hba)
  have HBA := Lib.hid hba
  have HBW := Lib.hid hba
  have hbl : bs.length = n := h.1
  have hzr : 0 < wa.heap.size := by omega
  obtain ⟨R, hR⟩ : ∃ R, R = readQ bs (d + 1) p := ⟨_, rfl⟩
  rw [← hR]
  rw [readQ, hbl] at hR
  have d1 : decide ((dp : Int) ≤ (wi : Int)) = false := by simp; omega
  have d2 : decide (dp ≤ wi) = false := by simp; omega
  have wwi : IntKind.i64.wrap ((wi : Int) + 1) = ((wi + 1 : Nat) : Int) := (IntWalk.i64_in _ (by omega)).trans (by omega)
  have CRD : Hid (∀ W q, RdB W a n bs → q ≤ n → Calls Try.prog 34 #[.slice a n cp, .int .i64 (q : Nat), .int .i64 ((wi + 1 : Nat) : Int), .int .i64 (dp : Nat)] W (RReadO W (readQ bs d q))) := Lib.hid (fun W q hW hq => hof a n cp bs q (wi + 1) dp W hW hn9 hcp hq (by omega) hd9)
  obtain ⟨wj, hwj⟩ : ∃ x, x = wi + 1 := ⟨_, rfl⟩
  rw [← hwj] at wwi CRD
  clear hwj hof
  rw [if_neg hlen] at hR
  have dl : decide ((n : Int) ≤ (p : Int)) = false := by simp; omega
  have dl2 : decide (n ≤ p) = false := by simp; omega
  have hpl : p < n := by omega
  obtain ⟨b, o, rfl, hat⟩ := HRD.out.at p hpl
  have hc9 := bAt_lt bs p
  obtain ⟨c, hc⟩ : ∃ c, c = bAt bs p := ⟨_, rfl⟩
  rw [← hc] at hat hc9 hR hm hlw
  have wq : (c : Int).tdiv 32 = (m : Int) := by rw [Int.tdiv_eq_ediv_of_nonneg (by omega)]; omega
  have wr : (c : Int).tmod 32 = (low : Int) := by rw [Int.tmod_eq_emod_of_nonneg (by omega)]; omega
  have wq8 : IntKind.u8.wrap (m : Int) = (m : Int) := IntWalk.u8_in _ (by omega)
  have wr8 : IntKind.u8.wrap (low : Int) = (low : Int) := IntWalk.u8_in _ (by omega)
  have wq2 : IntKind.i64.wrap (m : Int) = (m : Int) := IntWalk.i64_in _ (by omega)
  have wr2 : IntKind.i64.wrap (low : Int) = (low : Int) := IntWalk.i64_in _ (by omega)
  have hm7 : m ≤ 7 := by omega
  rw [← hm, ← hlw] at hR
  have ip0 : (0 : Int) ≤ (p : Int) := by omega
  have ip1 : (p : Int) < (n : Int) := by omega
  clear hc hm hlw hc9 hlen
  rw [if_neg h27] at hR
  have g1 : decide ((27 : Int) < (low : Int)) = false := by simp; omega
  have g1n : decide (27 < low) = false := by simp; omega
  obtain ⟨x1, hx1⟩ : ∃ x, x = n - p := ⟨_, rfl⟩
  obtain ⟨x2, hx2⟩ : ∃ x, x = n - p - 1 := ⟨_, rfl⟩
  have wx1 : IntKind.i64.wrap ((n : Int) - (p : Int)) = (x1 : Int) := (IntWalk.i64_in _ (by omega)).trans (by omega)
  have wx2 : IntKind.i64.wrap ((x1 : Int) - 1) = (x2 : Int) := (IntWalk.i64_in _ (by omega)).trans (by omega)
  have q1 : decide ((24 : Int) ≤ (low : Int)) = true := by simp; omega
  have q1n : decide (24 ≤ low) = true := by simp; omega
  have e1 : sizeL low = wideB low := if_neg (by omega)
  rw [e1] at hR hsh hsr
  obtain ⟨sh, hsh2⟩ : ∃ k, k = low - 24 := ⟨_, rfl⟩
  obtain ⟨Wd, hWd⟩ : ∃ k, k = wideB low := ⟨_, rfl⟩
  have wsh : IntKind.i64.wrap ((low : Int) - 24) = (sh : Int) := (IntWalk.i64_in _ (by omega)).trans (by omega)
  have wsu : IntKind.u64.wrap (sh : Int) = (sh : Int) := IntWalk.u64_in _ (by omega)
  have hpw : (2 : Int) ^ sh = (Wd : Int) := by
    rw [hWd, hsh2]
    have : low = 24 ∨ low = 25 ∨ low = 26 ∨ low = 27 := by omega
    rcases this with rfl | rfl | rfl | rfl <;> rfl
  have hW8 : Wd ≤ 8 := by rw [hWd]; exact (wideB_le _).2
  have hW1 : 1 ≤ Wd := by rw [hWd]; exact (wideB_le _).1
  have wW : IntKind.i64.wrap (Wd : Int) = (Wd : Int) := IntWalk.i64_in _ (by omega)
  have ws4' : wrap64 (Wd : Int) = (Wd : Int) := by unfold wrap64; omega
  have ws0 : (0 : Int) ≤ (sh : Int) := by omega
  have hms : min sh 64 = sh := by omega
  have HWS : Hid (IntKind.i64.wrap (1 * 2 ^ sh) = (Wd : Int) ∧ IntKind.i64.wrap (2 ^ sh) = (Wd : Int) ∧ wrap64 (2 ^ min sh 64) = (Wd : Int)) := Lib.hid ⟨by rw [Int.one_mul, hpw]; exact wW, by rw [hpw]; exact wW, by rw [hms, hpw]; exact ws4'⟩
  clear hpw hms ws4'
  have ws3 : decide ((sh : Int) < 0) = false := by simp
  rw [← hWd] at hR hsh hsr
  rw [if_neg hsh] at hR
  have q3 : decide ((x2 : Int) < (Wd : Int)) = false := by simp; omega
  have q3n : decide (x2 < Wd) = false := by simp; omega
  have q4 : decide ((0 : Int) < (Wd : Int)) = true := by simp; omega
  have q4n : decide (0 < Wd) = true := by simp; omega
  have en : numL bs p low = be (seg bs (p + 1) Wd) := by rw [hWd]; exact if_neg (by omega)
  have CN := Lib.hid (fun W hW => high_yes (some ⟨b, o, none⟩) n cp (p + 1) Wd W bs hW (by omega) hW1 hW8)
  rw [← en] at CN
  have hnv9 : numL bs p low < okSize := numL_lt bs p low (by omega) (by rw [e1, ← hWd, hbl]; omega)
  obtain ⟨nv, hnv⟩ : ∃ x, x = numL bs p low := ⟨_, rfl⟩
  rw [← hnv] at CN hnv9 hR hnd hsr
  obtain ⟨p1, hp1⟩ : ∃ x, x = p + 1 := ⟨_, rfl⟩
  have wp1 : IntKind.i64.wrap ((p : Int) + 1) = (p1 : Int) := (IntWalk.i64_in _ (by omega)).trans (by omega)
  rw [← hp1] at CN hR hsr
  obtain ⟨q, hq⟩ : ∃ q, q = p1 + Wd := ⟨_, rfl⟩
  have wp2 : IntKind.i64.wrap ((p1 : Int) + (Wd : Int)) = (q : Int) := (IntWalk.i64_in _ (by omega)).trans (by omega)
  have wlw : IntKind.u64.wrap (low : Int) = (low : Int) := IntWalk.u64_in _ (by omega)
  rw [← hq] at hR hsr
  have hqn : q ≤ n := by omega
  have HWd := Lib.hid hWd
  have HND : Hid (needN nv = Wd) := hnd.trans HWd.out.symm
  clear hsh hx1 hx2 e1 en hnv hq hp1 hsh2 hWd
  have HR : Hid (R = .error (2, p)) := by show _ = _; rw [hR]; unfold behQ; rw [if_neg (by omega), if_neg (fun h => h.2 hnd), if_neg (by omega), if_neg (by omega), if_pos (by omega)]; unfold rowQ; rw [hbl, if_pos hsr]
  obtain ⟨Lf, hLf⟩ : ∃ L, L = n - q := ⟨_, rfl⟩
  have wl1 : IntKind.i64.wrap ((n : Int) - (q : Int)) = (Lf : Int) := (IntWalk.i64_in _ (by omega)).trans (by omega)
  have wl2 : IntKind.u64.wrap (Lf : Int) = (Lf : Int) := IntWalk.u64_in _ (by omega)
  have g5 : decide ((Lf : Int) < (nv : Int)) = true := by simp; omega
  have g5n : decide (Lf < nv) = true := by simp; omega
  obtain ⟨hl2, hhl2⟩ : ∃ x, x = (headB m nv).length := ⟨_, rfl⟩
  have HLN : Hid ((headB m nv).length = hl2) := hhl2.symm
  rw [headB_len, HND.out] at hhl2
  have w1W : IntKind.i64.wrap (1 + (Wd : Int)) = (hl2 : Int) := (IntWalk.i64_in _ (by omega)).trans (by omega)
  have hln : ((hl2 : Int) != (hl2 : Int)) = false := by simp
  clear hhl2
  subst hmv
  have CH := Lib.hid (fun W => rhead_calls (2 : Nat) 2 rfl (by omega) nv hnv9 W)
  clear hR hLf hsr CRD h24 hnd
  obtain ⟨⟨h0, h1, h2, h3, h4⟩, ⟨f0, f1, f2, f3, f4⟩, ⟨k0, k1, k2⟩, ⟨l0, l1, l2⟩⟩ := HX.out
  obtain ⟨⟨i0, i1, i2, i3, i4⟩, ⟨j0, j1, j2, j3, j4⟩⟩ := HI.out
  clear h hba hbx hz hd hd9 hcp
  obtain ⟨ws1, ws2, ws4⟩ := HWS.out
  go_enter Try.func34, Try.ntmps34
  go_upto_region 2 with fail
  rw [← hwa]
  clear hwa
  go_wp2_with fail
  go_quiet (fail)
  obtain ⟨wb, hwb⟩ : ∃ W, W = wa.drewN nq := ⟨_, rfl⟩
  have hbb : Below wa.heap.size wa wb := by rw [hwb]; exact below_drewN wa nq wa.heap.size
  rw [← hwb]
  clear hwb
  have HBB := Lib.hid hbb
  have HBW := Lib.hid (HBA.out.trans (hbb.mono HBA.out.size))
  have hzb : w.heap.size + 3 ≤ wb.heap.size := by have := hbb.size; have := HZ.out; omega
  clear hbb h0 h1 h2 h3 h4 f0 f1 f2 f3 f4 k0 k1 k2 l0 l1 l2 i0 i1 i2 i3 i4 j0 j1 j2 j3 j4 hat
  obtain ⟨⟨h0, h1, h2, h3, h4⟩, ⟨f0, f1, f2, f3, f4⟩, ⟨k0, k1, k2⟩, ⟨l0, l1, l2⟩⟩ := HX.out.keep HBB.out
  obtain ⟨⟨i0, i1, i2, i3, i4⟩, ⟨j0, j1, j2, j3, j4⟩⟩ := HI.out.keep HBB.out
  go_wp2_with fail
  refine (CN.out wb (HRD.out.keep HBB.out)).mono ?_
  rintro e w1 ⟨rfl, rfl⟩
  go_wp2_with fail
  refine (CH.out _).mono ?_
  rintro e w2 ⟨v2, rfl, hst⟩
  obtain ⟨a2, c2, rfl, hr2⟩ := hst.1.reads
  rw [HLN.out] at hst hr2 ⊢
  have HB2 := Lib.hid (HBB.out.trans (hst.2.mono HBB.out.size))
  have HBW := Lib.hid (HBA.out.trans (HB2.out.mono HBA.out.size))
  have hzr2 : w.heap.size + 3 ≤ w2.heap.size := by have := HB2.out.size; have := HZ.out; omega
  clear h0 h1 h2 h3 h4 f0 f1 f2 f3 f4 k0 k1 k2 l0 l1 l2 i0 i1 i2 i3 i4 j0 j1 j2 j3 j4 hzb
  obtain ⟨⟨h0, h1, h2, h3, h4⟩, ⟨f0, f1, f2, f3, f4⟩, ⟨k0, k1, k2⟩, ⟨l0, l1, l2⟩⟩ := HX.out.keep HB2.out
  have HI2 := Lib.hid (HI.out.keep HB2.out)
  obtain ⟨⟨i0, i1, i2, i3, i4⟩, ⟨j0, j1, j2, j3, j4⟩⟩ := HI2.out
  have HRD2 := Lib.hid (HRD.out.keep HB2.out)
  clear hst hr2 CH HLN
  (repeat (first | go_values | go_skip | go_guarded | go_step | go_upon | (go_simp; go_at_K)))
  refine bodyPost_ret (v := .tuple #[zIt, .int .i64 0, fltV 2 p]) (by simp [results, Try.results34, go_sem, *]) rfl ?_
  rw [HR.out]
  refine rread_err ?_
  (repeat' (first | with_reducible exact HBW.out | with_reducible apply Below.drew | with_reducible refine Below.alloc ?_ (by first | omega | (simp; done) | (simp; omega)) _ | with_reducible refine Below.setCell ?_ (by first | (simp; done) | (simp only []; omega)) _))

set_option maxRecDepth 100000 in
set_option maxHeartbeats 8000000 in
theorem rread_C2 (d : Nat) (hof : RReadSaid d) (a : Option Addr) (n cp : Nat) (bs : List UInt8) (p wi dp : Nat) (w : World) (h : RdB w a n bs) (hn9 : n ≤ 1000000) (hcp : n ≤ cp) (hpn : p ≤ n) (hd : dp = wi + (d + 1)) (hd9 : dp ≤ 1000) (hlen : ¬ n ≤ p) (m low : Nat) (hm : m = bAt bs p / 32) (hlw : low = bAt bs p % 32) (h27 : ¬ 27 < low) (hsh : ¬ n < p + 1 + sizeL low) (h24 : 24 ≤ low) (hmv : m = 2) (hnd : needN (numL bs p low) = wideB low) (hsr : ¬ n < p + 1 + sizeL low + numL bs p low) (hcq : ¬ cp = p + 1 + sizeL low) :
    Calls Try.prog 34 #[.slice a n cp, .int .i64 (p : Nat), .int .i64 (wi : Nat), .int .i64 (dp : Nat)] w (RReadO w (readQ bs (d + 1) p)) := by
  obtain ⟨wa, hwa⟩ : ∃ W, W = ((w.alloc (.cells #[.int .i64 0, .int .u64 0, .slice none 0 0, .string ⟨#[]⟩, .slice none 0 0] 26)).alloc (.cells #[.int .i64 0, .int .i64 0, .slice none 0 0] 35)).alloc (.cells #[.int .i64 0, .int .u64 0, .slice none 0 0, .string ⟨#[]⟩, .slice none 0 0] 26) := ⟨_, rfl⟩
  have hba : Below w.heap.size w wa := by
    rw [hwa]
    exact (((Below.refl _ _).alloc (Nat.le_refl _) _).alloc (by simp) _).alloc (by simp; omega) _
  have hbx : RBx wa w.heap.size (w.heap.size + 1) ∧ IBx wa (w.heap.size + 2) 0 0 (.slice none 0 0) ⟨#[]⟩ (.slice none 0 0) := by rw [hwa]; exact three _ _ _
  have hz : wa.heap.size = w.heap.size + 3 := by rw [hwa]; simp
  have HX := Lib.hid hbx.1
  have HI := Lib.hid hbx.2
  have HZ := Lib.hid hz
  have HRD := Lib.hid (h.keep hba)
  have HBA := Lib.hid hba
  have HBW := Lib.hid hba
  have hbl : bs.length = n := h.1
  have hzr : 0 < wa.heap.size := by omega
  obtain ⟨R, hR⟩ : ∃ R, R = readQ bs (d + 1) p := ⟨_, rfl⟩
  rw [← hR]
  rw [readQ, hbl] at hR
  have d1 : decide ((dp : Int) ≤ (wi : Int)) = false := by simp; omega
  have d2 : decide (dp ≤ wi) = false := by simp; omega
  have wwi : IntKind.i64.wrap ((wi : Int) + 1) = ((wi + 1 : Nat) : Int) := (IntWalk.i64_in _ (by omega)).trans (by omega)
  have CRD : Hid (∀ W q, RdB W a n bs → q ≤ n → Calls Try.prog 34 #[.slice a n cp, .int .i64 (q : Nat), .int .i64 ((wi + 1 : Nat) : Int), .int .i64 (dp : Nat)] W (RReadO W (readQ bs d q))) := Lib.hid (fun W q hW hq => hof a n cp bs q (wi + 1) dp W hW hn9 hcp hq (by omega) hd9)
  obtain ⟨wj, hwj⟩ : ∃ x, x = wi + 1 := ⟨_, rfl⟩
  rw [← hwj] at wwi CRD
  clear hwj hof
  have h0b := Lib.hid h
  rw [if_neg hlen] at hR
  have dl : decide ((n : Int) ≤ (p : Int)) = false := by simp; omega
  have dl2 : decide (n ≤ p) = false := by simp; omega
  have hpl : p < n := by omega
  obtain ⟨b, o, rfl, hat⟩ := HRD.out.at p hpl
  have hc9 := bAt_lt bs p
  obtain ⟨c, hc⟩ : ∃ c, c = bAt bs p := ⟨_, rfl⟩
  rw [← hc] at hat hc9 hR hm hlw
  have wq : (c : Int).tdiv 32 = (m : Int) := by rw [Int.tdiv_eq_ediv_of_nonneg (by omega)]; omega
  have wr : (c : Int).tmod 32 = (low : Int) := by rw [Int.tmod_eq_emod_of_nonneg (by omega)]; omega
  have wq8 : IntKind.u8.wrap (m : Int) = (m : Int) := IntWalk.u8_in _ (by omega)
  have wr8 : IntKind.u8.wrap (low : Int) = (low : Int) := IntWalk.u8_in _ (by omega)
  have wq2 : IntKind.i64.wrap (m : Int) = (m : Int) := IntWalk.i64_in _ (by omega)
  have wr2 : IntKind.i64.wrap (low : Int) = (low : Int) := IntWalk.i64_in _ (by omega)
  have hm7 : m ≤ 7 := by omega
  rw [← hm, ← hlw] at hR
  have ip0 : (0 : Int) ≤ (p : Int) := by omega
  have ip1 : (p : Int) < (n : Int) := by omega
  clear hc hm hlw hc9 hlen
  rw [if_neg h27] at hR
  have g1 : decide ((27 : Int) < (low : Int)) = false := by simp; omega
  have g1n : decide (27 < low) = false := by simp; omega
  obtain ⟨x1, hx1⟩ : ∃ x, x = n - p := ⟨_, rfl⟩
  obtain ⟨x2, hx2⟩ : ∃ x, x = n - p - 1 := ⟨_, rfl⟩
  have wx1 : IntKind.i64.wrap ((n : Int) - (p : Int)) = (x1 : Int) := (IntWalk.i64_in _ (by omega)).trans (by omega)
  have wx2 : IntKind.i64.wrap ((x1 : Int) - 1) = (x2 : Int) := (IntWalk.i64_in _ (by omega)).trans (by omega)
  have q1 : decide ((24 : Int) ≤ (low : Int)) = true := by simp; omega
  have q1n : decide (24 ≤ low) = true := by simp; omega
  have e1 : sizeL low = wideB low := if_neg (by omega)
  rw [e1] at hR hsh hsr hcq
  obtain ⟨sh, hsh2⟩ : ∃ k, k = low - 24 := ⟨_, rfl⟩
  obtain ⟨Wd, hWd⟩ : ∃ k, k = wideB low := ⟨_, rfl⟩
  have wsh : IntKind.i64.wrap ((low : Int) - 24) = (sh : Int) := (IntWalk.i64_in _ (by omega)).trans (by omega)
  have wsu : IntKind.u64.wrap (sh : Int) = (sh : Int) := IntWalk.u64_in _ (by omega)
  have hpw : (2 : Int) ^ sh = (Wd : Int) := by
    rw [hWd, hsh2]
    have : low = 24 ∨ low = 25 ∨ low = 26 ∨ low = 27 := by omega
    rcases this with rfl | rfl | rfl | rfl <;> rfl
  have hW8 : Wd ≤ 8 := by rw [hWd]; exact (wideB_le _).2
  have hW1 : 1 ≤ Wd := by rw [hWd]; exact (wideB_le _).1
  have wW : IntKind.i64.wrap (Wd : Int) = (Wd : Int) := IntWalk.i64_in _ (by omega)
  have ws4' : wrap64 (Wd : Int) = (Wd : Int) := by unfold wrap64; omega
  have ws0 : (0 : Int) ≤ (sh : Int) := by omega
  have hms : min sh 64 = sh := by omega
  have HWS : Hid (IntKind.i64.wrap (1 * 2 ^ sh) = (Wd : Int) ∧ IntKind.i64.wrap (2 ^ sh) = (Wd : Int) ∧ wrap64 (2 ^ min sh 64) = (Wd : Int)) := Lib.hid ⟨by rw [Int.one_mul, hpw]; exact wW, by rw [hpw]; exact wW, by rw [hms, hpw]; exact ws4'⟩
  clear hpw hms ws4'
  have ws3 : decide ((sh : Int) < 0) = false := by simp
  rw [← hWd] at hR hsh hsr hcq
  rw [if_neg hsh] at hR
  have q3 : decide ((x2 : Int) < (Wd : Int)) = false := by simp; omega
  have q3n : decide (x2 < Wd) = false := by simp; omega
  have q4 : decide ((0 : Int) < (Wd : Int)) = true := by simp; omega
  have q4n : decide (0 < Wd) = true := by simp; omega
  have en : numL bs p low = be (seg bs (p + 1) Wd) := by rw [hWd]; exact if_neg (by omega)
  have CN := Lib.hid (fun W hW => high_yes (some ⟨b, o, none⟩) n cp (p + 1) Wd W bs hW (by omega) hW1 hW8)
  rw [← en] at CN
  have hnv9 : numL bs p low < okSize := numL_lt bs p low (by omega) (by rw [e1, ← hWd, hbl]; omega)
  obtain ⟨nv, hnv⟩ : ∃ x, x = numL bs p low := ⟨_, rfl⟩
  rw [← hnv] at CN hnv9 hR hnd hsr
  obtain ⟨p1, hp1⟩ : ∃ x, x = p + 1 := ⟨_, rfl⟩
  have wp1 : IntKind.i64.wrap ((p : Int) + 1) = (p1 : Int) := (IntWalk.i64_in _ (by omega)).trans (by omega)
  rw [← hp1] at CN hR hsr hcq
  obtain ⟨q, hq⟩ : ∃ q, q = p1 + Wd := ⟨_, rfl⟩
  have wp2 : IntKind.i64.wrap ((p1 : Int) + (Wd : Int)) = (q : Int) := (IntWalk.i64_in _ (by omega)).trans (by omega)
  have wlw : IntKind.u64.wrap (low : Int) = (low : Int) := IntWalk.u64_in _ (by omega)
  rw [← hq] at hR hsr hcq
  have hqn : q ≤ n := by omega
  have HWd := Lib.hid hWd
  have HND : Hid (needN nv = Wd) := hnd.trans HWd.out.symm
  clear hsh hx1 hx2 e1 en hnv hq hp1 hsh2 hWd
  obtain ⟨Lf, hLf⟩ : ∃ L, L = n - q := ⟨_, rfl⟩
  have wl1 : IntKind.i64.wrap ((n : Int) - (q : Int)) = (Lf : Int) := (IntWalk.i64_in _ (by omega)).trans (by omega)
  have wl2 : IntKind.u64.wrap (Lf : Int) = (Lf : Int) := IntWalk.u64_in _ (by omega)
  have hle : q + nv ≤ n := by omega
  have g5 : decide ((Lf : Int) < (nv : Int)) = false := by simp; omega
  have g5n : decide (Lf < nv) = false := by simp; omega
  have wn : IntKind.i64.wrap (nv : Int) = (nv : Int) := IntWalk.i64_in _ (by omega)
  obtain ⟨E, hE⟩ : ∃ x, x = q + nv := ⟨_, rfl⟩
  have wE : IntKind.i64.wrap ((q : Int) + (nv : Int)) = (E : Int) := (IntWalk.i64_in _ (by omega)).trans (by omega)
  have r1 : (0 : Int) ≤ (q : Int) := by omega
  have r2 : (q : Int) ≤ (E : Int) := by omega
  have r3 : (E : Int) ≤ (cp : Int) := by omega
  obtain ⟨S, hS⟩ : ∃ S, S = seg bs q nv := ⟨_, rfl⟩
  have HLS : Hid (S.length = nv) := by show _ = _; rw [hS]; exact seg_length _ _ _ (by rw [hbl]; omega)
  have hnv6 : nv ≤ 1000000 := by omega
  have hEq : E - q = nv := by omega
  have r4 : ¬ cp = q := by omega
  have r5 : ¬ q = cp := by omega
  have HSE : Hid (∀ W, RdB W (some ⟨b, o, none⟩) n bs → RdB W (some ⟨b, o + q, none⟩) (E - q) S) := Lib.hid (fun W h => by rw [hS, hEq]; exact rd_seg28 h hle)
  have HR : Hid (R = .ok (.mk 3 0 S ⟨#[]⟩ .nil, E)) := by show _ = _; rw [hR]; unfold behQ; rw [if_neg (by omega), if_neg (fun h => h.2 hnd), if_neg (by omega), if_neg (by omega), if_pos (by omega)]; unfold rowQ; rw [hbl, if_neg hsr, if_pos hmv, ← hS, ← hE]
  obtain ⟨hl2, hhl2⟩ : ∃ x, x = (headB m nv).length := ⟨_, rfl⟩
  have HLN : Hid ((headB m nv).length = hl2) := hhl2.symm
  rw [headB_len, HND.out] at hhl2
  have w1W : IntKind.i64.wrap (1 + (Wd : Int)) = (hl2 : Int) := (IntWalk.i64_in _ (by omega)).trans (by omega)
  have hln : ((hl2 : Int) != (hl2 : Int)) = false := by simp
  clear hhl2
  subst hmv
  have CH := Lib.hid (fun W => rhead_calls (2 : Nat) 2 rfl (by omega) nv hnv9 W)
  clear hS hE hEq hle hsr hLf
  clear hR CRD h24 hnd
  obtain ⟨⟨h0, h1, h2, h3, h4⟩, ⟨f0, f1, f2, f3, f4⟩, ⟨k0, k1, k2⟩, ⟨l0, l1, l2⟩⟩ := HX.out
  obtain ⟨⟨i0, i1, i2, i3, i4⟩, ⟨j0, j1, j2, j3, j4⟩⟩ := HI.out
  clear h hba hbx hz hd hd9 hcp
  clear hcq
  obtain ⟨ws1, ws2, ws4⟩ := HWS.out
  go_enter Try.func34, Try.ntmps34
  go_upto_region 2 with fail
  rw [← hwa]
  clear hwa
  go_wp2_with fail
  go_quiet (fail)
  obtain ⟨wb, hwb⟩ : ∃ W, W = wa.drewN nq := ⟨_, rfl⟩
  have hbb : Below wa.heap.size wa wb := by rw [hwb]; exact below_drewN wa nq wa.heap.size
  rw [← hwb]
  clear hwb
  have HBB := Lib.hid hbb
  have HBW := Lib.hid (HBA.out.trans (hbb.mono HBA.out.size))
  have hzb : w.heap.size + 3 ≤ wb.heap.size := by have := hbb.size; have := HZ.out; omega
  clear hbb h0 h1 h2 h3 h4 f0 f1 f2 f3 f4 k0 k1 k2 l0 l1 l2 i0 i1 i2 i3 i4 j0 j1 j2 j3 j4 hat
  obtain ⟨⟨h0, h1, h2, h3, h4⟩, ⟨f0, f1, f2, f3, f4⟩, ⟨k0, k1, k2⟩, ⟨l0, l1, l2⟩⟩ := HX.out.keep HBB.out
  obtain ⟨⟨i0, i1, i2, i3, i4⟩, ⟨j0, j1, j2, j3, j4⟩⟩ := HI.out.keep HBB.out
  go_wp2_with fail
  refine (CN.out wb (HRD.out.keep HBB.out)).mono ?_
  rintro e w1 ⟨rfl, rfl⟩
  go_wp2_with fail
  refine (CH.out _).mono ?_
  rintro e w2 ⟨v2, rfl, hst⟩
  obtain ⟨a2, c2, rfl, hr2⟩ := hst.1.reads
  rw [HLN.out] at hst hr2 ⊢
  have HB2 := Lib.hid (HBB.out.trans (hst.2.mono HBB.out.size))
  have HBW := Lib.hid (HBA.out.trans (HB2.out.mono HBA.out.size))
  have hzr2 : w.heap.size + 3 ≤ w2.heap.size := by have := HB2.out.size; have := HZ.out; omega
  clear h0 h1 h2 h3 h4 f0 f1 f2 f3 f4 k0 k1 k2 l0 l1 l2 i0 i1 i2 i3 i4 j0 j1 j2 j3 j4 hzb
  obtain ⟨⟨h0, h1, h2, h3, h4⟩, ⟨f0, f1, f2, f3, f4⟩, ⟨k0, k1, k2⟩, ⟨l0, l1, l2⟩⟩ := HX.out.keep HB2.out
  have HI2 := Lib.hid (HI.out.keep HB2.out)
  obtain ⟨⟨i0, i1, i2, i3, i4⟩, ⟨j0, j1, j2, j3, j4⟩⟩ := HI2.out
  have HRD2 := Lib.hid (HRD.out.keep HB2.out)
  clear hst hr2 CH HLN
  go_upto_region 40 with fail
  obtain ⟨wy, hwy⟩ : ∃ W, W = w2.setCell ⟨w.heap.size + 2, 0, none⟩ (.int .i64 3) := ⟨_, rfl⟩
  rw [← hwy]
  have hiy : IBx wy (w.heap.size + 2) 3 0 (.slice none 0 0) ⟨#[]⟩ (.slice none 0 0) := by rw [hwy]; exact HI2.out.set0
  have hcy : Chg (fun i => i = w.heap.size + 2) w2 wy := by
    rw [hwy]
    have hX : (fun i => i = w.heap.size + 2) (w.heap.size + 2) := rfl
    exact Chg.setCell (Chg.refl _ _) (fun _ => hX) _
  clear hwy
  have hb9 : b < w.heap.size := by
    obtain ⟨bb, oo, e, hcc⟩ := h0b.out.at p hpl
    obtain ⟨rfl, -⟩ : bb = b ∧ oo = o := by simpa using (Option.some.inj e).symm
    simpa using cell_block hcc
  have hry : RdB wy (some ⟨b, o, none⟩) n bs := HRD2.out.chg hcy (fun x hx e => by rw [← Option.some.inj hx] at e; have e' : b = w.heap.size + 2 := e; omega)
  have HSY := Lib.hid (HSE.out wy hry)
  have HIY := Lib.hid hiy
  have HBY := Lib.hid (HBW.out.trans ((hcy.below (B := w.heap.size) (by omega) (fun i e => by omega))))
  have HXY := Lib.hid ((HX.out.keep HB2.out).chg hcy (by omega) (by omega))
  have hzy : w.heap.size + 3 ≤ wy.heap.size := by have := hcy.size; omega
  clear hcy hry hiy h0 h1 h2 h3 h4 f0 f1 f2 f3 f4 k0 k1 k2 l0 l1 l2 i0 i1 i2 i3 i4 j0 j1 j2 j3 j4 HI2 HB2 HX hb9
  obtain ⟨⟨i0, i1, i2, i3, i4⟩, ⟨j0, j1, j2, j3, j4⟩⟩ := HIY.out
  have HE : Hid (OwnB (wy.alloc (.cells #[] 5)) wy.heap.size (.slice (some ⟨wy.heap.size, 0, none⟩) 0 0) []) := ownB_empty28 (heap_alloc_new wy _) (Nat.le_refl _)
  have HSS : Hid (SrcB (wy.alloc (.cells #[] 5)) (.slice (some ⟨b, o + q, none⟩) (E - q) (cp - q)) S) := Lib.hid ⟨_, _, _, rfl, HSY.out.keep ((Below.refl _ _).alloc (Nat.le_refl _) _), by simp⟩
  go_wp2_with (at_builtin; refine wpList_appB (v := .slice (some ⟨wy.heap.size, 0, none⟩) 0 0) (bs := []) (sv := .slice (some ⟨b, o + q, none⟩) (E - q) (cp - q)) (l := S) (B := wy.heap.size) (by rfl) _ _ (by rfl) (by rfl) HE.out (by rfl) HSS.out ?o2 ?o3 ?_)
  case o2 => have := HLS.out; simp only [List.length_nil]; omega
  case o3 => simp
  intro v4 w4 ho4 ha4
  have hb4 : Below wy.heap.size wy w4 := ha4.below ((Below.refl _ _).alloc (Nat.le_refl _) _) (by simp) (fun i hi => by have : wy.heap.size = i := Option.some.inj hi; omega)
  obtain ⟨a4, c4, rfl, -⟩ := ho4.reads
  rw [HLS.out] at ho4 ⊢
  have HO4 := Lib.hid ho4
  clear ho4 ha4
  have HBW := Lib.hid (HBY.out.trans (hb4.mono HBY.out.size))
  have HIV := Lib.hid (HIY.out.keep hb4)
  have HXV := Lib.hid (HXY.out.keep hb4)
  have hzv : w.heap.size + 3 ≤ w4.heap.size := by have := hb4.size; omega
  clear i0 i1 i2 i3 i4 j0 j1 j2 j3 j4 hb4
  obtain ⟨⟨i0, i1, i2, i3, i4⟩, ⟨j0, j1, j2, j3, j4⟩⟩ := HIV.out
  go_upto_region 48 with fail
  obtain ⟨wz, hwz⟩ : ∃ W, W = w4.setCell ⟨w.heap.size + 2, 2, none⟩ (.slice a4 nv c4) := ⟨_, rfl⟩
  rw [← hwz]
  have hiz : IBx wz (w.heap.size + 2) 3 0 (.slice a4 nv c4) ⟨#[]⟩ (.slice none 0 0) := by rw [hwz]; exact HIV.out.set2
  have hcz : Chg (fun i => i = w.heap.size + 2) w4 wz := by
    rw [hwz]
    have hX : (fun i => i = w.heap.size + 2) (w.heap.size + 2) := rfl
    exact Chg.setCell (Chg.refl _ _) (fun _ => hX) _
  clear hwz
  have HBW := Lib.hid (HBW.out.trans ((hcz.below (B := w.heap.size) (by omega) (fun i e => by omega))))
  have hbx3 := HXV.out.chg hcz (by omega) (by omega)
  have hzz : w.heap.size + 3 ≤ wz.heap.size := by have := hcz.size; omega
  have HCZ := Lib.hid hcz
  clear i0 i1 i2 i3 i4 j0 j1 j2 j3 j4 hcz
  obtain ⟨⟨h0, h1, h2, h3, h4⟩, ⟨f0, f1, f2, f3, f4⟩, ⟨k0, k1, k2⟩, ⟨l0, l1, l2⟩⟩ := hbx3
  obtain ⟨⟨i0, i1, i2, i3, i4⟩, ⟨j0, j1, j2, j3, j4⟩⟩ := hiz
  go_loopw [16, 19] (fun nx i wr => nx = .int .i64 (E : Nat) ∧ i = .int .u64 0 ∧ wr = wz) (fun _ _ _ => 0)
  case atStart => exact ⟨rfl, rfl, rfl⟩
  case round =>
    obtain ⟨rfl, rfl, rfl⟩ := hrel
    (repeat (first | go_values | go_skip | go_guarded | go_step | go_upon | (go_simp; go_at_K)))
    refine bodyPost_ret (v := .tuple #[.agg #[.int .i64 3, .int .u64 0, .slice a4 nv c4, .string ⟨#[]⟩, .slice none 0 0], .int .i64 (E : Nat), fltV 0 0]) (by simp [results, Try.results34, go_sem, *]) rfl ?_
    rw [HR.out]
    refine ⟨?_, _, rfl, ?_⟩
    case refine_2 =>
      have ho5 : OwnB wr (w.heap.size + 3) (.slice a4 nv c4) S := (HO4.out.chg HCZ.out (fun i hi e => by have h1 := (owns_lt HO4.out i hi).1; have e' : i = w.heap.size + 2 := e; omega)).weaken (by omega)
      refine ((bytes_it ho5 hnv6).keep (KeepS.chg (X := fun i => i = w.heap.size ∨ i = w.heap.size + 1) ?_ (fun k hk e => by omega))).imp (fun k _ h => by omega)
      (repeat' (first | with_reducible exact Chg.refl _ _ | with_reducible apply Chg.drew | with_reducible refine Chg.setCell ?_ (fun h => ?_) _))
      all_goals (dsimp only; omega)
    (repeat' (first | with_reducible exact HBW.out | with_reducible apply Below.drew | with_reducible refine Below.alloc ?_ (by first | omega | (simp; done) | (simp; omega)) _ | with_reducible refine Below.setCell ?_ (by first | (simp; done) | (simp only []; omega)) _))

set_option maxRecDepth 100000 in
set_option maxHeartbeats 8000000 in
theorem rread_C2q (d : Nat) (hof : RReadSaid d) (a : Option Addr) (n cp : Nat) (bs : List UInt8) (p wi dp : Nat) (w : World) (h : RdB w a n bs) (hn9 : n ≤ 1000000) (hcp : n ≤ cp) (hpn : p ≤ n) (hd : dp = wi + (d + 1)) (hd9 : dp ≤ 1000) (hlen : ¬ n ≤ p) (m low : Nat) (hm : m = bAt bs p / 32) (hlw : low = bAt bs p % 32) (h27 : ¬ 27 < low) (hsh : ¬ n < p + 1 + sizeL low) (h24 : 24 ≤ low) (hmv : m = 2) (hnd : needN (numL bs p low) = wideB low) (hsr : ¬ n < p + 1 + sizeL low + numL bs p low) (hcq : cp = p + 1 + sizeL low) :
    Calls Try.prog 34 #[.slice a n cp, .int .i64 (p : Nat), .int .i64 (wi : Nat), .int .i64 (dp : Nat)] w (RReadO w (readQ bs (d + 1) p)) := by
  obtain ⟨wa, hwa⟩ : ∃ W, W = ((w.alloc (.cells #[.int .i64 0, .int .u64 0, .slice none 0 0, .string ⟨#[]⟩, .slice none 0 0] 26)).alloc (.cells #[.int .i64 0, .int .i64 0, .slice none 0 0] 35)).alloc (.cells #[.int .i64 0, .int .u64 0, .slice none 0 0, .string ⟨#[]⟩, .slice none 0 0] 26) := ⟨_, rfl⟩
  have hba : Below w.heap.size w wa := by
    rw [hwa]
    exact (((Below.refl _ _).alloc (Nat.le_refl _) _).alloc (by simp) _).alloc (by simp; omega) _
  have hbx : RBx wa w.heap.size (w.heap.size + 1) ∧ IBx wa (w.heap.size + 2) 0 0 (.slice none 0 0) ⟨#[]⟩ (.slice none 0 0) := by rw [hwa]; exact three _ _ _
  have hz : wa.heap.size = w.heap.size + 3 := by rw [hwa]; simp
  have HX := Lib.hid hbx.1
  have HI := Lib.hid hbx.2
  have HZ := Lib.hid hz
  have HRD := Lib.hid (h.keep hba)
  have HBA := Lib.hid hba
  have HBW := Lib.hid hba
  have hbl : bs.length = n := h.1
  have hzr : 0 < wa.heap.size := by omega
  obtain ⟨R, hR⟩ : ∃ R, R = readQ bs (d + 1) p := ⟨_, rfl⟩
  rw [← hR]
  rw [readQ, hbl] at hR
  have d1 : decide ((dp : Int) ≤ (wi : Int)) = false := by simp; omega
  have d2 : decide (dp ≤ wi) = false := by simp; omega
  have wwi : IntKind.i64.wrap ((wi : Int) + 1) = ((wi + 1 : Nat) : Int) := (IntWalk.i64_in _ (by omega)).trans (by omega)
  have CRD : Hid (∀ W q, RdB W a n bs → q ≤ n → Calls Try.prog 34 #[.slice a n cp, .int .i64 (q : Nat), .int .i64 ((wi + 1 : Nat) : Int), .int .i64 (dp : Nat)] W (RReadO W (readQ bs d q))) := Lib.hid (fun W q hW hq => hof a n cp bs q (wi + 1) dp W hW hn9 hcp hq (by omega) hd9)
  obtain ⟨wj, hwj⟩ : ∃ x, x = wi + 1 := ⟨_, rfl⟩
  rw [← hwj] at wwi CRD
  clear hwj hof
  have h0b := Lib.hid h
  rw [if_neg hlen] at hR
  have dl : decide ((n : Int) ≤ (p : Int)) = false := by simp; omega
  have dl2 : decide (n ≤ p) = false := by simp; omega
  have hpl : p < n := by omega
  obtain ⟨b, o, rfl, hat⟩ := HRD.out.at p hpl
  have hc9 := bAt_lt bs p
  obtain ⟨c, hc⟩ : ∃ c, c = bAt bs p := ⟨_, rfl⟩
  rw [← hc] at hat hc9 hR hm hlw
  have wq : (c : Int).tdiv 32 = (m : Int) := by rw [Int.tdiv_eq_ediv_of_nonneg (by omega)]; omega
  have wr : (c : Int).tmod 32 = (low : Int) := by rw [Int.tmod_eq_emod_of_nonneg (by omega)]; omega
  have wq8 : IntKind.u8.wrap (m : Int) = (m : Int) := IntWalk.u8_in _ (by omega)
  have wr8 : IntKind.u8.wrap (low : Int) = (low : Int) := IntWalk.u8_in _ (by omega)
  have wq2 : IntKind.i64.wrap (m : Int) = (m : Int) := IntWalk.i64_in _ (by omega)
  have wr2 : IntKind.i64.wrap (low : Int) = (low : Int) := IntWalk.i64_in _ (by omega)
  have hm7 : m ≤ 7 := by omega
  rw [← hm, ← hlw] at hR
  have ip0 : (0 : Int) ≤ (p : Int) := by omega
  have ip1 : (p : Int) < (n : Int) := by omega
  clear hc hm hlw hc9 hlen
  rw [if_neg h27] at hR
  have g1 : decide ((27 : Int) < (low : Int)) = false := by simp; omega
  have g1n : decide (27 < low) = false := by simp; omega
  obtain ⟨x1, hx1⟩ : ∃ x, x = n - p := ⟨_, rfl⟩
  obtain ⟨x2, hx2⟩ : ∃ x, x = n - p - 1 := ⟨_, rfl⟩
  have wx1 : IntKind.i64.wrap ((n : Int) - (p : Int)) = (x1 : Int) := (IntWalk.i64_in _ (by omega)).trans (by omega)
  have wx2 : IntKind.i64.wrap ((x1 : Int) - 1) = (x2 : Int) := (IntWalk.i64_in _ (by omega)).trans (by omega)
  have q1 : decide ((24 : Int) ≤ (low : Int)) = true := by simp; omega
  have q1n : decide (24 ≤ low) = true := by simp; omega
  have e1 : sizeL low = wideB low := if_neg (by omega)
  rw [e1] at hR hsh hsr hcq
  obtain ⟨sh, hsh2⟩ : ∃ k, k = low - 24 := ⟨_, rfl⟩
  obtain ⟨Wd, hWd⟩ : ∃ k, k = wideB low := ⟨_, rfl⟩
  have wsh : IntKind.i64.wrap ((low : Int) - 24) = (sh : Int) := (IntWalk.i64_in _ (by omega)).trans (by omega)
  have wsu : IntKind.u64.wrap (sh : Int) = (sh : Int) := IntWalk.u64_in _ (by omega)
  have hpw : (2 : Int) ^ sh = (Wd : Int) := by
    rw [hWd, hsh2]
    have : low = 24 ∨ low = 25 ∨ low = 26 ∨ low = 27 := by omega
    rcases this with rfl | rfl | rfl | rfl <;> rfl
  have hW8 : Wd ≤ 8 := by rw [hWd]; exact (wideB_le _).2
  have hW1 : 1 ≤ Wd := by rw [hWd]; exact (wideB_le _).1
  have wW : IntKind.i64.wrap (Wd : Int) = (Wd : Int) := IntWalk.i64_in _ (by omega)
  have ws4' : wrap64 (Wd : Int) = (Wd : Int) := by unfold wrap64; omega
  have ws0 : (0 : Int) ≤ (sh : Int) := by omega
  have hms : min sh 64 = sh := by omega
  have HWS : Hid (IntKind.i64.wrap (1 * 2 ^ sh) = (Wd : Int) ∧ IntKind.i64.wrap (2 ^ sh) = (Wd : Int) ∧ wrap64 (2 ^ min sh 64) = (Wd : Int)) := Lib.hid ⟨by rw [Int.one_mul, hpw]; exact wW, by rw [hpw]; exact wW, by rw [hms, hpw]; exact ws4'⟩
  clear hpw hms ws4'
  have ws3 : decide ((sh : Int) < 0) = false := by simp
  rw [← hWd] at hR hsh hsr hcq
  rw [if_neg hsh] at hR
  have q3 : decide ((x2 : Int) < (Wd : Int)) = false := by simp; omega
  have q3n : decide (x2 < Wd) = false := by simp; omega
  have q4 : decide ((0 : Int) < (Wd : Int)) = true := by simp; omega
  have q4n : decide (0 < Wd) = true := by simp; omega
  have en : numL bs p low = be (seg bs (p + 1) Wd) := by rw [hWd]; exact if_neg (by omega)
  have CN := Lib.hid (fun W hW => high_yes (some ⟨b, o, none⟩) n cp (p + 1) Wd W bs hW (by omega) hW1 hW8)
  rw [← en] at CN
  have hnv9 : numL bs p low < okSize := numL_lt bs p low (by omega) (by rw [e1, ← hWd, hbl]; omega)
  obtain ⟨nv, hnv⟩ : ∃ x, x = numL bs p low := ⟨_, rfl⟩
  rw [← hnv] at CN hnv9 hR hnd hsr
  obtain ⟨p1, hp1⟩ : ∃ x, x = p + 1 := ⟨_, rfl⟩
  have wp1 : IntKind.i64.wrap ((p : Int) + 1) = (p1 : Int) := (IntWalk.i64_in _ (by omega)).trans (by omega)
  rw [← hp1] at CN hR hsr hcq
  obtain ⟨q, hq⟩ : ∃ q, q = p1 + Wd := ⟨_, rfl⟩
  have wp2 : IntKind.i64.wrap ((p1 : Int) + (Wd : Int)) = (q : Int) := (IntWalk.i64_in _ (by omega)).trans (by omega)
  have wlw : IntKind.u64.wrap (low : Int) = (low : Int) := IntWalk.u64_in _ (by omega)
  rw [← hq] at hR hsr hcq
  have hqn : q ≤ n := by omega
  have HWd := Lib.hid hWd
  have HND : Hid (needN nv = Wd) := hnd.trans HWd.out.symm
  clear hsh hx1 hx2 e1 en hnv hq hp1 hsh2 hWd
  obtain ⟨Lf, hLf⟩ : ∃ L, L = n - q := ⟨_, rfl⟩
  have wl1 : IntKind.i64.wrap ((n : Int) - (q : Int)) = (Lf : Int) := (IntWalk.i64_in _ (by omega)).trans (by omega)
  have wl2 : IntKind.u64.wrap (Lf : Int) = (Lf : Int) := IntWalk.u64_in _ (by omega)
  have hle : q + nv ≤ n := by omega
  have g5 : decide ((Lf : Int) < (nv : Int)) = false := by simp; omega
  have g5n : decide (Lf < nv) = false := by simp; omega
  have wn : IntKind.i64.wrap (nv : Int) = (nv : Int) := IntWalk.i64_in _ (by omega)
  obtain ⟨E, hE⟩ : ∃ x, x = q + nv := ⟨_, rfl⟩
  have wE : IntKind.i64.wrap ((q : Int) + (nv : Int)) = (E : Int) := (IntWalk.i64_in _ (by omega)).trans (by omega)
  have r1 : (0 : Int) ≤ (q : Int) := by omega
  have r2 : (q : Int) ≤ (E : Int) := by omega
  have r3 : (E : Int) ≤ (cp : Int) := by omega
  obtain ⟨S, hS⟩ : ∃ S, S = seg bs q nv := ⟨_, rfl⟩
  have HLS : Hid (S.length = nv) := by show _ = _; rw [hS]; exact seg_length _ _ _ (by rw [hbl]; omega)
  have hnv6 : nv ≤ 1000000 := by omega
  have hEq : E - q = nv := by omega
  have hnv0 : nv = 0 := by omega
  have HSE : Hid (∀ W, RdB W (some ⟨b, o, none⟩) n bs → RdB W (some ⟨b, o, none⟩) (E - q) S) := Lib.hid (fun W h => by rw [hS, hEq]; exact rd_nil28 hbl (by omega) hnv0)
  have HR : Hid (R = .ok (.mk 3 0 S ⟨#[]⟩ .nil, E)) := by show _ = _; rw [hR]; unfold behQ; rw [if_neg (by omega), if_neg (fun h => h.2 hnd), if_neg (by omega), if_neg (by omega), if_pos (by omega)]; unfold rowQ; rw [hbl, if_neg hsr, if_pos hmv, ← hS, ← hE]
  obtain ⟨hl2, hhl2⟩ : ∃ x, x = (headB m nv).length := ⟨_, rfl⟩
  have HLN : Hid ((headB m nv).length = hl2) := hhl2.symm
  rw [headB_len, HND.out] at hhl2
  have w1W : IntKind.i64.wrap (1 + (Wd : Int)) = (hl2 : Int) := (IntWalk.i64_in _ (by omega)).trans (by omega)
  have hln : ((hl2 : Int) != (hl2 : Int)) = false := by simp
  clear hhl2
  subst hmv
  have CH := Lib.hid (fun W => rhead_calls (2 : Nat) 2 rfl (by omega) nv hnv9 W)
  clear hS hE hEq hle hnv0 hsr hLf
  clear hR CRD h24 hnd
  obtain ⟨⟨h0, h1, h2, h3, h4⟩, ⟨f0, f1, f2, f3, f4⟩, ⟨k0, k1, k2⟩, ⟨l0, l1, l2⟩⟩ := HX.out
  obtain ⟨⟨i0, i1, i2, i3, i4⟩, ⟨j0, j1, j2, j3, j4⟩⟩ := HI.out
  clear h hba hbx hz hd hd9 hcp
  subst cp
  obtain ⟨ws1, ws2, ws4⟩ := HWS.out
  go_enter Try.func34, Try.ntmps34
  go_upto_region 2 with fail
  rw [← hwa]
  clear hwa
  go_wp2_with fail
  go_quiet (fail)
  obtain ⟨wb, hwb⟩ : ∃ W, W = wa.drewN nq := ⟨_, rfl⟩
  have hbb : Below wa.heap.size wa wb := by rw [hwb]; exact below_drewN wa nq wa.heap.size
  rw [← hwb]
  clear hwb
  have HBB := Lib.hid hbb
  have HBW := Lib.hid (HBA.out.trans (hbb.mono HBA.out.size))
  have hzb : w.heap.size + 3 ≤ wb.heap.size := by have := hbb.size; have := HZ.out; omega
  clear hbb h0 h1 h2 h3 h4 f0 f1 f2 f3 f4 k0 k1 k2 l0 l1 l2 i0 i1 i2 i3 i4 j0 j1 j2 j3 j4 hat
  obtain ⟨⟨h0, h1, h2, h3, h4⟩, ⟨f0, f1, f2, f3, f4⟩, ⟨k0, k1, k2⟩, ⟨l0, l1, l2⟩⟩ := HX.out.keep HBB.out
  obtain ⟨⟨i0, i1, i2, i3, i4⟩, ⟨j0, j1, j2, j3, j4⟩⟩ := HI.out.keep HBB.out
  go_wp2_with fail
  refine (CN.out wb (HRD.out.keep HBB.out)).mono ?_
  rintro e w1 ⟨rfl, rfl⟩
  go_wp2_with fail
  refine (CH.out _).mono ?_
  rintro e w2 ⟨v2, rfl, hst⟩
  obtain ⟨a2, c2, rfl, hr2⟩ := hst.1.reads
  rw [HLN.out] at hst hr2 ⊢
  have HB2 := Lib.hid (HBB.out.trans (hst.2.mono HBB.out.size))
  have HBW := Lib.hid (HBA.out.trans (HB2.out.mono HBA.out.size))
  have hzr2 : w.heap.size + 3 ≤ w2.heap.size := by have := HB2.out.size; have := HZ.out; omega
  clear h0 h1 h2 h3 h4 f0 f1 f2 f3 f4 k0 k1 k2 l0 l1 l2 i0 i1 i2 i3 i4 j0 j1 j2 j3 j4 hzb
  obtain ⟨⟨h0, h1, h2, h3, h4⟩, ⟨f0, f1, f2, f3, f4⟩, ⟨k0, k1, k2⟩, ⟨l0, l1, l2⟩⟩ := HX.out.keep HB2.out
  have HI2 := Lib.hid (HI.out.keep HB2.out)
  obtain ⟨⟨i0, i1, i2, i3, i4⟩, ⟨j0, j1, j2, j3, j4⟩⟩ := HI2.out
  have HRD2 := Lib.hid (HRD.out.keep HB2.out)
  clear hst hr2 CH HLN
  go_upto_region 40 with fail
  obtain ⟨wy, hwy⟩ : ∃ W, W = w2.setCell ⟨w.heap.size + 2, 0, none⟩ (.int .i64 3) := ⟨_, rfl⟩
  rw [← hwy]
  have hiy : IBx wy (w.heap.size + 2) 3 0 (.slice none 0 0) ⟨#[]⟩ (.slice none 0 0) := by rw [hwy]; exact HI2.out.set0
  have hcy : Chg (fun i => i = w.heap.size + 2) w2 wy := by
    rw [hwy]
    have hX : (fun i => i = w.heap.size + 2) (w.heap.size + 2) := rfl
    exact Chg.setCell (Chg.refl _ _) (fun _ => hX) _
  clear hwy
  have hb9 : b < w.heap.size := by
    obtain ⟨bb, oo, e, hcc⟩ := h0b.out.at p hpl
    obtain ⟨rfl, -⟩ : bb = b ∧ oo = o := by simpa using (Option.some.inj e).symm
    simpa using cell_block hcc
  have hry : RdB wy (some ⟨b, o, none⟩) n bs := HRD2.out.chg hcy (fun x hx e => by rw [← Option.some.inj hx] at e; have e' : b = w.heap.size + 2 := e; omega)
  have HSY := Lib.hid (HSE.out wy hry)
  have HIY := Lib.hid hiy
  have HBY := Lib.hid (HBW.out.trans ((hcy.below (B := w.heap.size) (by omega) (fun i e => by omega))))
  have HXY := Lib.hid ((HX.out.keep HB2.out).chg hcy (by omega) (by omega))
  have hzy : w.heap.size + 3 ≤ wy.heap.size := by have := hcy.size; omega
  clear hcy hry hiy h0 h1 h2 h3 h4 f0 f1 f2 f3 f4 k0 k1 k2 l0 l1 l2 i0 i1 i2 i3 i4 j0 j1 j2 j3 j4 HI2 HB2 HX hb9
  obtain ⟨⟨i0, i1, i2, i3, i4⟩, ⟨j0, j1, j2, j3, j4⟩⟩ := HIY.out
  have HE : Hid (OwnB (wy.alloc (.cells #[] 5)) wy.heap.size (.slice (some ⟨wy.heap.size, 0, none⟩) 0 0) []) := ownB_empty28 (heap_alloc_new wy _) (Nat.le_refl _)
  have HSS : Hid (SrcB (wy.alloc (.cells #[] 5)) (.slice (some ⟨b, o, none⟩) (E - q) (0)) S) := Lib.hid ⟨_, _, _, rfl, HSY.out.keep ((Below.refl _ _).alloc (Nat.le_refl _) _), by simp⟩
  go_wp2_with (at_builtin; refine wpList_appB (v := .slice (some ⟨wy.heap.size, 0, none⟩) 0 0) (bs := []) (sv := .slice (some ⟨b, o, none⟩) (E - q) (0)) (l := S) (B := wy.heap.size) (by rfl) _ _ (by rfl) (by rfl) HE.out (by rfl) HSS.out ?o2 ?o3 ?_)
  case o2 => have := HLS.out; simp only [List.length_nil]; omega
  case o3 => simp
  intro v4 w4 ho4 ha4
  have hb4 : Below wy.heap.size wy w4 := ha4.below ((Below.refl _ _).alloc (Nat.le_refl _) _) (by simp) (fun i hi => by have : wy.heap.size = i := Option.some.inj hi; omega)
  obtain ⟨a4, c4, rfl, -⟩ := ho4.reads
  rw [HLS.out] at ho4 ⊢
  have HO4 := Lib.hid ho4
  clear ho4 ha4
  have HBW := Lib.hid (HBY.out.trans (hb4.mono HBY.out.size))
  have HIV := Lib.hid (HIY.out.keep hb4)
  have HXV := Lib.hid (HXY.out.keep hb4)
  have hzv : w.heap.size + 3 ≤ w4.heap.size := by have := hb4.size; omega
  clear i0 i1 i2 i3 i4 j0 j1 j2 j3 j4 hb4
  obtain ⟨⟨i0, i1, i2, i3, i4⟩, ⟨j0, j1, j2, j3, j4⟩⟩ := HIV.out
  go_upto_region 48 with fail
  obtain ⟨wz, hwz⟩ : ∃ W, W = w4.setCell ⟨w.heap.size + 2, 2, none⟩ (.slice a4 nv c4) := ⟨_, rfl⟩
  rw [← hwz]
  have hiz : IBx wz (w.heap.size + 2) 3 0 (.slice a4 nv c4) ⟨#[]⟩ (.slice none 0 0) := by rw [hwz]; exact HIV.out.set2
  have hcz : Chg (fun i => i = w.heap.size + 2) w4 wz := by
    rw [hwz]
    have hX : (fun i => i = w.heap.size + 2) (w.heap.size + 2) := rfl
    exact Chg.setCell (Chg.refl _ _) (fun _ => hX) _
  clear hwz
  have HBW := Lib.hid (HBW.out.trans ((hcz.below (B := w.heap.size) (by omega) (fun i e => by omega))))
  have hbx3 := HXV.out.chg hcz (by omega) (by omega)
  have hzz : w.heap.size + 3 ≤ wz.heap.size := by have := hcz.size; omega
  have HCZ := Lib.hid hcz
  clear i0 i1 i2 i3 i4 j0 j1 j2 j3 j4 hcz
  obtain ⟨⟨h0, h1, h2, h3, h4⟩, ⟨f0, f1, f2, f3, f4⟩, ⟨k0, k1, k2⟩, ⟨l0, l1, l2⟩⟩ := hbx3
  obtain ⟨⟨i0, i1, i2, i3, i4⟩, ⟨j0, j1, j2, j3, j4⟩⟩ := hiz
  go_loopw [16, 19] (fun nx i wr => nx = .int .i64 (E : Nat) ∧ i = .int .u64 0 ∧ wr = wz) (fun _ _ _ => 0)
  case atStart => exact ⟨rfl, rfl, rfl⟩
  case round =>
    obtain ⟨rfl, rfl, rfl⟩ := hrel
    (repeat (first | go_values | go_skip | go_guarded | go_step | go_upon | (go_simp; go_at_K)))
    refine bodyPost_ret (v := .tuple #[.agg #[.int .i64 3, .int .u64 0, .slice a4 nv c4, .string ⟨#[]⟩, .slice none 0 0], .int .i64 (E : Nat), fltV 0 0]) (by simp [results, Try.results34, go_sem, *]) rfl ?_
    rw [HR.out]
    refine ⟨?_, _, rfl, ?_⟩
    case refine_2 =>
      have ho5 : OwnB wr (w.heap.size + 3) (.slice a4 nv c4) S := (HO4.out.chg HCZ.out (fun i hi e => by have h1 := (owns_lt HO4.out i hi).1; have e' : i = w.heap.size + 2 := e; omega)).weaken (by omega)
      refine ((bytes_it ho5 hnv6).keep (KeepS.chg (X := fun i => i = w.heap.size ∨ i = w.heap.size + 1) ?_ (fun k hk e => by omega))).imp (fun k _ h => by omega)
      (repeat' (first | with_reducible exact Chg.refl _ _ | with_reducible apply Chg.drew | with_reducible refine Chg.setCell ?_ (fun h => ?_) _))
      all_goals (dsimp only; omega)
    (repeat' (first | with_reducible exact HBW.out | with_reducible apply Below.drew | with_reducible refine Below.alloc ?_ (by first | omega | (simp; done) | (simp; omega)) _ | with_reducible refine Below.setCell ?_ (by first | (simp; done) | (simp only []; omega)) _))

set_option maxRecDepth 100000 in
set_option maxHeartbeats 8000000 in
theorem rread_C3s (d : Nat) (hof : RReadSaid d) (a : Option Addr) (n cp : Nat) (bs : List UInt8) (p wi dp : Nat) (w : World) (h : RdB w a n bs) (hn9 : n ≤ 1000000) (hcp : n ≤ cp) (hpn : p ≤ n) (hd : dp = wi + (d + 1)) (hd9 : dp ≤ 1000) (hlen : ¬ n ≤ p) (m low : Nat) (hm : m = bAt bs p / 32) (hlw : low = bAt bs p % 32) (h27 : ¬ 27 < low) (hsh : ¬ n < p + 1 + sizeL low) (h24 : 24 ≤ low) (hmv : m = 3) (hnd : needN (numL bs p low) = wideB low) (hsr : n < p + 1 + sizeL low + numL bs p low) :
    Calls Try.prog 34 #[.slice a n cp, .int .i64 (p : Nat), .int .i64 (wi : Nat), .int .i64 (dp : Nat)] w (RReadO w (readQ bs (d + 1) p)) := by
  obtain ⟨wa, hwa⟩ : ∃ W, W = ((w.alloc (.cells #[.int .i64 0, .int .u64 0, .slice none 0 0, .string ⟨#[]⟩, .slice none 0 0] 26)).alloc (.cells #[.int .i64 0, .int .i64 0, .slice none 0 0] 35)).alloc (.cells #[.int .i64 0, .int .u64 0, .slice none 0 0, .string ⟨#[]⟩, .slice none 0 0] 26) := ⟨_, rfl⟩
  have hba : Below w.heap.size w wa := by
    rw [hwa]
    exact (((Below.refl _ _).alloc (Nat.le_refl _) _).alloc (by simp) _).alloc (by simp; omega) _
  have hbx : RBx wa w.heap.size (w.heap.size + 1) ∧ IBx wa (w.heap.size + 2) 0 0 (.slice none 0 0) ⟨#[]⟩ (.slice none 0 0) := by rw [hwa]; exact three _ _ _
  have hz : wa.heap.size = w.heap.size + 3 := by rw [hwa]; simp
  have HX := Lib.hid hbx.1
  have HI := Lib.hid hbx.2
  have HZ := Lib.hid hz
  have HRD := Lib.hid (h.keep hba)
  have HBA := Lib.hid hba
  have HBW := Lib.hid hba
  have hbl : bs.length = n := h.1
  have hzr : 0 < wa.heap.size := by omega
  obtain ⟨R, hR⟩ : ∃ R, R = readQ bs (d + 1) p := ⟨_, rfl⟩
  rw [← hR]
  rw [readQ, hbl] at hR
  have d1 : decide ((dp : Int) ≤ (wi : Int)) = false := by simp; omega
  have d2 : decide (dp ≤ wi) = false := by simp; omega
  have wwi : IntKind.i64.wrap ((wi : Int) + 1) = ((wi + 1 : Nat) : Int) := (IntWalk.i64_in _ (by omega)).trans (by omega)
  have CRD : Hid (∀ W q, RdB W a n bs → q ≤ n → Calls Try.prog 34 #[.slice a n cp, .int .i64 (q : Nat), .int .i64 ((wi + 1 : Nat) : Int), .int .i64 (dp : Nat)] W (RReadO W (readQ bs d q))) := Lib.hid (fun W q hW hq => hof a n cp bs q (wi + 1) dp W hW hn9 hcp hq (by omega) hd9)
  obtain ⟨wj, hwj⟩ : ∃ x, x = wi + 1 := ⟨_, rfl⟩
  rw [← hwj] at wwi CRD
  clear hwj hof
  rw [if_neg hlen] at hR
  have dl : decide ((n : Int) ≤ (p : Int)) = false := by simp; omega
  have dl2 : decide (n ≤ p) = false := by simp; omega
  have hpl : p < n := by omega
  obtain ⟨b, o, rfl, hat⟩ := HRD.out.at p hpl
  have hc9 := bAt_lt bs p
  obtain ⟨c, hc⟩ : ∃ c, c = bAt bs p := ⟨_, rfl⟩
  rw [← hc] at hat hc9 hR hm hlw
  have wq : (c : Int).tdiv 32 = (m : Int) := by rw [Int.tdiv_eq_ediv_of_nonneg (by omega)]; omega
  have wr : (c : Int).tmod 32 = (low : Int) := by rw [Int.tmod_eq_emod_of_nonneg (by omega)]; omega
  have wq8 : IntKind.u8.wrap (m : Int) = (m : Int) := IntWalk.u8_in _ (by omega)
  have wr8 : IntKind.u8.wrap (low : Int) = (low : Int) := IntWalk.u8_in _ (by omega)
  have wq2 : IntKind.i64.wrap (m : Int) = (m : Int) := IntWalk.i64_in _ (by omega)
  have wr2 : IntKind.i64.wrap (low : Int) = (low : Int) := IntWalk.i64_in _ (by omega)
  have hm7 : m ≤ 7 := by omega
  rw [← hm, ← hlw] at hR
  have ip0 : (0 : Int) ≤ (p : Int) := by omega
  have ip1 : (p : Int) < (n : Int) := by omega
  clear hc hm hlw hc9 hlen
  rw [if_neg h27] at hR
  have g1 : decide ((27 : Int) < (low : Int)) = false := by simp; omega
  have g1n : decide (27 < low) = false := by simp; omega
  obtain ⟨x1, hx1⟩ : ∃ x, x = n - p := ⟨_, rfl⟩
  obtain ⟨x2, hx2⟩ : ∃ x, x = n - p - 1 := ⟨_, rfl⟩
  have wx1 : IntKind.i64.wrap ((n : Int) - (p : Int)) = (x1 : Int) := (IntWalk.i64_in _ (by omega)).trans (by omega)
  have wx2 : IntKind.i64.wrap ((x1 : Int) - 1) = (x2 : Int) := (IntWalk.i64_in _ (by omega)).trans (by omega)
  have q1 : decide ((24 : Int) ≤ (low : Int)) = true := by simp; omega
  have q1n : decide (24 ≤ low) = true := by simp; omega
  have e1 : sizeL low = wideB low := if_neg (by omega)
  rw [e1] at hR hsh hsr
  obtain ⟨sh, hsh2⟩ : ∃ k, k = low - 24 := ⟨_, rfl⟩
  obtain ⟨Wd, hWd⟩ : ∃ k, k = wideB low := ⟨_, rfl⟩
  have wsh : IntKind.i64.wrap ((low : Int) - 24) = (sh : Int) := (IntWalk.i64_in _ (by omega)).trans (by omega)
  have wsu : IntKind.u64.wrap (sh : Int) = (sh : Int) := IntWalk.u64_in _ (by omega)
  have hpw : (2 : Int) ^ sh = (Wd : Int) := by
    rw [hWd, hsh2]
    have : low = 24 ∨ low = 25 ∨ low = 26 ∨ low = 27 := by omega
    rcases this with rfl | rfl | rfl | rfl <;> rfl
  have hW8 : Wd ≤ 8 := by rw [hWd]; exact (wideB_le _).2
  have hW1 : 1 ≤ Wd := by rw [hWd]; exact (wideB_le _).1
  have wW : IntKind.i64.wrap (Wd : Int) = (Wd : Int) := IntWalk.i64_in _ (by omega)
  have ws4' : wrap64 (Wd : Int) = (Wd : Int) := by unfold wrap64; omega
  have ws0 : (0 : Int) ≤ (sh : Int) := by omega
  have hms : min sh 64 = sh := by omega
  have HWS : Hid (IntKind.i64.wrap (1 * 2 ^ sh) = (Wd : Int) ∧ IntKind.i64.wrap (2 ^ sh) = (Wd : Int) ∧ wrap64 (2 ^ min sh 64) = (Wd : Int)) := Lib.hid ⟨by rw [Int.one_mul, hpw]; exact wW, by rw [hpw]; exact wW, by rw [hms, hpw]; exact ws4'⟩
  clear hpw hms ws4'
  have ws3 : decide ((sh : Int) < 0) = false := by simp
  rw [← hWd] at hR hsh hsr
  rw [if_neg hsh] at hR
  have q3 : decide ((x2 : Int) < (Wd : Int)) = false := by simp; omega
  have q3n : decide (x2 < Wd) = false := by simp; omega
  have q4 : decide ((0 : Int) < (Wd : Int)) = true := by simp; omega
  have q4n : decide (0 < Wd) = true := by simp; omega
  have en : numL bs p low = be (seg bs (p + 1) Wd) := by rw [hWd]; exact if_neg (by omega)
  have CN := Lib.hid (fun W hW => high_yes (some ⟨b, o, none⟩) n cp (p + 1) Wd W bs hW (by omega) hW1 hW8)
  rw [← en] at CN
  have hnv9 : numL bs p low < okSize := numL_lt bs p low (by omega) (by rw [e1, ← hWd, hbl]; omega)
  obtain ⟨nv, hnv⟩ : ∃ x, x = numL bs p low := ⟨_, rfl⟩
  rw [← hnv] at CN hnv9 hR hnd hsr
  obtain ⟨p1, hp1⟩ : ∃ x, x = p + 1 := ⟨_, rfl⟩
  have wp1 : IntKind.i64.wrap ((p : Int) + 1) = (p1 : Int) := (IntWalk.i64_in _ (by omega)).trans (by omega)
  rw [← hp1] at CN hR hsr
  obtain ⟨q, hq⟩ : ∃ q, q = p1 + Wd := ⟨_, rfl⟩
  have wp2 : IntKind.i64.wrap ((p1 : Int) + (Wd : Int)) = (q : Int) := (IntWalk.i64_in _ (by omega)).trans (by omega)
  have wlw : IntKind.u64.wrap (low : Int) = (low : Int) := IntWalk.u64_in _ (by omega)
  rw [← hq] at hR hsr
  have hqn : q ≤ n := by omega
  have HWd := Lib.hid hWd
  have HND : Hid (needN nv = Wd) := hnd.trans HWd.out.symm
  clear hsh hx1 hx2 e1 en hnv hq hp1 hsh2 hWd
  have HR : Hid (R = .error (2, p)) := by show _ = _; rw [hR]; unfold behQ; rw [if_neg (by omega), if_neg (fun h => h.2 hnd), if_neg (by omega), if_neg (by omega), if_pos (by omega)]; unfold rowQ; rw [hbl, if_pos hsr]
  obtain ⟨Lf, hLf⟩ : ∃ L, L = n - q := ⟨_, rfl⟩
  have wl1 : IntKind.i64.wrap ((n : Int) - (q : Int)) = (Lf : Int) := (IntWalk.i64_in _ (by omega)).trans (by omega)
  have wl2 : IntKind.u64.wrap (Lf : Int) = (Lf : Int) := IntWalk.u64_in _ (by omega)
  have g5 : decide ((Lf : Int) < (nv : Int)) = true := by simp; omega
  have g5n : decide (Lf < nv) = true := by simp; omega
  obtain ⟨hl2, hhl2⟩ : ∃ x, x = (headB m nv).length := ⟨_, rfl⟩
  have HLN : Hid ((headB m nv).length = hl2) := hhl2.symm
  rw [headB_len, HND.out] at hhl2
  have w1W : IntKind.i64.wrap (1 + (Wd : Int)) = (hl2 : Int) := (IntWalk.i64_in _ (by omega)).trans (by omega)
  have hln : ((hl2 : Int) != (hl2 : Int)) = false := by simp
  clear hhl2
  subst hmv
  have CH := Lib.hid (fun W => rhead_calls (3 : Nat) 3 rfl (by omega) nv hnv9 W)
  clear hR hLf hsr CRD h24 hnd
  obtain ⟨⟨h0, h1, h2, h3, h4⟩, ⟨f0, f1, f2, f3, f4⟩, ⟨k0, k1, k2⟩, ⟨l0, l1, l2⟩⟩ := HX.out
  obtain ⟨⟨i0, i1, i2, i3, i4⟩, ⟨j0, j1, j2, j3, j4⟩⟩ := HI.out
  clear h hba hbx hz hd hd9 hcp
  obtain ⟨ws1, ws2, ws4⟩ := HWS.out
  go_enter Try.func34, Try.ntmps34
  go_upto_region 2 with fail
  rw [← hwa]
  clear hwa
  go_wp2_with fail
  go_quiet (fail)
  obtain ⟨wb, hwb⟩ : ∃ W, W = wa.drewN nq := ⟨_, rfl⟩
  have hbb : Below wa.heap.size wa wb := by rw [hwb]; exact below_drewN wa nq wa.heap.size
  rw [← hwb]
  clear hwb
  have HBB := Lib.hid hbb
  have HBW := Lib.hid (HBA.out.trans (hbb.mono HBA.out.size))
  have hzb : w.heap.size + 3 ≤ wb.heap.size := by have := hbb.size; have := HZ.out; omega
  clear hbb h0 h1 h2 h3 h4 f0 f1 f2 f3 f4 k0 k1 k2 l0 l1 l2 i0 i1 i2 i3 i4 j0 j1 j2 j3 j4 hat
  obtain ⟨⟨h0, h1, h2, h3, h4⟩, ⟨f0, f1, f2, f3, f4⟩, ⟨k0, k1, k2⟩, ⟨l0, l1, l2⟩⟩ := HX.out.keep HBB.out
  obtain ⟨⟨i0, i1, i2, i3, i4⟩, ⟨j0, j1, j2, j3, j4⟩⟩ := HI.out.keep HBB.out
  go_wp2_with fail
  refine (CN.out wb (HRD.out.keep HBB.out)).mono ?_
  rintro e w1 ⟨rfl, rfl⟩
  go_wp2_with fail
  refine (CH.out _).mono ?_
  rintro e w2 ⟨v2, rfl, hst⟩
  obtain ⟨a2, c2, rfl, hr2⟩ := hst.1.reads
  rw [HLN.out] at hst hr2 ⊢
  have HB2 := Lib.hid (HBB.out.trans (hst.2.mono HBB.out.size))
  have HBW := Lib.hid (HBA.out.trans (HB2.out.mono HBA.out.size))
  have hzr2 : w.heap.size + 3 ≤ w2.heap.size := by have := HB2.out.size; have := HZ.out; omega
  clear h0 h1 h2 h3 h4 f0 f1 f2 f3 f4 k0 k1 k2 l0 l1 l2 i0 i1 i2 i3 i4 j0 j1 j2 j3 j4 hzb
  obtain ⟨⟨h0, h1, h2, h3, h4⟩, ⟨f0, f1, f2, f3, f4⟩, ⟨k0, k1, k2⟩, ⟨l0, l1, l2⟩⟩ := HX.out.keep HB2.out
  have HI2 := Lib.hid (HI.out.keep HB2.out)
  obtain ⟨⟨i0, i1, i2, i3, i4⟩, ⟨j0, j1, j2, j3, j4⟩⟩ := HI2.out
  have HRD2 := Lib.hid (HRD.out.keep HB2.out)
  clear hst hr2 CH HLN
  (repeat (first | go_values | go_skip | go_guarded | go_step | go_upon | (go_simp; go_at_K)))
  refine bodyPost_ret (v := .tuple #[zIt, .int .i64 0, fltV 2 p]) (by simp [results, Try.results34, go_sem, *]) rfl ?_
  rw [HR.out]
  refine rread_err ?_
  (repeat' (first | with_reducible exact HBW.out | with_reducible apply Below.drew | with_reducible refine Below.alloc ?_ (by first | omega | (simp; done) | (simp; omega)) _ | with_reducible refine Below.setCell ?_ (by first | (simp; done) | (simp only []; omega)) _))

set_option maxRecDepth 100000 in
set_option maxHeartbeats 8000000 in
theorem rread_C3 (d : Nat) (hof : RReadSaid d) (a : Option Addr) (n cp : Nat) (bs : List UInt8) (p wi dp : Nat) (w : World) (h : RdB w a n bs) (hn9 : n ≤ 1000000) (hcp : n ≤ cp) (hpn : p ≤ n) (hd : dp = wi + (d + 1)) (hd9 : dp ≤ 1000) (hlen : ¬ n ≤ p) (m low : Nat) (hm : m = bAt bs p / 32) (hlw : low = bAt bs p % 32) (h27 : ¬ 27 < low) (hsh : ¬ n < p + 1 + sizeL low) (h24 : 24 ≤ low) (hmv : m = 3) (hnd : needN (numL bs p low) = wideB low) (hsr : ¬ n < p + 1 + sizeL low + numL bs p low) (hcq : ¬ cp = p + 1 + sizeL low) :
    Calls Try.prog 34 #[.slice a n cp, .int .i64 (p : Nat), .int .i64 (wi : Nat), .int .i64 (dp : Nat)] w (RReadO w (readQ bs (d + 1) p)) := by
  obtain ⟨wa, hwa⟩ : ∃ W, W = ((w.alloc (.cells #[.int .i64 0, .int .u64 0, .slice none 0 0, .string ⟨#[]⟩, .slice none 0 0] 26)).alloc (.cells #[.int .i64 0, .int .i64 0, .slice none 0 0] 35)).alloc (.cells #[.int .i64 0, .int .u64 0, .slice none 0 0, .string ⟨#[]⟩, .slice none 0 0] 26) := ⟨_, rfl⟩
  have hba : Below w.heap.size w wa := by
    rw [hwa]
    exact (((Below.refl _ _).alloc (Nat.le_refl _) _).alloc (by simp) _).alloc (by simp; omega) _
  have hbx : RBx wa w.heap.size (w.heap.size + 1) ∧ IBx wa (w.heap.size + 2) 0 0 (.slice none 0 0) ⟨#[]⟩ (.slice none 0 0) := by rw [hwa]; exact three _ _ _
  have hz : wa.heap.size = w.heap.size + 3 := by rw [hwa]; simp
  have HX := Lib.hid hbx.1
  have HI := Lib.hid hbx.2
  have HZ := Lib.hid hz
  have HRD := Lib.hid (h.keep hba)
  have HBA := Lib.hid hba
  have HBW := Lib.hid hba
  have hbl : bs.length = n := h.1
  have hzr : 0 < wa.heap.size := by omega
  obtain ⟨R, hR⟩ : ∃ R, R = readQ bs (d + 1) p := ⟨_, rfl⟩
  rw [← hR]
  rw [readQ, hbl] at hR
  have d1 : decide ((dp : Int) ≤ (wi : Int)) = false := by simp; omega
  have d2 : decide (dp ≤ wi) = false := by simp; omega
  have wwi : IntKind.i64.wrap ((wi : Int) + 1) = ((wi + 1 : Nat) : Int) := (IntWalk.i64_in _ (by omega)).trans (by omega)
  have CRD : Hid (∀ W q, RdB W a n bs → q ≤ n → Calls Try.prog 34 #[.slice a n cp, .int .i64 (q : Nat), .int .i64 ((wi + 1 : Nat) : Int), .int .i64 (dp : Nat)] W (RReadO W (readQ bs d q))) := Lib.hid (fun W q hW hq => hof a n cp bs q (wi + 1) dp W hW hn9 hcp hq (by omega) hd9)
  obtain ⟨wj, hwj⟩ : ∃ x, x = wi + 1 := ⟨_, rfl⟩
  rw [← hwj] at wwi CRD
  clear hwj hof
  have h0b := Lib.hid h
  rw [if_neg hlen] at hR
  have dl : decide ((n : Int) ≤ (p : Int)) = false := by simp; omega
  have dl2 : decide (n ≤ p) = false := by simp; omega
  have hpl : p < n := by omega
  obtain ⟨b, o, rfl, hat⟩ := HRD.out.at p hpl
  have hc9 := bAt_lt bs p
  obtain ⟨c, hc⟩ : ∃ c, c = bAt bs p := ⟨_, rfl⟩
  rw [← hc] at hat hc9 hR hm hlw
  have wq : (c : Int).tdiv 32 = (m : Int) := by rw [Int.tdiv_eq_ediv_of_nonneg (by omega)]; omega
  have wr : (c : Int).tmod 32 = (low : Int) := by rw [Int.tmod_eq_emod_of_nonneg (by omega)]; omega
  have wq8 : IntKind.u8.wrap (m : Int) = (m : Int) := IntWalk.u8_in _ (by omega)
  have wr8 : IntKind.u8.wrap (low : Int) = (low : Int) := IntWalk.u8_in _ (by omega)
  have wq2 : IntKind.i64.wrap (m : Int) = (m : Int) := IntWalk.i64_in _ (by omega)
  have wr2 : IntKind.i64.wrap (low : Int) = (low : Int) := IntWalk.i64_in _ (by omega)
  have hm7 : m ≤ 7 := by omega
  rw [← hm, ← hlw] at hR
  have ip0 : (0 : Int) ≤ (p : Int) := by omega
  have ip1 : (p : Int) < (n : Int) := by omega
  clear hc hm hlw hc9 hlen
  rw [if_neg h27] at hR
  have g1 : decide ((27 : Int) < (low : Int)) = false := by simp; omega
  have g1n : decide (27 < low) = false := by simp; omega
  obtain ⟨x1, hx1⟩ : ∃ x, x = n - p := ⟨_, rfl⟩
  obtain ⟨x2, hx2⟩ : ∃ x, x = n - p - 1 := ⟨_, rfl⟩
  have wx1 : IntKind.i64.wrap ((n : Int) - (p : Int)) = (x1 : Int) := (IntWalk.i64_in _ (by omega)).trans (by omega)
  have wx2 : IntKind.i64.wrap ((x1 : Int) - 1) = (x2 : Int) := (IntWalk.i64_in _ (by omega)).trans (by omega)
  have q1 : decide ((24 : Int) ≤ (low : Int)) = true := by simp; omega
  have q1n : decide (24 ≤ low) = true := by simp; omega
  have e1 : sizeL low = wideB low := if_neg (by omega)
  rw [e1] at hR hsh hsr hcq
  obtain ⟨sh, hsh2⟩ : ∃ k, k = low - 24 := ⟨_, rfl⟩
  obtain ⟨Wd, hWd⟩ : ∃ k, k = wideB low := ⟨_, rfl⟩
  have wsh : IntKind.i64.wrap ((low : Int) - 24) = (sh : Int) := (IntWalk.i64_in _ (by omega)).trans (by omega)
  have wsu : IntKind.u64.wrap (sh : Int) = (sh : Int) := IntWalk.u64_in _ (by omega)
  have hpw : (2 : Int) ^ sh = (Wd : Int) := by
    rw [hWd, hsh2]
    have : low = 24 ∨ low = 25 ∨ low = 26 ∨ low = 27 := by omega
    rcases this with rfl | rfl | rfl | rfl <;> rfl
  have hW8 : Wd ≤ 8 := by rw [hWd]; exact (wideB_le _).2
  have hW1 : 1 ≤ Wd := by rw [hWd]; exact (wideB_le _).1
  have wW : IntKind.i64.wrap (Wd : Int) = (Wd : Int) := IntWalk.i64_in _ (by omega)
  have ws4' : wrap64 (Wd : Int) = (Wd : Int) := by unfold wrap64; omega
  have ws0 : (0 : Int) ≤ (sh : Int) := by omega
  have hms : min sh 64 = sh := by omega
  have HWS : Hid (IntKind.i64.wrap (1 * 2 ^ sh) = (Wd : Int) ∧ IntKind.i64.wrap (2 ^ sh) = (Wd : Int) ∧ wrap64 (2 ^ min sh 64) = (Wd : Int)) := Lib.hid ⟨by rw [Int.one_mul, hpw]; exact wW, by rw [hpw]; exact wW, by rw [hms, hpw]; exact ws4'⟩
  clear hpw hms ws4'
  have ws3 : decide ((sh : Int) < 0) = false := by simp
  rw [← hWd] at hR hsh hsr hcq
  rw [if_neg hsh] at hR
  have q3 : decide ((x2 : Int) < (Wd : Int)) = false := by simp; omega
  have q3n : decide (x2 < Wd) = false := by simp; omega
  have q4 : decide ((0 : Int) < (Wd : Int)) = true := by simp; omega
  have q4n : decide (0 < Wd) = true := by simp; omega
  have en : numL bs p low = be (seg bs (p + 1) Wd) := by rw [hWd]; exact if_neg (by omega)
  have CN := Lib.hid (fun W hW => high_yes (some ⟨b, o, none⟩) n cp (p + 1) Wd W bs hW (by omega) hW1 hW8)
  rw [← en] at CN
  have hnv9 : numL bs p low < okSize := numL_lt bs p low (by omega) (by rw [e1, ← hWd, hbl]; omega)
  obtain ⟨nv, hnv⟩ : ∃ x, x = numL bs p low := ⟨_, rfl⟩
  rw [← hnv] at CN hnv9 hR hnd hsr
  obtain ⟨p1, hp1⟩ : ∃ x, x = p + 1 := ⟨_, rfl⟩
  have wp1 : IntKind.i64.wrap ((p : Int) + 1) = (p1 : Int) := (IntWalk.i64_in _ (by omega)).trans (by omega)
  rw [← hp1] at CN hR hsr hcq
  obtain ⟨q, hq⟩ : ∃ q, q = p1 + Wd := ⟨_, rfl⟩
  have wp2 : IntKind.i64.wrap ((p1 : Int) + (Wd : Int)) = (q : Int) := (IntWalk.i64_in _ (by omega)).trans (by omega)
  have wlw : IntKind.u64.wrap (low : Int) = (low : Int) := IntWalk.u64_in _ (by omega)
  rw [← hq] at hR hsr hcq
  have hqn : q ≤ n := by omega
  have HWd := Lib.hid hWd
  have HND : Hid (needN nv = Wd) := hnd.trans HWd.out.symm
  clear hsh hx1 hx2 e1 en hnv hq hp1 hsh2 hWd
  obtain ⟨Lf, hLf⟩ : ∃ L, L = n - q := ⟨_, rfl⟩
  have wl1 : IntKind.i64.wrap ((n : Int) - (q : Int)) = (Lf : Int) := (IntWalk.i64_in _ (by omega)).trans (by omega)
  have wl2 : IntKind.u64.wrap (Lf : Int) = (Lf : Int) := IntWalk.u64_in _ (by omega)
  have hle : q + nv ≤ n := by omega
  have g5 : decide ((Lf : Int) < (nv : Int)) = false := by simp; omega
  have g5n : decide (Lf < nv) = false := by simp; omega
  have wn : IntKind.i64.wrap (nv : Int) = (nv : Int) := IntWalk.i64_in _ (by omega)
  obtain ⟨E, hE⟩ : ∃ x, x = q + nv := ⟨_, rfl⟩
  have wE : IntKind.i64.wrap ((q : Int) + (nv : Int)) = (E : Int) := (IntWalk.i64_in _ (by omega)).trans (by omega)
  have r1 : (0 : Int) ≤ (q : Int) := by omega
  have r2 : (q : Int) ≤ (E : Int) := by omega
  have r3 : (E : Int) ≤ (cp : Int) := by omega
  obtain ⟨S, hS⟩ : ∃ S, S = seg bs q nv := ⟨_, rfl⟩
  have HLS : Hid (S.length = nv) := by show _ = _; rw [hS]; exact seg_length _ _ _ (by rw [hbl]; omega)
  have hnv6 : nv ≤ 1000000 := by omega
  have hEq : E - q = nv := by omega
  have r4 : ¬ cp = q := by omega
  have r5 : ¬ q = cp := by omega
  have HSE : Hid (∀ W, RdB W (some ⟨b, o, none⟩) n bs → RdB W (some ⟨b, o + q, none⟩) (E - q) S) := Lib.hid (fun W h => by rw [hS, hEq]; exact rd_seg28 h hle)
  have HQ : Hid (R = if (wholeTo S == nv) = false then .error (4, p) else .ok (.mk 4 0 [] (txt S) .nil, E)) := by show _ = _; rw [hR]; unfold behQ; rw [if_neg (by omega), if_neg (fun h => h.2 hnd), if_neg (by omega), if_neg (by omega), if_pos (by omega)]; unfold rowQ; rw [hbl, if_neg hsr, if_neg (by omega), ← hS, ← hE]
  obtain ⟨hl2, hhl2⟩ : ∃ x, x = (headB m nv).length := ⟨_, rfl⟩
  have HLN : Hid ((headB m nv).length = hl2) := hhl2.symm
  rw [headB_len, HND.out] at hhl2
  have w1W : IntKind.i64.wrap (1 + (Wd : Int)) = (hl2 : Int) := (IntWalk.i64_in _ (by omega)).trans (by omega)
  have hln : ((hl2 : Int) != (hl2 : Int)) = false := by simp
  clear hhl2
  subst hmv
  have CH := Lib.hid (fun W => rhead_calls (3 : Nat) 3 rfl (by omega) nv hnv9 W)
  clear hS hE hEq hle hsr hLf
  clear hR CRD h24 hnd
  obtain ⟨⟨h0, h1, h2, h3, h4⟩, ⟨f0, f1, f2, f3, f4⟩, ⟨k0, k1, k2⟩, ⟨l0, l1, l2⟩⟩ := HX.out
  obtain ⟨⟨i0, i1, i2, i3, i4⟩, ⟨j0, j1, j2, j3, j4⟩⟩ := HI.out
  clear h hba hbx hz hd hd9 hcp
  clear hcq
  obtain ⟨ws1, ws2, ws4⟩ := HWS.out
  go_enter Try.func34, Try.ntmps34
  go_upto_region 2 with fail
  rw [← hwa]
  clear hwa
  go_wp2_with fail
  go_quiet (fail)
  obtain ⟨wb, hwb⟩ : ∃ W, W = wa.drewN nq := ⟨_, rfl⟩
  have hbb : Below wa.heap.size wa wb := by rw [hwb]; exact below_drewN wa nq wa.heap.size
  rw [← hwb]
  clear hwb
  have HBB := Lib.hid hbb
  have HBW := Lib.hid (HBA.out.trans (hbb.mono HBA.out.size))
  have hzb : w.heap.size + 3 ≤ wb.heap.size := by have := hbb.size; have := HZ.out; omega
  clear hbb h0 h1 h2 h3 h4 f0 f1 f2 f3 f4 k0 k1 k2 l0 l1 l2 i0 i1 i2 i3 i4 j0 j1 j2 j3 j4 hat
  obtain ⟨⟨h0, h1, h2, h3, h4⟩, ⟨f0, f1, f2, f3, f4⟩, ⟨k0, k1, k2⟩, ⟨l0, l1, l2⟩⟩ := HX.out.keep HBB.out
  obtain ⟨⟨i0, i1, i2, i3, i4⟩, ⟨j0, j1, j2, j3, j4⟩⟩ := HI.out.keep HBB.out
  go_wp2_with fail
  refine (CN.out wb (HRD.out.keep HBB.out)).mono ?_
  rintro e w1 ⟨rfl, rfl⟩
  go_wp2_with fail
  refine (CH.out _).mono ?_
  rintro e w2 ⟨v2, rfl, hst⟩
  obtain ⟨a2, c2, rfl, hr2⟩ := hst.1.reads
  rw [HLN.out] at hst hr2 ⊢
  have HB2 := Lib.hid (HBB.out.trans (hst.2.mono HBB.out.size))
  have HBW := Lib.hid (HBA.out.trans (HB2.out.mono HBA.out.size))
  have hzr2 : w.heap.size + 3 ≤ w2.heap.size := by have := HB2.out.size; have := HZ.out; omega
  clear h0 h1 h2 h3 h4 f0 f1 f2 f3 f4 k0 k1 k2 l0 l1 l2 i0 i1 i2 i3 i4 j0 j1 j2 j3 j4 hzb
  obtain ⟨⟨h0, h1, h2, h3, h4⟩, ⟨f0, f1, f2, f3, f4⟩, ⟨k0, k1, k2⟩, ⟨l0, l1, l2⟩⟩ := HX.out.keep HB2.out
  have HI2 := Lib.hid (HI.out.keep HB2.out)
  obtain ⟨⟨i0, i1, i2, i3, i4⟩, ⟨j0, j1, j2, j3, j4⟩⟩ := HI2.out
  have HRD2 := Lib.hid (HRD.out.keep HB2.out)
  clear hst hr2 CH HLN
  go_upto_region 41 with fail
  obtain ⟨wy, hwy⟩ : ∃ W, W = w2.setCell ⟨w.heap.size + 2, 0, none⟩ (.int .i64 4) := ⟨_, rfl⟩
  rw [← hwy]
  have hiy : IBx wy (w.heap.size + 2) 4 0 (.slice none 0 0) ⟨#[]⟩ (.slice none 0 0) := by rw [hwy]; exact HI2.out.set0
  have hcy : Chg (fun i => i = w.heap.size + 2) w2 wy := by
    rw [hwy]
    have hX : (fun i => i = w.heap.size + 2) (w.heap.size + 2) := rfl
    exact Chg.setCell (Chg.refl _ _) (fun _ => hX) _
  clear hwy
  have hb9 : b < w.heap.size := by
    obtain ⟨bb, oo, e, hcc⟩ := h0b.out.at p hpl
    obtain ⟨rfl, -⟩ : bb = b ∧ oo = o := by simpa using (Option.some.inj e).symm
    simpa using cell_block hcc
  have hry : RdB wy (some ⟨b, o, none⟩) n bs := HRD2.out.chg hcy (fun x hx e => by rw [← Option.some.inj hx] at e; have e' : b = w.heap.size + 2 := e; omega)
  have HSY := Lib.hid (HSE.out wy hry)
  have HIY := Lib.hid hiy
  have HBY := Lib.hid (HBW.out.trans ((hcy.below (B := w.heap.size) (by omega) (fun i e => by omega))))
  have HXY := Lib.hid ((HX.out.keep HB2.out).chg hcy (by omega) (by omega))
  have hzy : w.heap.size + 3 ≤ wy.heap.size := by have := hcy.size; omega
  clear hcy hry hiy h0 h1 h2 h3 h4 f0 f1 f2 f3 f4 k0 k1 k2 l0 l1 l2 i0 i1 i2 i3 i4 j0 j1 j2 j3 j4 HI2 HB2 HX hb9
  obtain ⟨⟨i0, i1, i2, i3, i4⟩, ⟨j0, j1, j2, j3, j4⟩⟩ := HIY.out
  have hcv := conv_str HSY.out (cp - q)
  have hts : (txt S).size = nv := by rw [← sl_len, sl_txt]; exact HLS.out
  have CWH := Lib.hid (fun W => rwhole_calls (txt S) (by rw [hts]; omega) W)
  rw [sl_txt, hts] at CWH
  obtain ⟨T, hT⟩ : ∃ T, T = txt S := ⟨_, rfl⟩
  have HTS : Hid (T.size = nv) := by show _ = _; rw [hT]; exact hts
  rw [← hT] at CWH hcv
  have HQ2 : Hid (R = if (wholeTo S == nv) = false then .error (4, p) else .ok (.mk 4 0 [] T .nil, E)) := by show _ = _; rw [HQ.out, hT]
  have HCV : Hid (∀ W, Below wy.heap.size wy W → (convert 23 9 (.slice (some ⟨b, o + q, none⟩) (E - q) (cp - q))).run Try.prog W = .ok (.string T) W) := Lib.hid (fun W hW => by rw [hT]; exact conv_str (HSY.out.keep hW) (cp - q))
  clear hT hts HQ
  go_wp2_with fail
  refine (CWH.out _).mono ?_
  rintro e w4 ⟨rfl, hb4⟩
  have hcv4 := HCV.out w4 hb4
  clear CWH HCV hcv
  have HBW := Lib.hid (HBY.out.trans (hb4.mono HBY.out.size))
  have HIV := Lib.hid (HIY.out.keep hb4)
  have HXV := Lib.hid (HXY.out.keep hb4)
  have hzv : w.heap.size + 3 ≤ w4.heap.size := by have := hb4.size; omega
  clear i0 i1 i2 i3 i4 j0 j1 j2 j3 j4 hb4
  obtain ⟨⟨i0, i1, i2, i3, i4⟩, ⟨j0, j1, j2, j3, j4⟩⟩ := HIV.out
  cases hw : (wholeTo S == nv) with
  | false =>
    have HR : Hid (R = .error (4, p)) := by show _ = _; rw [HQ2.out, if_pos hw]
    obtain ⟨⟨h0, h1, h2, h3, h4⟩, ⟨f0, f1, f2, f3, f4⟩, ⟨k0, k1, k2⟩, ⟨l0, l1, l2⟩⟩ := HXV.out
    clear hw HQ2
    (repeat (first | go_values | go_skip | go_guarded | go_step | go_upon | (go_simp; go_at_K)))
    refine bodyPost_ret (v := .tuple #[zIt, .int .i64 0, fltV 4 p]) (by simp [results, Try.results34, go_sem, *]) rfl ?_
    rw [HR.out]
    refine rread_err ?_
    (repeat' (first | with_reducible exact HBW.out | with_reducible apply Below.drew | with_reducible refine Below.alloc ?_ (by first | omega | (simp; done) | (simp; omega)) _ | with_reducible refine Below.setCell ?_ (by first | (simp; done) | (simp only []; omega)) _))
  | true =>
    have HR : Hid (R = .ok (.mk 4 0 [] T .nil, E)) := by show _ = _; rw [HQ2.out, if_neg (by rw [hw]; simp)]
    have hT6 : T.size ≤ 1000000 := by rw [HTS.out]; exact hnv6
    clear hw HQ2
    go_upto_region 48 with fail
    obtain ⟨wz, hwz⟩ : ∃ W, W = w4.setCell ⟨w.heap.size + 2, 3, none⟩ (.string T) := ⟨_, rfl⟩
    rw [← hwz]
    have hiz : IBx wz (w.heap.size + 2) 4 0 (.slice none 0 0) T (.slice none 0 0) := by rw [hwz]; exact HIV.out.set3
    have hcz : Chg (fun i => i = w.heap.size + 2) w4 wz := by
      rw [hwz]
      have hX : (fun i => i = w.heap.size + 2) (w.heap.size + 2) := rfl
      exact Chg.setCell (Chg.refl _ _) (fun _ => hX) _
    clear hwz
    have HBW := Lib.hid (HBW.out.trans ((hcz.below (B := w.heap.size) (by omega) (fun i e => by omega))))
    have hbx3 := HXV.out.chg hcz (by omega) (by omega)
    have hzz : w.heap.size + 3 ≤ wz.heap.size := by have := hcz.size; omega
    have HCZ := Lib.hid hcz
    clear i0 i1 i2 i3 i4 j0 j1 j2 j3 j4 hcz
    obtain ⟨⟨h0, h1, h2, h3, h4⟩, ⟨f0, f1, f2, f3, f4⟩, ⟨k0, k1, k2⟩, ⟨l0, l1, l2⟩⟩ := hbx3
    obtain ⟨⟨i0, i1, i2, i3, i4⟩, ⟨j0, j1, j2, j3, j4⟩⟩ := hiz
    go_loopw [16, 19] (fun nx i wr => nx = .int .i64 (E : Nat) ∧ i = .int .u64 0 ∧ wr = wz) (fun _ _ _ => 0)
    case atStart => exact ⟨rfl, rfl, rfl⟩
    case round =>
      obtain ⟨rfl, rfl, rfl⟩ := hrel
      (repeat (first | go_values | go_skip | go_guarded | go_step | go_upon | (go_simp; go_at_K)))
      refine bodyPost_ret (v := .tuple #[.agg #[.int .i64 4, .int .u64 0, .slice none 0 0, .string T, .slice none 0 0], .int .i64 (E : Nat), fltV 0 0]) (by simp [results, Try.results34, go_sem, *]) rfl ?_
      rw [HR.out]
      refine ⟨?_, _, rfl, ?_⟩
      case refine_2 => exact num_it _ _ 4 (by omega) 0 (by decide) T hT6
      (repeat' (first | with_reducible exact HBW.out | with_reducible apply Below.drew | with_reducible refine Below.alloc ?_ (by first | omega | (simp; done) | (simp; omega)) _ | with_reducible refine Below.setCell ?_ (by first | (simp; done) | (simp only []; omega)) _))

set_option maxRecDepth 100000 in
set_option maxHeartbeats 8000000 in
theorem rread_C3q (d : Nat) (hof : RReadSaid d) (a : Option Addr) (n cp : Nat) (bs : List UInt8) (p wi dp : Nat) (w : World) (h : RdB w a n bs) (hn9 : n ≤ 1000000) (hcp : n ≤ cp) (hpn : p ≤ n) (hd : dp = wi + (d + 1)) (hd9 : dp ≤ 1000) (hlen : ¬ n ≤ p) (m low : Nat) (hm : m = bAt bs p / 32) (hlw : low = bAt bs p % 32) (h27 : ¬ 27 < low) (hsh : ¬ n < p + 1 + sizeL low) (h24 : 24 ≤ low) (hmv : m = 3) (hnd : needN (numL bs p low) = wideB low) (hsr : ¬ n < p + 1 + sizeL low + numL bs p low) (hcq : cp = p + 1 + sizeL low) :
    Calls Try.prog 34 #[.slice a n cp, .int .i64 (p : Nat), .int .i64 (wi : Nat), .int .i64 (dp : Nat)] w (RReadO w (readQ bs (d + 1) p)) := by
  obtain ⟨wa, hwa⟩ : ∃ W, W = ((w.alloc (.cells #[.int .i64 0, .int .u64 0, .slice none 0 0, .string ⟨#[]⟩, .slice none 0 0] 26)).alloc (.cells #[.int .i64 0, .int .i64 0, .slice none 0 0] 35)).alloc (.cells #[.int .i64 0, .int .u64 0, .slice none 0 0, .string ⟨#[]⟩, .slice none 0 0] 26) := ⟨_, rfl⟩
  have hba : Below w.heap.size w wa := by
    rw [hwa]
    exact (((Below.refl _ _).alloc (Nat.le_refl _) _).alloc (by simp) _).alloc (by simp; omega) _
  have hbx : RBx wa w.heap.size (w.heap.size + 1) ∧ IBx wa (w.heap.size + 2) 0 0 (.slice none 0 0) ⟨#[]⟩ (.slice none 0 0) := by rw [hwa]; exact three _ _ _
  have hz : wa.heap.size = w.heap.size + 3 := by rw [hwa]; simp
  have HX := Lib.hid hbx.1
  have HI := Lib.hid hbx.2
  have HZ := Lib.hid hz
  have HRD := Lib.hid (h.keep hba)
  have HBA := Lib.hid hba
  have HBW := Lib.hid hba
  have hbl : bs.length = n := h.1
  have hzr : 0 < wa.heap.size := by omega
  obtain ⟨R, hR⟩ : ∃ R, R = readQ bs (d + 1) p := ⟨_, rfl⟩
  rw [← hR]
  rw [readQ, hbl] at hR
  have d1 : decide ((dp : Int) ≤ (wi : Int)) = false := by simp; omega
  have d2 : decide (dp ≤ wi) = false := by simp; omega
  have wwi : IntKind.i64.wrap ((wi : Int) + 1) = ((wi + 1 : Nat) : Int) := (IntWalk.i64_in _ (by omega)).trans (by omega)
  have CRD : Hid (∀ W q, RdB W a n bs → q ≤ n → Calls Try.prog 34 #[.slice a n cp, .int .i64 (q : Nat), .int .i64 ((wi + 1 : Nat) : Int), .int .i64 (dp : Nat)] W (RReadO W (readQ bs d q))) := Lib.hid (fun W q hW hq => hof a n cp bs q (wi + 1) dp W hW hn9 hcp hq (by omega) hd9)
  obtain ⟨wj, hwj⟩ : ∃ x, x = wi + 1 := ⟨_, rfl⟩
  rw [← hwj] at wwi CRD
  clear hwj hof
  have h0b := Lib.hid h
  rw [if_neg hlen] at hR
  have dl : decide ((n : Int) ≤ (p : Int)) = false := by simp; omega
  have dl2 : decide (n ≤ p) = false := by simp; omega
  have hpl : p < n := by omega
  obtain ⟨b, o, rfl, hat⟩ := HRD.out.at p hpl
  have hc9 := bAt_lt bs p
  obtain ⟨c, hc⟩ : ∃ c, c = bAt bs p := ⟨_, rfl⟩
  rw [← hc] at hat hc9 hR hm hlw
  have wq : (c : Int).tdiv 32 = (m : Int) := by rw [Int.tdiv_eq_ediv_of_nonneg (by omega)]; omega
  have wr : (c : Int).tmod 32 = (low : Int) := by rw [Int.tmod_eq_emod_of_nonneg (by omega)]; omega
  have wq8 : IntKind.u8.wrap (m : Int) = (m : Int) := IntWalk.u8_in _ (by omega)
  have wr8 : IntKind.u8.wrap (low : Int) = (low : Int) := IntWalk.u8_in _ (by omega)
  have wq2 : IntKind.i64.wrap (m : Int) = (m : Int) := IntWalk.i64_in _ (by omega)
  have wr2 : IntKind.i64.wrap (low : Int) = (low : Int) := IntWalk.i64_in _ (by omega)
  have hm7 : m ≤ 7 := by omega
  rw [← hm, ← hlw] at hR
  have ip0 : (0 : Int) ≤ (p : Int) := by omega
  have ip1 : (p : Int) < (n : Int) := by omega
  clear hc hm hlw hc9 hlen
  rw [if_neg h27] at hR
  have g1 : decide ((27 : Int) < (low : Int)) = false := by simp; omega
  have g1n : decide (27 < low) = false := by simp; omega
  obtain ⟨x1, hx1⟩ : ∃ x, x = n - p := ⟨_, rfl⟩
  obtain ⟨x2, hx2⟩ : ∃ x, x = n - p - 1 := ⟨_, rfl⟩
  have wx1 : IntKind.i64.wrap ((n : Int) - (p : Int)) = (x1 : Int) := (IntWalk.i64_in _ (by omega)).trans (by omega)
  have wx2 : IntKind.i64.wrap ((x1 : Int) - 1) = (x2 : Int) := (IntWalk.i64_in _ (by omega)).trans (by omega)
  have q1 : decide ((24 : Int) ≤ (low : Int)) = true := by simp; omega
  have q1n : decide (24 ≤ low) = true := by simp; omega
  have e1 : sizeL low = wideB low := if_neg (by omega)
  rw [e1] at hR hsh hsr hcq
  obtain ⟨sh, hsh2⟩ : ∃ k, k = low - 24 := ⟨_, rfl⟩
  obtain ⟨Wd, hWd⟩ : ∃ k, k = wideB low := ⟨_, rfl⟩
  have wsh : IntKind.i64.wrap ((low : Int) - 24) = (sh : Int) := (IntWalk.i64_in _ (by omega)).trans (by omega)
  have wsu : IntKind.u64.wrap (sh : Int) = (sh : Int) := IntWalk.u64_in _ (by omega)
  have hpw : (2 : Int) ^ sh = (Wd : Int) := by
    rw [hWd, hsh2]
    have : low = 24 ∨ low = 25 ∨ low = 26 ∨ low = 27 := by omega
    rcases this with rfl | rfl | rfl | rfl <;> rfl
  have hW8 : Wd ≤ 8 := by rw [hWd]; exact (wideB_le _).2
  have hW1 : 1 ≤ Wd := by rw [hWd]; exact (wideB_le _).1
  have wW : IntKind.i64.wrap (Wd : Int) = (Wd : Int) := IntWalk.i64_in _ (by omega)
  have ws4' : wrap64 (Wd : Int) = (Wd : Int) := by unfold wrap64; omega
  have ws0 : (0 : Int) ≤ (sh : Int) := by omega
  have hms : min sh 64 = sh := by omega
  have HWS : Hid (IntKind.i64.wrap (1 * 2 ^ sh) = (Wd : Int) ∧ IntKind.i64.wrap (2 ^ sh) = (Wd : Int) ∧ wrap64 (2 ^ min sh 64) = (Wd : Int)) := Lib.hid ⟨by rw [Int.one_mul, hpw]; exact wW, by rw [hpw]; exact wW, by rw [hms, hpw]; exact ws4'⟩
  clear hpw hms ws4'
  have ws3 : decide ((sh : Int) < 0) = false := by simp
  rw [← hWd] at hR hsh hsr hcq
  rw [if_neg hsh] at hR
  have q3 : decide ((x2 : Int) < (Wd : Int)) = false := by simp; omega
  have q3n : decide (x2 < Wd) = false := by simp; omega
  have q4 : decide ((0 : Int) < (Wd : Int)) = true := by simp; omega
  have q4n : decide (0 < Wd) = true := by simp; omega
  have en : numL bs p low = be (seg bs (p + 1) Wd) := by rw [hWd]; exact if_neg (by omega)
  have CN := Lib.hid (fun W hW => high_yes (some ⟨b, o, none⟩) n cp (p + 1) Wd W bs hW (by omega) hW1 hW8)
  rw [← en] at CN
  have hnv9 : numL bs p low < okSize := numL_lt bs p low (by omega) (by rw [e1, ← hWd, hbl]; omega)
  obtain ⟨nv, hnv⟩ : ∃ x, x = numL bs p low := ⟨_, rfl⟩
  rw [← hnv] at CN hnv9 hR hnd hsr
  obtain ⟨p1, hp1⟩ : ∃ x, x = p + 1 := ⟨_, rfl⟩
  have wp1 : IntKind.i64.wrap ((p : Int) + 1) = (p1 : Int) := (IntWalk.i64_in _ (by omega)).trans (by omega)
  rw [← hp1] at CN hR hsr hcq
  obtain ⟨q, hq⟩ : ∃ q, q = p1 + Wd := ⟨_, rfl⟩
  have wp2 : IntKind.i64.wrap ((p1 : Int) + (Wd : Int)) = (q : Int) := (IntWalk.i64_in _ (by omega)).trans (by omega)
  have wlw : IntKind.u64.wrap (low : Int) = (low : Int) := IntWalk.u64_in _ (by omega)
  rw [← hq] at hR hsr hcq
  have hqn : q ≤ n := by omega
  have HWd := Lib.hid hWd
  have HND : Hid (needN nv = Wd) := hnd.trans HWd.out.symm
  clear hsh hx1 hx2 e1 en hnv hq hp1 hsh2 hWd
  obtain ⟨Lf, hLf⟩ : ∃ L, L = n - q := ⟨_, rfl⟩
  have wl1 : IntKind.i64.wrap ((n : Int) - (q : Int)) = (Lf : Int) := (IntWalk.i64_in _ (by omega)).trans (by omega)
  have wl2 : IntKind.u64.wrap (Lf : Int) = (Lf : Int) := IntWalk.u64_in _ (by omega)
  have hle : q + nv ≤ n := by omega
  have g5 : decide ((Lf : Int) < (nv : Int)) = false := by simp; omega
  have g5n : decide (Lf < nv) = false := by simp; omega
  have wn : IntKind.i64.wrap (nv : Int) = (nv : Int) := IntWalk.i64_in _ (by omega)
  obtain ⟨E, hE⟩ : ∃ x, x = q + nv := ⟨_, rfl⟩
  have wE : IntKind.i64.wrap ((q : Int) + (nv : Int)) = (E : Int) := (IntWalk.i64_in _ (by omega)).trans (by omega)
  have r1 : (0 : Int) ≤ (q : Int) := by omega
  have r2 : (q : Int) ≤ (E : Int) := by omega
  have r3 : (E : Int) ≤ (cp : Int) := by omega
  obtain ⟨S, hS⟩ : ∃ S, S = seg bs q nv := ⟨_, rfl⟩
  have HLS : Hid (S.length = nv) := by show _ = _; rw [hS]; exact seg_length _ _ _ (by rw [hbl]; omega)
  have hnv6 : nv ≤ 1000000 := by omega
  have hEq : E - q = nv := by omega
  have hnv0 : nv = 0 := by omega
  have HSE : Hid (∀ W, RdB W (some ⟨b, o, none⟩) n bs → RdB W (some ⟨b, o, none⟩) (E - q) S) := Lib.hid (fun W h => by rw [hS, hEq]; exact rd_nil28 hbl (by omega) hnv0)
  have HQ : Hid (R = if (wholeTo S == nv) = false then .error (4, p) else .ok (.mk 4 0 [] (txt S) .nil, E)) := by show _ = _; rw [hR]; unfold behQ; rw [if_neg (by omega), if_neg (fun h => h.2 hnd), if_neg (by omega), if_neg (by omega), if_pos (by omega)]; unfold rowQ; rw [hbl, if_neg hsr, if_neg (by omega), ← hS, ← hE]
  obtain ⟨hl2, hhl2⟩ : ∃ x, x = (headB m nv).length := ⟨_, rfl⟩
  have HLN : Hid ((headB m nv).length = hl2) := hhl2.symm
  rw [headB_len, HND.out] at hhl2
  have w1W : IntKind.i64.wrap (1 + (Wd : Int)) = (hl2 : Int) := (IntWalk.i64_in _ (by omega)).trans (by omega)
  have hln : ((hl2 : Int) != (hl2 : Int)) = false := by simp
  clear hhl2
  subst hmv
  have CH := Lib.hid (fun W => rhead_calls (3 : Nat) 3 rfl (by omega) nv hnv9 W)
  clear hS hE hEq hle hnv0 hsr hLf
  clear hR CRD h24 hnd
  obtain ⟨⟨h0, h1, h2, h3, h4⟩, ⟨f0, f1, f2, f3, f4⟩, ⟨k0, k1, k2⟩, ⟨l0, l1, l2⟩⟩ := HX.out
  obtain ⟨⟨i0, i1, i2, i3, i4⟩, ⟨j0, j1, j2, j3, j4⟩⟩ := HI.out
  clear h hba hbx hz hd hd9 hcp
  subst cp
  obtain ⟨ws1, ws2, ws4⟩ := HWS.out
  go_enter Try.func34, Try.ntmps34
  go_upto_region 2 with fail
  rw [← hwa]
  clear hwa
  go_wp2_with fail
  go_quiet (fail)
  obtain ⟨wb, hwb⟩ : ∃ W, W = wa.drewN nq := ⟨_, rfl⟩
  have hbb : Below wa.heap.size wa wb := by rw [hwb]; exact below_drewN wa nq wa.heap.size
  rw [← hwb]
  clear hwb
  have HBB := Lib.hid hbb
  have HBW := Lib.hid (HBA.out.trans (hbb.mono HBA.out.size))
  have hzb : w.heap.size + 3 ≤ wb.heap.size := by have := hbb.size; have := HZ.out; omega
  clear hbb h0 h1 h2 h3 h4 f0 f1 f2 f3 f4 k0 k1 k2 l0 l1 l2 i0 i1 i2 i3 i4 j0 j1 j2 j3 j4 hat
  obtain ⟨⟨h0, h1, h2, h3, h4⟩, ⟨f0, f1, f2, f3, f4⟩, ⟨k0, k1, k2⟩, ⟨l0, l1, l2⟩⟩ := HX.out.keep HBB.out
  obtain ⟨⟨i0, i1, i2, i3, i4⟩, ⟨j0, j1, j2, j3, j4⟩⟩ := HI.out.keep HBB.out
  go_wp2_with fail
  refine (CN.out wb (HRD.out.keep HBB.out)).mono ?_
  rintro e w1 ⟨rfl, rfl⟩
  go_wp2_with fail
  refine (CH.out _).mono ?_
  rintro e w2 ⟨v2, rfl, hst⟩
  obtain ⟨a2, c2, rfl, hr2⟩ := hst.1.reads
  rw [HLN.out] at hst hr2 ⊢
  have HB2 := Lib.hid (HBB.out.trans (hst.2.mono HBB.out.size))
  have HBW := Lib.hid (HBA.out.trans (HB2.out.mono HBA.out.size))
  have hzr2 : w.heap.size + 3 ≤ w2.heap.size := by have := HB2.out.size; have := HZ.out; omega
  clear h0 h1 h2 h3 h4 f0 f1 f2 f3 f4 k0 k1 k2 l0 l1 l2 i0 i1 i2 i3 i4 j0 j1 j2 j3 j4 hzb
  obtain ⟨⟨h0, h1, h2, h3, h4⟩, ⟨f0, f1, f2, f3, f4⟩, ⟨k0, k1, k2⟩, ⟨l0, l1, l2⟩⟩ := HX.out.keep HB2.out
  have HI2 := Lib.hid (HI.out.keep HB2.out)
  obtain ⟨⟨i0, i1, i2, i3, i4⟩, ⟨j0, j1, j2, j3, j4⟩⟩ := HI2.out
  have HRD2 := Lib.hid (HRD.out.keep HB2.out)
  clear hst hr2 CH HLN
  go_upto_region 41 with fail
  obtain ⟨wy, hwy⟩ : ∃ W, W = w2.setCell ⟨w.heap.size + 2, 0, none⟩ (.int .i64 4) := ⟨_, rfl⟩
  rw [← hwy]
  have hiy : IBx wy (w.heap.size + 2) 4 0 (.slice none 0 0) ⟨#[]⟩ (.slice none 0 0) := by rw [hwy]; exact HI2.out.set0
  have hcy : Chg (fun i => i = w.heap.size + 2) w2 wy := by
    rw [hwy]
    have hX : (fun i => i = w.heap.size + 2) (w.heap.size + 2) := rfl
    exact Chg.setCell (Chg.refl _ _) (fun _ => hX) _
  clear hwy
  have hb9 : b < w.heap.size := by
    obtain ⟨bb, oo, e, hcc⟩ := h0b.out.at p hpl
    obtain ⟨rfl, -⟩ : bb = b ∧ oo = o := by simpa using (Option.some.inj e).symm
    simpa using cell_block hcc
  have hry : RdB wy (some ⟨b, o, none⟩) n bs := HRD2.out.chg hcy (fun x hx e => by rw [← Option.some.inj hx] at e; have e' : b = w.heap.size + 2 := e; omega)
  have HSY := Lib.hid (HSE.out wy hry)
  have HIY := Lib.hid hiy
  have HBY := Lib.hid (HBW.out.trans ((hcy.below (B := w.heap.size) (by omega) (fun i e => by omega))))
  have HXY := Lib.hid ((HX.out.keep HB2.out).chg hcy (by omega) (by omega))
  have hzy : w.heap.size + 3 ≤ wy.heap.size := by have := hcy.size; omega
  clear hcy hry hiy h0 h1 h2 h3 h4 f0 f1 f2 f3 f4 k0 k1 k2 l0 l1 l2 i0 i1 i2 i3 i4 j0 j1 j2 j3 j4 HI2 HB2 HX hb9
  obtain ⟨⟨i0, i1, i2, i3, i4⟩, ⟨j0, j1, j2, j3, j4⟩⟩ := HIY.out
  have hcv := conv_str HSY.out (0)
  have hts : (txt S).size = nv := by rw [← sl_len, sl_txt]; exact HLS.out
  have CWH := Lib.hid (fun W => rwhole_calls (txt S) (by rw [hts]; omega) W)
  rw [sl_txt, hts] at CWH
  obtain ⟨T, hT⟩ : ∃ T, T = txt S := ⟨_, rfl⟩
  have HTS : Hid (T.size = nv) := by show _ = _; rw [hT]; exact hts
  rw [← hT] at CWH hcv
  have HQ2 : Hid (R = if (wholeTo S == nv) = false then .error (4, p) else .ok (.mk 4 0 [] T .nil, E)) := by show _ = _; rw [HQ.out, hT]
  have HCV : Hid (∀ W, Below wy.heap.size wy W → (convert 23 9 (.slice (some ⟨b, o, none⟩) (E - q) (0))).run Try.prog W = .ok (.string T) W) := Lib.hid (fun W hW => by rw [hT]; exact conv_str (HSY.out.keep hW) (0))
  clear hT hts HQ
  go_wp2_with fail
  refine (CWH.out _).mono ?_
  rintro e w4 ⟨rfl, hb4⟩
  have hcv4 := HCV.out w4 hb4
  clear CWH HCV hcv
  have HBW := Lib.hid (HBY.out.trans (hb4.mono HBY.out.size))
  have HIV := Lib.hid (HIY.out.keep hb4)
  have HXV := Lib.hid (HXY.out.keep hb4)
  have hzv : w.heap.size + 3 ≤ w4.heap.size := by have := hb4.size; omega
  clear i0 i1 i2 i3 i4 j0 j1 j2 j3 j4 hb4
  obtain ⟨⟨i0, i1, i2, i3, i4⟩, ⟨j0, j1, j2, j3, j4⟩⟩ := HIV.out
  cases hw : (wholeTo S == nv) with
  | false =>
    have HR : Hid (R = .error (4, p)) := by show _ = _; rw [HQ2.out, if_pos hw]
    obtain ⟨⟨h0, h1, h2, h3, h4⟩, ⟨f0, f1, f2, f3, f4⟩, ⟨k0, k1, k2⟩, ⟨l0, l1, l2⟩⟩ := HXV.out
    clear hw HQ2
    (repeat (first | go_values | go_skip | go_guarded | go_step | go_upon | (go_simp; go_at_K)))
    refine bodyPost_ret (v := .tuple #[zIt, .int .i64 0, fltV 4 p]) (by simp [results, Try.results34, go_sem, *]) rfl ?_
    rw [HR.out]
    refine rread_err ?_
    (repeat' (first | with_reducible exact HBW.out | with_reducible apply Below.drew | with_reducible refine Below.alloc ?_ (by first | omega | (simp; done) | (simp; omega)) _ | with_reducible refine Below.setCell ?_ (by first | (simp; done) | (simp only []; omega)) _))
  | true =>
    have HR : Hid (R = .ok (.mk 4 0 [] T .nil, E)) := by show _ = _; rw [HQ2.out, if_neg (by rw [hw]; simp)]
    have hT6 : T.size ≤ 1000000 := by rw [HTS.out]; exact hnv6
    clear hw HQ2
    go_upto_region 48 with fail
    obtain ⟨wz, hwz⟩ : ∃ W, W = w4.setCell ⟨w.heap.size + 2, 3, none⟩ (.string T) := ⟨_, rfl⟩
    rw [← hwz]
    have hiz : IBx wz (w.heap.size + 2) 4 0 (.slice none 0 0) T (.slice none 0 0) := by rw [hwz]; exact HIV.out.set3
    have hcz : Chg (fun i => i = w.heap.size + 2) w4 wz := by
      rw [hwz]
      have hX : (fun i => i = w.heap.size + 2) (w.heap.size + 2) := rfl
      exact Chg.setCell (Chg.refl _ _) (fun _ => hX) _
    clear hwz
    have HBW := Lib.hid (HBW.out.trans ((hcz.below (B := w.heap.size) (by omega) (fun i e => by omega))))
    have hbx3 := HXV.out.chg hcz (by omega) (by omega)
    have hzz : w.heap.size + 3 ≤ wz.heap.size := by have := hcz.size; omega
    have HCZ := Lib.hid hcz
    clear i0 i1 i2 i3 i4 j0 j1 j2 j3 j4 hcz
    obtain ⟨⟨h0, h1, h2, h3, h4⟩, ⟨f0, f1, f2, f3, f4⟩, ⟨k0, k1, k2⟩, ⟨l0, l1, l2⟩⟩ := hbx3
    obtain ⟨⟨i0, i1, i2, i3, i4⟩, ⟨j0, j1, j2, j3, j4⟩⟩ := hiz
    go_loopw [16, 19] (fun nx i wr => nx = .int .i64 (E : Nat) ∧ i = .int .u64 0 ∧ wr = wz) (fun _ _ _ => 0)
    case atStart => exact ⟨rfl, rfl, rfl⟩
    case round =>
      obtain ⟨rfl, rfl, rfl⟩ := hrel
      (repeat (first | go_values | go_skip | go_guarded | go_step | go_upon | (go_simp; go_at_K)))
      refine bodyPost_ret (v := .tuple #[.agg #[.int .i64 4, .int .u64 0, .slice none 0 0, .string T, .slice none 0 0], .int .i64 (E : Nat), fltV 0 0]) (by simp [results, Try.results34, go_sem, *]) rfl ?_
      rw [HR.out]
      refine ⟨?_, _, rfl, ?_⟩
      case refine_2 => exact num_it _ _ 4 (by omega) 0 (by decide) T hT6
      (repeat' (first | with_reducible exact HBW.out | with_reducible apply Below.drew | with_reducible refine Below.alloc ?_ (by first | omega | (simp; done) | (simp; omega)) _ | with_reducible refine Below.setCell ?_ (by first | (simp; done) | (simp only []; omega)) _))

end Go.Proofs.Ytambhapgjonmmaa
