/- The reference's read of CBOR: items with Kids. -/
import Derived.Test.YtambhapgjonmmaaRc0
import Derived.Test.YtambhapgjonmmaaCbH
import Derived.BigQuiet
import Derived.Deep.RegionHeld3
namespace Go.Proofs.Ytambhapgjonmmaa
open Go.RowKit
set_option linter.unusedVariables false
set_option linter.unusedSimpArgs false

/-- Where the loops stand: so many Kids are left. -/
def RInv (w : World) (n : Nat) (k : Int) (nn : Nat) (rd : Nat → Rs I) (R : Rs I) (c q : Nat) (wr : World) : Prop :=
  ∃ (acc : IL) (v : Value), IBx wr (w.heap.size + 2) k nn (.slice none 0 0) ⟨#[]⟩ v ∧ RBx wr w.heap.size (w.heap.size + 1) ∧ OwnI wr (w.heap.size + 3) (fun k => w.heap.size + 3 ≤ k) v acc ∧ Below w.heap.size w wr ∧ w.heap.size + 3 ≤ wr.heap.size ∧ acc.len ≤ q ∧ q ≤ n ∧ R = wrapK k nn acc (kidsW rd c q)
theorem RInv.next {w wr w3 w4 : World} {n : Nat} {k : Int} {nn : Nat} {rd : Nat → Rs I} {R : Rs I} {c q q2 : Nat} {acc : IL} {v v4 : Value} {x : I}
    (hib : IBx wr (w.heap.size + 2) k nn (.slice none 0 0) ⟨#[]⟩ v) (hbx : RBx wr w.heap.size (w.heap.size + 1)) (hown : OwnI wr (w.heap.size + 3) (fun k => w.heap.size + 3 ≤ k) v acc) (hbl : Below w.heap.size w wr) (hz : w.heap.size + 3 ≤ wr.heap.size) (hl : acc.len ≤ q) (hres : R = wrapK k nn acc (kidsW rd (c + 1) q))
    (hrq : rd q = .ok (x, q2)) (hqq : q < q2) (hq2 : q2 ≤ n) (hb3 : Below wr.heap.size wr w3)
    (ho : OwnI w4 (w.heap.size + 3) (fun k => w.heap.size + 3 ≤ k) v4 (acc.append (.cons x .nil))) (ha : AppF w3 w4 v v4) : RInv w n k nn rd R c q2 (w4.setCell ⟨w.heap.size + 2, 4, none⟩ v4) := by
  have hz3 := hb3.size
  have hz4 := ha.size
  have far : ∀ i, v.ownBlock = some i → w.heap.size + 3 ≤ i := fun i hi => (hown.far i hi).1
  have h4 : Chg (fun i => v.ownBlock = some i) w3 w4 := ha.chg
  have hX : (fun i => i = w.heap.size + 2) (w.heap.size + 2) := rfl
  have hs : Chg (fun i => i = w.heap.size + 2) w4 (w4.setCell ⟨w.heap.size + 2, 4, none⟩ v4) := Chg.setCell (S := fun i => i = w.heap.size + 2) (p := ⟨w.heap.size + 2, 4, none⟩) (Chg.refl _ w4) (fun _ => hX) v4
  have n4 : ∀ i, i < w.heap.size + 3 → ¬ v.ownBlock = some i := fun i hi e => by have := far i e; omega
  have hb4 : Below w.heap.size w (w4.setCell ⟨w.heap.size + 2, 4, none⟩ v4) := ((hbl.trans (hb3.mono hbl.size)).trans (h4.below (by omega) (fun i e => by have := far i e; omega))).trans (hs.below (by omega) (fun i e => by omega))
  refine ⟨acc.append (.cons x .nil), v4, ((hib.keep hb3).chg h4 (n4 _ (by omega))).set4, ((hbx.keep hb3).chg h4 (n4 _ (by omega)) (n4 _ (by omega))).chg hs (by omega) (by omega), ?_, hb4, by have := hs.size; omega, ?_, hq2, hres.trans (wrapK_ok hrq)⟩
  · exact ho.chg hs (fun i hi e => by have : w.heap.size + 3 ≤ i := hi; have : i = w.heap.size + 2 := e; omega) (fun i hi e => by have := (ho.far i hi).1; have : i = w.heap.size + 2 := e; omega)
  · rw [IL.append_len]
    simp only [IL.len]
    omega
theorem rkids_fin {w wr W' : World} {n : Nat} {k : Int} {nn q m c9 : Nat} {a9 : Option Addr} {acc : IL} (ho : OwnI wr (w.heap.size + 3) (fun k => w.heap.size + 3 ≤ k) (.slice a9 m c9) acc) (hbl : Below w.heap.size w wr) (hz : w.heap.size + 3 ≤ wr.heap.size)
    (hk : -9223372036854775808 ≤ k ∧ k ≤ 9223372036854775807) (hnn : nn < okSize) (hX : Chg (fun i => i = w.heap.size ∨ i = w.heap.size + 1) wr W') : RReadO w (.ok (.mk k nn [] ⟨#[]⟩ acc, q)) (.returned (.tuple #[.agg #[.int .i64 k, .int .u64 (nn : Nat), .slice none 0 0, .string ⟨#[]⟩, .slice a9 m c9], .int .i64 (q : Nat), fltV 0 0])) W' := by
  have ho2 : OwnI W' (w.heap.size + 3) (fun k => w.heap.size + 3 ≤ k) (.slice a9 m c9) acc := ho.chg hX (fun i hi e => by have : w.heap.size + 3 ≤ i := hi; omega) (fun i hi e => by have := (ho.far i hi).1; omega)
  obtain ⟨a', c', e', h1, h2, h3⟩ := ho2.reads (L := fun k => w.heap.size + 3 ≤ k) (fun k h => h)
  simp only [Value.slice.injEq] at e'
  obtain ⟨rfl, rfl, rfl⟩ := e'
  refine ⟨hbl.trans (hX.below (by omega) (fun i e => by omega)), _, rfl, none, 0, 0, _, _, _, rfl, ⟨hk, hnn, by decide⟩, ⟨RdB.nil _ _, fun h => absurd h (by omega)⟩, rfl, ⟨h3, h2, ⟨fun _ => rfl, Nat.le_refl _⟩⟩, ?_⟩
  exact RdIs.imp (fun k _ hk => by have : w.heap.size + 3 ≤ k := hk; omega) h1

set_option maxRecDepth 100000 in
set_option maxHeartbeats 8000000 in
theorem rread_A4 (d : Nat) (hof : RReadSaid d) (a : Option Addr) (n cp : Nat) (bs : List UInt8) (p wi dp : Nat) (w : World) (h : RdB w a n bs) (hn9 : n ≤ 1000000) (hcp : n ≤ cp) (hpn : p ≤ n) (hd : dp = wi + (d + 1)) (hd9 : dp ≤ 1000) (hlen : ¬ n ≤ p) (m low : Nat) (hm : m = bAt bs p / 32) (hlw : low = bAt bs p % 32) (h27 : ¬ 27 < low) (hsh : ¬ n < p + 1 + sizeL low) (h24 : ¬ 24 ≤ low) (hmv : m = 4) :
    Calls Try.prog 34 #[.slice a n cp, .int .i64 (p : Nat), .int .i64 (wi : Nat), .int .i64 (dp : Nat)] w (RReadO w (readQ bs (d + 1) p)) := by
  obtain ⟨wa, hwa⟩ : ∃ W, W = ((w.alloc (.cells #[.int .i64 0, .int .u64 0, .slice none 0 0, .string ⟨#[]⟩, .slice none 0 0] 26)).alloc (.cells #[.int .i64 0, .int .i64 0, .slice none 0 0] 35)).alloc (.cells #[.int .i64 0, .int .u64 0, .slice none 0 0, .string ⟨#[]⟩, .slice none 0 0] 26) := ⟨_, rfl⟩
  have hba : Below w.heap.size w wa := by
    rw [hwa]
    exact (((Below.refl _ _).alloc (Nat.le_refl _) _).alloc (by simp) _).alloc (by simp; omega) _
  have hbx : RBx wa w.heap.size (w.heap.size + 1) ∧ IBx wa (w.heap.size + 2) 0 0 (.slice none 0 0) ⟨#[]⟩ (.slice none 0 0) := by rw [hwa]; exact three _ _ _
  have hz : wa.heap.size = w.heap.size + 3 := by rw [hwa]; simp
  have HX := Lib.hid hbx.1
  have HI := Lib.hid hbx.2
  have HZ := Lib.hid hz
  have HRD := Lib.hid (h.keep hba)
  have HBA := Lib.hid hba
  have HBW := Lib.hid hba
  have hbl : bs.length = n := h.1
  have hzr : 0 < wa.heap.size := by omega
  obtain ⟨R, hR⟩ : ∃ R, R = readQ bs (d + 1) p := ⟨_, rfl⟩
  rw [← hR]
  rw [readQ, hbl] at hR
  have d1 : decide ((dp : Int) ≤ (wi : Int)) = false := by simp; omega
  have d2 : decide (dp ≤ wi) = false := by simp; omega
  have wwi : IntKind.i64.wrap ((wi : Int) + 1) = ((wi + 1 : Nat) : Int) := (IntWalk.i64_in _ (by omega)).trans (by omega)
  have CRD : Hid (∀ W q, RdB W a n bs → q ≤ n → Calls Try.prog 34 #[.slice a n cp, .int .i64 (q : Nat), .int .i64 ((wi + 1 : Nat) : Int), .int .i64 (dp : Nat)] W (RReadO W (readQ bs d q))) := Lib.hid (fun W q hW hq => hof a n cp bs q (wi + 1) dp W hW hn9 hcp hq (by omega) hd9)
  obtain ⟨wj, hwj⟩ : ∃ x, x = wi + 1 := ⟨_, rfl⟩
  rw [← hwj] at wwi CRD
  clear hwj hof
  have h0b := Lib.hid h
  rw [if_neg hlen] at hR
  have dl : decide ((n : Int) ≤ (p : Int)) = false := by simp; omega
  have dl2 : decide (n ≤ p) = false := by simp; omega
  have hpl : p < n := by omega
  obtain ⟨b, o, rfl, hat⟩ := HRD.out.at p hpl
  have hc9 := bAt_lt bs p
  obtain ⟨c, hc⟩ : ∃ c, c = bAt bs p := ⟨_, rfl⟩
  rw [← hc] at hat hc9 hR hm hlw
  have wq : (c : Int).tdiv 32 = (m : Int) := by rw [Int.tdiv_eq_ediv_of_nonneg (by omega)]; omega
  have wr : (c : Int).tmod 32 = (low : Int) := by rw [Int.tmod_eq_emod_of_nonneg (by omega)]; omega
  have wq8 : IntKind.u8.wrap (m : Int) = (m : Int) := IntWalk.u8_in _ (by omega)
  have wr8 : IntKind.u8.wrap (low : Int) = (low : Int) := IntWalk.u8_in _ (by omega)
  have wq2 : IntKind.i64.wrap (m : Int) = (m : Int) := IntWalk.i64_in _ (by omega)
  have wr2 : IntKind.i64.wrap (low : Int) = (low : Int) := IntWalk.i64_in _ (by omega)
  have hm7 : m ≤ 7 := by omega
  rw [← hm, ← hlw] at hR
  have ip0 : (0 : Int) ≤ (p : Int) := by omega
  have ip1 : (p : Int) < (n : Int) := by omega
  clear hc hm hlw hc9 hlen
  rw [if_neg h27] at hR
  have g1 : decide ((27 : Int) < (low : Int)) = false := by simp; omega
  have g1n : decide (27 < low) = false := by simp; omega
  obtain ⟨x1, hx1⟩ : ∃ x, x = n - p := ⟨_, rfl⟩
  obtain ⟨x2, hx2⟩ : ∃ x, x = n - p - 1 := ⟨_, rfl⟩
  have wx1 : IntKind.i64.wrap ((n : Int) - (p : Int)) = (x1 : Int) := (IntWalk.i64_in _ (by omega)).trans (by omega)
  have wx2 : IntKind.i64.wrap ((x1 : Int) - 1) = (x2 : Int) := (IntWalk.i64_in _ (by omega)).trans (by omega)
  have q1 : decide ((24 : Int) ≤ (low : Int)) = false := by simp; omega
  have q1n : decide (24 ≤ low) = false := by simp; omega
  have e1 : sizeL low = 0 := if_pos (by omega)
  rw [e1] at hR hsh
  have q3 : decide ((x2 : Int) < 0) = false := by simp
  rw [if_neg hsh] at hR
  have en : numL bs p low = low := if_pos (by omega)
  obtain ⟨nv, hnv⟩ : ∃ x, x = numL bs p low := ⟨_, rfl⟩
  have wl : IntKind.u64.wrap (low : Int) = (nv : Int) := (IntWalk.u64_in _ (by omega)).trans (by omega)
  obtain ⟨q, hq⟩ : ∃ q, q = p + 1 + 0 := ⟨_, rfl⟩
  have wp1 : IntKind.i64.wrap ((p : Int) + 1) = (q : Int) := (IntWalk.i64_in _ (by omega)).trans (by omega)
  have wp2 : IntKind.i64.wrap (q : Int) = (q : Int) := IntWalk.i64_in _ (by omega)
  have hnv9 : nv < okSize := by rw [hnv, en]; unfold okSize; omega
  rw [← hq, ← hnv] at hR
  have hqn : q ≤ n := by omega
  have HND : Hid (needN nv = 0) := by show _ = _; rw [hnv, en]; unfold needN; rw [if_pos (by omega)]
  clear hsh hx1 hx2 e1 en hnv hq
  obtain ⟨rd, hrd⟩ : ∃ f, f = readQ bs d := ⟨_, rfl⟩
  rw [← hrd] at hR
  have HMO : Hid (∀ q x q2, q ≤ n → rd q = .ok (x, q2) → q < q2) := by
    show ∀ q x q2, _
    intro q x q2 hq hh
    rw [hrd] at hh
    exact readQ_more bs d q x q2 (by rw [hbl]; exact hq) hh
  have HFN : Hid ((∀ q x a, q ≤ n → rd q = .error (x, a) → (1 ≤ x ∧ x ≤ 10) ∧ a ≤ n) ∧ (∀ q x q2, q ≤ n → rd q = .ok (x, q2) → q2 ≤ n)) := by
    show _ ∧ _
    refine ⟨fun q x a hq hh => ?_, fun q x q2 hq hh => ?_⟩
    · rw [hrd] at hh
      have := readQ_fine bs d q (by rw [hbl]; exact hq)
      rw [hh] at this
      exact ⟨this.1, by have := this.2.1; omega⟩
    · rw [hrd] at hh
      have := readQ_fine bs d q (by rw [hbl]; exact hq)
      rw [hh] at this
      have := this.2
      omega
  rw [← hrd] at CRD
  have HR0 : Hid (R = wrapK 5 0 .nil (kidsW rd (nv * 1) q)) := by
    show _ = _
    rw [hR]; unfold behQ; rw [if_neg (by omega), if_neg (by omega), if_neg (by omega), if_neg (by omega), if_neg (by omega), if_pos (by omega)]
    rw [← wrapK_nil, Nat.mul_one]
  obtain ⟨hl2, hhl2⟩ : ∃ x, x = (headB m nv).length := ⟨_, rfl⟩
  have HLN : Hid ((headB m nv).length = hl2) := hhl2.symm
  rw [headB_len, HND.out] at hhl2
  have hln : ((hl2 : Int) != 1) = false := by simp; omega
  clear hhl2
  subst hmv
  have CH := Lib.hid (fun W => rhead_calls (4 : Nat) 4 rfl (by omega) nv hnv9 W)
  clear hrd
  clear hR h24
  obtain ⟨⟨h0, h1, h2, h3, h4⟩, ⟨f0, f1, f2, f3, f4⟩, ⟨k0, k1, k2⟩, ⟨l0, l1, l2⟩⟩ := HX.out
  obtain ⟨⟨i0, i1, i2, i3, i4⟩, ⟨j0, j1, j2, j3, j4⟩⟩ := HI.out
  clear h hba hbx hz hd hd9 hcp
  go_enter Try.func34, Try.ntmps34
  go_upto_region 2 with fail
  rw [← hwa]
  clear hwa
  go_wp2_with fail
  go_quiet (fail)
  obtain ⟨wb, hwb⟩ : ∃ W, W = wa.drewN nq := ⟨_, rfl⟩
  have hbb : Below wa.heap.size wa wb := by rw [hwb]; exact below_drewN wa nq wa.heap.size
  rw [← hwb]
  clear hwb
  have HBB := Lib.hid hbb
  have HBW := Lib.hid (HBA.out.trans (hbb.mono HBA.out.size))
  have hzb : w.heap.size + 3 ≤ wb.heap.size := by have := hbb.size; have := HZ.out; omega
  clear hbb h0 h1 h2 h3 h4 f0 f1 f2 f3 f4 k0 k1 k2 l0 l1 l2 i0 i1 i2 i3 i4 j0 j1 j2 j3 j4 hat
  obtain ⟨⟨h0, h1, h2, h3, h4⟩, ⟨f0, f1, f2, f3, f4⟩, ⟨k0, k1, k2⟩, ⟨l0, l1, l2⟩⟩ := HX.out.keep HBB.out
  obtain ⟨⟨i0, i1, i2, i3, i4⟩, ⟨j0, j1, j2, j3, j4⟩⟩ := HI.out.keep HBB.out
  go_wp2_with fail
  refine (CH.out _).mono ?_
  rintro e w2 ⟨v2, rfl, hst⟩
  obtain ⟨a2, c2, rfl, hr2⟩ := hst.1.reads
  rw [HLN.out] at hst hr2 ⊢
  have HB2 := Lib.hid (HBB.out.trans (hst.2.mono HBB.out.size))
  have HBW := Lib.hid (HBA.out.trans (HB2.out.mono HBA.out.size))
  have hzr2 : w.heap.size + 3 ≤ w2.heap.size := by have := HB2.out.size; have := HZ.out; omega
  clear h0 h1 h2 h3 h4 f0 f1 f2 f3 f4 k0 k1 k2 l0 l1 l2 i0 i1 i2 i3 i4 j0 j1 j2 j3 j4 hzb
  obtain ⟨⟨h0, h1, h2, h3, h4⟩, ⟨f0, f1, f2, f3, f4⟩, ⟨k0, k1, k2⟩, ⟨l0, l1, l2⟩⟩ := HX.out.keep HB2.out
  have HI2 := Lib.hid (HI.out.keep HB2.out)
  obtain ⟨⟨i0, i1, i2, i3, i4⟩, ⟨j0, j1, j2, j3, j4⟩⟩ := HI2.out
  have HRD2 := Lib.hid (HRD.out.keep HB2.out)
  clear hst hr2 CH HLN
  go_upto_region 48 with fail
  obtain ⟨wz, hwz⟩ : ∃ W, W = w2.setCell ⟨w.heap.size + 2, 0, none⟩ (.int .i64 5) := ⟨_, rfl⟩
  rw [← hwz]
  have hiz : IBx wz (w.heap.size + 2) 5 0 (.slice none 0 0) ⟨#[]⟩ (.slice none 0 0) := by rw [hwz]; exact HI2.out.set0
  have hcz : Chg (fun i => i = w.heap.size + 2) w2 wz := by
    rw [hwz]
    have hX : (fun i => i = w.heap.size + 2) (w.heap.size + 2) := rfl
    (repeat' (first | with_reducible exact Chg.refl _ _ | refine Chg.setCell ?_ (fun _ => hX) _))
  clear hwz
  have H0 : Hid (RInv w n 5 0 rd R (nv * 1) q wz) := by
    refine Lib.hid ⟨.nil, .slice none 0 0, hiz, (HX.out.keep HB2.out).chg hcz (by omega) (by omega), OwnI.nil _ _ _, HBW.out.trans (hcz.below (B := w.heap.size) (by omega) (fun i e => by omega)), by have := hcz.size; omega, by simp [IL.len], hqn, HR0.out⟩
  have hb9 : b < w.heap.size := by
    obtain ⟨bb, oo, e, hcc⟩ := h0b.out.at p hpl
    obtain ⟨rfl, -⟩ : bb = b ∧ oo = o := by simpa using (Option.some.inj e).symm
    simpa using cell_block hcc
  clear hcz hiz h0 h1 h2 h3 h4 f0 f1 f2 f3 f4 k0 k1 k2 l0 l1 l2 i0 i1 i2 i3 i4 j0 j1 j2 j3 j4 HI2 HB2 HX HR0 HRD2 HRD hb9 hqn
  clear d1 d2 dl dl2 g1 g1n wx1 wx2 q1 q1n q3 wp1 wp2 wr8 wr2 wr ip0 ip1 hm7 HBB hln HND wl
  go_loopw [16, 19] (fun nx i wr => ∃ j q : Nat, nx = .int .i64 (q : Nat) ∧ i = .int .u64 (j : Nat) ∧ j ≤ nv ∧ RInv w n 5 0 rd R ((nv - j) * 1) q wr) (fun _ i _ => nv - (intOf i).toNat)
  case atStart => exact ⟨0, q, rfl, rfl, Nat.zero_le _, by rw [Nat.sub_zero]; exact H0.out⟩
  case round =>
    obtain ⟨j, q, rfl, rfl, hjm, hinv⟩ := hrel
    have HI := Lib.hid hinv
    clear hinv H0
    by_cases hj0 : j = nv
    · have dc : decide ((j : Int) < (nv : Nat)) = false := by simp; omega
      have dc2 : decide (j < nv) = false := by simp; omega
      obtain ⟨acc, v, hib, hbx, hown, hbw, hzr3, hlq, hqn, hres⟩ := HI.out
      rw [show (nv - j) * 1 = 0 from by rw [hj0, Nat.sub_self, Nat.zero_mul], wrapK_end] at hres
      have HN := Lib.hid hres
      have HO := Lib.hid hown
      have HBR := Lib.hid hbw
      obtain ⟨a9, c9, rfl, -⟩ := hown.reads (fun k h => h)
      obtain ⟨m9, hm9⟩ : ∃ m, m = acc.len := ⟨_, rfl⟩
      rw [← hm9] at HO hib
      obtain ⟨⟨i0, i1, i2, i3, i4⟩, ⟨j0, j1, j2, j3, j4⟩⟩ := hib
      obtain ⟨⟨h0, h1, h2, h3, h4⟩, ⟨f0, f1, f2, f3, f4⟩, ⟨k0, k1, k2⟩, ⟨l0, l1, l2⟩⟩ := hbx
      clear hj0 hres hown hbw hlq HI CRD HMO HFN hm9 hjm
      (repeat (first | go_values | go_skip | go_guarded | go_step | go_upon | (go_simp; go_at_K)))
      refine bodyPost_ret (v := .tuple #[.agg #[.int .i64 5, .int .u64 0, .slice none 0 0, .string ⟨#[]⟩, .slice a9 m9 c9], .int .i64 (q : Nat), fltV 0 0]) (by simp [results, Try.results34, go_sem, *]) rfl ?_
      rw [HN.out]
      refine rkids_fin (wr := wr) (n := n) HO.out HBR.out hzr3 ⟨by omega, by omega⟩ (by decide) ?_
      (repeat' (first | with_reducible exact Chg.refl _ _ | with_reducible apply Chg.drew | with_reducible refine Chg.alloc ?_ _ | with_reducible refine Chg.setCell ?_ (fun h => ?_) _))
      all_goals (dsimp only; omega)
    · have dc : decide ((j : Int) < (nv : Nat)) = true := by simp; omega
      have dc2 : decide (j < nv) = true := by simp; omega
      obtain ⟨j1, hj1⟩ : ∃ x, x = j + 1 := ⟨_, rfl⟩
      have wc : IntKind.u64.wrap ((j : Int) + 1) = (j1 : Int) := (IntWalk.u64_in _ (by unfold okSize at hnv9; omega)).trans (by omega)
      obtain ⟨cl, hcl⟩ : ∃ x, x = nv - j1 := ⟨_, rfl⟩
      have H1 : Hid (RInv w n 5 0 rd R (cl * 1 + (1 - 0)) q wr) := by
        have := HI.out
        rw [show (nv - j) * 1 = cl * 1 + (1 - 0) from by rw [show nv - j = cl + 1 from by omega, Nat.add_mul]] at this
        exact Lib.hid this
      have HJ : Hid (j < j1 ∧ j1 ≤ nv ∧ nv - j1 = cl) := by show _ ∧ _ ∧ _; omega
      obtain ⟨wo, rfl⟩ : ∃ wo : World, wo = wr := ⟨_, rfl⟩
      clear HI hj0 hjm hcl hj1
      go_wp2_with fail
      go_loopw [16, 20] (fun nx i wr => ∃ t q : Nat, nx = .int .i64 (q : Nat) ∧ i = .int .i64 (t : Nat) ∧ t ≤ 1 ∧ RInv w n 5 0 rd R (cl * 1 + (1 - t)) q wr) (fun _ i _ => 1 - (intOf i).toNat)
      case atStart => exact ⟨0, q, rfl, rfl, Nat.zero_le _, H1.out⟩
      case round =>
        obtain ⟨t, q, rfl, rfl, hte, hinv⟩ := hrel
        clear H1
        by_cases ht : t < 1
        case neg =>
          have dj : decide ((t : Int) < 1) = false := by simp; omega
          have dj2 : decide (t < 1) = false := by simp; omega
          have H2 : Hid (RInv w n 5 0 rd R (cl * 1) q wr) := by
            rw [show cl * 1 + (1 - t) = cl * 1 from by omega] at hinv
            exact Lib.hid hinv
          clear hinv ht hte
          go_wp2_with fail
          go_roundw
          case rel => exact ⟨j1, q, rfl, rfl, HJ.out.2.1, by rw [HJ.out.2.2]; exact H2.out⟩
          case measure => have := HJ.out; simp only [intOf]; omega
        have dj : decide ((t : Int) < 1) = true := by simp; omega
        have dj2 : decide (t < 1) = true := by simp; omega
        have wj : IntKind.i64.wrap ((t : Int) + 1) = ((t + 1 : Nat) : Int) := (IntWalk.i64_in _ (by omega)).trans (by omega)
        obtain ⟨t1, ht1⟩ : ∃ t1, t1 = t + 1 := ⟨_, rfl⟩
        rw [← ht1] at wj
        have HT1 : Hid (t1 ≤ 1 ∧ t < t1) := by show _ ∧ _; omega
        obtain ⟨cc, hcc⟩ : ∃ cc, cc = cl * 1 + (1 - t1) := ⟨_, rfl⟩
        rw [show cl * 1 + (1 - t) = cc + 1 from by omega] at hinv
        have HCC := Lib.hid hcc
        obtain ⟨acc, v, hib, hbx, hown, hbw, hzr3, hlq, hqn, hres⟩ := hinv
        have HIB := Lib.hid hib
        have HBX := Lib.hid hbx
        have HO := Lib.hid hown
        have HBR := Lib.hid hbw
        have HLQ := Lib.hid hlq
        have HQN := Lib.hid hqn
        have HRS := Lib.hid hres
        have HZR := Lib.hid hzr3
        have hrdw : RdB wr (some ⟨b, o, none⟩) n bs := h0b.out.keep hbw
        have C1 := Lib.hid (CRD.out wr q hrdw hqn)
        have HMO1 := Lib.hid (fun x q2 => HMO.out q x q2 hqn)
        have HFN1 := Lib.hid (fun x a => HFN.out.1 q x a hqn)
        have HFN2 := Lib.hid (fun x q2 => HFN.out.2 q x q2 hqn)
        obtain ⟨R2, hR2⟩ : ∃ x, x = rd q := ⟨_, rfl⟩
        rw [← hR2] at C1 HMO1 HFN1 HFN2
        have HR2 := Lib.hid hR2
        clear hib hbx hown hbw hlq hqn hres hrdw CRD HMO HFN ht hte ht1 hcc hR2
        go_wp2_with fail
        refine C1.out.mono ?_
        rintro ee w2' ⟨hb2, hres⟩
        have HB2 := Lib.hid hb2
        have hz2 : w.heap.size + 3 ≤ w2'.heap.size := by have := hb2.size; omega
        clear hb2 C1
        cases R2 with
        | error xa =>
          obtain ⟨x, a⟩ := xa
          have hfn := HFN1.out x a rfl
          subst hres
          have b2 : ((x : Int) != 0) = true := by simp; omega
          have HR : Hid (R = .error (x, a)) := HRS.out.trans (wrapK_err HR2.out.symm)
          clear HFN1 HMO1 HFN2 hfn
          go_upto_region 54 with fail
          obtain ⟨w3, hw3⟩ : ∃ W, W = (w2'.alloc (.cells #[.int .i64 0, .int .u64 0, .slice none 0 0, .string ⟨#[]⟩, .slice none 0 0] 26)).alloc (.cells #[.int .i64 (x : Nat), .int .i64 (a : Nat), .slice none 0 0] 35) := ⟨_, rfl⟩
          rw [← hw3]
          have hb3 : Below w2'.heap.size w2' w3 := by rw [hw3]; exact ((Below.refl _ _).alloc (Nat.le_refl _) _).alloc (by simp) _
          obtain ⟨g12, hg12⟩ : ∃ g, g = w2'.heap.size := ⟨_, rfl⟩
          have t0 : w3.cell? ⟨g12 + 1, 0, none⟩ = some (.int .i64 (x : Nat)) := by rw [hw3, hg12]; simp [go_sem]
          have t1' : w3.cell? ⟨g12 + 1, 1, none⟩ = some (.int .i64 (a : Nat)) := by rw [hw3, hg12]; simp [go_sem]
          have t2 : w3.cell? ⟨g12 + 1, 2, none⟩ = some (.slice none 0 0) := by rw [hw3, hg12]; simp [go_sem]
          obtain ⟨⟨h0, h1, h2, h3, h4⟩, ⟨f0, f1, f2, f3, f4⟩, ⟨k0, k1, k2⟩, ⟨l0, l1, l2⟩⟩ := (HBX.out.keep HB2.out).keep hb3
          have HB3 : Hid (Below w.heap.size w w3) := (HBR.out.trans (HB2.out.mono HBR.out.size)).trans (hb3.mono (by omega))
          have hz3 : w.heap.size + 3 ≤ w3.heap.size := by have := hb3.size; omega
          rw [← hg12] at hz2 ⊢
          have n1 : ¬ w.heap.size = g12 + 1 := by omega
          have m1 : ¬ g12 + 1 = w.heap.size := by omega
          have n2 : ¬ w.heap.size + 1 = g12 + 1 := by omega
          have m2 : ¬ g12 + 1 = w.heap.size + 1 := by omega
          clear hw3 hg12 hb3
          go_wp2_with fail
          go_region_held3 (fun W => W.cell? ⟨g12 + 1, 0, none⟩ = some (.int .i64 (x : Nat)) ∧ W.cell? ⟨g12 + 1, 1, none⟩ = some (.int .i64 (a : Nat)) ∧ W.cell? ⟨g12 + 1, 2, none⟩ = some (.slice none 0 0)) (first | (simp [go_sem, *]; done) | go_keep) (fail)
          all_goals
            (repeat (first | go_values | go_skip | go_guarded | go_step | go_upon | (go_simp; go_at_K)))
            refine bodyPost_ret (v := .tuple #[zIt, .int .i64 0, fltV x a]) (by simp [results, Try.results34, go_sem, *]) rfl ?_
            rw [HR.out]
            refine rread_err ?_
            (repeat' (first | with_reducible exact HB3.out | with_reducible apply Below.drew | with_reducible refine Below.alloc ?_ (by first | omega | (simp; done) | (simp; omega)) _ | with_reducible refine Below.setCell ?_ (by first | (simp; done) | (simp only []; omega)) _))
        | ok xq =>
          obtain ⟨x, q2⟩ := xq
          obtain ⟨cx, rfl, hrx⟩ := hres
          have HRX := Lib.hid hrx
          have HQQ := Lib.hid (HMO1.out x q2 rfl)
          have HQ2 := Lib.hid (HFN2.out x q2 rfl)
          obtain ⟨ki, ni, ab, nb, cb, text, ak, nk, ck, rfl⟩ := hrx.shape
          clear HFN1 HMO1 HFN2 hrx
          go_upto_region 54 with fail
          obtain ⟨w3, hw3⟩ : ∃ W, W = (w2'.alloc (.cells #[.int .i64 ki, .int .u64 (ni : Nat), .slice ab nb cb, .string text, .slice ak nk ck] 26)).alloc (.cells #[.int .i64 0, .int .i64 0, .slice none 0 0] 35) := ⟨_, rfl⟩
          rw [← hw3]
          have hb3 : Below w2'.heap.size w2' w3 := by rw [hw3]; exact ((Below.refl _ _).alloc (Nat.le_refl _) _).alloc (by simp) _
          obtain ⟨g12, hg12⟩ : ∃ g, g = w2'.heap.size := ⟨_, rfl⟩
          have t0 : w3.cell? ⟨g12, 0, none⟩ = some (.int .i64 ki) := by rw [hw3, hg12]; simp [go_sem]
          have t1' : w3.cell? ⟨g12, 1, none⟩ = some (.int .u64 (ni : Nat)) := by rw [hw3, hg12]; simp [go_sem]
          have t2 : w3.cell? ⟨g12, 2, none⟩ = some (.slice ab nb cb) := by rw [hw3, hg12]; simp [go_sem]
          have t3 : w3.cell? ⟨g12, 3, none⟩ = some (.string text) := by rw [hw3, hg12]; simp [go_sem]
          have t4 : w3.cell? ⟨g12, 4, none⟩ = some (.slice ak nk ck) := by rw [hw3, hg12]; simp [go_sem]
          have e0 : w3.cell? ⟨g12 + 1, 0, none⟩ = some (.int .i64 0) := by rw [hw3, hg12]; simp [go_sem]
          have HB3 : Hid (Below wr.heap.size wr w3) := HB2.out.trans (hb3.mono HB2.out.size)
          have HG3 : Hid (w3.heap.size = g12 + 2) := by show _ = _; rw [hw3, hg12]; simp
          obtain ⟨⟨i0, i1, i2, i3, i4⟩, ⟨j0, j1', j2, j3, j4⟩⟩ := HIB.out.keep HB3.out
          have HO3 : Hid (OwnI w3 (w.heap.size + 3) (fun k => w.heap.size + 3 ≤ k) v acc) := HO.out.keep HB3.out
          have HFAR : Hid (∀ i, v.ownBlock = some i → w.heap.size + 3 ≤ i ∧ i < wr.heap.size) := Lib.hid (fun i hi => HO.out.far i hi)
          have HRX3 : Hid (RdIt (fun k => wr.heap.size ≤ k ∧ k < w3.heap.size) w3 x #[.int .i64 ki, .int .u64 (ni : Nat), .slice ab nb cb, .string text, .slice ak nk ck]) := by
            refine Lib.hid ((HRX.out.imp (S' := fun k => wr.heap.size ≤ k ∧ k < w3.heap.size) (fun k hk h => ⟨h, ?_⟩)).below hb3)
            have := hb3.size; omega
          rw [← hg12] at hz2 ⊢
          have q0' : w.heap.size + 2 < w3.heap.size := by have := HG3.out; omega
          have q1' : g12 < w3.heap.size := by have := HG3.out; omega
          have q2' : g12 + 1 < w3.heap.size := by have := HG3.out; omega
          have HQ0 := Lib.hid q0'
          clear hw3 hg12 hb3
          have hln : acc.len + 1 ≤ 1000000000 := by have := HLQ.out; have := HQN.out; omega
          go_wp2_with (at_builtin; refine wpList_appI (v := v) (f := acc) (g := .cons x .nil) (B := w.heap.size + 3) (L := fun k => w.heap.size + 3 ≤ k) (S1 := fun k => wr.heap.size ≤ k ∧ k < w3.heap.size) (sv := .slice (some ⟨w3.heap.size, 0, none⟩) 1 1) (by rfl) _ _ (by rfl) (by rfl) ?oO (by rfl) ?oS ?oL ?oB ?oH ?_)
          case oO => exact HO3.out.keep ((Below.refl _ _).alloc (Nat.le_refl _) _)
          case oS =>
            refine SrcI.one (c := #[.int .i64 ki, .int .u64 (ni : Nat), .slice ab nb cb, .string text, .slice ak nk ck]) ?_ ?_
            · exact HRX3.out.below ((Below.refl _ _).alloc (Nat.le_refl _) _)
            · intro j u hj
              match j with
              | 0 => simp at hj; subst hj; simp [go_sem]
              | 1 => simp at hj; subst hj; simp [go_sem]
              | 2 => simp at hj; subst hj; simp [go_sem]
              | 3 => simp at hj; subst hj; simp [go_sem]
              | 4 => simp at hj; subst hj; simp [go_sem]
              | j + 5 => simp at hj
          case oL => exact fun k hk => ⟨by have := HZR.out; have := hk.1; omega, fun e => by have := (HFAR.out k e).2; have := hk.1; omega⟩
          case oB => simp only [IL.len]; omega
          case oH => have := HQ0.out; simp; omega
          intro v4 w4 ho4 ha4
          have HO4 := Lib.hid ho4
          have HA4 := Lib.hid ha4
          have HB34 : Hid (Below wr.heap.size wr (w3.alloc (.cells #[.int .i64 ki, .int .u64 (ni : Nat), .slice ab nb cb, .string text, .slice ak nk ck] 26))) := HB3.out.trans (((Below.refl _ w3).alloc (Nat.le_refl _) _).mono HB3.out.size)
          have hx4 : Chg (fun i => v.ownBlock = some i) w3 w4 := Chg.trans ((Chg.refl _ _).alloc _) ha4.chg (fun i hi e => e)
          have nv' : ¬ v.ownBlock = some (w.heap.size + 2) := fun e => by have := (HFAR.out _ e).1; omega
          have y4 : w4.cell? ⟨w.heap.size + 2, 4, none⟩ = some v := hx4.cell (p := ⟨w.heap.size + 2, 4, none⟩) nv' i4
          have y5 : w4.frozen? ⟨w.heap.size + 2, 4, none⟩ = false := by rw [hx4.frozen (p := ⟨w.heap.size + 2, 4, none⟩) nv' HQ0.out]; exact j4
          obtain ⟨a4, c4, e4, -⟩ := ho4.reads (fun k h => h)
          obtain ⟨m4, hm4⟩ : ∃ m, m = (acc.append (.cons x .nil)).len := ⟨_, rfl⟩
          rw [← hm4] at e4
          subst e4
          clear ho4 ha4 hx4 i0 i1 i2 i3 i4 j0 j1' j2 j3 j4 t0 t1' t2 t3 t4 e0 q0' q1' q2' nv' hm4
          go_wp2_with fail
          go_roundw
          case rel =>
            have hkn := RInv.next (n := n) HIB.out HBX.out HO.out HBR.out HZR.out HLQ.out HRS.out HR2.out.symm HQQ.out HQ2.out HB34.out HO4.out HA4.out
            rw [HCC.out] at hkn
            exact ⟨t1, q2, rfl, rfl, HT1.out.1, hkn⟩
          case measure => have := HT1.out; simp only [intOf]; omega

set_option maxRecDepth 100000 in
set_option maxHeartbeats 8000000 in
theorem rread_A5 (d : Nat) (hof : RReadSaid d) (a : Option Addr) (n cp : Nat) (bs : List UInt8) (p wi dp : Nat) (w : World) (h : RdB w a n bs) (hn9 : n ≤ 1000000) (hcp : n ≤ cp) (hpn : p ≤ n) (hd : dp = wi + (d + 1)) (hd9 : dp ≤ 1000) (hlen : ¬ n ≤ p) (m low : Nat) (hm : m = bAt bs p / 32) (hlw : low = bAt bs p % 32) (h27 : ¬ 27 < low) (hsh : ¬ n < p + 1 + sizeL low) (h24 : ¬ 24 ≤ low) (hmv : m = 5) :
    Calls Try.prog 34 #[.slice a n cp, .int .i64 (p : Nat), .int .i64 (wi : Nat), .int .i64 (dp : Nat)] w (RReadO w (readQ bs (d + 1) p)) := by
  obtain ⟨wa, hwa⟩ : ∃ W, W = ((w.alloc (.cells #[.int .i64 0, .int .u64 0, .slice none 0 0, .string ⟨#[]⟩, .slice none 0 0] 26)).alloc (.cells #[.int .i64 0, .int .i64 0, .slice none 0 0] 35)).alloc (.cells #[.int .i64 0, .int .u64 0, .slice none 0 0, .string ⟨#[]⟩, .slice none 0 0] 26) := ⟨_, rfl⟩
  have hba : Below w.heap.size w wa := by
    rw [hwa]
    exact (((Below.refl _ _).alloc (Nat.le_refl _) _).alloc (by simp) _).alloc (by simp; omega) _
  have hbx : RBx wa w.heap.size (w.heap.size + 1) ∧ IBx wa (w.heap.size + 2) 0 0 (.slice none 0 0) ⟨#[]⟩ (.slice none 0 0) := by rw [hwa]; exact three _ _ _
  have hz : wa.heap.size = w.heap.size + 3 := by rw [hwa]; simp
  have HX := Lib.hid hbx.1
  have HI := Lib.hid hbx.2
  have HZ := Lib.hid hz
  have HRD := Lib.hid (h.keep hba)
  have HBA := Lib.hid hba
  have HBW := Lib.hid hba
  have hbl : bs.length = n := h.1
  have hzr : 0 < wa.heap.size := by omega
  obtain ⟨R, hR⟩ : ∃ R, R = readQ bs (d + 1) p := ⟨_, rfl⟩
  rw [← hR]
  rw [readQ, hbl] at hR
  have d1 : decide ((dp : Int) ≤ (wi : Int)) = false := by simp; omega
  have d2 : decide (dp ≤ wi) = false := by simp; omega
  have wwi : IntKind.i64.wrap ((wi : Int) + 1) = ((wi + 1 : Nat) : Int) := (IntWalk.i64_in _ (by omega)).trans (by omega)
  have CRD : Hid (∀ W q, RdB W a n bs → q ≤ n → Calls Try.prog 34 #[.slice a n cp, .int .i64 (q : Nat), .int .i64 ((wi + 1 : Nat) : Int), .int .i64 (dp : Nat)] W (RReadO W (readQ bs d q))) := Lib.hid (fun W q hW hq => hof a n cp bs q (wi + 1) dp W hW hn9 hcp hq (by omega) hd9)
  obtain ⟨wj, hwj⟩ : ∃ x, x = wi + 1 := ⟨_, rfl⟩
  rw [← hwj] at wwi CRD
  clear hwj hof
  have h0b := Lib.hid h
  rw [if_neg hlen] at hR
  have dl : decide ((n : Int) ≤ (p : Int)) = false := by simp; omega
  have dl2 : decide (n ≤ p) = false := by simp; omega
  have hpl : p < n := by omega
  obtain ⟨b, o, rfl, hat⟩ := HRD.out.at p hpl
  have hc9 := bAt_lt bs p
  obtain ⟨c, hc⟩ : ∃ c, c = bAt bs p := ⟨_, rfl⟩
  rw [← hc] at hat hc9 hR hm hlw
  have wq : (c : Int).tdiv 32 = (m : Int) := by rw [Int.tdiv_eq_ediv_of_nonneg (by omega)]; omega
  have wr : (c : Int).tmod 32 = (low : Int) := by rw [Int.tmod_eq_emod_of_nonneg (by omega)]; omega
  have wq8 : IntKind.u8.wrap (m : Int) = (m : Int) := IntWalk.u8_in _ (by omega)
  have wr8 : IntKind.u8.wrap (low : Int) = (low : Int) := IntWalk.u8_in _ (by omega)
  have wq2 : IntKind.i64.wrap (m : Int) = (m : Int) := IntWalk.i64_in _ (by omega)
  have wr2 : IntKind.i64.wrap (low : Int) = (low : Int) := IntWalk.i64_in _ (by omega)
  have hm7 : m ≤ 7 := by omega
  rw [← hm, ← hlw] at hR
  have ip0 : (0 : Int) ≤ (p : Int) := by omega
  have ip1 : (p : Int) < (n : Int) := by omega
  clear hc hm hlw hc9 hlen
  rw [if_neg h27] at hR
  have g1 : decide ((27 : Int) < (low : Int)) = false := by simp; omega
  have g1n : decide (27 < low) = false := by simp; omega
  obtain ⟨x1, hx1⟩ : ∃ x, x = n - p := ⟨_, rfl⟩
  obtain ⟨x2, hx2⟩ : ∃ x, x = n - p - 1 := ⟨_, rfl⟩
  have wx1 : IntKind.i64.wrap ((n : Int) - (p : Int)) = (x1 : Int) := (IntWalk.i64_in _ (by omega)).trans (by omega)
  have wx2 : IntKind.i64.wrap ((x1 : Int) - 1) = (x2 : Int) := (IntWalk.i64_in _ (by omega)).trans (by omega)
  have q1 : decide ((24 : Int) ≤ (low : Int)) = false := by simp; omega
  have q1n : decide (24 ≤ low) = false := by simp; omega
  have e1 : sizeL low = 0 := if_pos (by omega)
  rw [e1] at hR hsh
  have q3 : decide ((x2 : Int) < 0) = false := by simp
  rw [if_neg hsh] at hR
  have en : numL bs p low = low := if_pos (by omega)
  obtain ⟨nv, hnv⟩ : ∃ x, x = numL bs p low := ⟨_, rfl⟩
  have wl : IntKind.u64.wrap (low : Int) = (nv : Int) := (IntWalk.u64_in _ (by omega)).trans (by omega)
  obtain ⟨q, hq⟩ : ∃ q, q = p + 1 + 0 := ⟨_, rfl⟩
  have wp1 : IntKind.i64.wrap ((p : Int) + 1) = (q : Int) := (IntWalk.i64_in _ (by omega)).trans (by omega)
  have wp2 : IntKind.i64.wrap (q : Int) = (q : Int) := IntWalk.i64_in _ (by omega)
  have hnv9 : nv < okSize := by rw [hnv, en]; unfold okSize; omega
  rw [← hq, ← hnv] at hR
  have hqn : q ≤ n := by omega
  have HND : Hid (needN nv = 0) := by show _ = _; rw [hnv, en]; unfold needN; rw [if_pos (by omega)]
  clear hsh hx1 hx2 e1 en hnv hq
  obtain ⟨rd, hrd⟩ : ∃ f, f = readQ bs d := ⟨_, rfl⟩
  rw [← hrd] at hR
  have HMO : Hid (∀ q x q2, q ≤ n → rd q = .ok (x, q2) → q < q2) := by
    show ∀ q x q2, _
    intro q x q2 hq hh
    rw [hrd] at hh
    exact readQ_more bs d q x q2 (by rw [hbl]; exact hq) hh
  have HFN : Hid ((∀ q x a, q ≤ n → rd q = .error (x, a) → (1 ≤ x ∧ x ≤ 10) ∧ a ≤ n) ∧ (∀ q x q2, q ≤ n → rd q = .ok (x, q2) → q2 ≤ n)) := by
    show _ ∧ _
    refine ⟨fun q x a hq hh => ?_, fun q x q2 hq hh => ?_⟩
    · rw [hrd] at hh
      have := readQ_fine bs d q (by rw [hbl]; exact hq)
      rw [hh] at this
      exact ⟨this.1, by have := this.2.1; omega⟩
    · rw [hrd] at hh
      have := readQ_fine bs d q (by rw [hbl]; exact hq)
      rw [hh] at this
      have := this.2
      omega
  rw [← hrd] at CRD
  have HR0 : Hid (R = wrapK 6 0 .nil (kidsW rd (nv * 2) q)) := by
    show _ = _
    rw [hR]; unfold behQ; rw [if_neg (by omega), if_neg (by omega), if_neg (by omega), if_neg (by omega), if_neg (by omega), if_neg (by omega), if_pos (by omega)]
    rw [← wrapK_nil]
  obtain ⟨hl2, hhl2⟩ : ∃ x, x = (headB m nv).length := ⟨_, rfl⟩
  have HLN : Hid ((headB m nv).length = hl2) := hhl2.symm
  rw [headB_len, HND.out] at hhl2
  have hln : ((hl2 : Int) != 1) = false := by simp; omega
  clear hhl2
  subst hmv
  have CH := Lib.hid (fun W => rhead_calls (5 : Nat) 5 rfl (by omega) nv hnv9 W)
  clear hrd
  clear hR h24
  obtain ⟨⟨h0, h1, h2, h3, h4⟩, ⟨f0, f1, f2, f3, f4⟩, ⟨k0, k1, k2⟩, ⟨l0, l1, l2⟩⟩ := HX.out
  obtain ⟨⟨i0, i1, i2, i3, i4⟩, ⟨j0, j1, j2, j3, j4⟩⟩ := HI.out
  clear h hba hbx hz hd hd9 hcp
  go_enter Try.func34, Try.ntmps34
  go_upto_region 2 with fail
  rw [← hwa]
  clear hwa
  go_wp2_with fail
  go_quiet (fail)
  obtain ⟨wb, hwb⟩ : ∃ W, W = wa.drewN nq := ⟨_, rfl⟩
  have hbb : Below wa.heap.size wa wb := by rw [hwb]; exact below_drewN wa nq wa.heap.size
  rw [← hwb]
  clear hwb
  have HBB := Lib.hid hbb
  have HBW := Lib.hid (HBA.out.trans (hbb.mono HBA.out.size))
  have hzb : w.heap.size + 3 ≤ wb.heap.size := by have := hbb.size; have := HZ.out; omega
  clear hbb h0 h1 h2 h3 h4 f0 f1 f2 f3 f4 k0 k1 k2 l0 l1 l2 i0 i1 i2 i3 i4 j0 j1 j2 j3 j4 hat
  obtain ⟨⟨h0, h1, h2, h3, h4⟩, ⟨f0, f1, f2, f3, f4⟩, ⟨k0, k1, k2⟩, ⟨l0, l1, l2⟩⟩ := HX.out.keep HBB.out
  obtain ⟨⟨i0, i1, i2, i3, i4⟩, ⟨j0, j1, j2, j3, j4⟩⟩ := HI.out.keep HBB.out
  go_wp2_with fail
  refine (CH.out _).mono ?_
  rintro e w2 ⟨v2, rfl, hst⟩
  obtain ⟨a2, c2, rfl, hr2⟩ := hst.1.reads
  rw [HLN.out] at hst hr2 ⊢
  have HB2 := Lib.hid (HBB.out.trans (hst.2.mono HBB.out.size))
  have HBW := Lib.hid (HBA.out.trans (HB2.out.mono HBA.out.size))
  have hzr2 : w.heap.size + 3 ≤ w2.heap.size := by have := HB2.out.size; have := HZ.out; omega
  clear h0 h1 h2 h3 h4 f0 f1 f2 f3 f4 k0 k1 k2 l0 l1 l2 i0 i1 i2 i3 i4 j0 j1 j2 j3 j4 hzb
  obtain ⟨⟨h0, h1, h2, h3, h4⟩, ⟨f0, f1, f2, f3, f4⟩, ⟨k0, k1, k2⟩, ⟨l0, l1, l2⟩⟩ := HX.out.keep HB2.out
  have HI2 := Lib.hid (HI.out.keep HB2.out)
  obtain ⟨⟨i0, i1, i2, i3, i4⟩, ⟨j0, j1, j2, j3, j4⟩⟩ := HI2.out
  have HRD2 := Lib.hid (HRD.out.keep HB2.out)
  clear hst hr2 CH HLN
  go_upto_region 48 with fail
  obtain ⟨wz, hwz⟩ : ∃ W, W = w2.setCell ⟨w.heap.size + 2, 0, none⟩ (.int .i64 6) := ⟨_, rfl⟩
  rw [← hwz]
  have hiz : IBx wz (w.heap.size + 2) 6 0 (.slice none 0 0) ⟨#[]⟩ (.slice none 0 0) := by rw [hwz]; exact HI2.out.set0
  have hcz : Chg (fun i => i = w.heap.size + 2) w2 wz := by
    rw [hwz]
    have hX : (fun i => i = w.heap.size + 2) (w.heap.size + 2) := rfl
    (repeat' (first | with_reducible exact Chg.refl _ _ | refine Chg.setCell ?_ (fun _ => hX) _))
  clear hwz
  have H0 : Hid (RInv w n 6 0 rd R (nv * 2) q wz) := by
    refine Lib.hid ⟨.nil, .slice none 0 0, hiz, (HX.out.keep HB2.out).chg hcz (by omega) (by omega), OwnI.nil _ _ _, HBW.out.trans (hcz.below (B := w.heap.size) (by omega) (fun i e => by omega)), by have := hcz.size; omega, by simp [IL.len], hqn, HR0.out⟩
  have hb9 : b < w.heap.size := by
    obtain ⟨bb, oo, e, hcc⟩ := h0b.out.at p hpl
    obtain ⟨rfl, -⟩ : bb = b ∧ oo = o := by simpa using (Option.some.inj e).symm
    simpa using cell_block hcc
  clear hcz hiz h0 h1 h2 h3 h4 f0 f1 f2 f3 f4 k0 k1 k2 l0 l1 l2 i0 i1 i2 i3 i4 j0 j1 j2 j3 j4 HI2 HB2 HX HR0 HRD2 HRD hb9 hqn
  clear d1 d2 dl dl2 g1 g1n wx1 wx2 q1 q1n q3 wp1 wp2 wr8 wr2 wr ip0 ip1 hm7 HBB hln HND wl
  go_loopw [16, 19] (fun nx i wr => ∃ j q : Nat, nx = .int .i64 (q : Nat) ∧ i = .int .u64 (j : Nat) ∧ j ≤ nv ∧ RInv w n 6 0 rd R ((nv - j) * 2) q wr) (fun _ i _ => nv - (intOf i).toNat)
  case atStart => exact ⟨0, q, rfl, rfl, Nat.zero_le _, by rw [Nat.sub_zero]; exact H0.out⟩
  case round =>
    obtain ⟨j, q, rfl, rfl, hjm, hinv⟩ := hrel
    have HI := Lib.hid hinv
    clear hinv H0
    by_cases hj0 : j = nv
    · have dc : decide ((j : Int) < (nv : Nat)) = false := by simp; omega
      have dc2 : decide (j < nv) = false := by simp; omega
      obtain ⟨acc, v, hib, hbx, hown, hbw, hzr3, hlq, hqn, hres⟩ := HI.out
      rw [show (nv - j) * 2 = 0 from by rw [hj0, Nat.sub_self, Nat.zero_mul], wrapK_end] at hres
      have HN := Lib.hid hres
      have HO := Lib.hid hown
      have HBR := Lib.hid hbw
      obtain ⟨a9, c9, rfl, -⟩ := hown.reads (fun k h => h)
      obtain ⟨m9, hm9⟩ : ∃ m, m = acc.len := ⟨_, rfl⟩
      rw [← hm9] at HO hib
      obtain ⟨⟨i0, i1, i2, i3, i4⟩, ⟨j0, j1, j2, j3, j4⟩⟩ := hib
      obtain ⟨⟨h0, h1, h2, h3, h4⟩, ⟨f0, f1, f2, f3, f4⟩, ⟨k0, k1, k2⟩, ⟨l0, l1, l2⟩⟩ := hbx
      clear hj0 hres hown hbw hlq HI CRD HMO HFN hm9 hjm
      (repeat (first | go_values | go_skip | go_guarded | go_step | go_upon | (go_simp; go_at_K)))
      refine bodyPost_ret (v := .tuple #[.agg #[.int .i64 6, .int .u64 0, .slice none 0 0, .string ⟨#[]⟩, .slice a9 m9 c9], .int .i64 (q : Nat), fltV 0 0]) (by simp [results, Try.results34, go_sem, *]) rfl ?_
      rw [HN.out]
      refine rkids_fin (wr := wr) (n := n) HO.out HBR.out hzr3 ⟨by omega, by omega⟩ (by decide) ?_
      (repeat' (first | with_reducible exact Chg.refl _ _ | with_reducible apply Chg.drew | with_reducible refine Chg.alloc ?_ _ | with_reducible refine Chg.setCell ?_ (fun h => ?_) _))
      all_goals (dsimp only; omega)
    · have dc : decide ((j : Int) < (nv : Nat)) = true := by simp; omega
      have dc2 : decide (j < nv) = true := by simp; omega
      obtain ⟨j1, hj1⟩ : ∃ x, x = j + 1 := ⟨_, rfl⟩
      have wc : IntKind.u64.wrap ((j : Int) + 1) = (j1 : Int) := (IntWalk.u64_in _ (by unfold okSize at hnv9; omega)).trans (by omega)
      obtain ⟨cl, hcl⟩ : ∃ x, x = nv - j1 := ⟨_, rfl⟩
      have H1 : Hid (RInv w n 6 0 rd R (cl * 2 + (2 - 0)) q wr) := by
        have := HI.out
        rw [show (nv - j) * 2 = cl * 2 + (2 - 0) from by rw [show nv - j = cl + 1 from by omega, Nat.add_mul]] at this
        exact Lib.hid this
      have HJ : Hid (j < j1 ∧ j1 ≤ nv ∧ nv - j1 = cl) := by show _ ∧ _ ∧ _; omega
      obtain ⟨wo, rfl⟩ : ∃ wo : World, wo = wr := ⟨_, rfl⟩
      clear HI hj0 hjm hcl hj1
      go_wp2_with fail
      go_loopw [16, 20] (fun nx i wr => ∃ t q : Nat, nx = .int .i64 (q : Nat) ∧ i = .int .i64 (t : Nat) ∧ t ≤ 2 ∧ RInv w n 6 0 rd R (cl * 2 + (2 - t)) q wr) (fun _ i _ => 2 - (intOf i).toNat)
      case atStart => exact ⟨0, q, rfl, rfl, Nat.zero_le _, H1.out⟩
      case round =>
        obtain ⟨t, q, rfl, rfl, hte, hinv⟩ := hrel
        clear H1
        by_cases ht : t < 2
        case neg =>
          have dj : decide ((t : Int) < 2) = false := by simp; omega
          have dj2 : decide (t < 2) = false := by simp; omega
          have H2 : Hid (RInv w n 6 0 rd R (cl * 2) q wr) := by
            rw [show cl * 2 + (2 - t) = cl * 2 from by omega] at hinv
            exact Lib.hid hinv
          clear hinv ht hte
          go_wp2_with fail
          go_roundw
          case rel => exact ⟨j1, q, rfl, rfl, HJ.out.2.1, by rw [HJ.out.2.2]; exact H2.out⟩
          case measure => have := HJ.out; simp only [intOf]; omega
        have dj : decide ((t : Int) < 2) = true := by simp; omega
        have dj2 : decide (t < 2) = true := by simp; omega
        have wj : IntKind.i64.wrap ((t : Int) + 1) = ((t + 1 : Nat) : Int) := (IntWalk.i64_in _ (by omega)).trans (by omega)
        obtain ⟨t1, ht1⟩ : ∃ t1, t1 = t + 1 := ⟨_, rfl⟩
        rw [← ht1] at wj
        have HT1 : Hid (t1 ≤ 2 ∧ t < t1) := by show _ ∧ _; omega
        obtain ⟨cc, hcc⟩ : ∃ cc, cc = cl * 2 + (2 - t1) := ⟨_, rfl⟩
        rw [show cl * 2 + (2 - t) = cc + 1 from by omega] at hinv
        have HCC := Lib.hid hcc
        obtain ⟨acc, v, hib, hbx, hown, hbw, hzr3, hlq, hqn, hres⟩ := hinv
        have HIB := Lib.hid hib
        have HBX := Lib.hid hbx
        have HO := Lib.hid hown
        have HBR := Lib.hid hbw
        have HLQ := Lib.hid hlq
        have HQN := Lib.hid hqn
        have HRS := Lib.hid hres
        have HZR := Lib.hid hzr3
        have hrdw : RdB wr (some ⟨b, o, none⟩) n bs := h0b.out.keep hbw
        have C1 := Lib.hid (CRD.out wr q hrdw hqn)
        have HMO1 := Lib.hid (fun x q2 => HMO.out q x q2 hqn)
        have HFN1 := Lib.hid (fun x a => HFN.out.1 q x a hqn)
        have HFN2 := Lib.hid (fun x q2 => HFN.out.2 q x q2 hqn)
        obtain ⟨R2, hR2⟩ : ∃ x, x = rd q := ⟨_, rfl⟩
        rw [← hR2] at C1 HMO1 HFN1 HFN2
        have HR2 := Lib.hid hR2
        clear hib hbx hown hbw hlq hqn hres hrdw CRD HMO HFN ht hte ht1 hcc hR2
        go_wp2_with fail
        refine C1.out.mono ?_
        rintro ee w2' ⟨hb2, hres⟩
        have HB2 := Lib.hid hb2
        have hz2 : w.heap.size + 3 ≤ w2'.heap.size := by have := hb2.size; omega
        clear hb2 C1
        cases R2 with
        | error xa =>
          obtain ⟨x, a⟩ := xa
          have hfn := HFN1.out x a rfl
          subst hres
          have b2 : ((x : Int) != 0) = true := by simp; omega
          have HR : Hid (R = .error (x, a)) := HRS.out.trans (wrapK_err HR2.out.symm)
          clear HFN1 HMO1 HFN2 hfn
          go_upto_region 54 with fail
          obtain ⟨w3, hw3⟩ : ∃ W, W = (w2'.alloc (.cells #[.int .i64 0, .int .u64 0, .slice none 0 0, .string ⟨#[]⟩, .slice none 0 0] 26)).alloc (.cells #[.int .i64 (x : Nat), .int .i64 (a : Nat), .slice none 0 0] 35) := ⟨_, rfl⟩
          rw [← hw3]
          have hb3 : Below w2'.heap.size w2' w3 := by rw [hw3]; exact ((Below.refl _ _).alloc (Nat.le_refl _) _).alloc (by simp) _
          obtain ⟨g12, hg12⟩ : ∃ g, g = w2'.heap.size := ⟨_, rfl⟩
          have t0 : w3.cell? ⟨g12 + 1, 0, none⟩ = some (.int .i64 (x : Nat)) := by rw [hw3, hg12]; simp [go_sem]
          have t1' : w3.cell? ⟨g12 + 1, 1, none⟩ = some (.int .i64 (a : Nat)) := by rw [hw3, hg12]; simp [go_sem]
          have t2 : w3.cell? ⟨g12 + 1, 2, none⟩ = some (.slice none 0 0) := by rw [hw3, hg12]; simp [go_sem]
          obtain ⟨⟨h0, h1, h2, h3, h4⟩, ⟨f0, f1, f2, f3, f4⟩, ⟨k0, k1, k2⟩, ⟨l0, l1, l2⟩⟩ := (HBX.out.keep HB2.out).keep hb3
          have HB3 : Hid (Below w.heap.size w w3) := (HBR.out.trans (HB2.out.mono HBR.out.size)).trans (hb3.mono (by omega))
          have hz3 : w.heap.size + 3 ≤ w3.heap.size := by have := hb3.size; omega
          rw [← hg12] at hz2 ⊢
          have n1 : ¬ w.heap.size = g12 + 1 := by omega
          have m1 : ¬ g12 + 1 = w.heap.size := by omega
          have n2 : ¬ w.heap.size + 1 = g12 + 1 := by omega
          have m2 : ¬ g12 + 1 = w.heap.size + 1 := by omega
          clear hw3 hg12 hb3
          go_wp2_with fail
          go_region_held3 (fun W => W.cell? ⟨g12 + 1, 0, none⟩ = some (.int .i64 (x : Nat)) ∧ W.cell? ⟨g12 + 1, 1, none⟩ = some (.int .i64 (a : Nat)) ∧ W.cell? ⟨g12 + 1, 2, none⟩ = some (.slice none 0 0)) (first | (simp [go_sem, *]; done) | go_keep) (fail)
          all_goals
            (repeat (first | go_values | go_skip | go_guarded | go_step | go_upon | (go_simp; go_at_K)))
            refine bodyPost_ret (v := .tuple #[zIt, .int .i64 0, fltV x a]) (by simp [results, Try.results34, go_sem, *]) rfl ?_
            rw [HR.out]
            refine rread_err ?_
            (repeat' (first | with_reducible exact HB3.out | with_reducible apply Below.drew | with_reducible refine Below.alloc ?_ (by first | omega | (simp; done) | (simp; omega)) _ | with_reducible refine Below.setCell ?_ (by first | (simp; done) | (simp only []; omega)) _))
        | ok xq =>
          obtain ⟨x, q2⟩ := xq
          obtain ⟨cx, rfl, hrx⟩ := hres
          have HRX := Lib.hid hrx
          have HQQ := Lib.hid (HMO1.out x q2 rfl)
          have HQ2 := Lib.hid (HFN2.out x q2 rfl)
          obtain ⟨ki, ni, ab, nb, cb, text, ak, nk, ck, rfl⟩ := hrx.shape
          clear HFN1 HMO1 HFN2 hrx
          go_upto_region 54 with fail
          obtain ⟨w3, hw3⟩ : ∃ W, W = (w2'.alloc (.cells #[.int .i64 ki, .int .u64 (ni : Nat), .slice ab nb cb, .string text, .slice ak nk ck] 26)).alloc (.cells #[.int .i64 0, .int .i64 0, .slice none 0 0] 35) := ⟨_, rfl⟩
          rw [← hw3]
          have hb3 : Below w2'.heap.size w2' w3 := by rw [hw3]; exact ((Below.refl _ _).alloc (Nat.le_refl _) _).alloc (by simp) _
          obtain ⟨g12, hg12⟩ : ∃ g, g = w2'.heap.size := ⟨_, rfl⟩
          have t0 : w3.cell? ⟨g12, 0, none⟩ = some (.int .i64 ki) := by rw [hw3, hg12]; simp [go_sem]
          have t1' : w3.cell? ⟨g12, 1, none⟩ = some (.int .u64 (ni : Nat)) := by rw [hw3, hg12]; simp [go_sem]
          have t2 : w3.cell? ⟨g12, 2, none⟩ = some (.slice ab nb cb) := by rw [hw3, hg12]; simp [go_sem]
          have t3 : w3.cell? ⟨g12, 3, none⟩ = some (.string text) := by rw [hw3, hg12]; simp [go_sem]
          have t4 : w3.cell? ⟨g12, 4, none⟩ = some (.slice ak nk ck) := by rw [hw3, hg12]; simp [go_sem]
          have e0 : w3.cell? ⟨g12 + 1, 0, none⟩ = some (.int .i64 0) := by rw [hw3, hg12]; simp [go_sem]
          have HB3 : Hid (Below wr.heap.size wr w3) := HB2.out.trans (hb3.mono HB2.out.size)
          have HG3 : Hid (w3.heap.size = g12 + 2) := by show _ = _; rw [hw3, hg12]; simp
          obtain ⟨⟨i0, i1, i2, i3, i4⟩, ⟨j0, j1', j2, j3, j4⟩⟩ := HIB.out.keep HB3.out
          have HO3 : Hid (OwnI w3 (w.heap.size + 3) (fun k => w.heap.size + 3 ≤ k) v acc) := HO.out.keep HB3.out
          have HFAR : Hid (∀ i, v.ownBlock = some i → w.heap.size + 3 ≤ i ∧ i < wr.heap.size) := Lib.hid (fun i hi => HO.out.far i hi)
          have HRX3 : Hid (RdIt (fun k => wr.heap.size ≤ k ∧ k < w3.heap.size) w3 x #[.int .i64 ki, .int .u64 (ni : Nat), .slice ab nb cb, .string text, .slice ak nk ck]) := by
            refine Lib.hid ((HRX.out.imp (S' := fun k => wr.heap.size ≤ k ∧ k < w3.heap.size) (fun k hk h => ⟨h, ?_⟩)).below hb3)
            have := hb3.size; omega
          rw [← hg12] at hz2 ⊢
          have q0' : w.heap.size + 2 < w3.heap.size := by have := HG3.out; omega
          have q1' : g12 < w3.heap.size := by have := HG3.out; omega
          have q2' : g12 + 1 < w3.heap.size := by have := HG3.out; omega
          have HQ0 := Lib.hid q0'
          clear hw3 hg12 hb3
          have hln : acc.len + 1 ≤ 1000000000 := by have := HLQ.out; have := HQN.out; omega
          go_wp2_with (at_builtin; refine wpList_appI (v := v) (f := acc) (g := .cons x .nil) (B := w.heap.size + 3) (L := fun k => w.heap.size + 3 ≤ k) (S1 := fun k => wr.heap.size ≤ k ∧ k < w3.heap.size) (sv := .slice (some ⟨w3.heap.size, 0, none⟩) 1 1) (by rfl) _ _ (by rfl) (by rfl) ?oO (by rfl) ?oS ?oL ?oB ?oH ?_)
          case oO => exact HO3.out.keep ((Below.refl _ _).alloc (Nat.le_refl _) _)
          case oS =>
            refine SrcI.one (c := #[.int .i64 ki, .int .u64 (ni : Nat), .slice ab nb cb, .string text, .slice ak nk ck]) ?_ ?_
            · exact HRX3.out.below ((Below.refl _ _).alloc (Nat.le_refl _) _)
            · intro j u hj
              match j with
              | 0 => simp at hj; subst hj; simp [go_sem]
              | 1 => simp at hj; subst hj; simp [go_sem]
              | 2 => simp at hj; subst hj; simp [go_sem]
              | 3 => simp at hj; subst hj; simp [go_sem]
              | 4 => simp at hj; subst hj; simp [go_sem]
              | j + 5 => simp at hj
          case oL => exact fun k hk => ⟨by have := HZR.out; have := hk.1; omega, fun e => by have := (HFAR.out k e).2; have := hk.1; omega⟩
          case oB => simp only [IL.len]; omega
          case oH => have := HQ0.out; simp; omega
          intro v4 w4 ho4 ha4
          have HO4 := Lib.hid ho4
          have HA4 := Lib.hid ha4
          have HB34 : Hid (Below wr.heap.size wr (w3.alloc (.cells #[.int .i64 ki, .int .u64 (ni : Nat), .slice ab nb cb, .string text, .slice ak nk ck] 26))) := HB3.out.trans (((Below.refl _ w3).alloc (Nat.le_refl _) _).mono HB3.out.size)
          have hx4 : Chg (fun i => v.ownBlock = some i) w3 w4 := Chg.trans ((Chg.refl _ _).alloc _) ha4.chg (fun i hi e => e)
          have nv' : ¬ v.ownBlock = some (w.heap.size + 2) := fun e => by have := (HFAR.out _ e).1; omega
          have y4 : w4.cell? ⟨w.heap.size + 2, 4, none⟩ = some v := hx4.cell (p := ⟨w.heap.size + 2, 4, none⟩) nv' i4
          have y5 : w4.frozen? ⟨w.heap.size + 2, 4, none⟩ = false := by rw [hx4.frozen (p := ⟨w.heap.size + 2, 4, none⟩) nv' HQ0.out]; exact j4
          obtain ⟨a4, c4, e4, -⟩ := ho4.reads (fun k h => h)
          obtain ⟨m4, hm4⟩ : ∃ m, m = (acc.append (.cons x .nil)).len := ⟨_, rfl⟩
          rw [← hm4] at e4
          subst e4
          clear ho4 ha4 hx4 i0 i1 i2 i3 i4 j0 j1' j2 j3 j4 t0 t1' t2 t3 t4 e0 q0' q1' q2' nv' hm4
          go_wp2_with fail
          go_roundw
          case rel =>
            have hkn := RInv.next (n := n) HIB.out HBX.out HO.out HBR.out HZR.out HLQ.out HRS.out HR2.out.symm HQQ.out HQ2.out HB34.out HO4.out HA4.out
            rw [HCC.out] at hkn
            exact ⟨t1, q2, rfl, rfl, HT1.out.1, hkn⟩
          case measure => have := HT1.out; simp only [intOf]; omega

set_option maxRecDepth 100000 in
set_option maxHeartbeats 8000000 in
theorem rread_A6 (d : Nat) (hof : RReadSaid d) (a : Option Addr) (n cp : Nat) (bs : List UInt8) (p wi dp : Nat) (w : World) (h : RdB w a n bs) (hn9 : n ≤ 1000000) (hcp : n ≤ cp) (hpn : p ≤ n) (hd : dp = wi + (d + 1)) (hd9 : dp ≤ 1000) (hlen : ¬ n ≤ p) (m low : Nat) (hm : m = bAt bs p / 32) (hlw : low = bAt bs p % 32) (h27 : ¬ 27 < low) (hsh : ¬ n < p + 1 + sizeL low) (h24 : ¬ 24 ≤ low) (hmv : m = 6) :
    Calls Try.prog 34 #[.slice a n cp, .int .i64 (p : Nat), .int .i64 (wi : Nat), .int .i64 (dp : Nat)] w (RReadO w (readQ bs (d + 1) p)) := by
  obtain ⟨wa, hwa⟩ : ∃ W, W = ((w.alloc (.cells #[.int .i64 0, .int .u64 0, .slice none 0 0, .string ⟨#[]⟩, .slice none 0 0] 26)).alloc (.cells #[.int .i64 0, .int .i64 0, .slice none 0 0] 35)).alloc (.cells #[.int .i64 0, .int .u64 0, .slice none 0 0, .string ⟨#[]⟩, .slice none 0 0] 26) := ⟨_, rfl⟩
  have hba : Below w.heap.size w wa := by
    rw [hwa]
    exact (((Below.refl _ _).alloc (Nat.le_refl _) _).alloc (by simp) _).alloc (by simp; omega) _
  have hbx : RBx wa w.heap.size (w.heap.size + 1) ∧ IBx wa (w.heap.size + 2) 0 0 (.slice none 0 0) ⟨#[]⟩ (.slice none 0 0) := by rw [hwa]; exact three _ _ _
  have hz : wa.heap.size = w.heap.size + 3 := by rw [hwa]; simp
  have HX := Lib.hid hbx.1
  have HI := Lib.hid hbx.2
  have HZ := Lib.hid hz
  have HRD := Lib.hid (h.keep hba)
  have HBA := Lib.hid hba
  have HBW := Lib.hid hba
  have hbl : bs.length = n := h.1
  have hzr : 0 < wa.heap.size := by omega
  obtain ⟨R, hR⟩ : ∃ R, R = readQ bs (d + 1) p := ⟨_, rfl⟩
  rw [← hR]
  rw [readQ, hbl] at hR
  have d1 : decide ((dp : Int) ≤ (wi : Int)) = false := by simp; omega
  have d2 : decide (dp ≤ wi) = false := by simp; omega
  have wwi : IntKind.i64.wrap ((wi : Int) + 1) = ((wi + 1 : Nat) : Int) := (IntWalk.i64_in _ (by omega)).trans (by omega)
  have CRD : Hid (∀ W q, RdB W a n bs → q ≤ n → Calls Try.prog 34 #[.slice a n cp, .int .i64 (q : Nat), .int .i64 ((wi + 1 : Nat) : Int), .int .i64 (dp : Nat)] W (RReadO W (readQ bs d q))) := Lib.hid (fun W q hW hq => hof a n cp bs q (wi + 1) dp W hW hn9 hcp hq (by omega) hd9)
  obtain ⟨wj, hwj⟩ : ∃ x, x = wi + 1 := ⟨_, rfl⟩
  rw [← hwj] at wwi CRD
  clear hwj hof
  have h0b := Lib.hid h
  rw [if_neg hlen] at hR
  have dl : decide ((n : Int) ≤ (p : Int)) = false := by simp; omega
  have dl2 : decide (n ≤ p) = false := by simp; omega
  have hpl : p < n := by omega
  obtain ⟨b, o, rfl, hat⟩ := HRD.out.at p hpl
  have hc9 := bAt_lt bs p
  obtain ⟨c, hc⟩ : ∃ c, c = bAt bs p := ⟨_, rfl⟩
  rw [← hc] at hat hc9 hR hm hlw
  have wq : (c : Int).tdiv 32 = (m : Int) := by rw [Int.tdiv_eq_ediv_of_nonneg (by omega)]; omega
  have wr : (c : Int).tmod 32 = (low : Int) := by rw [Int.tmod_eq_emod_of_nonneg (by omega)]; omega
  have wq8 : IntKind.u8.wrap (m : Int) = (m : Int) := IntWalk.u8_in _ (by omega)
  have wr8 : IntKind.u8.wrap (low : Int) = (low : Int) := IntWalk.u8_in _ (by omega)
  have wq2 : IntKind.i64.wrap (m : Int) = (m : Int) := IntWalk.i64_in _ (by omega)
  have wr2 : IntKind.i64.wrap (low : Int) = (low : Int) := IntWalk.i64_in _ (by omega)
  have hm7 : m ≤ 7 := by omega
  rw [← hm, ← hlw] at hR
  have ip0 : (0 : Int) ≤ (p : Int) := by omega
  have ip1 : (p : Int) < (n : Int) := by omega
  clear hc hm hlw hc9 hlen
  rw [if_neg h27] at hR
  have g1 : decide ((27 : Int) < (low : Int)) = false := by simp; omega
  have g1n : decide (27 < low) = false := by simp; omega
  obtain ⟨x1, hx1⟩ : ∃ x, x = n - p := ⟨_, rfl⟩
  obtain ⟨x2, hx2⟩ : ∃ x, x = n - p - 1 := ⟨_, rfl⟩
  have wx1 : IntKind.i64.wrap ((n : Int) - (p : Int)) = (x1 : Int) := (IntWalk.i64_in _ (by omega)).trans (by omega)
  have wx2 : IntKind.i64.wrap ((x1 : Int) - 1) = (x2 : Int) := (IntWalk.i64_in _ (by omega)).trans (by omega)
  have q1 : decide ((24 : Int) ≤ (low : Int)) = false := by simp; omega
  have q1n : decide (24 ≤ low) = false := by simp; omega
  have e1 : sizeL low = 0 := if_pos (by omega)
  rw [e1] at hR hsh
  have q3 : decide ((x2 : Int) < 0) = false := by simp
  rw [if_neg hsh] at hR
  have en : numL bs p low = low := if_pos (by omega)
  obtain ⟨nv, hnv⟩ : ∃ x, x = numL bs p low := ⟨_, rfl⟩
  have wl : IntKind.u64.wrap (low : Int) = (nv : Int) := (IntWalk.u64_in _ (by omega)).trans (by omega)
  obtain ⟨q, hq⟩ : ∃ q, q = p + 1 + 0 := ⟨_, rfl⟩
  have wp1 : IntKind.i64.wrap ((p : Int) + 1) = (q : Int) := (IntWalk.i64_in _ (by omega)).trans (by omega)
  have wp2 : IntKind.i64.wrap (q : Int) = (q : Int) := IntWalk.i64_in _ (by omega)
  have hnv9 : nv < okSize := by rw [hnv, en]; unfold okSize; omega
  rw [← hq, ← hnv] at hR
  have hqn : q ≤ n := by omega
  have HND : Hid (needN nv = 0) := by show _ = _; rw [hnv, en]; unfold needN; rw [if_pos (by omega)]
  clear hsh hx1 hx2 e1 en hnv hq
  obtain ⟨rd, hrd⟩ : ∃ f, f = readQ bs d := ⟨_, rfl⟩
  rw [← hrd] at hR
  have HMO : Hid (∀ q x q2, q ≤ n → rd q = .ok (x, q2) → q < q2) := by
    show ∀ q x q2, _
    intro q x q2 hq hh
    rw [hrd] at hh
    exact readQ_more bs d q x q2 (by rw [hbl]; exact hq) hh
  have HFN : Hid ((∀ q x a, q ≤ n → rd q = .error (x, a) → (1 ≤ x ∧ x ≤ 10) ∧ a ≤ n) ∧ (∀ q x q2, q ≤ n → rd q = .ok (x, q2) → q2 ≤ n)) := by
    show _ ∧ _
    refine ⟨fun q x a hq hh => ?_, fun q x q2 hq hh => ?_⟩
    · rw [hrd] at hh
      have := readQ_fine bs d q (by rw [hbl]; exact hq)
      rw [hh] at this
      exact ⟨this.1, by have := this.2.1; omega⟩
    · rw [hrd] at hh
      have := readQ_fine bs d q (by rw [hbl]; exact hq)
      rw [hh] at this
      have := this.2
      omega
  rw [← hrd] at CRD
  have HR0 : Hid (R = wrapK 7 nv .nil (kidsW rd (1 * 1) q)) := by
    show _ = _
    rw [hR]; unfold behQ; rw [if_neg (by omega), if_neg (by omega), if_neg (by omega), if_neg (by omega), if_neg (by omega), if_neg (by omega), if_neg (by omega)]
    rw [← wrapK_nil, Nat.mul_one]
  obtain ⟨hl2, hhl2⟩ : ∃ x, x = (headB m nv).length := ⟨_, rfl⟩
  have HLN : Hid ((headB m nv).length = hl2) := hhl2.symm
  rw [headB_len, HND.out] at hhl2
  have hln : ((hl2 : Int) != 1) = false := by simp; omega
  clear hhl2
  subst hmv
  have CH := Lib.hid (fun W => rhead_calls (6 : Nat) 6 rfl (by omega) nv hnv9 W)
  clear hrd
  clear hR h24
  obtain ⟨⟨h0, h1, h2, h3, h4⟩, ⟨f0, f1, f2, f3, f4⟩, ⟨k0, k1, k2⟩, ⟨l0, l1, l2⟩⟩ := HX.out
  obtain ⟨⟨i0, i1, i2, i3, i4⟩, ⟨j0, j1, j2, j3, j4⟩⟩ := HI.out
  clear h hba hbx hz hd hd9 hcp
  go_enter Try.func34, Try.ntmps34
  go_upto_region 2 with fail
  rw [← hwa]
  clear hwa
  go_wp2_with fail
  go_quiet (fail)
  obtain ⟨wb, hwb⟩ : ∃ W, W = wa.drewN nq := ⟨_, rfl⟩
  have hbb : Below wa.heap.size wa wb := by rw [hwb]; exact below_drewN wa nq wa.heap.size
  rw [← hwb]
  clear hwb
  have HBB := Lib.hid hbb
  have HBW := Lib.hid (HBA.out.trans (hbb.mono HBA.out.size))
  have hzb : w.heap.size + 3 ≤ wb.heap.size := by have := hbb.size; have := HZ.out; omega
  clear hbb h0 h1 h2 h3 h4 f0 f1 f2 f3 f4 k0 k1 k2 l0 l1 l2 i0 i1 i2 i3 i4 j0 j1 j2 j3 j4 hat
  obtain ⟨⟨h0, h1, h2, h3, h4⟩, ⟨f0, f1, f2, f3, f4⟩, ⟨k0, k1, k2⟩, ⟨l0, l1, l2⟩⟩ := HX.out.keep HBB.out
  obtain ⟨⟨i0, i1, i2, i3, i4⟩, ⟨j0, j1, j2, j3, j4⟩⟩ := HI.out.keep HBB.out
  go_wp2_with fail
  refine (CH.out _).mono ?_
  rintro e w2 ⟨v2, rfl, hst⟩
  obtain ⟨a2, c2, rfl, hr2⟩ := hst.1.reads
  rw [HLN.out] at hst hr2 ⊢
  have HB2 := Lib.hid (HBB.out.trans (hst.2.mono HBB.out.size))
  have HBW := Lib.hid (HBA.out.trans (HB2.out.mono HBA.out.size))
  have hzr2 : w.heap.size + 3 ≤ w2.heap.size := by have := HB2.out.size; have := HZ.out; omega
  clear h0 h1 h2 h3 h4 f0 f1 f2 f3 f4 k0 k1 k2 l0 l1 l2 i0 i1 i2 i3 i4 j0 j1 j2 j3 j4 hzb
  obtain ⟨⟨h0, h1, h2, h3, h4⟩, ⟨f0, f1, f2, f3, f4⟩, ⟨k0, k1, k2⟩, ⟨l0, l1, l2⟩⟩ := HX.out.keep HB2.out
  have HI2 := Lib.hid (HI.out.keep HB2.out)
  obtain ⟨⟨i0, i1, i2, i3, i4⟩, ⟨j0, j1, j2, j3, j4⟩⟩ := HI2.out
  have HRD2 := Lib.hid (HRD.out.keep HB2.out)
  clear hst hr2 CH HLN
  go_upto_region 48 with fail
  obtain ⟨wz, hwz⟩ : ∃ W, W = (w2.setCell ⟨w.heap.size + 2, 0, none⟩ (.int .i64 7)).setCell ⟨w.heap.size + 2, 1, none⟩ (.int .u64 (nv : Nat)) := ⟨_, rfl⟩
  rw [← hwz]
  have hiz : IBx wz (w.heap.size + 2) 7 nv (.slice none 0 0) ⟨#[]⟩ (.slice none 0 0) := by rw [hwz]; exact HI2.out.set0.set1
  have hcz : Chg (fun i => i = w.heap.size + 2) w2 wz := by
    rw [hwz]
    have hX : (fun i => i = w.heap.size + 2) (w.heap.size + 2) := rfl
    (repeat' (first | with_reducible exact Chg.refl _ _ | refine Chg.setCell ?_ (fun _ => hX) _))
  clear hwz
  have H0 : Hid (RInv w n 7 nv rd R (1 * 1) q wz) := by
    refine Lib.hid ⟨.nil, .slice none 0 0, hiz, (HX.out.keep HB2.out).chg hcz (by omega) (by omega), OwnI.nil _ _ _, HBW.out.trans (hcz.below (B := w.heap.size) (by omega) (fun i e => by omega)), by have := hcz.size; omega, by simp [IL.len], hqn, HR0.out⟩
  have hb9 : b < w.heap.size := by
    obtain ⟨bb, oo, e, hcc⟩ := h0b.out.at p hpl
    obtain ⟨rfl, -⟩ : bb = b ∧ oo = o := by simpa using (Option.some.inj e).symm
    simpa using cell_block hcc
  clear hcz hiz h0 h1 h2 h3 h4 f0 f1 f2 f3 f4 k0 k1 k2 l0 l1 l2 i0 i1 i2 i3 i4 j0 j1 j2 j3 j4 HI2 HB2 HX HR0 HRD2 HRD hb9 hqn
  clear d1 d2 dl dl2 g1 g1n wx1 wx2 q1 q1n q3 wp1 wp2 wr8 wr2 wr ip0 ip1 hm7 HBB hln HND wl
  go_loopw [16, 19] (fun nx i wr => ∃ j q : Nat, nx = .int .i64 (q : Nat) ∧ i = .int .u64 (j : Nat) ∧ j ≤ 1 ∧ RInv w n 7 nv rd R ((1 - j) * 1) q wr) (fun _ i _ => 1 - (intOf i).toNat)
  case atStart => exact ⟨0, q, rfl, rfl, Nat.zero_le _, by rw [Nat.sub_zero]; exact H0.out⟩
  case round =>
    obtain ⟨j, q, rfl, rfl, hjm, hinv⟩ := hrel
    have HI := Lib.hid hinv
    clear hinv H0
    by_cases hj0 : j = 1
    · have dc : decide ((j : Int) < 1) = false := by simp; omega
      have dc2 : decide (j < 1) = false := by simp; omega
      obtain ⟨acc, v, hib, hbx, hown, hbw, hzr3, hlq, hqn, hres⟩ := HI.out
      rw [show (1 - j) * 1 = 0 from by rw [hj0, Nat.sub_self, Nat.zero_mul], wrapK_end] at hres
      have HN := Lib.hid hres
      have HO := Lib.hid hown
      have HBR := Lib.hid hbw
      obtain ⟨a9, c9, rfl, -⟩ := hown.reads (fun k h => h)
      obtain ⟨m9, hm9⟩ : ∃ m, m = acc.len := ⟨_, rfl⟩
      rw [← hm9] at HO hib
      obtain ⟨⟨i0, i1, i2, i3, i4⟩, ⟨j0, j1, j2, j3, j4⟩⟩ := hib
      obtain ⟨⟨h0, h1, h2, h3, h4⟩, ⟨f0, f1, f2, f3, f4⟩, ⟨k0, k1, k2⟩, ⟨l0, l1, l2⟩⟩ := hbx
      clear hj0 hres hown hbw hlq HI CRD HMO HFN hm9 hjm
      (repeat (first | go_values | go_skip | go_guarded | go_step | go_upon | (go_simp; go_at_K)))
      refine bodyPost_ret (v := .tuple #[.agg #[.int .i64 7, .int .u64 (nv : Nat), .slice none 0 0, .string ⟨#[]⟩, .slice a9 m9 c9], .int .i64 (q : Nat), fltV 0 0]) (by simp [results, Try.results34, go_sem, *]) rfl ?_
      rw [HN.out]
      refine rkids_fin (wr := wr) (n := n) HO.out HBR.out hzr3 ⟨by omega, by omega⟩ hnv9 ?_
      (repeat' (first | with_reducible exact Chg.refl _ _ | with_reducible apply Chg.drew | with_reducible refine Chg.alloc ?_ _ | with_reducible refine Chg.setCell ?_ (fun h => ?_) _))
      all_goals (dsimp only; omega)
    · have dc : decide ((j : Int) < 1) = true := by simp; omega
      have dc2 : decide (j < 1) = true := by simp; omega
      obtain ⟨j1, hj1⟩ : ∃ x, x = j + 1 := ⟨_, rfl⟩
      have wc : IntKind.u64.wrap ((j : Int) + 1) = (j1 : Int) := (IntWalk.u64_in _ (by unfold okSize at hnv9; omega)).trans (by omega)
      obtain ⟨cl, hcl⟩ : ∃ x, x = 1 - j1 := ⟨_, rfl⟩
      have H1 : Hid (RInv w n 7 nv rd R (cl * 1 + (1 - 0)) q wr) := by
        have := HI.out
        rw [show (1 - j) * 1 = cl * 1 + (1 - 0) from by rw [show 1 - j = cl + 1 from by omega, Nat.add_mul]] at this
        exact Lib.hid this
      have HJ : Hid (j < j1 ∧ j1 ≤ 1 ∧ 1 - j1 = cl) := by show _ ∧ _ ∧ _; omega
      obtain ⟨wo, rfl⟩ : ∃ wo : World, wo = wr := ⟨_, rfl⟩
      clear HI hj0 hjm hcl hj1
      go_wp2_with fail
      go_loopw [16, 20] (fun nx i wr => ∃ t q : Nat, nx = .int .i64 (q : Nat) ∧ i = .int .i64 (t : Nat) ∧ t ≤ 1 ∧ RInv w n 7 nv rd R (cl * 1 + (1 - t)) q wr) (fun _ i _ => 1 - (intOf i).toNat)
      case atStart => exact ⟨0, q, rfl, rfl, Nat.zero_le _, H1.out⟩
      case round =>
        obtain ⟨t, q, rfl, rfl, hte, hinv⟩ := hrel
        clear H1
        by_cases ht : t < 1
        case neg =>
          have dj : decide ((t : Int) < 1) = false := by simp; omega
          have dj2 : decide (t < 1) = false := by simp; omega
          have H2 : Hid (RInv w n 7 nv rd R (cl * 1) q wr) := by
            rw [show cl * 1 + (1 - t) = cl * 1 from by omega] at hinv
            exact Lib.hid hinv
          clear hinv ht hte
          go_wp2_with fail
          go_roundw
          case rel => exact ⟨j1, q, rfl, rfl, HJ.out.2.1, by rw [HJ.out.2.2]; exact H2.out⟩
          case measure => have := HJ.out; simp only [intOf]; omega
        have dj : decide ((t : Int) < 1) = true := by simp; omega
        have dj2 : decide (t < 1) = true := by simp; omega
        have wj : IntKind.i64.wrap ((t : Int) + 1) = ((t + 1 : Nat) : Int) := (IntWalk.i64_in _ (by omega)).trans (by omega)
        obtain ⟨t1, ht1⟩ : ∃ t1, t1 = t + 1 := ⟨_, rfl⟩
        rw [← ht1] at wj
        have HT1 : Hid (t1 ≤ 1 ∧ t < t1) := by show _ ∧ _; omega
        obtain ⟨cc, hcc⟩ : ∃ cc, cc = cl * 1 + (1 - t1) := ⟨_, rfl⟩
        rw [show cl * 1 + (1 - t) = cc + 1 from by omega] at hinv
        have HCC := Lib.hid hcc
        obtain ⟨acc, v, hib, hbx, hown, hbw, hzr3, hlq, hqn, hres⟩ := hinv
        have HIB := Lib.hid hib
        have HBX := Lib.hid hbx
        have HO := Lib.hid hown
        have HBR := Lib.hid hbw
        have HLQ := Lib.hid hlq
        have HQN := Lib.hid hqn
        have HRS := Lib.hid hres
        have HZR := Lib.hid hzr3
        have hrdw : RdB wr (some ⟨b, o, none⟩) n bs := h0b.out.keep hbw
        have C1 := Lib.hid (CRD.out wr q hrdw hqn)
        have HMO1 := Lib.hid (fun x q2 => HMO.out q x q2 hqn)
        have HFN1 := Lib.hid (fun x a => HFN.out.1 q x a hqn)
        have HFN2 := Lib.hid (fun x q2 => HFN.out.2 q x q2 hqn)
        obtain ⟨R2, hR2⟩ : ∃ x, x = rd q := ⟨_, rfl⟩
        rw [← hR2] at C1 HMO1 HFN1 HFN2
        have HR2 := Lib.hid hR2
        clear hib hbx hown hbw hlq hqn hres hrdw CRD HMO HFN ht hte ht1 hcc hR2
        go_wp2_with fail
        refine C1.out.mono ?_
        rintro ee w2' ⟨hb2, hres⟩
        have HB2 := Lib.hid hb2
        have hz2 : w.heap.size + 3 ≤ w2'.heap.size := by have := hb2.size; omega
        clear hb2 C1
        cases R2 with
        | error xa =>
          obtain ⟨x, a⟩ := xa
          have hfn := HFN1.out x a rfl
          subst hres
          have b2 : ((x : Int) != 0) = true := by simp; omega
          have HR : Hid (R = .error (x, a)) := HRS.out.trans (wrapK_err HR2.out.symm)
          clear HFN1 HMO1 HFN2 hfn
          go_upto_region 54 with fail
          obtain ⟨w3, hw3⟩ : ∃ W, W = (w2'.alloc (.cells #[.int .i64 0, .int .u64 0, .slice none 0 0, .string ⟨#[]⟩, .slice none 0 0] 26)).alloc (.cells #[.int .i64 (x : Nat), .int .i64 (a : Nat), .slice none 0 0] 35) := ⟨_, rfl⟩
          rw [← hw3]
          have hb3 : Below w2'.heap.size w2' w3 := by rw [hw3]; exact ((Below.refl _ _).alloc (Nat.le_refl _) _).alloc (by simp) _
          obtain ⟨g12, hg12⟩ : ∃ g, g = w2'.heap.size := ⟨_, rfl⟩
          have t0 : w3.cell? ⟨g12 + 1, 0, none⟩ = some (.int .i64 (x : Nat)) := by rw [hw3, hg12]; simp [go_sem]
          have t1' : w3.cell? ⟨g12 + 1, 1, none⟩ = some (.int .i64 (a : Nat)) := by rw [hw3, hg12]; simp [go_sem]
          have t2 : w3.cell? ⟨g12 + 1, 2, none⟩ = some (.slice none 0 0) := by rw [hw3, hg12]; simp [go_sem]
          obtain ⟨⟨h0, h1, h2, h3, h4⟩, ⟨f0, f1, f2, f3, f4⟩, ⟨k0, k1, k2⟩, ⟨l0, l1, l2⟩⟩ := (HBX.out.keep HB2.out).keep hb3
          have HB3 : Hid (Below w.heap.size w w3) := (HBR.out.trans (HB2.out.mono HBR.out.size)).trans (hb3.mono (by omega))
          have hz3 : w.heap.size + 3 ≤ w3.heap.size := by have := hb3.size; omega
          rw [← hg12] at hz2 ⊢
          have n1 : ¬ w.heap.size = g12 + 1 := by omega
          have m1 : ¬ g12 + 1 = w.heap.size := by omega
          have n2 : ¬ w.heap.size + 1 = g12 + 1 := by omega
          have m2 : ¬ g12 + 1 = w.heap.size + 1 := by omega
          clear hw3 hg12 hb3
          go_wp2_with fail
          go_region_held3 (fun W => W.cell? ⟨g12 + 1, 0, none⟩ = some (.int .i64 (x : Nat)) ∧ W.cell? ⟨g12 + 1, 1, none⟩ = some (.int .i64 (a : Nat)) ∧ W.cell? ⟨g12 + 1, 2, none⟩ = some (.slice none 0 0)) (first | (simp [go_sem, *]; done) | go_keep) (fail)
          all_goals
            (repeat (first | go_values | go_skip | go_guarded | go_step | go_upon | (go_simp; go_at_K)))
            refine bodyPost_ret (v := .tuple #[zIt, .int .i64 0, fltV x a]) (by simp [results, Try.results34, go_sem, *]) rfl ?_
            rw [HR.out]
            refine rread_err ?_
            (repeat' (first | with_reducible exact HB3.out | with_reducible apply Below.drew | with_reducible refine Below.alloc ?_ (by first | omega | (simp; done) | (simp; omega)) _ | with_reducible refine Below.setCell ?_ (by first | (simp; done) | (simp only []; omega)) _))
        | ok xq =>
          obtain ⟨x, q2⟩ := xq
          obtain ⟨cx, rfl, hrx⟩ := hres
          have HRX := Lib.hid hrx
          have HQQ := Lib.hid (HMO1.out x q2 rfl)
          have HQ2 := Lib.hid (HFN2.out x q2 rfl)
          obtain ⟨ki, ni, ab, nb, cb, text, ak, nk, ck, rfl⟩ := hrx.shape
          clear HFN1 HMO1 HFN2 hrx
          go_upto_region 54 with fail
          obtain ⟨w3, hw3⟩ : ∃ W, W = (w2'.alloc (.cells #[.int .i64 ki, .int .u64 (ni : Nat), .slice ab nb cb, .string text, .slice ak nk ck] 26)).alloc (.cells #[.int .i64 0, .int .i64 0, .slice none 0 0] 35) := ⟨_, rfl⟩
          rw [← hw3]
          have hb3 : Below w2'.heap.size w2' w3 := by rw [hw3]; exact ((Below.refl _ _).alloc (Nat.le_refl _) _).alloc (by simp) _
          obtain ⟨g12, hg12⟩ : ∃ g, g = w2'.heap.size := ⟨_, rfl⟩
          have t0 : w3.cell? ⟨g12, 0, none⟩ = some (.int .i64 ki) := by rw [hw3, hg12]; simp [go_sem]
          have t1' : w3.cell? ⟨g12, 1, none⟩ = some (.int .u64 (ni : Nat)) := by rw [hw3, hg12]; simp [go_sem]
          have t2 : w3.cell? ⟨g12, 2, none⟩ = some (.slice ab nb cb) := by rw [hw3, hg12]; simp [go_sem]
          have t3 : w3.cell? ⟨g12, 3, none⟩ = some (.string text) := by rw [hw3, hg12]; simp [go_sem]
          have t4 : w3.cell? ⟨g12, 4, none⟩ = some (.slice ak nk ck) := by rw [hw3, hg12]; simp [go_sem]
          have e0 : w3.cell? ⟨g12 + 1, 0, none⟩ = some (.int .i64 0) := by rw [hw3, hg12]; simp [go_sem]
          have HB3 : Hid (Below wr.heap.size wr w3) := HB2.out.trans (hb3.mono HB2.out.size)
          have HG3 : Hid (w3.heap.size = g12 + 2) := by show _ = _; rw [hw3, hg12]; simp
          obtain ⟨⟨i0, i1, i2, i3, i4⟩, ⟨j0, j1', j2, j3, j4⟩⟩ := HIB.out.keep HB3.out
          have HO3 : Hid (OwnI w3 (w.heap.size + 3) (fun k => w.heap.size + 3 ≤ k) v acc) := HO.out.keep HB3.out
          have HFAR : Hid (∀ i, v.ownBlock = some i → w.heap.size + 3 ≤ i ∧ i < wr.heap.size) := Lib.hid (fun i hi => HO.out.far i hi)
          have HRX3 : Hid (RdIt (fun k => wr.heap.size ≤ k ∧ k < w3.heap.size) w3 x #[.int .i64 ki, .int .u64 (ni : Nat), .slice ab nb cb, .string text, .slice ak nk ck]) := by
            refine Lib.hid ((HRX.out.imp (S' := fun k => wr.heap.size ≤ k ∧ k < w3.heap.size) (fun k hk h => ⟨h, ?_⟩)).below hb3)
            have := hb3.size; omega
          rw [← hg12] at hz2 ⊢
          have q0' : w.heap.size + 2 < w3.heap.size := by have := HG3.out; omega
          have q1' : g12 < w3.heap.size := by have := HG3.out; omega
          have q2' : g12 + 1 < w3.heap.size := by have := HG3.out; omega
          have HQ0 := Lib.hid q0'
          clear hw3 hg12 hb3
          have hln : acc.len + 1 ≤ 1000000000 := by have := HLQ.out; have := HQN.out; omega
          go_wp2_with (at_builtin; refine wpList_appI (v := v) (f := acc) (g := .cons x .nil) (B := w.heap.size + 3) (L := fun k => w.heap.size + 3 ≤ k) (S1 := fun k => wr.heap.size ≤ k ∧ k < w3.heap.size) (sv := .slice (some ⟨w3.heap.size, 0, none⟩) 1 1) (by rfl) _ _ (by rfl) (by rfl) ?oO (by rfl) ?oS ?oL ?oB ?oH ?_)
          case oO => exact HO3.out.keep ((Below.refl _ _).alloc (Nat.le_refl _) _)
          case oS =>
            refine SrcI.one (c := #[.int .i64 ki, .int .u64 (ni : Nat), .slice ab nb cb, .string text, .slice ak nk ck]) ?_ ?_
            · exact HRX3.out.below ((Below.refl _ _).alloc (Nat.le_refl _) _)
            · intro j u hj
              match j with
              | 0 => simp at hj; subst hj; simp [go_sem]
              | 1 => simp at hj; subst hj; simp [go_sem]
              | 2 => simp at hj; subst hj; simp [go_sem]
              | 3 => simp at hj; subst hj; simp [go_sem]
              | 4 => simp at hj; subst hj; simp [go_sem]
              | j + 5 => simp at hj
          case oL => exact fun k hk => ⟨by have := HZR.out; have := hk.1; omega, fun e => by have := (HFAR.out k e).2; have := hk.1; omega⟩
          case oB => simp only [IL.len]; omega
          case oH => have := HQ0.out; simp; omega
          intro v4 w4 ho4 ha4
          have HO4 := Lib.hid ho4
          have HA4 := Lib.hid ha4
          have HB34 : Hid (Below wr.heap.size wr (w3.alloc (.cells #[.int .i64 ki, .int .u64 (ni : Nat), .slice ab nb cb, .string text, .slice ak nk ck] 26))) := HB3.out.trans (((Below.refl _ w3).alloc (Nat.le_refl _) _).mono HB3.out.size)
          have hx4 : Chg (fun i => v.ownBlock = some i) w3 w4 := Chg.trans ((Chg.refl _ _).alloc _) ha4.chg (fun i hi e => e)
          have nv' : ¬ v.ownBlock = some (w.heap.size + 2) := fun e => by have := (HFAR.out _ e).1; omega
          have y4 : w4.cell? ⟨w.heap.size + 2, 4, none⟩ = some v := hx4.cell (p := ⟨w.heap.size + 2, 4, none⟩) nv' i4
          have y5 : w4.frozen? ⟨w.heap.size + 2, 4, none⟩ = false := by rw [hx4.frozen (p := ⟨w.heap.size + 2, 4, none⟩) nv' HQ0.out]; exact j4
          obtain ⟨a4, c4, e4, -⟩ := ho4.reads (fun k h => h)
          obtain ⟨m4, hm4⟩ : ∃ m, m = (acc.append (.cons x .nil)).len := ⟨_, rfl⟩
          rw [← hm4] at e4
          subst e4
          clear ho4 ha4 hx4 i0 i1 i2 i3 i4 j0 j1' j2 j3 j4 t0 t1' t2 t3 t4 e0 q0' q1' q2' nv' hm4
          go_wp2_with fail
          go_roundw
          case rel =>
            have hkn := RInv.next (n := n) HIB.out HBX.out HO.out HBR.out HZR.out HLQ.out HRS.out HR2.out.symm HQQ.out HQ2.out HB34.out HO4.out HA4.out
            rw [HCC.out] at hkn
            exact ⟨t1, q2, rfl, rfl, HT1.out.1, hkn⟩
          case measure => have := HT1.out; simp only [intOf]; omega

set_option maxRecDepth 100000 in
set_option maxHeartbeats 8000000 in
theorem rread_C4 (d : Nat) (hof : RReadSaid d) (a : Option Addr) (n cp : Nat) (bs : List UInt8) (p wi dp : Nat) (w : World) (h : RdB w a n bs) (hn9 : n ≤ 1000000) (hcp : n ≤ cp) (hpn : p ≤ n) (hd : dp = wi + (d + 1)) (hd9 : dp ≤ 1000) (hlen : ¬ n ≤ p) (m low : Nat) (hm : m = bAt bs p / 32) (hlw : low = bAt bs p % 32) (h27 : ¬ 27 < low) (hsh : ¬ n < p + 1 + sizeL low) (h24 : 24 ≤ low) (hmv : m = 4) (hnd : needN (numL bs p low) = wideB low) :
    Calls Try.prog 34 #[.slice a n cp, .int .i64 (p : Nat), .int .i64 (wi : Nat), .int .i64 (dp : Nat)] w (RReadO w (readQ bs (d + 1) p)) := by
  obtain ⟨wa, hwa⟩ : ∃ W, W = ((w.alloc (.cells #[.int .i64 0, .int .u64 0, .slice none 0 0, .string ⟨#[]⟩, .slice none 0 0] 26)).alloc (.cells #[.int .i64 0, .int .i64 0, .slice none 0 0] 35)).alloc (.cells #[.int .i64 0, .int .u64 0, .slice none 0 0, .string ⟨#[]⟩, .slice none 0 0] 26) := ⟨_, rfl⟩
  have hba : Below w.heap.size w wa := by
    rw [hwa]
    exact (((Below.refl _ _).alloc (Nat.le_refl _) _).alloc (by simp) _).alloc (by simp; omega) _
  have hbx : RBx wa w.heap.size (w.heap.size + 1) ∧ IBx wa (w.heap.size + 2) 0 0 (.slice none 0 0) ⟨#[]⟩ (.slice none 0 0) := by rw [hwa]; exact three _ _ _
  have hz : wa.heap.size = w.heap.size + 3 := by rw [hwa]; simp
  have HX := Lib.hid hbx.1
  have HI := Lib.hid hbx.2
  have HZ := Lib.hid hz
  have HRD := Lib.hid (h.keep hba)
  have HBA := Lib.hid hba
  have HBW := Lib.hid hba
  have hbl : bs.length = n := h.1
  have hzr : 0 < wa.heap.size := by omega
  obtain ⟨R, hR⟩ : ∃ R, R = readQ bs (d + 1) p := ⟨_, rfl⟩
  rw [← hR]
  rw [readQ, hbl] at hR
  have d1 : decide ((dp : Int) ≤ (wi : Int)) = false := by simp; omega
  have d2 : decide (dp ≤ wi) = false := by simp; omega
  have wwi : IntKind.i64.wrap ((wi : Int) + 1) = ((wi + 1 : Nat) : Int) := (IntWalk.i64_in _ (by omega)).trans (by omega)
  have CRD : Hid (∀ W q, RdB W a n bs → q ≤ n → Calls Try.prog 34 #[.slice a n cp, .int .i64 (q : Nat), .int .i64 ((wi + 1 : Nat) : Int), .int .i64 (dp : Nat)] W (RReadO W (readQ bs d q))) := Lib.hid (fun W q hW hq => hof a n cp bs q (wi + 1) dp W hW hn9 hcp hq (by omega) hd9)
  obtain ⟨wj, hwj⟩ : ∃ x, x = wi + 1 := ⟨_, rfl⟩
  rw [← hwj] at wwi CRD
  clear hwj hof
  have h0b := Lib.hid h
  rw [if_neg hlen] at hR
  have dl : decide ((n : Int) ≤ (p : Int)) = false := by simp; omega
  have dl2 : decide (n ≤ p) = false := by simp; omega
  have hpl : p < n := by omega
  obtain ⟨b, o, rfl, hat⟩ := HRD.out.at p hpl
  have hc9 := bAt_lt bs p
  obtain ⟨c, hc⟩ : ∃ c, c = bAt bs p := ⟨_, rfl⟩
  rw [← hc] at hat hc9 hR hm hlw
  have wq : (c : Int).tdiv 32 = (m : Int) := by rw [Int.tdiv_eq_ediv_of_nonneg (by omega)]; omega
  have wr : (c : Int).tmod 32 = (low : Int) := by rw [Int.tmod_eq_emod_of_nonneg (by omega)]; omega
  have wq8 : IntKind.u8.wrap (m : Int) = (m : Int) := IntWalk.u8_in _ (by omega)
  have wr8 : IntKind.u8.wrap (low : Int) = (low : Int) := IntWalk.u8_in _ (by omega)
  have wq2 : IntKind.i64.wrap (m : Int) = (m : Int) := IntWalk.i64_in _ (by omega)
  have wr2 : IntKind.i64.wrap (low : Int) = (low : Int) := IntWalk.i64_in _ (by omega)
  have hm7 : m ≤ 7 := by omega
  rw [← hm, ← hlw] at hR
  have ip0 : (0 : Int) ≤ (p : Int) := by omega
  have ip1 : (p : Int) < (n : Int) := by omega
  clear hc hm hlw hc9 hlen
  rw [if_neg h27] at hR
  have g1 : decide ((27 : Int) < (low : Int)) = false := by simp; omega
  have g1n : decide (27 < low) = false := by simp; omega
  obtain ⟨x1, hx1⟩ : ∃ x, x = n - p := ⟨_, rfl⟩
  obtain ⟨x2, hx2⟩ : ∃ x, x = n - p - 1 := ⟨_, rfl⟩
  have wx1 : IntKind.i64.wrap ((n : Int) - (p : Int)) = (x1 : Int) := (IntWalk.i64_in _ (by omega)).trans (by omega)
  have wx2 : IntKind.i64.wrap ((x1 : Int) - 1) = (x2 : Int) := (IntWalk.i64_in _ (by omega)).trans (by omega)
  have q1 : decide ((24 : Int) ≤ (low : Int)) = true := by simp; omega
  have q1n : decide (24 ≤ low) = true := by simp; omega
  have e1 : sizeL low = wideB low := if_neg (by omega)
  rw [e1] at hR hsh
  obtain ⟨sh, hsh2⟩ : ∃ k, k = low - 24 := ⟨_, rfl⟩
  obtain ⟨Wd, hWd⟩ : ∃ k, k = wideB low := ⟨_, rfl⟩
  have wsh : IntKind.i64.wrap ((low : Int) - 24) = (sh : Int) := (IntWalk.i64_in _ (by omega)).trans (by omega)
  have wsu : IntKind.u64.wrap (sh : Int) = (sh : Int) := IntWalk.u64_in _ (by omega)
  have hpw : (2 : Int) ^ sh = (Wd : Int) := by
    rw [hWd, hsh2]
    have : low = 24 ∨ low = 25 ∨ low = 26 ∨ low = 27 := by omega
    rcases this with rfl | rfl | rfl | rfl <;> rfl
  have hW8 : Wd ≤ 8 := by rw [hWd]; exact (wideB_le _).2
  have hW1 : 1 ≤ Wd := by rw [hWd]; exact (wideB_le _).1
  have wW : IntKind.i64.wrap (Wd : Int) = (Wd : Int) := IntWalk.i64_in _ (by omega)
  have ws4' : wrap64 (Wd : Int) = (Wd : Int) := by unfold wrap64; omega
  have ws0 : (0 : Int) ≤ (sh : Int) := by omega
  have hms : min sh 64 = sh := by omega
  have HWS : Hid (IntKind.i64.wrap (1 * 2 ^ sh) = (Wd : Int) ∧ IntKind.i64.wrap (2 ^ sh) = (Wd : Int) ∧ wrap64 (2 ^ min sh 64) = (Wd : Int)) := Lib.hid ⟨by rw [Int.one_mul, hpw]; exact wW, by rw [hpw]; exact wW, by rw [hms, hpw]; exact ws4'⟩
  clear hpw hms ws4'
  have ws3 : decide ((sh : Int) < 0) = false := by simp
  rw [← hWd] at hR hsh
  rw [if_neg hsh] at hR
  have q3 : decide ((x2 : Int) < (Wd : Int)) = false := by simp; omega
  have q3n : decide (x2 < Wd) = false := by simp; omega
  have q4 : decide ((0 : Int) < (Wd : Int)) = true := by simp; omega
  have q4n : decide (0 < Wd) = true := by simp; omega
  have en : numL bs p low = be (seg bs (p + 1) Wd) := by rw [hWd]; exact if_neg (by omega)
  have CN := Lib.hid (fun W hW => high_yes (some ⟨b, o, none⟩) n cp (p + 1) Wd W bs hW (by omega) hW1 hW8)
  rw [← en] at CN
  have hnv9 : numL bs p low < okSize := numL_lt bs p low (by omega) (by rw [e1, ← hWd, hbl]; omega)
  obtain ⟨nv, hnv⟩ : ∃ x, x = numL bs p low := ⟨_, rfl⟩
  rw [← hnv] at CN hnv9 hR hnd
  obtain ⟨p1, hp1⟩ : ∃ x, x = p + 1 := ⟨_, rfl⟩
  have wp1 : IntKind.i64.wrap ((p : Int) + 1) = (p1 : Int) := (IntWalk.i64_in _ (by omega)).trans (by omega)
  rw [← hp1] at CN hR
  obtain ⟨q, hq⟩ : ∃ q, q = p1 + Wd := ⟨_, rfl⟩
  have wp2 : IntKind.i64.wrap ((p1 : Int) + (Wd : Int)) = (q : Int) := (IntWalk.i64_in _ (by omega)).trans (by omega)
  have wlw : IntKind.u64.wrap (low : Int) = (low : Int) := IntWalk.u64_in _ (by omega)
  rw [← hq] at hR
  have hqn : q ≤ n := by omega
  have HWd := Lib.hid hWd
  have HND : Hid (needN nv = Wd) := hnd.trans HWd.out.symm
  clear hsh hx1 hx2 e1 en hnv hq hp1 hsh2 hWd
  obtain ⟨rd, hrd⟩ : ∃ f, f = readQ bs d := ⟨_, rfl⟩
  rw [← hrd] at hR
  have HMO : Hid (∀ q x q2, q ≤ n → rd q = .ok (x, q2) → q < q2) := by
    show ∀ q x q2, _
    intro q x q2 hq hh
    rw [hrd] at hh
    exact readQ_more bs d q x q2 (by rw [hbl]; exact hq) hh
  have HFN : Hid ((∀ q x a, q ≤ n → rd q = .error (x, a) → (1 ≤ x ∧ x ≤ 10) ∧ a ≤ n) ∧ (∀ q x q2, q ≤ n → rd q = .ok (x, q2) → q2 ≤ n)) := by
    show _ ∧ _
    refine ⟨fun q x a hq hh => ?_, fun q x q2 hq hh => ?_⟩
    · rw [hrd] at hh
      have := readQ_fine bs d q (by rw [hbl]; exact hq)
      rw [hh] at this
      exact ⟨this.1, by have := this.2.1; omega⟩
    · rw [hrd] at hh
      have := readQ_fine bs d q (by rw [hbl]; exact hq)
      rw [hh] at this
      have := this.2
      omega
  rw [← hrd] at CRD
  have HR0 : Hid (R = wrapK 5 0 .nil (kidsW rd (nv * 1) q)) := by
    show _ = _
    rw [hR]; unfold behQ; rw [if_neg (by omega), if_neg (fun h => h.2 hnd), if_neg (by omega), if_neg (by omega), if_neg (by omega), if_pos (by omega)]
    rw [← wrapK_nil, Nat.mul_one]
  obtain ⟨hl2, hhl2⟩ : ∃ x, x = (headB m nv).length := ⟨_, rfl⟩
  have HLN : Hid ((headB m nv).length = hl2) := hhl2.symm
  rw [headB_len, HND.out] at hhl2
  have w1W : IntKind.i64.wrap (1 + (Wd : Int)) = (hl2 : Int) := (IntWalk.i64_in _ (by omega)).trans (by omega)
  have hln : ((hl2 : Int) != (hl2 : Int)) = false := by simp
  clear hhl2
  subst hmv
  have CH := Lib.hid (fun W => rhead_calls (4 : Nat) 4 rfl (by omega) nv hnv9 W)
  clear hrd
  clear hR h24 hnd
  obtain ⟨⟨h0, h1, h2, h3, h4⟩, ⟨f0, f1, f2, f3, f4⟩, ⟨k0, k1, k2⟩, ⟨l0, l1, l2⟩⟩ := HX.out
  obtain ⟨⟨i0, i1, i2, i3, i4⟩, ⟨j0, j1, j2, j3, j4⟩⟩ := HI.out
  clear h hba hbx hz hd hd9 hcp
  obtain ⟨ws1, ws2, ws4⟩ := HWS.out
  go_enter Try.func34, Try.ntmps34
  go_upto_region 2 with fail
  rw [← hwa]
  clear hwa
  go_wp2_with fail
  go_quiet (fail)
  obtain ⟨wb, hwb⟩ : ∃ W, W = wa.drewN nq := ⟨_, rfl⟩
  have hbb : Below wa.heap.size wa wb := by rw [hwb]; exact below_drewN wa nq wa.heap.size
  rw [← hwb]
  clear hwb
  have HBB := Lib.hid hbb
  have HBW := Lib.hid (HBA.out.trans (hbb.mono HBA.out.size))
  have hzb : w.heap.size + 3 ≤ wb.heap.size := by have := hbb.size; have := HZ.out; omega
  clear hbb h0 h1 h2 h3 h4 f0 f1 f2 f3 f4 k0 k1 k2 l0 l1 l2 i0 i1 i2 i3 i4 j0 j1 j2 j3 j4 hat
  obtain ⟨⟨h0, h1, h2, h3, h4⟩, ⟨f0, f1, f2, f3, f4⟩, ⟨k0, k1, k2⟩, ⟨l0, l1, l2⟩⟩ := HX.out.keep HBB.out
  obtain ⟨⟨i0, i1, i2, i3, i4⟩, ⟨j0, j1, j2, j3, j4⟩⟩ := HI.out.keep HBB.out
  go_wp2_with fail
  refine (CN.out wb (HRD.out.keep HBB.out)).mono ?_
  rintro e w1 ⟨rfl, rfl⟩
  go_wp2_with fail
  refine (CH.out _).mono ?_
  rintro e w2 ⟨v2, rfl, hst⟩
  obtain ⟨a2, c2, rfl, hr2⟩ := hst.1.reads
  rw [HLN.out] at hst hr2 ⊢
  have HB2 := Lib.hid (HBB.out.trans (hst.2.mono HBB.out.size))
  have HBW := Lib.hid (HBA.out.trans (HB2.out.mono HBA.out.size))
  have hzr2 : w.heap.size + 3 ≤ w2.heap.size := by have := HB2.out.size; have := HZ.out; omega
  clear h0 h1 h2 h3 h4 f0 f1 f2 f3 f4 k0 k1 k2 l0 l1 l2 i0 i1 i2 i3 i4 j0 j1 j2 j3 j4 hzb
  obtain ⟨⟨h0, h1, h2, h3, h4⟩, ⟨f0, f1, f2, f3, f4⟩, ⟨k0, k1, k2⟩, ⟨l0, l1, l2⟩⟩ := HX.out.keep HB2.out
  have HI2 := Lib.hid (HI.out.keep HB2.out)
  obtain ⟨⟨i0, i1, i2, i3, i4⟩, ⟨j0, j1, j2, j3, j4⟩⟩ := HI2.out
  have HRD2 := Lib.hid (HRD.out.keep HB2.out)
  clear hst hr2 CH HLN
  go_upto_region 48 with fail
  obtain ⟨wz, hwz⟩ : ∃ W, W = w2.setCell ⟨w.heap.size + 2, 0, none⟩ (.int .i64 5) := ⟨_, rfl⟩
  rw [← hwz]
  have hiz : IBx wz (w.heap.size + 2) 5 0 (.slice none 0 0) ⟨#[]⟩ (.slice none 0 0) := by rw [hwz]; exact HI2.out.set0
  have hcz : Chg (fun i => i = w.heap.size + 2) w2 wz := by
    rw [hwz]
    have hX : (fun i => i = w.heap.size + 2) (w.heap.size + 2) := rfl
    (repeat' (first | with_reducible exact Chg.refl _ _ | refine Chg.setCell ?_ (fun _ => hX) _))
  clear hwz
  have H0 : Hid (RInv w n 5 0 rd R (nv * 1) q wz) := by
    refine Lib.hid ⟨.nil, .slice none 0 0, hiz, (HX.out.keep HB2.out).chg hcz (by omega) (by omega), OwnI.nil _ _ _, HBW.out.trans (hcz.below (B := w.heap.size) (by omega) (fun i e => by omega)), by have := hcz.size; omega, by simp [IL.len], hqn, HR0.out⟩
  have hb9 : b < w.heap.size := by
    obtain ⟨bb, oo, e, hcc⟩ := h0b.out.at p hpl
    obtain ⟨rfl, -⟩ : bb = b ∧ oo = o := by simpa using (Option.some.inj e).symm
    simpa using cell_block hcc
  clear hcz hiz h0 h1 h2 h3 h4 f0 f1 f2 f3 f4 k0 k1 k2 l0 l1 l2 i0 i1 i2 i3 i4 j0 j1 j2 j3 j4 HI2 HB2 HX HR0 HRD2 HRD hb9 hqn
  clear d1 d2 dl dl2 g1 g1n wx1 wx2 q1 q1n q3 wp1 wp2 wr8 wr2 wr ip0 ip1 hm7 HBB hln HND q3n q4 q4n wlw w1W wsh wsu hW8 hW1 wW ws0 ws1 ws2 ws3 ws4 HWS CN HWd
  go_loopw [16, 19] (fun nx i wr => ∃ j q : Nat, nx = .int .i64 (q : Nat) ∧ i = .int .u64 (j : Nat) ∧ j ≤ nv ∧ RInv w n 5 0 rd R ((nv - j) * 1) q wr) (fun _ i _ => nv - (intOf i).toNat)
  case atStart => exact ⟨0, q, rfl, rfl, Nat.zero_le _, by rw [Nat.sub_zero]; exact H0.out⟩
  case round =>
    obtain ⟨j, q, rfl, rfl, hjm, hinv⟩ := hrel
    have HI := Lib.hid hinv
    clear hinv H0
    by_cases hj0 : j = nv
    · have dc : decide ((j : Int) < (nv : Nat)) = false := by simp; omega
      have dc2 : decide (j < nv) = false := by simp; omega
      obtain ⟨acc, v, hib, hbx, hown, hbw, hzr3, hlq, hqn, hres⟩ := HI.out
      rw [show (nv - j) * 1 = 0 from by rw [hj0, Nat.sub_self, Nat.zero_mul], wrapK_end] at hres
      have HN := Lib.hid hres
      have HO := Lib.hid hown
      have HBR := Lib.hid hbw
      obtain ⟨a9, c9, rfl, -⟩ := hown.reads (fun k h => h)
      obtain ⟨m9, hm9⟩ : ∃ m, m = acc.len := ⟨_, rfl⟩
      rw [← hm9] at HO hib
      obtain ⟨⟨i0, i1, i2, i3, i4⟩, ⟨j0, j1, j2, j3, j4⟩⟩ := hib
      obtain ⟨⟨h0, h1, h2, h3, h4⟩, ⟨f0, f1, f2, f3, f4⟩, ⟨k0, k1, k2⟩, ⟨l0, l1, l2⟩⟩ := hbx
      clear hj0 hres hown hbw hlq HI CRD HMO HFN hm9 hjm
      (repeat (first | go_values | go_skip | go_guarded | go_step | go_upon | (go_simp; go_at_K)))
      refine bodyPost_ret (v := .tuple #[.agg #[.int .i64 5, .int .u64 0, .slice none 0 0, .string ⟨#[]⟩, .slice a9 m9 c9], .int .i64 (q : Nat), fltV 0 0]) (by simp [results, Try.results34, go_sem, *]) rfl ?_
      rw [HN.out]
      refine rkids_fin (wr := wr) (n := n) HO.out HBR.out hzr3 ⟨by omega, by omega⟩ (by decide) ?_
      (repeat' (first | with_reducible exact Chg.refl _ _ | with_reducible apply Chg.drew | with_reducible refine Chg.alloc ?_ _ | with_reducible refine Chg.setCell ?_ (fun h => ?_) _))
      all_goals (dsimp only; omega)
    · have dc : decide ((j : Int) < (nv : Nat)) = true := by simp; omega
      have dc2 : decide (j < nv) = true := by simp; omega
      obtain ⟨j1, hj1⟩ : ∃ x, x = j + 1 := ⟨_, rfl⟩
      have wc : IntKind.u64.wrap ((j : Int) + 1) = (j1 : Int) := (IntWalk.u64_in _ (by unfold okSize at hnv9; omega)).trans (by omega)
      obtain ⟨cl, hcl⟩ : ∃ x, x = nv - j1 := ⟨_, rfl⟩
      have H1 : Hid (RInv w n 5 0 rd R (cl * 1 + (1 - 0)) q wr) := by
        have := HI.out
        rw [show (nv - j) * 1 = cl * 1 + (1 - 0) from by rw [show nv - j = cl + 1 from by omega, Nat.add_mul]] at this
        exact Lib.hid this
      have HJ : Hid (j < j1 ∧ j1 ≤ nv ∧ nv - j1 = cl) := by show _ ∧ _ ∧ _; omega
      obtain ⟨wo, rfl⟩ : ∃ wo : World, wo = wr := ⟨_, rfl⟩
      clear HI hj0 hjm hcl hj1
      go_wp2_with fail
      go_loopw [16, 20] (fun nx i wr => ∃ t q : Nat, nx = .int .i64 (q : Nat) ∧ i = .int .i64 (t : Nat) ∧ t ≤ 1 ∧ RInv w n 5 0 rd R (cl * 1 + (1 - t)) q wr) (fun _ i _ => 1 - (intOf i).toNat)
      case atStart => exact ⟨0, q, rfl, rfl, Nat.zero_le _, H1.out⟩
      case round =>
        obtain ⟨t, q, rfl, rfl, hte, hinv⟩ := hrel
        clear H1
        by_cases ht : t < 1
        case neg =>
          have dj : decide ((t : Int) < 1) = false := by simp; omega
          have dj2 : decide (t < 1) = false := by simp; omega
          have H2 : Hid (RInv w n 5 0 rd R (cl * 1) q wr) := by
            rw [show cl * 1 + (1 - t) = cl * 1 from by omega] at hinv
            exact Lib.hid hinv
          clear hinv ht hte
          go_wp2_with fail
          go_roundw
          case rel => exact ⟨j1, q, rfl, rfl, HJ.out.2.1, by rw [HJ.out.2.2]; exact H2.out⟩
          case measure => have := HJ.out; simp only [intOf]; omega
        have dj : decide ((t : Int) < 1) = true := by simp; omega
        have dj2 : decide (t < 1) = true := by simp; omega
        have wj : IntKind.i64.wrap ((t : Int) + 1) = ((t + 1 : Nat) : Int) := (IntWalk.i64_in _ (by omega)).trans (by omega)
        obtain ⟨t1, ht1⟩ : ∃ t1, t1 = t + 1 := ⟨_, rfl⟩
        rw [← ht1] at wj
        have HT1 : Hid (t1 ≤ 1 ∧ t < t1) := by show _ ∧ _; omega
        obtain ⟨cc, hcc⟩ : ∃ cc, cc = cl * 1 + (1 - t1) := ⟨_, rfl⟩
        rw [show cl * 1 + (1 - t) = cc + 1 from by omega] at hinv
        have HCC := Lib.hid hcc
        obtain ⟨acc, v, hib, hbx, hown, hbw, hzr3, hlq, hqn, hres⟩ := hinv
        have HIB := Lib.hid hib
        have HBX := Lib.hid hbx
        have HO := Lib.hid hown
        have HBR := Lib.hid hbw
        have HLQ := Lib.hid hlq
        have HQN := Lib.hid hqn
        have HRS := Lib.hid hres
        have HZR := Lib.hid hzr3
        have hrdw : RdB wr (some ⟨b, o, none⟩) n bs := h0b.out.keep hbw
        have C1 := Lib.hid (CRD.out wr q hrdw hqn)
        have HMO1 := Lib.hid (fun x q2 => HMO.out q x q2 hqn)
        have HFN1 := Lib.hid (fun x a => HFN.out.1 q x a hqn)
        have HFN2 := Lib.hid (fun x q2 => HFN.out.2 q x q2 hqn)
        obtain ⟨R2, hR2⟩ : ∃ x, x = rd q := ⟨_, rfl⟩
        rw [← hR2] at C1 HMO1 HFN1 HFN2
        have HR2 := Lib.hid hR2
        clear hib hbx hown hbw hlq hqn hres hrdw CRD HMO HFN ht hte ht1 hcc hR2
        go_wp2_with fail
        refine C1.out.mono ?_
        rintro ee w2' ⟨hb2, hres⟩
        have HB2 := Lib.hid hb2
        have hz2 : w.heap.size + 3 ≤ w2'.heap.size := by have := hb2.size; omega
        clear hb2 C1
        cases R2 with
        | error xa =>
          obtain ⟨x, a⟩ := xa
          have hfn := HFN1.out x a rfl
          subst hres
          have b2 : ((x : Int) != 0) = true := by simp; omega
          have HR : Hid (R = .error (x, a)) := HRS.out.trans (wrapK_err HR2.out.symm)
          clear HFN1 HMO1 HFN2 hfn
          go_upto_region 54 with fail
          obtain ⟨w3, hw3⟩ : ∃ W, W = (w2'.alloc (.cells #[.int .i64 0, .int .u64 0, .slice none 0 0, .string ⟨#[]⟩, .slice none 0 0] 26)).alloc (.cells #[.int .i64 (x : Nat), .int .i64 (a : Nat), .slice none 0 0] 35) := ⟨_, rfl⟩
          rw [← hw3]
          have hb3 : Below w2'.heap.size w2' w3 := by rw [hw3]; exact ((Below.refl _ _).alloc (Nat.le_refl _) _).alloc (by simp) _
          obtain ⟨g12, hg12⟩ : ∃ g, g = w2'.heap.size := ⟨_, rfl⟩
          have t0 : w3.cell? ⟨g12 + 1, 0, none⟩ = some (.int .i64 (x : Nat)) := by rw [hw3, hg12]; simp [go_sem]
          have t1' : w3.cell? ⟨g12 + 1, 1, none⟩ = some (.int .i64 (a : Nat)) := by rw [hw3, hg12]; simp [go_sem]
          have t2 : w3.cell? ⟨g12 + 1, 2, none⟩ = some (.slice none 0 0) := by rw [hw3, hg12]; simp [go_sem]
          obtain ⟨⟨h0, h1, h2, h3, h4⟩, ⟨f0, f1, f2, f3, f4⟩, ⟨k0, k1, k2⟩, ⟨l0, l1, l2⟩⟩ := (HBX.out.keep HB2.out).keep hb3
          have HB3 : Hid (Below w.heap.size w w3) := (HBR.out.trans (HB2.out.mono HBR.out.size)).trans (hb3.mono (by omega))
          have hz3 : w.heap.size + 3 ≤ w3.heap.size := by have := hb3.size; omega
          rw [← hg12] at hz2 ⊢
          have n1 : ¬ w.heap.size = g12 + 1 := by omega
          have m1 : ¬ g12 + 1 = w.heap.size := by omega
          have n2 : ¬ w.heap.size + 1 = g12 + 1 := by omega
          have m2 : ¬ g12 + 1 = w.heap.size + 1 := by omega
          clear hw3 hg12 hb3
          go_wp2_with fail
          go_region_held3 (fun W => W.cell? ⟨g12 + 1, 0, none⟩ = some (.int .i64 (x : Nat)) ∧ W.cell? ⟨g12 + 1, 1, none⟩ = some (.int .i64 (a : Nat)) ∧ W.cell? ⟨g12 + 1, 2, none⟩ = some (.slice none 0 0)) (first | (simp [go_sem, *]; done) | go_keep) (fail)
          all_goals
            (repeat (first | go_values | go_skip | go_guarded | go_step | go_upon | (go_simp; go_at_K)))
            refine bodyPost_ret (v := .tuple #[zIt, .int .i64 0, fltV x a]) (by simp [results, Try.results34, go_sem, *]) rfl ?_
            rw [HR.out]
            refine rread_err ?_
            (repeat' (first | with_reducible exact HB3.out | with_reducible apply Below.drew | with_reducible refine Below.alloc ?_ (by first | omega | (simp; done) | (simp; omega)) _ | with_reducible refine Below.setCell ?_ (by first | (simp; done) | (simp only []; omega)) _))
        | ok xq =>
          obtain ⟨x, q2⟩ := xq
          obtain ⟨cx, rfl, hrx⟩ := hres
          have HRX := Lib.hid hrx
          have HQQ := Lib.hid (HMO1.out x q2 rfl)
          have HQ2 := Lib.hid (HFN2.out x q2 rfl)
          obtain ⟨ki, ni, ab, nb, cb, text, ak, nk, ck, rfl⟩ := hrx.shape
          clear HFN1 HMO1 HFN2 hrx
          go_upto_region 54 with fail
          obtain ⟨w3, hw3⟩ : ∃ W, W = (w2'.alloc (.cells #[.int .i64 ki, .int .u64 (ni : Nat), .slice ab nb cb, .string text, .slice ak nk ck] 26)).alloc (.cells #[.int .i64 0, .int .i64 0, .slice none 0 0] 35) := ⟨_, rfl⟩
          rw [← hw3]
          have hb3 : Below w2'.heap.size w2' w3 := by rw [hw3]; exact ((Below.refl _ _).alloc (Nat.le_refl _) _).alloc (by simp) _
          obtain ⟨g12, hg12⟩ : ∃ g, g = w2'.heap.size := ⟨_, rfl⟩
          have t0 : w3.cell? ⟨g12, 0, none⟩ = some (.int .i64 ki) := by rw [hw3, hg12]; simp [go_sem]
          have t1' : w3.cell? ⟨g12, 1, none⟩ = some (.int .u64 (ni : Nat)) := by rw [hw3, hg12]; simp [go_sem]
          have t2 : w3.cell? ⟨g12, 2, none⟩ = some (.slice ab nb cb) := by rw [hw3, hg12]; simp [go_sem]
          have t3 : w3.cell? ⟨g12, 3, none⟩ = some (.string text) := by rw [hw3, hg12]; simp [go_sem]
          have t4 : w3.cell? ⟨g12, 4, none⟩ = some (.slice ak nk ck) := by rw [hw3, hg12]; simp [go_sem]
          have e0 : w3.cell? ⟨g12 + 1, 0, none⟩ = some (.int .i64 0) := by rw [hw3, hg12]; simp [go_sem]
          have HB3 : Hid (Below wr.heap.size wr w3) := HB2.out.trans (hb3.mono HB2.out.size)
          have HG3 : Hid (w3.heap.size = g12 + 2) := by show _ = _; rw [hw3, hg12]; simp
          obtain ⟨⟨i0, i1, i2, i3, i4⟩, ⟨j0, j1', j2, j3, j4⟩⟩ := HIB.out.keep HB3.out
          have HO3 : Hid (OwnI w3 (w.heap.size + 3) (fun k => w.heap.size + 3 ≤ k) v acc) := HO.out.keep HB3.out
          have HFAR : Hid (∀ i, v.ownBlock = some i → w.heap.size + 3 ≤ i ∧ i < wr.heap.size) := Lib.hid (fun i hi => HO.out.far i hi)
          have HRX3 : Hid (RdIt (fun k => wr.heap.size ≤ k ∧ k < w3.heap.size) w3 x #[.int .i64 ki, .int .u64 (ni : Nat), .slice ab nb cb, .string text, .slice ak nk ck]) := by
            refine Lib.hid ((HRX.out.imp (S' := fun k => wr.heap.size ≤ k ∧ k < w3.heap.size) (fun k hk h => ⟨h, ?_⟩)).below hb3)
            have := hb3.size; omega
          rw [← hg12] at hz2 ⊢
          have q0' : w.heap.size + 2 < w3.heap.size := by have := HG3.out; omega
          have q1' : g12 < w3.heap.size := by have := HG3.out; omega
          have q2' : g12 + 1 < w3.heap.size := by have := HG3.out; omega
          have HQ0 := Lib.hid q0'
          clear hw3 hg12 hb3
          have hln : acc.len + 1 ≤ 1000000000 := by have := HLQ.out; have := HQN.out; omega
          go_wp2_with (at_builtin; refine wpList_appI (v := v) (f := acc) (g := .cons x .nil) (B := w.heap.size + 3) (L := fun k => w.heap.size + 3 ≤ k) (S1 := fun k => wr.heap.size ≤ k ∧ k < w3.heap.size) (sv := .slice (some ⟨w3.heap.size, 0, none⟩) 1 1) (by rfl) _ _ (by rfl) (by rfl) ?oO (by rfl) ?oS ?oL ?oB ?oH ?_)
          case oO => exact HO3.out.keep ((Below.refl _ _).alloc (Nat.le_refl _) _)
          case oS =>
            refine SrcI.one (c := #[.int .i64 ki, .int .u64 (ni : Nat), .slice ab nb cb, .string text, .slice ak nk ck]) ?_ ?_
            · exact HRX3.out.below ((Below.refl _ _).alloc (Nat.le_refl _) _)
            · intro j u hj
              match j with
              | 0 => simp at hj; subst hj; simp [go_sem]
              | 1 => simp at hj; subst hj; simp [go_sem]
              | 2 => simp at hj; subst hj; simp [go_sem]
              | 3 => simp at hj; subst hj; simp [go_sem]
              | 4 => simp at hj; subst hj; simp [go_sem]
              | j + 5 => simp at hj
          case oL => exact fun k hk => ⟨by have := HZR.out; have := hk.1; omega, fun e => by have := (HFAR.out k e).2; have := hk.1; omega⟩
          case oB => simp only [IL.len]; omega
          case oH => have := HQ0.out; simp; omega
          intro v4 w4 ho4 ha4
          have HO4 := Lib.hid ho4
          have HA4 := Lib.hid ha4
          have HB34 : Hid (Below wr.heap.size wr (w3.alloc (.cells #[.int .i64 ki, .int .u64 (ni : Nat), .slice ab nb cb, .string text, .slice ak nk ck] 26))) := HB3.out.trans (((Below.refl _ w3).alloc (Nat.le_refl _) _).mono HB3.out.size)
          have hx4 : Chg (fun i => v.ownBlock = some i) w3 w4 := Chg.trans ((Chg.refl _ _).alloc _) ha4.chg (fun i hi e => e)
          have nv' : ¬ v.ownBlock = some (w.heap.size + 2) := fun e => by have := (HFAR.out _ e).1; omega
          have y4 : w4.cell? ⟨w.heap.size + 2, 4, none⟩ = some v := hx4.cell (p := ⟨w.heap.size + 2, 4, none⟩) nv' i4
          have y5 : w4.frozen? ⟨w.heap.size + 2, 4, none⟩ = false := by rw [hx4.frozen (p := ⟨w.heap.size + 2, 4, none⟩) nv' HQ0.out]; exact j4
          obtain ⟨a4, c4, e4, -⟩ := ho4.reads (fun k h => h)
          obtain ⟨m4, hm4⟩ : ∃ m, m = (acc.append (.cons x .nil)).len := ⟨_, rfl⟩
          rw [← hm4] at e4
          subst e4
          clear ho4 ha4 hx4 i0 i1 i2 i3 i4 j0 j1' j2 j3 j4 t0 t1' t2 t3 t4 e0 q0' q1' q2' nv' hm4
          go_wp2_with fail
          go_roundw
          case rel =>
            have hkn := RInv.next (n := n) HIB.out HBX.out HO.out HBR.out HZR.out HLQ.out HRS.out HR2.out.symm HQQ.out HQ2.out HB34.out HO4.out HA4.out
            rw [HCC.out] at hkn
            exact ⟨t1, q2, rfl, rfl, HT1.out.1, hkn⟩
          case measure => have := HT1.out; simp only [intOf]; omega

set_option maxRecDepth 100000 in
set_option maxHeartbeats 8000000 in
theorem rread_C5 (d : Nat) (hof : RReadSaid d) (a : Option Addr) (n cp : Nat) (bs : List UInt8) (p wi dp : Nat) (w : World) (h : RdB w a n bs) (hn9 : n ≤ 1000000) (hcp : n ≤ cp) (hpn : p ≤ n) (hd : dp = wi + (d + 1)) (hd9 : dp ≤ 1000) (hlen : ¬ n ≤ p) (m low : Nat) (hm : m = bAt bs p / 32) (hlw : low = bAt bs p % 32) (h27 : ¬ 27 < low) (hsh : ¬ n < p + 1 + sizeL low) (h24 : 24 ≤ low) (hmv : m = 5) (hnd : needN (numL bs p low) = wideB low) :
    Calls Try.prog 34 #[.slice a n cp, .int .i64 (p : Nat), .int .i64 (wi : Nat), .int .i64 (dp : Nat)] w (RReadO w (readQ bs (d + 1) p)) := by
  obtain ⟨wa, hwa⟩ : ∃ W, W = ((w.alloc (.cells #[.int .i64 0, .int .u64 0, .slice none 0 0, .string ⟨#[]⟩, .slice none 0 0] 26)).alloc (.cells #[.int .i64 0, .int .i64 0, .slice none 0 0] 35)).alloc (.cells #[.int .i64 0, .int .u64 0, .slice none 0 0, .string ⟨#[]⟩, .slice none 0 0] 26) := ⟨_, rfl⟩
  have hba : Below w.heap.size w wa := by
    rw [hwa]
    exact (((Below.refl _ _).alloc (Nat.le_refl _) _).alloc (by simp) _).alloc (by simp; omega) _
  have hbx : RBx wa w.heap.size (w.heap.size + 1) ∧ IBx wa (w.heap.size + 2) 0 0 (.slice none 0 0) ⟨#[]⟩ (.slice none 0 0) := by rw [hwa]; exact three _ _ _
  have hz : wa.heap.size = w.heap.size + 3 := by rw [hwa]; simp
  have HX := Lib.hid hbx.1
  have HI := Lib.hid hbx.2
  have HZ := Lib.hid hz
  have HRD := Lib.hid (h.keep hba)
  have HBA := Lib.hid hba
  have HBW := Lib.hid hba
  have hbl : bs.length = n := h.1
  have hzr : 0 < wa.heap.size := by omega
  obtain ⟨R, hR⟩ : ∃ R, R = readQ bs (d + 1) p := ⟨_, rfl⟩
  rw [← hR]
  rw [readQ, hbl] at hR
  have d1 : decide ((dp : Int) ≤ (wi : Int)) = false := by simp; omega
  have d2 : decide (dp ≤ wi) = false := by simp; omega
  have wwi : IntKind.i64.wrap ((wi : Int) + 1) = ((wi + 1 : Nat) : Int) := (IntWalk.i64_in _ (by omega)).trans (by omega)
  have CRD : Hid (∀ W q, RdB W a n bs → q ≤ n → Calls Try.prog 34 #[.slice a n cp, .int .i64 (q : Nat), .int .i64 ((wi + 1 : Nat) : Int), .int .i64 (dp : Nat)] W (RReadO W (readQ bs d q))) := Lib.hid (fun W q hW hq => hof a n cp bs q (wi + 1) dp W hW hn9 hcp hq (by omega) hd9)
  obtain ⟨wj, hwj⟩ : ∃ x, x = wi + 1 := ⟨_, rfl⟩
  rw [← hwj] at wwi CRD
  clear hwj hof
  have h0b := Lib.hid h
  rw [if_neg hlen] at hR
  have dl : decide ((n : Int) ≤ (p : Int)) = false := by simp; omega
  have dl2 : decide (n ≤ p) = false := by simp; omega
  have hpl : p < n := by omega
  obtain ⟨b, o, rfl, hat⟩ := HRD.out.at p hpl
  have hc9 := bAt_lt bs p
  obtain ⟨c, hc⟩ : ∃ c, c = bAt bs p := ⟨_, rfl⟩
  rw [← hc] at hat hc9 hR hm hlw
  have wq : (c : Int).tdiv 32 = (m : Int) := by rw [Int.tdiv_eq_ediv_of_nonneg (by omega)]; omega
  have wr : (c : Int).tmod 32 = (low : Int) := by rw [Int.tmod_eq_emod_of_nonneg (by omega)]; omega
  have wq8 : IntKind.u8.wrap (m : Int) = (m : Int) := IntWalk.u8_in _ (by omega)
  have wr8 : IntKind.u8.wrap (low : Int) = (low : Int) := IntWalk.u8_in _ (by omega)
  have wq2 : IntKind.i64.wrap (m : Int) = (m : Int) := IntWalk.i64_in _ (by omega)
  have wr2 : IntKind.i64.wrap (low : Int) = (low : Int) := IntWalk.i64_in _ (by omega)
  have hm7 : m ≤ 7 := by omega
  rw [← hm, ← hlw] at hR
  have ip0 : (0 : Int) ≤ (p : Int) := by omega
  have ip1 : (p : Int) < (n : Int) := by omega
  clear hc hm hlw hc9 hlen
  rw [if_neg h27] at hR
  have g1 : decide ((27 : Int) < (low : Int)) = false := by simp; omega
  have g1n : decide (27 < low) = false := by simp; omega
  obtain ⟨x1, hx1⟩ : ∃ x, x = n - p := ⟨_, rfl⟩
  obtain ⟨x2, hx2⟩ : ∃ x, x = n - p - 1 := ⟨_, rfl⟩
  have wx1 : IntKind.i64.wrap ((n : Int) - (p : Int)) = (x1 : Int) := (IntWalk.i64_in _ (by omega)).trans (by omega)
  have wx2 : IntKind.i64.wrap ((x1 : Int) - 1) = (x2 : Int) := (IntWalk.i64_in _ (by omega)).trans (by omega)
  have q1 : decide ((24 : Int) ≤ (low : Int)) = true := by simp; omega
  have q1n : decide (24 ≤ low) = true := by simp; omega
  have e1 : sizeL low = wideB low := if_neg (by omega)
  rw [e1] at hR hsh
  obtain ⟨sh, hsh2⟩ : ∃ k, k = low - 24 := ⟨_, rfl⟩
  obtain ⟨Wd, hWd⟩ : ∃ k, k = wideB low := ⟨_, rfl⟩
  have wsh : IntKind.i64.wrap ((low : Int) - 24) = (sh : Int) := (IntWalk.i64_in _ (by omega)).trans (by omega)
  have wsu : IntKind.u64.wrap (sh : Int) = (sh : Int) := IntWalk.u64_in _ (by omega)
  have hpw : (2 : Int) ^ sh = (Wd : Int) := by
    rw [hWd, hsh2]
    have : low = 24 ∨ low = 25 ∨ low = 26 ∨ low = 27 := by omega
    rcases this with rfl | rfl | rfl | rfl <;> rfl
  have hW8 : Wd ≤ 8 := by rw [hWd]; exact (wideB_le _).2
  have hW1 : 1 ≤ Wd := by rw [hWd]; exact (wideB_le _).1
  have wW : IntKind.i64.wrap (Wd : Int) = (Wd : Int) := IntWalk.i64_in _ (by omega)
  have ws4' : wrap64 (Wd : Int) = (Wd : Int) := by unfold wrap64; omega
  have ws0 : (0 : Int) ≤ (sh : Int) := by omega
  have hms : min sh 64 = sh := by omega
  have HWS : Hid (IntKind.i64.wrap (1 * 2 ^ sh) = (Wd : Int) ∧ IntKind.i64.wrap (2 ^ sh) = (Wd : Int) ∧ wrap64 (2 ^ min sh 64) = (Wd : Int)) := Lib.hid ⟨by rw [Int.one_mul, hpw]; exact wW, by rw [hpw]; exact wW, by rw [hms, hpw]; exact ws4'⟩
  clear hpw hms ws4'
  have ws3 : decide ((sh : Int) < 0) = false := by simp
  rw [← hWd] at hR hsh
  rw [if_neg hsh] at hR
  have q3 : decide ((x2 : Int) < (Wd : Int)) = false := by simp; omega
  have q3n : decide (x2 < Wd) = false := by simp; omega
  have q4 : decide ((0 : Int) < (Wd : Int)) = true := by simp; omega
  have q4n : decide (0 < Wd) = true := by simp; omega
  have en : numL bs p low = be (seg bs (p + 1) Wd) := by rw [hWd]; exact if_neg (by omega)
  have CN := Lib.hid (fun W hW => high_yes (some ⟨b, o, none⟩) n cp (p + 1) Wd W bs hW (by omega) hW1 hW8)
  rw [← en] at CN
  have hnv9 : numL bs p low < okSize := numL_lt bs p low (by omega) (by rw [e1, ← hWd, hbl]; omega)
  obtain ⟨nv, hnv⟩ : ∃ x, x = numL bs p low := ⟨_, rfl⟩
  rw [← hnv] at CN hnv9 hR hnd
  obtain ⟨p1, hp1⟩ : ∃ x, x = p + 1 := ⟨_, rfl⟩
  have wp1 : IntKind.i64.wrap ((p : Int) + 1) = (p1 : Int) := (IntWalk.i64_in _ (by omega)).trans (by omega)
  rw [← hp1] at CN hR
  obtain ⟨q, hq⟩ : ∃ q, q = p1 + Wd := ⟨_, rfl⟩
  have wp2 : IntKind.i64.wrap ((p1 : Int) + (Wd : Int)) = (q : Int) := (IntWalk.i64_in _ (by omega)).trans (by omega)
  have wlw : IntKind.u64.wrap (low : Int) = (low : Int) := IntWalk.u64_in _ (by omega)
  rw [← hq] at hR
  have hqn : q ≤ n := by omega
  have HWd := Lib.hid hWd
  have HND : Hid (needN nv = Wd) := hnd.trans HWd.out.symm
  clear hsh hx1 hx2 e1 en hnv hq hp1 hsh2 hWd
  obtain ⟨rd, hrd⟩ : ∃ f, f = readQ bs d := ⟨_, rfl⟩
  rw [← hrd] at hR
  have HMO : Hid (∀ q x q2, q ≤ n → rd q = .ok (x, q2) → q < q2) := by
    show ∀ q x q2, _
    intro q x q2 hq hh
    rw [hrd] at hh
    exact readQ_more bs d q x q2 (by rw [hbl]; exact hq) hh
  have HFN : Hid ((∀ q x a, q ≤ n → rd q = .error (x, a) → (1 ≤ x ∧ x ≤ 10) ∧ a ≤ n) ∧ (∀ q x q2, q ≤ n → rd q = .ok (x, q2) → q2 ≤ n)) := by
    show _ ∧ _
    refine ⟨fun q x a hq hh => ?_, fun q x q2 hq hh => ?_⟩
    · rw [hrd] at hh
      have := readQ_fine bs d q (by rw [hbl]; exact hq)
      rw [hh] at this
      exact ⟨this.1, by have := this.2.1; omega⟩
    · rw [hrd] at hh
      have := readQ_fine bs d q (by rw [hbl]; exact hq)
      rw [hh] at this
      have := this.2
      omega
  rw [← hrd] at CRD
  have HR0 : Hid (R = wrapK 6 0 .nil (kidsW rd (nv * 2) q)) := by
    show _ = _
    rw [hR]; unfold behQ; rw [if_neg (by omega), if_neg (fun h => h.2 hnd), if_neg (by omega), if_neg (by omega), if_neg (by omega), if_neg (by omega), if_pos (by omega)]
    rw [← wrapK_nil]
  obtain ⟨hl2, hhl2⟩ : ∃ x, x = (headB m nv).length := ⟨_, rfl⟩
  have HLN : Hid ((headB m nv).length = hl2) := hhl2.symm
  rw [headB_len, HND.out] at hhl2
  have w1W : IntKind.i64.wrap (1 + (Wd : Int)) = (hl2 : Int) := (IntWalk.i64_in _ (by omega)).trans (by omega)
  have hln : ((hl2 : Int) != (hl2 : Int)) = false := by simp
  clear hhl2
  subst hmv
  have CH := Lib.hid (fun W => rhead_calls (5 : Nat) 5 rfl (by omega) nv hnv9 W)
  clear hrd
  clear hR h24 hnd
  obtain ⟨⟨h0, h1, h2, h3, h4⟩, ⟨f0, f1, f2, f3, f4⟩, ⟨k0, k1, k2⟩, ⟨l0, l1, l2⟩⟩ := HX.out
  obtain ⟨⟨i0, i1, i2, i3, i4⟩, ⟨j0, j1, j2, j3, j4⟩⟩ := HI.out
  clear h hba hbx hz hd hd9 hcp
  obtain ⟨ws1, ws2, ws4⟩ := HWS.out
  go_enter Try.func34, Try.ntmps34
  go_upto_region 2 with fail
  rw [← hwa]
  clear hwa
  go_wp2_with fail
  go_quiet (fail)
  obtain ⟨wb, hwb⟩ : ∃ W, W = wa.drewN nq := ⟨_, rfl⟩
  have hbb : Below wa.heap.size wa wb := by rw [hwb]; exact below_drewN wa nq wa.heap.size
  rw [← hwb]
  clear hwb
  have HBB := Lib.hid hbb
  have HBW := Lib.hid (HBA.out.trans (hbb.mono HBA.out.size))
  have hzb : w.heap.size + 3 ≤ wb.heap.size := by have := hbb.size; have := HZ.out; omega
  clear hbb h0 h1 h2 h3 h4 f0 f1 f2 f3 f4 k0 k1 k2 l0 l1 l2 i0 i1 i2 i3 i4 j0 j1 j2 j3 j4 hat
  obtain ⟨⟨h0, h1, h2, h3, h4⟩, ⟨f0, f1, f2, f3, f4⟩, ⟨k0, k1, k2⟩, ⟨l0, l1, l2⟩⟩ := HX.out.keep HBB.out
  obtain ⟨⟨i0, i1, i2, i3, i4⟩, ⟨j0, j1, j2, j3, j4⟩⟩ := HI.out.keep HBB.out
  go_wp2_with fail
  refine (CN.out wb (HRD.out.keep HBB.out)).mono ?_
  rintro e w1 ⟨rfl, rfl⟩
  go_wp2_with fail
  refine (CH.out _).mono ?_
  rintro e w2 ⟨v2, rfl, hst⟩
  obtain ⟨a2, c2, rfl, hr2⟩ := hst.1.reads
  rw [HLN.out] at hst hr2 ⊢
  have HB2 := Lib.hid (HBB.out.trans (hst.2.mono HBB.out.size))
  have HBW := Lib.hid (HBA.out.trans (HB2.out.mono HBA.out.size))
  have hzr2 : w.heap.size + 3 ≤ w2.heap.size := by have := HB2.out.size; have := HZ.out; omega
  clear h0 h1 h2 h3 h4 f0 f1 f2 f3 f4 k0 k1 k2 l0 l1 l2 i0 i1 i2 i3 i4 j0 j1 j2 j3 j4 hzb
  obtain ⟨⟨h0, h1, h2, h3, h4⟩, ⟨f0, f1, f2, f3, f4⟩, ⟨k0, k1, k2⟩, ⟨l0, l1, l2⟩⟩ := HX.out.keep HB2.out
  have HI2 := Lib.hid (HI.out.keep HB2.out)
  obtain ⟨⟨i0, i1, i2, i3, i4⟩, ⟨j0, j1, j2, j3, j4⟩⟩ := HI2.out
  have HRD2 := Lib.hid (HRD.out.keep HB2.out)
  clear hst hr2 CH HLN
  go_upto_region 48 with fail
  obtain ⟨wz, hwz⟩ : ∃ W, W = w2.setCell ⟨w.heap.size + 2, 0, none⟩ (.int .i64 6) := ⟨_, rfl⟩
  rw [← hwz]
  have hiz : IBx wz (w.heap.size + 2) 6 0 (.slice none 0 0) ⟨#[]⟩ (.slice none 0 0) := by rw [hwz]; exact HI2.out.set0
  have hcz : Chg (fun i => i = w.heap.size + 2) w2 wz := by
    rw [hwz]
    have hX : (fun i => i = w.heap.size + 2) (w.heap.size + 2) := rfl
    (repeat' (first | with_reducible exact Chg.refl _ _ | refine Chg.setCell ?_ (fun _ => hX) _))
  clear hwz
  have H0 : Hid (RInv w n 6 0 rd R (nv * 2) q wz) := by
    refine Lib.hid ⟨.nil, .slice none 0 0, hiz, (HX.out.keep HB2.out).chg hcz (by omega) (by omega), OwnI.nil _ _ _, HBW.out.trans (hcz.below (B := w.heap.size) (by omega) (fun i e => by omega)), by have := hcz.size; omega, by simp [IL.len], hqn, HR0.out⟩
  have hb9 : b < w.heap.size := by
    obtain ⟨bb, oo, e, hcc⟩ := h0b.out.at p hpl
    obtain ⟨rfl, -⟩ : bb = b ∧ oo = o := by simpa using (Option.some.inj e).symm
    simpa using cell_block hcc
  clear hcz hiz h0 h1 h2 h3 h4 f0 f1 f2 f3 f4 k0 k1 k2 l0 l1 l2 i0 i1 i2 i3 i4 j0 j1 j2 j3 j4 HI2 HB2 HX HR0 HRD2 HRD hb9 hqn
  clear d1 d2 dl dl2 g1 g1n wx1 wx2 q1 q1n q3 wp1 wp2 wr8 wr2 wr ip0 ip1 hm7 HBB hln HND q3n q4 q4n wlw w1W wsh wsu hW8 hW1 wW ws0 ws1 ws2 ws3 ws4 HWS CN HWd
  go_loopw [16, 19] (fun nx i wr => ∃ j q : Nat, nx = .int .i64 (q : Nat) ∧ i = .int .u64 (j : Nat) ∧ j ≤ nv ∧ RInv w n 6 0 rd R ((nv - j) * 2) q wr) (fun _ i _ => nv - (intOf i).toNat)
  case atStart => exact ⟨0, q, rfl, rfl, Nat.zero_le _, by rw [Nat.sub_zero]; exact H0.out⟩
  case round =>
    obtain ⟨j, q, rfl, rfl, hjm, hinv⟩ := hrel
    have HI := Lib.hid hinv
    clear hinv H0
    by_cases hj0 : j = nv
    · have dc : decide ((j : Int) < (nv : Nat)) = false := by simp; omega
      have dc2 : decide (j < nv) = false := by simp; omega
      obtain ⟨acc, v, hib, hbx, hown, hbw, hzr3, hlq, hqn, hres⟩ := HI.out
      rw [show (nv - j) * 2 = 0 from by rw [hj0, Nat.sub_self, Nat.zero_mul], wrapK_end] at hres
      have HN := Lib.hid hres
      have HO := Lib.hid hown
      have HBR := Lib.hid hbw
      obtain ⟨a9, c9, rfl, -⟩ := hown.reads (fun k h => h)
      obtain ⟨m9, hm9⟩ : ∃ m, m = acc.len := ⟨_, rfl⟩
      rw [← hm9] at HO hib
      obtain ⟨⟨i0, i1, i2, i3, i4⟩, ⟨j0, j1, j2, j3, j4⟩⟩ := hib
      obtain ⟨⟨h0, h1, h2, h3, h4⟩, ⟨f0, f1, f2, f3, f4⟩, ⟨k0, k1, k2⟩, ⟨l0, l1, l2⟩⟩ := hbx
      clear hj0 hres hown hbw hlq HI CRD HMO HFN hm9 hjm
      (repeat (first | go_values | go_skip | go_guarded | go_step | go_upon | (go_simp; go_at_K)))
      refine bodyPost_ret (v := .tuple #[.agg #[.int .i64 6, .int .u64 0, .slice none 0 0, .string ⟨#[]⟩, .slice a9 m9 c9], .int .i64 (q : Nat), fltV 0 0]) (by simp [results, Try.results34, go_sem, *]) rfl ?_
      rw [HN.out]
      refine rkids_fin (wr := wr) (n := n) HO.out HBR.out hzr3 ⟨by omega, by omega⟩ (by decide) ?_
      (repeat' (first | with_reducible exact Chg.refl _ _ | with_reducible apply Chg.drew | with_reducible refine Chg.alloc ?_ _ | with_reducible refine Chg.setCell ?_ (fun h => ?_) _))
      all_goals (dsimp only; omega)
    · have dc : decide ((j : Int) < (nv : Nat)) = true := by simp; omega
      have dc2 : decide (j < nv) = true := by simp; omega
      obtain ⟨j1, hj1⟩ : ∃ x, x = j + 1 := ⟨_, rfl⟩
      have wc : IntKind.u64.wrap ((j : Int) + 1) = (j1 : Int) := (IntWalk.u64_in _ (by unfold okSize at hnv9; omega)).trans (by omega)
      obtain ⟨cl, hcl⟩ : ∃ x, x = nv - j1 := ⟨_, rfl⟩
      have H1 : Hid (RInv w n 6 0 rd R (cl * 2 + (2 - 0)) q wr) := by
        have := HI.out
        rw [show (nv - j) * 2 = cl * 2 + (2 - 0) from by rw [show nv - j = cl + 1 from by omega, Nat.add_mul]] at this
        exact Lib.hid this
      have HJ : Hid (j < j1 ∧ j1 ≤ nv ∧ nv - j1 = cl) := by show _ ∧ _ ∧ _; omega
      obtain ⟨wo, rfl⟩ : ∃ wo : World, wo = wr := ⟨_, rfl⟩
      clear HI hj0 hjm hcl hj1
      go_wp2_with fail
      go_loopw [16, 20] (fun nx i wr => ∃ t q : Nat, nx = .int .i64 (q : Nat) ∧ i = .int .i64 (t : Nat) ∧ t ≤ 2 ∧ RInv w n 6 0 rd R (cl * 2 + (2 - t)) q wr) (fun _ i _ => 2 - (intOf i).toNat)
      case atStart => exact ⟨0, q, rfl, rfl, Nat.zero_le _, H1.out⟩
      case round =>
        obtain ⟨t, q, rfl, rfl, hte, hinv⟩ := hrel
        clear H1
        by_cases ht : t < 2
        case neg =>
          have dj : decide ((t : Int) < 2) = false := by simp; omega
          have dj2 : decide (t < 2) = false := by simp; omega
          have H2 : Hid (RInv w n 6 0 rd R (cl * 2) q wr) := by
            rw [show cl * 2 + (2 - t) = cl * 2 from by omega] at hinv
            exact Lib.hid hinv
          clear hinv ht hte
          go_wp2_with fail
          go_roundw
          case rel => exact ⟨j1, q, rfl, rfl, HJ.out.2.1, by rw [HJ.out.2.2]; exact H2.out⟩
          case measure => have := HJ.out; simp only [intOf]; omega
        have dj : decide ((t : Int) < 2) = true := by simp; omega
        have dj2 : decide (t < 2) = true := by simp; omega
        have wj : IntKind.i64.wrap ((t : Int) + 1) = ((t + 1 : Nat) : Int) := (IntWalk.i64_in _ (by omega)).trans (by omega)
        obtain ⟨t1, ht1⟩ : ∃ t1, t1 = t + 1 := ⟨_, rfl⟩
        rw [← ht1] at wj
        have HT1 : Hid (t1 ≤ 2 ∧ t < t1) := by show _ ∧ _; omega
        obtain ⟨cc, hcc⟩ : ∃ cc, cc = cl * 2 + (2 - t1) := ⟨_, rfl⟩
        rw [show cl * 2 + (2 - t) = cc + 1 from by omega] at hinv
        have HCC := Lib.hid hcc
        obtain ⟨acc, v, hib, hbx, hown, hbw, hzr3, hlq, hqn, hres⟩ := hinv
        have HIB := Lib.hid hib
        have HBX := Lib.hid hbx
        have HO := Lib.hid hown
        have HBR := Lib.hid hbw
        have HLQ := Lib.hid hlq
        have HQN := Lib.hid hqn
        have HRS := Lib.hid hres
        have HZR := Lib.hid hzr3
        have hrdw : RdB wr (some ⟨b, o, none⟩) n bs := h0b.out.keep hbw
        have C1 := Lib.hid (CRD.out wr q hrdw hqn)
        have HMO1 := Lib.hid (fun x q2 => HMO.out q x q2 hqn)
        have HFN1 := Lib.hid (fun x a => HFN.out.1 q x a hqn)
        have HFN2 := Lib.hid (fun x q2 => HFN.out.2 q x q2 hqn)
        obtain ⟨R2, hR2⟩ : ∃ x, x = rd q := ⟨_, rfl⟩
        rw [← hR2] at C1 HMO1 HFN1 HFN2
        have HR2 := Lib.hid hR2
        clear hib hbx hown hbw hlq hqn hres hrdw CRD HMO HFN ht hte ht1 hcc hR2
        go_wp2_with fail
        refine C1.out.mono ?_
        rintro ee w2' ⟨hb2, hres⟩
        have HB2 := Lib.hid hb2
        have hz2 : w.heap.size + 3 ≤ w2'.heap.size := by have := hb2.size; omega
        clear hb2 C1
        cases R2 with
        | error xa =>
          obtain ⟨x, a⟩ := xa
          have hfn := HFN1.out x a rfl
          subst hres
          have b2 : ((x : Int) != 0) = true := by simp; omega
          have HR : Hid (R = .error (x, a)) := HRS.out.trans (wrapK_err HR2.out.symm)
          clear HFN1 HMO1 HFN2 hfn
          go_upto_region 54 with fail
          obtain ⟨w3, hw3⟩ : ∃ W, W = (w2'.alloc (.cells #[.int .i64 0, .int .u64 0, .slice none 0 0, .string ⟨#[]⟩, .slice none 0 0] 26)).alloc (.cells #[.int .i64 (x : Nat), .int .i64 (a : Nat), .slice none 0 0] 35) := ⟨_, rfl⟩
          rw [← hw3]
          have hb3 : Below w2'.heap.size w2' w3 := by rw [hw3]; exact ((Below.refl _ _).alloc (Nat.le_refl _) _).alloc (by simp) _
          obtain ⟨g12, hg12⟩ : ∃ g, g = w2'.heap.size := ⟨_, rfl⟩
          have t0 : w3.cell? ⟨g12 + 1, 0, none⟩ = some (.int .i64 (x : Nat)) := by rw [hw3, hg12]; simp [go_sem]
          have t1' : w3.cell? ⟨g12 + 1, 1, none⟩ = some (.int .i64 (a : Nat)) := by rw [hw3, hg12]; simp [go_sem]
          have t2 : w3.cell? ⟨g12 + 1, 2, none⟩ = some (.slice none 0 0) := by rw [hw3, hg12]; simp [go_sem]
          obtain ⟨⟨h0, h1, h2, h3, h4⟩, ⟨f0, f1, f2, f3, f4⟩, ⟨k0, k1, k2⟩, ⟨l0, l1, l2⟩⟩ := (HBX.out.keep HB2.out).keep hb3
          have HB3 : Hid (Below w.heap.size w w3) := (HBR.out.trans (HB2.out.mono HBR.out.size)).trans (hb3.mono (by omega))
          have hz3 : w.heap.size + 3 ≤ w3.heap.size := by have := hb3.size; omega
          rw [← hg12] at hz2 ⊢
          have n1 : ¬ w.heap.size = g12 + 1 := by omega
          have m1 : ¬ g12 + 1 = w.heap.size := by omega
          have n2 : ¬ w.heap.size + 1 = g12 + 1 := by omega
          have m2 : ¬ g12 + 1 = w.heap.size + 1 := by omega
          clear hw3 hg12 hb3
          go_wp2_with fail
          go_region_held3 (fun W => W.cell? ⟨g12 + 1, 0, none⟩ = some (.int .i64 (x : Nat)) ∧ W.cell? ⟨g12 + 1, 1, none⟩ = some (.int .i64 (a : Nat)) ∧ W.cell? ⟨g12 + 1, 2, none⟩ = some (.slice none 0 0)) (first | (simp [go_sem, *]; done) | go_keep) (fail)
          all_goals
            (repeat (first | go_values | go_skip | go_guarded | go_step | go_upon | (go_simp; go_at_K)))
            refine bodyPost_ret (v := .tuple #[zIt, .int .i64 0, fltV x a]) (by simp [results, Try.results34, go_sem, *]) rfl ?_
            rw [HR.out]
            refine rread_err ?_
            (repeat' (first | with_reducible exact HB3.out | with_reducible apply Below.drew | with_reducible refine Below.alloc ?_ (by first | omega | (simp; done) | (simp; omega)) _ | with_reducible refine Below.setCell ?_ (by first | (simp; done) | (simp only []; omega)) _))
        | ok xq =>
          obtain ⟨x, q2⟩ := xq
          obtain ⟨cx, rfl, hrx⟩ := hres
          have HRX := Lib.hid hrx
          have HQQ := Lib.hid (HMO1.out x q2 rfl)
          have HQ2 := Lib.hid (HFN2.out x q2 rfl)
          obtain ⟨ki, ni, ab, nb, cb, text, ak, nk, ck, rfl⟩ := hrx.shape
          clear HFN1 HMO1 HFN2 hrx
          go_upto_region 54 with fail
          obtain ⟨w3, hw3⟩ : ∃ W, W = (w2'.alloc (.cells #[.int .i64 ki, .int .u64 (ni : Nat), .slice ab nb cb, .string text, .slice ak nk ck] 26)).alloc (.cells #[.int .i64 0, .int .i64 0, .slice none 0 0] 35) := ⟨_, rfl⟩
          rw [← hw3]
          have hb3 : Below w2'.heap.size w2' w3 := by rw [hw3]; exact ((Below.refl _ _).alloc (Nat.le_refl _) _).alloc (by simp) _
          obtain ⟨g12, hg12⟩ : ∃ g, g = w2'.heap.size := ⟨_, rfl⟩
          have t0 : w3.cell? ⟨g12, 0, none⟩ = some (.int .i64 ki) := by rw [hw3, hg12]; simp [go_sem]
          have t1' : w3.cell? ⟨g12, 1, none⟩ = some (.int .u64 (ni : Nat)) := by rw [hw3, hg12]; simp [go_sem]
          have t2 : w3.cell? ⟨g12, 2, none⟩ = some (.slice ab nb cb) := by rw [hw3, hg12]; simp [go_sem]
          have t3 : w3.cell? ⟨g12, 3, none⟩ = some (.string text) := by rw [hw3, hg12]; simp [go_sem]
          have t4 : w3.cell? ⟨g12, 4, none⟩ = some (.slice ak nk ck) := by rw [hw3, hg12]; simp [go_sem]
          have e0 : w3.cell? ⟨g12 + 1, 0, none⟩ = some (.int .i64 0) := by rw [hw3, hg12]; simp [go_sem]
          have HB3 : Hid (Below wr.heap.size wr w3) := HB2.out.trans (hb3.mono HB2.out.size)
          have HG3 : Hid (w3.heap.size = g12 + 2) := by show _ = _; rw [hw3, hg12]; simp
          obtain ⟨⟨i0, i1, i2, i3, i4⟩, ⟨j0, j1', j2, j3, j4⟩⟩ := HIB.out.keep HB3.out
          have HO3 : Hid (OwnI w3 (w.heap.size + 3) (fun k => w.heap.size + 3 ≤ k) v acc) := HO.out.keep HB3.out
          have HFAR : Hid (∀ i, v.ownBlock = some i → w.heap.size + 3 ≤ i ∧ i < wr.heap.size) := Lib.hid (fun i hi => HO.out.far i hi)
          have HRX3 : Hid (RdIt (fun k => wr.heap.size ≤ k ∧ k < w3.heap.size) w3 x #[.int .i64 ki, .int .u64 (ni : Nat), .slice ab nb cb, .string text, .slice ak nk ck]) := by
            refine Lib.hid ((HRX.out.imp (S' := fun k => wr.heap.size ≤ k ∧ k < w3.heap.size) (fun k hk h => ⟨h, ?_⟩)).below hb3)
            have := hb3.size; omega
          rw [← hg12] at hz2 ⊢
          have q0' : w.heap.size + 2 < w3.heap.size := by have := HG3.out; omega
          have q1' : g12 < w3.heap.size := by have := HG3.out; omega
          have q2' : g12 + 1 < w3.heap.size := by have := HG3.out; omega
          have HQ0 := Lib.hid q0'
          clear hw3 hg12 hb3
          have hln : acc.len + 1 ≤ 1000000000 := by have := HLQ.out; have := HQN.out; omega
          go_wp2_with (at_builtin; refine wpList_appI (v := v) (f := acc) (g := .cons x .nil) (B := w.heap.size + 3) (L := fun k => w.heap.size + 3 ≤ k) (S1 := fun k => wr.heap.size ≤ k ∧ k < w3.heap.size) (sv := .slice (some ⟨w3.heap.size, 0, none⟩) 1 1) (by rfl) _ _ (by rfl) (by rfl) ?oO (by rfl) ?oS ?oL ?oB ?oH ?_)
          case oO => exact HO3.out.keep ((Below.refl _ _).alloc (Nat.le_refl _) _)
          case oS =>
            refine SrcI.one (c := #[.int .i64 ki, .int .u64 (ni : Nat), .slice ab nb cb, .string text, .slice ak nk ck]) ?_ ?_
            · exact HRX3.out.below ((Below.refl _ _).alloc (Nat.le_refl _) _)
            · intro j u hj
              match j with
              | 0 => simp at hj; subst hj; simp [go_sem]
              | 1 => simp at hj; subst hj; simp [go_sem]
              | 2 => simp at hj; subst hj; simp [go_sem]
              | 3 => simp at hj; subst hj; simp [go_sem]
              | 4 => simp at hj; subst hj; simp [go_sem]
              | j + 5 => simp at hj
          case oL => exact fun k hk => ⟨by have := HZR.out; have := hk.1; omega, fun e => by have := (HFAR.out k e).2; have := hk.1; omega⟩
          case oB => simp only [IL.len]; omega
          case oH => have := HQ0.out; simp; omega
          intro v4 w4 ho4 ha4
          have HO4 := Lib.hid ho4
          have HA4 := Lib.hid ha4
          have HB34 : Hid (Below wr.heap.size wr (w3.alloc (.cells #[.int .i64 ki, .int .u64 (ni : Nat), .slice ab nb cb, .string text, .slice ak nk ck] 26))) := HB3.out.trans (((Below.refl _ w3).alloc (Nat.le_refl _) _).mono HB3.out.size)
          have hx4 : Chg (fun i => v.ownBlock = some i) w3 w4 := Chg.trans ((Chg.refl _ _).alloc _) ha4.chg (fun i hi e => e)
          have nv' : ¬ v.ownBlock = some (w.heap.size + 2) := fun e => by have := (HFAR.out _ e).1; omega
          have y4 : w4.cell? ⟨w.heap.size + 2, 4, none⟩ = some v := hx4.cell (p := ⟨w.heap.size + 2, 4, none⟩) nv' i4
          have y5 : w4.frozen? ⟨w.heap.size + 2, 4, none⟩ = false := by rw [hx4.frozen (p := ⟨w.heap.size + 2, 4, none⟩) nv' HQ0.out]; exact j4
          obtain ⟨a4, c4, e4, -⟩ := ho4.reads (fun k h => h)
          obtain ⟨m4, hm4⟩ : ∃ m, m = (acc.append (.cons x .nil)).len := ⟨_, rfl⟩
          rw [← hm4] at e4
          subst e4
          clear ho4 ha4 hx4 i0 i1 i2 i3 i4 j0 j1' j2 j3 j4 t0 t1' t2 t3 t4 e0 q0' q1' q2' nv' hm4
          go_wp2_with fail
          go_roundw
          case rel =>
            have hkn := RInv.next (n := n) HIB.out HBX.out HO.out HBR.out HZR.out HLQ.out HRS.out HR2.out.symm HQQ.out HQ2.out HB34.out HO4.out HA4.out
            rw [HCC.out] at hkn
            exact ⟨t1, q2, rfl, rfl, HT1.out.1, hkn⟩
          case measure => have := HT1.out; simp only [intOf]; omega

set_option maxRecDepth 100000 in
set_option maxHeartbeats 8000000 in
theorem rread_C6 (d : Nat) (hof : RReadSaid d) (a : Option Addr) (n cp : Nat) (bs : List UInt8) (p wi dp : Nat) (w : World) (h : RdB w a n bs) (hn9 : n ≤ 1000000) (hcp : n ≤ cp) (hpn : p ≤ n) (hd : dp = wi + (d + 1)) (hd9 : dp ≤ 1000) (hlen : ¬ n ≤ p) (m low : Nat) (hm : m = bAt bs p / 32) (hlw : low = bAt bs p % 32) (h27 : ¬ 27 < low) (hsh : ¬ n < p + 1 + sizeL low) (h24 : 24 ≤ low) (hmv : m = 6) (hnd : needN (numL bs p low) = wideB low) :
    Calls Try.prog 34 #[.slice a n cp, .int .i64 (p : Nat), .int .i64 (wi : Nat), .int .i64 (dp : Nat)] w (RReadO w (readQ bs (d + 1) p)) := by
  obtain ⟨wa, hwa⟩ : ∃ W, W = ((w.alloc (.cells #[.int .i64 0, .int .u64 0, .slice none 0 0, .string ⟨#[]⟩, .slice none 0 0] 26)).alloc (.cells #[.int .i64 0, .int .i64 0, .slice none 0 0] 35)).alloc (.cells #[.int .i64 0, .int .u64 0, .slice none 0 0, .string ⟨#[]⟩, .slice none 0 0] 26) := ⟨_, rfl⟩
  have hba : Below w.heap.size w wa := by
    rw [hwa]
    exact (((Below.refl _ _).alloc (Nat.le_refl _) _).alloc (by simp) _).alloc (by simp; omega) _
  have hbx : RBx wa w.heap.size (w.heap.size + 1) ∧ IBx wa (w.heap.size + 2) 0 0 (.slice none 0 0) ⟨#[]⟩ (.slice none 0 0) := by rw [hwa]; exact three _ _ _
  have hz : wa.heap.size = w.heap.size + 3 := by rw [hwa]; simp
  have HX := Lib.hid hbx.1
  have HI := Lib.hid hbx.2
  have HZ := Lib.hid hz
  have HRD := Lib.hid (h.keep hba)
  have HBA := Lib.hid hba
  have HBW := Lib.hid hba
  have hbl : bs.length = n := h.1
  have hzr : 0 < wa.heap.size := by omega
  obtain ⟨R, hR⟩ : ∃ R, R = readQ bs (d + 1) p := ⟨_, rfl⟩
  rw [← hR]
  rw [readQ, hbl] at hR
  have d1 : decide ((dp : Int) ≤ (wi : Int)) = false := by simp; omega
  have d2 : decide (dp ≤ wi) = false := by simp; omega
  have wwi : IntKind.i64.wrap ((wi : Int) + 1) = ((wi + 1 : Nat) : Int) := (IntWalk.i64_in _ (by omega)).trans (by omega)
  have CRD : Hid (∀ W q, RdB W a n bs → q ≤ n → Calls Try.prog 34 #[.slice a n cp, .int .i64 (q : Nat), .int .i64 ((wi + 1 : Nat) : Int), .int .i64 (dp : Nat)] W (RReadO W (readQ bs d q))) := Lib.hid (fun W q hW hq => hof a n cp bs q (wi + 1) dp W hW hn9 hcp hq (by omega) hd9)
  obtain ⟨wj, hwj⟩ : ∃ x, x = wi + 1 := ⟨_, rfl⟩
  rw [← hwj] at wwi CRD
  clear hwj hof
  have h0b := Lib.hid h
  rw [if_neg hlen] at hR
  have dl : decide ((n : Int) ≤ (p : Int)) = false := by simp; omega
  have dl2 : decide (n ≤ p) = false := by simp; omega
  have hpl : p < n := by omega
  obtain ⟨b, o, rfl, hat⟩ := HRD.out.at p hpl
  have hc9 := bAt_lt bs p
  obtain ⟨c, hc⟩ : ∃ c, c = bAt bs p := ⟨_, rfl⟩
  rw [← hc] at hat hc9 hR hm hlw
  have wq : (c : Int).tdiv 32 = (m : Int) := by rw [Int.tdiv_eq_ediv_of_nonneg (by omega)]; omega
  have wr : (c : Int).tmod 32 = (low : Int) := by rw [Int.tmod_eq_emod_of_nonneg (by omega)]; omega
  have wq8 : IntKind.u8.wrap (m : Int) = (m : Int) := IntWalk.u8_in _ (by omega)
  have wr8 : IntKind.u8.wrap (low : Int) = (low : Int) := IntWalk.u8_in _ (by omega)
  have wq2 : IntKind.i64.wrap (m : Int) = (m : Int) := IntWalk.i64_in _ (by omega)
  have wr2 : IntKind.i64.wrap (low : Int) = (low : Int) := IntWalk.i64_in _ (by omega)
  have hm7 : m ≤ 7 := by omega
  rw [← hm, ← hlw] at hR
  have ip0 : (0 : Int) ≤ (p : Int) := by omega
  have ip1 : (p : Int) < (n : Int) := by omega
  clear hc hm hlw hc9 hlen
  rw [if_neg h27] at hR
  have g1 : decide ((27 : Int) < (low : Int)) = false := by simp; omega
  have g1n : decide (27 < low) = false := by simp; omega
  obtain ⟨x1, hx1⟩ : ∃ x, x = n - p := ⟨_, rfl⟩
  obtain ⟨x2, hx2⟩ : ∃ x, x = n - p - 1 := ⟨_, rfl⟩
  have wx1 : IntKind.i64.wrap ((n : Int) - (p : Int)) = (x1 : Int) := (IntWalk.i64_in _ (by omega)).trans (by omega)
  have wx2 : IntKind.i64.wrap ((x1 : Int) - 1) = (x2 : Int) := (IntWalk.i64_in _ (by omega)).trans (by omega)
  have q1 : decide ((24 : Int) ≤ (low : Int)) = true := by simp; omega
  have q1n : decide (24 ≤ low) = true := by simp; omega
  have e1 : sizeL low = wideB low := if_neg (by omega)
  rw [e1] at hR hsh
  obtain ⟨sh, hsh2⟩ : ∃ k, k = low - 24 := ⟨_, rfl⟩
  obtain ⟨Wd, hWd⟩ : ∃ k, k = wideB low := ⟨_, rfl⟩
  have wsh : IntKind.i64.wrap ((low : Int) - 24) = (sh : Int) := (IntWalk.i64_in _ (by omega)).trans (by omega)
  have wsu : IntKind.u64.wrap (sh : Int) = (sh : Int) := IntWalk.u64_in _ (by omega)
  have hpw : (2 : Int) ^ sh = (Wd : Int) := by
    rw [hWd, hsh2]
    have : low = 24 ∨ low = 25 ∨ low = 26 ∨ low = 27 := by omega
    rcases this with rfl | rfl | rfl | rfl <;> rfl
  have hW8 : Wd ≤ 8 := by rw [hWd]; exact (wideB_le _).2
  have hW1 : 1 ≤ Wd := by rw [hWd]; exact (wideB_le _).1
  have wW : IntKind.i64.wrap (Wd : Int) = (Wd : Int) := IntWalk.i64_in _ (by omega)
  have ws4' : wrap64 (Wd : Int) = (Wd : Int) := by unfold wrap64; omega
  have ws0 : (0 : Int) ≤ (sh : Int) := by omega
  have hms : min sh 64 = sh := by omega
  have HWS : Hid (IntKind.i64.wrap (1 * 2 ^ sh) = (Wd : Int) ∧ IntKind.i64.wrap (2 ^ sh) = (Wd : Int) ∧ wrap64 (2 ^ min sh 64) = (Wd : Int)) := Lib.hid ⟨by rw [Int.one_mul, hpw]; exact wW, by rw [hpw]; exact wW, by rw [hms, hpw]; exact ws4'⟩
  clear hpw hms ws4'
  have ws3 : decide ((sh : Int) < 0) = false := by simp
  rw [← hWd] at hR hsh
  rw [if_neg hsh] at hR
  have q3 : decide ((x2 : Int) < (Wd : Int)) = false := by simp; omega
  have q3n : decide (x2 < Wd) = false := by simp; omega
  have q4 : decide ((0 : Int) < (Wd : Int)) = true := by simp; omega
  have q4n : decide (0 < Wd) = true := by simp; omega
  have en : numL bs p low = be (seg bs (p + 1) Wd) := by rw [hWd]; exact if_neg (by omega)
  have CN := Lib.hid (fun W hW => high_yes (some ⟨b, o, none⟩) n cp (p + 1) Wd W bs hW (by omega) hW1 hW8)
  rw [← en] at CN
  have hnv9 : numL bs p low < okSize := numL_lt bs p low (by omega) (by rw [e1, ← hWd, hbl]; omega)
  obtain ⟨nv, hnv⟩ : ∃ x, x = numL bs p low := ⟨_, rfl⟩
  rw [← hnv] at CN hnv9 hR hnd
  obtain ⟨p1, hp1⟩ : ∃ x, x = p + 1 := ⟨_, rfl⟩
  have wp1 : IntKind.i64.wrap ((p : Int) + 1) = (p1 : Int) := (IntWalk.i64_in _ (by omega)).trans (by omega)
  rw [← hp1] at CN hR
  obtain ⟨q, hq⟩ : ∃ q, q = p1 + Wd := ⟨_, rfl⟩
  have wp2 : IntKind.i64.wrap ((p1 : Int) + (Wd : Int)) = (q : Int) := (IntWalk.i64_in _ (by omega)).trans (by omega)
  have wlw : IntKind.u64.wrap (low : Int) = (low : Int) := IntWalk.u64_in _ (by omega)
  rw [← hq] at hR
  have hqn : q ≤ n := by omega
  have HWd := Lib.hid hWd
  have HND : Hid (needN nv = Wd) := hnd.trans HWd.out.symm
  clear hsh hx1 hx2 e1 en hnv hq hp1 hsh2 hWd
  obtain ⟨rd, hrd⟩ : ∃ f, f = readQ bs d := ⟨_, rfl⟩
  rw [← hrd] at hR
  have HMO : Hid (∀ q x q2, q ≤ n → rd q = .ok (x, q2) → q < q2) := by
    show ∀ q x q2, _
    intro q x q2 hq hh
    rw [hrd] at hh
    exact readQ_more bs d q x q2 (by rw [hbl]; exact hq) hh
  have HFN : Hid ((∀ q x a, q ≤ n → rd q = .error (x, a) → (1 ≤ x ∧ x ≤ 10) ∧ a ≤ n) ∧ (∀ q x q2, q ≤ n → rd q = .ok (x, q2) → q2 ≤ n)) := by
    show _ ∧ _
    refine ⟨fun q x a hq hh => ?_, fun q x q2 hq hh => ?_⟩
    · rw [hrd] at hh
      have := readQ_fine bs d q (by rw [hbl]; exact hq)
      rw [hh] at this
      exact ⟨this.1, by have := this.2.1; omega⟩
    · rw [hrd] at hh
      have := readQ_fine bs d q (by rw [hbl]; exact hq)
      rw [hh] at this
      have := this.2
      omega
  rw [← hrd] at CRD
  have HR0 : Hid (R = wrapK 7 nv .nil (kidsW rd (1 * 1) q)) := by
    show _ = _
    rw [hR]; unfold behQ; rw [if_neg (by omega), if_neg (fun h => h.2 hnd), if_neg (by omega), if_neg (by omega), if_neg (by omega), if_neg (by omega), if_neg (by omega)]
    rw [← wrapK_nil, Nat.mul_one]
  obtain ⟨hl2, hhl2⟩ : ∃ x, x = (headB m nv).length := ⟨_, rfl⟩
  have HLN : Hid ((headB m nv).length = hl2) := hhl2.symm
  rw [headB_len, HND.out] at hhl2
  have w1W : IntKind.i64.wrap (1 + (Wd : Int)) = (hl2 : Int) := (IntWalk.i64_in _ (by omega)).trans (by omega)
  have hln : ((hl2 : Int) != (hl2 : Int)) = false := by simp
  clear hhl2
  subst hmv
  have CH := Lib.hid (fun W => rhead_calls (6 : Nat) 6 rfl (by omega) nv hnv9 W)
  clear hrd
  clear hR h24 hnd
  obtain ⟨⟨h0, h1, h2, h3, h4⟩, ⟨f0, f1, f2, f3, f4⟩, ⟨k0, k1, k2⟩, ⟨l0, l1, l2⟩⟩ := HX.out
  obtain ⟨⟨i0, i1, i2, i3, i4⟩, ⟨j0, j1, j2, j3, j4⟩⟩ := HI.out
  clear h hba hbx hz hd hd9 hcp
  obtain ⟨ws1, ws2, ws4⟩ := HWS.out
  go_enter Try.func34, Try.ntmps34
  go_upto_region 2 with fail
  rw [← hwa]
  clear hwa
  go_wp2_with fail
  go_quiet (fail)
  obtain ⟨wb, hwb⟩ : ∃ W, W = wa.drewN nq := ⟨_, rfl⟩
  have hbb : Below wa.heap.size wa wb := by rw [hwb]; exact below_drewN wa nq wa.heap.size
  rw [← hwb]
  clear hwb
  have HBB := Lib.hid hbb
  have HBW := Lib.hid (HBA.out.trans (hbb.mono HBA.out.size))
  have hzb : w.heap.size + 3 ≤ wb.heap.size := by have := hbb.size; have := HZ.out; omega
  clear hbb h0 h1 h2 h3 h4 f0 f1 f2 f3 f4 k0 k1 k2 l0 l1 l2 i0 i1 i2 i3 i4 j0 j1 j2 j3 j4 hat
  obtain ⟨⟨h0, h1, h2, h3, h4⟩, ⟨f0, f1, f2, f3, f4⟩, ⟨k0, k1, k2⟩, ⟨l0, l1, l2⟩⟩ := HX.out.keep HBB.out
  obtain ⟨⟨i0, i1, i2, i3, i4⟩, ⟨j0, j1, j2, j3, j4⟩⟩ := HI.out.keep HBB.out
  go_wp2_with fail
  refine (CN.out wb (HRD.out.keep HBB.out)).mono ?_
  rintro e w1 ⟨rfl, rfl⟩
  go_wp2_with fail
  refine (CH.out _).mono ?_
  rintro e w2 ⟨v2, rfl, hst⟩
  obtain ⟨a2, c2, rfl, hr2⟩ := hst.1.reads
  rw [HLN.out] at hst hr2 ⊢
  have HB2 := Lib.hid (HBB.out.trans (hst.2.mono HBB.out.size))
  have HBW := Lib.hid (HBA.out.trans (HB2.out.mono HBA.out.size))
  have hzr2 : w.heap.size + 3 ≤ w2.heap.size := by have := HB2.out.size; have := HZ.out; omega
  clear h0 h1 h2 h3 h4 f0 f1 f2 f3 f4 k0 k1 k2 l0 l1 l2 i0 i1 i2 i3 i4 j0 j1 j2 j3 j4 hzb
  obtain ⟨⟨h0, h1, h2, h3, h4⟩, ⟨f0, f1, f2, f3, f4⟩, ⟨k0, k1, k2⟩, ⟨l0, l1, l2⟩⟩ := HX.out.keep HB2.out
  have HI2 := Lib.hid (HI.out.keep HB2.out)
  obtain ⟨⟨i0, i1, i2, i3, i4⟩, ⟨j0, j1, j2, j3, j4⟩⟩ := HI2.out
  have HRD2 := Lib.hid (HRD.out.keep HB2.out)
  clear hst hr2 CH HLN
  go_upto_region 48 with fail
  obtain ⟨wz, hwz⟩ : ∃ W, W = (w2.setCell ⟨w.heap.size + 2, 0, none⟩ (.int .i64 7)).setCell ⟨w.heap.size + 2, 1, none⟩ (.int .u64 (nv : Nat)) := ⟨_, rfl⟩
  rw [← hwz]
  have hiz : IBx wz (w.heap.size + 2) 7 nv (.slice none 0 0) ⟨#[]⟩ (.slice none 0 0) := by rw [hwz]; exact HI2.out.set0.set1
  have hcz : Chg (fun i => i = w.heap.size + 2) w2 wz := by
    rw [hwz]
    have hX : (fun i => i = w.heap.size + 2) (w.heap.size + 2) := rfl
    (repeat' (first | with_reducible exact Chg.refl _ _ | refine Chg.setCell ?_ (fun _ => hX) _))
  clear hwz
  have H0 : Hid (RInv w n 7 nv rd R (1 * 1) q wz) := by
    refine Lib.hid ⟨.nil, .slice none 0 0, hiz, (HX.out.keep HB2.out).chg hcz (by omega) (by omega), OwnI.nil _ _ _, HBW.out.trans (hcz.below (B := w.heap.size) (by omega) (fun i e => by omega)), by have := hcz.size; omega, by simp [IL.len], hqn, HR0.out⟩
  have hb9 : b < w.heap.size := by
    obtain ⟨bb, oo, e, hcc⟩ := h0b.out.at p hpl
    obtain ⟨rfl, -⟩ : bb = b ∧ oo = o := by simpa using (Option.some.inj e).symm
    simpa using cell_block hcc
  clear hcz hiz h0 h1 h2 h3 h4 f0 f1 f2 f3 f4 k0 k1 k2 l0 l1 l2 i0 i1 i2 i3 i4 j0 j1 j2 j3 j4 HI2 HB2 HX HR0 HRD2 HRD hb9 hqn
  clear d1 d2 dl dl2 g1 g1n wx1 wx2 q1 q1n q3 wp1 wp2 wr8 wr2 wr ip0 ip1 hm7 HBB hln HND q3n q4 q4n wlw w1W wsh wsu hW8 hW1 wW ws0 ws1 ws2 ws3 ws4 HWS CN HWd
  go_loopw [16, 19] (fun nx i wr => ∃ j q : Nat, nx = .int .i64 (q : Nat) ∧ i = .int .u64 (j : Nat) ∧ j ≤ 1 ∧ RInv w n 7 nv rd R ((1 - j) * 1) q wr) (fun _ i _ => 1 - (intOf i).toNat)
  case atStart => exact ⟨0, q, rfl, rfl, Nat.zero_le _, by rw [Nat.sub_zero]; exact H0.out⟩
  case round =>
    obtain ⟨j, q, rfl, rfl, hjm, hinv⟩ := hrel
    have HI := Lib.hid hinv
    clear hinv H0
    by_cases hj0 : j = 1
    · have dc : decide ((j : Int) < 1) = false := by simp; omega
      have dc2 : decide (j < 1) = false := by simp; omega
      obtain ⟨acc, v, hib, hbx, hown, hbw, hzr3, hlq, hqn, hres⟩ := HI.out
      rw [show (1 - j) * 1 = 0 from by rw [hj0, Nat.sub_self, Nat.zero_mul], wrapK_end] at hres
      have HN := Lib.hid hres
      have HO := Lib.hid hown
      have HBR := Lib.hid hbw
      obtain ⟨a9, c9, rfl, -⟩ := hown.reads (fun k h => h)
      obtain ⟨m9, hm9⟩ : ∃ m, m = acc.len := ⟨_, rfl⟩
      rw [← hm9] at HO hib
      obtain ⟨⟨i0, i1, i2, i3, i4⟩, ⟨j0, j1, j2, j3, j4⟩⟩ := hib
      obtain ⟨⟨h0, h1, h2, h3, h4⟩, ⟨f0, f1, f2, f3, f4⟩, ⟨k0, k1, k2⟩, ⟨l0, l1, l2⟩⟩ := hbx
      clear hj0 hres hown hbw hlq HI CRD HMO HFN hm9 hjm
      (repeat (first | go_values | go_skip | go_guarded | go_step | go_upon | (go_simp; go_at_K)))
      refine bodyPost_ret (v := .tuple #[.agg #[.int .i64 7, .int .u64 (nv : Nat), .slice none 0 0, .string ⟨#[]⟩, .slice a9 m9 c9], .int .i64 (q : Nat), fltV 0 0]) (by simp [results, Try.results34, go_sem, *]) rfl ?_
      rw [HN.out]
      refine rkids_fin (wr := wr) (n := n) HO.out HBR.out hzr3 ⟨by omega, by omega⟩ hnv9 ?_
      (repeat' (first | with_reducible exact Chg.refl _ _ | with_reducible apply Chg.drew | with_reducible refine Chg.alloc ?_ _ | with_reducible refine Chg.setCell ?_ (fun h => ?_) _))
      all_goals (dsimp only; omega)
    · have dc : decide ((j : Int) < 1) = true := by simp; omega
      have dc2 : decide (j < 1) = true := by simp; omega
      obtain ⟨j1, hj1⟩ : ∃ x, x = j + 1 := ⟨_, rfl⟩
      have wc : IntKind.u64.wrap ((j : Int) + 1) = (j1 : Int) := (IntWalk.u64_in _ (by unfold okSize at hnv9; omega)).trans (by omega)
      obtain ⟨cl, hcl⟩ : ∃ x, x = 1 - j1 := ⟨_, rfl⟩
      have H1 : Hid (RInv w n 7 nv rd R (cl * 1 + (1 - 0)) q wr) := by
        have := HI.out
        rw [show (1 - j) * 1 = cl * 1 + (1 - 0) from by rw [show 1 - j = cl + 1 from by omega, Nat.add_mul]] at this
        exact Lib.hid this
      have HJ : Hid (j < j1 ∧ j1 ≤ 1 ∧ 1 - j1 = cl) := by show _ ∧ _ ∧ _; omega
      obtain ⟨wo, rfl⟩ : ∃ wo : World, wo = wr := ⟨_, rfl⟩
      clear HI hj0 hjm hcl hj1
      go_wp2_with fail
      go_loopw [16, 20] (fun nx i wr => ∃ t q : Nat, nx = .int .i64 (q : Nat) ∧ i = .int .i64 (t : Nat) ∧ t ≤ 1 ∧ RInv w n 7 nv rd R (cl * 1 + (1 - t)) q wr) (fun _ i _ => 1 - (intOf i).toNat)
      case atStart => exact ⟨0, q, rfl, rfl, Nat.zero_le _, H1.out⟩
      case round =>
        obtain ⟨t, q, rfl, rfl, hte, hinv⟩ := hrel
        clear H1
        by_cases ht : t < 1
        case neg =>
          have dj : decide ((t : Int) < 1) = false := by simp; omega
          have dj2 : decide (t < 1) = false := by simp; omega
          have H2 : Hid (RInv w n 7 nv rd R (cl * 1) q wr) := by
            rw [show cl * 1 + (1 - t) = cl * 1 from by omega] at hinv
            exact Lib.hid hinv
          clear hinv ht hte
          go_wp2_with fail
          go_roundw
          case rel => exact ⟨j1, q, rfl, rfl, HJ.out.2.1, by rw [HJ.out.2.2]; exact H2.out⟩
          case measure => have := HJ.out; simp only [intOf]; omega
        have dj : decide ((t : Int) < 1) = true := by simp; omega
        have dj2 : decide (t < 1) = true := by simp; omega
        have wj : IntKind.i64.wrap ((t : Int) + 1) = ((t + 1 : Nat) : Int) := (IntWalk.i64_in _ (by omega)).trans (by omega)
        obtain ⟨t1, ht1⟩ : ∃ t1, t1 = t + 1 := ⟨_, rfl⟩
        rw [← ht1] at wj
        have HT1 : Hid (t1 ≤ 1 ∧ t < t1) := by show _ ∧ _; omega
        obtain ⟨cc, hcc⟩ : ∃ cc, cc = cl * 1 + (1 - t1) := ⟨_, rfl⟩
        rw [show cl * 1 + (1 - t) = cc + 1 from by omega] at hinv
        have HCC := Lib.hid hcc
        obtain ⟨acc, v, hib, hbx, hown, hbw, hzr3, hlq, hqn, hres⟩ := hinv
        have HIB := Lib.hid hib
        have HBX := Lib.hid hbx
        have HO := Lib.hid hown
        have HBR := Lib.hid hbw
        have HLQ := Lib.hid hlq
        have HQN := Lib.hid hqn
        have HRS := Lib.hid hres
        have HZR := Lib.hid hzr3
        have hrdw : RdB wr (some ⟨b, o, none⟩) n bs := h0b.out.keep hbw
        have C1 := Lib.hid (CRD.out wr q hrdw hqn)
        have HMO1 := Lib.hid (fun x q2 => HMO.out q x q2 hqn)
        have HFN1 := Lib.hid (fun x a => HFN.out.1 q x a hqn)
        have HFN2 := Lib.hid (fun x q2 => HFN.out.2 q x q2 hqn)
        obtain ⟨R2, hR2⟩ : ∃ x, x = rd q := ⟨_, rfl⟩
        rw [← hR2] at C1 HMO1 HFN1 HFN2
        have HR2 := Lib.hid hR2
        clear hib hbx hown hbw hlq hqn hres hrdw CRD HMO HFN ht hte ht1 hcc hR2
        go_wp2_with fail
        refine C1.out.mono ?_
        rintro ee w2' ⟨hb2, hres⟩
        have HB2 := Lib.hid hb2
        have hz2 : w.heap.size + 3 ≤ w2'.heap.size := by have := hb2.size; omega
        clear hb2 C1
        cases R2 with
        | error xa =>
          obtain ⟨x, a⟩ := xa
          have hfn := HFN1.out x a rfl
          subst hres
          have b2 : ((x : Int) != 0) = true := by simp; omega
          have HR : Hid (R = .error (x, a)) := HRS.out.trans (wrapK_err HR2.out.symm)
          clear HFN1 HMO1 HFN2 hfn
          go_upto_region 54 with fail
          obtain ⟨w3, hw3⟩ : ∃ W, W = (w2'.alloc (.cells #[.int .i64 0, .int .u64 0, .slice none 0 0, .string ⟨#[]⟩, .slice none 0 0] 26)).alloc (.cells #[.int .i64 (x : Nat), .int .i64 (a : Nat), .slice none 0 0] 35) := ⟨_, rfl⟩
          rw [← hw3]
          have hb3 : Below w2'.heap.size w2' w3 := by rw [hw3]; exact ((Below.refl _ _).alloc (Nat.le_refl _) _).alloc (by simp) _
          obtain ⟨g12, hg12⟩ : ∃ g, g = w2'.heap.size := ⟨_, rfl⟩
          have t0 : w3.cell? ⟨g12 + 1, 0, none⟩ = some (.int .i64 (x : Nat)) := by rw [hw3, hg12]; simp [go_sem]
          have t1' : w3.cell? ⟨g12 + 1, 1, none⟩ = some (.int .i64 (a : Nat)) := by rw [hw3, hg12]; simp [go_sem]
          have t2 : w3.cell? ⟨g12 + 1, 2, none⟩ = some (.slice none 0 0) := by rw [hw3, hg12]; simp [go_sem]
          obtain ⟨⟨h0, h1, h2, h3, h4⟩, ⟨f0, f1, f2, f3, f4⟩, ⟨k0, k1, k2⟩, ⟨l0, l1, l2⟩⟩ := (HBX.out.keep HB2.out).keep hb3
          have HB3 : Hid (Below w.heap.size w w3) := (HBR.out.trans (HB2.out.mono HBR.out.size)).trans (hb3.mono (by omega))
          have hz3 : w.heap.size + 3 ≤ w3.heap.size := by have := hb3.size; omega
          rw [← hg12] at hz2 ⊢
          have n1 : ¬ w.heap.size = g12 + 1 := by omega
          have m1 : ¬ g12 + 1 = w.heap.size := by omega
          have n2 : ¬ w.heap.size + 1 = g12 + 1 := by omega
          have m2 : ¬ g12 + 1 = w.heap.size + 1 := by omega
          clear hw3 hg12 hb3
          go_wp2_with fail
          go_region_held3 (fun W => W.cell? ⟨g12 + 1, 0, none⟩ = some (.int .i64 (x : Nat)) ∧ W.cell? ⟨g12 + 1, 1, none⟩ = some (.int .i64 (a : Nat)) ∧ W.cell? ⟨g12 + 1, 2, none⟩ = some (.slice none 0 0)) (first | (simp [go_sem, *]; done) | go_keep) (fail)
          all_goals
            (repeat (first | go_values | go_skip | go_guarded | go_step | go_upon | (go_simp; go_at_K)))
            refine bodyPost_ret (v := .tuple #[zIt, .int .i64 0, fltV x a]) (by simp [results, Try.results34, go_sem, *]) rfl ?_
            rw [HR.out]
            refine rread_err ?_
            (repeat' (first | with_reducible exact HB3.out | with_reducible apply Below.drew | with_reducible refine Below.alloc ?_ (by first | omega | (simp; done) | (simp; omega)) _ | with_reducible refine Below.setCell ?_ (by first | (simp; done) | (simp only []; omega)) _))
        | ok xq =>
          obtain ⟨x, q2⟩ := xq
          obtain ⟨cx, rfl, hrx⟩ := hres
          have HRX := Lib.hid hrx
          have HQQ := Lib.hid (HMO1.out x q2 rfl)
          have HQ2 := Lib.hid (HFN2.out x q2 rfl)
          obtain ⟨ki, ni, ab, nb, cb, text, ak, nk, ck, rfl⟩ := hrx.shape
          clear HFN1 HMO1 HFN2 hrx
          go_upto_region 54 with fail
          obtain ⟨w3, hw3⟩ : ∃ W, W = (w2'.alloc (.cells #[.int .i64 ki, .int .u64 (ni : Nat), .slice ab nb cb, .string text, .slice ak nk ck] 26)).alloc (.cells #[.int .i64 0, .int .i64 0, .slice none 0 0] 35) := ⟨_, rfl⟩
          rw [← hw3]
          have hb3 : Below w2'.heap.size w2' w3 := by rw [hw3]; exact ((Below.refl _ _).alloc (Nat.le_refl _) _).alloc (by simp) _
          obtain ⟨g12, hg12⟩ : ∃ g, g = w2'.heap.size := ⟨_, rfl⟩
          have t0 : w3.cell? ⟨g12, 0, none⟩ = some (.int .i64 ki) := by rw [hw3, hg12]; simp [go_sem]
          have t1' : w3.cell? ⟨g12, 1, none⟩ = some (.int .u64 (ni : Nat)) := by rw [hw3, hg12]; simp [go_sem]
          have t2 : w3.cell? ⟨g12, 2, none⟩ = some (.slice ab nb cb) := by rw [hw3, hg12]; simp [go_sem]
          have t3 : w3.cell? ⟨g12, 3, none⟩ = some (.string text) := by rw [hw3, hg12]; simp [go_sem]
          have t4 : w3.cell? ⟨g12, 4, none⟩ = some (.slice ak nk ck) := by rw [hw3, hg12]; simp [go_sem]
          have e0 : w3.cell? ⟨g12 + 1, 0, none⟩ = some (.int .i64 0) := by rw [hw3, hg12]; simp [go_sem]
          have HB3 : Hid (Below wr.heap.size wr w3) := HB2.out.trans (hb3.mono HB2.out.size)
          have HG3 : Hid (w3.heap.size = g12 + 2) := by show _ = _; rw [hw3, hg12]; simp
          obtain ⟨⟨i0, i1, i2, i3, i4⟩, ⟨j0, j1', j2, j3, j4⟩⟩ := HIB.out.keep HB3.out
          have HO3 : Hid (OwnI w3 (w.heap.size + 3) (fun k => w.heap.size + 3 ≤ k) v acc) := HO.out.keep HB3.out
          have HFAR : Hid (∀ i, v.ownBlock = some i → w.heap.size + 3 ≤ i ∧ i < wr.heap.size) := Lib.hid (fun i hi => HO.out.far i hi)
          have HRX3 : Hid (RdIt (fun k => wr.heap.size ≤ k ∧ k < w3.heap.size) w3 x #[.int .i64 ki, .int .u64 (ni : Nat), .slice ab nb cb, .string text, .slice ak nk ck]) := by
            refine Lib.hid ((HRX.out.imp (S' := fun k => wr.heap.size ≤ k ∧ k < w3.heap.size) (fun k hk h => ⟨h, ?_⟩)).below hb3)
            have := hb3.size; omega
          rw [← hg12] at hz2 ⊢
          have q0' : w.heap.size + 2 < w3.heap.size := by have := HG3.out; omega
          have q1' : g12 < w3.heap.size := by have := HG3.out; omega
          have q2' : g12 + 1 < w3.heap.size := by have := HG3.out; omega
          have HQ0 := Lib.hid q0'
          clear hw3 hg12 hb3
          have hln : acc.len + 1 ≤ 1000000000 := by have := HLQ.out; have := HQN.out; omega
          go_wp2_with (at_builtin; refine wpList_appI (v := v) (f := acc) (g := .cons x .nil) (B := w.heap.size + 3) (L := fun k => w.heap.size + 3 ≤ k) (S1 := fun k => wr.heap.size ≤ k ∧ k < w3.heap.size) (sv := .slice (some ⟨w3.heap.size, 0, none⟩) 1 1) (by rfl) _ _ (by rfl) (by rfl) ?oO (by rfl) ?oS ?oL ?oB ?oH ?_)
          case oO => exact HO3.out.keep ((Below.refl _ _).alloc (Nat.le_refl _) _)
          case oS =>
            refine SrcI.one (c := #[.int .i64 ki, .int .u64 (ni : Nat), .slice ab nb cb, .string text, .slice ak nk ck]) ?_ ?_
            · exact HRX3.out.below ((Below.refl _ _).alloc (Nat.le_refl _) _)
            · intro j u hj
              match j with
              | 0 => simp at hj; subst hj; simp [go_sem]
              | 1 => simp at hj; subst hj; simp [go_sem]
              | 2 => simp at hj; subst hj; simp [go_sem]
              | 3 => simp at hj; subst hj; simp [go_sem]
              | 4 => simp at hj; subst hj; simp [go_sem]
              | j + 5 => simp at hj
          case oL => exact fun k hk => ⟨by have := HZR.out; have := hk.1; omega, fun e => by have := (HFAR.out k e).2; have := hk.1; omega⟩
          case oB => simp only [IL.len]; omega
          case oH => have := HQ0.out; simp; omega
          intro v4 w4 ho4 ha4
          have HO4 := Lib.hid ho4
          have HA4 := Lib.hid ha4
          have HB34 : Hid (Below wr.heap.size wr (w3.alloc (.cells #[.int .i64 ki, .int .u64 (ni : Nat), .slice ab nb cb, .string text, .slice ak nk ck] 26))) := HB3.out.trans (((Below.refl _ w3).alloc (Nat.le_refl _) _).mono HB3.out.size)
          have hx4 : Chg (fun i => v.ownBlock = some i) w3 w4 := Chg.trans ((Chg.refl _ _).alloc _) ha4.chg (fun i hi e => e)
          have nv' : ¬ v.ownBlock = some (w.heap.size + 2) := fun e => by have := (HFAR.out _ e).1; omega
          have y4 : w4.cell? ⟨w.heap.size + 2, 4, none⟩ = some v := hx4.cell (p := ⟨w.heap.size + 2, 4, none⟩) nv' i4
          have y5 : w4.frozen? ⟨w.heap.size + 2, 4, none⟩ = false := by rw [hx4.frozen (p := ⟨w.heap.size + 2, 4, none⟩) nv' HQ0.out]; exact j4
          obtain ⟨a4, c4, e4, -⟩ := ho4.reads (fun k h => h)
          obtain ⟨m4, hm4⟩ : ∃ m, m = (acc.append (.cons x .nil)).len := ⟨_, rfl⟩
          rw [← hm4] at e4
          subst e4
          clear ho4 ha4 hx4 i0 i1 i2 i3 i4 j0 j1' j2 j3 j4 t0 t1' t2 t3 t4 e0 q0' q1' q2' nv' hm4
          go_wp2_with fail
          go_roundw
          case rel =>
            have hkn := RInv.next (n := n) HIB.out HBX.out HO.out HBR.out HZR.out HLQ.out HRS.out HR2.out.symm HQQ.out HQ2.out HB34.out HO4.out HA4.out
            rw [HCC.out] at hkn
            exact ⟨t1, q2, rfl, rfl, HT1.out.1, hkn⟩
          case measure => have := HT1.out; simp only [intOf]; omega

end Go.Proofs.Ytambhapgjonmmaa
