/- cbor.kids, walked over a contract of reading. -/
import Derived.Test.YtambhapgjonmmaaCbY0
import Derived.Test.YtambhapgjonmmaaCbZ
namespace Go.Proofs.Ytambhapgjonmmaa
open Go.RowKit
set_option linter.unusedVariables false
set_option linter.unusedSimpArgs false

/-- The box of the item that is built. -/
def KBx (W : World) (gb : Nat) (k : Int) (nn : Nat) (v : Value) : Prop :=
  W.cell? ⟨gb, 0, none⟩ = some (.int .i64 k) ∧ W.cell? ⟨gb, 1, none⟩ = some (.int .u64 (nn : Nat)) ∧ W.cell? ⟨gb, 2, none⟩ = some (.slice none 0 0) ∧ W.cell? ⟨gb, 3, none⟩ = some (.string ⟨#[]⟩) ∧ W.cell? ⟨gb, 4, none⟩ = some v ∧ W.frozen? ⟨gb, 4, none⟩ = false
theorem KBx.chg {S : Nat → Prop} {W W' : World} {gb : Nat} {k : Int} {nn : Nat} {v : Value} (h : KBx W gb k nn v) (hc : Chg S W W') (hg : ¬ S gb) : KBx W' gb k nn v := by
  have hl : gb < W.heap.size := by simpa using cell_block h.1
  exact ⟨hc.cell hg h.1, hc.cell hg h.2.1, hc.cell hg h.2.2.1, hc.cell hg h.2.2.2.1, hc.cell hg h.2.2.2.2.1, by rw [hc.frozen (p := ⟨gb, 4, none⟩) hg hl]; exact h.2.2.2.2.2⟩
theorem KBx.set {W : World} {gb : Nat} {k : Int} {nn : Nat} {v v' : Value} (h : KBx W gb k nn v) : KBx (W.setCell ⟨gb, 4, none⟩ v') gb k nn v' := by
  obtain ⟨h0, h1, h2, h3, h4, h5⟩ := h
  refine ⟨?_, ?_, ?_, ?_, ?_, ?_⟩ <;> simp [go_sem, *]
theorem KBx.new (w : World) (k : Int) (nn : Nat) (t : TypeId) : KBx (w.alloc (.cells #[.int .i64 k, .int .u64 (nn : Nat), .slice none 0 0, .string ⟨#[]⟩, .slice none 0 0] t)) w.heap.size k nn (.slice none 0 0) := by
  refine ⟨?_, ?_, ?_, ?_, ?_, ?_⟩ <;> simp [go_sem]
/-- Where the loops of kids stand: so many items are left. -/
def KInv (wa : World) (r gb g h : Nat) (bs : List UInt8) (k : Int) (nn B : Nat) (rd : Nat → Rs I) (R : Rs I) (c : Nat) (wr : World) : Prop :=
  ∃ (acc : IL) (v : Value) (q : Nat), KBx wr gb k nn v ∧ RBz wr g h ∧ RdrB wr r bs q gb ∧ OwnI wr B (fun k => B ≤ k) v acc ∧ Chg (fun i => i = r ∨ i = gb) wa wr ∧ (acc.len ≤ q ∧ q ≤ bs.length) ∧ wr.cell? ⟨r, 0, none⟩ = wa.cell? ⟨r, 0, none⟩ ∧ R = wrapK k nn acc (kidsW rd c q)
theorem KInv.next {wa wr w2 w3 w4 : World} {r gb g h : Nat} {bs : List UInt8} {k : Int} {nn B : Nat} {rd : Nat → Rs I} {R : Rs I} {c q q2 : Nat} {acc : IL} {v v4 : Value} {x : I}
    (hkb : KBx wr gb k nn v) (hbx : RBz wr g h) (hrd : RdrB wr r bs q gb) (hown : OwnI wr B (fun k => B ≤ k) v acc) (hchg : Chg (fun i => i = r ∨ i = gb) wa wr) (hl : acc.len ≤ q ∧ q ≤ bs.length) (hce : wr.cell? ⟨r, 0, none⟩ = wa.cell? ⟨r, 0, none⟩) (hres : R = wrapK k nn acc (kidsW rd (c + 1) q))
    (hrq : rd q = .ok (x, q2)) (hqq : q < q2) (hc2 : Chg (fun i => i = r) wr w2) (hr2 : Rdr w2 r bs q2) (he2 : w2.cell? ⟨r, 0, none⟩ = wr.cell? ⟨r, 0, none⟩) (h3 : Below w2.heap.size w2 w3)
    (ho : OwnI w4 B (fun k => B ≤ k) v4 (acc.append (.cons x .nil))) (ha : AppF w3 w4 v v4) (hb : r < gb ∧ gb < g ∧ g < h ∧ h < B ∧ B = wa.heap.size) : KInv wa r gb g h bs k nn B rd R c (w4.setCell ⟨gb, 4, none⟩ v4) := by
  have hz := hchg.size
  have hz2 := hc2.size
  have hz3 := h3.size
  have hz4 := ha.size
  have h23 : Chg (fun _ => False) w2 w3 := Chg.of_below h3
  have far : ∀ i, v.ownBlock = some i → B ≤ i := fun i hi => (hown.far i hi).1
  have h4 : Chg (fun i => v.ownBlock = some i) w3 w4 := ha.chg
  have hX : (fun i => i = gb) gb := rfl
  have hs : Chg (fun i => i = gb) w4 (w4.setCell ⟨gb, 4, none⟩ v4) := Chg.setCell (S := fun i => i = gb) (p := ⟨gb, 4, none⟩) (Chg.refl _ w4) (fun _ => hX) v4
  have n4 : ∀ i, i < B → ¬ v.ownBlock = some i := fun i hi e => by have := far i e; omega
  have hall : Chg (fun i => i = r ∨ i = gb) wa (w4.setCell ⟨gb, 4, none⟩ v4) :=
    (((hchg.trans hc2 fun i hi e => .inl e).trans h23 fun _ _ e => e.elim).trans h4 fun i hi e => absurd e (n4 i (by omega))).trans hs fun i hi e => .inr e
  have kb4 : KBx w4 gb k nn v := ((hkb.chg hc2 (by omega)).chg h23 (fun e => e)).chg h4 (n4 gb (by omega))
  have bx4 : RBz w4 g h := ((hbx.chg hc2 (by omega) (by omega)).chg h23 (fun e => e) (fun e => e)).chg h4 (n4 g (by omega)) (n4 h (by omega))
  have rb4 : RdrB w4 r bs q2 gb := ((hrd.step hr2 he2).chg h23 (fun e => e) (fun i e => e.elim)).chg h4 (n4 r (by omega)) (fun i e => by have := far i e; omega)
  have lr : r < wr.heap.size := hrd.1.lt
  have hce4 : (w4.setCell ⟨gb, 4, none⟩ v4).cell? ⟨r, 0, none⟩ = wa.cell? ⟨r, 0, none⟩ := by
    rw [← hce, ← he2]
    obtain ⟨a, cap, h1, -⟩ := hr2
    rw [h1]
    exact hs.cell (p := ⟨r, 0, none⟩) (by show ¬ r = gb; omega) (h4.cell (n4 r (by omega)) (h23.cell (fun e => e) h1))
  refine ⟨acc.append (.cons x .nil), v4, q2, kb4.set, bx4.chg hs (by omega) (by omega), rb4.chg hs (by omega) (fun i e => Nat.le_of_eq e.symm), ?_, hall, ?_, hce4, hres.trans (wrapK_ok hrq)⟩
  · exact ho.chg hs (fun i hi e => by have : B ≤ i := hi; have : i = gb := e; omega) (fun i hi e => by have := (ho.far i hi).1; have : i = gb := e; omega)
  · have hq2 : q2 ≤ bs.length := hr2.le
    rw [IL.append_len]
    simp only [IL.len]
    omega

theorem kids_fin {w wa wr W' : World} {r : Nat} {bs : List UInt8} {k : Int} {nn q m c9 : Nat} {a9 : Option Addr} {acc : IL}
    (hbw : Below w.heap.size w wa) (hz : wa.heap.size = w.heap.size + 3) (hlt : r < w.heap.size) (ho : OwnI wr (w.heap.size + 3) (fun k => w.heap.size + 3 ≤ k) (.slice a9 m c9) acc) (hm : m = acc.len) (hrd : RdrB wr r bs q w.heap.size)
    (hch : Chg (fun i => i = r ∨ i = w.heap.size) wa wr) (hce : wr.cell? ⟨r, 0, none⟩ = wa.cell? ⟨r, 0, none⟩) (hk : -9223372036854775808 ≤ k ∧ k ≤ 9223372036854775807) (hnn : nn < okSize)
    (hX : Chg (fun i => i = w.heap.size + 1 ∨ i = w.heap.size + 2) wr W') : ReadO w r bs (.ok (.mk k nn [] ⟨#[]⟩ acc, q)) (.returned (.tuple #[.agg #[.int .i64 k, .int .u64 (nn : Nat), .slice none 0 0, .string ⟨#[]⟩, .slice a9 m c9], fltV 0 0])) W' := by
  have hw : Chg (fun i => i = r) w W' := ((Chg.of_below (S := fun i => i = r) hbw).trans hch fun i hi e => by omega).trans hX fun i hi e => by omega
  have hr2 : RdrB W' r bs q w.heap.size := hrd.chg hX (by omega) (fun i e => by omega)
  have ho2 : OwnI W' (w.heap.size + 3) (fun k => w.heap.size + 3 ≤ k) (.slice a9 m c9) acc := ho.chg hX (fun i hi e => by have : w.heap.size + 3 ≤ i := hi; omega) (fun i hi e => by have := (ho.far i hi).1; omega)
  obtain ⟨a', c', e', h1, h2, h3⟩ := ho2.reads (L := fun k => w.heap.size + 3 ≤ k) (fun k h => h)
  simp only [Value.slice.injEq] at e'
  obtain ⟨rfl, rfl, rfl⟩ := e'
  refine ⟨hw, _, rfl, ⟨none, 0, 0, _, _, _, rfl, ⟨hk, hnn, by decide⟩, ⟨RdB.nil _ _, fun h => absurd h (by omega)⟩, rfl, ⟨h3, h2, ⟨fun _ => rfl, Nat.le_refl _⟩⟩, ?_⟩, hr2.1, ?_⟩
  · exact RdIs.imp (fun k _ hk => by have : w.heap.size + 3 ≤ k := hk; omega) h1
  · obtain ⟨a, cap, e1, -⟩ := hrd.1
    have e2 := cell_eq_below hbw hlt (i := 0)
    rw [show w.cell? ⟨r, 0, none⟩ = wr.cell? ⟨r, 0, none⟩ from e2.symm.trans hce.symm, e1]
    exact hX.cell (p := ⟨r, 0, none⟩) (by show ¬ (r = _ ∨ r = _); omega) e1
theorem kids_chg {w wa wr w2 w3 : World} {r : Nat} (hbw : Below w.heap.size w wa) (hz : wa.heap.size = w.heap.size + 3) (hch : Chg (fun i => i = r ∨ i = w.heap.size) wa wr) (h2 : Chg (fun i => i = r) wr w2) (h3 : Below w2.heap.size w2 w3) : Chg (fun i => i = r) w w3 :=
  (((Chg.of_below (S := fun i => i = r) hbw).trans hch fun i hi e => by omega).trans h2 fun i hi e => e).trans (Chg.of_below (S := fun _ => False) h3) fun i hi e => e.elim

set_option maxRecDepth 100000 in
set_option maxHeartbeats 16000000 in
theorem kids_step (d : Nat) (hd : d ≤ 1000) (hRS : ReadSaid d) : KidsSaid28 d := by
  intro bs hl9 r p k nn n e w h hlt hk hnn hn he
  obtain ⟨rd, hrd⟩ : ∃ f, f = readQ bs d := ⟨_, rfl⟩
  have CR : Hid (∀ q W, Rdr W r bs q → r < W.heap.size → Calls Try.prog 31 #[.pointer (some ⟨r, 0, none⟩), .int .i64 d] W (ReadO W r bs (rd q))) := by
    show ∀ q W, _
    intro q W hr hl
    rw [hrd]
    exact hRS bs hl9 r q W hr hl
  have HMO : Hid (∀ q x q2, q ≤ bs.length → rd q = .ok (x, q2) → q < q2) := by
    show ∀ q x q2, _
    intro q x q2 hq hh
    rw [hrd] at hh
    exact readQ_more bs d q x q2 hq hh
  have HFN : Hid (∀ q x a, q ≤ bs.length → rd q = .error (x, a) → (1 ≤ x ∧ x ≤ 10) ∧ a ≤ bs.length) := by
    show ∀ q x a, _
    intro q x a hq hh
    rw [hrd] at hh
    have := readQ_fine bs d q hq
    rw [hh] at this
    exact ⟨this.1, this.2.1⟩
  rw [← hrd]
  obtain ⟨R, hR⟩ : ∃ R, R = withKids k nn (kidsW rd (n * e) p) := ⟨_, rfl⟩
  rw [← hR]
  rw [wrapK_nil] at hR
  have HRR := Lib.hid hR
  obtain ⟨wa, hwa⟩ : ∃ W, W = ((w.alloc (.cells #[.int .i64 k, .int .u64 (nn : Nat), .slice none 0 0, .string ⟨#[]⟩, .slice none 0 0] 26)).alloc (.cells #[.int .i64 0, .int .u64 0, .slice none 0 0, .string ⟨#[]⟩, .slice none 0 0] 26)).alloc (.cells #[.int .i64 0, .int .i64 0, .slice none 0 0] 35) := ⟨_, rfl⟩
  have hz : wa.heap.size = w.heap.size + 3 := by rw [hwa]; simp
  have hbw : Below w.heap.size w wa := by
    rw [hwa]
    exact (((Below.refl _ _).alloc (Nat.le_refl _) _).alloc (by simp) _).alloc (by simp; omega) _
  have H0 : Hid (KInv wa r w.heap.size (w.heap.size + 1) (w.heap.size + 2) bs k nn (w.heap.size + 3) rd R (n * e) wa) := by
    refine Lib.hid ⟨.nil, .slice none 0 0, p, ?_, ?_, (RdrB.new h).chg (Chg.of_below (S := fun _ => False) hbw) (fun e => e) (fun i e => e.elim), OwnI.nil _ _ _, Chg.refl _ _, ⟨by simp [IL.len], h.le⟩, rfl, hR⟩
    · rw [hwa]
      exact ((KBx.new w k nn _).chg (Chg.of_below (S := fun _ => False) ((Below.refl _ _).alloc (Nat.le_refl _) _)) (fun e => e)).chg (Chg.of_below (S := fun _ => False) ((Below.refl _ _).alloc (Nat.le_refl _) _)) (fun e => e)
    · rw [hwa]
      have := RBz.new (w.alloc (.cells #[.int .i64 k, .int .u64 (nn : Nat), .slice none 0 0, .string ⟨#[]⟩, .slice none 0 0] 26)) 26 35
      simpa using this
  have HZ := Lib.hid hz
  have HBW := Lib.hid hbw
  have HLT := Lib.hid hlt
  have HEQ : Hid (∀ q, wa.cell? ⟨r, 0, none⟩ = q → w.cell? ⟨r, 0, none⟩ = q) := by
    show ∀ q, _
    intro q hq
    rw [← hq]
    exact (cell_eq_below hbw hlt).symm
  have D1 : IntKind.i64.wrap (((d + 1 : Nat) : Int) - 1) = (d : Int) := (IntWalk.i64_in _ (by omega)).trans (by omega)
  obtain ⟨D, hD⟩ : ∃ D, D = d + 1 := ⟨_, rfl⟩
  rw [← hD] at D1 ⊢
  have he2 : e ≤ 2 := by omega
  have hk9 := hk
  clear h hlt hz hbw hR hrd hRS hD he hk hd
  go_enter Try.func50, Try.ntmps50
  go_upto_region 1 with fail
  rw [← hwa]
  clear hwa
  go_loopw [2] (fun u wr => ∃ c : Nat, c ≤ n ∧ u = .int .u64 (c : Nat) ∧ KInv wa r w.heap.size (w.heap.size + 1) (w.heap.size + 2) bs k nn (w.heap.size + 3) rd R (c * e) wr) (fun u _ => (intOf u).toNat)
  case atStart => exact ⟨n, Nat.le_refl _, rfl, H0.out⟩
  case round =>
    obtain ⟨c, hcn, rfl, hinv⟩ := hrel
    have HI := Lib.hid hinv
    clear hinv H0
    by_cases hc0 : c = 0
    · have dc : decide ((0 : Int) < (c : Int)) = false := by simp; omega
      have dc2 : decide (0 < c) = false := by simp; omega
      obtain ⟨acc, v, q, hkb, hbx, hrd, hown, hchg, hlq, hce, hres⟩ := HI.out
      have hc1 : c * e = 0 := by rw [hc0, Nat.zero_mul]
      rw [hc1, wrapK_end] at hres
      have HN := Lib.hid hres
      have HO := Lib.hid hown
      have HRD := Lib.hid hrd
      have HCH := Lib.hid hchg
      have HCE := Lib.hid hce
      obtain ⟨a9, c9, rfl, -⟩ := hown.reads (fun k h => h)
      obtain ⟨m9, hm9⟩ : ∃ m, m = acc.len := ⟨_, rfl⟩
      rw [← hm9] at HO hkb
      have HM9 := Lib.hid hm9
      obtain ⟨b0, b1, b2, b3, b4, b5⟩ := hkb
      obtain ⟨⟨⟨h0, h1, h2, h3, h4⟩, ⟨f0, f1, f2, f3, f4⟩, ⟨k0, k1, k2⟩, ⟨l0, l1, l2⟩⟩, -⟩ := hbx
      have HZW : Hid (w.heap.size + 3 ≤ wr.heap.size) := by show _ ≤ _; have := hchg.size; have := HZ.out; omega
      clear hc0 hc1 hres hown hrd hchg hlq hce HI CR HMO HFN hm9 HRR
      (repeat (first | go_values | go_skip | go_guarded | go_step | go_upon | (go_simp; go_at_K)))
      refine bodyPost_ret (v := .tuple #[.agg #[.int .i64 k, .int .u64 (nn : Nat), .slice none 0 0, .string ⟨#[]⟩, .slice a9 m9 c9], fltV 0 0]) (by simp [results, Try.results50, go_sem, *]) rfl ?_
      rw [HN.out]
      obtain ⟨W9, hW9⟩ : ∃ W, W = wr := ⟨_, rfl⟩
      refine kids_fin (wa := wa) (wr := wr) HBW.out HZ.out HLT.out HO.out HM9.out HRD.out HCH.out HCE.out ⟨by omega, by omega⟩ hnn ?_
      (repeat' (first | with_reducible exact Chg.refl _ _ | with_reducible apply Chg.drew | with_reducible refine Chg.alloc ?_ _ | with_reducible refine Chg.setCell ?_ (fun h => ?_) _))
      all_goals (dsimp only; omega)
    · obtain ⟨c1, hc1⟩ : ∃ c1, c1 = c - 1 := ⟨_, rfl⟩
      have dc : decide ((0 : Int) < (c : Int)) = true := by simp; omega
      have dc2 : decide (0 < c) = true := by simp; omega
      have wc : IntKind.u64.wrap ((c : Int) - 1) = (c1 : Int) := (IntWalk.u64_in _ (by unfold okSize at hn; omega)).trans (by omega)
      have H1 : Hid (KInv wa r w.heap.size (w.heap.size + 1) (w.heap.size + 2) bs k nn (w.heap.size + 3) rd R (c1 * e + (e - 0)) wr) := by
        have := HI.out
        rw [show c * e = c1 * e + (e - 0) from by rw [show c = c1 + 1 from by omega, Nat.add_mul]; omega] at this
        exact Lib.hid this
      have HC1 : Hid (c1 < c ∧ c1 ≤ n) := by show _ ∧ _; omega
      obtain ⟨wo, rfl⟩ : ∃ wo : World, wo = wr := ⟨_, rfl⟩
      clear HI hc0 hc1 hcn
      go_wp2_with fail
      go_loopw [19] (fun u wr => ∃ j : Nat, j ≤ e ∧ u = .int .i64 (j : Nat) ∧ KInv wa r w.heap.size (w.heap.size + 1) (w.heap.size + 2) bs k nn (w.heap.size + 3) rd R (c1 * e + (e - j)) wr) (fun u _ => e - (intOf u).toNat)
      case atStart => exact ⟨0, Nat.zero_le _, rfl, H1.out⟩
      case round =>
        obtain ⟨j, hje, rfl, hinv⟩ := hrel
        clear H1
        by_cases hj : j < e
        case neg =>
          have dj : decide ((j : Int) < (e : Int)) = false := by simp; omega
          have dj2 : decide (j < e) = false := by simp; omega
          have H2 : Hid (KInv wa r w.heap.size (w.heap.size + 1) (w.heap.size + 2) bs k nn (w.heap.size + 3) rd R (c1 * e) wr) := by
            rw [show c1 * e + (e - j) = c1 * e from by omega] at hinv
            exact Lib.hid hinv
          clear hinv hj hje
          go_wp2_with fail
          go_roundw
          case rel => exact ⟨c1, HC1.out.2, rfl, H2.out⟩
          case measure => have := HC1.out.1; simp only [intOf]; omega
        have dj : decide ((j : Int) < (e : Int)) = true := by simp; omega
        have dj2 : decide (j < e) = true := by simp; omega
        have wj : IntKind.i64.wrap ((j : Int) + 1) = ((j + 1 : Nat) : Int) := (IntWalk.i64_in _ (by omega)).trans (by omega)
        obtain ⟨j1, hj1⟩ : ∃ j1, j1 = j + 1 := ⟨_, rfl⟩
        rw [← hj1] at wj
        have HJ1 : Hid (j1 ≤ e ∧ j < j1) := by show _ ∧ _; omega
        obtain ⟨cc, hcc⟩ : ∃ cc, cc = c1 * e + (e - j1) := ⟨_, rfl⟩
        rw [show c1 * e + (e - j) = cc + 1 from by omega] at hinv
        have HCC := Lib.hid hcc
        obtain ⟨acc, v, q, hkb, hbx, hrd, hown, hchg, hlq, hce, hres⟩ := hinv
        have HKB := Lib.hid hkb
        have HBX := Lib.hid hbx
        have HRD := Lib.hid hrd
        have HO := Lib.hid hown
        have HCH := Lib.hid hchg
        have HLQ := Lib.hid hlq
        have HCE := Lib.hid hce
        have HRS := Lib.hid hres
        have hlr : r < wr.heap.size := hrd.1.lt
        have C1 := Lib.hid (CR.out q wr hrd.1 hlr)
        have HMO1 := Lib.hid (fun x q2 => HMO.out q x q2 hlq.2)
        have HFN1 := Lib.hid (fun x a => HFN.out q x a hlq.2)
        have HLR := Lib.hid hlr
        have HZR : Hid (w.heap.size + 3 ≤ wr.heap.size) := by show _ ≤ _; have := hchg.size; have := HZ.out; omega
        obtain ⟨R2, hR2⟩ : ∃ x, x = rd q := ⟨_, rfl⟩
        rw [← hR2] at C1 HMO1 HFN1
        have HR2 := Lib.hid hR2
        clear hkb hbx hrd hown hchg hlq hce hres hlr CR HMO HFN hj hje hj1 hcc hR2
        go_wp2_with fail
        refine C1.out.mono ?_
        rintro ee w2 ⟨hc2, hres⟩
        have HC2 := Lib.hid hc2
        have hz2 : w.heap.size + 3 ≤ w2.heap.size := by have := hc2.size; have := HZR.out; omega
        clear hc2 C1
        cases R2 with
        | error xa =>
          obtain ⟨x, a⟩ := xa
          have hfn := HFN1.out x a rfl
          subst hres
          have b2 : ((x : Int) != 0) = true := by simp; omega
          have HN : Hid (R = .error (x, a)) := HRS.out.trans (wrapK_err HR2.out.symm)
          have HBX2 := Lib.hid (HBX.out.chg HC2.out (by have := HLT.out; omega) (by have := HLT.out; omega))
          clear HFN1 HMO1 hfn
          go_upto_region 6 with fail
          obtain ⟨w3, hw3⟩ : ∃ W, W = (w2.alloc (.cells #[.int .i64 0, .int .u64 0, .slice none 0 0, .string ⟨#[]⟩, .slice none 0 0] 26)).alloc (.cells #[.int .i64 (x : Nat), .int .i64 (a : Nat), .slice none 0 0] 35) := ⟨_, rfl⟩
          rw [← hw3]
          have hb3 : Below w2.heap.size w2 w3 := by rw [hw3]; exact ((Below.refl _ _).alloc (Nat.le_refl _) _).alloc (by simp) _
          obtain ⟨g12, hg12⟩ : ∃ g, g = w2.heap.size := ⟨_, rfl⟩
          have t0 : w3.cell? ⟨g12 + 1, 0, none⟩ = some (.int .i64 (x : Nat)) := by rw [hw3, hg12]; simp [go_sem]
          have t1 : w3.cell? ⟨g12 + 1, 1, none⟩ = some (.int .i64 (a : Nat)) := by rw [hw3, hg12]; simp [go_sem]
          have t2 : w3.cell? ⟨g12 + 1, 2, none⟩ = some (.slice none 0 0) := by rw [hw3, hg12]; simp [go_sem]
          obtain ⟨⟨⟨h0, h1, h2, h3, h4⟩, ⟨f0, f1, f2, f3, f4⟩, ⟨k0, k1, k2⟩, ⟨l0, l1, l2⟩⟩, -⟩ := HBX2.out.keep hb3
          have HB3 := Lib.hid hb3
          rw [← hg12] at hz2 ⊢
          have n1 : ¬ w.heap.size + 1 = g12 + 1 := by omega
          have m1 : ¬ g12 + 1 = w.heap.size + 1 := by omega
          have n2 : ¬ w.heap.size + 2 = g12 + 1 := by omega
          have m2 : ¬ g12 + 1 = w.heap.size + 2 := by omega
          clear hw3 hg12 hb3
          go_wp2_with fail
          go_region_held3 (fun W => W.cell? ⟨g12 + 1, 0, none⟩ = some (.int .i64 (x : Nat)) ∧ W.cell? ⟨g12 + 1, 1, none⟩ = some (.int .i64 (a : Nat)) ∧ W.cell? ⟨g12 + 1, 2, none⟩ = some (.slice none 0 0)) (first | (simp [go_sem, *]; done) | go_keep) (fail)
          all_goals
            (repeat (first | go_values | go_skip | go_guarded | go_step | go_upon | (go_simp; go_at_K)))
            refine bodyPost_ret (v := .tuple #[zIt, fltV x a]) (by simp [results, Try.results50, go_sem, *]) rfl ?_
            rw [HN.out]
            refine read_err ?_
            have HCW : Chg (fun k => k = r) w w3 := kids_chg HBW.out HZ.out HCH.out HC2.out HB3.out
            (repeat' (first | with_reducible exact HCW | with_reducible apply Chg.drew | with_reducible refine Chg.alloc ?_ _ | with_reducible refine Chg.setCell ?_ (fun h => ?_) _))
            all_goals (dsimp only at h; omega)
        | ok xq =>
          obtain ⟨x, q2⟩ := xq
          obtain ⟨cx, rfl, hrx, hr2, he3⟩ := hres
          have HRX := Lib.hid hrx
          have HRD2 := Lib.hid hr2
          have HE2 := Lib.hid he3
          have HQQ := Lib.hid (HMO1.out x q2 rfl)
          obtain ⟨ki, ni, ab, nb, cb, text, ak, nk, ck, rfl⟩ := hrx.shape
          clear HFN1 HMO1 hrx hr2 he3
          go_upto_region 6 with fail
          obtain ⟨w3, hw3⟩ : ∃ W, W = (w2.alloc (.cells #[.int .i64 ki, .int .u64 (ni : Nat), .slice ab nb cb, .string text, .slice ak nk ck] 26)).alloc (.cells #[.int .i64 0, .int .i64 0, .slice none 0 0] 35) := ⟨_, rfl⟩
          rw [← hw3]
          have hb3 : Below w2.heap.size w2 w3 := by rw [hw3]; exact ((Below.refl _ _).alloc (Nat.le_refl _) _).alloc (by simp) _
          obtain ⟨g12, hg12⟩ : ∃ g, g = w2.heap.size := ⟨_, rfl⟩
          have t0 : w3.cell? ⟨g12, 0, none⟩ = some (.int .i64 ki) := by rw [hw3, hg12]; simp [go_sem]
          have t1 : w3.cell? ⟨g12, 1, none⟩ = some (.int .u64 (ni : Nat)) := by rw [hw3, hg12]; simp [go_sem]
          have t2 : w3.cell? ⟨g12, 2, none⟩ = some (.slice ab nb cb) := by rw [hw3, hg12]; simp [go_sem]
          have t3 : w3.cell? ⟨g12, 3, none⟩ = some (.string text) := by rw [hw3, hg12]; simp [go_sem]
          have t4 : w3.cell? ⟨g12, 4, none⟩ = some (.slice ak nk ck) := by rw [hw3, hg12]; simp [go_sem]
          have e0 : w3.cell? ⟨g12 + 1, 0, none⟩ = some (.int .i64 0) := by rw [hw3, hg12]; simp [go_sem]
          have HB3 := Lib.hid hb3
          have HG12 := Lib.hid hg12
          have HG3 : Hid (w3.heap.size = g12 + 2) := by show _ = _; rw [hw3, hg12]; simp
          obtain ⟨b0, b1, b2, b3, b4, b5⟩ := (HKB.out.chg HC2.out (by have := HLT.out; omega)).chg (Chg.of_below (S := fun _ => False) hb3) (fun e => e)
          have HO3 : Hid (OwnI w3 (w.heap.size + 3) (fun k => w.heap.size + 3 ≤ k) v acc) := by
            refine Lib.hid ((HO.out.chg HC2.out (fun i hi e => ?_) (fun i hi e => ?_)).keep hb3)
            · have := HLT.out; have h7 : w.heap.size + 3 ≤ i := hi; omega
            · have := HLT.out; have := (HO.out.far i hi).1; omega
          have HFAR : Hid (∀ i, v.ownBlock = some i → w.heap.size + 3 ≤ i ∧ i < wr.heap.size) := Lib.hid (fun i hi => HO.out.far i hi)
          have HRX3 : Hid (RdIt (fun k => wr.heap.size ≤ k ∧ k < w3.heap.size) w3 x #[.int .i64 ki, .int .u64 (ni : Nat), .slice ab nb cb, .string text, .slice ak nk ck]) := by
            refine Lib.hid ((HRX.out.imp (S' := fun k => wr.heap.size ≤ k ∧ k < w3.heap.size) (fun k hk h => ⟨h, ?_⟩)).below hb3)
            have := hb3.size; omega
          rw [← hg12] at hz2 ⊢
          have q0 : w.heap.size < w3.heap.size := by have := HG3.out; omega
          have q1 : g12 < w3.heap.size := by have := HG3.out; omega
          have q2' : g12 + 1 < w3.heap.size := by have := HG3.out; omega
          have HQ0 := Lib.hid q0
          clear hw3 hg12 hb3
          have hln : acc.len + 1 ≤ 1000000000 := by have := HLQ.out; omega
          go_wp2_with (at_builtin; refine wpList_appI (v := v) (f := acc) (g := .cons x .nil) (B := w.heap.size + 3) (L := fun k => w.heap.size + 3 ≤ k) (S1 := fun k => wr.heap.size ≤ k ∧ k < w3.heap.size) (sv := .slice (some ⟨w3.heap.size, 0, none⟩) 1 1) (by rfl) _ _ (by rfl) (by rfl) ?oO (by rfl) ?oS ?oL ?oB ?oH ?_)
          case oO => exact HO3.out.keep ((Below.refl _ _).alloc (Nat.le_refl _) _)
          case oS =>
            refine SrcI.one (c := #[.int .i64 ki, .int .u64 (ni : Nat), .slice ab nb cb, .string text, .slice ak nk ck]) ?_ ?_
            · exact HRX3.out.below ((Below.refl _ _).alloc (Nat.le_refl _) _)
            · intro j u hj
              match j with
              | 0 => simp at hj; subst hj; simp [go_sem]
              | 1 => simp at hj; subst hj; simp [go_sem]
              | 2 => simp at hj; subst hj; simp [go_sem]
              | 3 => simp at hj; subst hj; simp [go_sem]
              | 4 => simp at hj; subst hj; simp [go_sem]
              | j + 5 => simp at hj
          case oL => exact fun k hk => ⟨by have := HZR.out; have := hk.1; omega, fun e => by have := (HFAR.out k e).2; have := hk.1; omega⟩
          case oB => simp only [IL.len]; omega
          case oH => have := HQ0.out; have := HG3.out; simp; omega
          intro v4 w4 ho4 ha4
          have HO4 := Lib.hid ho4
          have HA4 := Lib.hid ha4
          have hb34 := HB3.out.trans (((Below.refl _ w3).alloc (Nat.le_refl _) (.cells #[.int .i64 ki, .int .u64 (ni : Nat), .slice ab nb cb, .string text, .slice ak nk ck] 26)).mono HB3.out.size)
          have HB34 := Lib.hid hb34
          have hx4 : Chg (fun i => v.ownBlock = some i) w3 w4 := Chg.trans ((Chg.refl _ _).alloc _) ha4.chg (fun i hi e => e)
          have nv : ¬ v.ownBlock = some w.heap.size := fun e => by have := (HFAR.out _ e).1; omega
          have y4 : w4.cell? ⟨w.heap.size, 4, none⟩ = some v := hx4.cell (p := ⟨w.heap.size, 4, none⟩) nv b4
          have y5 : w4.frozen? ⟨w.heap.size, 4, none⟩ = false := by rw [hx4.frozen (p := ⟨w.heap.size, 4, none⟩) nv HQ0.out]; exact b5
          obtain ⟨a4, c4, e4, -⟩ := ho4.reads (fun k h => h)
          obtain ⟨m4, hm4⟩ : ∃ m, m = (acc.append (.cons x .nil)).len := ⟨_, rfl⟩
          rw [← hm4] at e4
          subst e4
          clear ho4 ha4 hx4 b0 b1 b2 b3 b4 b5 t0 t1 t2 t3 t4 e0 q0 q1 q2' nv hb34 hm4
          go_wp2_with fail
          go_roundw
          case rel =>
            have hkn := KInv.next HKB.out HBX.out HRD.out HO.out HCH.out HLQ.out HCE.out HRS.out HR2.out.symm HQQ.out HC2.out HRD2.out HE2.out HB34.out HO4.out HA4.out (by have := HLT.out; have := HZ.out; omega)
            rw [HCC.out] at hkn
            exact ⟨j1, HJ1.out.1, rfl, hkn⟩
          case measure => have := HJ1.out; simp only [intOf]; omega

end Go.Proofs.Ytambhapgjonmmaa
