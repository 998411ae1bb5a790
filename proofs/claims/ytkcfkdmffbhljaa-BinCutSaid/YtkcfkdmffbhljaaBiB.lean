/- bin's reader: a text with its length, a binary. -/
import Derived.Test.YtkcfkdmffbhljaaBiA
import Derived.Test.YtkcfkdmffbhljaaBoG
namespace Go.Proofs.Ytkcfkdmffbhljaa
open Go.RowKit
set_option linter.unusedVariables false
set_option linter.unusedSimpArgs false

theorem BRd.at {w : World} {rb b o n c : Nat} {L : List UInt8} {deep : Nat} (h : BRd w rb b o n c L deep) (i : Nat) (hi : i < n) : w.cell? ⟨b, o + i, none⟩ = some (.int .u8 (bAt L i : Nat)) := by
  obtain ⟨b', o', ha, hc⟩ := h.2.2.1.at i hi
  simp only [Option.some.injEq, Addr.mk.injEq, and_true] at ha
  obtain ⟨rfl, rfl⟩ := ha
  exact hc
theorem BRd.sg {w : World} {rb b o n c : Nat} {L : List UInt8} {deep : Nat} (h : BRd w rb b o n c L deep) (p m : Nat) (hp : p + m ≤ n) : RdB w (some ⟨b, o + p, none⟩) m (seg L p m) :=
  seg_rd (by rw [h.2.2.1.1]; exact h.2.2.1) p m (by rw [h.2.2.1.1]; exact hp)
/-- As one parts it: a reader's bytes from p to e. -/
theorem BRd.part {w : World} {rb b o n c : Nat} {L : List UInt8} {deep : Nat} (h : BRd w rb b o n c L deep) (p e : Nat) (hp : p ≤ e) (he : e ≤ n) : RdB w (some ⟨b, o + p, none⟩) (e - p) (seg L p (e - p)) := h.sg p (e - p) (by omega)

/-- Two numbers and bytes, or a fault. -/
def BinOut (x : Except (Nat × Nat) (Nat × List UInt8 × Nat)) (w : World) (e : Ending) (w' : World) : Prop :=
  (match x with
   | .error (er, a) => e = .returned (.tuple #[.int .i64 0, .slice none 0 0, .int .i64 0, fltV er a])
   | .ok (sub, l, n) => ∃ a c, e = .returned (.tuple #[.int .i64 (sub : Nat), .slice a l.length c, .int .i64 (n : Nat), fltV 0 0]) ∧ RdBS (fun k => w.heap.size ≤ k) w' a l.length l ∧ Roomy a l.length c) ∧ Below w.heap.size w w'

set_option maxRecDepth 100000 in
set_option maxHeartbeats 8000000 in
theorem text_calls (rb b o n c : Nat) (L : List UInt8) (deep : Nat) (w : World) (h : BRd w rb b o n c L deep) (q z : Nat) (hq : q ≤ z) (hz : z ≤ n) :
    Calls Try.prog 76 #[.pointer (some ⟨rb, 0, none⟩), .int .i64 (q : Nat), .int .i64 (z : Nat)] w (TxtOut (textQ L q z) w) := by
  obtain ⟨wa, hwa⟩ : ∃ W, W = w.alloc (.cells #[.int .i64 0, .int .i64 0, .slice none 0 0] 34) := ⟨_, rfl⟩
  have hba : Below w.heap.size w wa := by rw [hwa]; exact (Below.refl _ _).alloc (Nat.le_refl _) _
  have HBA := Lib.hid hba
  obtain ⟨g, hg⟩ : ∃ g, g = w.heap.size := ⟨_, rfl⟩
  have hfb : FBox wa g := by rw [hwa, hg]; exact FBox.new _ _
  have HFA := Lib.hid hfb
  have HRA := Lib.hid (h.keep hba)
  have HG : Hid (g = w.heap.size) := hg
  have hL : L.length = n := h.2.2.1.1
  have hnc : n ≤ c := h.2.2.2.1
  have hnb : n ≤ 1000000 := h.2.2.2.2
  have CW := Lib.hid wrong_calls
  have CL := Lib.hid (fun W (h : BRd W rb b o n c L deep) p hp => length_calls rb b o n c L deep W h p hp)
  obtain ⟨r0, r1, r2, r3, r4⟩ := HRA.out
  have R0 := Lib.hid r0
  obtain ⟨z0, z1, z2, q0, q1, q2, hg1⟩ := hfb
  clear r1 r2 r3 r4 h hba
  have e1 : IntKind.i64.wrap ((z : Int) - (q : Int)) = (z : Int) - (q : Int) := IntWalk.i64_in _ (by omega)
  by_cases h1 : z < q + 4
  · have HX : Hid (textQ L q z = .error (2, q)) := by show _ = _; unfold textQ; rw [if_pos h1]
    have d1 : decide ((z : Int) - (q : Int) < 4) = true := by simp; omega
    clear h1
    go_enter Try.func76, Try.ntmps76
    go_upto_region 1 with fail
    rw [← hwa, ← hg]
    clear hwa hg
    go_wp2_with fail
    refine (CW.out _ _ _).mono ?_
    rintro e w1 ⟨rfl, hb1⟩
    have HB1 : Hid (Below wa.heap.size wa w1) := hb1
    have HF1 := Lib.hid (HFA.out.keep HB1.out)
    have HR1 := Lib.hid (HRA.out.keep HB1.out)
    clear r0 z0 z1 z2 q0 q1 q2 hg1
    clear hb1
    obtain ⟨r0, -, -, -, -⟩ := HR1.out
    obtain ⟨z0, z1, z2, q0, q1, q2, hg1⟩ := HF1.out
    go_wp2_with fail
    refine bodyPost_ret (v := .tuple #[.string ⟨#[]⟩, .int .i64 0, fltV 2 q]) (by simp [results, Try.results76, go_sem, *]) rfl ?_
    refine ⟨by rw [HX.out], ?_⟩
    have hfin : Below w.heap.size w w1 := HBA.out.trans (HB1.out.mono HBA.out.size)
    (repeat' (first | with_reducible exact hfin | with_reducible refine Below.setCell ?_ (by rw [HG.out]; exact Nat.le_refl _) _))
  have d1 : decide ((z : Int) - (q : Int) < 4) = false := by simp; omega
  have hq4n : q + 4 ≤ n := by omega
  obtain ⟨N, hN⟩ : ∃ N, N = len4 L q := ⟨_, rfl⟩
  have HN := Lib.hid hN
  have e2 : IntKind.i64.wrap ((z : Int) - (q : Int) - 4) = (z : Int) - (q : Int) - 4 := IntWalk.i64_in _ (by omega)
  by_cases h2 : N < 1
  · have HX : Hid (textQ L q z = .error (6, q)) := by show _ = _; unfold textQ; rw [if_neg h1, if_pos (by rw [← hN]; exact .inl h2)]
    have d2 : decide (N < 1) = true := by simpa using h2
    clear h2 hN
    go_enter Try.func76, Try.ntmps76
    go_upto_region 1 with fail
    rw [← hwa, ← hg]
    clear hwa hg
    go_wp2_with fail
    refine (CL.out _ HRA.out q (by omega)).mono ?_
    rintro e w1 ⟨rfl, hb1⟩
    have HB1 : Hid (Below wa.heap.size wa w1) := hb1
    have HF1 := Lib.hid (HFA.out.keep HB1.out)
    have HR1 := Lib.hid (HRA.out.keep HB1.out)
    clear r0 z0 z1 z2 q0 q1 q2 hg1
    clear hb1
    obtain ⟨r0, -, -, -, -⟩ := HR1.out
    obtain ⟨z0, z1, z2, q0, q1, q2, hg1⟩ := HF1.out
    rw [← HN.out]
    go_wp2_with fail
    refine (CW.out _ _ _).mono ?_
    rintro e w2 ⟨rfl, hb2⟩
    have HB2 : Hid (Below wa.heap.size wa w2) := HB1.out.trans (hb2.mono HB1.out.size)
    have HF2 := Lib.hid (HFA.out.keep HB2.out)
    have HR2 := Lib.hid (HRA.out.keep HB2.out)
    clear r0 z0 z1 z2 q0 q1 q2 hg1
    clear hb2
    obtain ⟨r0, -, -, -, -⟩ := HR2.out
    obtain ⟨z0, z1, z2, q0, q1, q2, hg1⟩ := HF2.out
    go_wp2_with fail
    refine bodyPost_ret (v := .tuple #[.string ⟨#[]⟩, .int .i64 0, fltV 6 q]) (by simp [results, Try.results76, go_sem, *]) rfl ?_
    refine ⟨by rw [HX.out], ?_⟩
    have hfin : Below w.heap.size w w2 := HBA.out.trans (HB2.out.mono HBA.out.size)
    (repeat' (first | with_reducible exact hfin | with_reducible refine Below.setCell ?_ (by rw [HG.out]; exact Nat.le_refl _) _))
  have d2 : decide (N < 1) = false := by simp; omega
  by_cases h3 : (z : Int) - q - 4 < N
  · have HX : Hid (textQ L q z = .error (6, q)) := by show _ = _; unfold textQ; rw [if_neg h1, if_pos (by rw [← hN]; exact .inr h3)]
    have d3 : decide ((z : Int) - (q : Int) - 4 < N) = true := by simpa using h3
    clear h2 h3 hN
    go_enter Try.func76, Try.ntmps76
    go_upto_region 1 with fail
    rw [← hwa, ← hg]
    clear hwa hg
    go_wp2_with fail
    refine (CL.out _ HRA.out q (by omega)).mono ?_
    rintro e w1 ⟨rfl, hb1⟩
    have HB1 : Hid (Below wa.heap.size wa w1) := hb1
    have HF1 := Lib.hid (HFA.out.keep HB1.out)
    have HR1 := Lib.hid (HRA.out.keep HB1.out)
    clear r0 z0 z1 z2 q0 q1 q2 hg1
    clear hb1
    obtain ⟨r0, -, -, -, -⟩ := HR1.out
    obtain ⟨z0, z1, z2, q0, q1, q2, hg1⟩ := HF1.out
    rw [← HN.out]
    go_wp2_with fail
    refine (CW.out _ _ _).mono ?_
    rintro e w2 ⟨rfl, hb2⟩
    have HB2 : Hid (Below wa.heap.size wa w2) := HB1.out.trans (hb2.mono HB1.out.size)
    have HF2 := Lib.hid (HFA.out.keep HB2.out)
    have HR2 := Lib.hid (HRA.out.keep HB2.out)
    clear r0 z0 z1 z2 q0 q1 q2 hg1
    clear hb2
    obtain ⟨r0, -, -, -, -⟩ := HR2.out
    obtain ⟨z0, z1, z2, q0, q1, q2, hg1⟩ := HF2.out
    go_wp2_with fail
    refine bodyPost_ret (v := .tuple #[.string ⟨#[]⟩, .int .i64 0, fltV 6 q]) (by simp [results, Try.results76, go_sem, *]) rfl ?_
    refine ⟨by rw [HX.out], ?_⟩
    have hfin : Below w.heap.size w w2 := HBA.out.trans (HB2.out.mono HBA.out.size)
    (repeat' (first | with_reducible exact hfin | with_reducible refine Below.setCell ?_ (by rw [HG.out]; exact Nat.le_refl _) _))
  have d3 : decide ((z : Int) - (q : Int) - 4 < N) = false := by simp; omega
  obtain ⟨N1, rfl⟩ : ∃ N1 : Nat, N = (N1 : Int) := ⟨N.toNat, by omega⟩
  have hMt : (len4 L q).toNat = N1 := by rw [← hN]; omega
  obtain ⟨q4, hq4⟩ : ∃ x, x = q + 4 := ⟨_, rfl⟩
  obtain ⟨f1, hf1⟩ : ∃ x, x = q + 3 + N1 := ⟨_, rfl⟩
  obtain ⟨E, hE⟩ : ∃ x, x = q + 4 + N1 := ⟨_, rfl⟩
  obtain ⟨X, hX⟩ : ∃ X, X = bAt L f1 := ⟨_, rfl⟩
  have hEz : E ≤ z := by omega
  have w1 : IntKind.i64.wrap ((q : Int) + 4) = (q4 : Int) := (IntWalk.i64_in _ (by omega)).trans (by omega)
  have w2 : IntKind.i64.wrap ((q4 : Int) + (N1 : Int)) = (E : Int) := (IntWalk.i64_in _ (by omega)).trans (by omega)
  have w3 : IntKind.i64.wrap ((E : Int) - 1) = (f1 : Int) := (IntWalk.i64_in _ (by omega)).trans (by omega)
  have i1 : (0 : Int) ≤ (f1 : Int) := by omega
  have i2 : (f1 : Int) < (n : Int) := by omega
  have hT : textQ L q z = if X ≠ 0 then .error (3, f1) else if wholeTo (seg L q4 (f1 - q4)) ≠ f1 - q4 then .error (4, q4) else .ok (seg L q4 (f1 - q4), E) := by
    unfold textQ
    rw [if_neg h1, if_neg (by rw [← hN]; omega), hMt, show q + 4 + N1 - 1 = f1 from by omega, ← hX, ← hq4, show N1 - 1 = f1 - q4 from by omega, show q4 + N1 = E from by omega]
  have HTX := Lib.hid hT
  have HAT : Hid (∀ W, BRd W rb b o n c L deep → W.cell? ⟨b, o + f1, none⟩ = some (.int .u8 (X : Nat))) := fun W hW => by rw [hX]; exact hW.at f1 (by omega)
  by_cases h4 : X = 0
  case neg =>
    have HX : Hid (textQ L q z = .error (3, f1)) := by show _ = _; rw [HTX.out, if_pos h4]
    have d4 : ((X : Int) != 0) = true := by simpa using h4
    clear h1 h2 h3 h4 hN hMt hX hT HTX hE hf1 hq4 hEz
    go_enter Try.func76, Try.ntmps76
    go_upto_region 1 with fail
    rw [← hwa, ← hg]
    clear hwa hg
    go_wp2_with fail
    refine (CL.out _ HRA.out q (by omega)).mono ?_
    rintro e w1 ⟨rfl, hb1⟩
    have HB1 : Hid (Below wa.heap.size wa w1) := hb1
    have HF1 := Lib.hid (HFA.out.keep HB1.out)
    have HR1 := Lib.hid (HRA.out.keep HB1.out)
    clear r0 z0 z1 z2 q0 q1 q2 hg1
    clear hb1
    obtain ⟨r0, -, -, -, -⟩ := HR1.out
    obtain ⟨z0, z1, z2, q0, q1, q2, hg1⟩ := HF1.out
    rw [← HN.out]
    have hx1 := HAT.out _ HR1.out
    go_wp2_with fail
    refine (CW.out _ _ _).mono ?_
    rintro e w2 ⟨rfl, hb2⟩
    have HB2 : Hid (Below wa.heap.size wa w2) := HB1.out.trans (hb2.mono HB1.out.size)
    have HF2 := Lib.hid (HFA.out.keep HB2.out)
    have HR2 := Lib.hid (HRA.out.keep HB2.out)
    clear r0 z0 z1 z2 q0 q1 q2 hg1
    clear hb2 hx1
    obtain ⟨r0, -, -, -, -⟩ := HR2.out
    obtain ⟨z0, z1, z2, q0, q1, q2, hg1⟩ := HF2.out
    go_wp2_with fail
    refine bodyPost_ret (v := .tuple #[.string ⟨#[]⟩, .int .i64 0, fltV 3 f1]) (by simp [results, Try.results76, go_sem, *]) rfl ?_
    refine ⟨by rw [HX.out], ?_⟩
    have hfin : Below w.heap.size w w2 := HBA.out.trans (HB2.out.mono HBA.out.size)
    (repeat' (first | with_reducible exact hfin | with_reducible refine Below.setCell ?_ (by rw [HG.out]; exact Nat.le_refl _) _))
  subst h4
  have d4 : (((0 : Nat) : Int) != 0) = false := rfl
  have HSG : Hid (∀ W, BRd W rb b o n c L deep → RdB W (some ⟨b, o + q4, none⟩) (f1 - q4) (seg L q4 (f1 - q4))) := fun W hW => hW.part q4 f1 (by omega) (by omega)
  obtain ⟨S, hS⟩ : ∃ S, S = seg L q4 (f1 - q4) := ⟨_, rfl⟩
  rw [← hS] at HSG HTX
  have j1 : (q4 : Int) ≤ (f1 : Int) := by omega
  have j2 : (f1 : Int) ≤ (c : Int) := by omega
  have j3 : ¬ c = q4 := by omega
  obtain ⟨K, hK⟩ : ∃ K, K = f1 - q4 := ⟨_, rfl⟩
  have CC := Lib.hid (fun W (h : BRd W rb b o n c L deep) => check_calls (some ⟨b, o + q4, none⟩) (f1 - q4) (c - q4) W S (HSG.out W h))
  by_cases h5 : wholeTo S = f1 - q4
  case neg =>
    have HX : Hid (textQ L q z = .error (4, q4)) := by show _ = _; rw [HTX.out, if_neg (by simp), if_pos h5]
    have d5 : (wholeTo S == f1 - q4) = false := by simpa using h5
    rw [d5] at CC
    clear h1 h2 h3 h5 hN hMt hX hT HTX hE hf1 hq4 hEz hS hK d5
    go_enter Try.func76, Try.ntmps76
    go_upto_region 1 with fail
    rw [← hwa, ← hg]
    clear hwa hg
    go_wp2_with fail
    refine (CL.out _ HRA.out q (by omega)).mono ?_
    rintro e w1 ⟨rfl, hb1⟩
    have HB1 : Hid (Below wa.heap.size wa w1) := hb1
    have HF1 := Lib.hid (HFA.out.keep HB1.out)
    have HR1 := Lib.hid (HRA.out.keep HB1.out)
    clear r0 z0 z1 z2 q0 q1 q2 hg1
    clear hb1
    obtain ⟨r0, -, -, -, -⟩ := HR1.out
    obtain ⟨z0, z1, z2, q0, q1, q2, hg1⟩ := HF1.out
    rw [← HN.out]
    have hx1 := HAT.out _ HR1.out
    go_wp2_with fail
    refine (CC.out _ HR1.out).mono ?_
    rintro e wx ⟨rfl, rfl⟩
    go_wp2_with fail
    refine (CW.out _ _ _).mono ?_
    rintro e w2 ⟨rfl, hb2⟩
    have HB2 : Hid (Below wa.heap.size wa w2) := HB1.out.trans (hb2.mono HB1.out.size)
    have HF2 := Lib.hid (HFA.out.keep HB2.out)
    have HR2 := Lib.hid (HRA.out.keep HB2.out)
    clear r0 z0 z1 z2 q0 q1 q2 hg1
    clear hb2 hx1
    obtain ⟨r0, -, -, -, -⟩ := HR2.out
    obtain ⟨z0, z1, z2, q0, q1, q2, hg1⟩ := HF2.out
    go_wp2_with fail
    refine bodyPost_ret (v := .tuple #[.string ⟨#[]⟩, .int .i64 0, fltV 4 q4]) (by simp [results, Try.results76, go_sem, *]) rfl ?_
    refine ⟨by rw [HX.out], ?_⟩
    have hfin : Below w.heap.size w w2 := HBA.out.trans (HB2.out.mono HBA.out.size)
    (repeat' (first | with_reducible exact hfin | with_reducible refine Below.setCell ?_ (by rw [HG.out]; exact Nat.le_refl _) _))
  have HX : Hid (textQ L q z = .ok (S, E)) := by show _ = _; rw [HTX.out, if_neg (by simp), if_neg (by simpa using h5)]
  have d5 : (wholeTo S == f1 - q4) = true := by simpa using h5
  rw [d5] at CC
  clear h1 h2 h3 h5 hN hMt hX hT HTX hE hf1 hq4 hEz hS hK d5
  go_enter Try.func76, Try.ntmps76
  go_upto_region 1 with fail
  rw [← hwa, ← hg]
  clear hwa hg
  go_wp2_with fail
  refine (CL.out _ HRA.out q (by omega)).mono ?_
  rintro e w1 ⟨rfl, hb1⟩
  have HB1 : Hid (Below wa.heap.size wa w1) := hb1
  have HF1 := Lib.hid (HFA.out.keep HB1.out)
  have HR1 := Lib.hid (HRA.out.keep HB1.out)
  clear r0 z0 z1 z2 q0 q1 q2 hg1
  clear hb1
  obtain ⟨r0, -, -, -, -⟩ := HR1.out
  obtain ⟨z0, z1, z2, q0, q1, q2, hg1⟩ := HF1.out
  rw [← HN.out]
  have hx1 := HAT.out _ HR1.out
  have hcv := conv_str (HSG.out _ HR1.out) (c - q4)
  go_wp2_with fail
  refine (CC.out _ HR1.out).mono ?_
  rintro e wx ⟨rfl, rfl⟩
  go_wp2_with fail
  refine bodyPost_ret (v := .tuple #[.string (txt S), .int .i64 (E : Nat), fltV 0 0]) (by simp [results, Try.results76, go_sem, *]) rfl ?_
  refine ⟨by rw [HX.out], ?_⟩
  have hfin : Below w.heap.size w w1 := HBA.out.trans (HB1.out.mono HBA.out.size)
  (repeat' (first | with_reducible exact hfin | with_reducible refine Below.setCell ?_ (by rw [HG.out]; exact Nat.le_refl _) _))
theorem own_roomy {w : World} {B : Nat} {a : Option Addr} {n c : Nat} {bs : List UInt8} (h : OwnB w B (.slice a n c) bs) : Roomy a n c := by
  rcases h.2 with ⟨e, h0⟩ | ⟨g, cp, cur, e, _, _, hn, _⟩
  · simp only [Value.slice.injEq] at e
    exact ⟨fun _ => e.2.2, by omega⟩
  · simp only [Value.slice.injEq] at e
    obtain ⟨rfl, rfl, rfl⟩ := e
    exact ⟨by simp, hn⟩
theorem rdBS_own {w : World} {B : Nat} {a : Option Addr} {n c : Nat} {bs : List UInt8} {S : Nat → Prop} (h : OwnB w B (.slice a n c) bs) (hS : ∀ k, (Value.slice a n c).ownBlock = some k → S k) : RdBS S w a bs.length bs := by
  obtain ⟨a', c', e, hr⟩ := h.reads
  simp only [Value.slice.injEq] at e
  obtain ⟨rfl, rfl, rfl⟩ := e
  exact ⟨hr, fun _ p hp => hS _ (by rw [hp]; rfl)⟩

set_option maxRecDepth 100000 in
set_option maxHeartbeats 8000000 in
theorem binary_calls (rb b o n c : Nat) (L : List UInt8) (deep : Nat) (w : World) (h : BRd w rb b o n c L deep) (q z : Nat) (hq : q + 5 ≤ z) (hz : z < n) :
    Calls Try.prog 78 #[.pointer (some ⟨rb, 0, none⟩), .int .i64 (q : Nat), .int .i64 (z : Nat)] w (BinOut (binQ L q z) w) := by
  obtain ⟨wa, hwa⟩ : ∃ W, W = w.alloc (.cells #[.int .i64 0, .int .i64 0, .slice none 0 0] 34) := ⟨_, rfl⟩
  have hba : Below w.heap.size w wa := by rw [hwa]; exact (Below.refl _ _).alloc (Nat.le_refl _) _
  have HBA := Lib.hid hba
  obtain ⟨g, hg⟩ : ∃ g, g = w.heap.size := ⟨_, rfl⟩
  have hfb : FBox wa g := by rw [hwa, hg]; exact FBox.new _ _
  have HFA := Lib.hid hfb
  have HRA := Lib.hid (h.keep hba)
  have HG : Hid (g = w.heap.size) := hg
  have hL : L.length = n := h.2.2.1.1
  have hnc : n ≤ c := h.2.2.2.1
  have hnb : n ≤ 1000000 := h.2.2.2.2
  have CW := Lib.hid wrong_calls
  have CL := Lib.hid (fun W (h : BRd W rb b o n c L deep) p hp => length_calls rb b o n c L deep W h p hp)
  obtain ⟨r0, r1, r2, r3, r4⟩ := HRA.out
  have R0 := Lib.hid r0
  obtain ⟨z0, z1, z2, q0, q1, q2, hg1⟩ := hfb
  clear r1 r2 r3 r4 h hba
  have CK := Lib.hid (fun W a len cap l (h : RdB W a len l) => clone_calls a len cap l W h)
  have e1 : IntKind.i64.wrap ((z : Int) - (q : Int)) = (z : Int) - (q : Int) := IntWalk.i64_in _ (by omega)
  have hq4n : q + 4 ≤ n := by omega
  have h1 : ¬ z < q + 5 := by omega
  obtain ⟨N, hN⟩ : ∃ N, N = len4 L q := ⟨_, rfl⟩
  have HN := Lib.hid hN
  have e2 : IntKind.i64.wrap ((z : Int) - (q : Int) - 5) = (z : Int) - (q : Int) - 5 := IntWalk.i64_in _ (by omega)
  by_cases h2 : N < 0
  · have HX : Hid (binQ L q z = .error (6, q)) := by show _ = _; unfold binQ; rw [if_neg h1, if_pos (by rw [← hN]; exact .inl h2)]
    have d2 : decide (N < 0) = true := by simpa using h2
    clear h2 hN
    go_enter Try.func78, Try.ntmps78
    go_upto_region 1 with fail
    rw [← hwa, ← hg]
    clear hwa hg
    go_wp2_with fail
    refine (CL.out _ HRA.out q (by omega)).mono ?_
    rintro e w1 ⟨rfl, hb1⟩
    have HB1 : Hid (Below wa.heap.size wa w1) := hb1
    have HF1 := Lib.hid (HFA.out.keep HB1.out)
    have HR1 := Lib.hid (HRA.out.keep HB1.out)
    clear r0 z0 z1 z2 q0 q1 q2 hg1
    clear hb1
    obtain ⟨r0, -, -, -, -⟩ := HR1.out
    obtain ⟨z0, z1, z2, q0, q1, q2, hg1⟩ := HF1.out
    rw [← HN.out]
    go_wp2_with fail
    refine (CW.out _ _ _).mono ?_
    rintro e w2 ⟨rfl, hb2⟩
    have HB2 : Hid (Below wa.heap.size wa w2) := HB1.out.trans (hb2.mono HB1.out.size)
    have HF2 := Lib.hid (HFA.out.keep HB2.out)
    have HR2 := Lib.hid (HRA.out.keep HB2.out)
    clear r0 z0 z1 z2 q0 q1 q2 hg1
    clear hb2
    obtain ⟨r0, -, -, -, -⟩ := HR2.out
    obtain ⟨z0, z1, z2, q0, q1, q2, hg1⟩ := HF2.out
    go_wp2_with fail
    refine bodyPost_ret (v := .tuple #[.int .i64 0, .slice none 0 0, .int .i64 0, fltV 6 q]) (by simp [results, Try.results78, go_sem, *]) rfl ?_
    refine ⟨by rw [HX.out], ?_⟩
    have hfin : Below w.heap.size w w2 := HBA.out.trans (HB2.out.mono HBA.out.size)
    (repeat' (first | with_reducible exact hfin | with_reducible refine Below.setCell ?_ (by rw [HG.out]; exact Nat.le_refl _) _))
  have d2 : decide (N < 0) = false := by simp; omega
  by_cases h3 : (z : Int) - q - 5 < N
  · have HX : Hid (binQ L q z = .error (6, q)) := by show _ = _; unfold binQ; rw [if_neg h1, if_pos (by rw [← hN]; exact .inr h3)]
    have d3 : decide ((z : Int) - (q : Int) - 5 < N) = true := by simpa using h3
    clear h2 h3 hN
    go_enter Try.func78, Try.ntmps78
    go_upto_region 1 with fail
    rw [← hwa, ← hg]
    clear hwa hg
    go_wp2_with fail
    refine (CL.out _ HRA.out q (by omega)).mono ?_
    rintro e w1 ⟨rfl, hb1⟩
    have HB1 : Hid (Below wa.heap.size wa w1) := hb1
    have HF1 := Lib.hid (HFA.out.keep HB1.out)
    have HR1 := Lib.hid (HRA.out.keep HB1.out)
    clear r0 z0 z1 z2 q0 q1 q2 hg1
    clear hb1
    obtain ⟨r0, -, -, -, -⟩ := HR1.out
    obtain ⟨z0, z1, z2, q0, q1, q2, hg1⟩ := HF1.out
    rw [← HN.out]
    go_wp2_with fail
    refine (CW.out _ _ _).mono ?_
    rintro e w2 ⟨rfl, hb2⟩
    have HB2 : Hid (Below wa.heap.size wa w2) := HB1.out.trans (hb2.mono HB1.out.size)
    have HF2 := Lib.hid (HFA.out.keep HB2.out)
    have HR2 := Lib.hid (HRA.out.keep HB2.out)
    clear r0 z0 z1 z2 q0 q1 q2 hg1
    clear hb2
    obtain ⟨r0, -, -, -, -⟩ := HR2.out
    obtain ⟨z0, z1, z2, q0, q1, q2, hg1⟩ := HF2.out
    go_wp2_with fail
    refine bodyPost_ret (v := .tuple #[.int .i64 0, .slice none 0 0, .int .i64 0, fltV 6 q]) (by simp [results, Try.results78, go_sem, *]) rfl ?_
    refine ⟨by rw [HX.out], ?_⟩
    have hfin : Below w.heap.size w w2 := HBA.out.trans (HB2.out.mono HBA.out.size)
    (repeat' (first | with_reducible exact hfin | with_reducible refine Below.setCell ?_ (by rw [HG.out]; exact Nat.le_refl _) _))
  have d3 : decide ((z : Int) - (q : Int) - 5 < N) = false := by simp; omega
  obtain ⟨N1, rfl⟩ : ∃ N1 : Nat, N = (N1 : Int) := ⟨N.toNat, by omega⟩
  have hMt : (len4 L q).toNat = N1 := by rw [← hN]; omega
  obtain ⟨q4, hq4⟩ : ∃ x, x = q + 4 := ⟨_, rfl⟩
  obtain ⟨q5, hq5⟩ : ∃ x, x = q + 5 := ⟨_, rfl⟩
  obtain ⟨E, hE⟩ : ∃ x, x = q5 + N1 := ⟨_, rfl⟩
  obtain ⟨X, hX⟩ : ∃ X, X = bAt L q4 := ⟨_, rfl⟩
  have hX8 : X < 256 := by rw [hX]; exact bAt_lt _ _
  have hEz : E ≤ z := by omega
  have w1 : IntKind.i64.wrap ((q : Int) + 4) = (q4 : Int) := (IntWalk.i64_in _ (by omega)).trans (by omega)
  have w2 : IntKind.i64.wrap ((q : Int) + 5) = (q5 : Int) := (IntWalk.i64_in _ (by omega)).trans (by omega)
  have w3 : IntKind.i64.wrap ((q5 : Int) + (N1 : Int)) = (E : Int) := (IntWalk.i64_in _ (by omega)).trans (by omega)
  have w4 : IntKind.i64.wrap (X : Int) = (X : Int) := IntWalk.i64_in _ (by omega)
  have i1 : (0 : Int) ≤ (q4 : Int) := by omega
  have i2 : (q4 : Int) < (n : Int) := by omega
  have HAT : Hid (∀ W, BRd W rb b o n c L deep → W.cell? ⟨b, o + q4, none⟩ = some (.int .u8 (X : Nat))) := fun W hW => by rw [hX]; exact hW.at q4 (by omega)
  have HBQ : Hid (binQ L q z = if X = 2 then (if ((N1 : Nat) : Int) < 4 ∨ len4 L q5 ≠ ((N1 : Nat) : Int) - 4 then .error (6, q5) else .ok (2, seg L (q + 9) (N1 - 4), E)) else .ok (X, seg L q5 N1, E)) := by
    show _ = _
    unfold binQ
    rw [if_neg h1, if_neg (by rw [← hN]; omega), hMt, ← hq4, ← hX, ← hq5, ← hN, ← hE]
  by_cases h4 : X = 2
  case neg =>
    have d4 : ((X : Int) == 2) = false := by simp; omega
    obtain ⟨S, hS⟩ : ∃ S, S = seg L q5 (E - q5) := ⟨_, rfl⟩
    have hSn : S.length = E - q5 := by rw [hS, seg_length]; omega
    have HX : Hid (binQ L q z = .ok (X, S, E)) := by show _ = _; rw [HBQ.out, if_neg h4, hS, show E - q5 = N1 from by omega]
    have HSG : Hid (∀ W, BRd W rb b o n c L deep → RdB W (some ⟨b, o + q5, none⟩) (E - q5) S) := fun W hW => by rw [hS]; exact hW.part q5 E (by omega) (by omega)
    have j1 : (q5 : Int) ≤ (E : Int) := by omega
    have j2 : (E : Int) ≤ (c : Int) := by omega
    have j3 : ¬ c = q5 := by omega
    have hEn : E ≤ n := by omega
    clear h4 hS hX hSn
    clear h2 h3 hN hMt hE hq4 hq5 HBQ hEz
    go_enter Try.func78, Try.ntmps78
    go_upto_region 1 with fail
    rw [← hwa, ← hg]
    clear hwa hg
    go_wp2_with fail
    refine (CL.out _ HRA.out q (by omega)).mono ?_
    rintro e w1 ⟨rfl, hb1⟩
    have HB1 : Hid (Below wa.heap.size wa w1) := hb1
    have HF1 := Lib.hid (HFA.out.keep HB1.out)
    have HR1 := Lib.hid (HRA.out.keep HB1.out)
    clear r0 z0 z1 z2 q0 q1 q2 hg1
    clear hb1
    obtain ⟨r0, -, -, -, -⟩ := HR1.out
    obtain ⟨z0, z1, z2, q0, q1, q2, hg1⟩ := HF1.out
    rw [← HN.out]
    have hx1 := HAT.out _ HR1.out
    go_wp2_with fail
    refine (CK.out _ _ _ _ _ (HSG.out _ HR1.out) (by simp) (by omega)).mono ?_
    rintro e w2 ⟨v2, rfl, ho2, hb2⟩
    obtain ⟨a2, c2, rfl, hrd2⟩ := ho2.reads
    have HO2 := Lib.hid ho2
    have HSZ2 := Lib.hid hb2.size
    have HB2 : Hid (Below wa.heap.size wa w2) := HB1.out.trans (hb2.mono HB1.out.size)
    have HF2 := Lib.hid (HFA.out.keep HB2.out)
    have HR2 := Lib.hid (HRA.out.keep HB2.out)
    clear r0 z0 z1 z2 q0 q1 q2 hg1
    clear hb2 hx1
    obtain ⟨r0, -, -, -, -⟩ := HR2.out
    obtain ⟨z0, z1, z2, q0, q1, q2, hg1⟩ := HF2.out
    clear hrd2 ho2
    have HBP := Lib.hid HB1.out.size
    go_wp2_with fail
    refine bodyPost_ret (v := .tuple #[.int .i64 (X : Nat), .slice a2 S.length c2, .int .i64 (E : Nat), fltV 0 0]) (by simp [results, Try.results78, go_sem, *]) rfl ?_
    have hfin : Below w.heap.size w w2 := HBA.out.trans (HB2.out.mono HBA.out.size)
    have hroom : Roomy a2 S.length c2 := own_roomy HO2.out
    have hset : ∀ W', Chg (fun k => k = g) w2 W' → RdBS (fun k => w.heap.size ≤ k) W' a2 S.length S ∧ Below w.heap.size w W' := fun W' hW => by
      have hgs := HF1.out.2.2.2.2.2.2
      refine ⟨rdBS_own (HO2.out.chg hW (fun k hk e => by have h7 := (owns_lt HO2.out k hk).1; have h8 : k = g := e; omega)) (fun k hk => by show w.heap.size ≤ k; have h7 := (owns_lt HO2.out k hk).1; have h8 := HBA.out.size; have h9 := HBP.out; omega), hfin.trans (hW.below hfin.size (fun i hi => by rw [hi, HG.out]; exact Nat.le_refl _))⟩
    have key : ∀ W', Chg (fun k => k = g) w2 W' → BinOut (binQ L q z) w (.returned (.tuple #[.int .i64 (X : Nat), .slice a2 S.length c2, .int .i64 (E : Nat), fltV 0 0])) W' := fun W' hW => ⟨by rw [HX.out]; exact ⟨a2, c2, rfl, (hset W' hW).1, hroom⟩, (hset W' hW).2⟩
    refine key _ ?_
    (repeat' (first | with_reducible exact Chg.refl _ _ | refine Chg.put ?_ _ _))
  subst h4
  have d4 : (((2 : Nat) : Int) == 2) = true := rfl
  have d4' : IntKind.i64.wrap (2 : Int) = 2 := rfl
  by_cases h5 : N1 < 4
  · have d5 : decide ((N1 : Int) < 4) = true := by simp; omega
    have HX : Hid (binQ L q z = .error (6, q5)) := by show _ = _; rw [HBQ.out, if_pos rfl, if_pos (.inl (by omega))]
    clear h5 hX
    clear h2 h3 hN hMt hE hq4 hq5 HBQ hEz
    go_enter Try.func78, Try.ntmps78
    go_upto_region 1 with fail
    rw [← hwa, ← hg]
    clear hwa hg
    go_wp2_with fail
    refine (CL.out _ HRA.out q (by omega)).mono ?_
    rintro e w1 ⟨rfl, hb1⟩
    have HB1 : Hid (Below wa.heap.size wa w1) := hb1
    have HF1 := Lib.hid (HFA.out.keep HB1.out)
    have HR1 := Lib.hid (HRA.out.keep HB1.out)
    clear r0 z0 z1 z2 q0 q1 q2 hg1
    clear hb1
    obtain ⟨r0, -, -, -, -⟩ := HR1.out
    obtain ⟨z0, z1, z2, q0, q1, q2, hg1⟩ := HF1.out
    rw [← HN.out]
    have hx1 := HAT.out _ HR1.out
    go_wp2_with fail
    refine (CW.out _ _ _).mono ?_
    rintro e w2 ⟨rfl, hb2⟩
    have HB2 : Hid (Below wa.heap.size wa w2) := HB1.out.trans (hb2.mono HB1.out.size)
    have HF2 := Lib.hid (HFA.out.keep HB2.out)
    have HR2 := Lib.hid (HRA.out.keep HB2.out)
    clear r0 z0 z1 z2 q0 q1 q2 hg1
    clear hb2 hx1
    obtain ⟨r0, -, -, -, -⟩ := HR2.out
    obtain ⟨z0, z1, z2, q0, q1, q2, hg1⟩ := HF2.out
    go_wp2_with fail
    refine bodyPost_ret (v := .tuple #[.int .i64 0, .slice none 0 0, .int .i64 0, fltV 6 q5]) (by simp [results, Try.results78, go_sem, *]) rfl ?_
    refine ⟨by rw [HX.out], ?_⟩
    have hfin : Below w.heap.size w w2 := HBA.out.trans (HB2.out.mono HBA.out.size)
    (repeat' (first | with_reducible exact hfin | with_reducible refine Below.setCell ?_ (by rw [HG.out]; exact Nat.le_refl _) _))
  have d5 : decide ((N1 : Int) < 4) = false := by simp; omega
  have hq5n : q5 + 4 ≤ n := by omega
  obtain ⟨N2, hN2⟩ : ∃ x, x = len4 L q5 := ⟨_, rfl⟩
  rw [← hN2] at HBQ
  have HN2 := Lib.hid hN2
  have w5 : IntKind.i64.wrap ((N1 : Int) - 4) = (N1 : Int) - 4 := IntWalk.i64_in _ (by omega)
  by_cases h6 : N2 = (N1 : Int) - 4
  case neg =>
    have d6 : (N2 != (N1 : Int) - 4) = true := by simpa using h6
    have HX : Hid (binQ L q z = .error (6, q5)) := by show _ = _; rw [HBQ.out, if_pos rfl, if_pos (.inr h6)]
    clear h5 h6 hX hN2
    clear h2 h3 hN hMt hE hq4 hq5 HBQ hEz
    go_enter Try.func78, Try.ntmps78
    go_upto_region 1 with fail
    rw [← hwa, ← hg]
    clear hwa hg
    go_wp2_with fail
    refine (CL.out _ HRA.out q (by omega)).mono ?_
    rintro e w1 ⟨rfl, hb1⟩
    have HB1 : Hid (Below wa.heap.size wa w1) := hb1
    have HF1 := Lib.hid (HFA.out.keep HB1.out)
    have HR1 := Lib.hid (HRA.out.keep HB1.out)
    clear r0 z0 z1 z2 q0 q1 q2 hg1
    clear hb1
    obtain ⟨r0, -, -, -, -⟩ := HR1.out
    obtain ⟨z0, z1, z2, q0, q1, q2, hg1⟩ := HF1.out
    rw [← HN.out]
    have hx1 := HAT.out _ HR1.out
    go_wp2_with fail
    refine (CL.out _ HR1.out q5 (by omega)).mono ?_
    rintro e w2 ⟨rfl, hb2⟩
    have HB2 : Hid (Below wa.heap.size wa w2) := HB1.out.trans (hb2.mono HB1.out.size)
    have HF2 := Lib.hid (HFA.out.keep HB2.out)
    have HR2 := Lib.hid (HRA.out.keep HB2.out)
    clear r0 z0 z1 z2 q0 q1 q2 hg1
    clear hb2 hx1
    obtain ⟨r0, -, -, -, -⟩ := HR2.out
    obtain ⟨z0, z1, z2, q0, q1, q2, hg1⟩ := HF2.out
    rw [← HN2.out]
    go_wp2_with fail
    refine (CW.out _ _ _).mono ?_
    rintro e w3 ⟨rfl, hb3⟩
    have HB3 : Hid (Below wa.heap.size wa w3) := HB2.out.trans (hb3.mono HB2.out.size)
    have HF3 := Lib.hid (HFA.out.keep HB3.out)
    have HR3 := Lib.hid (HRA.out.keep HB3.out)
    clear r0 z0 z1 z2 q0 q1 q2 hg1
    clear hb3
    obtain ⟨r0, -, -, -, -⟩ := HR3.out
    obtain ⟨z0, z1, z2, q0, q1, q2, hg1⟩ := HF3.out
    go_wp2_with fail
    refine bodyPost_ret (v := .tuple #[.int .i64 0, .slice none 0 0, .int .i64 0, fltV 6 q5]) (by simp [results, Try.results78, go_sem, *]) rfl ?_
    refine ⟨by rw [HX.out], ?_⟩
    have hfin : Below w.heap.size w w3 := HBA.out.trans (HB3.out.mono HBA.out.size)
    (repeat' (first | with_reducible exact hfin | with_reducible refine Below.setCell ?_ (by rw [HG.out]; exact Nat.le_refl _) _))
  have d6 : (N2 != (N1 : Int) - 4) = false := by simpa using h6
  obtain ⟨q9, hq9⟩ : ∃ x, x = q5 + 4 := ⟨_, rfl⟩
  have w6 : IntKind.i64.wrap ((q5 : Int) + 4) = (q9 : Int) := (IntWalk.i64_in _ (by omega)).trans (by omega)
  obtain ⟨S, hS⟩ : ∃ S, S = seg L q9 (E - q9) := ⟨_, rfl⟩
  have HX : Hid (binQ L q z = .ok (2, S, E)) := by show _ = _; rw [HBQ.out, if_pos rfl, if_neg (by omega), hS, show E - q9 = N1 - 4 from by omega, show q + 9 = q9 from by omega]
  have HSG : Hid (∀ W, BRd W rb b o n c L deep → RdB W (some ⟨b, o + q9, none⟩) (E - q9) S) := fun W hW => by rw [hS]; exact hW.part q9 E (by omega) (by omega)
  have j1 : (q9 : Int) ≤ (E : Int) := by omega
  have j2 : (E : Int) ≤ (c : Int) := by omega
  have j3 : ¬ c = q9 := by omega
  have hEn : E ≤ n := by omega
  clear h5 h6 hX hN2 hS hq9
  clear h2 h3 hN hMt hE hq4 hq5 HBQ hEz
  go_enter Try.func78, Try.ntmps78
  go_upto_region 1 with fail
  rw [← hwa, ← hg]
  clear hwa hg
  go_wp2_with fail
  refine (CL.out _ HRA.out q (by omega)).mono ?_
  rintro e w1 ⟨rfl, hb1⟩
  have HB1 : Hid (Below wa.heap.size wa w1) := hb1
  have HF1 := Lib.hid (HFA.out.keep HB1.out)
  have HR1 := Lib.hid (HRA.out.keep HB1.out)
  clear r0 z0 z1 z2 q0 q1 q2 hg1
  clear hb1
  obtain ⟨r0, -, -, -, -⟩ := HR1.out
  obtain ⟨z0, z1, z2, q0, q1, q2, hg1⟩ := HF1.out
  rw [← HN.out]
  have hx1 := HAT.out _ HR1.out
  go_wp2_with fail
  refine (CL.out _ HR1.out q5 (by omega)).mono ?_
  rintro e w2 ⟨rfl, hb2⟩
  have HB2 : Hid (Below wa.heap.size wa w2) := HB1.out.trans (hb2.mono HB1.out.size)
  have HF2 := Lib.hid (HFA.out.keep HB2.out)
  have HR2 := Lib.hid (HRA.out.keep HB2.out)
  clear r0 z0 z1 z2 q0 q1 q2 hg1
  clear hb2 hx1
  obtain ⟨r0, -, -, -, -⟩ := HR2.out
  obtain ⟨z0, z1, z2, q0, q1, q2, hg1⟩ := HF2.out
  rw [← HN2.out]
  go_wp2_with fail
  refine (CK.out _ _ _ _ _ (HSG.out _ HR2.out) (by simp) (by omega)).mono ?_
  rintro e w3 ⟨v3, rfl, ho3, hb3⟩
  obtain ⟨a3, c3, rfl, hrd3⟩ := ho3.reads
  have HO3 := Lib.hid ho3
  have HSZ3 := Lib.hid hb3.size
  have HB3 : Hid (Below wa.heap.size wa w3) := HB2.out.trans (hb3.mono HB2.out.size)
  have HF3 := Lib.hid (HFA.out.keep HB3.out)
  have HR3 := Lib.hid (HRA.out.keep HB3.out)
  clear r0 z0 z1 z2 q0 q1 q2 hg1
  clear hb3
  obtain ⟨r0, -, -, -, -⟩ := HR3.out
  obtain ⟨z0, z1, z2, q0, q1, q2, hg1⟩ := HF3.out
  clear hrd3 ho3
  have HBP := Lib.hid HB2.out.size
  go_wp2_with fail
  refine bodyPost_ret (v := .tuple #[.int .i64 (2 : Nat), .slice a3 S.length c3, .int .i64 (E : Nat), fltV 0 0]) (by simp [results, Try.results78, go_sem, *]) rfl ?_
  have hfin : Below w.heap.size w w3 := HBA.out.trans (HB3.out.mono HBA.out.size)
  have hroom : Roomy a3 S.length c3 := own_roomy HO3.out
  have hset : ∀ W', Chg (fun k => k = g) w3 W' → RdBS (fun k => w.heap.size ≤ k) W' a3 S.length S ∧ Below w.heap.size w W' := fun W' hW => by
    have hgs := HF2.out.2.2.2.2.2.2
    refine ⟨rdBS_own (HO3.out.chg hW (fun k hk e => by have h7 := (owns_lt HO3.out k hk).1; have h8 : k = g := e; omega)) (fun k hk => by show w.heap.size ≤ k; have h7 := (owns_lt HO3.out k hk).1; have h8 := HBA.out.size; have h9 := HBP.out; omega), hfin.trans (hW.below hfin.size (fun i hi => by rw [hi, HG.out]; exact Nat.le_refl _))⟩
  have key : ∀ W', Chg (fun k => k = g) w3 W' → BinOut (binQ L q z) w (.returned (.tuple #[.int .i64 (2 : Nat), .slice a3 S.length c3, .int .i64 (E : Nat), fltV 0 0])) W' := fun W' hW => ⟨by rw [HX.out]; exact ⟨a3, c3, rfl, (hset W' hW).1, hroom⟩, (hset W' hW).2⟩
  refine key _ ?_
  (repeat' (first | with_reducible exact Chg.refl _ _ | refine Chg.put ?_ _ _))

end Go.Proofs.Ytkcfkdmffbhljaa
