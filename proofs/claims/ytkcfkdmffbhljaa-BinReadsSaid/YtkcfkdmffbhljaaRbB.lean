/- The reference's reader of documents: a binary. -/
import Derived.Test.YtkcfkdmffbhljaaRbA
import Derived.Test.YtkcfkdmffbhljaaBiB
import Derived.Deep.RegionHeld3
import Derived.Deep.CutRange
namespace Go.Proofs.Ytkcfkdmffbhljaa
open Go.RowKit
set_option linter.unusedVariables false
set_option linter.unusedSimpArgs false

theorem ownB_empty2 {w : World} {B g : Nat} (h : w.heap[g]? = some (.cells #[] 5 (0, 0))) (hB : B ≤ g) : OwnB w B (.slice (some ⟨g, 0, none⟩) 0 0) [] := ⟨rfl, .inr ⟨g, 0, #[], rfl, hB, h, Nat.le_refl _, by unfold maxLen; omega, rfl, rfl⟩⟩

/-- A Sub, bytes and the place behind; or an error. -/
def RBinO (rb b o n c : Nat) (L : List UInt8) (d : Nat) (x : Except (Nat × Nat) (Nat × List UInt8 × Nat)) (w : World) (e : Ending) (w' : World) : Prop :=
  match x with
  | .ok (sub, l, m) => (∃ a cc, e = .returned (.tuple #[.int .i64 (sub : Nat), .slice a l.length cc, .int .i64 (m : Nat)]) ∧ RdBS (fun k => w.heap.size ≤ k) w' a l.length l ∧ Roomy a l.length cc) ∧ Below w.heap.size w w'
  | .error (er, a) => e = .returned (.tuple #[.int .i64 0, .slice none 0 0, .int .i64 0]) ∧ RErr rb b o n c L d er a w w'

set_option maxRecDepth 100000 in
set_option maxHeartbeats 8000000 in
theorem rdbin_calls {w : World} {rb b o n c : Nat} {L : List UInt8} {d : Nat} (h : RRd w rb b o n c L d 0 0) (q z : Nat) (hq : q ≤ z) (hz : z < n) :
    Calls Try.prog 100 #[.pointer (some ⟨rb, 0, none⟩), .int .i64 (q : Nat), .int .i64 (z : Nat)] w (RBinO rb b o n c L d (binQ L q z) w) := by
  have hL : L.length = n := h.rd.1
  have hnc := h.nc
  have hnb := h.nb
  have c0 := h.c0
  have HR := Lib.hid h
  have CB := Lib.hid (fun er a => rdbad_calls h er a)
  have CL := Lib.hid (fun W (h : RRd W rb b o n c L d 0 0) p hp => rdlen_calls h p hp)
  clear h
  have e1 : IntKind.i64.wrap ((z : Int) - (q : Int)) = (z : Int) - (q : Int) := IntWalk.i64_in _ (by omega)
  by_cases h1 : z < q + 5
  · have HX : Hid (binQ L q z = .error (2, q)) := by show _ = _; unfold binQ; rw [if_pos h1]
    have d1 : decide ((z : Int) - (q : Int) < 5) = true := by simp; omega
    clear h1
    go_enter Try.func100, Try.ntmps100
    go_wp2_with fail
    refine (CB.out 2 q).mono ?_
    rintro e w2 ⟨rfl, hE2⟩
    have HE2 := Lib.hid hE2
    clear hE2
    go_wp2_with fail
    refine bodyPost_ret (v := .tuple #[.int .i64 0, .slice none 0 0, .int .i64 0]) (by simp [results, Try.results100, go_sem, *]) rfl ?_
    rw [HX.out]
    exact ⟨rfl, HE2.out⟩
  have d1 : decide ((z : Int) - (q : Int) < 5) = false := by simp; omega
  obtain ⟨N, hN⟩ : ∃ N, N = len4 L q := ⟨_, rfl⟩
  have HN := Lib.hid hN
  have hNb : -2147483648 ≤ N ∧ N < 2147483648 := by
    rw [hN]; unfold len4
    have := le_seg_lt L q 4
    split <;> omega
  have e2 : IntKind.i64.wrap ((z : Int) - (q : Int) - 5) = (z : Int) - (q : Int) - 5 := IntWalk.i64_in _ (by omega)
  obtain ⟨q4, hq4⟩ : ∃ x, x = q + 4 := ⟨_, rfl⟩
  obtain ⟨q5, hq5⟩ : ∃ x, x = q + 5 := ⟨_, rfl⟩
  obtain ⟨X, hX⟩ : ∃ X, X = bAt L q4 := ⟨_, rfl⟩
  have hX8 : X < 256 := by rw [hX]; exact bAt_lt _ _
  have w1 : IntKind.i64.wrap ((q : Int) + 4) = (q4 : Int) := (IntWalk.i64_in _ (by omega)).trans (by omega)
  have w2 : IntKind.i64.wrap ((q : Int) + 5) = (q5 : Int) := (IntWalk.i64_in _ (by omega)).trans (by omega)
  have w4 : IntKind.i64.wrap (X : Int) = (X : Int) := IntWalk.i64_in _ (by omega)
  have i1 : (0 : Int) ≤ (q4 : Int) := by omega
  have i2 : (q4 : Int) < (n : Int) := by omega
  have HAT : Hid (∀ W, RRd W rb b o n c L d 0 0 → W.cell? ⟨b, o + q4, none⟩ = some (.int .u8 (X : Nat))) := fun W hW => by rw [hX]; exact hW.at q4 (by omega)
  have HBQ : Hid (binQ L q z = if len4 L q < 0 ∨ (z : Int) - q - 5 < len4 L q then .error (6, q) else if X = 2 then (if len4 L q < 4 ∨ len4 L q5 ≠ len4 L q - 4 then .error (6, q5) else .ok (2, seg L (q + 9) ((len4 L q).toNat - 4), q5 + (len4 L q).toNat)) else .ok (X, seg L q5 (len4 L q).toNat, q5 + (len4 L q).toNat)) := by
    show _ = _
    unfold binQ
    rw [if_neg h1, ← hq4, ← hX, ← hq5]
  have hx1 := HAT.out w HR.out
  have HKS : Hid (∀ W, Below w.heap.size w W → Hid (Below w.heap.size w W) ∧ W.cell? ⟨rb, 0, none⟩ = some (.slice (some ⟨b, o, none⟩) n c) ∧ W.cell? ⟨b, o + q4, none⟩ = some (.int .u8 (X : Nat))) := fun W hW => ⟨hW, (HR.out.keep hW).c0, HAT.out W (HR.out.keep hW)⟩
  have HQ4 := Lib.hid hq4
  have HQ5 := Lib.hid hq5
  clear hX h1 hN hq4 hq5
  go_enter Try.func100, Try.ntmps100
  go_upto_region 4 with fail
  go_cut [9, 10] from 19 to 30 (fun p9 p10 W => p9 = .int .i64 N ∧ p10 = .int .i64 (X : Nat) ∧ Below w.heap.size w W)
  case first =>
    go_region_held3 (fun W => Hid (Below w.heap.size w W) ∧ W.cell? ⟨rb, 0, none⟩ = some (.slice (some ⟨b, o, none⟩) n c) ∧ W.cell? ⟨b, o + q4, none⟩ = some (.int .u8 (X : Nat))) (first | exact ‹Hid (Below w.heap.size w _) ∧ _› | exact HKS.out _ (Below.refl _ _).drew | exact HKS.out _ (Below.refl _ _) | exact HKS.out _ ((‹Hid (Below w.heap.size w _) ∧ _›).1.out.drew))
      ((go_at_call 55; refine (CL.out _ (HR.out.keep (‹Hid (Below w.heap.size w _) ∧ _›).1.out) q (by have := HQ4.out; omega)).mono ?_; rintro e w8 ⟨rfl, rfl⟩))
    all_goals
      rw [← HN.out]
      go_wp2_with fail
      go_meet
      case rel => exact ⟨rfl, rfl, by first | assumption | exact (‹Hid (Below w.heap.size w _) ∧ _›).1.out | exact (Below.refl _ _).drew⟩
  obtain ⟨rfl, rfl, hbc⟩ := hcut
  have HBC := Lib.hid hbc
  have HRC := Lib.hid (HR.out.keep hbc)
  have CB2 := Lib.hid (fun er a => rdbad_calls (HR.out.keep hbc) er a)
  have CL2 := Lib.hid (fun p hp => rdlen_calls (HR.out.keep hbc) p hp)
  have c0 := HRC.out.c0
  have hrl := HRC.out.lt
  have hN := HN.out
  have hq4 := HQ4.out
  have hq5 := HQ5.out
  clear hbc CB CL HKS hx1 HAT
  rw [← hN] at HBQ
  by_cases h2 : N < 0
  · have HX : Hid (binQ L q z = .error (6, q)) := by show _ = _; rw [HBQ.out, if_pos (.inl h2)]
    have d2 : decide (N < 0) = true := by simpa using h2
    clear h2 hN hNb
    go_wp2_with fail
    refine (CB2.out 6 q).mono ?_
    rintro e w2 ⟨rfl, hE2⟩
    have HE2 := Lib.hid hE2
    clear hE2
    go_wp2_with fail
    refine bodyPost_ret (v := .tuple #[.int .i64 0, .slice none 0 0, .int .i64 0]) (by simp [results, Try.results100, go_sem, *]) rfl ?_
    rw [HX.out]
    exact ⟨rfl, HE2.out.from HBC.out⟩
  have d2 : decide (N < 0) = false := by simp; omega
  by_cases h3 : (z : Int) - q - 5 < N
  · have HX : Hid (binQ L q z = .error (6, q)) := by show _ = _; rw [HBQ.out, if_pos (.inr h3)]
    have d3 : decide ((z : Int) - (q : Int) - 5 < N) = true := by simpa using h3
    clear h2 h3 hN hNb
    go_wp2_with fail
    refine (CB2.out 6 q).mono ?_
    rintro e w2 ⟨rfl, hE2⟩
    have HE2 := Lib.hid hE2
    clear hE2
    go_wp2_with fail
    refine bodyPost_ret (v := .tuple #[.int .i64 0, .slice none 0 0, .int .i64 0]) (by simp [results, Try.results100, go_sem, *]) rfl ?_
    rw [HX.out]
    exact ⟨rfl, HE2.out.from HBC.out⟩
  have d3 : decide ((z : Int) - (q : Int) - 5 < N) = false := by simp; omega
  obtain ⟨N1, rfl⟩ : ∃ N1 : Nat, N = (N1 : Int) := ⟨N.toNat, by omega⟩
  obtain ⟨E, hE⟩ : ∃ x, x = q5 + N1 := ⟨_, rfl⟩
  have hEz : E ≤ z := by omega
  have w3 : IntKind.i64.wrap ((q5 : Int) + (N1 : Int)) = (E : Int) := (IntWalk.i64_in _ (by omega)).trans (by omega)
  rw [if_neg (by omega)] at HBQ
  by_cases h4 : X = 2
  case neg =>
    have d4 : ((X : Int) == 2) = false := by simp; omega
    obtain ⟨q9, hq9⟩ : ∃ x, x = q5 := ⟨_, rfl⟩
    obtain ⟨S, hS⟩ : ∃ S, S = seg L q9 (E - q9) := ⟨_, rfl⟩
    have HX : Hid (binQ L q z = .ok (X, S, E)) := by show _ = _; rw [HBQ.out, if_neg h4, hS, hq9, show E - q5 = N1 from by omega, show ((N1 : Nat) : Int).toNat = N1 from rfl, hE]
    have hsg := HRC.out.part q9 E (by omega) (by omega)
    rw [← hS] at hsg
    have hSn : S.length = E - q9 := hsg.1
    have HLS : Hid (S.length ≤ 1000000) := by show _ ≤ _; omega
    have HSE : Hid (SrcB (wc.alloc (.cells #[] 5)) (.slice (some ⟨b, o + q9, none⟩) (E - q9) (c - q9)) S) := ⟨_, _, _, rfl, hsg.keep ((Below.refl _ _).alloc (Nat.le_refl _) _), by simp⟩
    rw [← hq9] at w2 w3
    have j1 : (q9 : Int) ≤ (E : Int) := by omega
    have j2 : (E : Int) ≤ (c : Int) := by omega
    have j3 : ¬ c = q9 := by omega
    clear h4 hS hsg
    clear h2 h3 hN hE hq4 hq5 hEz hNb hq9
    have HE : Hid (OwnB (wc.alloc (.cells #[] 5)) wc.heap.size (.slice (some ⟨wc.heap.size, 0, none⟩) 0 0) []) := ownB_empty2 (heap_alloc_new wc _) (Nat.le_refl _)
    go_wp2_with (at_builtin; refine wpList_appB (v := .slice (some ⟨wc.heap.size, 0, none⟩) 0 0) (bs := []) (sv := .slice (some ⟨b, o + q9, none⟩) (E - q9) (c - q9)) (l := S) (B := wc.heap.size) (by rfl) _ _ (by rfl) (by rfl) HE.out (by rfl) HSE.out ?o2 ?o3 ?_)
    case o2 => have := HLS.out; simp only [List.length_nil]; omega
    case o3 => simp
    intro v1 w1 ho1 ha1
    have hbn : Below wc.heap.size wc w1 := ha1.below ((Below.refl _ _).alloc (Nat.le_refl _) _) (by simp) (fun i hi => by have : wc.heap.size = i := Option.some.inj hi; omega)
    obtain ⟨a1, c1, rfl, hrd1⟩ := ho1.reads
    have HO1 := Lib.hid ho1
    have HB1 := Lib.hid hbn
    clear ho1 ha1 hbn hrd1
    go_wp2_with fail
    refine bodyPost_ret (v := .tuple #[.int .i64 (X : Nat), .slice a1 S.length c1, .int .i64 (E : Nat)]) (by simp [results, Try.results100, go_sem, *]) rfl ?_
    rw [HX.out]
    refine ⟨⟨a1, c1, rfl, rdBS_own HO1.out (fun k hk => ?_), own_roomy HO1.out⟩, HBC.out.trans (HB1.out.mono HBC.out.size)⟩
    have h7 := (owns_lt HO1.out k hk).1
    have h8 := HBC.out.size
    show w.heap.size ≤ k
    omega
  subst h4
  have d4 : (((2 : Nat) : Int) == 2) = true := rfl
  rw [if_pos rfl] at HBQ
  by_cases h5 : N1 < 4
  · have d5 : decide ((N1 : Int) < 4) = true := by simp; omega
    have HX : Hid (binQ L q z = .error (6, q5)) := by show _ = _; rw [HBQ.out, if_pos (.inl (by omega))]
    clear h2 h3 h5 hN hE hq4 hq5 hEz hNb
    go_wp2_with fail
    refine (CB2.out 6 q5).mono ?_
    rintro e w2 ⟨rfl, hE2⟩
    have HE2 := Lib.hid hE2
    clear hE2
    go_wp2_with fail
    refine bodyPost_ret (v := .tuple #[.int .i64 0, .slice none 0 0, .int .i64 0]) (by simp [results, Try.results100, go_sem, *]) rfl ?_
    rw [HX.out]
    exact ⟨rfl, HE2.out.from HBC.out⟩
  have d5 : decide ((N1 : Int) < 4) = false := by simp; omega
  have hq5n : q5 + 4 ≤ n := by omega
  obtain ⟨N2, hN2⟩ : ∃ x, x = len4 L q5 := ⟨_, rfl⟩
  rw [← hN2] at HBQ
  have HN2 := Lib.hid hN2
  have w5 : IntKind.i64.wrap ((N1 : Int) - 4) = (N1 : Int) - 4 := IntWalk.i64_in _ (by omega)
  by_cases h6 : N2 = (N1 : Int) - 4
  case neg =>
    have d6 : (N2 != (N1 : Int) - 4) = true := by simpa using h6
    have HX : Hid (binQ L q z = .error (6, q5)) := by show _ = _; rw [HBQ.out, if_pos (.inr h6)]
    clear h2 h3 h5 h6 hN hE hq4 hq5 hEz hNb hN2
    go_wp2_with fail
    refine (CL2.out q5 (by omega)).mono ?_
    rintro e w1 ⟨rfl, rfl⟩
    rw [← HN2.out]
    go_wp2_with fail
    refine (CB2.out 6 q5).mono ?_
    rintro e w2 ⟨rfl, hE2⟩
    have HE2 := Lib.hid hE2
    clear hE2
    go_wp2_with fail
    refine bodyPost_ret (v := .tuple #[.int .i64 0, .slice none 0 0, .int .i64 0]) (by simp [results, Try.results100, go_sem, *]) rfl ?_
    rw [HX.out]
    exact ⟨rfl, HE2.out.from HBC.out⟩
  have d6 : (N2 != (N1 : Int) - 4) = false := by simpa using h6
  obtain ⟨q9, hq9⟩ : ∃ x, x = q5 + 4 := ⟨_, rfl⟩
  have w6 : IntKind.i64.wrap ((q5 : Int) + 4) = (q9 : Int) := (IntWalk.i64_in _ (by omega)).trans (by omega)
  obtain ⟨S, hS⟩ : ∃ S, S = seg L q9 (E - q9) := ⟨_, rfl⟩
  have HX : Hid (binQ L q z = .ok (2, S, E)) := by show _ = _; rw [HBQ.out, if_neg (by omega), hS, show ((N1 : Nat) : Int).toNat = N1 from rfl, show E - q9 = N1 - 4 from by omega, show q + 9 = q9 from by omega, hE]
  have hsg := HRC.out.part q9 E (by omega) (by omega)
  rw [← hS] at hsg
  have hSn : S.length = E - q9 := hsg.1
  have HLS : Hid (S.length ≤ 1000000) := by show _ ≤ _; omega
  have HSE : Hid (SrcB (wc.alloc (.cells #[] 5)) (.slice (some ⟨b, o + q9, none⟩) (E - q9) (c - q9)) S) := ⟨_, _, _, rfl, hsg.keep ((Below.refl _ _).alloc (Nat.le_refl _) _), by simp⟩
  have j1 : (q9 : Int) ≤ (E : Int) := by omega
  have j2 : (E : Int) ≤ (c : Int) := by omega
  have j3 : ¬ c = q9 := by omega
  clear h6 hN2 hS hsg
  clear h2 h3 h5 hN hE hq4 hq5 hEz hNb hq9
  go_wp2_with fail
  refine (CL2.out q5 (by omega)).mono ?_
  rintro e w1 ⟨rfl, rfl⟩
  rw [← HN2.out]
  have HE : Hid (OwnB (wc.alloc (.cells #[] 5)) wc.heap.size (.slice (some ⟨wc.heap.size, 0, none⟩) 0 0) []) := ownB_empty2 (heap_alloc_new wc _) (Nat.le_refl _)
  go_wp2_with (at_builtin; refine wpList_appB (v := .slice (some ⟨wc.heap.size, 0, none⟩) 0 0) (bs := []) (sv := .slice (some ⟨b, o + q9, none⟩) (E - q9) (c - q9)) (l := S) (B := wc.heap.size) (by rfl) _ _ (by rfl) (by rfl) HE.out (by rfl) HSE.out ?o2 ?o3 ?_)
  case o2 => have := HLS.out; simp only [List.length_nil]; omega
  case o3 => simp
  intro v1 w1 ho1 ha1
  have hbn : Below wc.heap.size wc w1 := ha1.below ((Below.refl _ _).alloc (Nat.le_refl _) _) (by simp) (fun i hi => by have : wc.heap.size = i := Option.some.inj hi; omega)
  obtain ⟨a1, c1, rfl, hrd1⟩ := ho1.reads
  have HO1 := Lib.hid ho1
  have HB1 := Lib.hid hbn
  clear ho1 ha1 hbn hrd1
  go_wp2_with fail
  refine bodyPost_ret (v := .tuple #[.int .i64 (2 : Nat), .slice a1 S.length c1, .int .i64 (E : Nat)]) (by simp [results, Try.results100, go_sem, *]) rfl ?_
  rw [HX.out]
  refine ⟨⟨a1, c1, rfl, rdBS_own HO1.out (fun k hk => ?_), own_roomy HO1.out⟩, HBC.out.trans (HB1.out.mono HBC.out.size)⟩
  have h7 := (owns_lt HO1.out k hk).1
  have h8 := HBC.out.size
  show w.heap.size ≤ k
  omega

end Go.Proofs.Ytkcfkdmffbhljaa
