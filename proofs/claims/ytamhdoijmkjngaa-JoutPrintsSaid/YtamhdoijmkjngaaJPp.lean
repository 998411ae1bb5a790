/- The reference's Print; JoutPrints: the walk. -/
import Derived.Test.YtamhdoijmkjngaaRPrt
import Derived.Test.YtamhdoijmkjngaaJApa
import Derived.Deep.RegionHeld3
namespace Go.Proofs.Ytamhdoijmkjngaa
open Go.RowKit
set_option linter.unusedVariables false
set_option linter.unusedSimpArgs false

set_option maxRecDepth 100000 in
set_option maxHeartbeats 4000000 in
theorem rprint_calls (j : J) (hw : wtJ j ≤ 80000) (S : Nat → Prop) (w : World) (c : Array Value) (h : RdJ S w j c) :
    Calls Try.prog 21 #[.agg c] w fun e w' => (checkJ j = 0 → e = .returned (.tuple #[.string (txt (printJ j)), .int .i64 0])) ∧ (checkJ j ≠ 0 → e = .returned (.tuple #[.string ⟨#[]⟩, .int .i64 (checkJ j : Nat)])) ∧ Below w.heap.size w w' := by
  have hc0 := h
  have CC := Lib.hid (fun S W c => rchk_all (wtJ j) j (Nat.le_refl _) S W c)
  have CL := Lib.hid (fun hc S W c => prt_all (wtJ j) j (Nat.le_refl _) hc hw S W c)
  obtain ⟨q, hq⟩ : ∃ q, q = checkJ j := ⟨_, rfl⟩
  rw [← hq] at CC CL
  have HR := Lib.hid hc0
  have hs3 : ∃ (k : Int) (x : ByteArray) (ak : Option Addr) (nk ck : Nat), c = jCells k x ak nk ck := by
    cases j with
    | mk k t m => obtain ⟨x, ak, nk, ck, rfl, _⟩ := h; exact ⟨k, x, ak, nk, ck, rfl⟩
  obtain ⟨k, x, ak, nk, ck, rfl⟩ := hs3
  have hB1 : Below w.heap.size w (w.alloc (.cells (jCells k x ak nk ck) 24)) := (Below.refl _ _).alloc (Nat.le_refl _) _
  have HB1 := Lib.hid hB1
  have hw2 : wtJ j ≤ 100000 := by omega
  have HQ := Lib.hid hq
  clear h hc0 hB1 hq
  by_cases hq0 : q = 0
  · subst hq0
    go_enter Try.func21, Try.ntmps21
    go_wp2_with fail
    refine (CC.out _ _ _ (HR.out.below HB1.out) hw2).mono ?_
    rintro e w2 ⟨rfl, hb2⟩
    have f0 : w2.cell? ⟨w.heap.size, 0, none⟩ = some (.int .i64 k) := below_cellB hb2 (by simp [go_sem]) (by simp)
    have f1 : w2.cell? ⟨w.heap.size, 1, none⟩ = some (.string x) := below_cellB hb2 (by simp [go_sem]) (by simp)
    have f2 : w2.cell? ⟨w.heap.size, 2, none⟩ = some (.slice ak nk ck) := below_cellB hb2 (by simp [go_sem]) (by simp)
    have HB2 := Lib.hid (HB1.out.trans (hb2.mono (by simp)))
    have HR2 := Lib.hid ((HR.out.below HB1.out).below hb2)
    clear hb2
    go_wp2_with fail
    refine (CL.out trivial _ _ _ HR2.out).mono ?_
    rintro e w3 ⟨⟨v3, rfl, hsv⟩, hb3⟩
    obtain ⟨a9, m9, c9, rfl, hr9, _⟩ := hsv
    have hcv := conv_str hr9 c9
    have HB3 := Lib.hid (HB2.out.trans (hb3.mono HB2.out.size))
    clear hr9 hb3
    go_wp2_with fail
    go_ret2
    exact ⟨fun _ => rfl, fun h => absurd HQ.out.symm h, HB3.out⟩
  · have d1 : ((q : Int) == 0) = false := by simp; omega
    have d2 : ((q : Int) != 0) = true := by simp; omega
    go_enter Try.func21, Try.ntmps21
    go_wp2_with fail
    refine (CC.out _ _ _ (HR.out.below HB1.out) hw2).mono ?_
    rintro e w2 ⟨rfl, hb2⟩
    have HB2 := Lib.hid (HB1.out.trans (hb2.mono (by simp)))
    clear hb2
    go_wp2_with fail
    go_ret2
    exact ⟨fun h => absurd (HQ.out.trans h) hq0, fun _ => by rw [← HQ.out]; rfl, HB2.out⟩

theorem onec {w W : World} {ka : Int} {xa : ByteArray} {aa : Option Addr} {na ca : Nat} (h : Below (w.heap.size + 1) (w.alloc (.cells (jCells ka xa aa na ca) 24)) W) :
    W.cell? ⟨w.heap.size, 0, none⟩ = some (.int .i64 ka) ∧ W.cell? ⟨w.heap.size, 1, none⟩ = some (.string xa) ∧ W.cell? ⟨w.heap.size, 2, none⟩ = some (.slice aa na ca) ∧ w.heap.size + 1 ≤ W.heap.size := by
  refine ⟨?_, ?_, ?_, ?_⟩
  · exact below_cellB h (by simp [go_sem]) (by simp)
  · exact below_cellB h (by simp [go_sem]) (by simp)
  · exact below_cellB h (by simp [go_sem]) (by simp)
  · have := h.size; simpa using this

set_option maxRecDepth 100000 in
set_option maxHeartbeats 16000000 in
theorem JoutPrints_walk (w : World) (c : Array Value) (a : J) (ha : RdJ (fun _ => True) w a c) :
    Calls Try.prog 3 #[.agg c] w fun e w' => e = .returned (.bool true) ∧ Below w.heap.size w w' := by
  have CA := fun W => Lib.hid (awake24 W)
  have HA := Lib.hid ha
  obtain ⟨ka, xa, aa, na, ca, rfl⟩ : ∃ (k : Int) (x : ByteArray) (ak : Option Addr) (nk ck : Nat), c = jCells k x ak nk ck := by
    cases a; obtain ⟨x, ak, nk, ck, rfl, _⟩ := ha; exact ⟨_, x, ak, nk, ck, rfl⟩
  have hbx : Below w.heap.size w (w.alloc (.cells (jCells ka xa aa na ca) 24)) := (Below.refl _ _).alloc (Nat.le_refl _) _
  have HBX := Lib.hid hbx
  have CSa := fun W (h : RdJ (fun _ => True) W a (jCells ka xa aa na ca)) => Lib.hid (small_calls a (fun _ => True) W _ h)
  obtain ⟨sa, hsa⟩ : ∃ s, s = smallJ a := ⟨_, rfl⟩
  rw [← hsa] at CSa
  have HSA := Lib.hid hsa
  clear ha hbx hsa
  cases sa with
  | false =>
    go_enter Try.func3, Try.ntmps3
    go_wp2_with fail
    refine (CA _).out.mono ?_
    rintro e w1 ⟨rfl, hb1⟩
    have hB1 : Below (w.heap.size + 1) (w.alloc (.cells (jCells ka xa aa na ca) 24)) w1 := by rw [show w.heap.size + 1 = (w.alloc (.cells (jCells ka xa aa na ca) 24)).heap.size by simp]; exact hb1
    obtain ⟨f0, f1, f2, hz1⟩ := onec hB1
    have HA1 : Hid (RdJ (fun _ => True) w1 a (jCells ka xa aa na ca)) := HA.out.below (HBX.out.trans (hB1.mono (by omega)))
    have HB1 := Lib.hid hB1
    clear hb1 hB1
    go_wp2_with fail
    refine (CSa _ HA1.out).out.mono ?_
    rintro e w2 ⟨rfl, hb2⟩
    clear f0 f1 f2
    have hB2 : Below (w.heap.size + 1) (w.alloc (.cells (jCells ka xa aa na ca) 24)) w2 := HB1.out.trans (hb2.mono hz1)
    obtain ⟨f0, f1, f2, hz2⟩ := onec hB2
    have HA2 : Hid (RdJ (fun _ => True) w2 a (jCells ka xa aa na ca)) := HA.out.below (HBX.out.trans (hB2.mono (by omega)))
    have HB2 := Lib.hid hB2
    clear hb2 hB2
    go_wp2_with fail
    go_ret
    exact ⟨rfl, HBX.out.trans (HB2.out.mono (by omega))⟩
  | true =>
  have hwa := smallJ_wt HSA.out.symm
  obtain ⟨p, q, hp⟩ : ∃ (p : ByteArray) (q : Nat), (∀ S W c, RdJ S W a c → Hid (Calls Try.prog 20 #[.agg c] W fun e w' => e = .returned (.tuple #[.string p, .int .i64 (q : Nat)]) ∧ Below W.heap.size W w')) ∧
      (∀ S W c, RdJ S W a c → Hid (Calls Try.prog 21 #[.agg c] W fun e w' => e = .returned (.tuple #[.string p, .int .i64 (q : Nat)]) ∧ Below W.heap.size W w')) ∧ q = checkJ a := by
    by_cases h : checkJ a = 0
    · refine ⟨txt (printJ a), checkJ a, fun S W c hr => Lib.hid ((jprint_calls a (by omega) S W c hr).mono fun e w' x => ⟨by rw [x.1 h, h]; rfl, x.2.2⟩), fun S W c hr => Lib.hid ((rprint_calls a (by omega) S W c hr).mono fun e w' x => ⟨by rw [x.1 h, h]; rfl, x.2.2⟩), rfl⟩
    · refine ⟨⟨#[]⟩, checkJ a, fun S W c hr => Lib.hid ((jprint_calls a (by omega) S W c hr).mono fun e w' x => ⟨x.2.1 h, x.2.2⟩), fun S W c hr => Lib.hid ((rprint_calls a (by omega) S W c hr).mono fun e w' x => ⟨x.2.1 h, x.2.2⟩), rfl⟩
  obtain ⟨C1, C2, hq⟩ := hp
  have C3 := fun S W c hr => Lib.hid (chk_all (wtJ a) a (Nat.le_refl _) S W c hr (by omega))
  have C4 := fun S W c hr => Lib.hid (rchk_all (wtJ a) a (Nat.le_refl _) S W c hr (by omega))
  rw [← hq] at C3 C4
  have hpe : (p.toList == p.toList) = true := by simp
  have hqe : ((q : Int) == (q : Int)) = true := by simp
  clear hq
  go_enter Try.func3, Try.ntmps3
  go_wp2_with fail
  refine (CA _).out.mono ?_
  rintro e w1 ⟨rfl, hb1⟩
  have hB1 : Below (w.heap.size + 1) (w.alloc (.cells (jCells ka xa aa na ca) 24)) w1 := by rw [show w.heap.size + 1 = (w.alloc (.cells (jCells ka xa aa na ca) 24)).heap.size by simp]; exact hb1
  obtain ⟨f0, f1, f2, hz1⟩ := onec hB1
  have HA1 : Hid (RdJ (fun _ => True) w1 a (jCells ka xa aa na ca)) := HA.out.below (HBX.out.trans (hB1.mono (by omega)))
  have HB1 := Lib.hid hB1
  clear hb1 hB1
  go_wp2_with fail
  refine (CSa _ HA1.out).out.mono ?_
  rintro e w2 ⟨rfl, hb2⟩
  clear f0 f1 f2
  have hB2 : Below (w.heap.size + 1) (w.alloc (.cells (jCells ka xa aa na ca) 24)) w2 := HB1.out.trans (hb2.mono hz1)
  obtain ⟨f0, f1, f2, hz2⟩ := onec hB2
  have HA2 : Hid (RdJ (fun _ => True) w2 a (jCells ka xa aa na ca)) := HA.out.below (HBX.out.trans (hB2.mono (by omega)))
  have HB2 := Lib.hid hB2
  clear hb2 hB2
  go_wp2_with fail
  refine (C1 _ _ _ HA2.out).out.mono ?_
  rintro e w3 ⟨rfl, hb3⟩
  clear f0 f1 f2
  have hB3 : Below (w.heap.size + 1) (w.alloc (.cells (jCells ka xa aa na ca) 24)) w3 := HB2.out.trans (hb3.mono hz2)
  obtain ⟨f0, f1, f2, hz3⟩ := onec hB3
  have HA3 : Hid (RdJ (fun _ => True) w3 a (jCells ka xa aa na ca)) := HA.out.below (HBX.out.trans (hB3.mono (by omega)))
  have HB3 := Lib.hid hB3
  clear hb3 hB3
  go_wp2_with fail
  refine (C2 _ _ _ HA3.out).out.mono ?_
  rintro e w4 ⟨rfl, hb4⟩
  clear f0 f1 f2
  have hB4 : Below (w.heap.size + 1) (w.alloc (.cells (jCells ka xa aa na ca) 24)) w4 := HB3.out.trans (hb4.mono hz3)
  obtain ⟨f0, f1, f2, hz4⟩ := onec hB4
  have HA4 : Hid (RdJ (fun _ => True) w4 a (jCells ka xa aa na ca)) := HA.out.below (HBX.out.trans (hB4.mono (by omega)))
  have HB4 := Lib.hid hB4
  clear hb4 hB4
  go_wp2_with fail
  have HKS : Hid (∀ W, Below (w.heap.size + 1) (w.alloc (.cells (jCells ka xa aa na ca) 24)) W → (Hid (Below (w.heap.size + 1) (w.alloc (.cells (jCells ka xa aa na ca) 24)) W) ∧ W.cell? ⟨w.heap.size, 0, none⟩ = some (.int .i64 ka) ∧ W.cell? ⟨w.heap.size, 1, none⟩ = some (.string xa) ∧ W.cell? ⟨w.heap.size, 2, none⟩ = some (.slice aa na ca))) := by
    show ∀ W, _
    intro W hW
    obtain ⟨h0, h1, h2, _⟩ := onec hW
    exact ⟨Lib.hid hW, h0, h1, h2⟩
  have HSZ : Hid (∀ W, Below (w.heap.size + 1) (w.alloc (.cells (jCells ka xa aa na ca) 24)) W → w.heap.size + 1 ≤ W.heap.size) := by
    show ∀ W, _
    intro W hW
    have := hW.size
    simpa using this
  have HB4d : Hid (Below (w.heap.size + 1) (w.alloc (.cells (jCells ka xa aa na ca) 24)) w4.drew) := HB4.out.drew
  go_region_held3 (fun W => Hid (Below (w.heap.size + 1) (w.alloc (.cells (jCells ka xa aa na ca) 24)) W) ∧ W.cell? ⟨w.heap.size, 0, none⟩ = some (.int .i64 ka) ∧ W.cell? ⟨w.heap.size, 1, none⟩ = some (.string xa) ∧ W.cell? ⟨w.heap.size, 2, none⟩ = some (.slice aa na ca)) (first | with_reducible exact HKS.out _ HB4d.out | with_reducible exact HKS.out _ hB9 | fail) (first | (go_at_call 22; (have hb0 := (‹Hid (Below (w.heap.size + 1) _ _) ∧ _›).1.out); refine (C3 _ _ _ (HA.out.below (HBX.out.trans (hb0.mono (by omega))))).out.mono ?_; rintro e w' ⟨rfl, hb⟩; (have hB9 := hb0.trans (hb.mono (HSZ.out _ hb0)))) | (go_at_call 23; (have hb0 := (‹Hid (Below (w.heap.size + 1) _ _) ∧ _›).1.out); refine (C4 _ _ _ (HA.out.below (HBX.out.trans (hb0.mono (by omega))))).out.mono ?_; rintro e w' ⟨rfl, hb⟩; (have hB9 := hb0.trans (hb.mono (HSZ.out _ hb0)))))
  all_goals
    go_wp2_with fail
    go_ret
    exact ⟨rfl, HBX.out.trans ((‹Hid (Below (w.heap.size + 1) _ _) ∧ _›).1.out.mono (by omega))⟩

end Go.Proofs.Ytamhdoijmkjngaa
