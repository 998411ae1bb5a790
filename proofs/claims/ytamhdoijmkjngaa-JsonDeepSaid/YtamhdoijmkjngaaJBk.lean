/- JoutBack: the walk. -/
import Derived.Test.YtamhdoijmkjngaaJApa
import Derived.Test.YtamhdoijmkjngaaJPa7
namespace Go.Proofs.Ytamhdoijmkjngaa
open Go.RowKit
set_option linter.unusedVariables false
set_option linter.unusedSimpArgs false

theorem one_cells {w W : World} {ka : Int} {xa : ByteArray} {aa : Option Addr} {na ca : Nat} (h : Below (w.heap.size + 1) (w.alloc (.cells (jCells ka xa aa na ca) 24)) W) :
    W.cell? ⟨w.heap.size, 0, none⟩ = some (.int .i64 ka) ∧ W.cell? ⟨w.heap.size, 1, none⟩ = some (.string xa) ∧ W.cell? ⟨w.heap.size, 2, none⟩ = some (.slice aa na ca) ∧ w.heap.size + 1 ≤ W.heap.size := by
  refine ⟨?_, ?_, ?_, ?_⟩
  · exact below_cellB h (by simp [go_sem]) (by simp)
  · exact below_cellB h (by simp [go_sem]) (by simp)
  · exact below_cellB h (by simp [go_sem]) (by simp)
  · have := h.size; simpa using this

/-- Parse, in one case or the other. -/
theorem parse_yes (s : ByteArray) (hs : s.size ≤ 1000000) (dp : Int) (hdp : -9223372036854775808 ≤ dp ∧ dp ≤ 9223372036854775807) (j : J) (n : Nat) (h : parseP (sl s) dp = .ok j n) (w : World) :
    Calls Try.prog 33 #[.string s, .int .i64 dp] w fun e w' => (∃ k x ak nk ck, e = .returned (.tuple #[.agg (jCells k x ak nk ck), .agg #[.int .i64 0, .int .i64 0, .slice none 0 0]]) ∧ RdJ (fun k => w.heap.size ≤ k) w' j (jCells k x ak nk ck)) ∧ Below w.heap.size w w' := by
  refine (parse_calls s hs dp hdp w).mono ?_
  intro e w' h1
  rw [h] at h1
  obtain ⟨h2, c, h3, h4⟩ := h1
  have h5 := h4
  obtain ⟨k, t, m⟩ := j
  obtain ⟨x, ak, nk, ck, rfl, _⟩ := h5
  exact ⟨⟨k, x, ak, nk, ck, h3, h4⟩, h2⟩
theorem parse_no (s : ByteArray) (hs : s.size ≤ 1000000) (dp : Int) (hdp : -9223372036854775808 ≤ dp ∧ dp ≤ 9223372036854775807) (x b : Nat) (h : parseP (sl s) dp = .bad x b) (w : World) :
    Calls Try.prog 33 #[.string s, .int .i64 dp] w fun e w' => e = .returned (.tuple #[.agg (jCells 0 ⟨#[]⟩ none 0 0), .agg #[.int .i64 (x : Nat), .int .i64 (b : Nat), .slice none 0 0]]) ∧ (1 ≤ x ∧ x ≤ 10) ∧ Below w.heap.size w w' := by
  refine (parse_calls s hs dp hdp w).mono ?_
  intro e w' h1
  rw [h] at h1
  exact ⟨h1.2.2, h1.2.1, h1.1⟩

set_option maxRecDepth 100000 in
set_option maxHeartbeats 16000000 in
theorem JoutBack_walk (w : World) (c : Array Value) (a : J) (ha : RdJ (fun _ => True) w a c) :
    Calls Try.prog 16 #[.agg c] w fun e w' => e = .returned (.bool true) ∧ Below w.heap.size w w' := by
  have CA := fun W => Lib.hid (awake24 W)
  have HA := Lib.hid ha
  obtain ⟨ka, xa, aa, na, ca, rfl⟩ : ∃ (k : Int) (x : ByteArray) (ak : Option Addr) (nk ck : Nat), c = jCells k x ak nk ck := by
    cases a; obtain ⟨x, ak, nk, ck, rfl, _⟩ := ha; exact ⟨_, x, ak, nk, ck, rfl⟩
  have hbx : Below w.heap.size w (w.alloc (.cells (jCells ka xa aa na ca) 24)) := (Below.refl _ _).alloc (Nat.le_refl _) _
  have HBX := Lib.hid hbx
  have CSa := fun W (h : RdJ (fun _ => True) W a (jCells ka xa aa na ca)) => Lib.hid (small_calls a (fun _ => True) W _ h)
  obtain ⟨sa, hsa⟩ : ∃ s, s = smallJ a := ⟨_, rfl⟩
  rw [← hsa] at CSa
  have HSA := Lib.hid hsa
  clear ha hbx hsa
  cases sa with
  | false =>
    go_enter Try.func16, Try.ntmps16
    go_wp2_with fail
    refine (CA _).out.mono ?_
    rintro e w1 ⟨rfl, hb1⟩
    have hB1 : Below (w.heap.size + 1) (w.alloc (.cells (jCells ka xa aa na ca) 24)) w1 := by rw [show w.heap.size + 1 = (w.alloc (.cells (jCells ka xa aa na ca) 24)).heap.size by simp]; exact hb1
    obtain ⟨f0, f1, f2, hz1⟩ := one_cells hB1
    have HA1 : Hid (RdJ (fun _ => True) w1 a (jCells ka xa aa na ca)) := HA.out.below (HBX.out.trans (hB1.mono (by omega)))
    have HB1 := Lib.hid hB1
    clear hb1 hB1
    go_wp2_with fail
    refine (CSa _ HA1.out).out.mono ?_
    rintro e w2 ⟨rfl, hb2⟩
    clear f0 f1 f2
    have hB2 : Below (w.heap.size + 1) (w.alloc (.cells (jCells ka xa aa na ca) 24)) w2 := HB1.out.trans (hb2.mono hz1)
    obtain ⟨f0, f1, f2, hz2⟩ := one_cells hB2
    have HA2 : Hid (RdJ (fun _ => True) w2 a (jCells ka xa aa na ca)) := HA.out.below (HBX.out.trans (hB2.mono (by omega)))
    have HB2 := Lib.hid hB2
    clear hb2 hB2
    go_wp2_with fail
    go_ret
    exact ⟨rfl, HBX.out.trans (HB2.out.mono (by omega))⟩
  | true =>
  have hwa := smallJ_wt HSA.out.symm
  by_cases cka : checkJ a = 0
  case neg =>
    have hq0 : ((checkJ a : Nat) : Int) ≠ 0 := by omega
    obtain ⟨q, hq⟩ : ∃ q, q = checkJ a := ⟨_, rfl⟩
    have CPa := fun W (h : RdJ (fun _ => True) W a (jCells ka xa aa na ca)) => Lib.hid (print_no a (by omega) cka (fun _ => True) W _ h)
    rw [← hq] at CPa hq0
    have d2 : ((q : Int) != 0) = true := by simpa using hq0
    clear hq hq0 cka
    go_enter Try.func16, Try.ntmps16
    go_wp2_with fail
    refine (CA _).out.mono ?_
    rintro e w1 ⟨rfl, hb1⟩
    have hB1 : Below (w.heap.size + 1) (w.alloc (.cells (jCells ka xa aa na ca) 24)) w1 := by rw [show w.heap.size + 1 = (w.alloc (.cells (jCells ka xa aa na ca) 24)).heap.size by simp]; exact hb1
    obtain ⟨f0, f1, f2, hz1⟩ := one_cells hB1
    have HA1 : Hid (RdJ (fun _ => True) w1 a (jCells ka xa aa na ca)) := HA.out.below (HBX.out.trans (hB1.mono (by omega)))
    have HB1 := Lib.hid hB1
    clear hb1 hB1
    go_wp2_with fail
    refine (CSa _ HA1.out).out.mono ?_
    rintro e w2 ⟨rfl, hb2⟩
    clear f0 f1 f2
    have hB2 : Below (w.heap.size + 1) (w.alloc (.cells (jCells ka xa aa na ca) 24)) w2 := HB1.out.trans (hb2.mono hz1)
    obtain ⟨f0, f1, f2, hz2⟩ := one_cells hB2
    have HA2 : Hid (RdJ (fun _ => True) w2 a (jCells ka xa aa na ca)) := HA.out.below (HBX.out.trans (hB2.mono (by omega)))
    have HB2 := Lib.hid hB2
    clear hb2 hB2
    go_wp2_with fail
    refine (CPa _ HA2.out).out.mono ?_
    rintro e w3 ⟨rfl, hb3⟩
    have HB3 := Lib.hid (HB2.out.trans (hb3.mono hz2))
    clear hb3
    go_wp2_with fail
    go_ret
    exact ⟨rfl, HBX.out.trans (HB3.out.mono (by omega))⟩
  obtain ⟨pa, hpa⟩ : ∃ p, p = txt (printJ a) := ⟨_, rfl⟩
  have CPa := fun W (h : RdJ (fun _ => True) W a (jCells ka xa aa na ca)) => Lib.hid (print_yes a (by omega) cka pa hpa (fun _ => True) W _ h)
  have hps : pa.size ≤ 1000000 := by
    have := print_wt a
    rw [← sl_len, hpa, sl_txt]; omega
  have hpp : parseP (sl pa) 1000 = .ok a 0 := by
    have := nest_wt a
    rw [hpa, sl_txt]
    exact parse_print a 1000 cka (by omega) (by omega)
  have CPr := fun W => Lib.hid (parse_yes pa hps 1000 (by omega) a 0 hpp W)
  have CS := Lib.hid (fun S S' W ca cb => same_all (wtJ a) a a (Nat.le_refl _) S S' W ca cb)
  rw [(eqJ_iff a a).2 rfl] at CS
  clear hpa hpp cka
  go_enter Try.func16, Try.ntmps16
  go_wp2_with fail
  refine (CA _).out.mono ?_
  rintro e w1 ⟨rfl, hb1⟩
  have hB1 : Below (w.heap.size + 1) (w.alloc (.cells (jCells ka xa aa na ca) 24)) w1 := by rw [show w.heap.size + 1 = (w.alloc (.cells (jCells ka xa aa na ca) 24)).heap.size by simp]; exact hb1
  obtain ⟨f0, f1, f2, hz1⟩ := one_cells hB1
  have HA1 : Hid (RdJ (fun _ => True) w1 a (jCells ka xa aa na ca)) := HA.out.below (HBX.out.trans (hB1.mono (by omega)))
  have HB1 := Lib.hid hB1
  clear hb1 hB1
  go_wp2_with fail
  refine (CSa _ HA1.out).out.mono ?_
  rintro e w2 ⟨rfl, hb2⟩
  clear f0 f1 f2
  have hB2 : Below (w.heap.size + 1) (w.alloc (.cells (jCells ka xa aa na ca) 24)) w2 := HB1.out.trans (hb2.mono hz1)
  obtain ⟨f0, f1, f2, hz2⟩ := one_cells hB2
  have HA2 : Hid (RdJ (fun _ => True) w2 a (jCells ka xa aa na ca)) := HA.out.below (HBX.out.trans (hB2.mono (by omega)))
  have HB2 := Lib.hid hB2
  clear hb2 hB2
  go_wp2_with fail
  refine (CPa _ HA2.out).out.mono ?_
  rintro e w3 ⟨rfl, hb3⟩
  clear f0 f1 f2
  have hB3 : Below (w.heap.size + 1) (w.alloc (.cells (jCells ka xa aa na ca) 24)) w3 := HB2.out.trans (hb3.mono hz2)
  obtain ⟨f0, f1, f2, hz3⟩ := one_cells hB3
  have HA3 : Hid (RdJ (fun _ => True) w3 a (jCells ka xa aa na ca)) := HA.out.below (HBX.out.trans (hB3.mono (by omega)))
  have HB3 := Lib.hid hB3
  clear hb3 hB3
  go_wp2_with fail
  refine (CPr _).out.mono ?_
  rintro e w4 ⟨⟨kb, xb, ab, nb, cb, rfl, hrd⟩, hb4⟩
  clear f0 f1 f2
  have hB4 : Below (w.heap.size + 1) (w.alloc (.cells (jCells ka xa aa na ca) 24)) w4 := HB3.out.trans (hb4.mono hz3)
  obtain ⟨f0, f1, f2, hz4⟩ := one_cells hB4
  have HA4 : Hid (RdJ (fun _ => True) w4 a (jCells ka xa aa na ca)) := HA.out.below (HBX.out.trans (hB4.mono (by omega)))
  have HB4 := Lib.hid hB4
  clear hb4 hB4
  have l0 : w.heap.size < w4.heap.size := by omega
  have hB5 : Below w4.heap.size w4 ((w4.alloc (.cells #[.int .i64 kb, .string xb, .slice ab nb cb] 24)).alloc (.cells #[.int .i64 0, .int .i64 0, .slice none 0 0] 36)) := ((Below.refl _ _).alloc (Nat.le_refl _) _).alloc (by simp) _
  have HRB := Lib.hid (hrd.below hB5)
  have HRA := Lib.hid (HA4.out.below hB5)
  have HB5 := Lib.hid hB5
  clear hrd hB5
  go_wp2_with fail
  refine (CS.out _ _ _ _ _ HRB.out HRA.out).mono ?_
  rintro e w6 ⟨rfl, hb6⟩
  have HB6 := Lib.hid (HB5.out.trans (hb6.mono (by simp; omega)))
  clear hb6
  go_wp2_with fail
  go_ret
  exact ⟨rfl, HBX.out.trans (HB4.out.mono (by omega) |>.trans (HB6.out.mono (by omega)))⟩

end Go.Proofs.Ytamhdoijmkjngaa
