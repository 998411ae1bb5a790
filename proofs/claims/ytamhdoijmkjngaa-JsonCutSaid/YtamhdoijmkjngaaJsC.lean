/- JsonCut: the walk. -/
import Derived.Test.YtamhdoijmkjngaaJM2
import Derived.Test.YtamhdoijmkjngaaJM3
import Derived.Test.YtamhdoijmkjngaaJM4
namespace Go.Proofs.Ytamhdoijmkjngaa
open Go.RowKit
set_option linter.unusedVariables false
set_option linter.unusedSimpArgs false

theorem zero_rd (S : Nat → Prop) (w : World) : RdJ S w (.mk 0 [] .nil) (jCells 0 ⟨#[]⟩ none 0 0) :=
  ⟨⟨#[]⟩, none, 0, 0, rfl, rfl, by decide, by decide, rfl, ⟨by decide, fun _ => rfl, Nat.le_refl _⟩, trivial⟩
theorem eqJ_self0 : eqJ (.mk 0 [] .nil) (.mk 0 [] .nil) = true := (eqJ_iff _ _).2 rfl

set_option maxRecDepth 100000 in
set_option maxHeartbeats 1600000 in
theorem JsonCut_walk (w : World) (c : Array Value) (a : J) (ha : RdJ (fun _ => True) w a c) (k : Int) (hk9 : -9223372036854775808 ≤ k ∧ k ≤ 9223372036854775807) :
    Calls Try.prog 14 #[.agg c, .int .i64 k] w fun e w' => e = .returned (.bool true) ∧ Below w.heap.size w w' := by
  have CA := fun W => Lib.hid (awake23 W)
  have HA := Lib.hid ha
  obtain ⟨ka, xa, aa, na, ca, rfl, hka⟩ : ∃ (k : Int) (x : ByteArray) (ak : Option Addr) (nk ck : Nat), c = jCells k x ak nk ck ∧ a.kind = k := by
    cases a; obtain ⟨x, ak, nk, ck, rfl, _⟩ := ha; exact ⟨_, x, ak, nk, ck, rfl, rfl⟩
  have hbx : Below w.heap.size w (w.alloc (.cells (jCells ka xa aa na ca) 24)) := (Below.refl _ _).alloc (Nat.le_refl _) _
  have HBX := Lib.hid hbx
  have CSa := fun W (h : RdJ (fun _ => True) W a (jCells ka xa aa na ca)) => Lib.hid (small_calls a (fun _ => True) W _ h)
  obtain ⟨sa, hsa⟩ : ∃ s, s = smallJ a := ⟨_, rfl⟩
  rw [← hsa] at CSa
  have HSA := Lib.hid hsa
  clear ha hbx hsa
  cases sa with
  | false =>
    go_enter Try.func14, Try.ntmps14
    go_wp2_with fail
    refine (CA _).out.mono ?_
    rintro e w1 ⟨rfl, hb1⟩
    have hB1 : Below (w.heap.size + 1) (w.alloc (.cells (jCells ka xa aa na ca) 24)) w1 := by rw [show w.heap.size + 1 = (w.alloc (.cells (jCells ka xa aa na ca) 24)).heap.size by simp]; exact hb1
    obtain ⟨f0, f1, f2, hz1⟩ := one_cells hB1
    have HA1 : Hid (RdJ (fun _ => True) w1 a (jCells ka xa aa na ca)) := HA.out.below (HBX.out.trans (hB1.mono (by omega)))
    have HB1 := Lib.hid hB1
    clear hb1 hB1
    go_wp2_with fail
    refine (CSa _ HA1.out).out.mono ?_
    rintro e w2 ⟨rfl, hb2⟩
    clear f0 f1 f2
    have hB2 : Below (w.heap.size + 1) (w.alloc (.cells (jCells ka xa aa na ca) 24)) w2 := HB1.out.trans (hb2.mono hz1)
    obtain ⟨f0, f1, f2, hz2⟩ := one_cells hB2
    have HA2 : Hid (RdJ (fun _ => True) w2 a (jCells ka xa aa na ca)) := HA.out.below (HBX.out.trans (hB2.mono (by omega)))
    have HB2 := Lib.hid hB2
    clear hb2 hB2
    go_wp2_with fail
    go_ret
    exact ⟨rfl, HBX.out.trans (HB2.out.mono (by omega))⟩
  | true =>
  have hwa := smallJ_wt HSA.out.symm
  by_cases hk4 : ka = 4
  · subst hk4
    go_enter Try.func14, Try.ntmps14
    go_wp2_with fail
    refine (CA _).out.mono ?_
    rintro e w1 ⟨rfl, hb1⟩
    have hB1 : Below (w.heap.size + 1) (w.alloc (.cells (jCells 4 xa aa na ca) 24)) w1 := by rw [show w.heap.size + 1 = (w.alloc (.cells (jCells 4 xa aa na ca) 24)).heap.size by simp]; exact hb1
    obtain ⟨f0, f1, f2, hz1⟩ := one_cells hB1
    have HA1 : Hid (RdJ (fun _ => True) w1 a (jCells 4 xa aa na ca)) := HA.out.below (HBX.out.trans (hB1.mono (by omega)))
    have HB1 := Lib.hid hB1
    clear hb1 hB1
    go_wp2_with fail
    refine (CSa _ HA1.out).out.mono ?_
    rintro e w2 ⟨rfl, hb2⟩
    clear f0 f1 f2
    have hB2 : Below (w.heap.size + 1) (w.alloc (.cells (jCells 4 xa aa na ca) 24)) w2 := HB1.out.trans (hb2.mono hz1)
    obtain ⟨f0, f1, f2, hz2⟩ := one_cells hB2
    have HA2 : Hid (RdJ (fun _ => True) w2 a (jCells 4 xa aa na ca)) := HA.out.below (HBX.out.trans (hB2.mono (by omega)))
    have HB2 := Lib.hid hB2
    clear hb2 hB2
    go_wp2_with fail
    go_ret
    exact ⟨rfl, HBX.out.trans (HB2.out.mono (by omega))⟩
  have dk : (ka == 4) = false := by simpa using hk4
  by_cases cka : checkJ a = 0
  case neg =>
    have hq0 : ((checkJ a : Nat) : Int) ≠ 0 := by omega
    obtain ⟨q, hq⟩ : ∃ q, q = checkJ a := ⟨_, rfl⟩
    have CPa := fun W (h : RdJ (fun _ => True) W a (jCells ka xa aa na ca)) => Lib.hid ((rprint_calls a (by omega) (fun _ => True) W _ h).mono (fun e w' x => (show e = .returned (.tuple #[.string ⟨#[]⟩, .int .i64 (checkJ a : Nat)]) ∧ Below _ _ w' from ⟨x.2.1 cka, x.2.2⟩)))
    rw [← hq] at CPa hq0
    have d2 : ((q : Int) != 0) = true := by simpa using hq0
    clear hq hq0 cka
    go_enter Try.func14, Try.ntmps14
    go_wp2_with fail
    refine (CA _).out.mono ?_
    rintro e w1 ⟨rfl, hb1⟩
    have hB1 : Below (w.heap.size + 1) (w.alloc (.cells (jCells ka xa aa na ca) 24)) w1 := by rw [show w.heap.size + 1 = (w.alloc (.cells (jCells ka xa aa na ca) 24)).heap.size by simp]; exact hb1
    obtain ⟨f0, f1, f2, hz1⟩ := one_cells hB1
    have HA1 : Hid (RdJ (fun _ => True) w1 a (jCells ka xa aa na ca)) := HA.out.below (HBX.out.trans (hB1.mono (by omega)))
    have HB1 := Lib.hid hB1
    clear hb1 hB1
    go_wp2_with fail
    refine (CSa _ HA1.out).out.mono ?_
    rintro e w2 ⟨rfl, hb2⟩
    clear f0 f1 f2
    have hB2 : Below (w.heap.size + 1) (w.alloc (.cells (jCells ka xa aa na ca) 24)) w2 := HB1.out.trans (hb2.mono hz1)
    obtain ⟨f0, f1, f2, hz2⟩ := one_cells hB2
    have HA2 : Hid (RdJ (fun _ => True) w2 a (jCells ka xa aa na ca)) := HA.out.below (HBX.out.trans (hB2.mono (by omega)))
    have HB2 := Lib.hid hB2
    clear hb2 hB2
    go_wp2_with fail
    refine (CPa _ HA2.out).out.mono ?_
    rintro e w3 ⟨rfl, hb3⟩
    have HB3 := Lib.hid (HB2.out.trans (hb3.mono hz2))
    clear hb3
    go_wp2_with fail
    go_ret
    exact ⟨rfl, HBX.out.trans (HB3.out.mono (by omega))⟩
  obtain ⟨pa, hpa⟩ : ∃ p, p = txt (printJ a) := ⟨_, rfl⟩
  have CPa := fun W (h : RdJ (fun _ => True) W a (jCells ka xa aa na ca)) => Lib.hid ((rprint_calls a (by omega) (fun _ => True) W _ h).mono (fun e w' x => (show e = .returned (.tuple #[.string pa, .int .i64 0]) ∧ Below _ _ w' from ⟨by rw [x.1 cka, hpa], x.2.2⟩)))
  have hps : pa.size ≤ 1000000 := by
    have := print_wt a
    rw [← sl_len, hpa, sl_txt]; omega
  have hp0 : 0 < pa.size := by
    obtain ⟨q, c, hq, _⟩ := print_last a cka (by rw [hka]; exact hk4)
    rw [← sl_len, hpa, sl_txt, hq]; simp
  have hnst := nest_wt a
  obtain ⟨m, hm⟩ : ∃ m, m = placeN k pa.size := ⟨_, rfl⟩
  have hml : m < pa.size := by rw [hm]; exact place_lt k _ hp0
  have CPl := fun W => Lib.hid (place_calls k pa.size hp0 hps W)
  rw [← hm] at CPl
  obtain ⟨x, b, hpc⟩ : ∃ e b, parseP ((sl pa).take m) 1000 = .bad e b := by
    have hl : m < (printJ a).length := by rw [← sl_len, hpa, sl_txt] at hml; exact hml
    rw [hpa, sl_txt]
    exact print_cut a m cka (by rw [hka]; exact hk4) (by omega) hl
  have hbm := parse_bad_le _ _ _ _ hpc
  rw [List.length_take] at hbm
  have hbm2 : b ≤ m := by omega
  obtain ⟨pc, hpc2⟩ : ∃ p, p = pa.extract 0 m := ⟨_, rfl⟩
  have hsz : pc.size ≤ 1000000 := by rw [hpc2]; simp; omega
  have hps2 : parseP (sl pc) 1000 = .bad x b := by rw [hpc2, sl_ext]; simpa using hpc
  have CPr := fun W => Lib.hid (parse_no pc hsz 1000 (by omega) x b hps2 W)
  have CS := Lib.hid (fun S S' W ca cb => same_all 5 (.mk 0 [] .nil) (.mk 0 [] .nil) (by decide) S S' W ca cb)
  have g1 : decide ((b : Int) ≤ (m : Int)) = true := by simp; omega
  have g2 : decide ((m : Int) ≤ (pa.size : Int)) = true := by simp; omega
  subst hpc2
  clear hpa hpc hps2 hm cka hbm hnst
  go_enter Try.func14, Try.ntmps14
  go_wp2_with fail
  refine (CA _).out.mono ?_
  rintro e w1 ⟨rfl, hb1⟩
  have hB1 : Below (w.heap.size + 1) (w.alloc (.cells (jCells ka xa aa na ca) 24)) w1 := by rw [show w.heap.size + 1 = (w.alloc (.cells (jCells ka xa aa na ca) 24)).heap.size by simp]; exact hb1
  obtain ⟨f0, f1, f2, hz1⟩ := one_cells hB1
  have HA1 : Hid (RdJ (fun _ => True) w1 a (jCells ka xa aa na ca)) := HA.out.below (HBX.out.trans (hB1.mono (by omega)))
  have HB1 := Lib.hid hB1
  clear hb1 hB1
  go_wp2_with fail
  refine (CSa _ HA1.out).out.mono ?_
  rintro e w2 ⟨rfl, hb2⟩
  clear f0 f1 f2
  have hB2 : Below (w.heap.size + 1) (w.alloc (.cells (jCells ka xa aa na ca) 24)) w2 := HB1.out.trans (hb2.mono hz1)
  obtain ⟨f0, f1, f2, hz2⟩ := one_cells hB2
  have HA2 : Hid (RdJ (fun _ => True) w2 a (jCells ka xa aa na ca)) := HA.out.below (HBX.out.trans (hB2.mono (by omega)))
  have HB2 := Lib.hid hB2
  clear hb2 hB2
  go_wp2_with fail
  refine (CPa _ HA2.out).out.mono ?_
  rintro e w3 ⟨rfl, hb3⟩
  clear f0 f1 f2
  have hB3 : Below (w.heap.size + 1) (w.alloc (.cells (jCells ka xa aa na ca) 24)) w3 := HB2.out.trans (hb3.mono hz2)
  obtain ⟨f0, f1, f2, hz3⟩ := one_cells hB3
  have HA3 : Hid (RdJ (fun _ => True) w3 a (jCells ka xa aa na ca)) := HA.out.below (HBX.out.trans (hB3.mono (by omega)))
  have HB3 := Lib.hid hB3
  clear hb3 hB3
  go_wp2_with fail
  refine (CPl _).out.mono ?_
  rintro e w4 ⟨rfl, rfl⟩
  go_wp2_with fail
  refine (CPr _).out.mono ?_
  rintro e w5 ⟨rfl, hx, hb5⟩
  have HB5 := Lib.hid (HB3.out.trans (hb5.mono hz3))
  have hz5 : w.heap.size + 1 ≤ w5.heap.size := by have := HB5.out.size; simpa using this
  have dx : ((x : Int) != 0) = true := by simp; omega
  clear f0 f1 f2 hb5
  simp only [jCells]
  go_wp2_with fail
  refine (CS.out (fun _ => True) (fun _ => True) _ _ _ (zero_rd _ _) (zero_rd _ _)).mono ?_
  rintro e w7 ⟨rfl, hb7⟩
  have HB7 := Lib.hid (((HB5.out.alloc hz5 _).alloc (by simp; omega) _).trans (hb7.mono (by simp; omega)))
  clear hb7
  rw [eqJ_self0]
  go_wp2_with fail
  go_ret
  exact ⟨rfl, HBX.out.trans (HB7.out.mono (by omega))⟩

end Go.Proofs.Ytamhdoijmkjngaa
