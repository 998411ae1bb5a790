/- JsonBack: the walk. -/
import Derived.Test.YtamhdoijmkjngaaJM2
import Derived.Test.YtamhdoijmkjngaaJM3
namespace Go.Proofs.Ytamhdoijmkjngaa
open Go.RowKit
set_option linter.unusedVariables false
set_option linter.unusedSimpArgs false

set_option maxRecDepth 100000 in
set_option maxHeartbeats 16000000 in
theorem JsonBack_walk (w : World) (c : Array Value) (a : J) (ha : RdJ (fun _ => True) w a c) :
    Calls Try.prog 11 #[.agg c] w fun e w' => e = .returned (.bool true) ∧ Below w.heap.size w w' := by
  have CA := fun W => Lib.hid (awake23 W)
  have HA := Lib.hid ha
  obtain ⟨ka, xa, aa, na, ca, rfl⟩ : ∃ (k : Int) (x : ByteArray) (ak : Option Addr) (nk ck : Nat), c = jCells k x ak nk ck := by
    cases a; obtain ⟨x, ak, nk, ck, rfl, _⟩ := ha; exact ⟨_, x, ak, nk, ck, rfl⟩
  have hbx : Below w.heap.size w (w.alloc (.cells (jCells ka xa aa na ca) 24)) := (Below.refl _ _).alloc (Nat.le_refl _) _
  have HBX := Lib.hid hbx
  have CSa := fun W (h : RdJ (fun _ => True) W a (jCells ka xa aa na ca)) => Lib.hid (small_calls a (fun _ => True) W _ h)
  obtain ⟨sa, hsa⟩ : ∃ s, s = smallJ a := ⟨_, rfl⟩
  rw [← hsa] at CSa
  have HSA := Lib.hid hsa
  clear ha hbx hsa
  cases sa with
  | false =>
    go_enter Try.func11, Try.ntmps11
    go_wp2_with fail
    refine (CA _).out.mono ?_
    rintro e w1 ⟨rfl, hb1⟩
    have hB1 : Below (w.heap.size + 1) (w.alloc (.cells (jCells ka xa aa na ca) 24)) w1 := by rw [show w.heap.size + 1 = (w.alloc (.cells (jCells ka xa aa na ca) 24)).heap.size by simp]; exact hb1
    obtain ⟨f0, f1, f2, hz1⟩ := one_cells hB1
    have HA1 : Hid (RdJ (fun _ => True) w1 a (jCells ka xa aa na ca)) := HA.out.below (HBX.out.trans (hB1.mono (by omega)))
    have HB1 := Lib.hid hB1
    clear hb1 hB1
    go_wp2_with fail
    refine (CSa _ HA1.out).out.mono ?_
    rintro e w2 ⟨rfl, hb2⟩
    clear f0 f1 f2
    have hB2 : Below (w.heap.size + 1) (w.alloc (.cells (jCells ka xa aa na ca) 24)) w2 := HB1.out.trans (hb2.mono hz1)
    obtain ⟨f0, f1, f2, hz2⟩ := one_cells hB2
    have HA2 : Hid (RdJ (fun _ => True) w2 a (jCells ka xa aa na ca)) := HA.out.below (HBX.out.trans (hB2.mono (by omega)))
    have HB2 := Lib.hid hB2
    clear hb2 hB2
    go_wp2_with fail
    go_ret
    exact ⟨rfl, HBX.out.trans (HB2.out.mono (by omega))⟩
  | true =>
  have hwa := smallJ_wt HSA.out.symm
  by_cases cka : checkJ a = 0
  case neg =>
    have hq0 : ((checkJ a : Nat) : Int) ≠ 0 := by omega
    obtain ⟨q, hq⟩ : ∃ q, q = checkJ a := ⟨_, rfl⟩
    have CPa := fun W (h : RdJ (fun _ => True) W a (jCells ka xa aa na ca)) => Lib.hid ((rprint_calls a (by omega) (fun _ => True) W _ h).mono (fun e w' x => (show e = .returned (.tuple #[.string ⟨#[]⟩, .int .i64 (checkJ a : Nat)]) ∧ Below _ _ w' from ⟨x.2.1 cka, x.2.2⟩)))
    rw [← hq] at CPa hq0
    have d2 : ((q : Int) != 0) = true := by simpa using hq0
    clear hq hq0 cka
    go_enter Try.func11, Try.ntmps11
    go_wp2_with fail
    refine (CA _).out.mono ?_
    rintro e w1 ⟨rfl, hb1⟩
    have hB1 : Below (w.heap.size + 1) (w.alloc (.cells (jCells ka xa aa na ca) 24)) w1 := by rw [show w.heap.size + 1 = (w.alloc (.cells (jCells ka xa aa na ca) 24)).heap.size by simp]; exact hb1
    obtain ⟨f0, f1, f2, hz1⟩ := one_cells hB1
    have HA1 : Hid (RdJ (fun _ => True) w1 a (jCells ka xa aa na ca)) := HA.out.below (HBX.out.trans (hB1.mono (by omega)))
    have HB1 := Lib.hid hB1
    clear hb1 hB1
    go_wp2_with fail
    refine (CSa _ HA1.out).out.mono ?_
    rintro e w2 ⟨rfl, hb2⟩
    clear f0 f1 f2
    have hB2 : Below (w.heap.size + 1) (w.alloc (.cells (jCells ka xa aa na ca) 24)) w2 := HB1.out.trans (hb2.mono hz1)
    obtain ⟨f0, f1, f2, hz2⟩ := one_cells hB2
    have HA2 : Hid (RdJ (fun _ => True) w2 a (jCells ka xa aa na ca)) := HA.out.below (HBX.out.trans (hB2.mono (by omega)))
    have HB2 := Lib.hid hB2
    clear hb2 hB2
    go_wp2_with fail
    refine (CPa _ HA2.out).out.mono ?_
    rintro e w3 ⟨rfl, hb3⟩
    have HB3 := Lib.hid (HB2.out.trans (hb3.mono hz2))
    clear hb3
    go_wp2_with fail
    go_ret
    exact ⟨rfl, HBX.out.trans (HB3.out.mono (by omega))⟩
  obtain ⟨pa, hpa⟩ : ∃ p, p = txt (printJ a) := ⟨_, rfl⟩
  have CPa := fun W (h : RdJ (fun _ => True) W a (jCells ka xa aa na ca)) => Lib.hid ((rprint_calls a (by omega) (fun _ => True) W _ h).mono (fun e w' x => (show e = .returned (.tuple #[.string pa, .int .i64 0]) ∧ Below _ _ w' from ⟨by rw [x.1 cka, hpa], x.2.2⟩)))
  have hps : pa.size ≤ 1000000 := by
    have := print_wt a
    rw [← sl_len, hpa, sl_txt]; omega
  obtain ⟨n, hn⟩ : ∃ n, n = nestJ a := ⟨_, rfl⟩
  have hnw : n ≤ 750 := by have := nest_wt a; omega
  have CNe := fun W (h : RdJ (fun _ => True) W a (jCells ka xa aa na ca)) => Lib.hid (nest_all (wtJ a) a (Nat.le_refl _) (by omega) (fun _ => True) W _ h)
  rw [← hn] at CNe
  have hpp : parseP (sl pa) (n : Nat) = .ok a 0 := by
    rw [hpa, sl_txt]
    exact parse_print a n cka (by omega) (by omega)
  have CPr := fun W => Lib.hid (parse_yes pa hps n (by omega) a 0 hpp W)
  have hpd : ∃ x b, parseP (sl pa) ((n : Int) - 1) = .bad x b ∧ ((n = 0 ∧ x = 1) ∨ (0 < n ∧ x = 8)) := by
    by_cases h0 : n = 0
    · subst h0
      exact ⟨1, 0, by unfold parseP; rw [if_pos (by omega)], .inl ⟨rfl, rfl⟩⟩
    · rw [hpa, sl_txt]
      obtain ⟨b, hb⟩ := parse_deep a ((n : Int) - 1) cka (by omega) (by omega) (by omega)
      exact ⟨8, b, hb, .inr ⟨by omega, rfl⟩⟩
  obtain ⟨xd, bd, hpd, hxd⟩ := hpd
  have CPd := fun W => Lib.hid (parse_no pa hps ((n : Int) - 1) (by omega) xd bd hpd W)
  have hwr : IntKind.i64.wrap ((n : Int) - 1) = (n : Int) - 1 := by simp [IntKind.wrap, IntKind.bits, IntKind.signed]; omega
  have CS := Lib.hid (fun S S' W ca cb => same_all (wtJ a) a a (Nat.le_refl _) S S' W ca cb)
  rw [(eqJ_iff a a).2 rfl] at CS
  clear hpa hpp hpd cka hn
  have hx2 : (n = 0 ∧ xd = 1) ∨ (0 < n ∧ xd = 8) := hxd
  clear hxd
  rcases hx2 with ⟨rfl, rfl⟩ | ⟨hn0, rfl⟩
  all_goals
    go_enter Try.func11, Try.ntmps11
    go_wp2_with fail
    refine (CA _).out.mono ?_
    rintro e w1 ⟨rfl, hb1⟩
    have hB1 : Below (w.heap.size + 1) (w.alloc (.cells (jCells ka xa aa na ca) 24)) w1 := by rw [show w.heap.size + 1 = (w.alloc (.cells (jCells ka xa aa na ca) 24)).heap.size by simp]; exact hb1
    obtain ⟨f0, f1, f2, hz1⟩ := one_cells hB1
    have HA1 : Hid (RdJ (fun _ => True) w1 a (jCells ka xa aa na ca)) := HA.out.below (HBX.out.trans (hB1.mono (by omega)))
    have HB1 := Lib.hid hB1
    clear hb1 hB1
    go_wp2_with fail
    refine (CSa _ HA1.out).out.mono ?_
    rintro e w2 ⟨rfl, hb2⟩
    clear f0 f1 f2
    have hB2 : Below (w.heap.size + 1) (w.alloc (.cells (jCells ka xa aa na ca) 24)) w2 := HB1.out.trans (hb2.mono hz1)
    obtain ⟨f0, f1, f2, hz2⟩ := one_cells hB2
    have HA2 : Hid (RdJ (fun _ => True) w2 a (jCells ka xa aa na ca)) := HA.out.below (HBX.out.trans (hB2.mono (by omega)))
    have HB2 := Lib.hid hB2
    clear hb2 hB2
    go_wp2_with fail
    refine (CPa _ HA2.out).out.mono ?_
    rintro e w3 ⟨rfl, hb3⟩
    clear f0 f1 f2
    have hB3 : Below (w.heap.size + 1) (w.alloc (.cells (jCells ka xa aa na ca) 24)) w3 := HB2.out.trans (hb3.mono hz2)
    obtain ⟨f0, f1, f2, hz3⟩ := one_cells hB3
    have HA3 : Hid (RdJ (fun _ => True) w3 a (jCells ka xa aa na ca)) := HA.out.below (HBX.out.trans (hB3.mono (by omega)))
    have HB3 := Lib.hid hB3
    clear hb3 hB3
    go_wp2_with fail
    refine (CNe _ HA3.out).out.mono ?_
    rintro e w4 ⟨rfl, hb4⟩
    clear f0 f1 f2
    have hB4 : Below (w.heap.size + 1) (w.alloc (.cells (jCells ka xa aa na ca) 24)) w4 := HB3.out.trans (hb4.mono hz3)
    obtain ⟨f0, f1, f2, hz4⟩ := one_cells hB4
    have HA4 : Hid (RdJ (fun _ => True) w4 a (jCells ka xa aa na ca)) := HA.out.below (HBX.out.trans (hB4.mono (by omega)))
    have HB4 := Lib.hid hB4
    clear hb4 hB4
    go_wp2_with fail
    refine (CPr _).out.mono ?_
    rintro e w5 ⟨⟨kb, xb, ab, nb, cb, rfl, hrd⟩, hb5⟩
    clear f0 f1 f2
    have hB5 : Below (w.heap.size + 1) (w.alloc (.cells (jCells ka xa aa na ca) 24)) w5 := HB4.out.trans (hb5.mono hz4)
    obtain ⟨f0, f1, f2, hz5⟩ := one_cells hB5
    have HA5 : Hid (RdJ (fun _ => True) w5 a (jCells ka xa aa na ca)) := HA.out.below (HBX.out.trans (hB5.mono (by omega)))
    have HB5 := Lib.hid hB5
    clear hb5 hB5
    have l0 : w.heap.size < w5.heap.size := by omega
    have hB6 : Below w5.heap.size w5 ((w5.alloc (.cells #[.int .i64 kb, .string xb, .slice ab nb cb] 24)).alloc (.cells #[.int .i64 0, .int .i64 0, .slice none 0 0] 36)) := ((Below.refl _ _).alloc (Nat.le_refl _) _).alloc (by simp) _
    have HRB := Lib.hid (hrd.below hB6)
    have HRA := Lib.hid (HA5.out.below hB6)
    have HB6 := Lib.hid (HB5.out.trans (hB6.mono hz5))
    clear hrd hB6
    go_wp2_with fail
    refine (CS.out _ _ _ _ _ HRB.out HRA.out).mono ?_
    rintro e w7 ⟨rfl, hb7⟩
    have HB7 := Lib.hid (HB6.out.trans (hb7.mono (by simp; omega)))
    have hz7 : w.heap.size + 1 ≤ w7.heap.size := by have := HB7.out.size; simpa using this
    clear hb7
    go_wp2_with fail
    refine (CPd _).out.mono ?_
    rintro e w8 ⟨rfl, _, hb8⟩
    have HB8 := Lib.hid (HB7.out.trans (hb8.mono hz7))
    have hz8 : w.heap.size + 1 ≤ w8.heap.size := by have := HB8.out.size; simpa using this
    clear hb8
    simp only [jCells]
    go_wp2_with fail
    go_ret
    exact ⟨rfl, HBX.out.trans (((HB8.out.alloc hz8 _).alloc (by simp; omega) _).mono (by omega))⟩

end Go.Proofs.Ytamhdoijmkjngaa
