/- JsonBehind: the walk. The law JsonBehind holds for every input: its walk, lifted to the given statement. -/
import Derived.Test.YtamhdoijmkjngaaJM2
import Derived.Test.YtamhdoijmkjngaaJM3
import Derived.Test.YtamhdoijmkjngaaJM5
import Derived.Test.YtamhdoijmkjngaaJOpen
namespace Go.Proofs.Ytamhdoijmkjngaa
open Go.RowKit
set_option linter.unusedVariables false
set_option linter.unusedSimpArgs false

theorem sl_append (a b : ByteArray) : sl (a ++ b) = sl a ++ sl b := by unfold sl; simp

set_option maxRecDepth 100000 in
set_option maxHeartbeats 16000000 in
theorem JsonBehind_walk (w : World) (c : Array Value) (a : J) (ha : RdJ (fun _ => True) w a c) (more : ByteArray) (hm9 : more.size ≤ 9223372036854775807) :
    Calls Try.prog 12 #[.agg c, .string more] w fun e w' => e = .returned (.bool true) ∧ Below w.heap.size w w' := by
  have CA := fun W => Lib.hid (awake23 W)
  have HA := Lib.hid ha
  obtain ⟨ka, xa, aa, na, ca, rfl, hka⟩ : ∃ (k : Int) (x : ByteArray) (ak : Option Addr) (nk ck : Nat), c = jCells k x ak nk ck ∧ a.kind = k := by
    cases a; obtain ⟨x, ak, nk, ck, rfl, _⟩ := ha; exact ⟨_, x, ak, nk, ck, rfl, rfl⟩
  have hbx : Below w.heap.size w (w.alloc (.cells (jCells ka xa aa na ca) 24)) := (Below.refl _ _).alloc (Nat.le_refl _) _
  have HBX := Lib.hid hbx
  have CSa := fun W (h : RdJ (fun _ => True) W a (jCells ka xa aa na ca)) => Lib.hid (small_calls a (fun _ => True) W _ h)
  obtain ⟨sa, hsa⟩ : ∃ s, s = smallJ a := ⟨_, rfl⟩
  rw [← hsa] at CSa
  have HSA := Lib.hid hsa
  clear ha hbx hsa
  cases sa with
  | false =>
    go_enter Try.func12, Try.ntmps12
    go_wp2_with fail
    refine (CA _).out.mono ?_
    rintro e w1 ⟨rfl, hb1⟩
    have hB1 : Below (w.heap.size + 1) (w.alloc (.cells (jCells ka xa aa na ca) 24)) w1 := by rw [show w.heap.size + 1 = (w.alloc (.cells (jCells ka xa aa na ca) 24)).heap.size by simp]; exact hb1
    obtain ⟨f0, f1, f2, hz1⟩ := one_cells hB1
    have HA1 : Hid (RdJ (fun _ => True) w1 a (jCells ka xa aa na ca)) := HA.out.below (HBX.out.trans (hB1.mono (by omega)))
    have HB1 := Lib.hid hB1
    clear hb1 hB1
    go_wp2_with fail
    refine (CSa _ HA1.out).out.mono ?_
    rintro e w2 ⟨rfl, hb2⟩
    clear f0 f1 f2
    have hB2 : Below (w.heap.size + 1) (w.alloc (.cells (jCells ka xa aa na ca) 24)) w2 := HB1.out.trans (hb2.mono hz1)
    obtain ⟨f0, f1, f2, hz2⟩ := one_cells hB2
    have HA2 : Hid (RdJ (fun _ => True) w2 a (jCells ka xa aa na ca)) := HA.out.below (HBX.out.trans (hB2.mono (by omega)))
    have HB2 := Lib.hid hB2
    clear hb2 hB2
    go_wp2_with fail
    go_ret
    exact ⟨rfl, HBX.out.trans (HB2.out.mono (by omega))⟩
  | true =>
  have hwa := smallJ_wt HSA.out.symm
  by_cases h5 : 500 < more.size
  · have d5 : decide ((500 : Int) < (more.size : Int)) = true := by simp; omega
    go_enter Try.func12, Try.ntmps12
    go_wp2_with fail
    refine (CA _).out.mono ?_
    rintro e w1 ⟨rfl, hb1⟩
    have hB1 : Below (w.heap.size + 1) (w.alloc (.cells (jCells ka xa aa na ca) 24)) w1 := by rw [show w.heap.size + 1 = (w.alloc (.cells (jCells ka xa aa na ca) 24)).heap.size by simp]; exact hb1
    obtain ⟨f0, f1, f2, hz1⟩ := one_cells hB1
    have HA1 : Hid (RdJ (fun _ => True) w1 a (jCells ka xa aa na ca)) := HA.out.below (HBX.out.trans (hB1.mono (by omega)))
    have HB1 := Lib.hid hB1
    clear hb1 hB1
    go_wp2_with fail
    refine (CSa _ HA1.out).out.mono ?_
    rintro e w2 ⟨rfl, hb2⟩
    clear f0 f1 f2
    have hB2 : Below (w.heap.size + 1) (w.alloc (.cells (jCells ka xa aa na ca) 24)) w2 := HB1.out.trans (hb2.mono hz1)
    obtain ⟨f0, f1, f2, hz2⟩ := one_cells hB2
    have HA2 : Hid (RdJ (fun _ => True) w2 a (jCells ka xa aa na ca)) := HA.out.below (HBX.out.trans (hB2.mono (by omega)))
    have HB2 := Lib.hid hB2
    clear hb2 hB2
    go_wp2_with fail
    go_ret
    exact ⟨rfl, HBX.out.trans (HB2.out.mono (by omega))⟩
  have d5 : decide ((500 : Int) < (more.size : Int)) = false := by simp; omega
  by_cases cka : checkJ a = 0
  case neg =>
    have hq0 : ((checkJ a : Nat) : Int) ≠ 0 := by omega
    obtain ⟨q, hq⟩ : ∃ q, q = checkJ a := ⟨_, rfl⟩
    have CPa := fun W (h : RdJ (fun _ => True) W a (jCells ka xa aa na ca)) => Lib.hid ((rprint_calls a (by omega) (fun _ => True) W _ h).mono (fun e w' x => (show e = .returned (.tuple #[.string ⟨#[]⟩, .int .i64 (checkJ a : Nat)]) ∧ Below _ _ w' from ⟨x.2.1 cka, x.2.2⟩)))
    rw [← hq] at CPa hq0
    have d2 : ((q : Int) != 0) = true := by simpa using hq0
    clear hq hq0 cka
    go_enter Try.func12, Try.ntmps12
    go_wp2_with fail
    refine (CA _).out.mono ?_
    rintro e w1 ⟨rfl, hb1⟩
    have hB1 : Below (w.heap.size + 1) (w.alloc (.cells (jCells ka xa aa na ca) 24)) w1 := by rw [show w.heap.size + 1 = (w.alloc (.cells (jCells ka xa aa na ca) 24)).heap.size by simp]; exact hb1
    obtain ⟨f0, f1, f2, hz1⟩ := one_cells hB1
    have HA1 : Hid (RdJ (fun _ => True) w1 a (jCells ka xa aa na ca)) := HA.out.below (HBX.out.trans (hB1.mono (by omega)))
    have HB1 := Lib.hid hB1
    clear hb1 hB1
    go_wp2_with fail
    refine (CSa _ HA1.out).out.mono ?_
    rintro e w2 ⟨rfl, hb2⟩
    clear f0 f1 f2
    have hB2 : Below (w.heap.size + 1) (w.alloc (.cells (jCells ka xa aa na ca) 24)) w2 := HB1.out.trans (hb2.mono hz1)
    obtain ⟨f0, f1, f2, hz2⟩ := one_cells hB2
    have HA2 : Hid (RdJ (fun _ => True) w2 a (jCells ka xa aa na ca)) := HA.out.below (HBX.out.trans (hB2.mono (by omega)))
    have HB2 := Lib.hid hB2
    clear hb2 hB2
    go_wp2_with fail
    refine (CPa _ HA2.out).out.mono ?_
    rintro e w3 ⟨rfl, hb3⟩
    have HB3 := Lib.hid (HB2.out.trans (hb3.mono hz2))
    clear hb3
    go_wp2_with fail
    go_ret
    exact ⟨rfl, HBX.out.trans (HB3.out.mono (by omega))⟩
  obtain ⟨pa, hpa⟩ : ∃ p, p = txt (printJ a) := ⟨_, rfl⟩
  have CPa := fun W (h : RdJ (fun _ => True) W a (jCells ka xa aa na ca)) => Lib.hid ((rprint_calls a (by omega) (fun _ => True) W _ h).mono (fun e w' x => (show e = .returned (.tuple #[.string pa, .int .i64 0]) ∧ Below _ _ w' from ⟨by rw [x.1 cka, hpa], x.2.2⟩)))
  by_cases hk4 : ka = 4
  · subst hk4
    go_enter Try.func12, Try.ntmps12
    go_wp2_with fail
    refine (CA _).out.mono ?_
    rintro e w1 ⟨rfl, hb1⟩
    have hB1 : Below (w.heap.size + 1) (w.alloc (.cells (jCells 4 xa aa na ca) 24)) w1 := by rw [show w.heap.size + 1 = (w.alloc (.cells (jCells 4 xa aa na ca) 24)).heap.size by simp]; exact hb1
    obtain ⟨f0, f1, f2, hz1⟩ := one_cells hB1
    have HA1 : Hid (RdJ (fun _ => True) w1 a (jCells 4 xa aa na ca)) := HA.out.below (HBX.out.trans (hB1.mono (by omega)))
    have HB1 := Lib.hid hB1
    clear hb1 hB1
    go_wp2_with fail
    refine (CSa _ HA1.out).out.mono ?_
    rintro e w2 ⟨rfl, hb2⟩
    clear f0 f1 f2
    have hB2 : Below (w.heap.size + 1) (w.alloc (.cells (jCells 4 xa aa na ca) 24)) w2 := HB1.out.trans (hb2.mono hz1)
    obtain ⟨f0, f1, f2, hz2⟩ := one_cells hB2
    have HA2 : Hid (RdJ (fun _ => True) w2 a (jCells 4 xa aa na ca)) := HA.out.below (HBX.out.trans (hB2.mono (by omega)))
    have HB2 := Lib.hid hB2
    clear hb2 hB2
    go_wp2_with fail
    refine (CPa _ HA2.out).out.mono ?_
    rintro e w3 ⟨rfl, hb3⟩
    clear f0 f1 f2
    have hB3 : Below (w.heap.size + 1) (w.alloc (.cells (jCells 4 xa aa na ca) 24)) w3 := HB2.out.trans (hb3.mono hz2)
    obtain ⟨f0, f1, f2, hz3⟩ := one_cells hB3
    have HA3 : Hid (RdJ (fun _ => True) w3 a (jCells 4 xa aa na ca)) := HA.out.below (HBX.out.trans (hB3.mono (by omega)))
    have HB3 := Lib.hid hB3
    clear hb3 hB3
    go_wp2_with fail
    go_ret
    exact ⟨rfl, HBX.out.trans (HB3.out.mono (by omega))⟩
  have dk : (ka == 4) = false := by simpa using hk4
  have hpl := print_wt a
  have hps : pa.size ≤ 20000 := by rw [← sl_len, hpa, sl_txt]; omega
  have hpz : (printJ a).length = pa.size := by rw [← sl_len, hpa, sl_txt]
  have hnst := nest_wt a
  have hcz : (pa ++ more).size ≤ 1000000 := by rw [← sl_len, sl_append, List.length_append, sl_len, sl_len]; omega
  have hpb := parse_behind a (sl more) 1000 cka (by rw [hka]; exact hk4) (by omega) (by omega)
  rw [← sl_txt (printJ a), ← hpa, ← sl_append, sl_len] at hpb
  have CNx : ∀ W, Hid (Calls Try.prog 27 #[.string more, .int .i64 0] W (LexOut W (nextAt (sl more) 0))) := fun W => Lib.hid (rnext_calls more (by omega) 0 (by omega) W)
  have hbd := nextAt_bd (sl more) 0 (Nat.zero_le _)
  clear hpa hpl cka hnst hpz
  obtain ⟨R, hR⟩ : ∃ R, R = nextAt (sl more) 0 := ⟨_, rfl⟩
  rw [← hR] at hpb CNx hbd
  clear hR
  cases R with
  | err x b =>
    simp only at hpb
    simp only [NextOk] at hbd
    obtain ⟨m, hm⟩ : ∃ m, m = pa.size + b := ⟨_, rfl⟩
    rw [← hm] at hpb
    have hbb : b ≤ 500 := by have h2 := hbd; rw [sl_len] at h2; omega
    have CPr := fun W => Lib.hid (parse_no (pa ++ more) hcz 1000 (by omega) x m hpb W)
    have q1 : IntKind.i64.wrap ((pa.size : Int) + (b : Int)) = (m : Int) := by rw [hm]; exact IntWalk.i64_in _ (by omega)
    clear hpb hbd hm
    unfold LexOut at CNx
    simp only [tokV, errV] at CNx
    go_enter Try.func12, Try.ntmps12
    go_wp2_with fail
    refine (CA _).out.mono ?_
    rintro e w1 ⟨rfl, hb1⟩
    have hB1 : Below (w.heap.size + 1) (w.alloc (.cells (jCells ka xa aa na ca) 24)) w1 := by rw [show w.heap.size + 1 = (w.alloc (.cells (jCells ka xa aa na ca) 24)).heap.size by simp]; exact hb1
    obtain ⟨f0, f1, f2, hz1⟩ := one_cells hB1
    have HA1 : Hid (RdJ (fun _ => True) w1 a (jCells ka xa aa na ca)) := HA.out.below (HBX.out.trans (hB1.mono (by omega)))
    have HB1 := Lib.hid hB1
    clear hb1 hB1
    go_wp2_with fail
    refine (CSa _ HA1.out).out.mono ?_
    rintro e w2 ⟨rfl, hb2⟩
    clear f0 f1 f2
    have hB2 : Below (w.heap.size + 1) (w.alloc (.cells (jCells ka xa aa na ca) 24)) w2 := HB1.out.trans (hb2.mono hz1)
    obtain ⟨f0, f1, f2, hz2⟩ := one_cells hB2
    have HA2 : Hid (RdJ (fun _ => True) w2 a (jCells ka xa aa na ca)) := HA.out.below (HBX.out.trans (hB2.mono (by omega)))
    have HB2 := Lib.hid hB2
    clear hb2 hB2
    go_wp2_with fail
    refine (CPa _ HA2.out).out.mono ?_
    rintro e w3 ⟨rfl, hb3⟩
    clear f0 f1 f2
    have hB3 : Below (w.heap.size + 1) (w.alloc (.cells (jCells ka xa aa na ca) 24)) w3 := HB2.out.trans (hb3.mono hz2)
    obtain ⟨f0, f1, f2, hz3⟩ := one_cells hB3
    have HA3 : Hid (RdJ (fun _ => True) w3 a (jCells ka xa aa na ca)) := HA.out.below (HBX.out.trans (hB3.mono (by omega)))
    have HB3 := Lib.hid hB3
    clear hb3 hB3
    go_wp2_with fail
    refine (CNx _).out.mono ?_
    rintro e w4 ⟨rfl, hb4⟩
    clear f0 f1 f2
    have hB4 : Below (w.heap.size + 1) (w.alloc (.cells (jCells ka xa aa na ca) 24)) w4 := HB3.out.trans (hb4.mono hz3)
    obtain ⟨f0, f1, f2, hz4⟩ := one_cells hB4
    have HA4 : Hid (RdJ (fun _ => True) w4 a (jCells ka xa aa na ca)) := HA.out.below (HBX.out.trans (hB4.mono (by omega)))
    have HB4 := Lib.hid hB4
    clear hb4 hB4
    go_wp2_with fail
    refine (CPr _).out.mono ?_
    rintro e w5 ⟨rfl, hx, hb5⟩
    have u0 : w5.cell? ⟨w4.heap.size + 1, 0, none⟩ = some (.int .i64 x) := by rw [hb5.cell (p := ⟨w4.heap.size + 1, 0, none⟩) (by first | (simp; done) | (simp; omega))]; simp [go_sem]
    have u1 : w5.cell? ⟨w4.heap.size + 1, 1, none⟩ = some (.int .i64 b) := by rw [hb5.cell (p := ⟨w4.heap.size + 1, 1, none⟩) (by first | (simp; done) | (simp; omega))]; simp [go_sem]
    have hs5 : w4.heap.size + 2 ≤ w5.heap.size := by have := hb5.size; simpa using this
    have l1 : w4.heap.size + 1 < w5.heap.size := by omega
    have l2 : w4.heap.size + 1 < w5.heap.size + 1 := by omega
    have HB5 := Lib.hid (((HB4.out.alloc hz4 _).alloc (by simp; omega) _).trans (hb5.mono (by simp; omega)))
    have dx : ((x : Int) != 0) = true := by simp; omega
    clear f0 f1 f2 hb5 hx
    simp only [jCells]
    go_wp2_with fail
    go_ret
    exact ⟨by simp, HBX.out.trans (((HB5.out.alloc (by omega) _).alloc (by simp; omega) _).mono (by omega))⟩
  | tok kd b s t =>
    simp only at hpb
    simp only [NextOk] at hbd
    obtain ⟨v1, v2, v3, v4, v5⟩ := hbd
    have hbb : b ≤ 500 := by
      by_cases h1 : kd = 1
      · have := v3 h1; rw [sl_len] at this; omega
      · have := v4 h1; rw [sl_len] at v2; omega
    unfold LexOut at CNx
    simp only [tokV, errV] at CNx
    by_cases h1 : kd = 1
    · subst h1
      rw [if_pos rfl] at hpb
      have CPr := fun W => Lib.hid (parse_yes (pa ++ more) hcz 1000 (by omega) a 0 hpb W)
      have CS := Lib.hid (fun S S' W ca cb => same_all (wtJ a) a a (Nat.le_refl _) S S' W ca cb)
      rw [(eqJ_iff a a).2 rfl] at CS
      clear hpb v1 v2 v3 v4 v5
      go_enter Try.func12, Try.ntmps12
      go_wp2_with fail
      refine (CA _).out.mono ?_
      rintro e w1 ⟨rfl, hb1⟩
      have hB1 : Below (w.heap.size + 1) (w.alloc (.cells (jCells ka xa aa na ca) 24)) w1 := by rw [show w.heap.size + 1 = (w.alloc (.cells (jCells ka xa aa na ca) 24)).heap.size by simp]; exact hb1
      obtain ⟨f0, f1, f2, hz1⟩ := one_cells hB1
      have HA1 : Hid (RdJ (fun _ => True) w1 a (jCells ka xa aa na ca)) := HA.out.below (HBX.out.trans (hB1.mono (by omega)))
      have HB1 := Lib.hid hB1
      clear hb1 hB1
      go_wp2_with fail
      refine (CSa _ HA1.out).out.mono ?_
      rintro e w2 ⟨rfl, hb2⟩
      clear f0 f1 f2
      have hB2 : Below (w.heap.size + 1) (w.alloc (.cells (jCells ka xa aa na ca) 24)) w2 := HB1.out.trans (hb2.mono hz1)
      obtain ⟨f0, f1, f2, hz2⟩ := one_cells hB2
      have HA2 : Hid (RdJ (fun _ => True) w2 a (jCells ka xa aa na ca)) := HA.out.below (HBX.out.trans (hB2.mono (by omega)))
      have HB2 := Lib.hid hB2
      clear hb2 hB2
      go_wp2_with fail
      refine (CPa _ HA2.out).out.mono ?_
      rintro e w3 ⟨rfl, hb3⟩
      clear f0 f1 f2
      have hB3 : Below (w.heap.size + 1) (w.alloc (.cells (jCells ka xa aa na ca) 24)) w3 := HB2.out.trans (hb3.mono hz2)
      obtain ⟨f0, f1, f2, hz3⟩ := one_cells hB3
      have HA3 : Hid (RdJ (fun _ => True) w3 a (jCells ka xa aa na ca)) := HA.out.below (HBX.out.trans (hB3.mono (by omega)))
      have HB3 := Lib.hid hB3
      clear hb3 hB3
      go_wp2_with fail
      refine (CNx _).out.mono ?_
      rintro e w4 ⟨rfl, hb4⟩
      clear f0 f1 f2
      have hB4 : Below (w.heap.size + 1) (w.alloc (.cells (jCells ka xa aa na ca) 24)) w4 := HB3.out.trans (hb4.mono hz3)
      obtain ⟨f0, f1, f2, hz4⟩ := one_cells hB4
      have HA4 : Hid (RdJ (fun _ => True) w4 a (jCells ka xa aa na ca)) := HA.out.below (HBX.out.trans (hB4.mono (by omega)))
      have HB4 := Lib.hid hB4
      clear hb4 hB4
      go_wp2_with fail
      refine (CPr _).out.mono ?_
      rintro e w5 ⟨⟨kb, xb, ab, nb, cb, rfl, hrd⟩, hb5⟩
      have u0 : w5.cell? ⟨w4.heap.size + 1, 0, none⟩ = some (.int .i64 0) := by rw [hb5.cell (p := ⟨w4.heap.size + 1, 0, none⟩) (by first | (simp; done) | (simp; omega))]; simp [go_sem]
      have t0 : w5.cell? ⟨w4.heap.size, 0, none⟩ = some (.int .i64 1) := by rw [hb5.cell (p := ⟨w4.heap.size, 0, none⟩) (by first | (simp; done) | (simp; omega))]; simp [go_sem]
      have hs5 : w4.heap.size + 2 ≤ w5.heap.size := by have := hb5.size; simpa using this
      have l1 : w4.heap.size + 1 < w5.heap.size := by omega
      have l2 : w4.heap.size + 1 < w5.heap.size + 1 := by omega
      have l3 : w4.heap.size < w5.heap.size := by omega
      have l4 : w4.heap.size < w5.heap.size + 1 := by omega
      have hB5 : Below (w.heap.size + 1) (w.alloc (.cells (jCells ka xa aa na ca) 24)) w5 := ((HB4.out.alloc hz4 _).alloc (by simp; omega) _).trans (hb5.mono (by simp; omega))
      clear f0 f1 f2
      obtain ⟨f0, f1, f2, hz5⟩ := one_cells hB5
      have HA5 : Hid (RdJ (fun _ => True) w5 a (jCells ka xa aa na ca)) := HA.out.below (HBX.out.trans (hB5.mono (by omega)))
      have l0 : w.heap.size < w5.heap.size := by omega
      have hB6 : Below w5.heap.size w5 ((w5.alloc (.cells #[.int .i64 kb, .string xb, .slice ab nb cb] 24)).alloc (.cells #[.int .i64 0, .int .i64 0, .slice none 0 0] 36)) := ((Below.refl _ _).alloc (Nat.le_refl _) _).alloc (by simp) _
      have HRB := Lib.hid (hrd.below hB6)
      have HRA := Lib.hid (HA5.out.below hB6)
      have HB6 := Lib.hid (hB5.trans (hB6.mono hz5))
      clear hrd hB6 hB5 hb5
      go_wp2_with fail
      refine (CS.out _ _ _ _ _ HRB.out HRA.out).mono ?_
      rintro e w7 ⟨rfl, hb7⟩
      have HB7 := Lib.hid (HB6.out.trans (hb7.mono (by simp; omega)))
      clear hb7
      go_wp2_with fail
      go_ret
      exact ⟨rfl, HBX.out.trans (HB7.out.mono (by omega))⟩
    · rw [if_neg h1] at hpb
      obtain ⟨m, hm⟩ : ∃ m, m = pa.size + b := ⟨_, rfl⟩
      rw [← hm] at hpb
      have CPr := fun W => Lib.hid (parse_no (pa ++ more) hcz 1000 (by omega) 7 m hpb W)
      have q1 : IntKind.i64.wrap ((pa.size : Int) + (b : Int)) = (m : Int) := by rw [hm]; exact IntWalk.i64_in _ (by omega)
      have dk1 : ((kd : Int) == 1) = false := by simp; omega
      clear hpb hm v1 v2 v3 v4 v5 h1
      go_enter Try.func12, Try.ntmps12
      go_wp2_with fail
      refine (CA _).out.mono ?_
      rintro e w1 ⟨rfl, hb1⟩
      have hB1 : Below (w.heap.size + 1) (w.alloc (.cells (jCells ka xa aa na ca) 24)) w1 := by rw [show w.heap.size + 1 = (w.alloc (.cells (jCells ka xa aa na ca) 24)).heap.size by simp]; exact hb1
      obtain ⟨f0, f1, f2, hz1⟩ := one_cells hB1
      have HA1 : Hid (RdJ (fun _ => True) w1 a (jCells ka xa aa na ca)) := HA.out.below (HBX.out.trans (hB1.mono (by omega)))
      have HB1 := Lib.hid hB1
      clear hb1 hB1
      go_wp2_with fail
      refine (CSa _ HA1.out).out.mono ?_
      rintro e w2 ⟨rfl, hb2⟩
      clear f0 f1 f2
      have hB2 : Below (w.heap.size + 1) (w.alloc (.cells (jCells ka xa aa na ca) 24)) w2 := HB1.out.trans (hb2.mono hz1)
      obtain ⟨f0, f1, f2, hz2⟩ := one_cells hB2
      have HA2 : Hid (RdJ (fun _ => True) w2 a (jCells ka xa aa na ca)) := HA.out.below (HBX.out.trans (hB2.mono (by omega)))
      have HB2 := Lib.hid hB2
      clear hb2 hB2
      go_wp2_with fail
      refine (CPa _ HA2.out).out.mono ?_
      rintro e w3 ⟨rfl, hb3⟩
      clear f0 f1 f2
      have hB3 : Below (w.heap.size + 1) (w.alloc (.cells (jCells ka xa aa na ca) 24)) w3 := HB2.out.trans (hb3.mono hz2)
      obtain ⟨f0, f1, f2, hz3⟩ := one_cells hB3
      have HA3 : Hid (RdJ (fun _ => True) w3 a (jCells ka xa aa na ca)) := HA.out.below (HBX.out.trans (hB3.mono (by omega)))
      have HB3 := Lib.hid hB3
      clear hb3 hB3
      go_wp2_with fail
      refine (CNx _).out.mono ?_
      rintro e w4 ⟨rfl, hb4⟩
      clear f0 f1 f2
      have hB4 : Below (w.heap.size + 1) (w.alloc (.cells (jCells ka xa aa na ca) 24)) w4 := HB3.out.trans (hb4.mono hz3)
      obtain ⟨f0, f1, f2, hz4⟩ := one_cells hB4
      have HA4 : Hid (RdJ (fun _ => True) w4 a (jCells ka xa aa na ca)) := HA.out.below (HBX.out.trans (hB4.mono (by omega)))
      have HB4 := Lib.hid hB4
      clear hb4 hB4
      go_wp2_with fail
      refine (CPr _).out.mono ?_
      rintro e w5 ⟨rfl, hx, hb5⟩
      have u0 : w5.cell? ⟨w4.heap.size + 1, 0, none⟩ = some (.int .i64 0) := by rw [hb5.cell (p := ⟨w4.heap.size + 1, 0, none⟩) (by first | (simp; done) | (simp; omega))]; simp [go_sem]
      have t0 : w5.cell? ⟨w4.heap.size, 0, none⟩ = some (.int .i64 kd) := by rw [hb5.cell (p := ⟨w4.heap.size, 0, none⟩) (by first | (simp; done) | (simp; omega))]; simp [go_sem]
      have t1 : w5.cell? ⟨w4.heap.size, 1, none⟩ = some (.int .i64 b) := by rw [hb5.cell (p := ⟨w4.heap.size, 1, none⟩) (by first | (simp; done) | (simp; omega))]; simp [go_sem]
      have hs5 : w4.heap.size + 2 ≤ w5.heap.size := by have := hb5.size; simpa using this
      have l1 : w4.heap.size + 1 < w5.heap.size := by omega
      have l2 : w4.heap.size + 1 < w5.heap.size + 1 := by omega
      have l3 : w4.heap.size < w5.heap.size := by omega
      have l4 : w4.heap.size < w5.heap.size + 1 := by omega
      have HB5 := Lib.hid (((HB4.out.alloc hz4 _).alloc (by simp; omega) _).trans (hb5.mono (by simp; omega)))
      clear f0 f1 f2 hb5 hx
      simp only [jCells]
      go_wp2_with fail
      go_ret
      exact ⟨by simp, HBX.out.trans (((HB5.out.alloc (by omega) _).alloc (by simp; omega) _).mono (by omega))⟩

end Go.Proofs.Ytamhdoijmkjngaa

namespace Go.Proofs.Ytamhdoijmkjngaa.lawJsonBehind
open Go.ChangeShapes Go.WideShapes Go.ChangeAt Go.RowKit Go.Proofs.Ytamhdoijmkjngaa
open Go.ChangeMaps (open_string shut_string)
set_option linter.unusedVariables false
set_option linter.unusedSimpArgs false

theorem own : ownKnob Try.prog.godebug = none := by kernel_rfl
theorem laidOut : laidOutB Try.prog = true := by kernel_rfl

set_option maxRecDepth 100000 in
theorem lifted (os : Os) (started : os.Started) (H : Type) (enc : TypeId × Value → H) :
    ReturnsInHanded {} Try.checked os 12 .any (Rows.jsonBehindSpec.pre6 enc Try.prog Try.f12 Rows.jsonBehindRow.domain false) (Rows.jsonBehindSpec.post enc Try.prog Try.f12 false true false false) := by
  refine returnsInHanded_of_change (C := Try.checked) own started (by kernel_rfl) Try.func12
    (ChangeSpec.witness6 (enc := enc) (C := Try.checked) false ⟨#[], #[.agg #[.int .i64 0, .string ByteArray.empty, .slice none 0 0], .string ByteArray.empty], []⟩ 8 (by kernel_rfl) (by kernel_rfl) (by kernel_rfl) (by kernel_rfl)) ?_
  intro W base args ds gs before hval0 hW hcnd _
  have hval : ∀ (j : Nat) t v, Try.f12.params[j]? = some t → args[j]? = some v → Value.okWide Try.prog W .any base t v := hval0
  have hW' := hW
  obtain ⟨p, q, hA0, hV, rfl, hfz, hnd⟩ := hW
  have hA : DataW.TrodAll enc Try.prog W 0 (fun _ => true) true Try.f12.params.toList args.toList ds p := hA0
  rw [Try.params12] at hA hval
  obtain ⟨v0, vs0, d0, ds0, p0, q0, hargs, rfl, rfl, h0, r0⟩ := trodAll_cons hA
  obtain ⟨v1, vs1, d1, ds1, p1, q1, rfl, rfl, rfl, h1, r1⟩ := trodAll_cons r0
  obtain ⟨rfl, rfl, rfl⟩ := trodAll_nil r1
  obtain rfl : args = #[v0, v1] := by cases args; simp_all
  obtain ⟨rfl, rfl⟩ := trodVars_none hV
  have k0 := h0
  have lt0 : ∀ x ∈ p0, x.block < W.heap.size := by obtain ⟨m, hm⟩ := k0; exact DataW.trod_lt m _ _ _ hm
  have k1 := h1
  have lt1 : ∀ x ∈ p1, x.block < W.heap.size := by obtain ⟨m, hm⟩ := k1; exact DataW.trod_lt m _ _ _ hm
  obtain ⟨c0, t0, rfl, w0⟩ := open_json (hval 0 24 v0 rfl rfl) h0
  obtain ⟨a1, rfl, _, _, w1⟩ := open_string Try.underlying9 (hval 1 9 v1 rfl rfl) h1
  clear hA0 hval0
  refine (JsonBehind_walk W c0 t0 w0 a1 w1).mono fun e W' ⟨he, bel⟩ => ?_
  subst he
  exact ⟨_, rfl, _, _, _, [], _, [], hW', trodAll_mk1 (shut_bool Try.underlying4 _), (trodAll_cons_mk (Below.trod laidOut (by kernel_rfl) (of_decide_eq_true (by kernel_rfl)) k0 bel lt0) (trodAll_cons_mk (Below.trod laidOut (by kernel_rfl) (of_decide_eq_true (by kernel_rfl)) k1 bel lt1) trodAll_mk0)), rfl, bel.frame _, fun h => by cases h⟩

theorem over : Rows.jsonBehindRow.holds Try.pinned (OpenSpec.ofChange Rows.jsonBehindSpec) :=
  OpenClaim.holds_of_wide 12 Try.f12 rfl rfl rfl rfl rfl rfl rfl ⟨rfl, rfl, rfl, rfl, rfl⟩ rfl rfl rfl rfl rfl (by kernel_rfl) Try.func12 (by kernel_rfl)
    (of_decide_eq_true (by kernel_rfl)) (by unfold Func.isWrapper; first | (rw [if_pos (by decide +kernel)]; kernel_rfl) | (rw [if_neg (by decide +kernel)]; exact ⟨rfl, rfl⟩))
    (fun os started H enc _ => lifted os started H enc)

theorem proved : Rows.JsonBehindSaid := over
#print axioms proved
end Go.Proofs.Ytamhdoijmkjngaa.lawJsonBehind
