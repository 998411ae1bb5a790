/- JoutApart: the walk. -/
import Derived.Test.YtamhdoijmkjngaaJSame
import Derived.Test.YtamhdoijmkjngaaJPrt
namespace Go.Proofs.Ytamhdoijmkjngaa
open Go.RowKit
set_option linter.unusedVariables false
set_option linter.unusedSimpArgs false

mutual
theorem nest_wt : ∀ j : J, 2 * nestJ j ≤ wtJ j
  | .mk k t m => by
    have := nestM_wt m
    simp only [nestJ, wtJ]
    split <;> omega
theorem nestM_wt : ∀ m : M, 2 * nestM m ≤ wtM m
  | .nil => by simp [nestM, wtM]
  | .cons n v r => by
    have h1 := nest_wt v
    have h2 := nestM_wt r
    simp only [nestM, wtM]
    omega
end

/-- Unlike trees have unlike texts. -/
theorem print_inj (a b : J) (ha : checkJ a = 0) (hb : checkJ b = 0) (wa : wtJ a ≤ 2000) (wb : wtJ b ≤ 2000) : (printJ a == printJ b) = eqJ a b := by
  have na := nest_wt a
  have nb := nest_wt b
  cases h : eqJ a b with
  | true => rw [(eqJ_iff a b).1 h]; simp
  | false =>
    rw [beq_eq_false_iff_ne]
    intro e
    have h1 := parse_print a 1000 ha (by omega) (by omega)
    have h2 := parse_print b 1000 hb (by omega) (by omega)
    rw [e, h2] at h1
    simp only [PR.ok.injEq, and_true] at h1
    rw [(eqJ_iff a b).2 h1.symm] at h
    simp at h

def twoW (w : World) (ka : Int) (xa : ByteArray) (aa : Option Addr) (na ca : Nat) (kb : Int) (xb : ByteArray) (ab : Option Addr) (nb cb : Nat) : World := (w.alloc (.cells (jCells ka xa aa na ca) 24)).alloc (.cells (jCells kb xb ab nb cb) 24)

theorem two_cells {w W : World} {ka xa aa na ca kb xb ab nb cb} (h : Below (w.heap.size + 2) (twoW w ka xa aa na ca kb xb ab nb cb) W) :
    W.cell? ⟨w.heap.size, 0, none⟩ = some (.int .i64 ka) ∧ W.cell? ⟨w.heap.size, 1, none⟩ = some (.string xa) ∧ W.cell? ⟨w.heap.size, 2, none⟩ = some (.slice aa na ca) ∧
    W.cell? ⟨w.heap.size + 1, 0, none⟩ = some (.int .i64 kb) ∧ W.cell? ⟨w.heap.size + 1, 1, none⟩ = some (.string xb) ∧ W.cell? ⟨w.heap.size + 1, 2, none⟩ = some (.slice ab nb cb) ∧ w.heap.size + 2 ≤ W.heap.size := by
  refine ⟨?_, ?_, ?_, ?_, ?_, ?_, ?_⟩
  · exact below_cellB h (by simp [twoW, go_sem]) (by simp)
  · exact below_cellB h (by simp [twoW, go_sem]) (by simp)
  · exact below_cellB h (by simp [twoW, go_sem]) (by simp)
  · exact below_cellB h (by simp [twoW, go_sem]) (by simp)
  · exact below_cellB h (by simp [twoW, go_sem]) (by simp)
  · exact below_cellB h (by simp [twoW, go_sem]) (by simp)
  · have := h.size; simpa [twoW] using this

/-- What Print answers, in one case or the other. -/
theorem print_yes (j : J) (hw : wtJ j ≤ 80000) (hc : checkJ j = 0) (p : ByteArray) (hp : p = txt (printJ j)) (S : Nat → Prop) (w : World) (c : Array Value) (h : RdJ S w j c) : Calls Try.prog 20 #[.agg c] w fun e w' => e = .returned (.tuple #[.string p, .int .i64 0]) ∧ Below w.heap.size w w' :=
  (jprint_calls j hw S w c h).mono fun e w' h => ⟨by rw [h.1 hc, hp], h.2.2⟩
theorem print_no (j : J) (hw : wtJ j ≤ 80000) (hc : checkJ j ≠ 0) (S : Nat → Prop) (w : World) (c : Array Value) (h : RdJ S w j c) : Calls Try.prog 20 #[.agg c] w fun e w' => e = .returned (.tuple #[.string ⟨#[]⟩, .int .i64 (checkJ j : Nat)]) ∧ Below w.heap.size w w' :=
  (jprint_calls j hw S w c h).mono fun e w' h => ⟨h.2.1 hc, h.2.2⟩

set_option maxRecDepth 100000 in
set_option maxHeartbeats 16000000 in
theorem JoutApart_walk (w : World) (c : Array Value) (a : J) (ha : RdJ (fun _ => True) w a c) (c2 : Array Value) (b : J) (hb : RdJ (fun _ => True) w b c2) :
    Calls Try.prog 4 #[.agg c, .agg c2] w fun e w' => e = .returned (.bool true) ∧ Below w.heap.size w w' := by
  have CA := fun W => Lib.hid (awake24 W)
  have HA := Lib.hid ha
  have HBT := Lib.hid hb
  obtain ⟨ka, xa, aa, na, ca, rfl⟩ : ∃ (k : Int) (x : ByteArray) (ak : Option Addr) (nk ck : Nat), c = jCells k x ak nk ck := by
    cases a; obtain ⟨x, ak, nk, ck, rfl, _⟩ := ha; exact ⟨_, x, ak, nk, ck, rfl⟩
  obtain ⟨kb, xb, ab, nb, cb, rfl⟩ : ∃ (k : Int) (x : ByteArray) (ak : Option Addr) (nk ck : Nat), c2 = jCells k x ak nk ck := by
    cases b; obtain ⟨x, ak, nk, ck, rfl, _⟩ := hb; exact ⟨_, x, ak, nk, ck, rfl⟩
  have hbx : Below w.heap.size w (twoW w ka xa aa na ca kb xb ab nb cb) := ((Below.refl _ _).alloc (Nat.le_refl _) _).alloc (by simp) _
  have HBX := Lib.hid hbx
  have CSa := fun W (h : RdJ (fun _ => True) W a (jCells ka xa aa na ca)) => Lib.hid (small_calls a (fun _ => True) W _ h)
  have CSb := fun W (h : RdJ (fun _ => True) W b (jCells kb xb ab nb cb)) => Lib.hid (small_calls b (fun _ => True) W _ h)
  obtain ⟨sa, hsa⟩ : ∃ s, s = smallJ a := ⟨_, rfl⟩
  obtain ⟨sb, hsb⟩ : ∃ s, s = smallJ b := ⟨_, rfl⟩
  rw [← hsa] at CSa
  rw [← hsb] at CSb
  have HSA := Lib.hid hsa
  have HSB := Lib.hid hsb
  clear ha hb hbx hsa hsb
  cases sa with
  | false =>
    go_enter Try.func4, Try.ntmps4
    go_wp2_with fail
    refine (CA _).out.mono ?_
    rintro e w1 ⟨rfl, hb1⟩
    have hB1 : Below (w.heap.size + 2) (twoW w ka xa aa na ca kb xb ab nb cb) w1 := (by rw [show w.heap.size + 2 = (twoW w ka xa aa na ca kb xb ab nb cb).heap.size by simp [twoW]]; exact hb1)
    obtain ⟨f0, f1, f2, g0, g1, g2, hz1⟩ := two_cells hB1
    have HA1 : Hid (RdJ (fun _ => True) w1 a (jCells ka xa aa na ca)) := HA.out.below (HBX.out.trans (hB1.mono (by omega)))
    have HT1 : Hid (RdJ (fun _ => True) w1 b (jCells kb xb ab nb cb)) := HBT.out.below (HBX.out.trans (hB1.mono (by omega)))
    have HB1 := Lib.hid hB1
    clear hb1 hB1
    go_wp2_with fail
    refine (CSa _ HA1.out).out.mono ?_
    rintro e w2 ⟨rfl, hb2⟩
    clear f0 f1 f2 g0 g1 g2
    have hB2 : Below (w.heap.size + 2) (twoW w ka xa aa na ca kb xb ab nb cb) w2 := (HB1.out.trans (hb2.mono hz1))
    obtain ⟨f0, f1, f2, g0, g1, g2, hz2⟩ := two_cells hB2
    have HA2 : Hid (RdJ (fun _ => True) w2 a (jCells ka xa aa na ca)) := HA.out.below (HBX.out.trans (hB2.mono (by omega)))
    have HT2 : Hid (RdJ (fun _ => True) w2 b (jCells kb xb ab nb cb)) := HBT.out.below (HBX.out.trans (hB2.mono (by omega)))
    have HB2 := Lib.hid hB2
    clear hb2 hB2
    go_wp2_with fail
    go_ret
    exact ⟨rfl, HBX.out.trans (HB2.out.mono (by omega))⟩
  | true =>
  cases sb with
  | false =>
    go_enter Try.func4, Try.ntmps4
    go_wp2_with fail
    refine (CA _).out.mono ?_
    rintro e w1 ⟨rfl, hb1⟩
    have hB1 : Below (w.heap.size + 2) (twoW w ka xa aa na ca kb xb ab nb cb) w1 := (by rw [show w.heap.size + 2 = (twoW w ka xa aa na ca kb xb ab nb cb).heap.size by simp [twoW]]; exact hb1)
    obtain ⟨f0, f1, f2, g0, g1, g2, hz1⟩ := two_cells hB1
    have HA1 : Hid (RdJ (fun _ => True) w1 a (jCells ka xa aa na ca)) := HA.out.below (HBX.out.trans (hB1.mono (by omega)))
    have HT1 : Hid (RdJ (fun _ => True) w1 b (jCells kb xb ab nb cb)) := HBT.out.below (HBX.out.trans (hB1.mono (by omega)))
    have HB1 := Lib.hid hB1
    clear hb1 hB1
    go_wp2_with fail
    refine (CSa _ HA1.out).out.mono ?_
    rintro e w2 ⟨rfl, hb2⟩
    clear f0 f1 f2 g0 g1 g2
    have hB2 : Below (w.heap.size + 2) (twoW w ka xa aa na ca kb xb ab nb cb) w2 := (HB1.out.trans (hb2.mono hz1))
    obtain ⟨f0, f1, f2, g0, g1, g2, hz2⟩ := two_cells hB2
    have HA2 : Hid (RdJ (fun _ => True) w2 a (jCells ka xa aa na ca)) := HA.out.below (HBX.out.trans (hB2.mono (by omega)))
    have HT2 : Hid (RdJ (fun _ => True) w2 b (jCells kb xb ab nb cb)) := HBT.out.below (HBX.out.trans (hB2.mono (by omega)))
    have HB2 := Lib.hid hB2
    clear hb2 hB2
    go_wp2_with fail
    refine (CSb _ HT2.out).out.mono ?_
    rintro e w3 ⟨rfl, hb3⟩
    clear f0 f1 f2 g0 g1 g2
    have hB3 : Below (w.heap.size + 2) (twoW w ka xa aa na ca kb xb ab nb cb) w3 := (HB2.out.trans (hb3.mono hz2))
    obtain ⟨f0, f1, f2, g0, g1, g2, hz3⟩ := two_cells hB3
    have HA3 : Hid (RdJ (fun _ => True) w3 a (jCells ka xa aa na ca)) := HA.out.below (HBX.out.trans (hB3.mono (by omega)))
    have HT3 : Hid (RdJ (fun _ => True) w3 b (jCells kb xb ab nb cb)) := HBT.out.below (HBX.out.trans (hB3.mono (by omega)))
    have HB3 := Lib.hid hB3
    clear hb3 hB3
    go_wp2_with fail
    go_ret
    exact ⟨rfl, HBX.out.trans (HB3.out.mono (by omega))⟩
  | true =>
  have hwa := smallJ_wt HSA.out.symm
  have hwb := smallJ_wt HSB.out.symm
  by_cases cka : checkJ a = 0
  case neg =>
    have CPa := fun W (h : RdJ (fun _ => True) W a (jCells ka xa aa na ca)) => Lib.hid (print_no a (by omega) cka (fun _ => True) W _ h)
    obtain ⟨qa, hqa⟩ : ∃ q, q = checkJ a := ⟨_, rfl⟩
    rw [← hqa] at CPa cka
    have d1a : ((qa : Int) == 0) = false := by simp; omega
    have d2a : ((qa : Int) != 0) = true := by simp; omega
    clear hqa
    have CPb : ∀ W (h : RdJ (fun _ => True) W b (jCells kb xb ab nb cb)), Hid (Calls Try.prog 20 #[.agg (jCells kb xb ab nb cb)] W fun e w' => ∃ p q, e = .returned (.tuple #[.string p, .int .i64 q]) ∧ Below W.heap.size W w') := fun W h => Lib.hid ((jprint_calls b (by omega) _ W _ h).mono fun e w' h => by
      by_cases hc : checkJ b = 0
      · exact ⟨_, _, h.1 hc, h.2.2⟩
      · exact ⟨_, _, h.2.1 hc, h.2.2⟩)
    go_enter Try.func4, Try.ntmps4
    go_wp2_with fail
    refine (CA _).out.mono ?_
    rintro e w1 ⟨rfl, hb1⟩
    have hB1 : Below (w.heap.size + 2) (twoW w ka xa aa na ca kb xb ab nb cb) w1 := (by rw [show w.heap.size + 2 = (twoW w ka xa aa na ca kb xb ab nb cb).heap.size by simp [twoW]]; exact hb1)
    obtain ⟨f0, f1, f2, g0, g1, g2, hz1⟩ := two_cells hB1
    have HA1 : Hid (RdJ (fun _ => True) w1 a (jCells ka xa aa na ca)) := HA.out.below (HBX.out.trans (hB1.mono (by omega)))
    have HT1 : Hid (RdJ (fun _ => True) w1 b (jCells kb xb ab nb cb)) := HBT.out.below (HBX.out.trans (hB1.mono (by omega)))
    have HB1 := Lib.hid hB1
    clear hb1 hB1
    go_wp2_with fail
    refine (CSa _ HA1.out).out.mono ?_
    rintro e w2 ⟨rfl, hb2⟩
    clear f0 f1 f2 g0 g1 g2
    have hB2 : Below (w.heap.size + 2) (twoW w ka xa aa na ca kb xb ab nb cb) w2 := (HB1.out.trans (hb2.mono hz1))
    obtain ⟨f0, f1, f2, g0, g1, g2, hz2⟩ := two_cells hB2
    have HA2 : Hid (RdJ (fun _ => True) w2 a (jCells ka xa aa na ca)) := HA.out.below (HBX.out.trans (hB2.mono (by omega)))
    have HT2 : Hid (RdJ (fun _ => True) w2 b (jCells kb xb ab nb cb)) := HBT.out.below (HBX.out.trans (hB2.mono (by omega)))
    have HB2 := Lib.hid hB2
    clear hb2 hB2
    go_wp2_with fail
    refine (CSb _ HT2.out).out.mono ?_
    rintro e w3 ⟨rfl, hb3⟩
    clear f0 f1 f2 g0 g1 g2
    have hB3 : Below (w.heap.size + 2) (twoW w ka xa aa na ca kb xb ab nb cb) w3 := (HB2.out.trans (hb3.mono hz2))
    obtain ⟨f0, f1, f2, g0, g1, g2, hz3⟩ := two_cells hB3
    have HA3 : Hid (RdJ (fun _ => True) w3 a (jCells ka xa aa na ca)) := HA.out.below (HBX.out.trans (hB3.mono (by omega)))
    have HT3 : Hid (RdJ (fun _ => True) w3 b (jCells kb xb ab nb cb)) := HBT.out.below (HBX.out.trans (hB3.mono (by omega)))
    have HB3 := Lib.hid hB3
    clear hb3 hB3
    go_wp2_with fail
    refine (CPa _ HA3.out).out.mono ?_
    rintro e w4 ⟨rfl, hb4⟩
    clear f0 f1 f2 g0 g1 g2
    have hB4 : Below (w.heap.size + 2) (twoW w ka xa aa na ca kb xb ab nb cb) w4 := (HB3.out.trans (hb4.mono hz3))
    obtain ⟨f0, f1, f2, g0, g1, g2, hz4⟩ := two_cells hB4
    have HA4 : Hid (RdJ (fun _ => True) w4 a (jCells ka xa aa na ca)) := HA.out.below (HBX.out.trans (hB4.mono (by omega)))
    have HT4 : Hid (RdJ (fun _ => True) w4 b (jCells kb xb ab nb cb)) := HBT.out.below (HBX.out.trans (hB4.mono (by omega)))
    have HB4 := Lib.hid hB4
    clear hb4 hB4
    go_wp2_with fail
    refine (CPb _ HT4.out).out.mono ?_
    rintro e w5 ⟨p5, q5, rfl, hb5⟩
    clear f0 f1 f2 g0 g1 g2
    have hB5 : Below (w.heap.size + 2) (twoW w ka xa aa na ca kb xb ab nb cb) w5 := (HB4.out.trans (hb5.mono hz4))
    obtain ⟨f0, f1, f2, g0, g1, g2, hz5⟩ := two_cells hB5
    have HA5 : Hid (RdJ (fun _ => True) w5 a (jCells ka xa aa na ca)) := HA.out.below (HBX.out.trans (hB5.mono (by omega)))
    have HT5 : Hid (RdJ (fun _ => True) w5 b (jCells kb xb ab nb cb)) := HBT.out.below (HBX.out.trans (hB5.mono (by omega)))
    have HB5 := Lib.hid hB5
    clear hb5 hB5
    go_wp2_with fail
    go_ret
    exact ⟨rfl, HBX.out.trans (HB5.out.mono (by omega))⟩
  obtain ⟨pa, hpa⟩ : ∃ p, p = txt (printJ a) := ⟨_, rfl⟩
  have CPa := fun W (h : RdJ (fun _ => True) W a (jCells ka xa aa na ca)) => Lib.hid (print_yes a (by omega) cka pa hpa (fun _ => True) W _ h)
  by_cases ckb : checkJ b = 0
  case neg =>
    have CPb := fun W (h : RdJ (fun _ => True) W b (jCells kb xb ab nb cb)) => Lib.hid (print_no b (by omega) ckb (fun _ => True) W _ h)
    obtain ⟨qb, hqb⟩ : ∃ q, q = checkJ b := ⟨_, rfl⟩
    rw [← hqb] at CPb ckb
    have d1b : ((qb : Int) == 0) = false := by simp; omega
    have d2b : ((qb : Int) != 0) = true := by simp; omega
    clear hqb
    clear hpa
    go_enter Try.func4, Try.ntmps4
    go_wp2_with fail
    refine (CA _).out.mono ?_
    rintro e w1 ⟨rfl, hb1⟩
    have hB1 : Below (w.heap.size + 2) (twoW w ka xa aa na ca kb xb ab nb cb) w1 := (by rw [show w.heap.size + 2 = (twoW w ka xa aa na ca kb xb ab nb cb).heap.size by simp [twoW]]; exact hb1)
    obtain ⟨f0, f1, f2, g0, g1, g2, hz1⟩ := two_cells hB1
    have HA1 : Hid (RdJ (fun _ => True) w1 a (jCells ka xa aa na ca)) := HA.out.below (HBX.out.trans (hB1.mono (by omega)))
    have HT1 : Hid (RdJ (fun _ => True) w1 b (jCells kb xb ab nb cb)) := HBT.out.below (HBX.out.trans (hB1.mono (by omega)))
    have HB1 := Lib.hid hB1
    clear hb1 hB1
    go_wp2_with fail
    refine (CSa _ HA1.out).out.mono ?_
    rintro e w2 ⟨rfl, hb2⟩
    clear f0 f1 f2 g0 g1 g2
    have hB2 : Below (w.heap.size + 2) (twoW w ka xa aa na ca kb xb ab nb cb) w2 := (HB1.out.trans (hb2.mono hz1))
    obtain ⟨f0, f1, f2, g0, g1, g2, hz2⟩ := two_cells hB2
    have HA2 : Hid (RdJ (fun _ => True) w2 a (jCells ka xa aa na ca)) := HA.out.below (HBX.out.trans (hB2.mono (by omega)))
    have HT2 : Hid (RdJ (fun _ => True) w2 b (jCells kb xb ab nb cb)) := HBT.out.below (HBX.out.trans (hB2.mono (by omega)))
    have HB2 := Lib.hid hB2
    clear hb2 hB2
    go_wp2_with fail
    refine (CSb _ HT2.out).out.mono ?_
    rintro e w3 ⟨rfl, hb3⟩
    clear f0 f1 f2 g0 g1 g2
    have hB3 : Below (w.heap.size + 2) (twoW w ka xa aa na ca kb xb ab nb cb) w3 := (HB2.out.trans (hb3.mono hz2))
    obtain ⟨f0, f1, f2, g0, g1, g2, hz3⟩ := two_cells hB3
    have HA3 : Hid (RdJ (fun _ => True) w3 a (jCells ka xa aa na ca)) := HA.out.below (HBX.out.trans (hB3.mono (by omega)))
    have HT3 : Hid (RdJ (fun _ => True) w3 b (jCells kb xb ab nb cb)) := HBT.out.below (HBX.out.trans (hB3.mono (by omega)))
    have HB3 := Lib.hid hB3
    clear hb3 hB3
    go_wp2_with fail
    refine (CPa _ HA3.out).out.mono ?_
    rintro e w4 ⟨rfl, hb4⟩
    clear f0 f1 f2 g0 g1 g2
    have hB4 : Below (w.heap.size + 2) (twoW w ka xa aa na ca kb xb ab nb cb) w4 := (HB3.out.trans (hb4.mono hz3))
    obtain ⟨f0, f1, f2, g0, g1, g2, hz4⟩ := two_cells hB4
    have HA4 : Hid (RdJ (fun _ => True) w4 a (jCells ka xa aa na ca)) := HA.out.below (HBX.out.trans (hB4.mono (by omega)))
    have HT4 : Hid (RdJ (fun _ => True) w4 b (jCells kb xb ab nb cb)) := HBT.out.below (HBX.out.trans (hB4.mono (by omega)))
    have HB4 := Lib.hid hB4
    clear hb4 hB4
    go_wp2_with fail
    refine (CPb _ HT4.out).out.mono ?_
    rintro e w5 ⟨rfl, hb5⟩
    clear f0 f1 f2 g0 g1 g2
    have hB5 : Below (w.heap.size + 2) (twoW w ka xa aa na ca kb xb ab nb cb) w5 := (HB4.out.trans (hb5.mono hz4))
    obtain ⟨f0, f1, f2, g0, g1, g2, hz5⟩ := two_cells hB5
    have HA5 : Hid (RdJ (fun _ => True) w5 a (jCells ka xa aa na ca)) := HA.out.below (HBX.out.trans (hB5.mono (by omega)))
    have HT5 : Hid (RdJ (fun _ => True) w5 b (jCells kb xb ab nb cb)) := HBT.out.below (HBX.out.trans (hB5.mono (by omega)))
    have HB5 := Lib.hid hB5
    clear hb5 hB5
    go_wp2_with fail
    go_ret
    exact ⟨rfl, HBX.out.trans (HB5.out.mono (by omega))⟩
  obtain ⟨pb, hpb⟩ : ∃ p, p = txt (printJ b) := ⟨_, rfl⟩
  have CPb := fun W (h : RdJ (fun _ => True) W b (jCells kb xb ab nb cb)) => Lib.hid (print_yes b (by omega) ckb pb hpb (fun _ => True) W _ h)
  have hinj := print_inj a b cka ckb (by omega) (by omega)
  have hpe : (pa.toList == pb.toList) = eqJ a b := by rw [hpa, hpb, toList_txt, toList_txt]; exact hinj
  have CS := Lib.hid (fun S S' W ca cb => same_all (wtJ a) a b (Nat.le_refl _) S S' W ca cb)
  obtain ⟨v, hv⟩ : ∃ v, v = eqJ a b := ⟨_, rfl⟩
  rw [← hv] at hpe CS
  clear hinj hpa hpb hv
  cases v
  all_goals
    go_enter Try.func4, Try.ntmps4
    go_wp2_with fail
    refine (CA _).out.mono ?_
    rintro e w1 ⟨rfl, hb1⟩
    have hB1 : Below (w.heap.size + 2) (twoW w ka xa aa na ca kb xb ab nb cb) w1 := (by rw [show w.heap.size + 2 = (twoW w ka xa aa na ca kb xb ab nb cb).heap.size by simp [twoW]]; exact hb1)
    obtain ⟨f0, f1, f2, g0, g1, g2, hz1⟩ := two_cells hB1
    have HA1 : Hid (RdJ (fun _ => True) w1 a (jCells ka xa aa na ca)) := HA.out.below (HBX.out.trans (hB1.mono (by omega)))
    have HT1 : Hid (RdJ (fun _ => True) w1 b (jCells kb xb ab nb cb)) := HBT.out.below (HBX.out.trans (hB1.mono (by omega)))
    have HB1 := Lib.hid hB1
    clear hb1 hB1
    go_wp2_with fail
    refine (CSa _ HA1.out).out.mono ?_
    rintro e w2 ⟨rfl, hb2⟩
    clear f0 f1 f2 g0 g1 g2
    have hB2 : Below (w.heap.size + 2) (twoW w ka xa aa na ca kb xb ab nb cb) w2 := (HB1.out.trans (hb2.mono hz1))
    obtain ⟨f0, f1, f2, g0, g1, g2, hz2⟩ := two_cells hB2
    have HA2 : Hid (RdJ (fun _ => True) w2 a (jCells ka xa aa na ca)) := HA.out.below (HBX.out.trans (hB2.mono (by omega)))
    have HT2 : Hid (RdJ (fun _ => True) w2 b (jCells kb xb ab nb cb)) := HBT.out.below (HBX.out.trans (hB2.mono (by omega)))
    have HB2 := Lib.hid hB2
    clear hb2 hB2
    go_wp2_with fail
    refine (CSb _ HT2.out).out.mono ?_
    rintro e w3 ⟨rfl, hb3⟩
    clear f0 f1 f2 g0 g1 g2
    have hB3 : Below (w.heap.size + 2) (twoW w ka xa aa na ca kb xb ab nb cb) w3 := (HB2.out.trans (hb3.mono hz2))
    obtain ⟨f0, f1, f2, g0, g1, g2, hz3⟩ := two_cells hB3
    have HA3 : Hid (RdJ (fun _ => True) w3 a (jCells ka xa aa na ca)) := HA.out.below (HBX.out.trans (hB3.mono (by omega)))
    have HT3 : Hid (RdJ (fun _ => True) w3 b (jCells kb xb ab nb cb)) := HBT.out.below (HBX.out.trans (hB3.mono (by omega)))
    have HB3 := Lib.hid hB3
    clear hb3 hB3
    go_wp2_with fail
    refine (CPa _ HA3.out).out.mono ?_
    rintro e w4 ⟨rfl, hb4⟩
    clear f0 f1 f2 g0 g1 g2
    have hB4 : Below (w.heap.size + 2) (twoW w ka xa aa na ca kb xb ab nb cb) w4 := (HB3.out.trans (hb4.mono hz3))
    obtain ⟨f0, f1, f2, g0, g1, g2, hz4⟩ := two_cells hB4
    have HA4 : Hid (RdJ (fun _ => True) w4 a (jCells ka xa aa na ca)) := HA.out.below (HBX.out.trans (hB4.mono (by omega)))
    have HT4 : Hid (RdJ (fun _ => True) w4 b (jCells kb xb ab nb cb)) := HBT.out.below (HBX.out.trans (hB4.mono (by omega)))
    have HB4 := Lib.hid hB4
    clear hb4 hB4
    go_wp2_with fail
    refine (CPb _ HT4.out).out.mono ?_
    rintro e w5 ⟨rfl, hb5⟩
    clear f0 f1 f2 g0 g1 g2
    have hB5 : Below (w.heap.size + 2) (twoW w ka xa aa na ca kb xb ab nb cb) w5 := (HB4.out.trans (hb5.mono hz4))
    obtain ⟨f0, f1, f2, g0, g1, g2, hz5⟩ := two_cells hB5
    have HA5 : Hid (RdJ (fun _ => True) w5 a (jCells ka xa aa na ca)) := HA.out.below (HBX.out.trans (hB5.mono (by omega)))
    have HT5 : Hid (RdJ (fun _ => True) w5 b (jCells kb xb ab nb cb)) := HBT.out.below (HBX.out.trans (hB5.mono (by omega)))
    have HB5 := Lib.hid hB5
    clear hb5 hB5
    go_wp2_with fail
    refine (CS.out _ _ _ _ _ HA5.out HT5.out).mono ?_
    rintro e w6 ⟨rfl, hb6⟩
    have HB6 := Lib.hid (HB5.out.trans (hb6.mono hz5))
    clear hb6
    go_wp2_with fail
    go_ret
    exact ⟨rfl, HBX.out.trans (HB6.out.mono (by omega))⟩

end Go.Proofs.Ytamhdoijmkjngaa
