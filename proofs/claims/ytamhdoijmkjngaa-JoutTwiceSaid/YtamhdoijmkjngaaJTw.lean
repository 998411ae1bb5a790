/- JoutTwice: the walk. -/
import Derived.Test.YtamhdoijmkjngaaJBk
import Derived.Test.YtamhdoijmkjngaaJPwt
namespace Go.Proofs.Ytamhdoijmkjngaa
open Go.RowKit
set_option linter.unusedVariables false
set_option linter.unusedSimpArgs false

theorem jcells_keep {w w' : World} {g : Nat} {k : Int} {x : ByteArray} {ak : Option Addr} {nk ck : Nat} (hb : Below w.heap.size w w') (h : w.cell? ⟨g, 0, none⟩ = some (.int .i64 k) ∧ w.cell? ⟨g, 1, none⟩ = some (.string x) ∧ w.cell? ⟨g, 2, none⟩ = some (.slice ak nk ck)) :
    w'.cell? ⟨g, 0, none⟩ = some (.int .i64 k) ∧ w'.cell? ⟨g, 1, none⟩ = some (.string x) ∧ w'.cell? ⟨g, 2, none⟩ = some (.slice ak nk ck) := ⟨cell_below hb h.1, cell_below hb h.2.1, cell_below hb h.2.2⟩

set_option maxRecDepth 100000 in
set_option maxHeartbeats 16000000 in
theorem JoutTwice_walk (w : World) (s : ByteArray) (hs9 : s.size ≤ 9223372036854775807) :
    Calls Try.prog 17 #[.string s] w fun e w' => e = .returned (.bool true) ∧ Below w.heap.size w w' := by
  have CA := fun W => Lib.hid (awake24 W)
  by_cases hbig : 1000 < s.size
  · have g1 : decide ((1000 : Int) < (s.size : Int)) = true := by simp; omega
    clear hbig
    go_enter Try.func17, Try.ntmps17
    go_wp2_with fail
    refine (CA _).out.mono ?_
    rintro e w1 ⟨rfl, hb1⟩
    have HB1 := Lib.hid hb1
    clear hb1
    go_wp2_with fail
    go_ret
    exact ⟨rfl, HB1.out⟩
  have g1 : decide ((1000 : Int) < (s.size : Int)) = false := by simp; omega
  have hs : s.size ≤ 1000000 := by omega
  cases hR : parseP (sl s) 1000 with
  | bad x b =>
    have CPr := fun W => Lib.hid (parse_no s hs 1000 (by omega) x b hR W)
    clear hbig hR
    go_enter Try.func17, Try.ntmps17
    go_wp2_with fail
    refine (CA _).out.mono ?_
    rintro e w1 ⟨rfl, hb1⟩
    have HB1 := Lib.hid hb1
    clear hb1
    go_wp2_with fail
    refine (CPr _).out.mono ?_
    rintro e w2 ⟨rfl, ⟨hx1, hx2⟩, hb2⟩
    have HB2 := Lib.hid (HB1.out.trans (hb2.mono HB1.out.size))
    clear hb2
    have b2 : ((x : Int) != 0) = true := by simp; omega
    simp only [jCells]
    go_wp2_with fail
    go_ret
    exact ⟨rfl, ((HB2.out.alloc HB2.out.size _).alloc (by have := HB2.out.size; simp; omega) _)⟩
  | ok a n =>
    obtain ⟨cka, hnest, _⟩ := parse_ok (sl s) 1000 a n hR
    have hwa := parse_wt (sl s) 1000 a n hR
    rw [sl_len] at hwa
    have CPr := fun W => Lib.hid (parse_yes s hs 1000 (by omega) a n hR W)
    obtain ⟨pa, hpa⟩ : ∃ p, p = txt (printJ a) := ⟨_, rfl⟩
    have hps : pa.size ≤ 1000000 := by
      have := print_wt a
      rw [← sl_len, hpa, sl_txt]; omega
    have hpp : parseP (sl pa) 1000 = .ok a 0 := by
      rw [hpa, sl_txt]
      exact parse_print a 1000 cka hnest (by omega)
    have CP2 := fun W => Lib.hid (parse_yes pa hps 1000 (by omega) a 0 hpp W)
    have CPa := fun S W c h => Lib.hid (print_yes a (by omega) cka pa hpa S W c h)
    have CS := Lib.hid (fun S S' W ca cb => same_all (wtJ a) a a (Nat.le_refl _) S S' W ca cb)
    rw [(eqJ_iff a a).2 rfl] at CS
    have hpe : (pa.toList == pa.toList) = true := by simp
    clear hbig hR hpp hpa hnest cka
    go_enter Try.func17, Try.ntmps17
    go_wp2_with fail
    refine (CA _).out.mono ?_
    rintro e w1 ⟨rfl, hb1⟩
    have HB1 := Lib.hid hb1
    clear hb1
    go_wp2_with fail
    refine (CPr _).out.mono ?_
    rintro e w2 ⟨⟨k1, x1, a1, n1, c1, rfl, hrd⟩, hb2⟩
    have hB3 : Below w2.heap.size w2 ((w2.alloc (.cells #[.int .i64 k1, .string x1, .slice a1 n1 c1] 24)).alloc (.cells #[.int .i64 0, .int .i64 0, .slice none 0 0] 36)) := ((Below.refl _ _).alloc (Nat.le_refl _) _).alloc (by simp) _
    have HR3 := Lib.hid (hrd.below hB3)
    have HB3 := Lib.hid ((HB1.out.trans (hb2.mono HB1.out.size)).trans (hB3.mono (by have := HB1.out.size; have := hb2.size; omega)))
    clear hrd hb2 hB3
    go_wp2_with fail
    refine (CPa _ _ _ HR3.out).out.mono ?_
    rintro e w4 ⟨rfl, hb4⟩
    have hj4 := jcells_keep hb4 (g := w2.heap.size) (k := k1) (x := x1) (ak := a1) (nk := n1) (ck := c1) (by refine ⟨?_, ?_, ?_⟩ <;> simp [go_sem])
    have HR4 := Lib.hid (HR3.out.below hb4)
    have hz4 : w2.heap.size + 2 ≤ w4.heap.size := by have := hb4.size; simp at this; omega
    have hz2 : w.heap.size ≤ w4.heap.size := Nat.le_trans HB3.out.size hb4.size
    have HB4 := Lib.hid (HB3.out.trans (hb4.mono HB3.out.size))
    obtain ⟨g3, hg3⟩ : ∃ g, g = w2.heap.size := ⟨_, rfl⟩
    rw [← hg3] at hj4 hz4 ⊢
    clear hb4 HR3 HB3 hg3
    obtain ⟨j0, j1, j2⟩ := hj4
    go_wp2_with fail
    refine (CP2 _).out.mono ?_
    rintro e w5 ⟨⟨k2, x2, a2, n2, c2, rfl, hrd⟩, hb5⟩
    have hj5 := jcells_keep hb5 ⟨j0, j1, j2⟩
    have HR5 := Lib.hid (HR4.out.below hb5)
    have HB5 := Lib.hid (HB4.out.trans (hb5.mono hz2))
    have hz5 : g3 + 2 ≤ w5.heap.size := Nat.le_trans hz4 hb5.size
    have hB6 : Below w5.heap.size w5 ((w5.alloc (.cells #[.int .i64 k2, .string x2, .slice a2 n2 c2] 24)).alloc (.cells #[.int .i64 0, .int .i64 0, .slice none 0 0] 36)) := ((Below.refl _ _).alloc (Nat.le_refl _) _).alloc (by simp) _
    have HR6 := Lib.hid (hrd.below hB6)
    have HQ6 := Lib.hid (HR5.out.below hB6)
    have HB6 := Lib.hid (HB5.out.trans (hB6.mono HB5.out.size))
    clear j0 j1 j2 hb5 hrd HR4 HB4
    obtain ⟨j0, j1, j2⟩ := hj5
    have q1 : g3 < w5.heap.size := by omega
    clear hB6
    go_wp2_with fail
    refine (CPa _ _ _ HR6.out).out.mono ?_
    rintro e w7 ⟨rfl, hb7⟩
    have hk7 := jcells_keep hb7 (g := w5.heap.size) (k := k2) (x := x2) (ak := a2) (nk := n2) (ck := c2) (by refine ⟨?_, ?_, ?_⟩ <;> simp [go_sem])
    have hj7 := jcells_keep hb7 (g := g3) (k := k1) (x := x1) (ak := a1) (nk := n1) (ck := c1) (by refine ⟨?_, ?_, ?_⟩ <;> simp [go_sem, *])
    have he7 : w7.cell? ⟨w5.heap.size + 1, 0, none⟩ = some (.int .i64 0) := cell_below hb7 (by simp [go_sem])
    have HR7 := Lib.hid (HR6.out.below hb7)
    have HQ7 := Lib.hid (HQ6.out.below hb7)
    have HB7 := Lib.hid (HB6.out.trans (hb7.mono HB6.out.size))
    clear hb7 HR6 HQ6 HB6 j0 j1 j2
    obtain ⟨j0, j1, j2⟩ := hj7
    obtain ⟨y0, y1, y2⟩ := hk7
    go_wp2_with fail
    refine (CS.out _ _ _ _ _ HQ7.out HR7.out).mono ?_
    rintro e w8 ⟨rfl, hb8⟩
    have HB8 := Lib.hid (HB7.out.trans (hb8.mono HB7.out.size))
    clear hb8
    go_wp2_with fail
    go_ret
    exact ⟨rfl, HB8.out⟩

end Go.Proofs.Ytamhdoijmkjngaa
