/- bin.Decode: what it answers; the ways without a document. -/
import Derived.Test.YtkcfkdmffbhljaaBiC0
import Derived.Test.YtkcfkdmffbhljaaMB
import Derived.Test.YtkcfkdmffbhljaaMA
import Derived.Deep.CutRange
import Derived.Test.YtkcfkdmffbhljaaMay2
namespace Go.Proofs.Ytkcfkdmffbhljaa
open Go.RowKit
set_option linter.unusedVariables false
set_option linter.unusedSimpArgs false

/-- What Decode answers. -/
def DecOut (d s o : Int) (L : List UInt8) (w : World) (e : Ending) (w' : World) : Prop :=
  (if mayS d s o = false then e = .returned (.tuple #[.agg zCellsV, fltV 1 0]) else
   if s < (L.length : Int) then e = .returned (.tuple #[.agg zCellsV, fltV 9 0]) else
   ∃ r, Q L d.toNat (.doc 0 L.length 0 1) r ∧ match r with
   | .kids f nx => ∃ c, e = .returned (.tuple #[.agg c, fltV 0 0]) ∧ RdTS (fun k => w.heap.size ≤ k) w' (.mk 3 0 0 0 nt nt 0 [] f) c
   | .bad er a => e = .returned (.tuple #[.agg zCellsV, fltV er a])
   | .val _ _ => False) ∧ Below w.heap.size w w'

set_option maxRecDepth 100000 in
set_option maxHeartbeats 4000000 in
theorem dec_small (ab : Option Addr) (n c : Nat) (d s o : Int) (L : List UInt8) (w : World) (hL : L.length = n) (h : mayS d s o = false ∨ s < (n : Int)) :
    Calls Try.prog 16 #[.slice ab n c, .agg (limCells d s o)] w (DecOut d s o L w) := by
  have CM := Lib.hid (fun W => may_calls d s o W)
  obtain ⟨wa, hwa⟩ : ∃ W, W = ((w.alloc (.cells #[.int .i64 d, .int .i64 s, .int .i64 o] 28)).alloc (.cells #[.int .i64 0, .int .u64 0, .int .u64 0, .int .u64 0, .string ⟨#[]⟩, .string ⟨#[]⟩, .int .i64 0, .slice none 0 0, .slice none 0 0] 26)).alloc (.cells #[.int .i64 0, .int .i64 0, .slice none 0 0] 34) := ⟨_, rfl⟩
  have hba : Below w.heap.size w wa := by
    rw [hwa]
    have h1 : Below w.heap.size w (w.alloc (.cells #[.int .i64 d, .int .i64 s, .int .i64 o] 28)) := (Below.refl _ _).alloc (Nat.le_refl _) _
    have h2 := h1.alloc h1.size (.cells #[.int .i64 0, .int .u64 0, .int .u64 0, .int .u64 0, .string ⟨#[]⟩, .string ⟨#[]⟩, .int .i64 0, .slice none 0 0, .slice none 0 0] 26)
    exact h2.alloc h2.size _
  have hfa : FBx wa (w.heap.size + 1 + 1) 0 0 := by
    rw [hwa]
    refine ⟨?_, ?_, ?_, ?_, ?_, ?_, ?_⟩ <;> simp [go_sem]
  have hxa : BoxV wa (w.heap.size + 1) zCellsV := by
    rw [hwa]
    have h1 : (w.alloc (.cells #[.int .i64 d, .int .i64 s, .int .i64 o] 28)).heap.size = w.heap.size + 1 := by simp
    rw [← h1]
    exact (BoxV.new _ _ _).keep ((Below.refl _ _).alloc (Nat.le_refl _) _)
  have hla : wa.cell? ⟨w.heap.size, 0, none⟩ = some (.int .i64 d) ∧ wa.cell? ⟨w.heap.size, 1, none⟩ = some (.int .i64 s) ∧ wa.cell? ⟨w.heap.size, 2, none⟩ = some (.int .i64 o) := by rw [hwa]; simp [go_sem]
  have HBA := Lib.hid hba
  have HFA := Lib.hid hfa
  have HXA := Lib.hid hxa
  have HLA := Lib.hid hla
  clear hba hfa hxa hla
  have fin : ∀ (e0 : Nat) (W W' : World), Below w.heap.size w W → Chg (fun j => j = w.heap.size + 1 ∨ j = w.heap.size + 1 + 1) W W' → Below w.heap.size w W' := fun e0 W W' h hc => h.trans (hc.below h.size (fun j e => by rcases e with e | e <;> omega))
  have FIN := Lib.hid fin
  clear fin
  cases hm : mayS d s o with
  | false =>
    rw [hm] at CM
    have HM := Lib.hid hm
    clear hm h
    go_enter Try.func16, Try.ntmps16
    go_upto_region 1 with fail
    rw [← hwa]
    clear hwa
    obtain ⟨y0, y1, y2⟩ := HLA.out
    go_wp2_with fail
    refine (CM.out _).mono ?_
    rintro e w1 ⟨rfl, hb1⟩
    have HB1 : Hid (Below w.heap.size w w1) := HBA.out.trans (hb1.mono HBA.out.size)
    obtain ⟨f0, f1, f2, f3, f4, f5, f6, f7, f8, l0⟩ := (HXA.out.keep hb1).nine
    obtain ⟨z0, z1, z2, q0, q1, q2, hg1⟩ := HFA.out.keep hb1
    have hv1 := HXA.out.keep hb1
    have p0 := (hv1.2 0 (by omega)).2
    have p1 := (hv1.2 1 (by omega)).2
    have p2 := (hv1.2 2 (by omega)).2
    have p3 := (hv1.2 3 (by omega)).2
    have p4 := (hv1.2 4 (by omega)).2
    have p5 := (hv1.2 5 (by omega)).2
    have p6 := (hv1.2 6 (by omega)).2
    have p7 := (hv1.2 7 (by omega)).2
    have p8 := (hv1.2 8 (by omega)).2
    clear hv1 hb1
    go_wp2_with fail
    refine bodyPost_ret (v := .tuple #[.agg zCellsV, fltV 1 0]) (by simp [results, Try.results16, go_sem, *]) rfl ?_
    refine ⟨by rw [if_pos HM.out], FIN.out 0 w1 _ HB1.out ?_⟩
    (repeat' (first | with_reducible exact Chg.refl _ _ | with_reducible refine Chg.setCell ?_ (fun _ => by first | exact Or.inl rfl | exact Or.inr rfl) _))
  | true =>
    rw [hm] at CM
    have HM := Lib.hid hm
    have hsn : s < (n : Int) := by
      rcases h with h | h
      · rw [h] at hm; simp at hm
      · exact h
    have ds : decide (s < (n : Int)) = true := by simpa using hsn
    clear hm h
    go_enter Try.func16, Try.ntmps16
    go_upto_region 1 with fail
    rw [← hwa]
    clear hwa
    obtain ⟨y0, y1, y2⟩ := HLA.out
    go_wp2_with fail
    refine (CM.out _).mono ?_
    rintro e w1 ⟨rfl, hb1⟩
    have HB1 : Hid (Below w.heap.size w w1) := HBA.out.trans (hb1.mono HBA.out.size)
    have y0 := cell_below hb1 HLA.out.1
    have y1 := cell_below hb1 HLA.out.2.1
    have y2 := cell_below hb1 HLA.out.2.2
    obtain ⟨f0, f1, f2, f3, f4, f5, f6, f7, f8, l0⟩ := (HXA.out.keep hb1).nine
    obtain ⟨z0, z1, z2, q0, q1, q2, hg1⟩ := HFA.out.keep hb1
    have hv1 := HXA.out.keep hb1
    have p0 := (hv1.2 0 (by omega)).2
    have p1 := (hv1.2 1 (by omega)).2
    have p2 := (hv1.2 2 (by omega)).2
    have p3 := (hv1.2 3 (by omega)).2
    have p4 := (hv1.2 4 (by omega)).2
    have p5 := (hv1.2 5 (by omega)).2
    have p6 := (hv1.2 6 (by omega)).2
    have p7 := (hv1.2 7 (by omega)).2
    have p8 := (hv1.2 8 (by omega)).2
    clear hv1 hb1
    go_wp2_with fail
    refine bodyPost_ret (v := .tuple #[.agg zCellsV, fltV 9 0]) (by simp [results, Try.results16, go_sem, *]) rfl ?_
    refine ⟨by rw [if_neg (by rw [HM.out]; simp), if_pos (by rw [hL]; exact hsn)], FIN.out 0 w1 _ HB1.out ?_⟩
    (repeat' (first | with_reducible exact Chg.refl _ _ | with_reducible refine Chg.setCell ?_ (fun _ => by first | exact Or.inl rfl | exact Or.inr rfl) _))

end Go.Proofs.Ytkcfkdmffbhljaa
