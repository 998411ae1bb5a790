/- The law's awake (chapter 21). -/
import Derived.Test.YtkcfkdmffbhljaaBiK
namespace Go.Proofs.Ytkcfkdmffbhljaa
open Go.RowKit
set_option linter.unusedVariables false
set_option linter.unusedSimpArgs false

theorem limits_calls (w : World) : Calls Try.prog 21 #[] w fun e w' => e = .returned (.agg (limCells 200 65536 262144)) ∧ Below w.heap.size w w' := by
  go_enter Try.func21, Try.ntmps21
  go_wp2_with fail
  refine bodyPost_ret (v := .agg (limCells 200 65536 262144)) (by simp [results, Try.results21, go_sem]) rfl ?_
  exact ⟨rfl, (Below.refl _ _).alloc (Nat.le_refl _) _⟩

theorem five_rd (w : World) (g : Nat) (x : Nat) (h : ∀ i, i < 5 → w.cell? ⟨g, 0 + i, none⟩ = some (.int .u8 (bAt [5, 0, 0, 0, UInt8.ofNat x] i : Nat))) : RdB w (some ⟨g, 0, none⟩) 5 [5, 0, 0, 0, UInt8.ofNat x] :=
  ⟨rfl, by omega, fun i hi => ⟨g, 0, rfl, h i hi⟩⟩

theorem q_one : DecQ 200 65536 262144 [5, 0, 0, 0, 1] (.error (3, 4)) :=
  .inr (.inr ⟨by decide, by decide, .doc_go (last := 4) (by kernel_rfl) (.els_end (by kernel_rfl))⟩)
theorem q_none : DecQ 200 65536 262144 [5, 0, 0, 0, 0] (.ok .nil) :=
  ⟨by decide, by decide, 5, .doc_go (last := 4) (by kernel_rfl) (.els_end (by kernel_rfl))⟩

theorem dec_one (g : Nat) (w : World) (h : RdB w (some ⟨g, 0, none⟩) 5 [5, 0, 0, 0, 1]) :
    Calls Try.prog 16 #[.slice (some ⟨g, 0, none⟩) 5 5, .agg (limCells 200 65536 262144)] w fun e w' => e = .returned (.tuple #[.agg zCellsV, fltV 3 4]) ∧ Below w.heap.size w w' := by
  refine (decode_calls (some ⟨g, 0, none⟩) 5 5 200 65536 262144 _ w h (by omega) (by omega)).mono ?_
  rintro e w' ⟨r, hq, hout, hb⟩
  obtain rfl := hq.one q_one
  exact ⟨hout, hb⟩
theorem dec_none (g : Nat) (w : World) (h : RdB w (some ⟨g, 0, none⟩) 5 [5, 0, 0, 0, 0]) :
    Calls Try.prog 16 #[.slice (some ⟨g, 0, none⟩) 5 5, .agg (limCells 200 65536 262144)] w fun e w' => (∃ ab nb cb ak nk ck, e = .returned (.tuple #[.agg (valCells 3 0 0 0 nt nt 0 ab nb cb ak nk ck), fltV 0 0])) ∧ Below w.heap.size w w' := by
  refine (decode_calls (some ⟨g, 0, none⟩) 5 5 200 65536 262144 _ w h (by omega) (by omega)).mono ?_
  rintro e w' ⟨r, hq, hout, hb⟩
  obtain rfl := hq.one q_none
  obtain ⟨c, rfl, ab, nb, cb, ak, nk, ck, rfl, -⟩ := hout
  exact ⟨⟨ab, nb, cb, ak, nk, ck, rfl⟩, hb⟩

set_option maxRecDepth 100000 in
set_option maxHeartbeats 4000000 in
theorem awake21 (w : World) : Calls Try.prog 13 #[] w fun e w' => e = .returned (.bool true) ∧ Below w.heap.size w w' := by
  obtain ⟨wa, hwa⟩ : ∃ W, W = w.alloc (.cells #[.int .u8 5, .int .u8 0, .int .u8 0, .int .u8 0, .int .u8 1] 5) := ⟨_, rfl⟩
  obtain ⟨g, hg⟩ : ∃ g, g = w.heap.size := ⟨_, rfl⟩
  have hba : Below w.heap.size w wa := by rw [hwa]; exact (Below.refl _ _).alloc (Nat.le_refl _) _
  have hra : RdB wa (some ⟨g, 0, none⟩) 5 [5, 0, 0, 0, 1] := five_rd wa g 1 (fun i hi => by
    have hi5 : i = 0 ∨ i = 1 ∨ i = 2 ∨ i = 3 ∨ i = 4 := by omega
    rw [hwa, hg]
    rcases hi5 with rfl | rfl | rfl | rfl | rfl <;> simp [go_sem, bAt])
  have HBA := Lib.hid hba
  have C1 := Lib.hid (fun W (hb : Below wa.heap.size wa W) => dec_one g W (hra.keep hb))
  have CL := Lib.hid limits_calls
  clear hba hra
  go_enter Try.func13, Try.ntmps13
  go_wp2_with fail
  rw [← hwa, ← hg]
  clear hwa hg
  refine (CL.out _).mono ?_
  rintro e w1 ⟨rfl, hb1⟩
  have HB1 := Lib.hid hb1
  clear hb1
  go_wp2_with fail
  refine (C1.out _ HB1.out).mono ?_
  rintro e w2 ⟨rfl, hb2⟩
  have HB2 : Hid (Below w.heap.size w w2) := HBA.out.trans ((HB1.out.trans (hb2.mono HB1.out.size)).mono HBA.out.size)
  clear hb2 C1
  obtain ⟨wb, hwb⟩ : ∃ W, W = (w2.alloc (.cells #[.int .i64 0, .int .u64 0, .int .u64 0, .int .u64 0, .string ⟨#[]⟩, .string ⟨#[]⟩, .int .i64 0, .slice none 0 0, .slice none 0 0] 26)).alloc (.cells #[.int .i64 3, .int .i64 4, .slice none 0 0] 34) := ⟨_, rfl⟩
  have hbb : Below w2.heap.size w2 wb := by
    rw [hwb]
    have h1 : Below w2.heap.size w2 (w2.alloc (.cells #[.int .i64 0, .int .u64 0, .int .u64 0, .int .u64 0, .string ⟨#[]⟩, .string ⟨#[]⟩, .int .i64 0, .slice none 0 0, .slice none 0 0] 26)) := (Below.refl _ _).alloc (Nat.le_refl _) _
    exact h1.alloc h1.size _
  obtain ⟨g2, hg2⟩ : ∃ x, x = w2.heap.size + 1 := ⟨_, rfl⟩
  have hfb : wb.cell? ⟨g2, 0, none⟩ = some (.int .i64 3) ∧ wb.cell? ⟨g2, 1, none⟩ = some (.int .i64 4) ∧ g2 < wb.heap.size := by
    rw [hwb, hg2]
    refine ⟨?_, ?_, ?_⟩ <;> simp [go_sem]
  have HFB : Hid (∀ W, Below wb.heap.size wb W → W.cell? ⟨g2, 0, none⟩ = some (.int .i64 3) ∧ W.cell? ⟨g2, 1, none⟩ = some (.int .i64 4) ∧ g2 < W.heap.size) := by
    show ∀ W, _
    exact fun W hW => ⟨cell_below hW hfb.1, cell_below hW hfb.2.1, Nat.lt_of_lt_of_le hfb.2.2 hW.size⟩
  have HBB : Hid (Below w.heap.size w wb) := HB2.out.trans (hbb.mono HB2.out.size)
  clear hbb hfb
  obtain ⟨wd, hwd⟩ : ∃ W, W = wb.alloc (.cells #[.int .u8 5, .int .u8 0, .int .u8 0, .int .u8 0, .int .u8 0] 5) := ⟨_, rfl⟩
  obtain ⟨g3, hg3⟩ : ∃ g, g = wb.heap.size := ⟨_, rfl⟩
  have hbd : Below wb.heap.size wb wd := by rw [hwd]; exact (Below.refl _ _).alloc (Nat.le_refl _) _
  have hrd : RdB wd (some ⟨g3, 0, none⟩) 5 [5, 0, 0, 0, 0] := five_rd wd g3 0 (fun i hi => by
    have hi5 : i = 0 ∨ i = 1 ∨ i = 2 ∨ i = 3 ∨ i = 4 := by omega
    rw [hwd, hg3]
    rcases hi5 with rfl | rfl | rfl | rfl | rfl <;> simp [go_sem, bAt])
  have C2 := Lib.hid (fun W (hb : Below wd.heap.size wd W) => dec_none g3 W (hrd.keep hb))
  have HBD := Lib.hid hbd
  clear hbd hrd
  go_upto_region 2 with fail
  rw [← hwb, ← hg2]
  clear hwb hg2
  go_wp2_with fail
  rw [← hwd, ← hg3]
  clear hwd hg3
  refine (CL.out _).mono ?_
  rintro e w3 ⟨rfl, hb3⟩
  have HB3 := Lib.hid hb3
  clear hb3
  go_wp2_with fail
  refine (C2.out _ HB3.out).mono ?_
  rintro e w4 ⟨⟨ab, nb, cb, ak, nk, ck, rfl⟩, hb4⟩
  have HB4 : Hid (Below wb.heap.size wb w4) := HBD.out.trans ((HB3.out.trans (hb4.mono HB3.out.size)).mono HBD.out.size)
  have HE : Hid (Below w.heap.size w w4) := HBB.out.trans (HB4.out.mono HBB.out.size)
  obtain ⟨k0, k1, k2⟩ := HFB.out _ HB4.out
  clear hb4 C2
  go_wp2_with fail
  go_ret
  refine ⟨rfl, HE.out.trans (Below.mono ?_ HE.out.size)⟩
  have h1 := (Below.refl w4.heap.size w4).alloc (Nat.le_refl _) (.cells (valCells 3 0 0 0 nt nt 0 ab nb cb ak nk ck) 26)
  exact h1.alloc h1.size _

end Go.Proofs.Ytkcfkdmffbhljaa
