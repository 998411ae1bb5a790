/- CurOwn: the walk. -/
import Derived.Test.YtcoapmfbibjjpaaCurI
namespace Go.Proofs.Ytcoapmfbibjjpaa
open Go.RowKit
set_option linter.unusedVariables false
set_option linter.unusedSimpArgs false

theorem OwnB.form {w : World} {B : Nat} {v : Value} {bs : List UInt8} (h : OwnB w B v bs) (hn : 0 < bs.length) :
    ∃ g cap, v = .slice (some ⟨g, 0, none⟩) bs.length cap ∧ B ≤ g ∧ g < w.heap.size ∧ w.cell? ⟨g, 0, none⟩ = some (.int .u8 (bAt bs 0 : Nat)) ∧ w.frozen? ⟨g, 0, none⟩ = false := by
  obtain ⟨g, cap, rfl, hB, hlt⟩ := World.ownsRow.form h hn
  obtain ⟨a, c, he, hr⟩ := h.reads
  simp only [Value.slice.injEq, true_and] at he
  obtain ⟨rfl, _⟩ := he
  obtain ⟨b, o, ha, hc⟩ := hr.at 0 hn
  simp only [Option.some.injEq, Addr.mk.injEq, and_true] at ha
  obtain ⟨rfl, rfl⟩ := ha
  refine ⟨g, cap, rfl, hB, hlt, by simpa using hc, ?_⟩
  exact World.ownsRow.frozenAt h 0

set_option maxRecDepth 100000 in
set_option maxHeartbeats 4000000 in
theorem CurOwn_walk (w : World) (a : Option Addr) (len cap : Nat) (l : List UInt8) (h : RdB w a len l) (hnc : a = none → cap = 0) (hcc : len ≤ cap) (by' : Int) (hby : (Lit.int .u8 by').wf = true) :
    Calls Try.prog 12 #[.slice a len cap, .int .u8 by'] w fun e w' => e = .returned (.bool true) ∧ Below w.heap.size w w' := by
  have H := Lib.hid h
  have HL := Lib.hid h.1
  have hm := h.2.1
  have HN := Lib.hid hnc
  clear h hnc hby
  by_cases h1 : len < 1
  · go_enter Try.func12, Try.ntmps12
    go_wp2_with (go_at_call 37; refine (awake1 _).mono ?_; rintro e w1 ⟨rfl, hb⟩)
    go_ret
    exact ⟨rfl, hb⟩
  by_cases h2 : 100 < len
  · go_enter Try.func12, Try.ntmps12
    go_wp2_with (go_at_call 37; refine (awake1 _).mono ?_; rintro e w1 ⟨rfl, hb⟩)
    go_ret
    exact ⟨rfl, hb⟩
  go_enter Try.func12, Try.ntmps12
  go_wp2_with fail
  refine (awake1 _).mono ?_
  rintro e w1 ⟨rfl, hb1⟩
  have H1 := Lib.hid hb1
  have hs1 := hb1.size
  have hlit : Hid (OwnB (w1.alloc (.cells #[] 5)) w1.heap.size (.slice (some ⟨w1.heap.size, 0, none⟩) 0 0) []) := by
    have := World.ownsRow_lit (base := w1.heap.size) (e := 5) (size := 1) w1 #[] 0 (by simp) (by unfold maxLen; omega) rfl
    simpa [Hid, OwnB, byteCells] using this
  have HSB : Hid (SrcB (w1.alloc (.cells #[] 5)) (.slice a len cap) l) := ⟨a, len, cap, rfl, (H.out.keep H1.out).keep ((Below.refl _ _).alloc (Nat.le_refl _) _), HN.out⟩
  clear hb1
  go_wp2_with (at_builtin; refine wpList_appB (v := .slice (some ⟨w1.heap.size, 0, none⟩) 0 0) (bs := []) (sv := .slice a len cap) (l := l) (B := w1.heap.size) (by rfl) _ _ (by rfl) (by rfl) hlit.out (by rfl) HSB.out ?o3 ?o4 ?_)
  case o3 => rw [HL.out]; simp; omega
  case o4 => simp
  intro vx w2 hox hax
  have HB2 := Lib.hid (hax.below ((Below.refl w1.heap.size w1).alloc (Nat.le_refl _) (.cells #[] 5)) (by simp) (fun j hj => (owns_lt hlit.out j hj).1))
  obtain ⟨gx, cx, hve, hgx, hgx2, hx0, hxf⟩ := hox.form (by rw [HL.out]; omega)
  rw [HL.out] at hve
  subst hve
  have H2 := Lib.hid (H1.out.trans (HB2.out.mono hs1))
  have hs2 : w1.heap.size ≤ w2.heap.size := HB2.out.size
  have hsx := hox.srcB
  obtain ⟨ax, cx', hvx, hrx⟩ := hox.reads
  rw [HL.out] at hvx hrx
  simp only [Value.slice.injEq, true_and] at hvx
  obtain ⟨rfl, rfl⟩ := hvx
  have C := Lib.hid (new_calls2 _ len cx l w2 hrx (by simp) (by omega))
  have HSX := Lib.hid hsx
  clear hox hax hsx hrx hlit HSB
  go_wp2_with fail
  refine C.out.mono ?_
  rintro e w3 ⟨r, ar, cr, rfl, hrd, hb3, hrr, har⟩
  have H3 := Lib.hid (H2.out.trans (hb3.mono H2.out.size))
  have hs3 : w2.heap.size ≤ w3.heap.size := hb3.size
  have hr3 : r < w3.heap.size := by simpa using cell_block hrd.1
  have HAR : Hid (∀ x, ar = some x → w2.heap.size ≤ x.block) := har
  have HA3 : Hid (∀ x, ar = some x → x.block < w3.heap.size) := fun x hx => by
    obtain ⟨b, o, ha, hc⟩ := hrd.2.2.2.1.at 0 (by rw [HL.out]; omega)
    rw [hx] at ha
    simp only [Option.some.injEq] at ha
    subst ha
    simpa using cell_block hc
  have hx03 := cell_below hb3 hx0
  have hxf3 : w3.frozen? ⟨gx, 0, none⟩ = false := by rw [hb3.frozen (p := ⟨gx, 0, none⟩) (by simpa using hgx2)]; exact hxf
  have HSX3 := Lib.hid (HSX.out.keep hb3)
  have HRD := Lib.hid hrd
  clear hx0 hxf hb3 har hrd C HSX
  go_wp2_with fail
  refine (lay_calls w3).mono ?_
  rintro e w4 ⟨g, rfl, hwt, hb4, hg⟩
  have H4 := Lib.hid (H3.out.trans (hb4.mono H3.out.size))
  have hs4 : w3.heap.size ≤ w4.heap.size := hb4.size
  have hx04 := cell_below hb4 hx03
  have hxf4 : w4.frozen? ⟨gx, 0, none⟩ = false := by rw [hb4.frozen (p := ⟨gx, 0, none⟩) (by simp; omega)]; exact hxf3
  have HRD4 := Lib.hid (HRD.out.chg (S := fun _ => False) (Chg.of_below hb4) id (fun _ _ => id))
  have C := Lib.hid (wraw_calls g (.slice none 0 0) [] l w4 w3.heap.size hwt hs4 (by simp) _ (HSX3.out.keep hb4) (by rw [HL.out]; omega))
  clear hx03 hxf3 hwt hb4 HSX3 HRD
  go_wp2_with fail
  refine C.out.mono ?_
  rintro e w5 ⟨rfl, v5, hwt5, hc5, hv5⟩
  have hgg : ∀ j, (j = g ∨ (Value.slice none 0 0).ownBlock = some j) → j = g := by
    rintro j (h | h)
    · exact h
    · simp [Value.ownBlock] at h
  have hc5' : Chg (fun j => j = g) w4 w5 := hc5.weaken (fun j _ h => hgg j h)
  have H5 := Lib.hid (H4.out.trans (hc5'.below H4.out.size (by rintro i rfl; have := H3.out.size; omega)))
  have hs5 : w4.heap.size ≤ w5.heap.size := hc5'.size
  have hx05 : w5.cell? ⟨gx, 0, none⟩ = some (.int .u8 (bAt l 0 : Nat)) := hc5'.cell (by simp; omega) hx04
  have hxf5 : w5.frozen? ⟨gx, 0, none⟩ = false := by rw [← hxf4]; exact World.frozen?_of_block (w := w4) (hc5'.block gx (by omega) (by omega))
  have HRD5 := Lib.hid (HRD4.out.chg hc5' (by omega) (fun x hx e => by have := HA3.out x hx; omega))
  have HV5 := Lib.hid (owns_lt hwt5.2.2.1)
  have hq : (bAt l 0 : Int) < 256 := bAt_bd l 0
  clear hx04 hxf4 hc5 hc5' hv5 hgg HRD4 C
  have C := Lib.hid (fun u => rtake_yes r 0 l (w5.setCell ⟨gx, 0, none⟩ u) (HRD5.out.chg (S := fun j => j = gx) (Chg.setCell (S := fun j => j = gx) (Chg.refl _ w5) (p := ⟨gx, 0, none⟩) (fun _ => rfl) u) (by omega) (fun x hx e => by have := HAR.out x hx; omega)).rdr len (by omega) (by rw [HL.out]; omega))
  have HSG : Hid (seg l 0 len = l) := by show seg l 0 len = l; simp only [seg, List.drop_zero]; exact List.take_of_length_le (by rw [HL.out]; omega)
  have HW6 := Lib.hid (fun u => hwt5.chg (S := fun j => j = gx) (Chg.setCell (S := fun j => j = gx) (Chg.refl _ w5) (p := ⟨gx, 0, none⟩) (fun _ => rfl) u) (by omega) (fun k hk e => by have := (HV5.out k hk).1; omega))
  have H6 := Lib.hid (fun u => H5.out.setCell (p := ⟨gx, 0, none⟩) (by simp; have := H1.out.size; omega) u)
  clear hwt5
  go_wp2_with fail
  refine (C.out _).mono ?_
  rintro e w7 ⟨v7, rfl, ho7, hr7, hc7⟩
  have HW7 := Lib.hid ((HW6.out _).chg hc7 (by omega) (fun k hk e => by have := (HV5.out k hk).1; omega))
  have H7 := Lib.hid ((H6.out _).trans (hc7.below (by rw [World.size_setCell]; exact H5.out.size) (by rintro i rfl; have := H2.out.size; omega)))
  rw [HSG.out] at ho7
  obtain ⟨a7, c7, hve, hr7'⟩ := ho7.reads
  rw [HL.out] at hve hr7'
  rw [hve]
  have HR7 := Lib.hid hr7'
  have C := Lib.hid (wbytes_calls g v5 ([] ++ l) w7 _ HW7.out (by simp; rw [HL.out]; omega))
  clear ho7 hr7 hc7 hve hr7' HW6 H6
  go_wp2_with fail
  refine C.out.mono ?_
  rintro e w8 ⟨v8, rfl, ho8, hb8⟩
  have H8 := Lib.hid (H7.out.trans (hb8.mono H7.out.size))
  have HW8 := Lib.hid (HW7.out.chg (S := fun _ => False) (Chg.of_below hb8) id (fun _ _ => id))
  have hs8 : w7.heap.size ≤ w8.heap.size := hb8.size
  have HG8 : Hid (g < w7.heap.size) := by simpa [Hid] using cell_block HW7.out.1
  have HV8 := Lib.hid (owns_lt HW7.out.2.2.1)
  obtain ⟨gc, cc, hve, hgc, hgc2, hc0, hcf⟩ := ho8.form (by simp; rw [HL.out]; omega)
  rw [List.nil_append, HL.out] at hve
  obtain ⟨a8, c8, hv8, hr8⟩ := ho8.reads
  rw [List.nil_append, HL.out, hve] at hv8
  rw [List.nil_append, HL.out] at hr8
  simp only [Value.slice.injEq, true_and] at hv8
  obtain ⟨rfl, rfl⟩ := hv8
  have hcv1 := conv_str (HR7.out.keep hb8) c7
  have hcv2 := conv_str (H.out.keep H8.out) cap
  have hcv3 := conv_str hr8 cc
  have HC9 := Lib.hid (fun (W : World) (hW : Below w.heap.size w W) => conv_str (H.out.keep hW) cap)
  have HC10 := Lib.hid (fun (W : World) (c : Nat) (x : Option Addr) (hW : RdB W x l.length l) => conv_str hW c)
  generalize txt l = tx at hcv1 hcv2 hcv3 HC9 HC10
  have H9 := Lib.hid (fun u => (H8.out.setCell (p := ⟨gc, 0, none⟩) (by simp; have := H7.out.size; omega) u).drew)
  have HW9 := Lib.hid (fun u => (HW8.out.chg (S := fun j => j = gc) (Chg.setCell (S := fun j => j = gc) (Chg.refl _ w8) (p := ⟨gc, 0, none⟩) (fun _ => rfl) u) (by have := HG8.out; omega) (fun k hk e => by have := (HV8.out k hk).2; omega)).chg (S := fun _ => False) (Chg.drew (Chg.refl _ _)) id (fun _ _ => id))
  have hq2 : (bAt ([] ++ l) 0 : Int) < 256 := bAt_bd _ 0
  generalize bAt ([] ++ l) 0 = y at hc0 hq2
  rw [hve]
  clear ho8 hr8 hb8 hve HR7 C
  go_wp2_with fail
  have HC := Lib.hid (fun u => wbytes_calls g v5 ([] ++ l) _ _ (HW9.out u) (by simp; rw [HL.out]; omega))
  have HNL : Hid (([] : List UInt8) ++ l = l) := List.nil_append l
  rw [HNL.out] at HC
  have hcb9 := fun u => HC9.out _ (H9.out u)
  go_region_with ((go_at_call 42; refine (HC.out _).mono ?_; rintro e w10 ⟨v10, rfl, ho10, hb10⟩; have h10 := (H9.out _).trans (hb10.mono (H9.out _).size); obtain ⟨a10, c10, rfl, hr10⟩ := ho10.reads; have hcv10 := HC10.out _ c10 _ hr10; have hcb10 := HC9.out _ h10; clear ho10 hb10 hr10))
  all_goals
    go_wp2_with fail
    go_ret
    exact ⟨rfl, h10⟩
end Go.Proofs.Ytcoapmfbibjjpaa
