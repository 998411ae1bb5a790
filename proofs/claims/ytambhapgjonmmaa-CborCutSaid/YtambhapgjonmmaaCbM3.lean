/- cbor: an item laid, Kind by Kind. -/
import Derived.Test.YtambhapgjonmmaaCbM0
import Derived.Deep.CutRange
import Derived.Deep.RegionHeld3
namespace Go.Proofs.Ytambhapgjonmmaa
open Go.RowKit
set_option linter.unusedVariables false
set_option linter.unusedSimpArgs false

set_option maxRecDepth 100000 in
set_option maxHeartbeats 8000000 in
theorem lay_7 (d : Nat) (hof : LaySaid d) (n : Nat) (ys : List UInt8) (text : ByteArray) (kids : IL) (hd : I.wt (.mk 7 n ys text kids) ≤ d + 1) (her : errIs kids = 0) (hd9 : d ≤ 1000000) (w0 w : World) (B g : Nat) (v : Value) (bs : List UInt8) (c : Array Value) (hr : RdIt (fun _ => True) w0 (.mk 7 n ys text kids) c) (hw0 : Below w0.heap.size w0 w) (hwB : w0.heap.size ≤ B) (hwg : w0.heap.size ≤ g) (hwt : Wtr w B g v bs) (hBw : B ≤ w.heap.size) (hbl : bs.length + 9 * I.wt (.mk 7 n ys text kids) ≤ 80000000) :
    Calls Try.prog 23 #[.pointer (some ⟨g, 0, none⟩), .agg c] w fun e w' => e = .returned (.tuple #[]) ∧ WStep w B g v (bs ++ layI (.mk 7 n ys text kids)) w' := by
  obtain ⟨T, hT⟩ : ∃ q, q = I.wt (.mk 7 n ys text kids) := ⟨_, rfl⟩
  rw [← hT] at hd hbl
  simp only [I.wt] at hT
  obtain ⟨ab, nb, cb, ak, nk, ck, rfl, hok, hbs, hkl, hrm, hks⟩ := hr
  obtain ⟨wa, hwa⟩ : ∃ W, W = w.alloc (.cells #[.int .i64 7, .int .u64 (n : Nat), .slice ab nb cb, .string text, .slice ak nk ck] 26) := ⟨_, rfl⟩
  obtain ⟨gb, hgb⟩ : ∃ q, q = w.heap.size := ⟨_, rfl⟩
  have hba : Below w.heap.size w wa := by rw [hwa]; exact (Below.refl _ _).alloc (Nat.le_refl _) _
  have hxa : ItBx wa gb 7 n ab nb cb text ak nk ck := by rw [hwa, hgb]; exact ItBx.new _ _ _ _ _ _ _ _ _ _ _
  have hgw : g < w.heap.size := by simpa using cell_block hwt.1
  have hwta := hwt.below hba
  have HGOa := Lib.hid (WGo.refl hwta)
  have HWTa := Lib.hid hwta
  have HBA := Lib.hid hba
  have HXa := Lib.hid hxa
  have HNG : Hid (¬ (gb = g ∨ v.ownBlock = some gb)) := by
    show ¬ _
    rintro (e | e)
    · omega
    · have := (owns_lt hwt.2.2.1 gb e).2; omega
  have HW0a : Hid (Below w0.heap.size w0 wa) := hw0.trans (hba.mono hw0.size)
  have hBa : B ≤ wa.heap.size := Nat.le_trans hBw hba.size
  have HKS := Lib.hid hks
  have HKL := Lib.hid hkl
  have HBS := Lib.hid hbs
  have HRM := Lib.hid hrm
  have hnk := hrm.1
  have hnx : n < 18446744073709551616 := hok.2.1
  have hkw := IL.len_wt kids
  have hyl : ys.length = nb := hbs.1.1
  have hst9 := sl_len text
  have hll9 := layIs_len kids
  have CH := Lib.hid (fun W vr l m n (h : Wtr W B g vr l) hB hl hm hn => head_calls g vr l W B h hB hl m n hm hn)
  obtain ⟨f0, f1, f2, f3, f4, l0⟩ := hxa
  have hndn : ∀ q, needN q ≤ 8 := needN_le
  have HLY : Hid (bs ++ layI (.mk 7 n ys text kids) = (bs ++ headB 6 n) ++ layIs kids) := by
    show _ = _
    have e : layI (.mk 7 n ys text kids) = (headB 6 n) ++ layIs kids := by simp [layI]
    rw [e]
    simp only [List.append_assoc, List.cons_append, List.nil_append]
  have HM : Hid ((bs ++ headB 6 n).length + 9 * (kids.drop 0).wt ≤ bs.length + 9 * T) := by
    show _ ≤ _
    have e : kids.drop 0 = kids := by cases kids <;> rfl
    rw [e]
    simp only [List.length_append, headB_len, List.length_cons, List.length_nil, List.length_reverse, leBytes_length]
    have := hndn (n)
    have := hndn (ys.length)
    have := hndn (text.size)
    have := hndn (kids.len)
    have := hndn (kids.len / 2)
    omega
  clear hwta hba hok hrm hks hbs hkl
  go_enter Try.func23, Try.ntmps23
  go_upto_region 1 with fail
  rw [← hwa, ← hgb]
  clear hwa hgb
  go_wp2_with fail
  refine (CH.out wa v bs 6 n HGOa.out.1 (Nat.le_trans hBa HGOa.out.2.1.size) (by omega) (by omega) (by exact hnx)).mono ?_
  rintro e w2 ⟨rfl, hst⟩
  obtain ⟨v2, hgo⟩ := HGOa.out.step hst
  have HGO2 := Lib.hid hgo
  have HX2 := Lib.hid (HXa.out.chg hgo.2.1 (fun e => HNG.out e))
  clear hst hgo
  clear f0 f1 f2 f3 f4 l0
  obtain ⟨f0, f1, f2, f3, f4, l0⟩ := HX2.out
  go_upto_region 25 with fail
  go_loopw [84] (fun i wr => LRel wa B g v ((bs ++ headB 6 n) ++ layIs kids) kids (bs.length + 9 * T) i wr) (fun i _ => nk - (intOf i).toNat)
  case atStart => exact ⟨0, v2, (bs ++ headB 6 n), rfl, Nat.zero_le _, by show _ = _; simp [IL.drop], HGO2.out, HM.out⟩
  case round =>
    obtain ⟨j, vr, cur, rfl, hj, htot, hgo, hM⟩ := hrel
    rw [HKL.out] at hj
    have HGO := Lib.hid hgo
    have hz := hgo.2.1.size
    have HX := Lib.hid (HXa.out.chg hgo.2.1 (fun e => HNG.out e))
    have hB0 : Below w0.heap.size w0 wr := HGO.out.under HWTa.out HW0a.out hwB hwg
    clear hgo HGO2
    by_cases hlt : j < nk
    · obtain ⟨x, hx⟩ := IL.get_some kids j (by rw [HKL.out]; exact hlt)
      have hwg2 := IL.wt_get kids j x hx
      have hst := layIs_step kids j x hx
      have hll := layI_len x
      have hdw := IL.drop_wt kids j
      obtain ⟨b, o, k', n', bs', text', kids', ab', nb', cb', ak', nk', ck', hab, hxe, hblt, hxr, h0, h1, h2, h3, h4⟩ := (HKS.out.at hx).cells
      subst hab
      obtain ⟨w5, hw5⟩ : ∃ W, W = wr.alloc (.cells #[.int .i64 k', .int .u64 (n' : Nat), .slice ab' nb' cb', .string text', .slice ak' nk' ck'] 26) := ⟨_, rfl⟩
      obtain ⟨g5, hg5⟩ : ∃ q, q = wr.heap.size := ⟨_, rfl⟩
      have h5b : Below wr.heap.size wr w5 := by rw [hw5]; exact (Below.refl _ _).alloc (Nat.le_refl _) _
      have hx5 : ItBx w5 g5 k' n' ab' nb' cb' text' ak' nk' ck' := by rw [hw5, hg5]; exact ItBx.new _ _ _ _ _ _ _ _ _ _ _
      have CL := Lib.hid (hof x (by omega) (errIs_get kids j x her hx) w0 w5 B g vr cur _ hxr (hB0.trans (h5b.mono hB0.size)) hwB hwg (HGO.out.below h5b).1 (Nat.le_trans (Nat.le_trans hBa hz) h5b.size) (by omega))
      have y0 : wr.cell? ⟨b, o + j * 5, none⟩ = some (.int .i64 k') := cell_below hB0 h0
      have y1 : wr.cell? ⟨b, o + j * 5 + 1, none⟩ = some (.int .u64 (n' : Nat)) := cell_below hB0 h1
      have y2 : wr.cell? ⟨b, o + j * 5 + 2, none⟩ = some (.slice ab' nb' cb') := cell_below hB0 h2
      have y3 : wr.cell? ⟨b, o + j * 5 + 3, none⟩ = some (.string text') := cell_below hB0 h3
      have y4 : wr.cell? ⟨b, o + j * 5 + 4, none⟩ = some (.slice ak' nk' ck') := cell_below hB0 h4
      have hj0 : (0 : Int) ≤ (j : Int) := by omega
      have hj1 : (j : Int) < (nk : Int) := by omega
      have wj : IntKind.i64.wrap ((j : Int) + 1) = ((j + 1 : Nat) : Int) := (IntWalk.i64_in _ (by omega)).trans (by omega)
      obtain ⟨j1, hj1e⟩ : ∃ q, q = j + 1 := ⟨_, rfl⟩
      rw [← hj1e] at wj
      have HREL : Hid ((bs ++ headB 6 n) ++ layIs kids = (cur ++ layI x) ++ layIs (kids.drop j1)) := by show _ = _; rw [htot.out, hst, hj1e]; simp
      have HMM : Hid ((cur ++ layI x).length + 9 * (kids.drop j1).wt ≤ bs.length + 9 * T) := by show _ ≤ _; rw [hj1e, List.length_append]; omega
      have HJ : Hid (j1 = j + 1) := hj1e
      have H5 := Lib.hid h5b
      have HXe := Lib.hid hxe
      clear hx hwg2 hst hxr h0 h1 h2 h3 h4 hxe h5b hj1e htot hM hdw hll hB0
      go_upto_region 27 with fail
      rw [← hw5, ← hg5]
      clear hw5 hg5
      obtain ⟨e0, e1, e2, e3, e4, l1⟩ := hx5
      go_wp2_with fail
      refine CL.out.mono ?_
      rintro e w6 ⟨rfl, hst⟩
      obtain ⟨v6, hgo6⟩ := (HGO.out.below H5.out).step hst
      have HGO6 := Lib.hid hgo6
      clear hst hgo6 e0 e1 e2 e3 e4 l1 y0 y1 y2 y3 y4
      go_wp2_with fail
      go_roundw
      case rel => exact ⟨j1, v6, cur ++ layI x, rfl, by rw [HKL.out, HJ.out]; omega, HREL.out, HGO6.out, HMM.out⟩
      case measure => have := HJ.out; simp [intOf]; omega
    · have hend := layIs_end kids j (by rw [HKL.out]; omega)
      have HT : Hid (cur = (bs ++ headB 6 n) ++ layIs kids) := by show _ = _; rw [htot.out, hend, List.append_nil]
      have hlt2 : ¬ (j : Int) < (nk : Int) := by omega
      clear htot hM hend
      go_wp2_with fail
      go_end0
      refine ⟨rfl, ?_⟩
      rw [HLY.out, ← HT.out]
      exact WStep.trans (Chg.of_below HBA.out) (fun k hk => .inl hk) HGO.out.wstep

set_option maxRecDepth 100000 in
set_option maxHeartbeats 8000000 in
theorem lay_8 (d : Nat) (hof : LaySaid d) (n : Nat) (ys : List UInt8) (text : ByteArray) (kids : IL) (hd : I.wt (.mk 8 n ys text kids) ≤ d + 1) (her : errIs kids = 0) (hd9 : d ≤ 1000000) (w0 w : World) (B g : Nat) (v : Value) (bs : List UInt8) (c : Array Value) (hr : RdIt (fun _ => True) w0 (.mk 8 n ys text kids) c) (hw0 : Below w0.heap.size w0 w) (hwB : w0.heap.size ≤ B) (hwg : w0.heap.size ≤ g) (hwt : Wtr w B g v bs) (hBw : B ≤ w.heap.size) (hbl : bs.length + 9 * I.wt (.mk 8 n ys text kids) ≤ 80000000) :
    Calls Try.prog 23 #[.pointer (some ⟨g, 0, none⟩), .agg c] w fun e w' => e = .returned (.tuple #[]) ∧ WStep w B g v (bs ++ layI (.mk 8 n ys text kids)) w' := by
  obtain ⟨T, hT⟩ : ∃ q, q = I.wt (.mk 8 n ys text kids) := ⟨_, rfl⟩
  rw [← hT] at hd hbl
  simp only [I.wt] at hT
  obtain ⟨ab, nb, cb, ak, nk, ck, rfl, hok, hbs, hkl, hrm, hks⟩ := hr
  obtain ⟨wa, hwa⟩ : ∃ W, W = w.alloc (.cells #[.int .i64 8, .int .u64 (n : Nat), .slice ab nb cb, .string text, .slice ak nk ck] 26) := ⟨_, rfl⟩
  obtain ⟨gb, hgb⟩ : ∃ q, q = w.heap.size := ⟨_, rfl⟩
  have hba : Below w.heap.size w wa := by rw [hwa]; exact (Below.refl _ _).alloc (Nat.le_refl _) _
  have hxa : ItBx wa gb 8 n ab nb cb text ak nk ck := by rw [hwa, hgb]; exact ItBx.new _ _ _ _ _ _ _ _ _ _ _
  have hgw : g < w.heap.size := by simpa using cell_block hwt.1
  have hwta := hwt.below hba
  have HGOa := Lib.hid (WGo.refl hwta)
  have HWTa := Lib.hid hwta
  have HBA := Lib.hid hba
  have HXa := Lib.hid hxa
  have HNG : Hid (¬ (gb = g ∨ v.ownBlock = some gb)) := by
    show ¬ _
    rintro (e | e)
    · omega
    · have := (owns_lt hwt.2.2.1 gb e).2; omega
  have HW0a : Hid (Below w0.heap.size w0 wa) := hw0.trans (hba.mono hw0.size)
  have hBa : B ≤ wa.heap.size := Nat.le_trans hBw hba.size
  have HKS := Lib.hid hks
  have HKL := Lib.hid hkl
  have HBS := Lib.hid hbs
  have HRM := Lib.hid hrm
  have hnk := hrm.1
  have hnx : n < 18446744073709551616 := hok.2.1
  have hkw := IL.len_wt kids
  have hyl : ys.length = nb := hbs.1.1
  have hst9 := sl_len text
  have hll9 := layIs_len kids
  have CH := Lib.hid (fun W vr l m n (h : Wtr W B g vr l) hB hl hm hn => head_calls g vr l W B h hB hl m n hm hn)
  obtain ⟨f0, f1, f2, f3, f4, l0⟩ := hxa
  have hndn : ∀ q, needN q ≤ 8 := needN_le
  have HLY : Hid (bs ++ layI (.mk 8 n ys text kids) = (bs ++ headB 7 n) ++ layIs kids) := by
    show _ = _
    have e : layI (.mk 8 n ys text kids) = (headB 7 n) ++ layIs kids := by simp [layI]
    rw [e]
    simp only [List.append_assoc, List.cons_append, List.nil_append]
  have HM : Hid ((bs ++ headB 7 n).length + 9 * (kids.drop 0).wt ≤ bs.length + 9 * T) := by
    show _ ≤ _
    have e : kids.drop 0 = kids := by cases kids <;> rfl
    rw [e]
    simp only [List.length_append, headB_len, List.length_cons, List.length_nil, List.length_reverse, leBytes_length]
    have := hndn (n)
    have := hndn (ys.length)
    have := hndn (text.size)
    have := hndn (kids.len)
    have := hndn (kids.len / 2)
    omega
  clear hwta hba hok hrm hks hbs hkl
  go_enter Try.func23, Try.ntmps23
  go_upto_region 1 with fail
  rw [← hwa, ← hgb]
  clear hwa hgb
  go_wp2_with fail
  refine (CH.out wa v bs 7 n HGOa.out.1 (Nat.le_trans hBa HGOa.out.2.1.size) (by omega) (by omega) (by exact hnx)).mono ?_
  rintro e w2 ⟨rfl, hst⟩
  obtain ⟨v2, hgo⟩ := HGOa.out.step hst
  have HGO2 := Lib.hid hgo
  have HX2 := Lib.hid (HXa.out.chg hgo.2.1 (fun e => HNG.out e))
  clear hst hgo
  clear f0 f1 f2 f3 f4 l0
  obtain ⟨f0, f1, f2, f3, f4, l0⟩ := HX2.out
  go_upto_region 25 with fail
  go_loopw [84] (fun i wr => LRel wa B g v ((bs ++ headB 7 n) ++ layIs kids) kids (bs.length + 9 * T) i wr) (fun i _ => nk - (intOf i).toNat)
  case atStart => exact ⟨0, v2, (bs ++ headB 7 n), rfl, Nat.zero_le _, by show _ = _; simp [IL.drop], HGO2.out, HM.out⟩
  case round =>
    obtain ⟨j, vr, cur, rfl, hj, htot, hgo, hM⟩ := hrel
    rw [HKL.out] at hj
    have HGO := Lib.hid hgo
    have hz := hgo.2.1.size
    have HX := Lib.hid (HXa.out.chg hgo.2.1 (fun e => HNG.out e))
    have hB0 : Below w0.heap.size w0 wr := HGO.out.under HWTa.out HW0a.out hwB hwg
    clear hgo HGO2
    by_cases hlt : j < nk
    · obtain ⟨x, hx⟩ := IL.get_some kids j (by rw [HKL.out]; exact hlt)
      have hwg2 := IL.wt_get kids j x hx
      have hst := layIs_step kids j x hx
      have hll := layI_len x
      have hdw := IL.drop_wt kids j
      obtain ⟨b, o, k', n', bs', text', kids', ab', nb', cb', ak', nk', ck', hab, hxe, hblt, hxr, h0, h1, h2, h3, h4⟩ := (HKS.out.at hx).cells
      subst hab
      obtain ⟨w5, hw5⟩ : ∃ W, W = wr.alloc (.cells #[.int .i64 k', .int .u64 (n' : Nat), .slice ab' nb' cb', .string text', .slice ak' nk' ck'] 26) := ⟨_, rfl⟩
      obtain ⟨g5, hg5⟩ : ∃ q, q = wr.heap.size := ⟨_, rfl⟩
      have h5b : Below wr.heap.size wr w5 := by rw [hw5]; exact (Below.refl _ _).alloc (Nat.le_refl _) _
      have hx5 : ItBx w5 g5 k' n' ab' nb' cb' text' ak' nk' ck' := by rw [hw5, hg5]; exact ItBx.new _ _ _ _ _ _ _ _ _ _ _
      have CL := Lib.hid (hof x (by omega) (errIs_get kids j x her hx) w0 w5 B g vr cur _ hxr (hB0.trans (h5b.mono hB0.size)) hwB hwg (HGO.out.below h5b).1 (Nat.le_trans (Nat.le_trans hBa hz) h5b.size) (by omega))
      have y0 : wr.cell? ⟨b, o + j * 5, none⟩ = some (.int .i64 k') := cell_below hB0 h0
      have y1 : wr.cell? ⟨b, o + j * 5 + 1, none⟩ = some (.int .u64 (n' : Nat)) := cell_below hB0 h1
      have y2 : wr.cell? ⟨b, o + j * 5 + 2, none⟩ = some (.slice ab' nb' cb') := cell_below hB0 h2
      have y3 : wr.cell? ⟨b, o + j * 5 + 3, none⟩ = some (.string text') := cell_below hB0 h3
      have y4 : wr.cell? ⟨b, o + j * 5 + 4, none⟩ = some (.slice ak' nk' ck') := cell_below hB0 h4
      have hj0 : (0 : Int) ≤ (j : Int) := by omega
      have hj1 : (j : Int) < (nk : Int) := by omega
      have wj : IntKind.i64.wrap ((j : Int) + 1) = ((j + 1 : Nat) : Int) := (IntWalk.i64_in _ (by omega)).trans (by omega)
      obtain ⟨j1, hj1e⟩ : ∃ q, q = j + 1 := ⟨_, rfl⟩
      rw [← hj1e] at wj
      have HREL : Hid ((bs ++ headB 7 n) ++ layIs kids = (cur ++ layI x) ++ layIs (kids.drop j1)) := by show _ = _; rw [htot.out, hst, hj1e]; simp
      have HMM : Hid ((cur ++ layI x).length + 9 * (kids.drop j1).wt ≤ bs.length + 9 * T) := by show _ ≤ _; rw [hj1e, List.length_append]; omega
      have HJ : Hid (j1 = j + 1) := hj1e
      have H5 := Lib.hid h5b
      have HXe := Lib.hid hxe
      clear hx hwg2 hst hxr h0 h1 h2 h3 h4 hxe h5b hj1e htot hM hdw hll hB0
      go_upto_region 27 with fail
      rw [← hw5, ← hg5]
      clear hw5 hg5
      obtain ⟨e0, e1, e2, e3, e4, l1⟩ := hx5
      go_wp2_with fail
      refine CL.out.mono ?_
      rintro e w6 ⟨rfl, hst⟩
      obtain ⟨v6, hgo6⟩ := (HGO.out.below H5.out).step hst
      have HGO6 := Lib.hid hgo6
      clear hst hgo6 e0 e1 e2 e3 e4 l1 y0 y1 y2 y3 y4
      go_wp2_with fail
      go_roundw
      case rel => exact ⟨j1, v6, cur ++ layI x, rfl, by rw [HKL.out, HJ.out]; omega, HREL.out, HGO6.out, HMM.out⟩
      case measure => have := HJ.out; simp [intOf]; omega
    · have hend := layIs_end kids j (by rw [HKL.out]; omega)
      have HT : Hid (cur = (bs ++ headB 7 n) ++ layIs kids) := by show _ = _; rw [htot.out, hend, List.append_nil]
      have hlt2 : ¬ (j : Int) < (nk : Int) := by omega
      clear htot hM hend
      go_wp2_with fail
      go_end0
      refine ⟨rfl, ?_⟩
      rw [HLY.out, ← HT.out]
      exact WStep.trans (Chg.of_below HBA.out) (fun k hk => .inl hk) HGO.out.wstep

set_option maxRecDepth 100000 in
set_option maxHeartbeats 8000000 in
theorem lay_9 (d : Nat) (hof : LaySaid d) (n : Nat) (ys : List UInt8) (text : ByteArray) (kids : IL) (hd : I.wt (.mk 9 n ys text kids) ≤ d + 1) (her : errIs kids = 0) (hd9 : d ≤ 1000000) (w0 w : World) (B g : Nat) (v : Value) (bs : List UInt8) (c : Array Value) (hr : RdIt (fun _ => True) w0 (.mk 9 n ys text kids) c) (hw0 : Below w0.heap.size w0 w) (hwB : w0.heap.size ≤ B) (hwg : w0.heap.size ≤ g) (hwt : Wtr w B g v bs) (hBw : B ≤ w.heap.size) (hbl : bs.length + 9 * I.wt (.mk 9 n ys text kids) ≤ 80000000) :
    Calls Try.prog 23 #[.pointer (some ⟨g, 0, none⟩), .agg c] w fun e w' => e = .returned (.tuple #[]) ∧ WStep w B g v (bs ++ layI (.mk 9 n ys text kids)) w' := by
  obtain ⟨T, hT⟩ : ∃ q, q = I.wt (.mk 9 n ys text kids) := ⟨_, rfl⟩
  rw [← hT] at hd hbl
  simp only [I.wt] at hT
  obtain ⟨ab, nb, cb, ak, nk, ck, rfl, hok, hbs, hkl, hrm, hks⟩ := hr
  obtain ⟨wa, hwa⟩ : ∃ W, W = w.alloc (.cells #[.int .i64 9, .int .u64 (n : Nat), .slice ab nb cb, .string text, .slice ak nk ck] 26) := ⟨_, rfl⟩
  obtain ⟨gb, hgb⟩ : ∃ q, q = w.heap.size := ⟨_, rfl⟩
  have hba : Below w.heap.size w wa := by rw [hwa]; exact (Below.refl _ _).alloc (Nat.le_refl _) _
  have hxa : ItBx wa gb 9 n ab nb cb text ak nk ck := by rw [hwa, hgb]; exact ItBx.new _ _ _ _ _ _ _ _ _ _ _
  have hgw : g < w.heap.size := by simpa using cell_block hwt.1
  have hwta := hwt.below hba
  have HGOa := Lib.hid (WGo.refl hwta)
  have HWTa := Lib.hid hwta
  have HBA := Lib.hid hba
  have HXa := Lib.hid hxa
  have HNG : Hid (¬ (gb = g ∨ v.ownBlock = some gb)) := by
    show ¬ _
    rintro (e | e)
    · omega
    · have := (owns_lt hwt.2.2.1 gb e).2; omega
  have HW0a : Hid (Below w0.heap.size w0 wa) := hw0.trans (hba.mono hw0.size)
  have hBa : B ≤ wa.heap.size := Nat.le_trans hBw hba.size
  have HKS := Lib.hid hks
  have HKL := Lib.hid hkl
  have HBS := Lib.hid hbs
  have HRM := Lib.hid hrm
  have hnk := hrm.1
  have hnx : n < 18446744073709551616 := hok.2.1
  have hkw := IL.len_wt kids
  have hyl : ys.length = nb := hbs.1.1
  have hst9 := sl_len text
  have hll9 := layIs_len kids
  have CH := Lib.hid (fun W vr l m n (h : Wtr W B g vr l) hB hl hm hn => head_calls g vr l W B h hB hl m n hm hn)
  obtain ⟨f0, f1, f2, f3, f4, l0⟩ := hxa
  have hndn : ∀ q, needN q ≤ 8 := needN_le
  have HLY : Hid (bs ++ layI (.mk 9 n ys text kids) = (bs ++ [251] ++ (leBytes 8 n).reverse) ++ layIs kids) := by
    show _ = _
    have e : layI (.mk 9 n ys text kids) = ([251] ++ (leBytes 8 n).reverse) ++ layIs kids := by simp [layI]
    rw [e]
    simp only [List.append_assoc, List.cons_append, List.nil_append]
  have HM : Hid ((bs ++ [251] ++ (leBytes 8 n).reverse).length + 9 * (kids.drop 0).wt ≤ bs.length + 9 * T) := by
    show _ ≤ _
    have e : kids.drop 0 = kids := by cases kids <;> rfl
    rw [e]
    simp only [List.length_append, headB_len, List.length_cons, List.length_nil, List.length_reverse, leBytes_length]
    have := hndn (n)
    have := hndn (ys.length)
    have := hndn (text.size)
    have := hndn (kids.len)
    have := hndn (kids.len / 2)
    omega
  clear hwta hba hok hrm hks hbs hkl
  have CB := Lib.hid (wbyte_calls g v bs wa B HGOa.out.1 hBa (by omega) 251)
  go_enter Try.func23, Try.ntmps23
  go_upto_region 1 with fail
  rw [← hwa, ← hgb]
  clear hwa hgb
  go_wp2_with fail
  refine CB.out.mono ?_
  rintro e w2 ⟨rfl, hst⟩
  rw [show UInt8.ofNat ((251 : Int) % 256).toNat = 251 from rfl] at hst
  obtain ⟨v2, hgo⟩ := HGOa.out.step hst
  have HGO2 := Lib.hid hgo
  have HX2 := Lib.hid (HXa.out.chg hgo.2.1 (fun e => HNG.out e))
  clear hst hgo CB
  clear f0 f1 f2 f3 f4 l0
  obtain ⟨f0, f1, f2, f3, f4, l0⟩ := HX2.out
  have CH8 : Hid (Calls Try.prog 40 #[.pointer (some ⟨g, 0, none⟩), .int .u64 (n : Nat), .int .i64 8] w2 fun e w' => e = .returned (.tuple #[]) ∧ WStep w2 B g v2 (bs ++ [251] ++ (leBytes 8 n).reverse) w') := whigh_yes g v2 (bs ++ [251]) w2 B HGO2.out.1 (Nat.le_trans hBa HGO2.out.2.1.size) (by simp; omega) n 8 hnx (by omega) (by omega)
  go_wp2_with fail
  refine CH8.out.mono ?_
  rintro e w3 ⟨rfl, hst⟩
  obtain ⟨v3, hgo⟩ := HGO2.out.step hst
  have HGO3 := Lib.hid hgo
  have HX3 := Lib.hid (HXa.out.chg hgo.2.1 (fun e => HNG.out e))
  clear hst hgo CH8
  clear f0 f1 f2 f3 f4 l0
  obtain ⟨f0, f1, f2, f3, f4, l0⟩ := HX3.out
  go_upto_region 25 with fail
  go_loopw [84] (fun i wr => LRel wa B g v ((bs ++ [251] ++ (leBytes 8 n).reverse) ++ layIs kids) kids (bs.length + 9 * T) i wr) (fun i _ => nk - (intOf i).toNat)
  case atStart => exact ⟨0, v3, (bs ++ [251] ++ (leBytes 8 n).reverse), rfl, Nat.zero_le _, by show _ = _; simp [IL.drop], HGO3.out, HM.out⟩
  case round =>
    obtain ⟨j, vr, cur, rfl, hj, htot, hgo, hM⟩ := hrel
    rw [HKL.out] at hj
    have HGO := Lib.hid hgo
    have hz := hgo.2.1.size
    have HX := Lib.hid (HXa.out.chg hgo.2.1 (fun e => HNG.out e))
    have hB0 : Below w0.heap.size w0 wr := HGO.out.under HWTa.out HW0a.out hwB hwg
    clear hgo HGO3
    by_cases hlt : j < nk
    · obtain ⟨x, hx⟩ := IL.get_some kids j (by rw [HKL.out]; exact hlt)
      have hwg2 := IL.wt_get kids j x hx
      have hst := layIs_step kids j x hx
      have hll := layI_len x
      have hdw := IL.drop_wt kids j
      obtain ⟨b, o, k', n', bs', text', kids', ab', nb', cb', ak', nk', ck', hab, hxe, hblt, hxr, h0, h1, h2, h3, h4⟩ := (HKS.out.at hx).cells
      subst hab
      obtain ⟨w5, hw5⟩ : ∃ W, W = wr.alloc (.cells #[.int .i64 k', .int .u64 (n' : Nat), .slice ab' nb' cb', .string text', .slice ak' nk' ck'] 26) := ⟨_, rfl⟩
      obtain ⟨g5, hg5⟩ : ∃ q, q = wr.heap.size := ⟨_, rfl⟩
      have h5b : Below wr.heap.size wr w5 := by rw [hw5]; exact (Below.refl _ _).alloc (Nat.le_refl _) _
      have hx5 : ItBx w5 g5 k' n' ab' nb' cb' text' ak' nk' ck' := by rw [hw5, hg5]; exact ItBx.new _ _ _ _ _ _ _ _ _ _ _
      have CL := Lib.hid (hof x (by omega) (errIs_get kids j x her hx) w0 w5 B g vr cur _ hxr (hB0.trans (h5b.mono hB0.size)) hwB hwg (HGO.out.below h5b).1 (Nat.le_trans (Nat.le_trans hBa hz) h5b.size) (by omega))
      have y0 : wr.cell? ⟨b, o + j * 5, none⟩ = some (.int .i64 k') := cell_below hB0 h0
      have y1 : wr.cell? ⟨b, o + j * 5 + 1, none⟩ = some (.int .u64 (n' : Nat)) := cell_below hB0 h1
      have y2 : wr.cell? ⟨b, o + j * 5 + 2, none⟩ = some (.slice ab' nb' cb') := cell_below hB0 h2
      have y3 : wr.cell? ⟨b, o + j * 5 + 3, none⟩ = some (.string text') := cell_below hB0 h3
      have y4 : wr.cell? ⟨b, o + j * 5 + 4, none⟩ = some (.slice ak' nk' ck') := cell_below hB0 h4
      have hj0 : (0 : Int) ≤ (j : Int) := by omega
      have hj1 : (j : Int) < (nk : Int) := by omega
      have wj : IntKind.i64.wrap ((j : Int) + 1) = ((j + 1 : Nat) : Int) := (IntWalk.i64_in _ (by omega)).trans (by omega)
      obtain ⟨j1, hj1e⟩ : ∃ q, q = j + 1 := ⟨_, rfl⟩
      rw [← hj1e] at wj
      have HREL : Hid ((bs ++ [251] ++ (leBytes 8 n).reverse) ++ layIs kids = (cur ++ layI x) ++ layIs (kids.drop j1)) := by show _ = _; rw [htot.out, hst, hj1e]; simp
      have HMM : Hid ((cur ++ layI x).length + 9 * (kids.drop j1).wt ≤ bs.length + 9 * T) := by show _ ≤ _; rw [hj1e, List.length_append]; omega
      have HJ : Hid (j1 = j + 1) := hj1e
      have H5 := Lib.hid h5b
      have HXe := Lib.hid hxe
      clear hx hwg2 hst hxr h0 h1 h2 h3 h4 hxe h5b hj1e htot hM hdw hll hB0
      go_upto_region 27 with fail
      rw [← hw5, ← hg5]
      clear hw5 hg5
      obtain ⟨e0, e1, e2, e3, e4, l1⟩ := hx5
      go_wp2_with fail
      refine CL.out.mono ?_
      rintro e w6 ⟨rfl, hst⟩
      obtain ⟨v6, hgo6⟩ := (HGO.out.below H5.out).step hst
      have HGO6 := Lib.hid hgo6
      clear hst hgo6 e0 e1 e2 e3 e4 l1 y0 y1 y2 y3 y4
      go_wp2_with fail
      go_roundw
      case rel => exact ⟨j1, v6, cur ++ layI x, rfl, by rw [HKL.out, HJ.out]; omega, HREL.out, HGO6.out, HMM.out⟩
      case measure => have := HJ.out; simp [intOf]; omega
    · have hend := layIs_end kids j (by rw [HKL.out]; omega)
      have HT : Hid (cur = (bs ++ [251] ++ (leBytes 8 n).reverse) ++ layIs kids) := by show _ = _; rw [htot.out, hend, List.append_nil]
      have hlt2 : ¬ (j : Int) < (nk : Int) := by omega
      clear htot hM hend
      go_wp2_with fail
      go_end0
      refine ⟨rfl, ?_⟩
      rw [HLY.out, ← HT.out]
      exact WStep.trans (Chg.of_below HBA.out) (fun k hk => .inl hk) HGO.out.wstep

end Go.Proofs.Ytambhapgjonmmaa
