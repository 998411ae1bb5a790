/- cbor: what is wrong of an item; its bytes. -/
import Derived.Test.YtambhapgjonmmaaCbF
import Derived.Test.YtambhapgjonmmaaCbM1
import Derived.Test.YtambhapgjonmmaaCbM2
import Derived.Test.YtambhapgjonmmaaCbM3
import Derived.Test.YtambhapgjonmmaaUtf9
namespace Go.Proofs.Ytambhapgjonmmaa
open Go.RowKit
set_option linter.unusedVariables false
set_option linter.unusedSimpArgs false

def ChkSaid (d : Nat) : Prop := ∀ x : I, x.wt ≤ d → ∀ (w : World) (c : Array Value), RdIt (fun _ => True) w x c → Calls Try.prog 13 #[.agg c] w fun e w' => e = .returned (.int .i64 (errI x : Nat)) ∧ Below w.heap.size w w'
def CRel (wa : World) (kids : IL) (i : Value) (wr : World) : Prop := ∃ j : Nat, i = .int .i64 j ∧ j ≤ kids.len ∧ Hid (errIs kids = errIs (kids.drop j)) ∧ Below wa.heap.size wa wr

set_option maxRecDepth 100000 in
set_option maxHeartbeats 8000000 in
theorem chk_step (d : Nat) (hd9 : d ≤ 1000000) (hof : ChkSaid d) : ChkSaid (d + 1) := by
  intro x hd w c hr
  obtain ⟨k, n, ys, text, kids⟩ := x
  simp only [I.wt] at hd
  obtain ⟨ab, nb, cb, ak, nk, ck, rfl, hok, hbs, hkl, hrm, hks⟩ := hr
  obtain ⟨wa, hwa⟩ : ∃ W, W = w.alloc (.cells #[.int .i64 k, .int .u64 (n : Nat), .slice ab nb cb, .string text, .slice ak nk ck] 26) := ⟨_, rfl⟩
  obtain ⟨gb, hgb⟩ : ∃ q, q = w.heap.size := ⟨_, rfl⟩
  have hba : Below w.heap.size w wa := by rw [hwa]; exact (Below.refl _ _).alloc (Nat.le_refl _) _
  have hxa : ItBx wa gb k n ab nb cb text ak nk ck := by rw [hwa, hgb]; exact ItBx.new _ _ _ _ _ _ _ _ _ _ _
  have HXa := Lib.hid hxa
  have HBA := Lib.hid hba
  have HKS : Hid (RdIs (fun _ => True) wa ak 0 kids) := hks.below hba
  have HKL := Lib.hid hkl
  have hyl : ys.length = nb := hbs.1.1
  have hnk := hrm.1
  have hkw := IL.len_wt kids
  have hnb9 : nb ≤ 9223372036854775807 := hbs.1.2.1
  have HE : Hid (errI (.mk k n ys text kids) = if k < 1 ∨ 9 < k then 5 else if fieldsB k n nb text.size nk = false then 1 else if (wholeTo (sl text) == text.size) = false then 4 else errIs kids) := by
    show _ = _
    simp only [errI]
    rw [hyl, hkl]
  obtain ⟨f0, f1, f2, f3, f4, l0⟩ := hxa
  clear hba hok hbs hrm hks hyl
  by_cases hk : k < 1 ∨ 9 < k
  · have HR : Hid (errI (.mk k n ys text kids) = 5) := by show _ = _; rw [HE.out, if_pos hk]
    rcases hk with hk | hk
    · have d0 : decide (k < 1) = true := by simpa using hk
      clear hkl
      go_enter Try.func13, Try.ntmps13
      go_upto_region 1 with fail
      rw [← hwa, ← hgb]
      clear hwa hgb
      go_wp2_with fail
      go_ret
      exact ⟨by rw [HR.out]; rfl, HBA.out⟩
    · have d0 : decide (k < 1) = false := by simp; omega
      have d1 : decide (9 < k) = true := by simpa using hk
      clear hkl
      go_enter Try.func13, Try.ntmps13
      go_upto_region 1 with fail
      rw [← hwa, ← hgb]
      clear hwa hgb
      go_wp2_with fail
      go_ret
      exact ⟨by rw [HR.out]; rfl, HBA.out⟩
  have d0 : decide (k < 1) = false := by simp; omega
  have d1 : decide (9 < k) = false := by simp; omega
  have CF := Lib.hid (fun W => fields_calls k (by omega) n ab nb cb text ak nk ck hnb9 hnk W)
  have hE2 := HE.out
  rw [if_neg hk] at hE2
  go_enter Try.func13, Try.ntmps13
  go_upto_region 1 with fail
  rw [← hwa, ← hgb]
  clear hwa hgb HE
  go_wp2_with fail
  refine (CF.out _).mono ?_
  rintro e w1 ⟨rfl, hb1⟩
  have HB1 := Lib.hid hb1
  have HX1 := Lib.hid (HXa.out.keep hb1)
  clear hb1
  clear f0 f1 f2 f3 f4 l0
  obtain ⟨f0, f1, f2, f3, f4, l0⟩ := HX1.out
  cases hf : fieldsB k n nb text.size nk with
  | false =>
    have HR : Hid (errI (.mk k n ys text kids) = 1) := by show _ = _; rw [hE2, if_pos hf]
    clear hkl hE2 hf
    go_wp2_with fail
    go_ret
    exact ⟨by rw [HR.out]; rfl, HBA.out.trans (HB1.out.mono HBA.out.size)⟩
  | true =>
  rw [if_neg (by rw [hf]; simp)] at hE2
  clear hf
  obtain ⟨cap3, w3, hrun, hb3, hs3, hr3, hc3, -⟩ := conv_bytes w1 text (by omega)
  have CC := Lib.hid (check_calls (some ⟨w1.heap.size, 0, none⟩) text.size cap3 w3 (sl text) hr3)
  have HX3 := Lib.hid (HX1.out.keep hb3)
  have HB3 : Hid (Below wa.heap.size wa w3) := HB1.out.trans (hb3.mono HB1.out.size)
  generalize wholeTo (sl text) = wt9 at CC hE2
  clear hb3 hs3 hr3 hc3
  go_wp2_with fail
  refine CC.out.mono ?_
  rintro e w4 ⟨rfl, rfl⟩
  clear hrun
  clear f0 f1 f2 f3 f4 l0
  obtain ⟨f0, f1, f2, f3, f4, l0⟩ := HX3.out
  cases hw : (wt9 == text.size) with
  | false =>
    have HR : Hid (errI (.mk k n ys text kids) = 4) := by show _ = _; rw [hE2, if_pos hw]
    clear hkl hE2 hw
    go_wp2_with fail
    go_ret
    exact ⟨by rw [HR.out]; rfl, HBA.out.trans (HB3.out.mono HBA.out.size)⟩
  | true =>
  have HR : Hid (errI (.mk k n ys text kids) = errIs kids) := by show _ = _; rw [hE2, if_neg (by rw [hw]; simp)]
  clear hkl hE2 hw CC
  go_upto_region 9 with fail
  go_loopw [31] (fun i wr => CRel wa kids i wr) (fun i _ => nk - (intOf i).toNat)
  case atStart => exact ⟨0, rfl, Nat.zero_le _, by show _ = _; cases kids <;> rfl, HB3.out⟩
  case round =>
    obtain ⟨j, rfl, hj, herr, hbl⟩ := hrel
    rw [HKL.out] at hj
    have HBL := Lib.hid hbl
    have HX := Lib.hid (HXa.out.keep hbl)
    by_cases hlt : j < nk
    · obtain ⟨x, hx⟩ := IL.get_some kids j (by rw [HKL.out]; exact hlt)
      have hwg2 := IL.wt_get kids j x hx
      have hst := errIs_step kids j x hx
      obtain ⟨b, o, k', n', bs', text', kids', ab', nb', cb', ak', nk', ck', hab, hxe, hblt, hxr, h0, h1, h2, h3, h4⟩ := (HKS.out.at hx).cells
      subst hab
      obtain ⟨w5, hw5⟩ : ∃ W, W = wr.alloc (.cells #[.int .i64 k', .int .u64 (n' : Nat), .slice ab' nb' cb', .string text', .slice ak' nk' ck'] 26) := ⟨_, rfl⟩
      obtain ⟨g5, hg5⟩ : ∃ q, q = wr.heap.size := ⟨_, rfl⟩
      have h5b : Below wr.heap.size wr w5 := by rw [hw5]; exact (Below.refl _ _).alloc (Nat.le_refl _) _
      have hx5 : ItBx w5 g5 k' n' ab' nb' cb' text' ak' nk' ck' := by rw [hw5, hg5]; exact ItBx.new _ _ _ _ _ _ _ _ _ _ _
      have hB5 : Below wa.heap.size wa w5 := hbl.trans (h5b.mono hbl.size)
      have CL := Lib.hid (hof x (by omega) w5 _ (hxr.below hB5))
      have HB5 := Lib.hid hB5
      obtain ⟨E, hE⟩ : ∃ q, q = errI x := ⟨_, rfl⟩
      rw [← hE] at CL hst
      have y0 : wr.cell? ⟨b, o + j * 5, none⟩ = some (.int .i64 k') := cell_below hbl h0
      have y1 : wr.cell? ⟨b, o + j * 5 + 1, none⟩ = some (.int .u64 (n' : Nat)) := cell_below hbl h1
      have y2 : wr.cell? ⟨b, o + j * 5 + 2, none⟩ = some (.slice ab' nb' cb') := cell_below hbl h2
      have y3 : wr.cell? ⟨b, o + j * 5 + 3, none⟩ = some (.string text') := cell_below hbl h3
      have y4 : wr.cell? ⟨b, o + j * 5 + 4, none⟩ = some (.slice ak' nk' ck') := cell_below hbl h4
      have hj0 : (0 : Int) ≤ (j : Int) := by omega
      have hj1 : (j : Int) < (nk : Int) := by omega
      have wj : IntKind.i64.wrap ((j : Int) + 1) = ((j + 1 : Nat) : Int) := (IntWalk.i64_in _ (by omega)).trans (by omega)
      obtain ⟨j1, hj1e⟩ : ∃ q, q = j + 1 := ⟨_, rfl⟩
      rw [← hj1e] at wj hst
      have HJ : Hid (j1 = j + 1) := hj1e
      have HST : Hid (errIs kids = if E ≠ 0 then E else errIs (kids.drop j1)) := by show _ = _; rw [herr.out, hst]
      clear hx hwg2 hst hxr h0 h1 h2 h3 h4 hxe h5b hj1e herr hE hbl hB5
      go_upto_region 11 with fail
      rw [← hw5, ← hg5]
      clear hw5 hg5
      obtain ⟨e0, e1, e2, e3, e4, l1⟩ := hx5
      go_wp2_with fail
      refine CL.out.mono ?_
      rintro e w6 ⟨rfl, hb6⟩
      have HB6 : Hid (Below wa.heap.size wa w6) := HB5.out.trans (hb6.mono HB5.out.size)
      clear hb6 e0 e1 e2 e3 e4 l1 y0 y1 y2 y3 y4
      by_cases hE0 : E = 0
      · subst hE0
        have HS2 : Hid (errIs kids = errIs (kids.drop j1)) := by show _ = _; rw [HST.out]; simp
        go_wp2_with fail
        go_roundw
        case rel => exact ⟨j1, rfl, by rw [HKL.out, HJ.out]; omega, HS2.out, HB6.out⟩
        case measure => have := HJ.out; simp [intOf]; omega
      · have HS2 : Hid (errIs kids = E) := by show _ = _; rw [HST.out, if_pos hE0]
        have hne : ((E : Int) != 0) = true := by simpa using hE0
        clear hE0
        go_wp2_with fail
        go_ret
        exact ⟨by rw [HR.out, HS2.out]; rfl, HBA.out.trans (HB6.out.mono HBA.out.size)⟩
    · have hend := errIs_end kids j (by rw [HKL.out]; omega)
      have HT : Hid (errIs kids = 0) := by show _ = _; rw [herr.out, hend]
      have hlt2 : ¬ (j : Int) < (nk : Int) := by omega
      clear herr hend hbl
      go_wp2_with fail
      go_ret
      exact ⟨by rw [HR.out, HT.out]; rfl, HBA.out.trans (HBL.out.mono HBA.out.size)⟩

theorem chk_all : ∀ d, d ≤ 1000001 → ChkSaid d
  | 0, _ => fun x h => by have := I.wt_pos x; omega
  | d + 1, h => chk_step d (by omega) (chk_all d (by omega))
theorem check_calls28 (x : I) (hx : x.wt ≤ 1000001) (w : World) (c : Array Value) (h : RdIt (fun _ => True) w x c) : Calls Try.prog 13 #[.agg c] w fun e w' => e = .returned (.int .i64 (errI x : Nat)) ∧ Below w.heap.size w w' := chk_all 1000001 (by omega) x hx w c h

theorem errI_ok {k : Int} {n : Nat} {ys : List UInt8} {text : ByteArray} {kids : IL} (h : errI (.mk k n ys text kids) = 0) : (1 ≤ k ∧ k ≤ 9) ∧ fieldsB k n ys.length text.size kids.len = true ∧ (wholeTo (sl text) == text.size) = true ∧ errIs kids = 0 := by
  simp only [errI] at h
  split at h
  · omega
  · rename_i h1
    split at h
    · omega
    · rename_i h2
      split at h
      · omega
      · rename_i h3
        exact ⟨by omega, by simpa using h2, by simpa using h3, h⟩
theorem lay_step (d : Nat) (hd9 : d ≤ 1000000) (hof : LaySaid d) : LaySaid (d + 1) := by
  intro x hd her w0 w B g v bs c hr hw0 hwB hwg hwt hBw hbl
  obtain ⟨k, n, ys, text, kids⟩ := x
  obtain ⟨hk, -, -, hke⟩ := errI_ok her
  have : k = 1 ∨ k = 2 ∨ k = 3 ∨ k = 4 ∨ k = 5 ∨ k = 6 ∨ k = 7 ∨ k = 8 ∨ k = 9 := by omega
  rcases this with rfl | rfl | rfl | rfl | rfl | rfl | rfl | rfl | rfl
  · exact lay_1 d hof n ys text kids hd hke hd9 w0 w B g v bs c hr hw0 hwB hwg hwt hBw hbl
  · exact lay_2 d hof n ys text kids hd hke hd9 w0 w B g v bs c hr hw0 hwB hwg hwt hBw hbl
  · exact lay_3 d hof n ys text kids hd hke hd9 w0 w B g v bs c hr hw0 hwB hwg hwt hBw hbl
  · exact lay_4 d hof n ys text kids hd hke hd9 w0 w B g v bs c hr hw0 hwB hwg hwt hBw hbl
  · exact lay_5 d hof n ys text kids hd hke hd9 w0 w B g v bs c hr hw0 hwB hwg hwt hBw hbl
  · exact lay_6 d hof n ys text kids hd hke hd9 w0 w B g v bs c hr hw0 hwB hwg hwt hBw hbl
  · exact lay_7 d hof n ys text kids hd hke hd9 w0 w B g v bs c hr hw0 hwB hwg hwt hBw hbl
  · exact lay_8 d hof n ys text kids hd hke hd9 w0 w B g v bs c hr hw0 hwB hwg hwt hBw hbl
  · exact lay_9 d hof n ys text kids hd hke hd9 w0 w B g v bs c hr hw0 hwB hwg hwt hBw hbl
theorem lay_all : ∀ d, d ≤ 1000001 → LaySaid d
  | 0, _ => fun x h => by have := I.wt_pos x; omega
  | d + 1, h => lay_step d (by omega) (lay_all d (by omega))

theorem own_roomy4 {w : World} {B : Nat} {a : Option Addr} {n c : Nat} {bs : List UInt8} (h : OwnB w B (.slice a n c) bs) : (a = none → c = 0) ∧ n ≤ c := by
  rcases h.2 with ⟨e, h0⟩ | ⟨g, cp, cur, e, _, _, hn, _⟩
  · simp only [Value.slice.injEq] at e
    exact ⟨fun _ => e.2.2, by omega⟩
  · simp only [Value.slice.injEq] at e
    obtain ⟨rfl, rfl, rfl⟩ := e
    exact ⟨by simp, hn⟩
/-- What Encode answers. -/
def Enc28 (x : I) (w : World) (e : Ending) (w' : World) : Prop :=
  ∃ a m cp, e = .returned (.tuple #[.slice a m cp, .int .i64 (errI x : Nat)]) ∧ RdB w' a m (if errI x = 0 then layI x else []) ∧ (a = none → cp = 0) ∧ m ≤ cp ∧ Below w.heap.size w w'

set_option maxRecDepth 100000 in
set_option maxHeartbeats 4000000 in
theorem encode28 (x : I) (hx : x.wt ≤ 100000) (w : World) (c : Array Value) (h : RdIt (fun _ => True) w x c) : Calls Try.prog 11 #[.agg c] w (Enc28 x w) := by
  have hl9 := layI_len x
  have CK := Lib.hid (fun W (h : RdIt (fun _ => True) W x c) => check_calls28 x (by omega) W c h)
  have H0 := Lib.hid h
  obtain ⟨k, n, ab, nb, cb, text, ak, nk, ck, rfl⟩ := h.shape
  obtain ⟨wa, hwa⟩ : ∃ W, W = w.alloc (.cells #[.int .i64 k, .int .u64 (n : Nat), .slice ab nb cb, .string text, .slice ak nk ck] 26) := ⟨_, rfl⟩
  obtain ⟨gb, hgb⟩ : ∃ q, q = w.heap.size := ⟨_, rfl⟩
  have hba : Below w.heap.size w wa := by rw [hwa]; exact (Below.refl _ _).alloc (Nat.le_refl _) _
  have hxa : ItBx wa gb k n ab nb cb text ak nk ck := by rw [hwa, hgb]; exact ItBx.new _ _ _ _ _ _ _ _ _ _ _
  have HXa := Lib.hid hxa
  have HBA := Lib.hid hba
  have hra := h.below hba
  have HRA := Lib.hid hra
  obtain ⟨f0, f1, f2, f3, f4, l0⟩ := hxa
  clear h hba hra
  go_enter Try.func11, Try.ntmps11
  go_upto_region 1 with fail
  rw [← hwa, ← hgb]
  clear hwa hgb
  go_wp2_with fail
  refine (CK.out _ HRA.out).mono ?_
  rintro e w1 ⟨rfl, hb1⟩
  have HB1 := Lib.hid hb1
  have HX1 := Lib.hid (HXa.out.keep hb1)
  clear hb1
  clear f0 f1 f2 f3 f4 l0
  obtain ⟨f0, f1, f2, f3, f4, l0⟩ := HX1.out
  by_cases he : errI x = 0
  case neg =>
    have hne : ((errI x : Int) != 0) = true := by simpa using he
    have HE := Lib.hid he
    obtain ⟨E, hE⟩ : ∃ q, q = errI x := ⟨_, rfl⟩
    rw [← hE] at hne ⊢
    have HEE := Lib.hid hE
    clear he hE
    go_wp2_with fail
    refine bodyPost_ret (v := .tuple #[.slice none 0 0, .int .i64 (E : Nat)]) (by simp [results, Try.results11, go_sem, *]) rfl ?_
    exact ⟨none, 0, 0, by rw [HEE.out], by rw [if_neg HE.out]; exact RdB.nil _ _, fun _ => rfl, Nat.le_refl _, HBA.out.trans (HB1.out.mono HBA.out.size)⟩
  rw [he]
  have HE := Lib.hid he
  clear he
  go_wp2_with fail
  refine (lay_calls _).mono ?_
  rintro e w2 ⟨g2, rfl, hwt2, hb2, hg2⟩
  have HX2 := Lib.hid (HX1.out.keep hb2)
  have HW2 := Lib.hid hwt2
  have HB2 : Hid (Below wa.heap.size wa w2) := HB1.out.trans (hb2.mono HB1.out.size)
  have CL := Lib.hid (lay_all 100000 (by omega) x hx HE.out w1 w2 w1.heap.size g2 (.slice none 0 0) [] _ (HRA.out.below HB1.out) hb2 (Nat.le_refl _) hg2 hwt2 hb2.size (by simp; omega))
  clear hwt2 hb2
  clear f0 f1 f2 f3 f4 l0
  obtain ⟨f0, f1, f2, f3, f4, l0⟩ := HX2.out
  go_wp2_with fail
  refine CL.out.mono ?_
  rintro e w3 ⟨rfl, v3, hw3, hch, -⟩
  rw [List.nil_append] at hw3
  have HB3 : Hid (Below wa.heap.size wa w3) := HB2.out.trans (hch.below HB2.out.size (fun i hi => by
    rcases hi with e | hi
    · have := HB1.out.size; omega
    · simp [Value.ownBlock] at hi))
  have CY := Lib.hid (wbytes_calls g2 v3 (layI x) w3 w1.heap.size hw3 (by omega))
  clear hw3 hch CL f0 f1 f2 f3 f4 l0
  go_wp2_with fail
  refine CY.out.mono ?_
  rintro e w4 ⟨v4, rfl, ho4, hb4⟩
  obtain ⟨a4, c4, rfl, hr4⟩ := ho4.reads
  have HR4 := Lib.hid hr4
  have HRM := Lib.hid (own_roomy4 ho4)
  have HB4 : Hid (Below w.heap.size w w4) := HBA.out.trans ((HB3.out.trans (hb4.mono HB3.out.size)).mono HBA.out.size)
  clear ho4 hb4 hr4
  go_wp2_with fail
  refine bodyPost_ret (v := .tuple #[.slice a4 (layI x).length c4, .int .i64 0]) (by simp [results, Try.results11, go_sem, *]) rfl ?_
  exact ⟨a4, (layI x).length, c4, by rw [HE.out]; rfl, by rw [if_pos HE.out]; exact HR4.out, HRM.out.1, HRM.out.2, HB4.out⟩

end Go.Proofs.Ytambhapgjonmmaa
