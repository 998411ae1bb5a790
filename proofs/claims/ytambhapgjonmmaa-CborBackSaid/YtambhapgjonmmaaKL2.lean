/- CborBack: the walk. The law CborBack holds for every input: its walk, lifted to the given statement. -/
import Derived.Test.YtambhapgjonmmaaKZ
import Derived.Test.YtambhapgjonmmaaCbS
import Derived.Test.YtambhapgjonmmaaIOpen
import Derived.Test.YtambhapgjonmmaaOpen
namespace Go.Proofs.Ytambhapgjonmmaa
open Go.RowKit
set_option linter.unusedVariables false
set_option linter.unusedSimpArgs false

set_option maxRecDepth 100000 in
set_option maxHeartbeats 16000000 in
theorem CborBack_walk (w : World) (c : Array Value) (x : I) (h : RdIt (fun _ => True) w x c) :
    Calls Try.prog 5 #[.agg c] w fun e w' => e = .returned (.bool true) ∧ Below w.heap.size w w' := by
  have CS := Lib.hid (fun W (h : RdIt (fun _ => True) W x c) => small28 x W c h)
  have CE := Lib.hid (fun hx W (h : RdIt (fun _ => True) W x c) => encode28 x hx W c h)
  have HSM := Lib.hid (fun h : smallI x = true => smallI_wt h)
  have HOK := Lib.hid (okI_of x c h)
  obtain ⟨k, n, ab, nb, cb, text, ak, nk, ck, rfl⟩ := h.shape
  obtain ⟨wa, hwa⟩ : ∃ W, W = w.alloc (.cells #[.int .i64 k, .int .u64 (n : Nat), .slice ab nb cb, .string text, .slice ak nk ck] 26) := ⟨_, rfl⟩
  obtain ⟨gb, hgb⟩ : ∃ q, q = w.heap.size := ⟨_, rfl⟩
  have hba : Below w.heap.size w wa := by rw [hwa]; exact (Below.refl _ _).alloc (Nat.le_refl _) _
  have hxa : ItBx wa gb k n ab nb cb text ak nk ck := by rw [hwa, hgb]; exact ItBx.new _ _ _ _ _ _ _ _ _ _ _
  have HXa := Lib.hid hxa
  have HBA := Lib.hid hba
  have HRA := Lib.hid (h.below hba)
  clear h hba hxa
  go_enter Try.func5, Try.ntmps5
  go_upto_region 1 with fail
  rw [← hwa, ← hgb]
  clear hwa hgb
  go_wp2_with fail
  refine (awake28 _).mono ?_
  rintro e w1 ⟨rfl, hb1⟩
  have HB1 := Lib.hid hb1
  clear hb1
  obtain ⟨f0, f1, f2, f3, f4, l0⟩ := HXa.out.keep HB1.out
  go_wp2_with fail
  refine (CS.out _ (HRA.out.below HB1.out)).mono ?_
  rintro e w2 ⟨rfl, hb2⟩
  have HB2 : Hid (Below wa.heap.size wa w2) := HB1.out.trans (hb2.mono HB1.out.size)
  clear hb2 CS f0 f1 f2 f3 f4 l0
  cases hs : smallI x with
  | false =>
    go_wp2_with fail
    go_ret
    exact ⟨rfl, HBA.out.trans (HB2.out.mono HBA.out.size)⟩
  | true =>
  have hx := HSM.out hs
  have HX := Lib.hid hx
  clear hs hx HSM
  obtain ⟨f0, f1, f2, f3, f4, l0⟩ := HXa.out.keep HB2.out
  go_wp2_with fail
  refine (CE.out (by have := HX.out; omega) _ (HRA.out.below HB2.out)).mono ?_
  rintro e w3 ⟨a3, m3, c3, rfl, hr3, hz3, hc3, hb3⟩
  have HB3 : Hid (Below wa.heap.size wa w3) := HB2.out.trans (hb3.mono HB2.out.size)
  clear hb3 f0 f1 f2 f3 f4 l0 CE
  by_cases he : errI x = 0
  case neg =>
    rw [if_neg he] at hr3
    obtain rfl : 0 = m3 := hr3.1
    obtain ⟨E, hE⟩ : ∃ E, E = errI x := ⟨_, rfl⟩
    rw [← hE] at he ⊢
    have b1 : ((E : Int) != 0) = true := by simp; omega
    clear hE he hr3 hz3 hc3
    go_wp2_with fail
    go_ret
    exact ⟨rfl, HBA.out.trans (HB3.out.mono HBA.out.size)⟩
  rw [if_pos he] at hr3
  rw [he]
  obtain ⟨L, hL⟩ : ∃ L, L = layI x := ⟨_, rfl⟩
  have hxw : x.wt ≤ 2000 := by have := HX.out; omega
  obtain ⟨da, hda⟩ := dec_deep he HOK.out hxw
  have hdl := dec_lay he HOK.out hxw
  have hnw := nestI_wt x
  have hnp := nest_pos x
  have hlw := layI_len x
  rw [← hL] at hr3 hda hdl hlw
  obtain ⟨Nn, hNn⟩ : ∃ q, q = nestI x := ⟨_, rfl⟩
  have HN := Lib.hid (nest28_all 100000 (by omega) x (by omega))
  rw [← hNn] at hda hdl HN hnw hnp
  have hm3 : L.length = m3 := hr3.1
  have wn : IntKind.i64.wrap ((Nn : Int) - 1) = (Nn : Int) - 1 := IntWalk.i64_in _ (by omega)
  have CD1 := Lib.hid (fun W (hW : RdB W a3 m3 L) => decode_calls28 a3 m3 c3 L W hW hz3 hc3 (by omega) (Nn : Int) (by omega) (by omega))
  have CD2 := Lib.hid (fun W (hW : RdB W a3 m3 L) => decode_calls28 a3 m3 c3 L W hW hz3 hc3 (by omega) ((Nn : Int) - 1) (by omega) (by omega))
  rw [hdl] at CD1
  rw [hda] at CD2
  obtain ⟨dp, hdp⟩ : ∃ x : Int, x = (Nn : Int) - 1 := ⟨_, rfl⟩
  rw [← hdp] at CD2 wn
  have wn2 := wn
  rw [hdp] at wn2
  have wn3 : IntKind.i64.wrap ((Nn : Int) - 1) = dp := by rw [wn2, hdp]
  have HR3 := Lib.hid hr3
  have HW := Lib.hid (show x.wt ≤ 100000 by omega)
  clear he hr3 hz3 hc3 hL hxw hda hdl hnw hnp hlw hNn hm3 wn wn2 hdp
  obtain ⟨f0, f1, f2, f3, f4, l0⟩ := HXa.out.keep HB3.out
  go_wp2_with fail
  refine (HN.out _ _ (HRA.out.below HB3.out)).mono ?_
  rintro e w4 ⟨rfl, hb4⟩
  have HB4 : Hid (Below wa.heap.size wa w4) := HB3.out.trans (hb4.mono HB3.out.size)
  have HR4 := Lib.hid (HR3.out.keep hb4)
  clear hb4 f0 f1 f2 f3 f4 l0 HN HR3
  go_wp2_with fail
  refine (CD1.out _ HR4.out).mono ?_
  rintro e w5 ⟨hb5, cx, rfl, hrd⟩
  obtain ⟨k1, n1, ab1, nb1, cb1, text1, ak1, nk1, ck1, rfl⟩ := hrd.shape
  have hrt : RdIt (fun _ => True) w5 x #[.int .i64 k1, .int .u64 (n1 : Nat), .slice ab1 nb1 cb1, .string text1, .slice ak1 nk1 ck1] := hrd.imp fun _ _ _ => trivial
  clear hrd
  go_upto_region 10 with fail
  obtain ⟨wc, hwn⟩ : ∃ W, W = (w5.alloc (.cells #[.int .i64 k1, .int .u64 (n1 : Nat), .slice ab1 nb1 cb1, .string text1, .slice ak1 nk1 ck1] 26)).alloc (.cells #[.int .i64 0, .int .i64 0, .slice none 0 0] 35) := ⟨_, rfl⟩
  obtain ⟨g1, hgi⟩ : ∃ g, g = w5.heap.size := ⟨_, rfl⟩
  obtain ⟨g2, hgf⟩ : ∃ g, g = w5.heap.size + 1 := ⟨_, rfl⟩
  rw [← hwn, ← hgf, ← hgi]
  obtain ⟨hbi_wc, hbf_wc, hbb_wc⟩ : ItBx wc g1 k1 n1 ab1 nb1 cb1 text1 ak1 nk1 ck1 ∧ FB3 wc g2 0 0 ∧ Below w5.heap.size w5 wc := by
    rw [hwn, hgi, hgf]
    exact two_boxes w5 k1 n1 ab1 nb1 cb1 text1 ak1 nk1 ck1 0 0 _ _
  clear hwn hgi hgf
  have h4c := bel3 hb5 hbb_wc
  have HBC : Hid (Below wa.heap.size wa wc) := HB4.out.trans (h4c.mono HB4.out.size)
  have HRC := Lib.hid (HR4.out.keep h4c)
  have HRT := Lib.hid (hrt.below hbb_wc)
  have HI1 := Lib.hid hbi_wc
  have HF1 := Lib.hid hbf_wc.1
  clear hb5 hbb_wc hrt hbi_wc hbf_wc h4c CD1 HR4
  go_wp2_with fail
  refine (CD2.out _ HRC.out).mono ?_
  rintro e w6 ⟨hb6, rfl⟩
  go_upto_region 11 with fail
  obtain ⟨wd, hwn⟩ : ∃ W, W = (w6.alloc (.cells #[.int .i64 0, .int .u64 0, .slice none 0 0, .string ⟨#[]⟩, .slice none 0 0] 26)).alloc (.cells #[.int .i64 8, .int .i64 (da : Nat), .slice none 0 0] 35) := ⟨_, rfl⟩
  obtain ⟨g3, hgi⟩ : ∃ g, g = w6.heap.size := ⟨_, rfl⟩
  obtain ⟨g4, hgf⟩ : ∃ g, g = w6.heap.size + 1 := ⟨_, rfl⟩
  rw [← hwn, ← hgf, ← hgi]
  obtain ⟨hbi_wd, hbf_wd, hbb_wd⟩ : ItBx wd g3 0 0 none 0 0 ⟨#[]⟩ none 0 0 ∧ FB3 wd g4 8 da ∧ Below w6.heap.size w6 wd := by
    rw [hwn, hgi, hgf]
    exact two_boxes w6 0 0 none 0 0 ⟨#[]⟩ none 0 0 8 da _ _
  clear hwn hgi hgf
  have hcd := bel3 hb6 hbb_wd
  have HBD : Hid (Below wa.heap.size wa wd) := HBC.out.trans (hcd.mono HBC.out.size)
  have z1 : wd.cell? ⟨g2, 0, none⟩ = some (.int .i64 0) := cell_below hcd HF1.out
  have HF3 := Lib.hid hbf_wd.1
  obtain ⟨f0, f1, f2, f3, f4, l0⟩ := HI1.out.keep hcd
  obtain ⟨e0, e1, e2, e3, e4, l1⟩ := HXa.out.keep HBD.out
  have CM := Lib.hid (same28_all 100000 (by omega) x HW.out wd _ _ (HRT.out.below hcd) (HRA.out.below HBD.out))
  clear hb6 hcd hbb_wd hbi_wd hbf_wd CD2
  go_wp2_with fail
  refine CM.out.mono ?_
  rintro e w7 ⟨rfl, hb7⟩
  have HB7 := Lib.hid hb7
  have y1 : w7.cell? ⟨g4, 0, none⟩ = some (.int .i64 8) := cell_below hb7 HF3.out
  clear hb7 CM f0 f1 f2 f3 f4 l0 e0 e1 e2 e3 e4 l1 z1
  go_wp2_with fail
  go_ret
  exact ⟨rfl, HBA.out.trans ((HBD.out.trans (HB7.out.mono HBD.out.size)).mono HBA.out.size)⟩

end Go.Proofs.Ytambhapgjonmmaa

namespace Go.Proofs.Ytambhapgjonmmaa.lawCborBack
open Go.ChangeShapes Go.WideShapes Go.ChangeAt Go.RowKit Go.Proofs.Ytambhapgjonmmaa
open Go.ChangeMaps (open_string shut_string)
set_option linter.unusedVariables false
set_option linter.unusedSimpArgs false

theorem own : ownKnob Try.prog.godebug = none := by kernel_rfl
theorem laidOut : laidOutB Try.prog = true := by kernel_rfl

set_option maxRecDepth 100000 in
theorem lifted (os : Os) (started : os.Started) (H : Type) (enc : TypeId × Value → H) :
    ReturnsInHanded {} Try.checked os 5 .any (Rows.cborBackSpec.pre6 enc Try.prog Try.f5 Rows.cborBackRow.domain false) (Rows.cborBackSpec.post enc Try.prog Try.f5 false true false false) := by
  refine returnsInHanded_of_change (C := Try.checked) own started (by kernel_rfl) Try.func5
    (ChangeSpec.witness6 (enc := enc) (C := Try.checked) false ⟨#[], #[.agg #[.int .i64 0, .int .u64 0, .slice none 0 0, .string ByteArray.empty, .slice none 0 0]], []⟩ 8 (by kernel_rfl) (by kernel_rfl) (by kernel_rfl) (by kernel_rfl)) ?_
  intro W base args ds gs before hval0 hW hcnd _
  have hval : ∀ (j : Nat) t v, Try.f5.params[j]? = some t → args[j]? = some v → Value.okWide Try.prog W .any base t v := hval0
  have hW' := hW
  obtain ⟨p, q, hA0, hV, rfl, hfz, hnd⟩ := hW
  have hA : DataW.TrodAll enc Try.prog W 0 (fun _ => true) true Try.f5.params.toList args.toList ds p := hA0
  rw [Try.params5] at hA hval
  obtain ⟨v0, vs0, d0, ds0, p0, q0, hargs, rfl, rfl, h0, r0⟩ := trodAll_cons hA
  obtain ⟨rfl, rfl, rfl⟩ := trodAll_nil r0
  obtain rfl : args = #[v0] := by cases args; simp_all
  obtain ⟨rfl, rfl⟩ := trodVars_none hV
  have k0 := h0
  have lt0 : ∀ x ∈ p0, x.block < W.heap.size := by obtain ⟨m, hm⟩ := k0; exact DataW.trod_lt m _ _ _ hm
  obtain ⟨c0, t0, rfl, w0⟩ := open_item (hval 0 26 v0 rfl rfl) h0
  clear hA0 hval0
  refine (CborBack_walk W c0 t0 w0).mono fun e W' ⟨he, bel⟩ => ?_
  subst he
  exact ⟨_, rfl, _, _, _, [], _, [], hW', trodAll_mk1 (shut_bool Try.underlying4 _), (trodAll_cons_mk (Below.trod laidOut (by kernel_rfl) (of_decide_eq_true (by kernel_rfl)) k0 bel lt0) trodAll_mk0), rfl, bel.frame _, fun h => by cases h⟩

theorem over : Rows.cborBackRow.holds Try.pinned (OpenSpec.ofChange Rows.cborBackSpec) :=
  OpenClaim.holds_of_wide 5 Try.f5 rfl rfl rfl rfl rfl rfl rfl ⟨rfl, rfl, rfl, rfl, rfl⟩ rfl rfl rfl rfl rfl (by kernel_rfl) Try.func5 (by kernel_rfl)
    (of_decide_eq_true (by kernel_rfl)) (by unfold Func.isWrapper; first | (rw [if_pos (by decide +kernel)]; kernel_rfl) | (rw [if_neg (by decide +kernel)]; exact ⟨rfl, rfl⟩))
    (fun os started H enc _ => lifted os started H enc)

theorem proved : Rows.CborBackSaid := over
#print axioms proved
end Go.Proofs.Ytambhapgjonmmaa.lawCborBack
