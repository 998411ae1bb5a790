/- propylonbook.Place: a number brought to 0 .. n - 1. CborCut: the walk. The law CborCut holds for every input: its walk, lifted to the given statement. -/
import Derived.Test.YtambhapgjonmmaaApp
import Derived.Test.YtambhapgjonmmaaKZ
import Derived.Test.YtambhapgjonmmaaCbS
import Derived.Test.YtambhapgjonmmaaIOpen
import Derived.Test.YtambhapgjonmmaaOpen
namespace Go.Proofs.Ytambhapgjonmmaa
open Go.RowKit
set_option linter.unusedVariables false
set_option linter.unusedSimpArgs false

def placeN (k : Int) (n : Nat) : Nat := (k % (n : Int)).toNat
theorem place_lt (k : Int) (n : Nat) (h : 0 < n) : placeN k n < n := by
  unfold placeN
  have h1 := Int.emod_nonneg k (show (n : Int) ≠ 0 by omega)
  have h2 := Int.emod_lt_of_pos k (show (0 : Int) < n by omega)
  omega
theorem place_eq (k : Int) (n : Nat) (h : 0 < n) : ((k.tmod n + n).tmod n) = (placeN k n : Nat) := by
  have h1 : 0 ≤ k.tmod n + n := by
    have := Int.lt_tmod_of_pos k (show (0 : Int) < n by omega)
    omega
  rw [Int.tmod_eq_emod_of_nonneg h1, Int.add_emod_right]
  have : (k.tmod n) % (n : Int) = k % n := by
    rw [Int.tmod_def, Int.sub_mul_emod_self_left]
  rw [this]
  unfold placeN
  have h1 := Int.emod_nonneg k (show (n : Int) ≠ 0 by omega)
  show k % (n : Int) = _
  rw [Int.toNat_of_nonneg h1]

set_option maxRecDepth 100000 in
set_option maxHeartbeats 2000000 in
theorem place_calls (k : Int) (n : Nat) (h0 : 0 < n) (h1 : n ≤ 1000000) (w : World) :
    Calls Try.prog 20 #[.int .i64 k, .int .i64 n] w fun e w' => e = .returned (.int .i64 (placeN k n : Nat)) ∧ w = w' := by
  have e := place_eq k n h0
  have b1 := Int.lt_tmod_of_pos k (show (0 : Int) < n by omega)
  have b2 := Int.tmod_lt_of_pos k (show (0 : Int) < n by omega)
  have hm := place_lt k n h0
  obtain ⟨m, hm1⟩ : ∃ m, m = placeN k n := ⟨_, rfl⟩
  rw [← hm1] at e hm ⊢
  have hn : ((n : Int) == 0) = false := by simp; omega
  have hn0 : n ≠ 0 := by omega
  have hn1 : ¬ ((n : Int) = 0) := by omega
  obtain ⟨q, hq⟩ : ∃ q, q = k.tmod n := ⟨_, rfl⟩
  rw [← hq] at e b1 b2
  have hq' := hq.symm
  have w1 : IntKind.i64.wrap q = q := by simp [IntKind.wrap, IntKind.bits, IntKind.signed]; omega
  have w2 : IntKind.i64.wrap (q + n) = q + n := by simp [IntKind.wrap, IntKind.bits, IntKind.signed]; omega
  have w3 : IntKind.i64.wrap (m : Int) = (m : Int) := by simp [IntKind.wrap, IntKind.bits, IntKind.signed]; omega
  go_enter Try.func20, Try.ntmps20
  go_wp2_with fail
  simp [go_sem, hn0, hn1, hq', w2, e]
  go_wp2_with fail
  simp [go_sem, hn0, hn1, hq', w2, e]
  go_wp2_with fail
  simp [go_sem, hn0, hn1, hq', w2, e]
  go_wp2_with fail
  go_ret
  exact ⟨rfl, rfl⟩

end Go.Proofs.Ytambhapgjonmmaa

namespace Go.Proofs.Ytambhapgjonmmaa
open Go.RowKit
set_option linter.unusedVariables false
set_option linter.unusedSimpArgs false

set_option maxRecDepth 100000 in
set_option maxHeartbeats 16000000 in
theorem CborCut_walk (w : World) (c : Array Value) (x : I) (h : RdIt (fun _ => True) w x c) (kk : Int) (hk : (Lit.int .i64 kk).wf = true) (yy : Int) (hyw : (Lit.int .u8 yy).wf = true) :
    Calls Try.prog 7 #[.agg c, .int .i64 kk, .int .u8 yy] w fun e w' => e = .returned (.bool true) ∧ Below w.heap.size w w' := by
  obtain ⟨y, rfl, hy⟩ : ∃ y : Nat, yy = (y : Int) ∧ y < 256 := by
    have h := hyw
    simp [Lit.wf, IntKind.min, IntKind.max, IntKind.signed, IntKind.bits] at h
    exact ⟨yy.toNat, by omega, by omega⟩
  have CS := Lib.hid (fun W (h : RdIt (fun _ => True) W x c) => small28 x W c h)
  have CE := Lib.hid (fun hx W (h : RdIt (fun _ => True) W x c) => rencode28 x hx W c h)
  have HSM := Lib.hid (fun h : smallI x = true => smallI_wt h)
  have HOK := Lib.hid (okI_of x c h)
  obtain ⟨k, n, ab, nb, cb, text, ak, nk, ck, rfl⟩ := h.shape
  obtain ⟨wa, hwa⟩ : ∃ W, W = w.alloc (.cells #[.int .i64 k, .int .u64 (n : Nat), .slice ab nb cb, .string text, .slice ak nk ck] 26) := ⟨_, rfl⟩
  obtain ⟨gb, hgb⟩ : ∃ q, q = w.heap.size := ⟨_, rfl⟩
  have hba : Below w.heap.size w wa := by rw [hwa]; exact (Below.refl _ _).alloc (Nat.le_refl _) _
  have hxa : ItBx wa gb k n ab nb cb text ak nk ck := by rw [hwa, hgb]; exact ItBx.new _ _ _ _ _ _ _ _ _ _ _
  have HXa := Lib.hid hxa
  have HBA := Lib.hid hba
  have HRA := Lib.hid (h.below hba)
  clear h hba hxa
  go_enter Try.func7, Try.ntmps7
  go_upto_region 1 with fail
  rw [← hwa, ← hgb]
  clear hwa hgb
  go_wp2_with fail
  refine (awake28 _).mono ?_
  rintro e w1 ⟨rfl, hb1⟩
  have HB1 := Lib.hid hb1
  clear hb1
  obtain ⟨f0, f1, f2, f3, f4, l0⟩ := HXa.out.keep HB1.out
  go_wp2_with fail
  refine (CS.out _ (HRA.out.below HB1.out)).mono ?_
  rintro e w2 ⟨rfl, hb2⟩
  have HB2 : Hid (Below wa.heap.size wa w2) := HB1.out.trans (hb2.mono HB1.out.size)
  clear hb2 CS f0 f1 f2 f3 f4 l0
  cases hs : smallI x with
  | false =>
    go_wp2_with fail
    go_ret
    exact ⟨rfl, HBA.out.trans (HB2.out.mono HBA.out.size)⟩
  | true =>
  have hx := HSM.out hs
  have HX := Lib.hid hx
  clear hs hx HSM
  obtain ⟨f0, f1, f2, f3, f4, l0⟩ := HXa.out.keep HB2.out
  go_wp2_with fail
  refine (CE.out (by have := HX.out; omega) _ (HRA.out.below HB2.out)).mono ?_
  rintro e w3 ⟨a3, m3, c3, rfl, hr3, hz3, hc3, hb3⟩
  have HB3 : Hid (Below wa.heap.size wa w3) := HB2.out.trans (hb3.mono HB2.out.size)
  clear hb3 f0 f1 f2 f3 f4 l0 CE
  by_cases he : errI x = 0
  case neg =>
    obtain ⟨E, hE⟩ : ∃ E, E = errI x := ⟨_, rfl⟩
    rw [← hE] at he ⊢
    have b1 : ((E : Int) != 0) = true := by simp; omega
    clear hE he hr3 hz3 hc3
    go_wp2_with fail
    go_ret
    exact ⟨rfl, HBA.out.trans (HB3.out.mono HBA.out.size)⟩
  rw [if_pos he] at hr3
  rw [he]
  obtain ⟨L, hL⟩ : ∃ L, L = layI x := ⟨_, rfl⟩
  have hxw : x.wt ≤ 2000 := by have := HX.out; omega
  have hlw := layI_len x
  have hlp := lay_pos he
  have hdm := dec_more he HOK.out hxw (UInt8.ofNat y)
  have hdc := fun j hj => dec_cut he HOK.out hxw j hj
  rw [← hL] at hr3 hlw hlp hdm hdc
  have hm3 : L.length = m3 := hr3.1
  rw [hm3] at hlw hlp hdm hdc
  have hj := place_lt kk m3 (by omega)
  obtain ⟨j, hjj⟩ : ∃ j, j = placeN kk m3 := ⟨_, rfl⟩
  have CP := Lib.hid (fun W => place_calls kk m3 (by omega) (by omega) W)
  rw [← hjj] at CP hj
  obtain ⟨da, hda⟩ := hdc j hj
  have CD1 := Lib.hid (fun W (hW : RdB W a3 m3 L) => decode_calls28 a3 j c3 (L.take j) W (rd_take hW j (by omega)) hz3 (by omega) (by omega) 1000 (by omega) (by omega))
  rw [hda] at CD1
  have CD2 := Lib.hid (fun W v cv (hW : RdB W v (m3 + 1) (L ++ [UInt8.ofNat y])) (h1 : v = none → cv = 0) (h2 : m3 + 1 ≤ cv) => decode_calls28 v (m3 + 1) cv (L ++ [UInt8.ofNat y]) W hW h1 h2 (by omega) 1000 (by omega) (by omega))
  rw [hdm] at CD2
  have r1 : (0 : Int) ≤ (j : Int) := by omega
  have r2 : (j : Int) ≤ (c3 : Int) := by omega
  have hmm := Lib.hid hlw
  have HXW := Lib.hid hxw
  have HR3 := Lib.hid hr3
  have HZ3 := Lib.hid hz3
  have HM3 := Lib.hid hm3
  clear he hr3 hz3 hc3 hL hxw hda hdm hdc hlw hlp hm3 hjj hj
  go_wp2_with fail
  refine (CP.out _).mono ?_
  rintro e w4 ⟨rfl, rfl⟩
  clear CP
  go_wp2_with fail
  refine (CD1.out _ HR3.out).mono ?_
  rintro e w5 ⟨hb5, rfl⟩
  go_upto_region 9 with fail
  obtain ⟨wc, hwn⟩ : ∃ W, W = (w5.alloc (.cells #[.int .i64 0, .int .u64 0, .slice none 0 0, .string ⟨#[]⟩, .slice none 0 0] 26)).alloc (.cells #[.int .i64 2, .int .i64 (da : Nat), .slice none 0 0] 35) := ⟨_, rfl⟩
  obtain ⟨g1, hgi⟩ : ∃ g, g = w5.heap.size := ⟨_, rfl⟩
  obtain ⟨g2, hgf⟩ : ∃ g, g = w5.heap.size + 1 := ⟨_, rfl⟩
  rw [← hwn, ← hgf, ← hgi]
  obtain ⟨hbi_wc, hbf_wc, hbb_wc⟩ : ItBx wc g1 0 0 none 0 0 ⟨#[]⟩ none 0 0 ∧ FB3 wc g2 2 da ∧ Below w5.heap.size w5 wc := by
    rw [hwn, hgi, hgf]
    exact two_boxes w5 0 0 none 0 0 ⟨#[]⟩ none 0 0 2 da _ _
  clear hwn hgi hgf
  have h3c := bel3 hb5 hbb_wc
  have HBC : Hid (Below wa.heap.size wa wc) := HB3.out.trans (h3c.mono HB3.out.size)
  have HRC := Lib.hid (HR3.out.keep h3c)
  have HF1 := Lib.hid hbf_wc.1
  clear hb5 hbb_wc hbi_wc hbf_wc h3c CD1
  have HE : Hid (OwnB (wc.alloc (.cells #[] 5)) wc.heap.size (.slice (some ⟨wc.heap.size, 0, none⟩) 0 0) []) := ownB_empty28 (heap_alloc_new wc _) (Nat.le_refl _)
  have HSS : Hid (SrcB (wc.alloc (.cells #[] 5)) (.slice a3 m3 c3) L) := Lib.hid ⟨_, _, _, rfl, HRC.out.keep ((Below.refl _ _).alloc (Nat.le_refl _) _), HZ3.out⟩
  go_wp2_with (at_builtin; refine wpList_appB (v := .slice (some ⟨wc.heap.size, 0, none⟩) 0 0) (bs := []) (sv := .slice a3 m3 c3) (l := L) (B := wc.heap.size) (by rfl) _ _ (by rfl) (by rfl) HE.out (by rfl) HSS.out ?o2 ?o3 ?_)
  case o2 => have := hmm.out; have := HXW.out; have := HM3.out; simp only [List.length_nil]; omega
  case o3 => simp
  intro v6 w6 ho6 ha6
  have hb6 : Below wc.heap.size wc w6 := ha6.below ((Below.refl _ _).alloc (Nat.le_refl _) _) (by simp) (fun i hi => by have : wc.heap.size = i := Option.some.inj hi; omega)
  have HO6 : Hid (OwnB w6 wc.heap.size v6 L) := ho6
  have HB6 := Lib.hid hb6
  clear ho6 ha6 hb6 HE HSS
  have HST : Hid (St wc v6 L w6) := Lib.hid ⟨HO6.out, HB6.out⟩
  obtain ⟨g7, hg7⟩ : ∃ g, g = w6.heap.size := ⟨_, rfl⟩
  obtain ⟨w7, hw7⟩ : ∃ W, W = w6.alloc (.cells #[.int .u8 (y : Nat)] 5) := ⟨_, rfl⟩
  have HZG : Hid (Zg w7 v6 y g7) := by rw [hw7]; exact Zg.new HST.out hg7 _
  have HS7 : Hid (St wc v6 L w7) := by rw [hw7]; exact HST.out.alloc _
  go_wp2_with (at_builtin; refine wpList_appB (v := v6) (bs := L) (sv := .slice (some ⟨w6.heap.size, 0, none⟩) 1 1) (l := [UInt8.ofNat y]) (B := wc.heap.size) (by rfl) _ _ (by rfl) (by rfl) ?p1 (by rfl) ?p2 ?p3 ?p4 ?_)
  case p1 => have := HS7.out.1; rw [hw7] at this; exact this
  case p2 => have := HZG.out.src hy; rw [hw7, hg7] at this; exact this
  case p3 => have := hmm.out; have := HXW.out; have := HM3.out; simp only [List.length_cons, List.length_nil]; omega
  case p4 => have := HB6.out.size; simp; omega
  intro v8 w8 ho8 ha8
  have hst8 : St wc v8 (L ++ [UInt8.ofNat y]) w8 := by
    have h7 := HS7.out
    rw [hw7] at h7
    exact h7.lay ho8 (LayF.app ha8)
  obtain ⟨a8, c8, rfl, hr8⟩ := ho8.reads
  have hrm := own_roomy4 ho8
  have hl8 : (L ++ [UInt8.ofNat y]).length = m3 + 1 := by have := HM3.out; simp; omega
  rw [hl8] at hr8 hrm ⊢
  have HR8 := Lib.hid hr8
  have HM8 := Lib.hid hrm
  have HB8 := Lib.hid hst8.2
  clear ho8 ha8 hst8 hr8 hrm hl8 HZG HS7 hw7 hg7 HST HO6
  go_wp2_with fail
  refine (CD2.out _ _ _ HR8.out HM8.out.1 HM8.out.2).mono ?_
  rintro e w9 ⟨hb9, rfl⟩
  go_upto_region 10 with fail
  obtain ⟨wd, hwn⟩ : ∃ W, W = (w9.alloc (.cells #[.int .i64 0, .int .u64 0, .slice none 0 0, .string ⟨#[]⟩, .slice none 0 0] 26)).alloc (.cells #[.int .i64 7, .int .i64 (m3 : Nat), .slice none 0 0] 35) := ⟨_, rfl⟩
  obtain ⟨g3, hgi⟩ : ∃ g, g = w9.heap.size := ⟨_, rfl⟩
  obtain ⟨g4, hgf⟩ : ∃ g, g = w9.heap.size + 1 := ⟨_, rfl⟩
  rw [← hwn, ← hgf, ← hgi]
  obtain ⟨hbi_wd, hbf_wd, hbb_wd⟩ : ItBx wd g3 0 0 none 0 0 ⟨#[]⟩ none 0 0 ∧ FB3 wd g4 7 m3 ∧ Below w9.heap.size w9 wd := by
    rw [hwn, hgi, hgf]
    exact two_boxes w9 0 0 none 0 0 ⟨#[]⟩ none 0 0 7 m3 _ _
  clear hwn hgi hgf
  have hcd := bel3 HB8.out (bel3 hb9 hbb_wd)
  have HBD : Hid (Below wa.heap.size wa wd) := HBC.out.trans (hcd.mono HBC.out.size)
  have z1 : wd.cell? ⟨g2, 0, none⟩ = some (.int .i64 2) := cell_below hcd HF1.out
  obtain ⟨y0, y1, -⟩ := hbf_wd
  clear hb9 hcd hbb_wd hbi_wd CD2
  go_wp2_with fail
  go_ret
  exact ⟨rfl, HBA.out.trans (HBD.out.mono HBA.out.size)⟩

end Go.Proofs.Ytambhapgjonmmaa

namespace Go.Proofs.Ytambhapgjonmmaa.lawCborCut
open Go.ChangeShapes Go.WideShapes Go.ChangeAt Go.RowKit Go.Proofs.Ytambhapgjonmmaa
open Go.ChangeMaps (open_string shut_string)
set_option linter.unusedVariables false
set_option linter.unusedSimpArgs false

theorem own : ownKnob Try.prog.godebug = none := by kernel_rfl
theorem laidOut : laidOutB Try.prog = true := by kernel_rfl

set_option maxRecDepth 100000 in
theorem lifted (os : Os) (started : os.Started) (H : Type) (enc : TypeId × Value → H) :
    ReturnsInHanded {} Try.checked os 7 .any (Rows.cborCutSpec.pre6 enc Try.prog Try.f7 Rows.cborCutRow.domain false) (Rows.cborCutSpec.post enc Try.prog Try.f7 false true false false) := by
  refine returnsInHanded_of_change (C := Try.checked) own started (by kernel_rfl) Try.func7
    (ChangeSpec.witness6 (enc := enc) (C := Try.checked) false ⟨#[], #[.agg #[.int .i64 0, .int .u64 0, .slice none 0 0, .string ByteArray.empty, .slice none 0 0], .int .i64 0, .int .u8 0], []⟩ 8 (by kernel_rfl) (by kernel_rfl) (by kernel_rfl) (by kernel_rfl)) ?_
  intro W base args ds gs before hval0 hW hcnd _
  have hval : ∀ (j : Nat) t v, Try.f7.params[j]? = some t → args[j]? = some v → Value.okWide Try.prog W .any base t v := hval0
  have hW' := hW
  obtain ⟨p, q, hA0, hV, rfl, hfz, hnd⟩ := hW
  have hA : DataW.TrodAll enc Try.prog W 0 (fun _ => true) true Try.f7.params.toList args.toList ds p := hA0
  rw [Try.params7] at hA hval
  obtain ⟨v0, vs0, d0, ds0, p0, q0, hargs, rfl, rfl, h0, r0⟩ := trodAll_cons hA
  obtain ⟨v1, vs1, d1, ds1, p1, q1, rfl, rfl, rfl, h1, r1⟩ := trodAll_cons r0
  obtain ⟨v2, vs2, d2, ds2, p2, q2, rfl, rfl, rfl, h2, r2⟩ := trodAll_cons r1
  obtain ⟨rfl, rfl, rfl⟩ := trodAll_nil r2
  obtain rfl : args = #[v0, v1, v2] := by cases args; simp_all
  obtain ⟨rfl, rfl⟩ := trodVars_none hV
  have k0 := h0
  have lt0 : ∀ x ∈ p0, x.block < W.heap.size := by obtain ⟨m, hm⟩ := k0; exact DataW.trod_lt m _ _ _ hm
  have k1 := h1
  have lt1 : ∀ x ∈ p1, x.block < W.heap.size := by obtain ⟨m, hm⟩ := k1; exact DataW.trod_lt m _ _ _ hm
  have k2 := h2
  have lt2 : ∀ x ∈ p2, x.block < W.heap.size := by obtain ⟨m, hm⟩ := k2; exact DataW.trod_lt m _ _ _ hm
  obtain ⟨c0, t0, rfl, w0⟩ := open_item (hval 0 26 v0 rfl rfl) h0
  obtain ⟨a1, rfl, _, _, w1⟩ := open_int Try.underlying3 (hval 1 3 v1 rfl rfl) h1
  obtain ⟨a2, rfl, _, _, w2⟩ := open_int Try.underlying5 (hval 2 5 v2 rfl rfl) h2
  clear hA0 hval0
  refine (CborCut_walk W c0 t0 w0 a1 w1 a2 w2).mono fun e W' ⟨he, bel⟩ => ?_
  subst he
  exact ⟨_, rfl, _, _, _, [], _, [], hW', trodAll_mk1 (shut_bool Try.underlying4 _), (trodAll_cons_mk (Below.trod laidOut (by kernel_rfl) (of_decide_eq_true (by kernel_rfl)) k0 bel lt0) (trodAll_cons_mk (Below.trod laidOut (by kernel_rfl) (of_decide_eq_true (by kernel_rfl)) k1 bel lt1) (trodAll_cons_mk (Below.trod laidOut (by kernel_rfl) (of_decide_eq_true (by kernel_rfl)) k2 bel lt2) trodAll_mk0))), rfl, bel.frame _, fun h => by cases h⟩

theorem over : Rows.cborCutRow.holds Try.pinned (OpenSpec.ofChange Rows.cborCutSpec) :=
  OpenClaim.holds_of_wide 7 Try.f7 rfl rfl rfl rfl rfl rfl rfl ⟨rfl, rfl, rfl, rfl, rfl⟩ rfl rfl rfl rfl rfl (by kernel_rfl) Try.func7 (by kernel_rfl)
    (of_decide_eq_true (by kernel_rfl)) (by unfold Func.isWrapper; first | (rw [if_pos (by decide +kernel)]; kernel_rfl) | (rw [if_neg (by decide +kernel)]; exact ⟨rfl, rfl⟩))
    (fun os started H enc _ => lifted os started H enc)

theorem proved : Rows.CborCutSaid := over
#print axioms proved
end Go.Proofs.Ytambhapgjonmmaa.lawCborCut
