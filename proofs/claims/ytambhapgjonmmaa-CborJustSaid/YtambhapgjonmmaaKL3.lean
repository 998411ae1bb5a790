/- CborJust: the walk. The law CborJust holds for every input: its walk, lifted to the given statement. -/
import Derived.Test.YtambhapgjonmmaaKZ
import Derived.Test.YtambhapgjonmmaaOpen2
namespace Go.Proofs.Ytambhapgjonmmaa
open Go.RowKit
set_option linter.unusedVariables false
set_option linter.unusedSimpArgs false

set_option maxRecDepth 100000 in
set_option maxHeartbeats 16000000 in
theorem CborJust_walk (w : World) (a : Option Addr) (n c : Nat) (L : List UInt8) (h : RdB w a n L) (hz : a = none → c = 0) (hc : n ≤ c) (d : Int) (hd : (Lit.int .i64 d).wf = true) :
    Calls Try.prog 6 #[.slice a n c, .int .i64 d] w fun e w' => e = .returned (.bool true) ∧ Below w.heap.size w w' := by
  obtain ⟨hd1, hd2⟩ := wf_i64 hd
  have HRD : Hid (∀ W, Below w.heap.size w W → RdB W a n L) := Lib.hid (fun W hW => h.keep hW)
  have HL : Hid (L.length = n) := Lib.hid h.1
  have CD := Lib.hid (fun W (hW : RdB W a n L) (hn : n ≤ 2000) => decode_calls28 a n c L W hW hz hc (by omega) d hd1 hd2)
  have CR := Lib.hid (fun W (hW : RdB W a n L) (hn : n ≤ 2000) => rdecode_calls28 a n c L W hW hz hc (by omega) d hd1 hd2)
  clear h hz hd
  go_enter Try.func6, Try.ntmps6
  go_wp2_with fail
  refine (awake28 _).mono ?_
  rintro e w1 ⟨rfl, hb1⟩
  have HB1 := Lib.hid hb1
  clear hb1
  by_cases hlen : 2000 < n
  · have d0 : decide (2000 < (n : Int)) = true := by simp; omega
    have d0n : decide (2000 < n) = true := by simp; omega
    clear hlen
    go_wp2_with fail
    go_ret
    exact ⟨rfl, HB1.out⟩
  have d0 : decide (2000 < (n : Int)) = false := by simp; omega
  have d0n : decide (2000 < n) = false := by simp; omega
  go_wp2_with fail
  refine (CD.out w1 (HRD.out _ HB1.out) (by omega)).mono ?_
  rintro e w4 ⟨hb4, h4⟩
  cases hR : decQ L d with
  | error p =>
    obtain ⟨x, at1⟩ := p
    rw [hR] at h4
    subst h4
    have hbd := dec_bad hR
    have b1 : ((x : Int) != 0) = true := by simp; omega
    have b2 : decide ((0 : Int) ≤ (at1 : Int)) = true := by simp
    have b3 : decide ((at1 : Int) ≤ (n : Int)) = true := by have := HL.out; simp; omega
    have b3n : decide (at1 ≤ n) = true := by have := HL.out; simp; omega
    clear hbd hR CR
    go_upto_region 6 with fail
    obtain ⟨wc, hwn⟩ : ∃ W, W = (w4.alloc (.cells #[.int .i64 0, .int .u64 0, .slice none 0 0, .string ⟨#[]⟩, .slice none 0 0] 26)).alloc (.cells #[.int .i64 (x : Nat), .int .i64 (at1 : Nat), .slice none 0 0] 35) := ⟨_, rfl⟩
    obtain ⟨g1, hgi⟩ : ∃ g, g = w4.heap.size := ⟨_, rfl⟩
    obtain ⟨g2, hgf⟩ : ∃ g, g = w4.heap.size + 1 := ⟨_, rfl⟩
    rw [← hwn, ← hgf, ← hgi]
    obtain ⟨hbi_wc, hbf_wc, hbb_wc⟩ : ItBx wc g1 0 0 none 0 0 ⟨#[]⟩ none 0 0 ∧ FB3 wc g2 x at1 ∧ Below w4.heap.size w4 wc := by
      rw [hwn, hgi, hgf]
      exact two_boxes w4 0 0 none 0 0 ⟨#[]⟩ none 0 0 x at1 _ _
    clear hwn hgi hgf
    have HBC : Hid (Below w.heap.size w wc) := HB1.out.trans ((bel3 hb4 hbb_wc).mono HB1.out.size)
    clear hb4 hbb_wc CD
    obtain ⟨f0, f1, f2, f3, f4, l0⟩ := hbi_wc
    obtain ⟨z0, z1, z2⟩ := hbf_wc
    have CS := Lib.hid (fun W => same28_all 10 (by omega) (.mk 0 0 [] ⟨#[]⟩ .nil) (by decide) W _ _ (zero_it W) (zero_it W))
    go_wp2_with fail
    refine (CS.out _).mono ?_
    rintro e w7 ⟨rfl, hb7⟩
    have HB7 := Lib.hid hb7
    clear hb7 CS f0 f1 f2 f3 f4 l0 z0 z1 z2
    go_wp2_with fail
    go_ret
    exact ⟨rfl, HBC.out.trans (HB7.out.mono HBC.out.size)⟩
  | ok y =>
    obtain ⟨x, q⟩ := y
    rw [hR] at h4
    obtain ⟨c1, rfl, hrd⟩ := h4
    obtain ⟨j1, j2, j3, j4⟩ := dec_just hR
    have hxw : x.wt ≤ 100000 := by have := HL.out; omega
    have HLY := Lib.hid j2
    have hll : (layI x).length = n := by rw [j2]; exact HL.out
    obtain ⟨Nn, hNn⟩ : ∃ q, q = nestI x := ⟨_, rfl⟩
    have HN := Lib.hid (nest28_all 100000 (by omega) x hxw)
    rw [← hNn] at HN j3
    have b4 : decide ((Nn : Int) ≤ d) = true := by simpa using j3
    have CE := Lib.hid (fun W c (hW : RdIt (fun _ => True) W x c) => enc_ok x hxw j1 W c hW)
    rw [hll, j2] at CE
    obtain ⟨k1, n1, ab1, nb1, cb1, text1, ak1, nk1, ck1, rfl⟩ := hrd.shape
    have hrt : RdIt (fun _ => True) w4 x #[.int .i64 k1, .int .u64 (n1 : Nat), .slice ab1 nb1 cb1, .string text1, .slice ak1 nk1 ck1] := hrd.imp fun _ _ _ => trivial
    clear hR CR hrd j1 j2 j3 j4 hNn hll hxw
    go_upto_region 6 with fail
    obtain ⟨wc, hwn⟩ : ∃ W, W = (w4.alloc (.cells #[.int .i64 k1, .int .u64 (n1 : Nat), .slice ab1 nb1 cb1, .string text1, .slice ak1 nk1 ck1] 26)).alloc (.cells #[.int .i64 0, .int .i64 0, .slice none 0 0] 35) := ⟨_, rfl⟩
    obtain ⟨g1, hgi⟩ : ∃ g, g = w4.heap.size := ⟨_, rfl⟩
    obtain ⟨g2, hgf⟩ : ∃ g, g = w4.heap.size + 1 := ⟨_, rfl⟩
    rw [← hwn, ← hgf, ← hgi]
    obtain ⟨hbi_wc, hbf_wc, hbb_wc⟩ : ItBx wc g1 k1 n1 ab1 nb1 cb1 text1 ak1 nk1 ck1 ∧ FB3 wc g2 0 0 ∧ Below w4.heap.size w4 wc := by
      rw [hwn, hgi, hgf]
      exact two_boxes w4 k1 n1 ab1 nb1 cb1 text1 ak1 nk1 ck1 0 0 _ _
    clear hwn hgi hgf
    have HBC : Hid (Below w.heap.size w wc) := HB1.out.trans ((bel3 hb4 hbb_wc).mono HB1.out.size)
    have HRT := Lib.hid (hrt.below hbb_wc)
    have HI := Lib.hid hbi_wc
    have z0 := hbf_wc.1
    obtain ⟨f0, f1, f2, f3, f4, l0⟩ := hbi_wc
    clear hb4 hbb_wc CD hrt hbf_wc
    go_wp2_with fail
    refine (CE.out _ _ HRT.out).mono ?_
    rintro e w5 ⟨a5, c5, rfl, hr5, -, -, hb5⟩
    have hcv1 := conv_str hr5 c5
    have hcv2 := conv_str (HRD.out w5 (HBC.out.trans (hb5.mono HBC.out.size))) c
    have HRT5 := Lib.hid (HRT.out.below hb5)
    have HB5 := Lib.hid hb5
    clear f0 f1 f2 f3 f4 l0 z0 CE
    obtain ⟨f0, f1, f2, f3, f4, l0⟩ := HI.out.keep hb5
    generalize txt L = T at hcv1 hcv2
    clear hb5 hr5
    go_wp2_with fail
    refine (HN.out w5 _ HRT5.out).mono ?_
    rintro e w7 ⟨rfl, hb7⟩
    have HB7 := Lib.hid hb7
    clear hb7 f0 f1 f2 f3 f4 l0 hcv1 hcv2
    go_wp2_with fail
    go_ret
    exact ⟨rfl, HBC.out.trans ((bel3 HB5.out HB7.out).mono HBC.out.size)⟩

end Go.Proofs.Ytambhapgjonmmaa

namespace Go.Proofs.Ytambhapgjonmmaa.lawCborJust
open Go.ChangeShapes Go.WideShapes Go.ChangeAt Go.RowKit Go.Proofs.Ytambhapgjonmmaa
open Go.ChangeMaps (open_string shut_string)
set_option linter.unusedVariables false
set_option linter.unusedSimpArgs false

theorem own : ownKnob Try.prog.godebug = none := by kernel_rfl
theorem laidOut : laidOutB Try.prog = true := by kernel_rfl

set_option maxRecDepth 100000 in
theorem lifted (os : Os) (started : os.Started) (H : Type) (enc : TypeId × Value → H) :
    ReturnsInHanded {} Try.checked os 6 .any (Rows.cborJustSpec.pre6 enc Try.prog Try.f6 Rows.cborJustRow.domain false) (Rows.cborJustSpec.post enc Try.prog Try.f6 false true false false) := by
  refine returnsInHanded_of_change (C := Try.checked) own started (by kernel_rfl) Try.func6
    (ChangeSpec.witness6 (enc := enc) (C := Try.checked) false ⟨#[], #[.slice none 0 0, .int .i64 0], []⟩ 8 (by kernel_rfl) (by kernel_rfl) (by kernel_rfl) (by kernel_rfl)) ?_
  intro W base args ds gs before hval0 hW hcnd _
  have hval : ∀ (j : Nat) t v, Try.f6.params[j]? = some t → args[j]? = some v → Value.okWide Try.prog W .any base t v := hval0
  have hW' := hW
  obtain ⟨p, q, hA0, hV, rfl, hfz, hnd⟩ := hW
  have hA : DataW.TrodAll enc Try.prog W 0 (fun _ => true) true Try.f6.params.toList args.toList ds p := hA0
  rw [Try.params6] at hA hval
  obtain ⟨v0, vs0, d0, ds0, p0, q0, hargs, rfl, rfl, h0, r0⟩ := trodAll_cons hA
  obtain ⟨v1, vs1, d1, ds1, p1, q1, rfl, rfl, rfl, h1, r1⟩ := trodAll_cons r0
  obtain ⟨rfl, rfl, rfl⟩ := trodAll_nil r1
  obtain rfl : args = #[v0, v1] := by cases args; simp_all
  obtain ⟨rfl, rfl⟩ := trodVars_none hV
  have k0 := h0
  have lt0 : ∀ x ∈ p0, x.block < W.heap.size := by obtain ⟨m, hm⟩ := k0; exact DataW.trod_lt m _ _ _ hm
  have k1 := h1
  have lt1 : ∀ x ∈ p1, x.block < W.heap.size := by obtain ⟨m, hm⟩ := k1; exact DataW.trod_lt m _ _ _ hm
  obtain ⟨a0, len0, cap0, rfl⟩ := okWide_slice Try.underlying23 (hval 0 23 v0 rfl rfl)
  obtain ⟨l0, w0, u0, x0⟩ := open_bytesc Try.underlying23 Try.underlying5 (by kernel_rfl) h0
  obtain ⟨a1, rfl, _, _, w1⟩ := open_int Try.underlying3 (hval 1 3 v1 rfl rfl) h1
  clear hA0 hval0
  refine (CborJust_walk W a0 len0 cap0 l0 w0 u0 x0 a1 w1).mono fun e W' ⟨he, bel⟩ => ?_
  subst he
  exact ⟨_, rfl, _, _, _, [], _, [], hW', trodAll_mk1 (shut_bool Try.underlying4 _), (trodAll_cons_mk (Below.trod laidOut (by kernel_rfl) (of_decide_eq_true (by kernel_rfl)) k0 bel lt0) (trodAll_cons_mk (Below.trod laidOut (by kernel_rfl) (of_decide_eq_true (by kernel_rfl)) k1 bel lt1) trodAll_mk0)), rfl, bel.frame _, fun h => by cases h⟩

theorem over : Rows.cborJustRow.holds Try.pinned (OpenSpec.ofChange Rows.cborJustSpec) :=
  OpenClaim.holds_of_wide 6 Try.f6 rfl rfl rfl rfl rfl rfl rfl ⟨rfl, rfl, rfl, rfl, rfl⟩ rfl rfl rfl rfl rfl (by kernel_rfl) Try.func6 (by kernel_rfl)
    (of_decide_eq_true (by kernel_rfl)) (by unfold Func.isWrapper; first | (rw [if_pos (by decide +kernel)]; kernel_rfl) | (rw [if_neg (by decide +kernel)]; exact ⟨rfl, rfl⟩))
    (fun os started H enc _ => lifted os started H enc)

theorem proved : Rows.CborJustSaid := over
#print axioms proved
end Go.Proofs.Ytambhapgjonmmaa.lawCborJust
