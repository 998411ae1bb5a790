/- CborReads: the walk. The law CborReads holds for every input: its walk, lifted to the given statement. -/
import Derived.Test.YtambhapgjonmmaaKZ
import Derived.Test.YtambhapgjonmmaaOpen2
namespace Go.Proofs.Ytambhapgjonmmaa
open Go.RowKit
set_option linter.unusedVariables false
set_option linter.unusedSimpArgs false

set_option maxRecDepth 100000 in
set_option maxHeartbeats 16000000 in
theorem CborReads_walk (w : World) (a : Option Addr) (n c : Nat) (L : List UInt8) (h : RdB w a n L) (hz : a = none → c = 0) (hc : n ≤ c) (d : Int) (hd : (Lit.int .i64 d).wf = true) :
    Calls Try.prog 4 #[.slice a n c, .int .i64 d] w fun e w' => e = .returned (.bool true) ∧ Below w.heap.size w w' := by
  obtain ⟨hd1, hd2⟩ := wf_i64 hd
  have HRD : Hid (∀ W, Below w.heap.size w W → RdB W a n L) := Lib.hid (fun W hW => h.keep hW)
  have HL : Hid (L.length = n) := Lib.hid h.1
  have CD := Lib.hid (fun W (hW : RdB W a n L) (hn : n ≤ 2000) => decode_calls28 a n c L W hW hz hc (by omega) d hd1 hd2)
  have CR := Lib.hid (fun W (hW : RdB W a n L) (hn : n ≤ 2000) => rdecode_calls28 a n c L W hW hz hc (by omega) d hd1 hd2)
  clear h hz hd
  go_enter Try.func4, Try.ntmps4
  go_wp2_with fail
  refine (awake28 _).mono ?_
  rintro e w1 ⟨rfl, hb1⟩
  have HB1 := Lib.hid hb1
  clear hb1
  by_cases hlen : 2000 < n
  · have d0 : decide (2000 < (n : Int)) = true := by simp; omega
    have d0n : decide (2000 < n) = true := by simp; omega
    clear hlen
    go_wp2_with fail
    go_ret
    exact ⟨rfl, HB1.out⟩
  have d0 : decide (2000 < (n : Int)) = false := by simp; omega
  have d0n : decide (2000 < n) = false := by simp; omega
  go_wp2_with fail
  refine (CD.out w1 (HRD.out _ HB1.out) (by omega)).mono ?_
  rintro e w4 h4
  obtain ⟨k1, n1, ab1, nb1, cb1, text1, ak1, nk1, ck1, rfl, hrd1, hb4⟩ := decO_form h4
  obtain ⟨er, her⟩ : ∃ x, x = (fltE (decQ L d)).1 := ⟨_, rfl⟩
  obtain ⟨at1, hat⟩ : ∃ x, x = (fltE (decQ L d)).2 := ⟨_, rfl⟩
  have HER := Lib.hid her
  have HAT := Lib.hid hat
  have HW5 : Hid ((itE (decQ L d)).wt ≤ 100000) := by
    show _ ≤ _
    cases hR : decQ L d with
    | error p => show I.wt (.mk 0 0 [] ⟨#[]⟩ .nil) ≤ _; decide
    | ok y =>
      obtain ⟨x, q⟩ := y
      have := (dec_just hR).2.2.2
      have := HL.out
      show x.wt ≤ _
      omega
  rw [← her, ← hat]
  clear h4 her hat
  go_upto_region 6 with fail
  obtain ⟨wc, hwn⟩ : ∃ W, W = (w4.alloc (.cells #[.int .i64 k1, .int .u64 (n1 : Nat), .slice ab1 nb1 cb1, .string text1, .slice ak1 nk1 ck1] 26)).alloc (.cells #[.int .i64 (er : Nat), .int .i64 (at1 : Nat), .slice none 0 0] 35) := ⟨_, rfl⟩
  obtain ⟨g1, hgi⟩ : ∃ g, g = w4.heap.size := ⟨_, rfl⟩
  obtain ⟨g2, hgf⟩ : ∃ g, g = w4.heap.size + 1 := ⟨_, rfl⟩
  rw [← hwn, ← hgf, ← hgi]
  obtain ⟨hbi_wc, hbf_wc, hbb_wc⟩ : ItBx wc g1 k1 n1 ab1 nb1 cb1 text1 ak1 nk1 ck1 ∧ FB3 wc g2 er at1 ∧ Below w4.heap.size w4 wc := by
    rw [hwn, hgi, hgf]
    exact two_boxes w4 k1 n1 ab1 nb1 cb1 text1 ak1 nk1 ck1 er at1 _ _
  clear hwn hgi hgf
  have HBC : Hid (Below w.heap.size w wc) := HB1.out.trans ((bel3 hb4 hbb_wc).mono HB1.out.size)
  have HI1 := Lib.hid hbi_wc
  have HF1 := Lib.hid hbf_wc
  have HR1 := Lib.hid (hrd1.below hbb_wc)
  clear hb4 hrd1 hbi_wc hbf_wc hbb_wc CD
  go_wp2_with fail
  refine (CR.out wc (HRD.out _ HBC.out) (by omega)).mono ?_
  rintro e w5 h5
  obtain ⟨k2, n2, ab2, nb2, cb2, text2, ak2, nk2, ck2, rfl, hrd2, hb5⟩ := decO_form h5
  rw [← HER.out, ← HAT.out]
  clear h5
  go_upto_region 7 with fail
  obtain ⟨wd, hwn⟩ : ∃ W, W = (w5.alloc (.cells #[.int .i64 k2, .int .u64 (n2 : Nat), .slice ab2 nb2 cb2, .string text2, .slice ak2 nk2 ck2] 26)).alloc (.cells #[.int .i64 (er : Nat), .int .i64 (at1 : Nat), .slice none 0 0] 35) := ⟨_, rfl⟩
  obtain ⟨g3, hgi⟩ : ∃ g, g = w5.heap.size := ⟨_, rfl⟩
  obtain ⟨g4, hgf⟩ : ∃ g, g = w5.heap.size + 1 := ⟨_, rfl⟩
  rw [← hwn, ← hgf, ← hgi]
  obtain ⟨hbi_wd, hbf_wd, hbb_wd⟩ : ItBx wd g3 k2 n2 ab2 nb2 cb2 text2 ak2 nk2 ck2 ∧ FB3 wd g4 er at1 ∧ Below w5.heap.size w5 wd := by
    rw [hwn, hgi, hgf]
    exact two_boxes w5 k2 n2 ab2 nb2 cb2 text2 ak2 nk2 ck2 er at1 _ _
  clear hwn hgi hgf
  have hcd := bel3 hb5 hbb_wd
  have HBD : Hid (Below w.heap.size w wd) := HBC.out.trans (hcd.mono HBC.out.size)
  have HI3 := Lib.hid hbi_wd
  have HF3 := Lib.hid hbf_wd
  have HI1' := Lib.hid (HI1.out.keep hcd)
  have HF1' := Lib.hid (HF1.out.keep hcd)
  have HR2 := Lib.hid (hrd2.below hbb_wd)
  have HR1' := Lib.hid (HR1.out.below hcd)
  clear hb5 hrd2 hbi_wd hbf_wd hbb_wd hcd CR HER HAT HI1 HF1 HR1
  obtain ⟨z0, z1, z2⟩ := HF1'.out
  obtain ⟨y0, y1, y2⟩ := HF3.out
  go_wp2_with fail
  refine (same_fault (er : Nat) (at1 : Nat) _).mono ?_
  rintro e w6 ⟨rfl, hb6⟩
  clear z0 z1 z2 y0 y1 y2
  obtain ⟨f0, f1, f2, f3, f4, l0⟩ := HI1'.out.keep hb6
  obtain ⟨e0, e1, e2, e3, e4, l1⟩ := HI3.out.keep hb6
  have CS := Lib.hid (same28_all 100000 (by omega) _ HW5.out w6 _ _ (HR1'.out.below hb6) (HR2.out.below hb6))
  have HB6 := Lib.hid hb6
  clear hb6
  go_wp2_with fail
  refine CS.out.mono ?_
  rintro e w7 ⟨rfl, hb7⟩
  have HB7 := Lib.hid hb7
  clear hb7 CS f0 f1 f2 f3 f4 l0 e0 e1 e2 e3 e4 l1
  go_wp2_with fail
  go_ret
  exact ⟨rfl, HBD.out.trans ((bel3 HB6.out HB7.out).mono HBD.out.size)⟩

end Go.Proofs.Ytambhapgjonmmaa

namespace Go.Proofs.Ytambhapgjonmmaa.lawCborReads
open Go.ChangeShapes Go.WideShapes Go.ChangeAt Go.RowKit Go.Proofs.Ytambhapgjonmmaa
open Go.ChangeMaps (open_string shut_string)
set_option linter.unusedVariables false
set_option linter.unusedSimpArgs false

theorem own : ownKnob Try.prog.godebug = none := by kernel_rfl
theorem laidOut : laidOutB Try.prog = true := by kernel_rfl

set_option maxRecDepth 100000 in
theorem lifted (os : Os) (started : os.Started) (H : Type) (enc : TypeId × Value → H) :
    ReturnsInHanded {} Try.checked os 4 .any (Rows.cborReadsSpec.pre6 enc Try.prog Try.f4 Rows.cborReadsRow.domain false) (Rows.cborReadsSpec.post enc Try.prog Try.f4 false true false false) := by
  refine returnsInHanded_of_change (C := Try.checked) own started (by kernel_rfl) Try.func4
    (ChangeSpec.witness6 (enc := enc) (C := Try.checked) false ⟨#[], #[.slice none 0 0, .int .i64 0], []⟩ 8 (by kernel_rfl) (by kernel_rfl) (by kernel_rfl) (by kernel_rfl)) ?_
  intro W base args ds gs before hval0 hW hcnd _
  have hval : ∀ (j : Nat) t v, Try.f4.params[j]? = some t → args[j]? = some v → Value.okWide Try.prog W .any base t v := hval0
  have hW' := hW
  obtain ⟨p, q, hA0, hV, rfl, hfz, hnd⟩ := hW
  have hA : DataW.TrodAll enc Try.prog W 0 (fun _ => true) true Try.f4.params.toList args.toList ds p := hA0
  rw [Try.params4] at hA hval
  obtain ⟨v0, vs0, d0, ds0, p0, q0, hargs, rfl, rfl, h0, r0⟩ := trodAll_cons hA
  obtain ⟨v1, vs1, d1, ds1, p1, q1, rfl, rfl, rfl, h1, r1⟩ := trodAll_cons r0
  obtain ⟨rfl, rfl, rfl⟩ := trodAll_nil r1
  obtain rfl : args = #[v0, v1] := by cases args; simp_all
  obtain ⟨rfl, rfl⟩ := trodVars_none hV
  have k0 := h0
  have lt0 : ∀ x ∈ p0, x.block < W.heap.size := by obtain ⟨m, hm⟩ := k0; exact DataW.trod_lt m _ _ _ hm
  have k1 := h1
  have lt1 : ∀ x ∈ p1, x.block < W.heap.size := by obtain ⟨m, hm⟩ := k1; exact DataW.trod_lt m _ _ _ hm
  obtain ⟨a0, len0, cap0, rfl⟩ := okWide_slice Try.underlying23 (hval 0 23 v0 rfl rfl)
  obtain ⟨l0, w0, u0, x0⟩ := open_bytesc Try.underlying23 Try.underlying5 (by kernel_rfl) h0
  obtain ⟨a1, rfl, _, _, w1⟩ := open_int Try.underlying3 (hval 1 3 v1 rfl rfl) h1
  clear hA0 hval0
  refine (CborReads_walk W a0 len0 cap0 l0 w0 u0 x0 a1 w1).mono fun e W' ⟨he, bel⟩ => ?_
  subst he
  exact ⟨_, rfl, _, _, _, [], _, [], hW', trodAll_mk1 (shut_bool Try.underlying4 _), (trodAll_cons_mk (Below.trod laidOut (by kernel_rfl) (of_decide_eq_true (by kernel_rfl)) k0 bel lt0) (trodAll_cons_mk (Below.trod laidOut (by kernel_rfl) (of_decide_eq_true (by kernel_rfl)) k1 bel lt1) trodAll_mk0)), rfl, bel.frame _, fun h => by cases h⟩

theorem over : Rows.cborReadsRow.holds Try.pinned (OpenSpec.ofChange Rows.cborReadsSpec) :=
  OpenClaim.holds_of_wide 4 Try.f4 rfl rfl rfl rfl rfl rfl rfl ⟨rfl, rfl, rfl, rfl, rfl⟩ rfl rfl rfl rfl rfl (by kernel_rfl) Try.func4 (by kernel_rfl)
    (of_decide_eq_true (by kernel_rfl)) (by unfold Func.isWrapper; first | (rw [if_pos (by decide +kernel)]; kernel_rfl) | (rw [if_neg (by decide +kernel)]; exact ⟨rfl, rfl⟩))
    (fun os started H enc _ => lifted os started H enc)

theorem proved : Rows.CborReadsSaid := over
#print axioms proved
end Go.Proofs.Ytambhapgjonmmaa.lawCborReads
