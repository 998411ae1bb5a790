/- CborWrites, walked. -/
import Derived.Test.YtambhapgjonmmaaCbS
import Derived.Test.YtambhapgjonmmaaCbK
import Derived.Test.YtambhapgjonmmaaCbC
import Derived.Test.YtambhapgjonmmaaIOpen
namespace Go.Proofs.Ytambhapgjonmmaa
open Go.RowKit
set_option linter.unusedVariables false
set_option linter.unusedSimpArgs false

theorem bel2 {a b c : World} (h : Below a.heap.size a b) (k : Below b.heap.size b c) : Below a.heap.size a c := h.trans (k.mono h.size)

set_option maxRecDepth 100000 in
set_option maxHeartbeats 8000000 in
theorem CborWrites_walk (w : World) (c : Array Value) (x : I) (h : RdIt (fun _ => True) w x c) :
    Calls Try.prog 3 #[.agg c] w fun e w' => e = .returned (.bool true) ∧ Below w.heap.size w w' := by
  have CA := Lib.hid awake28
  have CS := Lib.hid (fun W (h : RdIt (fun _ => True) W x c) => small28 x W c h)
  have CE := Lib.hid (fun hx W (h : RdIt (fun _ => True) W x c) => encode28 x hx W c h)
  have CR := Lib.hid (fun hx W (h : RdIt (fun _ => True) W x c) => rencode28 x hx W c h)
  have CK := Lib.hid (fun hx W (h : RdIt (fun _ => True) W x c) => check_calls28 x hx W c h)
  have CQ := Lib.hid (fun hx W (h : RdIt (fun _ => True) W x c) => rchk_all 100000 (by omega) x hx W c h)
  have HSM := Lib.hid (fun h : smallI x = true => smallI_wt h)
  have H0 := Lib.hid h
  obtain ⟨k, n, ab, nb, cb, text, ak, nk, ck, rfl⟩ := h.shape
  obtain ⟨wa, hwa⟩ : ∃ W, W = w.alloc (.cells #[.int .i64 k, .int .u64 (n : Nat), .slice ab nb cb, .string text, .slice ak nk ck] 26) := ⟨_, rfl⟩
  obtain ⟨gb, hgb⟩ : ∃ q, q = w.heap.size := ⟨_, rfl⟩
  have hba : Below w.heap.size w wa := by rw [hwa]; exact (Below.refl _ _).alloc (Nat.le_refl _) _
  have hxa : ItBx wa gb k n ab nb cb text ak nk ck := by rw [hwa, hgb]; exact ItBx.new _ _ _ _ _ _ _ _ _ _ _
  have HXa := Lib.hid hxa
  have HBA := Lib.hid hba
  have HRA := Lib.hid (h.below hba)
  clear h hba hxa
  go_enter Try.func3, Try.ntmps3
  go_upto_region 1 with fail
  rw [← hwa, ← hgb]
  clear hwa hgb
  go_wp2_with fail
  refine (CA.out _).mono ?_
  rintro e w1 ⟨rfl, hb1⟩
  have HB1 := Lib.hid hb1
  clear hb1 CA
  obtain ⟨f0, f1, f2, f3, f4, l0⟩ := HXa.out.keep HB1.out
  go_wp2_with fail
  refine (CS.out _ (HRA.out.below HB1.out)).mono ?_
  rintro e w2 ⟨rfl, hb2⟩
  have HB2 : Hid (Below wa.heap.size wa w2) := HB1.out.trans (hb2.mono HB1.out.size)
  clear hb2 CS f0 f1 f2 f3 f4 l0
  cases hs : smallI x with
  | false =>
    go_wp2_with fail
    go_ret
    exact ⟨rfl, HBA.out.trans (HB2.out.mono HBA.out.size)⟩
  | true =>
  have hx := HSM.out hs
  have HX := Lib.hid hx
  clear hs hx HSM
  obtain ⟨f0, f1, f2, f3, f4, l0⟩ := HXa.out.keep HB2.out
  go_wp2_with fail
  refine (CE.out (by have := HX.out; omega) _ (HRA.out.below HB2.out)).mono ?_
  rintro e w3 ⟨a3, m3, c3, rfl, hr3, -, -, hb3⟩
  have HR3 := Lib.hid hr3
  have HB3 : Hid (Below wa.heap.size wa w3) := HB2.out.trans (hb3.mono HB2.out.size)
  clear hr3 hb3 f0 f1 f2 f3 f4 l0
  obtain ⟨f0, f1, f2, f3, f4, l0⟩ := HXa.out.keep HB3.out
  go_wp2_with fail
  refine (CR.out (by have := HX.out; omega) _ (HRA.out.below HB3.out)).mono ?_
  rintro e w4 ⟨a4, m4, c4, rfl, hr4, -, -, hb4⟩
  have HR4 := Lib.hid hr4
  have HB4 : Hid (Below wa.heap.size wa w4) := HB3.out.trans (hb4.mono HB3.out.size)
  have HK4 := Lib.hid hb4
  clear hr4 hb4 f0 f1 f2 f3 f4 l0
  have f0 := (HXa.out.keep HB4.out).1
  have f1 := (HXa.out.keep HB4.out).2.1
  have f2 := (HXa.out.keep HB4.out).2.2.1
  have f3 := (HXa.out.keep HB4.out).2.2.2.1
  have f4 := (HXa.out.keep HB4.out).2.2.2.2.1
  have l0 := (HXa.out.keep HB4.out).2.2.2.2.2
  obtain ⟨L, hL⟩ : ∃ L, L = if errI x = 0 then layI x else [] := ⟨_, rfl⟩
  rw [← hL] at HR3 HR4
  obtain ⟨E, hE⟩ : ∃ E, E = errI x := ⟨_, rfl⟩
  have CK2 : Hid (∀ W, RdIt (fun _ => True) W x #[.int .i64 k, .int .u64 (n : Nat), .slice ab nb cb, .string text, .slice ak nk ck] → Calls Try.prog 13 #[.agg #[.int .i64 k, .int .u64 (n : Nat), .slice ab nb cb, .string text, .slice ak nk ck]] W fun e w' => e = .returned (.int .i64 (E : Nat)) ∧ Below W.heap.size W w') := fun W h => by rw [hE]; exact CK.out (by have := HX.out; omega) W h
  have CQ2 : Hid (∀ W, RdIt (fun _ => True) W x #[.int .i64 k, .int .u64 (n : Nat), .slice ab nb cb, .string text, .slice ak nk ck] → Calls Try.prog 14 #[.agg #[.int .i64 k, .int .u64 (n : Nat), .slice ab nb cb, .string text, .slice ak nk ck]] W fun e w' => e = .returned (.int .i64 (E : Nat)) ∧ Below W.heap.size W w') := fun W h => by rw [hE]; exact CQ.out (by have := HX.out; omega) W h
  rw [← hE]
  have hck : ((E : Int) == (E : Int)) = true := by simp
  clear CK CQ CE CR hL hE
  have HSS : Hid (∀ W, Below w4.heap.size w4 W → ((convert 23 9 (.slice a3 m3 c3)).run Try.prog W = .ok (.string (txt L)) W ∧ (convert 23 9 (.slice a4 m4 c4)).run Try.prog W = .ok (.string (txt L)) W ∧
      W.cell? ⟨gb, 0, none⟩ = some (.int .i64 k) ∧ W.cell? ⟨gb, 1, none⟩ = some (.int .u64 (n : Nat)) ∧ W.cell? ⟨gb, 2, none⟩ = some (.slice ab nb cb) ∧ W.cell? ⟨gb, 3, none⟩ = some (.string text) ∧ W.cell? ⟨gb, 4, none⟩ = some (.slice ak nk ck))) := by
    show ∀ W, _
    intro W hW
    have hX := (HXa.out.keep (HB4.out.trans (hW.mono HB4.out.size)))
    exact ⟨conv_str ((HR3.out.keep HK4.out).keep hW) c3, conv_str (HR4.out.keep hW) c4, hX.1, hX.2.1, hX.2.2.1, hX.2.2.2.1, hX.2.2.2.2.1⟩
  obtain ⟨T, hT⟩ : ∃ T, T = txt L := ⟨_, rfl⟩
  rw [← hT] at HSS
  have HR : Hid (∀ W, Below w4.heap.size w4 W → RdIt (fun _ => True) W x #[.int .i64 k, .int .u64 (n : Nat), .slice ab nb cb, .string text, .slice ak nk ck]) := fun W hW => HRA.out.below (HB4.out.trans (hW.mono HB4.out.size))
  obtain ⟨cv3, cv4, -⟩ := HSS.out w4 (Below.refl _ _)
  clear hT HR3 HR4
  go_wp2_with fail
  go_region_held3 (fun W => (convert 23 9 (.slice a3 m3 c3)).run Try.prog W = .ok (.string T) W ∧ (convert 23 9 (.slice a4 m4 c4)).run Try.prog W = .ok (.string T) W ∧
      W.cell? ⟨gb, 0, none⟩ = some (.int .i64 k) ∧ W.cell? ⟨gb, 1, none⟩ = some (.int .u64 (n : Nat)) ∧ W.cell? ⟨gb, 2, none⟩ = some (.slice ab nb cb) ∧ W.cell? ⟨gb, 3, none⟩ = some (.string text) ∧ W.cell? ⟨gb, 4, none⟩ = some (.slice ak nk ck)) ((with_reducible refine HSS.out _ ?_; (repeat' (first | with_reducible exact HY.out | with_reducible exact HZ.out | with_reducible refine Below.drew ?_ | with_reducible exact Below.refl _ _))))
    ((first
      | (go_at_call 13; (with_reducible refine (CK2.out _ ?_).mono ?_); (case _ => (with_reducible refine HR.out _ ?_; (repeat' (first | with_reducible exact HZ.out | with_reducible refine Below.drew ?_ | with_reducible exact Below.refl _ _)))); rintro e w5 ⟨rfl, hb5⟩; have HY := Lib.hid (bel2 (a := w4) (by (repeat' (first | with_reducible exact HZ.out | with_reducible refine Below.drew ?_ | with_reducible exact Below.refl _ _))) hb5); clear hb5)
      | (go_at_call 14; (with_reducible refine (CQ2.out _ ?_).mono ?_); (case _ => (with_reducible refine HR.out _ ?_; (repeat' (first | with_reducible exact HY.out | with_reducible refine Below.drew ?_ | with_reducible exact Below.refl _ _)))); rintro e w6 ⟨rfl, hb6⟩; have HZ := Lib.hid (bel2 (a := w4) (by (repeat' (first | with_reducible exact HY.out | with_reducible refine Below.drew ?_ | with_reducible exact Below.refl _ _))) hb6); clear hb6)
      | fail))
  all_goals
    go_wp2_with fail
    go_ret
    refine ⟨rfl, ?_⟩
    exact HBA.out.trans ((HB4.out.trans (Below.mono (by first | with_reducible exact HY.out | with_reducible exact HZ.out) HB4.out.size)).mono HBA.out.size)

end Go.Proofs.Ytambhapgjonmmaa
