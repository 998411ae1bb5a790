/- The reference's print, walked. -/
import Derived.Test.YtamhdoijmkjngaaRChk
import Derived.Lib.SlBytesConst
namespace Go.Proofs.Ytamhdoijmkjngaa
open Go.RowKit
set_option linter.unusedVariables false
set_option linter.unusedSimpArgs false

def PrtSaid (d : Nat) : Prop := ∀ (j : J), wtJ j ≤ d → checkJ j = 0 → wtJ j ≤ 80000 → ∀ (S : Nat → Prop) (w : World) (c : Array Value), RdJ S w j c →
  Calls Try.prog 40 #[.agg c] w fun e w' => (∃ v, e = .returned v ∧ SrcB w' v (printJ j)) ∧ Below w.heap.size w w'

theorem cell_mk {w : World} {C : Array Value} {t : TypeId} {mk : Nat × Nat} {n i : Nat} {v : Value} (hn : n = w.heap.size) (hv : C[i]? = some v) : (w.alloc (.cells C t mk)).cell? ⟨n, i, none⟩ = some v := by
  subst hn
  rw [cell_of_row _ w.heap.size i _ _ _ (heap_alloc_new w _)]
  exact hv

theorem SrcB.below {w w' : World} {v : Value} {l : List UInt8} (h : SrcB w v l) (hb : Below w.heap.size w w') : SrcB w' v l := by
  obtain ⟨a, m, c, rfl, hr, hc⟩ := h
  exact ⟨a, m, c, rfl, hr.keep hb, hc⟩

def PrRel (w1 : World) (g : Nat) (obj : Bool) (m : M) (u i : Value) (wr : World) : Prop :=
  ∃ (j : Nat) (cur : List UInt8), i = .int .i64 j ∧ j ≤ m.len ∧ Hid (printM obj true m = cur ++ printM obj (decide (j = 0)) (m.drop j)) ∧ OwnB wr (g + 1) u cur ∧ Below (g + 1) w1 wr ∧ cur.length + 8 * wtM (m.drop j) ≤ 640000

theorem pr_rel {w1 w' : World} {g : Nat} {obj : Bool} {m : M} {u' i : Value} {j : Nat} {cur : List UInt8} {n : List UInt8} {vv : J} (hx : m.get? j = some (n, vv)) (hall : printM obj true m = cur ++ printM obj (decide (j = 0)) (m.drop j))
    (ho : OwnB w' (g + 1) u' (cur ++ ((if decide (j = 0) then [] else [44]) ++ (named obj n ++ printJ vv)))) (hb : Below (g + 1) w1 w') (hj : j < m.len) (hi : i = .int .i64 ((j : Int) + 1)) (hw : cur.length + 8 * wtM (m.drop j) ≤ 640000) : PrRel w1 g obj m u' i w' := by
  refine ⟨j + 1, _, by rw [hi]; simp, hj, ?_, ho, hb, ?_⟩
  · show _ = _
    rw [hall, M.drop_get m j n vv hx, printM]
    simp
  · have g1 := (wtM_get m j n vv hx).1
    have g2 := print_wt vv
    have g3 := quoteL_len n
    have g4 := quoteM_len n
    have g5 : (named obj n).length ≤ 6 * n.length + 3 := by
      unfold named
      cases obj
      · simp
      · simp only [if_true, List.length_append, List.length_cons, List.length_nil]; omega
    have g6 : (if decide (j = 0) then ([] : List UInt8) else [44]).length ≤ 1 := by cases decide (j = 0) <;> simp
    simp only [List.length_append]
    omega

set_option maxRecDepth 100000 in
set_option maxHeartbeats 16000000 in
theorem prt_step (d : Nat) (hof : PrtSaid d) : PrtSaid (d + 1) := by
  intro j hj hck hw8 S w c h
  obtain ⟨k, t, m⟩ := j
  obtain ⟨x, ak, nk, ck, rfl, hxt, hxs, hkb, hml, hnk, hks⟩ := h
  obtain ⟨hk7, _, _, _, _, hw5, hcm⟩ := checkJ_parts hck
  have hwt : wtJ (.mk k t m) = 2 + t.length + wtM m := rfl
  rw [hwt] at hj hw8
  have hxl : x.size = t.length := by rw [← hxt, sl_len]
  have hml2 := wtM_len m
  rw [hml] at hml2
  have HOF := Lib.hid hof
  have HKS := Lib.hid (hks.imp (S' := fun k => k < w.heap.size) (fun k h _ => h))
  have HXT := Lib.hid hxt
  have HML := Lib.hid hml
  have HCM := Lib.hid hcm
  have hnk9 := hnk.1
  clear hof hks hml hnk hck hwt
  have hbox : Below w.heap.size w (w.alloc (.cells (jCells k x ak nk ck) 24)) := (Below.refl _ _).alloc (Nat.le_refl _) _
  have HBX := Lib.hid hbox
  clear hbox
  have hk : k = 1 ∨ k = 2 ∨ k = 3 ∨ k = 4 ∨ k = 5 ∨ k = 6 ∨ k = 7 := by omega
  clear hkb hk7
  rcases hk with rfl | rfl | rfl | rfl | rfl | rfl | rfl
  · have HP : printJ (.mk 1 t m) = [110, 117, 108, 108] := by rw [printJ]; rfl
    rw [HP]
    have kc1 := Lib.run_convert_bytes_const (P := Try.prog) (w.alloc (.cells (jCells 1 x ak nk ck) 24)) 47 5 #[.int .u8 110, .int .u8 117, .int .u8 108, .int .u8 108] 4 4 Try.underlying47 Try.underlying5
    have hsa : (w.alloc (.cells (jCells 1 x ak nk ck) 24)).heap.size = w.heap.size + 1 := by simp
    rw [hsa] at kc1
    clear hsa
    go_enter Try.func40, Try.ntmps40
    go_wp2_with fail
    go_ret
    refine ⟨⟨_, rfl, _, 4, 4, rfl, ⟨rfl, by omega, fun i hi => ⟨_, 0, rfl, ?_⟩⟩, by simp⟩, HBX.out.alloc (by simp) _⟩
    match i, hi with
    | 0, _ => exact cell_mk (by simp) rfl
    | 1, _ => exact cell_mk (by simp) rfl
    | 2, _ => exact cell_mk (by simp) rfl
    | 3, _ => exact cell_mk (by simp) rfl
  · have HP : printJ (.mk 2 t m) = [102, 97, 108, 115, 101] := by rw [printJ]; rfl
    rw [HP]
    have kc1 := Lib.run_convert_bytes_const (P := Try.prog) (w.alloc (.cells (jCells 2 x ak nk ck) 24)) 47 5 #[.int .u8 102, .int .u8 97, .int .u8 108, .int .u8 115, .int .u8 101] 5 5 Try.underlying47 Try.underlying5
    have hsa : (w.alloc (.cells (jCells 2 x ak nk ck) 24)).heap.size = w.heap.size + 1 := by simp
    rw [hsa] at kc1
    clear hsa
    go_enter Try.func40, Try.ntmps40
    go_wp2_with fail
    go_ret
    refine ⟨⟨_, rfl, _, 5, 5, rfl, ⟨rfl, by omega, fun i hi => ⟨_, 0, rfl, ?_⟩⟩, by simp⟩, HBX.out.alloc (by simp) _⟩
    match i, hi with
    | 0, _ => exact cell_mk (by simp) rfl
    | 1, _ => exact cell_mk (by simp) rfl
    | 2, _ => exact cell_mk (by simp) rfl
    | 3, _ => exact cell_mk (by simp) rfl
    | 4, _ => exact cell_mk (by simp) rfl
  · have HP : printJ (.mk 3 t m) = [116, 114, 117, 101] := by rw [printJ]; rfl
    rw [HP]
    have kc1 := Lib.run_convert_bytes_const (P := Try.prog) (w.alloc (.cells (jCells 3 x ak nk ck) 24)) 47 5 #[.int .u8 116, .int .u8 114, .int .u8 117, .int .u8 101] 4 4 Try.underlying47 Try.underlying5
    have hsa : (w.alloc (.cells (jCells 3 x ak nk ck) 24)).heap.size = w.heap.size + 1 := by simp
    rw [hsa] at kc1
    clear hsa
    go_enter Try.func40, Try.ntmps40
    go_wp2_with fail
    go_ret
    refine ⟨⟨_, rfl, _, 4, 4, rfl, ⟨rfl, by omega, fun i hi => ⟨_, 0, rfl, ?_⟩⟩, by simp⟩, HBX.out.alloc (by simp) _⟩
    match i, hi with
    | 0, _ => exact cell_mk (by simp) rfl
    | 1, _ => exact cell_mk (by simp) rfl
    | 2, _ => exact cell_mk (by simp) rfl
    | 3, _ => exact cell_mk (by simp) rfl
  · have HP : printJ (.mk 4 t m) = t := by rw [printJ]; rfl
    rw [HP]
    obtain ⟨cap3, w3, hrun, hb3, hs3, hr3, hz1, hz2⟩ := conv_bytes (w.alloc (.cells (jCells 4 x ak nk ck) 24)) x (by omega)
    rw [hxt] at hr3
    have HR3 := Lib.hid hr3
    have HB3 := Lib.hid (HBX.out.trans (hb3.mono (by simp)))
    clear hr3 hb3 hz2 hxt
    go_enter Try.func40, Try.ntmps40
    go_wp2_with fail
    go_ret
    exact ⟨⟨_, rfl, _, _, _, rfl, by simpa [hxl] using HR3.out, by simp⟩, HB3.out⟩
  · have HP : printJ (.mk 5 t m) = quoteL t := by rw [printJ]; rfl
    rw [HP]
    have hwh := hw5 rfl
    have CQ := fun W => Lib.hid ((rquote_calls x (by omega) W).mono (by rintro e w' ⟨h1, _, h3⟩; exact (show e = .returned (.tuple #[.string (txt (quoteL t)), .bool true]) ∧ Below _ _ w' from ⟨by rw [h1 (by rw [hxt, hxl]; exact hwh), hxt], h3⟩)))
    clear hwh hw5 hxt
    go_enter Try.func40, Try.ntmps40
    go_wp2_with fail
    refine (CQ _).out.mono ?_
    rintro e w2 ⟨rfl, hb2⟩
    have hql := quoteL_len t
    have hqm := quoteM_len t
    obtain ⟨cap3, w3, hrun, hb3, hs3, hr3, hz1, hz2⟩ := conv_bytes w2 (txt (quoteL t)) (by rw [← sl_len, sl_txt]; omega)
    rw [sl_txt] at hr3
    have HR3 := Lib.hid hr3
    have HB2 := Lib.hid (HBX.out.trans (hb2.mono (by simp)))
    have HB3 := Lib.hid (HB2.out.trans (hb3.mono HB2.out.size))
    clear hr3 hb2 hb3 hz2
    go_wp2_with fail
    go_ret
    exact ⟨⟨_, rfl, _, _, _, rfl, HR3.out, by simp⟩, HB3.out⟩
  · have HP : printJ (.mk 6 t m) = 91 :: (printM false true m ++ [93]) := by rw [printJ]; rfl
    rw [HP]
    go_enter Try.func40, Try.ntmps40
    go_wp2_with fail
    go_loopw [3, 6] (fun u i wr => PrRel (w.alloc (.cells (jCells 6 x ak nk ck) 24)) w.heap.size false m u i wr) (fun _ i _ => nk - (intOf i).toNat)
    case atStart => exact ⟨0, [], rfl, Nat.zero_le _, Lib.hid rfl, World.ownsRow_nil _ _ _ _, Below.refl _ _, by simp [M.drop]; omega⟩
    case round =>
      obtain ⟨j, cur, rfl, hjm, hall, hou, hbl, hcw⟩ := hrel
      have f0 : wr.cell? ⟨w.heap.size, 0, none⟩ = some (.int .i64 6) := below_cellB hbl (by simp [go_sem]) (by simp)
      have f2 : wr.cell? ⟨w.heap.size, 2, none⟩ = some (.slice ak nk ck) := below_cellB hbl (by simp [go_sem]) (by simp)
      have hsz : w.heap.size + 1 ≤ wr.heap.size := by have := hbl.size; simpa using this
      have hBW := HBX.out.trans (hbl.mono (by omega))
      have HBW := Lib.hid hBW
      have HBL := Lib.hid hbl
      have HOU := Lib.hid hou
      rw [HML.out] at hjm
      clear hou hbl hBW
      by_cases hlt : j < nk
      · obtain ⟨⟨n, vv⟩, hx⟩ := M.get_some m j (by rw [HML.out]; exact hlt)
        have hwg := wtM_get m j n vv hx
        have hcg := checkM_get m j n vv HCM.out hx
        obtain ⟨b0, o0, y, k', t', x', m', ak', nk', ck', rfl, rfl, e1, e2, e3, e4, e5, e6, e7, g0w, g1w, g2w, g3w⟩ := (HKS.out.at hx).cells
        have E7 := Lib.hid e7
        have HX := Lib.hid hx
        have hyl : y.size = n.length := by rw [← e1, sl_len]
        have hwy : wholeTo (sl y) = y.size := by rw [e1, hcg.1, hyl]
        have HC := Lib.hid (fun S W c => HOF.out _ (show wtJ (.mk k' t' m') ≤ d by omega) hcg.2 (show wtJ (.mk k' t' m') ≤ 80000 by omega) S W c)
        have HE1 := Lib.hid e1
        have hpw := print_wt (.mk k' t' m')
        have hcl2 : cur.length + 8 * (n.length + wtJ (.mk k' t' m')) ≤ 640000 := by omega
        have hj0 : (0 : Int) ≤ (j : Int) := by omega
        have hj1 : (j : Int) < (nk : Int) := by omega
        have hys : y.size ≤ 100000 := by omega
        have CQ := fun W => Lib.hid ((rquote_calls y (by omega) W).mono (by rintro e w' ⟨h1, _, h3⟩; exact (show e = .returned (.tuple #[.string (txt (quoteL (sl y))), .bool true]) ∧ Below _ _ w' from ⟨h1 hwy, h3⟩)))
        have hql : (quoteL (sl y)).length ≤ 6 * n.length + 2 := by
          have h1 := quoteL_len (sl y)
          have h2 := quoteM_len (sl y)
          rw [sl_len, hyl] at h2
          omega
        clear hwg hcg e1 e3 e4 e5 e7 hx hwy
        obtain ⟨P, hP⟩ : ∃ P, P = printJ (.mk k' t' m') := ⟨_, rfl⟩
        rw [← hP] at HC hpw
        have HPP := Lib.hid hP
        clear hP
        by_cases hjz : j = 0

        · subst hjz
          simp only [Nat.zero_mul, Nat.add_zero] at g0w g1w g2w g3w
          have HWL := Lib.hid (HBX.out.trans (HBL.out.mono (by omega)))
          have f0L : wr.cell? ⟨w.heap.size, 0, none⟩ = some (.int .i64 6) := below_cellB HBL.out (by simp [go_sem]) (by simp)
          have f2L : wr.cell? ⟨w.heap.size, 2, none⟩ = some (.slice (some ⟨b0, o0, none⟩) nk ck) := below_cellB HBL.out (by simp [go_sem]) (by simp)
          have hzL : w.heap.size + 1 ≤ wr.heap.size := by have := HBL.out.size; simpa using this
          have g0L := cell_below HWL.out g0w
          have g1L := cell_below HWL.out g1w
          have g2L := cell_below HWL.out g2w
          have g3L := cell_below HWL.out g3w
          have lbL : b0 < wr.heap.size := by omega
          have lwL : w.heap.size < wr.heap.size := by omega
          have HOL := HOU
          go_wp2_with fail
          refine (HC.out _ _ _ (E7.out.below HWL.out)).mono ?_
          rintro e wP ⟨⟨sv, rfl, hsv⟩, hbP⟩
          have HBP := Lib.hid (HBL.out.trans (hbP.mono hzL))
          have HOP := Lib.hid (HOL.out.keep hbP)
          have HSV := Lib.hid hsv
          clear hbP hsv
          have HWP := Lib.hid (HBX.out.trans (HBP.out.mono (by omega)))
          have f0P : wP.cell? ⟨w.heap.size, 0, none⟩ = some (.int .i64 6) := below_cellB HBP.out (by simp [go_sem]) (by simp)
          have f2P : wP.cell? ⟨w.heap.size, 2, none⟩ = some (.slice (some ⟨b0, o0, none⟩) nk ck) := below_cellB HBP.out (by simp [go_sem]) (by simp)
          have hzP : w.heap.size + 1 ≤ wP.heap.size := by have := HBP.out.size; simpa using this
          have g0P := cell_below HWP.out g0w
          have g1P := cell_below HWP.out g1w
          have g2P := cell_below HWP.out g2w
          have g3P := cell_below HWP.out g3w
          have lbP : b0 < wP.heap.size := by omega
          have lwP : w.heap.size < wP.heap.size := by omega
          go_wp2_with (at_builtin; refine wpList_appL (v := u3) (bs := _) (sv := sv) (l := P) (B := w.heap.size + 1) (by rfl) _ _ (by rfl) (by rfl) HOP.out (by rfl) HSV.out ?o3 ?o4 ?_)
          case o3 => first | omega | (simp; done) | (simp; omega)
          case o4 => first | omega | (simp; done) | (simp; omega)
          intro uZ wZ ho hl
          have HBZ := Lib.hid (hl.below HBP.out (by omega) (fun k hk => (owns_lt HOP.out k hk).1))
          have HOZ := Lib.hid ho
          clear ho hl
          go_wp2_with fail
          go_roundw
          case rel =>
            refine pr_rel HX.out hall.out ?_ HBZ.out (by rw [HML.out]; exact hlt) (by simp) hcw
            have e := HOZ.out
            rw [HPP.out] at e
            simpa [named, HE1.out] using e
          case measure => simp [intOf]; omega
        · have djz : decide ((0 : Int) < (j : Int)) = true := by simp; omega
          have HWL := Lib.hid (HBX.out.trans (HBL.out.mono (by omega)))
          have f0L : wr.cell? ⟨w.heap.size, 0, none⟩ = some (.int .i64 6) := below_cellB HBL.out (by simp [go_sem]) (by simp)
          have f2L : wr.cell? ⟨w.heap.size, 2, none⟩ = some (.slice (some ⟨b0, o0, none⟩) nk ck) := below_cellB HBL.out (by simp [go_sem]) (by simp)
          have hzL : w.heap.size + 1 ≤ wr.heap.size := by have := HBL.out.size; simpa using this
          have g0L := cell_below HWL.out g0w
          have g1L := cell_below HWL.out g1w
          have g2L := cell_below HWL.out g2w
          have g3L := cell_below HWL.out g3w
          have lbL : b0 < wr.heap.size := by omega
          have lwL : w.heap.size < wr.heap.size := by omega
          have HOL := HOU
          go_wp2_with (at_builtin; refine wpList_appL (v := u3) (bs := _) (sv := .slice (some ⟨wr.heap.size, 0, none⟩) 1 1) (l := [44]) (B := w.heap.size + 1) (by rfl) _ _ (by rfl) (by rfl) (HOL.out.alloc _) (by rfl) (by have := srcB_one wr 44 (by omega); simpa using this) ?o3 ?o4 ?_)
          case o3 => first | omega | (simp; done) | (simp; omega)
          case o4 => first | omega | (simp; done) | (simp; omega)
          intro uA wA ho hl
          have HBA := Lib.hid ((((LayF.fresh ((Below.refl _ _).alloc (Nat.le_refl _) _) u3).trans hl)).below HBL.out (by omega) (fun k hk => (owns_lt HOL.out k hk).1))
          have HOA := Lib.hid ho
          clear ho hl
          have HWA := Lib.hid (HBX.out.trans (HBA.out.mono (by omega)))
          have f0A : wA.cell? ⟨w.heap.size, 0, none⟩ = some (.int .i64 6) := below_cellB HBA.out (by simp [go_sem]) (by simp)
          have f2A : wA.cell? ⟨w.heap.size, 2, none⟩ = some (.slice (some ⟨b0, o0, none⟩) nk ck) := below_cellB HBA.out (by simp [go_sem]) (by simp)
          have hzA : w.heap.size + 1 ≤ wA.heap.size := by have := HBA.out.size; simpa using this
          have g0A := cell_below HWA.out g0w
          have g1A := cell_below HWA.out g1w
          have g2A := cell_below HWA.out g2w
          have g3A := cell_below HWA.out g3w
          have lbA : b0 < wA.heap.size := by omega
          have lwA : w.heap.size < wA.heap.size := by omega
          go_wp2_with fail
          refine (HC.out _ _ _ (E7.out.below HWA.out)).mono ?_
          rintro e wP ⟨⟨sv, rfl, hsv⟩, hbP⟩
          have HBP := Lib.hid (HBA.out.trans (hbP.mono hzA))
          have HOP := Lib.hid (HOA.out.keep hbP)
          have HSV := Lib.hid hsv
          clear hbP hsv
          have HWP := Lib.hid (HBX.out.trans (HBP.out.mono (by omega)))
          have f0P : wP.cell? ⟨w.heap.size, 0, none⟩ = some (.int .i64 6) := below_cellB HBP.out (by simp [go_sem]) (by simp)
          have f2P : wP.cell? ⟨w.heap.size, 2, none⟩ = some (.slice (some ⟨b0, o0, none⟩) nk ck) := below_cellB HBP.out (by simp [go_sem]) (by simp)
          have hzP : w.heap.size + 1 ≤ wP.heap.size := by have := HBP.out.size; simpa using this
          have g0P := cell_below HWP.out g0w
          have g1P := cell_below HWP.out g1w
          have g2P := cell_below HWP.out g2w
          have g3P := cell_below HWP.out g3w
          have lbP : b0 < wP.heap.size := by omega
          have lwP : w.heap.size < wP.heap.size := by omega
          go_wp2_with (at_builtin; refine wpList_appL (v := uA) (bs := _) (sv := sv) (l := P) (B := w.heap.size + 1) (by rfl) _ _ (by rfl) (by rfl) HOP.out (by rfl) HSV.out ?o3 ?o4 ?_)
          case o3 => first | omega | (simp; done) | (simp; omega)
          case o4 => first | omega | (simp; done) | (simp; omega)
          intro uZ wZ ho hl
          have HBZ := Lib.hid (hl.below HBP.out (by omega) (fun k hk => (owns_lt HOP.out k hk).1))
          have HOZ := Lib.hid ho
          clear ho hl
          go_wp2_with fail
          go_roundw
          case rel =>
            refine pr_rel HX.out hall.out ?_ HBZ.out (by rw [HML.out]; exact hlt) (by simp) hcw
            have e := HOZ.out
            rw [HPP.out] at e
            simpa [named, HE1.out, hjz] using e
          case measure => simp [intOf]; omega
      · have HD : Hid (printM false true m = cur) := by
          show _ = _
          rw [hall.out, M.drop_len m j (by rw [HML.out]; omega)]
          simp [printM]
        have hcl : cur.length ≤ 640000 := by omega
        have hs0 := HOU.out.srcB
        have HS0 := Lib.hid (hs0.below ((Below.refl _ _).alloc (Nat.le_refl _) (.cells #[.int .u8 91] 5)))
        clear hs0
        go_wp2_with (at_builtin; refine wpList_appL (v := .slice (some ⟨wr.heap.size, 0, none⟩) 1 1) (bs := _) (sv := u3) (l := cur) (B := w.heap.size + 1) (by rfl) _ _ (by rfl) (by rfl) (by have := own_fresh wr (w.heap.size + 1) 91 (by omega) hsz; simpa using this) (by rfl) HS0.out ?o3 ?o4 ?_)
        case o3 => first | omega | (simp; done) | (simp; omega)
        case o4 => first | omega | (simp; done) | (simp; omega)
        intro uA wA ho hl
        have HBA := Lib.hid (hl.below (HBL.out.alloc hsz (.cells #[.int .u8 91] 5)) (by simp; omega) (fun k hk => by simp [Value.ownBlock] at hk; omega))
        have HOA := Lib.hid ho
        have hzA : w.heap.size + 1 ≤ wA.heap.size := by have := HBA.out.size; simpa using this
        clear ho hl
        go_wp2_with (at_builtin; refine wpList_appL (v := uA) (bs := _) (sv := .slice (some ⟨wA.heap.size, 0, none⟩) 1 1) (l := [93]) (B := w.heap.size + 1) (by rfl) _ _ (by rfl) (by rfl) (HOA.out.alloc _) (by rfl) (by have := srcB_one wA 93 (by omega); simpa using this) ?o3 ?o4 ?_)
        case o3 => first | omega | (simp; done) | (simp; omega)
        case o4 => first | omega | (simp; done) | (simp; omega)
        intro uC wC ho hl
        have HBC := Lib.hid ((((LayF.fresh ((Below.refl _ _).alloc (Nat.le_refl _) _) uA).trans hl)).below HBA.out (by omega) (fun k hk => (owns_lt HOA.out k hk).1))
        have HOC := Lib.hid ho
        clear ho hl
        go_wp2_with fail
        go_ret
        refine ⟨⟨_, rfl, ?_⟩, HBX.out.trans (HBC.out.mono (by omega))⟩
        rw [HD.out]
        have e := HOC.out.srcB
        simpa using e
  · have HP : printJ (.mk 7 t m) = 123 :: (printM true true m ++ [125]) := by rw [printJ]; rfl
    rw [HP]
    go_enter Try.func40, Try.ntmps40
    go_wp2_with fail
    go_loopw [3, 6] (fun u i wr => PrRel (w.alloc (.cells (jCells 7 x ak nk ck) 24)) w.heap.size true m u i wr) (fun _ i _ => nk - (intOf i).toNat)
    case atStart => exact ⟨0, [], rfl, Nat.zero_le _, Lib.hid rfl, World.ownsRow_nil _ _ _ _, Below.refl _ _, by simp [M.drop]; omega⟩
    case round =>
      obtain ⟨j, cur, rfl, hjm, hall, hou, hbl, hcw⟩ := hrel
      have f0 : wr.cell? ⟨w.heap.size, 0, none⟩ = some (.int .i64 7) := below_cellB hbl (by simp [go_sem]) (by simp)
      have f2 : wr.cell? ⟨w.heap.size, 2, none⟩ = some (.slice ak nk ck) := below_cellB hbl (by simp [go_sem]) (by simp)
      have hsz : w.heap.size + 1 ≤ wr.heap.size := by have := hbl.size; simpa using this
      have hBW := HBX.out.trans (hbl.mono (by omega))
      have HBW := Lib.hid hBW
      have HBL := Lib.hid hbl
      have HOU := Lib.hid hou
      rw [HML.out] at hjm
      clear hou hbl hBW
      by_cases hlt : j < nk
      · obtain ⟨⟨n, vv⟩, hx⟩ := M.get_some m j (by rw [HML.out]; exact hlt)
        have hwg := wtM_get m j n vv hx
        have hcg := checkM_get m j n vv HCM.out hx
        obtain ⟨b0, o0, y, k', t', x', m', ak', nk', ck', rfl, rfl, e1, e2, e3, e4, e5, e6, e7, g0w, g1w, g2w, g3w⟩ := (HKS.out.at hx).cells
        have E7 := Lib.hid e7
        have HX := Lib.hid hx
        have hyl : y.size = n.length := by rw [← e1, sl_len]
        have hwy : wholeTo (sl y) = y.size := by rw [e1, hcg.1, hyl]
        have HC := Lib.hid (fun S W c => HOF.out _ (show wtJ (.mk k' t' m') ≤ d by omega) hcg.2 (show wtJ (.mk k' t' m') ≤ 80000 by omega) S W c)
        have HE1 := Lib.hid e1
        have hpw := print_wt (.mk k' t' m')
        have hcl2 : cur.length + 8 * (n.length + wtJ (.mk k' t' m')) ≤ 640000 := by omega
        have hj0 : (0 : Int) ≤ (j : Int) := by omega
        have hj1 : (j : Int) < (nk : Int) := by omega
        have hys : y.size ≤ 100000 := by omega
        have CQ := fun W => Lib.hid ((rquote_calls y (by omega) W).mono (by rintro e w' ⟨h1, _, h3⟩; exact (show e = .returned (.tuple #[.string (txt (quoteL (sl y))), .bool true]) ∧ Below _ _ w' from ⟨h1 hwy, h3⟩)))
        have hql : (quoteL (sl y)).length ≤ 6 * n.length + 2 := by
          have h1 := quoteL_len (sl y)
          have h2 := quoteM_len (sl y)
          rw [sl_len, hyl] at h2
          omega
        clear hwg hcg e1 e3 e4 e5 e7 hx hwy
        obtain ⟨P, hP⟩ : ∃ P, P = printJ (.mk k' t' m') := ⟨_, rfl⟩
        rw [← hP] at HC hpw
        have HPP := Lib.hid hP
        clear hP
        by_cases hjz : j = 0

        · subst hjz
          simp only [Nat.zero_mul, Nat.add_zero] at g0w g1w g2w g3w
          have HWL := Lib.hid (HBX.out.trans (HBL.out.mono (by omega)))
          have f0L : wr.cell? ⟨w.heap.size, 0, none⟩ = some (.int .i64 7) := below_cellB HBL.out (by simp [go_sem]) (by simp)
          have f2L : wr.cell? ⟨w.heap.size, 2, none⟩ = some (.slice (some ⟨b0, o0, none⟩) nk ck) := below_cellB HBL.out (by simp [go_sem]) (by simp)
          have hzL : w.heap.size + 1 ≤ wr.heap.size := by have := HBL.out.size; simpa using this
          have g0L := cell_below HWL.out g0w
          have g1L := cell_below HWL.out g1w
          have g2L := cell_below HWL.out g2w
          have g3L := cell_below HWL.out g3w
          have lbL : b0 < wr.heap.size := by omega
          have lwL : w.heap.size < wr.heap.size := by omega
          have HOL := HOU
          go_wp2_with fail
          refine (CQ _).out.mono ?_
          rintro e wQ ⟨rfl, hbQ⟩
          have HBQ := Lib.hid (HBL.out.trans (hbQ.mono hzL))
          have HOQ := Lib.hid (HOL.out.keep hbQ)
          clear hbQ
          have HWQ := Lib.hid (HBX.out.trans (HBQ.out.mono (by omega)))
          have f0Q : wQ.cell? ⟨w.heap.size, 0, none⟩ = some (.int .i64 7) := below_cellB HBQ.out (by simp [go_sem]) (by simp)
          have f2Q : wQ.cell? ⟨w.heap.size, 2, none⟩ = some (.slice (some ⟨b0, o0, none⟩) nk ck) := below_cellB HBQ.out (by simp [go_sem]) (by simp)
          have hzQ : w.heap.size + 1 ≤ wQ.heap.size := by have := HBQ.out.size; simpa using this
          have g0Q := cell_below HWQ.out g0w
          have g1Q := cell_below HWQ.out g1w
          have g2Q := cell_below HWQ.out g2w
          have g3Q := cell_below HWQ.out g3w
          have lbQ : b0 < wQ.heap.size := by omega
          have lwQ : w.heap.size < wQ.heap.size := by omega
          go_wp2_with (at_builtin; refine wpList_appT (v := u3) (bs := _) (t := txt (quoteL (sl y))) (B := w.heap.size + 1) (by rfl) _ _ (by rfl) (by rfl) HOQ.out (by rfl) ?o3 ?o4 ?_)
          case o3 => (rw [← sl_len, sl_txt]; first | omega | (simp; done) | (simp; omega))
          case o4 => first | omega | (simp; done) | (simp; omega)
          intro uR wR ho hl
          rw [sl_txt] at ho
          have HBR := Lib.hid (hl.below HBQ.out (by omega) (fun k hk => (owns_lt HOQ.out k hk).1))
          have HOR := Lib.hid ho
          clear ho hl
          have HWR := Lib.hid (HBX.out.trans (HBR.out.mono (by omega)))
          have f0R : wR.cell? ⟨w.heap.size, 0, none⟩ = some (.int .i64 7) := below_cellB HBR.out (by simp [go_sem]) (by simp)
          have f2R : wR.cell? ⟨w.heap.size, 2, none⟩ = some (.slice (some ⟨b0, o0, none⟩) nk ck) := below_cellB HBR.out (by simp [go_sem]) (by simp)
          have hzR : w.heap.size + 1 ≤ wR.heap.size := by have := HBR.out.size; simpa using this
          have g0R := cell_below HWR.out g0w
          have g1R := cell_below HWR.out g1w
          have g2R := cell_below HWR.out g2w
          have g3R := cell_below HWR.out g3w
          have lbR : b0 < wR.heap.size := by omega
          have lwR : w.heap.size < wR.heap.size := by omega
          go_wp2_with (at_builtin; refine wpList_appL (v := uR) (bs := _) (sv := .slice (some ⟨wR.heap.size, 0, none⟩) 1 1) (l := [58]) (B := w.heap.size + 1) (by rfl) _ _ (by rfl) (by rfl) (HOR.out.alloc _) (by rfl) (by have := srcB_one wR 58 (by omega); simpa using this) ?o3 ?o4 ?_)
          case o3 => first | omega | (simp; done) | (simp; omega)
          case o4 => first | omega | (simp; done) | (simp; omega)
          intro uC wC ho hl
          have HBC := Lib.hid ((((LayF.fresh ((Below.refl _ _).alloc (Nat.le_refl _) _) uR).trans hl)).below HBR.out (by omega) (fun k hk => (owns_lt HOR.out k hk).1))
          have HOC := Lib.hid ho
          clear ho hl
          have HWC := Lib.hid (HBX.out.trans (HBC.out.mono (by omega)))
          have f0C : wC.cell? ⟨w.heap.size, 0, none⟩ = some (.int .i64 7) := below_cellB HBC.out (by simp [go_sem]) (by simp)
          have f2C : wC.cell? ⟨w.heap.size, 2, none⟩ = some (.slice (some ⟨b0, o0, none⟩) nk ck) := below_cellB HBC.out (by simp [go_sem]) (by simp)
          have hzC : w.heap.size + 1 ≤ wC.heap.size := by have := HBC.out.size; simpa using this
          have g0C := cell_below HWC.out g0w
          have g1C := cell_below HWC.out g1w
          have g2C := cell_below HWC.out g2w
          have g3C := cell_below HWC.out g3w
          have lbC : b0 < wC.heap.size := by omega
          have lwC : w.heap.size < wC.heap.size := by omega
          go_wp2_with fail
          refine (HC.out _ _ _ (E7.out.below HWC.out)).mono ?_
          rintro e wP ⟨⟨sv, rfl, hsv⟩, hbP⟩
          have HBP := Lib.hid (HBC.out.trans (hbP.mono hzC))
          have HOP := Lib.hid (HOC.out.keep hbP)
          have HSV := Lib.hid hsv
          clear hbP hsv
          have HWP := Lib.hid (HBX.out.trans (HBP.out.mono (by omega)))
          have f0P : wP.cell? ⟨w.heap.size, 0, none⟩ = some (.int .i64 7) := below_cellB HBP.out (by simp [go_sem]) (by simp)
          have f2P : wP.cell? ⟨w.heap.size, 2, none⟩ = some (.slice (some ⟨b0, o0, none⟩) nk ck) := below_cellB HBP.out (by simp [go_sem]) (by simp)
          have hzP : w.heap.size + 1 ≤ wP.heap.size := by have := HBP.out.size; simpa using this
          have g0P := cell_below HWP.out g0w
          have g1P := cell_below HWP.out g1w
          have g2P := cell_below HWP.out g2w
          have g3P := cell_below HWP.out g3w
          have lbP : b0 < wP.heap.size := by omega
          have lwP : w.heap.size < wP.heap.size := by omega
          go_wp2_with (at_builtin; refine wpList_appL (v := uC) (bs := _) (sv := sv) (l := P) (B := w.heap.size + 1) (by rfl) _ _ (by rfl) (by rfl) HOP.out (by rfl) HSV.out ?o3 ?o4 ?_)
          case o3 => first | omega | (simp; done) | (simp; omega)
          case o4 => first | omega | (simp; done) | (simp; omega)
          intro uZ wZ ho hl
          have HBZ := Lib.hid (hl.below HBP.out (by omega) (fun k hk => (owns_lt HOP.out k hk).1))
          have HOZ := Lib.hid ho
          clear ho hl
          go_wp2_with fail
          go_roundw
          case rel =>
            refine pr_rel HX.out hall.out ?_ HBZ.out (by rw [HML.out]; exact hlt) (by simp) hcw
            have e := HOZ.out
            rw [HPP.out] at e
            simpa [named, HE1.out] using e
          case measure => simp [intOf]; omega
        · have djz : decide ((0 : Int) < (j : Int)) = true := by simp; omega
          have HWL := Lib.hid (HBX.out.trans (HBL.out.mono (by omega)))
          have f0L : wr.cell? ⟨w.heap.size, 0, none⟩ = some (.int .i64 7) := below_cellB HBL.out (by simp [go_sem]) (by simp)
          have f2L : wr.cell? ⟨w.heap.size, 2, none⟩ = some (.slice (some ⟨b0, o0, none⟩) nk ck) := below_cellB HBL.out (by simp [go_sem]) (by simp)
          have hzL : w.heap.size + 1 ≤ wr.heap.size := by have := HBL.out.size; simpa using this
          have g0L := cell_below HWL.out g0w
          have g1L := cell_below HWL.out g1w
          have g2L := cell_below HWL.out g2w
          have g3L := cell_below HWL.out g3w
          have lbL : b0 < wr.heap.size := by omega
          have lwL : w.heap.size < wr.heap.size := by omega
          have HOL := HOU
          go_wp2_with (at_builtin; refine wpList_appL (v := u3) (bs := _) (sv := .slice (some ⟨wr.heap.size, 0, none⟩) 1 1) (l := [44]) (B := w.heap.size + 1) (by rfl) _ _ (by rfl) (by rfl) (HOL.out.alloc _) (by rfl) (by have := srcB_one wr 44 (by omega); simpa using this) ?o3 ?o4 ?_)
          case o3 => first | omega | (simp; done) | (simp; omega)
          case o4 => first | omega | (simp; done) | (simp; omega)
          intro uA wA ho hl
          have HBA := Lib.hid ((((LayF.fresh ((Below.refl _ _).alloc (Nat.le_refl _) _) u3).trans hl)).below HBL.out (by omega) (fun k hk => (owns_lt HOL.out k hk).1))
          have HOA := Lib.hid ho
          clear ho hl
          have HWA := Lib.hid (HBX.out.trans (HBA.out.mono (by omega)))
          have f0A : wA.cell? ⟨w.heap.size, 0, none⟩ = some (.int .i64 7) := below_cellB HBA.out (by simp [go_sem]) (by simp)
          have f2A : wA.cell? ⟨w.heap.size, 2, none⟩ = some (.slice (some ⟨b0, o0, none⟩) nk ck) := below_cellB HBA.out (by simp [go_sem]) (by simp)
          have hzA : w.heap.size + 1 ≤ wA.heap.size := by have := HBA.out.size; simpa using this
          have g0A := cell_below HWA.out g0w
          have g1A := cell_below HWA.out g1w
          have g2A := cell_below HWA.out g2w
          have g3A := cell_below HWA.out g3w
          have lbA : b0 < wA.heap.size := by omega
          have lwA : w.heap.size < wA.heap.size := by omega
          go_wp2_with fail
          refine (CQ _).out.mono ?_
          rintro e wQ ⟨rfl, hbQ⟩
          have HBQ := Lib.hid (HBA.out.trans (hbQ.mono hzA))
          have HOQ := Lib.hid (HOA.out.keep hbQ)
          clear hbQ
          have HWQ := Lib.hid (HBX.out.trans (HBQ.out.mono (by omega)))
          have f0Q : wQ.cell? ⟨w.heap.size, 0, none⟩ = some (.int .i64 7) := below_cellB HBQ.out (by simp [go_sem]) (by simp)
          have f2Q : wQ.cell? ⟨w.heap.size, 2, none⟩ = some (.slice (some ⟨b0, o0, none⟩) nk ck) := below_cellB HBQ.out (by simp [go_sem]) (by simp)
          have hzQ : w.heap.size + 1 ≤ wQ.heap.size := by have := HBQ.out.size; simpa using this
          have g0Q := cell_below HWQ.out g0w
          have g1Q := cell_below HWQ.out g1w
          have g2Q := cell_below HWQ.out g2w
          have g3Q := cell_below HWQ.out g3w
          have lbQ : b0 < wQ.heap.size := by omega
          have lwQ : w.heap.size < wQ.heap.size := by omega
          go_wp2_with (at_builtin; refine wpList_appT (v := uA) (bs := _) (t := txt (quoteL (sl y))) (B := w.heap.size + 1) (by rfl) _ _ (by rfl) (by rfl) HOQ.out (by rfl) ?o3 ?o4 ?_)
          case o3 => (rw [← sl_len, sl_txt]; first | omega | (simp; done) | (simp; omega))
          case o4 => first | omega | (simp; done) | (simp; omega)
          intro uR wR ho hl
          rw [sl_txt] at ho
          have HBR := Lib.hid (hl.below HBQ.out (by omega) (fun k hk => (owns_lt HOQ.out k hk).1))
          have HOR := Lib.hid ho
          clear ho hl
          have HWR := Lib.hid (HBX.out.trans (HBR.out.mono (by omega)))
          have f0R : wR.cell? ⟨w.heap.size, 0, none⟩ = some (.int .i64 7) := below_cellB HBR.out (by simp [go_sem]) (by simp)
          have f2R : wR.cell? ⟨w.heap.size, 2, none⟩ = some (.slice (some ⟨b0, o0, none⟩) nk ck) := below_cellB HBR.out (by simp [go_sem]) (by simp)
          have hzR : w.heap.size + 1 ≤ wR.heap.size := by have := HBR.out.size; simpa using this
          have g0R := cell_below HWR.out g0w
          have g1R := cell_below HWR.out g1w
          have g2R := cell_below HWR.out g2w
          have g3R := cell_below HWR.out g3w
          have lbR : b0 < wR.heap.size := by omega
          have lwR : w.heap.size < wR.heap.size := by omega
          go_wp2_with (at_builtin; refine wpList_appL (v := uR) (bs := _) (sv := .slice (some ⟨wR.heap.size, 0, none⟩) 1 1) (l := [58]) (B := w.heap.size + 1) (by rfl) _ _ (by rfl) (by rfl) (HOR.out.alloc _) (by rfl) (by have := srcB_one wR 58 (by omega); simpa using this) ?o3 ?o4 ?_)
          case o3 => first | omega | (simp; done) | (simp; omega)
          case o4 => first | omega | (simp; done) | (simp; omega)
          intro uC wC ho hl
          have HBC := Lib.hid ((((LayF.fresh ((Below.refl _ _).alloc (Nat.le_refl _) _) uR).trans hl)).below HBR.out (by omega) (fun k hk => (owns_lt HOR.out k hk).1))
          have HOC := Lib.hid ho
          clear ho hl
          have HWC := Lib.hid (HBX.out.trans (HBC.out.mono (by omega)))
          have f0C : wC.cell? ⟨w.heap.size, 0, none⟩ = some (.int .i64 7) := below_cellB HBC.out (by simp [go_sem]) (by simp)
          have f2C : wC.cell? ⟨w.heap.size, 2, none⟩ = some (.slice (some ⟨b0, o0, none⟩) nk ck) := below_cellB HBC.out (by simp [go_sem]) (by simp)
          have hzC : w.heap.size + 1 ≤ wC.heap.size := by have := HBC.out.size; simpa using this
          have g0C := cell_below HWC.out g0w
          have g1C := cell_below HWC.out g1w
          have g2C := cell_below HWC.out g2w
          have g3C := cell_below HWC.out g3w
          have lbC : b0 < wC.heap.size := by omega
          have lwC : w.heap.size < wC.heap.size := by omega
          go_wp2_with fail
          refine (HC.out _ _ _ (E7.out.below HWC.out)).mono ?_
          rintro e wP ⟨⟨sv, rfl, hsv⟩, hbP⟩
          have HBP := Lib.hid (HBC.out.trans (hbP.mono hzC))
          have HOP := Lib.hid (HOC.out.keep hbP)
          have HSV := Lib.hid hsv
          clear hbP hsv
          have HWP := Lib.hid (HBX.out.trans (HBP.out.mono (by omega)))
          have f0P : wP.cell? ⟨w.heap.size, 0, none⟩ = some (.int .i64 7) := below_cellB HBP.out (by simp [go_sem]) (by simp)
          have f2P : wP.cell? ⟨w.heap.size, 2, none⟩ = some (.slice (some ⟨b0, o0, none⟩) nk ck) := below_cellB HBP.out (by simp [go_sem]) (by simp)
          have hzP : w.heap.size + 1 ≤ wP.heap.size := by have := HBP.out.size; simpa using this
          have g0P := cell_below HWP.out g0w
          have g1P := cell_below HWP.out g1w
          have g2P := cell_below HWP.out g2w
          have g3P := cell_below HWP.out g3w
          have lbP : b0 < wP.heap.size := by omega
          have lwP : w.heap.size < wP.heap.size := by omega
          go_wp2_with (at_builtin; refine wpList_appL (v := uC) (bs := _) (sv := sv) (l := P) (B := w.heap.size + 1) (by rfl) _ _ (by rfl) (by rfl) HOP.out (by rfl) HSV.out ?o3 ?o4 ?_)
          case o3 => first | omega | (simp; done) | (simp; omega)
          case o4 => first | omega | (simp; done) | (simp; omega)
          intro uZ wZ ho hl
          have HBZ := Lib.hid (hl.below HBP.out (by omega) (fun k hk => (owns_lt HOP.out k hk).1))
          have HOZ := Lib.hid ho
          clear ho hl
          go_wp2_with fail
          go_roundw
          case rel =>
            refine pr_rel HX.out hall.out ?_ HBZ.out (by rw [HML.out]; exact hlt) (by simp) hcw
            have e := HOZ.out
            rw [HPP.out] at e
            simpa [named, HE1.out, hjz] using e
          case measure => simp [intOf]; omega
      · have HD : Hid (printM true true m = cur) := by
          show _ = _
          rw [hall.out, M.drop_len m j (by rw [HML.out]; omega)]
          simp [printM]
        have hcl : cur.length ≤ 640000 := by omega
        have hs0 := HOU.out.srcB
        have HS0 := Lib.hid (hs0.below ((Below.refl _ _).alloc (Nat.le_refl _) (.cells #[.int .u8 123] 5)))
        clear hs0
        go_wp2_with (at_builtin; refine wpList_appL (v := .slice (some ⟨wr.heap.size, 0, none⟩) 1 1) (bs := _) (sv := u3) (l := cur) (B := w.heap.size + 1) (by rfl) _ _ (by rfl) (by rfl) (by have := own_fresh wr (w.heap.size + 1) 123 (by omega) hsz; simpa using this) (by rfl) HS0.out ?o3 ?o4 ?_)
        case o3 => first | omega | (simp; done) | (simp; omega)
        case o4 => first | omega | (simp; done) | (simp; omega)
        intro uA wA ho hl
        have HBA := Lib.hid (hl.below (HBL.out.alloc hsz (.cells #[.int .u8 123] 5)) (by simp; omega) (fun k hk => by simp [Value.ownBlock] at hk; omega))
        have HOA := Lib.hid ho
        have hzA : w.heap.size + 1 ≤ wA.heap.size := by have := HBA.out.size; simpa using this
        clear ho hl
        go_wp2_with (at_builtin; refine wpList_appL (v := uA) (bs := _) (sv := .slice (some ⟨wA.heap.size, 0, none⟩) 1 1) (l := [125]) (B := w.heap.size + 1) (by rfl) _ _ (by rfl) (by rfl) (HOA.out.alloc _) (by rfl) (by have := srcB_one wA 125 (by omega); simpa using this) ?o3 ?o4 ?_)
        case o3 => first | omega | (simp; done) | (simp; omega)
        case o4 => first | omega | (simp; done) | (simp; omega)
        intro uC wC ho hl
        have HBC := Lib.hid ((((LayF.fresh ((Below.refl _ _).alloc (Nat.le_refl _) _) uA).trans hl)).below HBA.out (by omega) (fun k hk => (owns_lt HOA.out k hk).1))
        have HOC := Lib.hid ho
        clear ho hl
        go_wp2_with fail
        go_ret
        refine ⟨⟨_, rfl, ?_⟩, HBX.out.trans (HBC.out.mono (by omega))⟩
        rw [HD.out]
        have e := HOC.out.srcB
        simpa using e

theorem prt_all : ∀ d, PrtSaid d
  | 0 => fun j hj => by cases j; simp [wtJ] at hj
  | d + 1 => prt_step d (prt_all d)

end Go.Proofs.Ytamhdoijmkjngaa
