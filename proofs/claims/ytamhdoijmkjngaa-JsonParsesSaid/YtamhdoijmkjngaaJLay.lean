/- jout.lay: a tree's text, behind what stands there. -/
import Derived.Test.YtamhdoijmkjngaaJWt
import Derived.Test.YtamhdoijmkjngaaJQuo
namespace Go.Proofs.Ytamhdoijmkjngaa
open Go.RowKit
set_option linter.unusedVariables false
set_option linter.unusedSimpArgs false

/-- A member's box, and a row that lies elsewhere. -/
def Hold (g : Nat) (y : ByteArray) (k : Int) (x : ByteArray) (ak : Option Addr) (nk ck : Nat) (W : World) (U : Value) : Prop :=
  W.cell? ⟨g, 0, none⟩ = some (.string y) ∧ W.cell? ⟨g, 1, none⟩ = some (.int .i64 k) ∧ W.cell? ⟨g, 2, none⟩ = some (.string x) ∧ W.cell? ⟨g, 3, none⟩ = some (.slice ak nk ck) ∧ U.ownBlock ≠ some g ∧ g < W.heap.size

theorem Hold.step {g y k x ak nk ck} {W W' : World} {U U' : Value} (h : Hold g y k x ak nk ck W U) (hl : LayF W W' U U') : Hold g y k x ak nk ck W' U' := by
  obtain ⟨h0, h1, h2, h3, h4, h5⟩ := h
  refine ⟨hl.cell h0 h4, hl.cell h1 h4, hl.cell h2 h4, hl.cell h3 h4, fun e => ?_, Nat.lt_of_lt_of_le h5 hl.size⟩
  rcases hl.2 g e with e | e
  · exact h4 e
  · omega

theorem RdJ.lay {B : Nat} {W W' : World} {U U' : Value} {bs : List UInt8} {j : J} {c : Array Value} (h : RdJ (fun k => k < B) W j c) (ho : OwnB W B U bs) (hl : LayF W W' U U') : RdJ (fun k => k < B) W' j c :=
  h.keep (KeepS.chg hl.1 fun k hk e => by have := (owns_lt ho k e).1; omega)
theorem RdM.lay {B : Nat} {W W' : World} {U U' : Value} {bs : List UInt8} {a : Option Addr} {i : Nat} {m : M} (h : RdM (fun k => k < B) W a i m) (ho : OwnB W B U bs) (hl : LayF W W' U U') : RdM (fun k => k < B) W' a i m :=
  h.keep (KeepS.chg hl.1 fun k hk e => by have := (owns_lt ho k e).1; omega)

def LaySaid (d : Nat) : Prop := ∀ (j : J), wtJ j ≤ d → ∀ (w : World) (B : Nat) (v : Value) (bs : List UInt8) (c : Array Value), RdJ (fun k => k < B) w j c → OwnB w B v bs → B ≤ w.heap.size → bs.length + 8 * wtJ j ≤ 700000 → checkJ j = 0 →
  Calls Try.prog 39 #[v, .agg c] w fun e w' => ∃ v', e = .returned v' ∧ OwnB w' B v' (bs ++ printJ j) ∧ LayF w w' v v'

def fstC (obj : Bool) : Nat := if obj then 123 else 91
def lstC (obj : Bool) : Nat := if obj then 125 else 93

/-- What stands at the head of each round. -/
def LayRel (w1 : World) (B : Nat) (v : Value) (all : List UInt8) (obj : Bool) (m : M) (b i : Value) (wr : World) : Prop :=
  ∃ (u : Value) (j : Nat) (cur : List UInt8), u = b ∧ i = .int .i64 j ∧ j ≤ m.len ∧ Hid (all = cur ++ (printM obj (decide (j = 0)) (m.drop j) ++ [UInt8.ofNat (lstC obj)])) ∧ OwnB wr B u cur ∧ LayF w1 wr v u ∧ cur.length + 8 * wtM (m.drop j) + 8 ≤ 700000

theorem lay_rel {w1 wr w' : World} {B : Nat} {v u u' : Value} {all cur : List UInt8} {obj : Bool} {m : M} {j : Nat} {n : List UInt8} {vv : J} {i : Value} (hx : m.get? j = some (n, vv)) (hall : all = cur ++ (printM obj (decide (j = 0)) (m.drop j) ++ [UInt8.ofNat (lstC obj)]))
    (ho : OwnB w' B u' (cur ++ ((if decide (j = 0) then [] else [44]) ++ (named obj n ++ printJ vv)))) (h1 : LayF w1 wr v u) (h2 : LayF wr w' u u') (hj : j < m.len) (hi : i = .int .i64 ((j : Int) + 1)) (hw : cur.length + 8 * wtM (m.drop j) + 8 ≤ 700000) : LayRel w1 B v all obj m u' i w' := by
  refine ⟨u', j + 1, _, rfl, by rw [hi]; simp, hj, ?_, ho, h1.trans h2, ?_⟩
  case refine_2 =>
    have g1 := (wtM_get m j n vv hx).1
    have g2 := print_wt vv
    have g3 := quoteL_len n
    have g4 := quoteM_len n
    have g5 : (named obj n).length ≤ 6 * n.length + 3 := by
      unfold named
      cases obj
      · simp
      · simp only [if_true, List.length_append, List.length_cons, List.length_nil]; omega
    have g6 : (if decide (j = 0) then ([] : List UInt8) else [44]).length ≤ 1 := by cases decide (j = 0) <;> simp
    simp only [List.length_append]
    omega
  show all = _
  rw [hall, M.drop_get m j n vv hx, printM]
  simp

set_option maxRecDepth 100000 in
set_option maxHeartbeats 16000000 in
theorem lay_step (d : Nat) (hof : LaySaid d) : LaySaid (d + 1) := by
  intro j hj w B v bs c h ho hB hlen hck
  obtain ⟨k, t, m⟩ := j
  obtain ⟨x, ak, nk, ck, rfl, hxt, hxs, hkb, hml, hnk, hks⟩ := h
  obtain ⟨⟨hk1, hk7⟩, hnil, htx, hbare, hnum, hstr, hcm⟩ := checkJ_parts hck
  have hxl : x.size = t.length := by rw [← hxt, sl_len]
  have hwt : wtJ (.mk k t m) = 2 + t.length + wtM m := rfl
  rw [hwt] at hj hlen
  have HO := Lib.hid ho
  have HOF := Lib.hid hof
  have HXT := Lib.hid hxt
  have hx1 : x.size ≤ 100000 + x.size := by omega
  clear ho hof hxt hck hkb hwt
  have hk : k = 1 ∨ k = 2 ∨ k = 3 ∨ k = 4 ∨ k = 5 ∨ k = 6 ∨ k = 7 := by omega
  rcases hk with rfl | rfl | rfl | rfl | rfl | rfl | rfl
  · have HP : Hid (printJ (.mk 1 t m) = [110, 117, 108, 108]) := by show _ = _; rfl
    clear hnil htx hbare hnum hstr hcm hks
    go_enter Try.func39, Try.ntmps39
    go_wp2_with (at_builtin; refine wpList_appT (v := v) (bs := bs) (t := ⟨#[110, 117, 108, 108]⟩) (B := B) (by rfl) _ _ (by rfl) (by rfl) (HO.out.alloc _) (by rfl) ?o3 ?o4 ?_)
    case o3 => show _ + 4 ≤ _; omega
    case o4 => simp; omega
    intro v6 w6 ho6 hl6
    have HL6 := Lib.hid ((LayF.fresh ((Below.refl w.heap.size w).alloc (Nat.le_refl _) _) v).trans hl6)
    have HO6 := Lib.hid ho6
    clear ho6 hl6
    go_wp2_with fail
    go_ret
    exact ⟨_, rfl, by rw [HP.out]; exact HO6.out, HL6.out⟩
  · have HP : Hid (printJ (.mk 2 t m) = [102, 97, 108, 115, 101]) := by show _ = _; rfl
    clear hnil htx hbare hnum hstr hcm hks
    go_enter Try.func39, Try.ntmps39
    go_wp2_with (at_builtin; refine wpList_appT (v := v) (bs := bs) (t := ⟨#[102, 97, 108, 115, 101]⟩) (B := B) (by rfl) _ _ (by rfl) (by rfl) (HO.out.alloc _) (by rfl) ?o3 ?o4 ?_)
    case o3 => show _ + 5 ≤ _; omega
    case o4 => simp; omega
    intro v6 w6 ho6 hl6
    have HL6 := Lib.hid ((LayF.fresh ((Below.refl w.heap.size w).alloc (Nat.le_refl _) _) v).trans hl6)
    have HO6 := Lib.hid ho6
    clear ho6 hl6
    go_wp2_with fail
    go_ret
    exact ⟨_, rfl, by rw [HP.out]; exact HO6.out, HL6.out⟩
  · have HP : Hid (printJ (.mk 3 t m) = [116, 114, 117, 101]) := by show _ = _; rfl
    clear hnil htx hbare hnum hstr hcm hks
    go_enter Try.func39, Try.ntmps39
    go_wp2_with (at_builtin; refine wpList_appT (v := v) (bs := bs) (t := ⟨#[116, 114, 117, 101]⟩) (B := B) (by rfl) _ _ (by rfl) (by rfl) (HO.out.alloc _) (by rfl) ?o3 ?o4 ?_)
    case o3 => show _ + 4 ≤ _; omega
    case o4 => simp; omega
    intro v6 w6 ho6 hl6
    have HL6 := Lib.hid ((LayF.fresh ((Below.refl w.heap.size w).alloc (Nat.le_refl _) _) v).trans hl6)
    have HO6 := Lib.hid ho6
    clear ho6 hl6
    go_wp2_with fail
    go_ret
    exact ⟨_, rfl, by rw [HP.out]; exact HO6.out, HL6.out⟩
  · have HP : Hid (printJ (.mk 4 t m) = sl x) := by show _ = _; exact HXT.out.symm
    clear hnil htx hbare hnum hstr hcm hks
    go_enter Try.func39, Try.ntmps39
    go_wp2_with (at_builtin; refine wpList_appT (v := v) (bs := bs) (t := x) (B := B) (by rfl) _ _ (by rfl) (by rfl) (HO.out.alloc _) (by rfl) ?o3 ?o4 ?_)
    case o3 => omega
    case o4 => simp; omega
    intro v6 w6 ho6 hl6
    have HL6 := Lib.hid ((LayF.fresh ((Below.refl w.heap.size w).alloc (Nat.le_refl _) _) v).trans hl6)
    have HO6 := Lib.hid ho6
    clear ho6 hl6
    go_wp2_with fail
    go_ret
    exact ⟨_, rfl, by rw [HP.out]; exact HO6.out, HL6.out⟩
  · have HP : Hid (printJ (.mk 5 t m) = quoteL (sl x)) := by show _ = _; rw [HXT.out]; rfl
    have hwx : wholeTo (sl x) = x.size := by rw [HXT.out, hstr rfl, hxl]
    have C := Lib.hid (quoted_calls x (by omega) hwx (w.alloc (.cells (jCells 5 x ak nk ck) 24)) B v bs (HO.out.alloc _) (by simp; omega) (by omega))
    clear hnil htx hbare hnum hstr hcm hks hwx
    go_enter Try.func39, Try.ntmps39
    go_wp2_with fail
    refine C.out.mono ?_
    rintro e w6 ⟨v6, rfl, ho6, hl6⟩
    have HL6 := Lib.hid ((LayF.fresh ((Below.refl w.heap.size w).alloc (Nat.le_refl _) _) v).trans hl6)
    have HO6 := Lib.hid ho6
    clear ho6 hl6
    go_wp2_with fail
    go_ret
    exact ⟨_, rfl, by rw [HP.out]; exact HO6.out, HL6.out⟩
  · have ht0 : t = [] := by
      by_cases e : t = []
      · exact e
      · have := htx e; omega
    have HP : Hid (bs ++ printJ (.mk 6 t m) = (bs ++ [91]) ++ (printM false true m ++ [93])) := by
      show _ = _
      rw [List.append_assoc]
      rfl
    obtain ⟨all, hall⟩ : ∃ all, all = bs ++ printJ (.mk 6 t m) := ⟨_, rfl⟩
    rw [← hall] at HP ⊢
    have HAL : Hid (all.length ≤ 700000) := by
      show _ ≤ _
      have h1 := print_wt (.mk 6 t m)
      have h2 : wtJ (.mk 6 t m) = 2 + t.length + wtM m := rfl
      rw [hall, List.length_append]
      omega
    have HML := Lib.hid hml
    have HCM := Lib.hid hcm
    have HKS := Lib.hid hks
    have hvg : v.ownBlock ≠ some w.heap.size := fun e => by have := (owns_lt HO.out _ e).2; omega
    clear hnil htx hbare hnum hstr hcm hks ht0 hml hall
    go_enter Try.func39, Try.ntmps39
    go_wp2_with (at_builtin; refine wpList_appL (v := v) (bs := bs) (sv := .slice (some ⟨w.heap.size + 1, 0, none⟩) 1 1) (l := [91]) (B := B) (by rfl) _ _ (by rfl) (by rfl) ((HO.out.alloc _).alloc _) (by rfl) (by have := srcB_one (w.alloc (.cells (jCells 6 x ak nk ck) 24)) 91 (by omega); simpa using this) ?o3 ?o4 ?_)
    case o3 => simp; omega
    case o4 => simp; omega
    intro v1 w1 ho1 hl1
    have hLay1 : LayF (w.alloc (.cells (jCells 6 x ak nk ck) 24)) w1 v v1 := (LayF.fresh ((Below.refl _ _).alloc (Nat.le_refl _) _) v).trans hl1
    have HL1 := Lib.hid hLay1
    have HO1 := Lib.hid ho1
    clear ho1 hl1 hLay1
    have f2 : w1.cell? ⟨w.heap.size, 2, none⟩ = some (.slice ak nk ck) := HL1.out.cell (by simp [go_sem]) hvg
    go_wp2_with fail
    go_loopw [0, 7, 8, 45] (fun b _ _ i wr => LayRel (w.alloc (.cells (jCells 6 x ak nk ck) 24)) B v all false m b i wr) (fun _ _ _ i _ => nk - (intOf i).toNat)
    case atStart => exact ⟨_, 0, _, rfl, rfl, Nat.zero_le _, HP, HO1.out, HL1.out, by rw [List.length_append]; simp only [List.length_cons, List.length_nil, M.drop]; omega⟩
    case round =>
      obtain ⟨u, j, cur, rfl, rfl, hjm, hall, hou, hlu, hcw⟩ := hrel
      have f0 : wr.cell? ⟨w.heap.size, 0, none⟩ = some (.int .i64 6) := hlu.cell (by simp [go_sem]) hvg
      have hKW : RdM (fun k => k < B) wr ak 0 m := (HKS.out.below ((Below.refl _ _).alloc (Nat.le_refl _) _)).lay (HO.out.alloc _) hlu
      have hsz : w.heap.size + 1 ≤ wr.heap.size := by have := hlu.size; simpa using this
      have hcl : cur.length ≤ 700000 := by
        have h1 := congrArg List.length hall.out
        rw [List.length_append] at h1
        have := HAL.out
        omega
      have HOU := Lib.hid hou
      have HLU := Lib.hid hlu
      have HKW := Lib.hid hKW
      rw [HML.out] at hjm
      clear hou hlu hKW
      by_cases hlt : j < nk
      · obtain ⟨⟨n, vv⟩, hx⟩ := M.get_some m j (by rw [HML.out]; exact hlt)
        have hwg := wtM_get m j n vv hx
        have hcg := checkM_get m j n vv HCM.out hx
        obtain ⟨b0, o0, y, k', t', x', m', ak', nk', ck', rfl, rfl, e1, e2, e3, e4, e5, e6, e7, g0, g1, g2, g3⟩ := (HKW.out.at hx).cells
        have E7 := Lib.hid e7
        have HX := Lib.hid hx
        have hyl : y.size = n.length := by rw [← e1, sl_len]
        have hwy : wholeTo (sl y) = y.size := by rw [e1, hcg.1, hyl]
        have HC := Lib.hid (fun W U cu => HOF.out _ (show wtJ (.mk k' t' m') ≤ d by omega) W B U cu (jCells k' x' ak' nk' ck'))
        have HE1 := Lib.hid e1
        have HCG := Lib.hid hcg.2
        have hcl2 : cur.length + 8 * (n.length + wtJ (.mk k' t' m')) + 8 ≤ 700000 := by omega
        have hys : y.size ≤ 100000 := by omega
        have hj0 : (0 : Int) ≤ (j : Int) := by omega
        have hj1 : (j : Int) < (nk : Int) := by omega
        have HWN := Lib.hid (show wtJ (.mk k' t' m') ≤ d by omega)
        clear hwg hcg e1 e3 e4 e5 e7 hx
        by_cases hjz : j = 0
        · subst hjz
          simp only [Nat.zero_mul, Nat.add_zero] at g0 g1 g2 g3
          have hub : u.ownBlock ≠ some wr.heap.size := fun e => by have := (owns_lt HOU.out _ e).2; omega
          have HL0 : Hid (LayF wr (wr.alloc (.cells #[.string y, .int .i64 k', .string x', .slice ak' nk' ck'] 62)) u u) := LayF.fresh ((Below.refl _ _).alloc (Nat.le_refl _) _) u
          have HO0 : Hid (OwnB (wr.alloc (.cells #[.string y, .int .i64 k', .string x', .slice ak' nk' ck'] 62)) B u cur) := Lib.hid (HOU.out.alloc _)
          have HH0 : Hid (Hold wr.heap.size y k' x' ak' nk' ck' (wr.alloc (.cells #[.string y, .int .i64 k', .string x', .slice ak' nk' ck'] 62)) u) := ⟨by simp [go_sem], by simp [go_sem], by simp [go_sem], by simp [go_sem], hub, by simp⟩
          have f00 : (wr.alloc (.cells #[.string y, .int .i64 k', .string x', .slice ak' nk' ck'] 62)).cell? ⟨w.heap.size, 0, none⟩ = some (.int .i64 6) := (HLU.out.trans HL0.out).cell (by simp [go_sem]) hvg
          go_wp2_with fail
          refine (HC.out _ u cur (E7.out.lay HOU.out HL0.out) HO0.out (by simp; omega) (by first | omega | (simp; omega)) HCG.out).mono ?_
          rintro e wD ⟨uD, rfl, ho, hl⟩
          have HLD := Lib.hid (HL0.out.trans hl)
          have HOD : Hid (OwnB wD B uD (cur ++ ((if decide (0 = 0) then [] else [44]) ++ (named false n ++ printJ (.mk k' t' m'))))) := by
            have e : cur ++ ((if decide (0 = 0) then [] else [44]) ++ (named false n ++ printJ (.mk k' t' m'))) = cur ++ printJ (.mk k' t' m') := by
              simp [named, HE1.out]
            show OwnB _ _ _ _
            rw [e]
            exact ho
          clear ho hl
          go_wp2_with fail
          go_roundw
          case rel => exact lay_rel HX.out hall.out HOD.out HLU.out HLD.out (by rw [HML.out]; exact hlt) (by simp) hcw
          case measure => simp [intOf]; omega
        · have djz : decide ((0 : Int) < (j : Int)) = true := by simp; omega
          have hub : u.ownBlock ≠ some wr.heap.size := fun e => by have := (owns_lt HOU.out _ e).2; omega
          have HL0 : Hid (LayF wr (wr.alloc (.cells #[.string y, .int .i64 k', .string x', .slice ak' nk' ck'] 62)) u u) := LayF.fresh ((Below.refl _ _).alloc (Nat.le_refl _) _) u
          have HO0 : Hid (OwnB (wr.alloc (.cells #[.string y, .int .i64 k', .string x', .slice ak' nk' ck'] 62)) B u cur) := Lib.hid (HOU.out.alloc _)
          have HH0 : Hid (Hold wr.heap.size y k' x' ak' nk' ck' (wr.alloc (.cells #[.string y, .int .i64 k', .string x', .slice ak' nk' ck'] 62)) u) := ⟨by simp [go_sem], by simp [go_sem], by simp [go_sem], by simp [go_sem], hub, by simp⟩
          go_wp2_with (at_builtin; refine wpList_appL (v := u) (bs := cur) (sv := .slice (some ⟨wr.heap.size + 1, 0, none⟩) 1 1) (l := [44]) (B := B) (by rfl) _ _ (by rfl) (by rfl) (HO0.out.alloc _) (by rfl) (by have := srcB_one (wr.alloc (.cells #[.string y, .int .i64 k', .string x', .slice ak' nk' ck'] 62)) 44 (by omega); simpa using this) ?o3 ?o4 ?_)
          case o3 => simp; omega
          case o4 => simp; omega
          intro uA wA ho hl
          have hl' : LayF (wr.alloc (.cells #[.string y, .int .i64 k', .string x', .slice ak' nk' ck'] 62)) wA u uA := (LayF.fresh ((Below.refl _ _).alloc (Nat.le_refl _) _) u).trans hl
          have HLA := Lib.hid (HL0.out.trans hl')
          have HOA := Lib.hid ho
          have HHA := Lib.hid (HH0.out.step hl')
          have hsA : B ≤ wA.heap.size := Nat.le_trans (by omega) HLA.out.size
          clear ho hl hl'
          obtain ⟨z0A, z1A, z2A, z3A, _, _⟩ := HHA.out
          have f0A : wA.cell? ⟨w.heap.size, 0, none⟩ = some (.int .i64 6) := (HLU.out.trans HLA.out).cell (by simp [go_sem]) hvg
          go_wp2_with fail
          refine (HC.out _ uA (cur ++ [44]) (E7.out.lay HOU.out HLA.out) HOA.out hsA (by first | omega | (simp; omega)) HCG.out).mono ?_
          rintro e wD ⟨uD, rfl, ho, hl⟩
          have HLD := Lib.hid (HLA.out.trans hl)
          have HOD : Hid (OwnB wD B uD (cur ++ ((if decide (j = 0) then [] else [44]) ++ (named false n ++ printJ (.mk k' t' m'))))) := by
            have e : cur ++ ((if decide (j = 0) then [] else [44]) ++ (named false n ++ printJ (.mk k' t' m'))) = (cur ++ [44]) ++ printJ (.mk k' t' m') := by
              simp [named, HE1.out, hjz]
            show OwnB _ _ _ _
            rw [e]
            exact ho
          clear ho hl
          go_wp2_with fail
          go_roundw
          case rel => exact lay_rel HX.out hall.out HOD.out HLU.out HLD.out (by rw [HML.out]; exact hlt) (by simp) hcw
          case measure => simp [intOf]; omega
      · have hd : m.drop j = .nil := M.drop_len m j (by rw [HML.out]; omega)
        have HF : Hid (all = cur ++ [93]) := by
          show _ = _
          rw [hall.out, hd]
          rfl
        have hs1 : B ≤ wr.heap.size := by omega
        go_wp2_with (at_builtin; refine wpList_appL (v := u) (bs := cur) (sv := .slice (some ⟨wr.heap.size, 0, none⟩) 1 1) (l := [93]) (B := B) (by rfl) _ _ (by rfl) (by rfl) (HOU.out.alloc _) (by rfl) (srcB_one wr 93 (by omega)) ?o3 ?o4 ?_)
        case o3 => simp; omega
        case o4 => simp; omega
        intro u9 w9 ho hl
        have HL9 := Lib.hid (((LayF.fresh ((Below.refl w.heap.size w).alloc (Nat.le_refl _) _) v).trans HLU.out).trans ((LayF.fresh ((Below.refl _ _).alloc (Nat.le_refl _) _) u).trans hl))
        have HO9 := Lib.hid ho
        clear ho hl
        go_wp2_with fail
        go_ret
        exact ⟨_, rfl, by rw [HF.out]; exact HO9.out, HL9.out⟩
  · have ht0 : t = [] := by
      by_cases e : t = []
      · exact e
      · have := htx e; omega
    have HP : Hid (bs ++ printJ (.mk 7 t m) = (bs ++ [123]) ++ (printM true true m ++ [125])) := by
      show _ = _
      rw [List.append_assoc]
      rfl
    obtain ⟨all, hall⟩ : ∃ all, all = bs ++ printJ (.mk 7 t m) := ⟨_, rfl⟩
    rw [← hall] at HP ⊢
    have HAL : Hid (all.length ≤ 700000) := by
      show _ ≤ _
      have h1 := print_wt (.mk 7 t m)
      have h2 : wtJ (.mk 7 t m) = 2 + t.length + wtM m := rfl
      rw [hall, List.length_append]
      omega
    have HML := Lib.hid hml
    have HCM := Lib.hid hcm
    have HKS := Lib.hid hks
    have hvg : v.ownBlock ≠ some w.heap.size := fun e => by have := (owns_lt HO.out _ e).2; omega
    clear hnil htx hbare hnum hstr hcm hks ht0 hml hall
    go_enter Try.func39, Try.ntmps39
    go_wp2_with (at_builtin; refine wpList_appL (v := v) (bs := bs) (sv := .slice (some ⟨w.heap.size + 1, 0, none⟩) 1 1) (l := [123]) (B := B) (by rfl) _ _ (by rfl) (by rfl) ((HO.out.alloc _).alloc _) (by rfl) (by have := srcB_one (w.alloc (.cells (jCells 7 x ak nk ck) 24)) 123 (by omega); simpa using this) ?o3 ?o4 ?_)
    case o3 => simp; omega
    case o4 => simp; omega
    intro v1 w1 ho1 hl1
    have hLay1 : LayF (w.alloc (.cells (jCells 7 x ak nk ck) 24)) w1 v v1 := (LayF.fresh ((Below.refl _ _).alloc (Nat.le_refl _) _) v).trans hl1
    have HL1 := Lib.hid hLay1
    have HO1 := Lib.hid ho1
    clear ho1 hl1 hLay1
    have f2 : w1.cell? ⟨w.heap.size, 2, none⟩ = some (.slice ak nk ck) := HL1.out.cell (by simp [go_sem]) hvg
    go_wp2_with fail
    go_loopw [0, 7, 8, 45] (fun b _ _ i wr => LayRel (w.alloc (.cells (jCells 7 x ak nk ck) 24)) B v all true m b i wr) (fun _ _ _ i _ => nk - (intOf i).toNat)
    case atStart => exact ⟨_, 0, _, rfl, rfl, Nat.zero_le _, HP, HO1.out, HL1.out, by rw [List.length_append]; simp only [List.length_cons, List.length_nil, M.drop]; omega⟩
    case round =>
      obtain ⟨u, j, cur, rfl, rfl, hjm, hall, hou, hlu, hcw⟩ := hrel
      have f0 : wr.cell? ⟨w.heap.size, 0, none⟩ = some (.int .i64 7) := hlu.cell (by simp [go_sem]) hvg
      have hKW : RdM (fun k => k < B) wr ak 0 m := (HKS.out.below ((Below.refl _ _).alloc (Nat.le_refl _) _)).lay (HO.out.alloc _) hlu
      have hsz : w.heap.size + 1 ≤ wr.heap.size := by have := hlu.size; simpa using this
      have hcl : cur.length ≤ 700000 := by
        have h1 := congrArg List.length hall.out
        rw [List.length_append] at h1
        have := HAL.out
        omega
      have HOU := Lib.hid hou
      have HLU := Lib.hid hlu
      have HKW := Lib.hid hKW
      rw [HML.out] at hjm
      clear hou hlu hKW
      by_cases hlt : j < nk
      · obtain ⟨⟨n, vv⟩, hx⟩ := M.get_some m j (by rw [HML.out]; exact hlt)
        have hwg := wtM_get m j n vv hx
        have hcg := checkM_get m j n vv HCM.out hx
        obtain ⟨b0, o0, y, k', t', x', m', ak', nk', ck', rfl, rfl, e1, e2, e3, e4, e5, e6, e7, g0, g1, g2, g3⟩ := (HKW.out.at hx).cells
        have E7 := Lib.hid e7
        have HX := Lib.hid hx
        have hyl : y.size = n.length := by rw [← e1, sl_len]
        have hwy : wholeTo (sl y) = y.size := by rw [e1, hcg.1, hyl]
        have HC := Lib.hid (fun W U cu => HOF.out _ (show wtJ (.mk k' t' m') ≤ d by omega) W B U cu (jCells k' x' ak' nk' ck'))
        have HE1 := Lib.hid e1
        have HCG := Lib.hid hcg.2
        have hcl2 : cur.length + 8 * (n.length + wtJ (.mk k' t' m')) + 8 ≤ 700000 := by omega
        have hys : y.size ≤ 100000 := by omega
        have hj0 : (0 : Int) ≤ (j : Int) := by omega
        have hj1 : (j : Int) < (nk : Int) := by omega
        have HWN := Lib.hid (show wtJ (.mk k' t' m') ≤ d by omega)
        clear hwg hcg e1 e3 e4 e5 e7 hx
        by_cases hjz : j = 0
        · subst hjz
          simp only [Nat.zero_mul, Nat.add_zero] at g0 g1 g2 g3
          have hub : u.ownBlock ≠ some wr.heap.size := fun e => by have := (owns_lt HOU.out _ e).2; omega
          have HL0 : Hid (LayF wr (wr.alloc (.cells #[.string y, .int .i64 k', .string x', .slice ak' nk' ck'] 62)) u u) := LayF.fresh ((Below.refl _ _).alloc (Nat.le_refl _) _) u
          have HO0 : Hid (OwnB (wr.alloc (.cells #[.string y, .int .i64 k', .string x', .slice ak' nk' ck'] 62)) B u cur) := Lib.hid (HOU.out.alloc _)
          have HH0 : Hid (Hold wr.heap.size y k' x' ak' nk' ck' (wr.alloc (.cells #[.string y, .int .i64 k', .string x', .slice ak' nk' ck'] 62)) u) := ⟨by simp [go_sem], by simp [go_sem], by simp [go_sem], by simp [go_sem], hub, by simp⟩
          have f00 : (wr.alloc (.cells #[.string y, .int .i64 k', .string x', .slice ak' nk' ck'] 62)).cell? ⟨w.heap.size, 0, none⟩ = some (.int .i64 7) := (HLU.out.trans HL0.out).cell (by simp [go_sem]) hvg
          go_wp2_with fail
          refine (quoted_calls y hys hwy _ B u cur HO0.out (by simp; omega) (by first | omega | (simp; omega))).mono ?_
          rintro e wB ⟨uB, rfl, ho, hl⟩
          have HLB := Lib.hid (HL0.out.trans hl)
          have HOB := Lib.hid ho
          have HHB := Lib.hid (HH0.out.step hl)
          have hsB : B ≤ wB.heap.size := Nat.le_trans (by omega) HLB.out.size
          clear ho hl
          obtain ⟨z0B, z1B, z2B, z3B, _, _⟩ := HHB.out
          have f0B : wB.cell? ⟨w.heap.size, 0, none⟩ = some (.int .i64 7) := (HLU.out.trans HLB.out).cell (by simp [go_sem]) hvg
          have hqy : (quoteL (sl y)).length ≤ 6 * n.length + 2 := by
            have h1 := quoteL_len (sl y)
            have h2 := quoteM_len (sl y)
            rw [sl_len, hyl] at h2
            omega
          go_wp2_with (at_builtin; refine wpList_appL (v := uB) (bs := (cur ++ quoteL (sl y))) (sv := .slice (some ⟨wB.heap.size, 0, none⟩) 1 1) (l := [58]) (B := B) (by rfl) _ _ (by rfl) (by rfl) (HOB.out.alloc _) (by rfl) (by have := srcB_one wB 58 (by omega); simpa using this) ?o3 ?o4 ?_)
          case o3 => simp; omega
          case o4 => simp; omega
          intro uC wC ho hl
          have hl' : LayF wB wC uB uC := (LayF.fresh ((Below.refl _ _).alloc (Nat.le_refl _) _) uB).trans hl
          have HLC := Lib.hid (HLB.out.trans hl')
          have HOC := Lib.hid ho
          have HHC := Lib.hid (HHB.out.step hl')
          have hsC : B ≤ wC.heap.size := Nat.le_trans (by omega) HLC.out.size
          clear ho hl hl'
          obtain ⟨z0C, z1C, z2C, z3C, _, _⟩ := HHC.out
          have f0C : wC.cell? ⟨w.heap.size, 0, none⟩ = some (.int .i64 7) := (HLU.out.trans HLC.out).cell (by simp [go_sem]) hvg
          go_wp2_with fail
          refine (HC.out _ uC (cur ++ (quoteL (sl y) ++ [58])) (E7.out.lay HOU.out HLC.out) HOC.out hsC (by first | omega | (simp; omega)) HCG.out).mono ?_
          rintro e wD ⟨uD, rfl, ho, hl⟩
          have HLD := Lib.hid (HLC.out.trans hl)
          have HOD : Hid (OwnB wD B uD (cur ++ ((if decide (0 = 0) then [] else [44]) ++ (named true n ++ printJ (.mk k' t' m'))))) := by
            have e : cur ++ ((if decide (0 = 0) then [] else [44]) ++ (named true n ++ printJ (.mk k' t' m'))) = (cur ++ (quoteL (sl y) ++ [58])) ++ printJ (.mk k' t' m') := by
              simp [named, HE1.out]
            show OwnB _ _ _ _
            rw [e]
            exact ho
          clear ho hl
          go_wp2_with fail
          go_roundw
          case rel => exact lay_rel HX.out hall.out HOD.out HLU.out HLD.out (by rw [HML.out]; exact hlt) (by simp) hcw
          case measure => simp [intOf]; omega
        · have djz : decide ((0 : Int) < (j : Int)) = true := by simp; omega
          have hub : u.ownBlock ≠ some wr.heap.size := fun e => by have := (owns_lt HOU.out _ e).2; omega
          have HL0 : Hid (LayF wr (wr.alloc (.cells #[.string y, .int .i64 k', .string x', .slice ak' nk' ck'] 62)) u u) := LayF.fresh ((Below.refl _ _).alloc (Nat.le_refl _) _) u
          have HO0 : Hid (OwnB (wr.alloc (.cells #[.string y, .int .i64 k', .string x', .slice ak' nk' ck'] 62)) B u cur) := Lib.hid (HOU.out.alloc _)
          have HH0 : Hid (Hold wr.heap.size y k' x' ak' nk' ck' (wr.alloc (.cells #[.string y, .int .i64 k', .string x', .slice ak' nk' ck'] 62)) u) := ⟨by simp [go_sem], by simp [go_sem], by simp [go_sem], by simp [go_sem], hub, by simp⟩
          go_wp2_with (at_builtin; refine wpList_appL (v := u) (bs := cur) (sv := .slice (some ⟨wr.heap.size + 1, 0, none⟩) 1 1) (l := [44]) (B := B) (by rfl) _ _ (by rfl) (by rfl) (HO0.out.alloc _) (by rfl) (by have := srcB_one (wr.alloc (.cells #[.string y, .int .i64 k', .string x', .slice ak' nk' ck'] 62)) 44 (by omega); simpa using this) ?o3 ?o4 ?_)
          case o3 => simp; omega
          case o4 => simp; omega
          intro uA wA ho hl
          have hl' : LayF (wr.alloc (.cells #[.string y, .int .i64 k', .string x', .slice ak' nk' ck'] 62)) wA u uA := (LayF.fresh ((Below.refl _ _).alloc (Nat.le_refl _) _) u).trans hl
          have HLA := Lib.hid (HL0.out.trans hl')
          have HOA := Lib.hid ho
          have HHA := Lib.hid (HH0.out.step hl')
          have hsA : B ≤ wA.heap.size := Nat.le_trans (by omega) HLA.out.size
          clear ho hl hl'
          obtain ⟨z0A, z1A, z2A, z3A, _, _⟩ := HHA.out
          have f0A : wA.cell? ⟨w.heap.size, 0, none⟩ = some (.int .i64 7) := (HLU.out.trans HLA.out).cell (by simp [go_sem]) hvg
          go_wp2_with fail
          refine (quoted_calls y hys hwy _ B uA (cur ++ [44]) HOA.out hsA (by first | omega | (simp; omega))).mono ?_
          rintro e wB ⟨uB, rfl, ho, hl⟩
          have HLB := Lib.hid (HLA.out.trans hl)
          have HOB := Lib.hid ho
          have HHB := Lib.hid (HHA.out.step hl)
          have hsB : B ≤ wB.heap.size := Nat.le_trans (by omega) HLB.out.size
          clear ho hl
          obtain ⟨z0B, z1B, z2B, z3B, _, _⟩ := HHB.out
          have f0B : wB.cell? ⟨w.heap.size, 0, none⟩ = some (.int .i64 7) := (HLU.out.trans HLB.out).cell (by simp [go_sem]) hvg
          have hqy : (quoteL (sl y)).length ≤ 6 * n.length + 2 := by
            have h1 := quoteL_len (sl y)
            have h2 := quoteM_len (sl y)
            rw [sl_len, hyl] at h2
            omega
          go_wp2_with (at_builtin; refine wpList_appL (v := uB) (bs := ((cur ++ [44]) ++ quoteL (sl y))) (sv := .slice (some ⟨wB.heap.size, 0, none⟩) 1 1) (l := [58]) (B := B) (by rfl) _ _ (by rfl) (by rfl) (HOB.out.alloc _) (by rfl) (by have := srcB_one wB 58 (by omega); simpa using this) ?o3 ?o4 ?_)
          case o3 => simp; omega
          case o4 => simp; omega
          intro uC wC ho hl
          have hl' : LayF wB wC uB uC := (LayF.fresh ((Below.refl _ _).alloc (Nat.le_refl _) _) uB).trans hl
          have HLC := Lib.hid (HLB.out.trans hl')
          have HOC := Lib.hid ho
          have HHC := Lib.hid (HHB.out.step hl')
          have hsC : B ≤ wC.heap.size := Nat.le_trans (by omega) HLC.out.size
          clear ho hl hl'
          obtain ⟨z0C, z1C, z2C, z3C, _, _⟩ := HHC.out
          have f0C : wC.cell? ⟨w.heap.size, 0, none⟩ = some (.int .i64 7) := (HLU.out.trans HLC.out).cell (by simp [go_sem]) hvg
          go_wp2_with fail
          refine (HC.out _ uC (cur ++ 44 :: (quoteL (sl y) ++ [58])) (E7.out.lay HOU.out HLC.out) HOC.out hsC (by first | omega | (simp; omega)) HCG.out).mono ?_
          rintro e wD ⟨uD, rfl, ho, hl⟩
          have HLD := Lib.hid (HLC.out.trans hl)
          have HOD : Hid (OwnB wD B uD (cur ++ ((if decide (j = 0) then [] else [44]) ++ (named true n ++ printJ (.mk k' t' m'))))) := by
            have e : cur ++ ((if decide (j = 0) then [] else [44]) ++ (named true n ++ printJ (.mk k' t' m'))) = (cur ++ 44 :: (quoteL (sl y) ++ [58])) ++ printJ (.mk k' t' m') := by
              simp [named, HE1.out, hjz]
            show OwnB _ _ _ _
            rw [e]
            exact ho
          clear ho hl
          go_wp2_with fail
          go_roundw
          case rel => exact lay_rel HX.out hall.out HOD.out HLU.out HLD.out (by rw [HML.out]; exact hlt) (by simp) hcw
          case measure => simp [intOf]; omega
      · have hd : m.drop j = .nil := M.drop_len m j (by rw [HML.out]; omega)
        have HF : Hid (all = cur ++ [125]) := by
          show _ = _
          rw [hall.out, hd]
          rfl
        have hs1 : B ≤ wr.heap.size := by omega
        go_wp2_with (at_builtin; refine wpList_appL (v := u) (bs := cur) (sv := .slice (some ⟨wr.heap.size, 0, none⟩) 1 1) (l := [125]) (B := B) (by rfl) _ _ (by rfl) (by rfl) (HOU.out.alloc _) (by rfl) (srcB_one wr 125 (by omega)) ?o3 ?o4 ?_)
        case o3 => simp; omega
        case o4 => simp; omega
        intro u9 w9 ho hl
        have HL9 := Lib.hid (((LayF.fresh ((Below.refl w.heap.size w).alloc (Nat.le_refl _) _) v).trans HLU.out).trans ((LayF.fresh ((Below.refl _ _).alloc (Nat.le_refl _) _) u).trans hl))
        have HO9 := Lib.hid ho
        clear ho hl
        go_wp2_with fail
        go_ret
        exact ⟨_, rfl, by rw [HF.out]; exact HO9.out, HL9.out⟩

end Go.Proofs.Ytamhdoijmkjngaa
