/- How large a tree of JSON is: the statements' guard. -/
import Derived.Test.YtamhdoijmkjngaaJWt
import Derived.Deep.RegionHeld3
namespace Go.Proofs.Ytamhdoijmkjngaa
open Go.RowKit
set_option linter.unusedVariables false
set_option linter.unusedSimpArgs false

def roomS : Int → List Int → Int
  | left, [] => left
  | left, s :: r => if left < 0 ∨ left < s then -1 else roomS (left - s) r

theorem roomS_bd : ∀ (l : List Int) (left : Int), (∀ s ∈ l, 0 ≤ s) → -1 ≤ left → -1 ≤ roomS left l ∧ roomS left l ≤ left
  | [], left, _, h => by simp [roomS]; omega
  | s :: r, left, hs, h => by
    have h0 := hs s (by simp)
    simp only [roomS]
    split
    · omega
    · have := roomS_bd r (left - s) (fun x hx => hs x (by simp [hx])) (by omega)
      omega

def nAt (l : List Int) (i : Nat) : Int := l.getD i 0

set_option maxRecDepth 100000 in
set_option maxHeartbeats 1000000 in
theorem room_calls (a : Option Addr) (n cap : Nat) (left : Int) (w : World) (l : List Int) (h : RdI .i64 w a n l) (hs : ∀ s ∈ l, 0 ≤ s) (h0 : -1 ≤ left) (h1 : left ≤ 4611686018427387904) :
    Calls Try.prog 62 #[.int .i64 left, .slice a n cap] w fun e w' => e = .returned (.int .i64 (roomS left l)) ∧ w = w' := by
  have H := Lib.hid h
  have hm := h.2.1
  have HS := Lib.hid hs
  clear h hs
  go_enter Try.func62, Try.ntmps62
  go_wp2
  go_loop [0, 5] (fun q i => ∃ (k : Nat) (lf : Int), k ≤ n ∧ i = .int .i64 k ∧ q = .int .i64 lf ∧ -1 ≤ lf ∧ lf ≤ 4611686018427387904 ∧ roomS lf (l.drop k) = roomS left l) (fun _ i => n - (intOf i).toNat)
  case atStart => exact ⟨0, left, by omega, rfl, rfl, h0, h1, rfl⟩
  case round =>
    obtain ⟨k, lf, hk, rfl, rfl, b0, b1, hr⟩ := hrel
    have HR := Lib.hid hr
    clear hr
    by_cases hlt : k < n
    · obtain ⟨b, o, rfl, d⟩ : ∃ b o, a = some ⟨b, o, none⟩ ∧ w.cell? ⟨b, o + k, none⟩ = some (.int .i64 (nAt l k)) := H.out.2.2.2 k hlt
      have hl : k < l.length := by rw [H.out.1]; exact hlt
      have hd : Hid (roomS lf (l.drop k) = if lf < 0 ∨ lf < nAt l k then -1 else roomS (lf - nAt l k) (l.drop (k + 1))) := by
        show roomS lf (l.drop k) = _
        rw [drop_getD l 0 k hl]; rfl
      have hn : 0 ≤ nAt l k := HS.out _ (by unfold nAt; rw [List.getD_eq_getElem?_getD, List.getElem?_eq_getElem hl]; exact List.getElem_mem hl)
      clear hl
      generalize nAt l k = s at d hd hn
      by_cases hx : lf < 0
      · have hf := Lib.hid (HR.out.symm.trans (hd.out.trans (if_pos (Or.inl hx))))
        go_wp2
        go_ret
        exact ⟨by rw [hf.out]; rfl, rfl⟩
      · by_cases hy : lf < s
        · have hf := Lib.hid (HR.out.symm.trans (hd.out.trans (if_pos (Or.inr hy))))
          go_wp2
          go_ret
          exact ⟨by rw [hf.out]; rfl, rfl⟩
        · have hf := Lib.hid ((hd.out.trans (if_neg (by omega))).symm.trans HR.out)
          go_wp2
          go_round
          case rel => exact ⟨k + 1, lf - s, by omega, by simp, by simp, by omega, by omega, hf.out⟩
          case measure => simp [intOf]; omega
    · have hf : Hid (roomS left l = lf) := by
        have := HR.out
        rw [List.drop_of_length_le (by rw [H.out.1]; omega)] at this
        exact this.symm
      go_wp2
      go_ret
      exact ⟨by rw [hf.out]; rfl, rfl⟩

mutual
def bookJ : Int → J → Int
  | left, .mk _ t m => bookM (roomS left [2, t.length]) m
def bookM : Int → M → Int
  | left, .nil => left
  | left, .cons n v r => if left < 0 then left else bookM (bookJ (roomS left [(n.length : Int)]) v) r
end

mutual
theorem bookJ_bd : ∀ (j : J) (left : Int), -1 ≤ left → -1 ≤ bookJ left j ∧ bookJ left j ≤ left
  | .mk _ t m, left, h => by
    have h1 := roomS_bd [2, t.length] left (by simp) h
    have h2 := bookM_bd m _ h1.1
    simp only [bookJ]
    omega
theorem bookM_bd : ∀ (m : M) (left : Int), -1 ≤ left → -1 ≤ bookM left m ∧ bookM left m ≤ left
  | .nil, left, h => by simp [bookM]; omega
  | .cons n v r, left, h => by
    simp only [bookM]
    split
    · omega
    · have h1 := roomS_bd [(n.length : Int)] left (by simp) h
      have h2 := bookJ_bd v _ h1.1
      have h3 := bookM_bd r _ h2.1
      omega
end

theorem roomS_sum : ∀ (l : List Int) (left : Int), (∀ s ∈ l, 0 ≤ s) → 0 ≤ roomS left l → roomS left l = left - l.sum
  | [], left, _, _ => by simp [roomS]
  | s :: r, left, hs, h => by
    simp only [roomS] at h ⊢
    split at h
    · omega
    · rename_i hh
      rw [if_neg hh, roomS_sum r (left - s) (fun x hx => hs x (by simp [hx])) h]
      simp; omega

mutual
theorem bookJ_wt : ∀ (j : J) (left : Int), 0 ≤ bookJ left j → bookJ left j = left - wtJ j
  | .mk _ t m, left, h => by
    simp only [bookJ] at h ⊢
    have h2 := bookM_wt m _ h
    have hr : 0 ≤ roomS left [2, t.length] := by omega
    have h1 := roomS_sum [2, t.length] left (by simp) hr
    rw [h2, h1]
    simp only [wtJ, List.sum_cons, List.sum_nil]
    omega
theorem bookM_wt : ∀ (m : M) (left : Int), 0 ≤ bookM left m → bookM left m = left - wtM m
  | .nil, left, h => by simp [bookM, wtM]
  | .cons n v r, left, h => by
    simp only [bookM] at h ⊢
    split at h
    · omega
    · rename_i hh
      rw [if_neg hh]
      have h3 := bookM_wt r _ h
      have h2 := bookJ_wt v (roomS left [(n.length : Int)]) (by omega)
      have h1 := roomS_sum [(n.length : Int)] left (by simp) (by omega)
      rw [h3, h2, h1]
      simp only [wtM, List.sum_cons, List.sum_nil]
      omega
end

mutual
def depJ : J → Nat
  | .mk _ _ m => depM m + 1
def depM : M → Nat
  | .nil => 0
  | .cons _ v r => max (depJ v) (depM r)
end
theorem depM_get : ∀ (m : M) (i : Nat) (n : List UInt8) (v : J), m.get? i = some (n, v) → depJ v ≤ depM m
  | .nil, i, n, v, h => by simp [M.get?] at h
  | .cons n' v' r, 0, n, v, h => by
    simp only [M.get?, Option.some.injEq, Prod.mk.injEq] at h
    obtain ⟨rfl, rfl⟩ := h
    simp only [depM]; exact Nat.le_max_left _ _
  | .cons n' v' r, i + 1, n, v, h => by
    have := depM_get r i n v h
    simp only [depM]; exact Nat.le_trans this (Nat.le_max_right _ _)

theorem RdI.ofNew {w : World} (cs : Array Value) (l : List Int) (t : Nat) (hc : cs.toList = l.map (Value.int .i64)) (hl : l.length ≤ 9223372036854775807) (hw : ∀ n ∈ l, (Lit.int .i64 n).wf = true) (g : Nat) (hg : g = w.heap.size) : RdI .i64 (w.alloc (.cells cs t)) (some ⟨g, 0, none⟩) l.length l := by
  subst hg
  refine ⟨rfl, hl, hw, fun i hi => ⟨_, _, rfl, ?_⟩⟩
  have : (w.alloc (.cells cs t)).cell? ⟨w.heap.size, 0 + i, none⟩ = cs[i]? := by rw [Nat.zero_add]; simp [go_sem]
  rw [this, ← Array.getElem?_toList, hc, List.getElem?_map]
  simp only [List.getD_eq_getElem?_getD, List.getElem?_eq_getElem hi]
  rfl

theorem wf_of {n : Int} (h0 : -9223372036854775808 ≤ n) (h1 : n ≤ 9223372036854775807) : (Lit.int .i64 n).wf = true := by
  simp [Lit.wf, IntKind.min, IntKind.max, IntKind.signed, IntKind.bits]; omega

theorem below_cell {W w' : World} {p : Addr} {v : Value} (hb : Below W.heap.size W w') (h : W.cell? p = some v) : w'.cell? p = some v := (hb.cell (cell_block h)).trans h

theorem below_cell2 {W w' : World} {B : Nat} {p : Addr} {v : Value} (hb : Below B W w') (h : W.cell? p = some v) (hB : p.block < B) : w'.cell? p = some v := (hb.cell hB).trans h

theorem below_more {B : Nat} {a wr w' : World} {o : Obj} (h : Below B a wr) (hs : B ≤ wr.heap.size) (hb : Below ((wr.alloc o).drew).heap.size ((wr.alloc o).drew) w') : Below B a w' :=
  h.trans ((((Below.refl wr.heap.size wr).alloc (Nat.le_refl _) o).drew.mono hs).trans (hb.mono (by show B ≤ (wr.heap.push o).size; simp; omega)))

/-- Room at one size. -/
theorem room1 (g : Nat) (left s : Int) (W : World) (hc : W.cell? ⟨g, 0, none⟩ = some (.int .i64 s)) (h0 : 0 ≤ s) (h1 : s ≤ 9223372036854775807) (b0 : -1 ≤ left) (b1 : left ≤ 4611686018427387904) :
    Calls Try.prog 62 #[.int .i64 left, .slice (some ⟨g, 0, none⟩) 1 1] W fun e w' => e = .returned (.int .i64 (roomS left [s])) ∧ W = w' :=
  by
  refine room_calls _ 1 1 left W [s] ⟨rfl, by omega, by intro n hn; simp at hn; subst hn; exact wf_of (by omega) h1, ?_⟩ (by simpa using h0) b0 b1
  intro i hi
  obtain rfl : i = 0 := by omega
  exact ⟨g, 0, rfl, by simpa using hc⟩

set_option maxRecDepth 100000 in
set_option maxHeartbeats 400000 in
theorem tree_calls (d : Nat) : ∀ (j : J), depJ j ≤ d → ∀ (left : Int) (S : Nat → Prop) (w : World) (c : Array Value), RdJ S w j c → -1 ≤ left → left ≤ 4611686018427387904 →
    Calls Try.prog 38 #[.int .i64 left, .agg c] w fun e w' => e = .returned (.int .i64 (bookJ left j)) ∧ Below w.heap.size w w' := by
  induction d with
  | zero => intro t ht; cases t; simp [depJ] at ht
  | succ d ih =>
    intro t ht left S w c h h0 h1
    obtain ⟨k, t, kids⟩ := t
    obtain ⟨x, ak, nk, ck, rfl, hxt, hxs, hkb, hkl, hnk, hks⟩ := h
    have hkd : depM kids ≤ d := by simp only [depJ] at ht; omega
    have hxl : x.size = t.length := by rw [← hxt, sl_len]
    clear ht
    have hnk9 := hnk.1
    have r1 := roomS_bd [2, (x.size : Int)] left (by simp) h0
    have IH := Lib.hid ih
    have HK := Lib.hid hks
    have HKL := Lib.hid hkl
    have HF : Hid (bookJ left (.mk k t kids) = bookM (roomS left [2, (x.size : Int)]) kids) := by
      show bookJ _ _ = _
      rw [hxl]; rfl
    have hroom := fun (w : World) (g : Nat) (hg : g = w.heap.size) => room_calls _ _ 2 left (w.alloc (.cells #[.int .i64 2, .int .i64 x.size] 3)) [2, (x.size : Int)] (RdI.ofNew _ _ _ rfl (by simp) (by intro n hn; simp at hn; rcases hn with rfl | rfl <;> exact wf_of (by omega) (by omega)) g hg) (by simp) h0 h1
    have HRm := Lib.hid hroom
    clear ih hks hkl hroom hxt hxl
    generalize roomS left [2, (x.size : Int)] = lf0 at r1 HF HRm
    go_enter Try.func38, Try.ntmps38
    go_wp2_with fail
    refine (HRm.out _ _ (by simp)).mono ?_
    rintro e w' ⟨rfl, rfl⟩
    go_wp2_with fail
    have hW : Below w.heap.size w ((w.alloc (.cells (jCells k x ak nk ck) 24)).alloc (.cells #[.int .i64 2, .int .i64 x.size] 3)) := ((Below.refl _ _).alloc (Nat.le_refl _) _).alloc (by simp) _
    have HW := Lib.hid hW
    clear hW
    go_loopw [0, 5] (fun q i wr => ∃ (j : Nat) (lf : Int), j ≤ nk ∧ i = .int .i64 j ∧ q = .int .i64 lf ∧ -1 ≤ lf ∧ lf ≤ 4611686018427387904 ∧ bookM lf (kids.drop j) = bookM lf0 kids ∧ Below (w.heap.size + 2) ((w.alloc (.cells (jCells k x ak nk ck) 24)).alloc (.cells #[.int .i64 2, .int .i64 x.size] 3)) wr) (fun _ i _ => nk - (intOf i).toNat)
    case atStart => exact ⟨0, lf0, by omega, rfl, rfl, by omega, by omega, by simp [M.drop], Below.refl _ _⟩
    case round =>
      obtain ⟨j, lf, hj, rfl, rfl, b0, b1, hr, hbl⟩ := hrel
      have f8 : wr.cell? ⟨w.heap.size, 2, none⟩ = some (.slice ak nk ck) := below_cell2 hbl (by simp [go_sem]) (by simp)
      have hsz : w.heap.size + 2 ≤ wr.heap.size := by have := hbl.size; simp at this; omega
      have HKW := Lib.hid (HK.out.below (HW.out.trans (hbl.mono (by omega))))
      have HR := Lib.hid hr
      have HBW := Lib.hid hbl
      clear hr hbl
      by_cases hlt : j < nk
      · by_cases hlf : 0 ≤ lf
        · obtain ⟨⟨n, vv⟩, hx⟩ := M.get_some kids j (by rw [HKL.out]; exact hlt)
          have hdep := depM_get kids j _ _ hx
          obtain ⟨b, o, y, k', t', x', kids', ak', nk', ck', rfl, rfl, e1, e2, e4, e5, e6, e7, e3, g0, g1, g2, g3⟩ := (HKW.out.at hx).cells
          have hyn : y.size = n.length := by rw [← e1, sl_len]
          have hrn := roomS_bd [(y.size : Int)] lf (by simp) b0
          have hbt := bookJ_bd (.mk k' t' kids') _ hrn.1
          have HX := Lib.hid (M.drop_get kids j _ _ hx)
          have HN : Hid (bookM lf (kids.drop j) = bookM (bookJ (roomS lf [(y.size : Int)]) (.mk k' t' kids')) (kids.drop (j + 1))) := by
            show bookM _ _ = _
            rw [HX.out, hyn]; simp only [bookM]; rw [if_neg (by omega)]
          have hj0 : (0 : Int) ≤ (j : Int) := by omega
          have hj1 : (j : Int) < (nk : Int) := by omega
          have E3 := Lib.hid e3
          have HC := Lib.hid (IH.out _ (Nat.le_trans hdep hkd))
          have HR1 := Lib.hid (room1 wr.heap.size lf y.size)
          clear hx e3 hdep e1 hyn e4 e6
          generalize roomS lf [(y.size : Int)] = lf1 at hrn hbt HN HR1
          go_wp2_with fail
          go_region_held3 (fun w' => w'.cell? ⟨w.heap.size, 2, none⟩ = some (.slice (some ⟨b, o, none⟩) nk ck) ∧ w'.cell? ⟨b, o + j * 4, none⟩ = some (.string y) ∧ w'.cell? ⟨b, o + j * 4 + 1, none⟩ = some (.int .i64 k') ∧ w'.cell? ⟨b, o + j * 4 + 2, none⟩ = some (.string x') ∧ w'.cell? ⟨b, o + j * 4 + 3, none⟩ = some (.slice ak' nk' ck')) (first | go_keep | ((repeat' apply And.intro) <;> (refine below_cell ‹Below _ _ _› ?_; simp [*]))) (first | (go_at_call 62; refine (HR1.out _ ?_ (by omega) (by omega) (by omega) (by omega)).mono ?_; (simp [go_sem]); rintro e w' ⟨rfl, rfl⟩) | (go_at_call 38; refine (HC.out _ S _ _ ?_ (by omega) (by omega)).mono ?_; (exact E3.out.below ((Below.refl _ _).alloc (Nat.le_refl _) _).drew); rintro e w' ⟨rfl, hb⟩))
          go_wp2_with fail
          go_roundw
          case rel => exact ⟨j + 1, _, by omega, by simp, rfl, hbt.1, by omega, HN.out.symm.trans HR.out, below_more HBW.out hsz hb⟩
          case measure => simp [intOf]; omega
        · have hf : Hid (bookM lf0 kids = lf) := by
            show bookM lf0 kids = lf
            rw [← HR.out]
            obtain ⟨⟨n, vv⟩, hx⟩ := M.get_some kids j (by rw [HKL.out]; exact hlt)
            rw [M.drop_get kids j _ _ hx]
            simp only [bookM]
            rw [if_pos (by omega)]
          go_wp2_with fail
          go_ret
          exact ⟨by rw [HF.out, hf.out]; rfl, HW.out.trans (HBW.out.mono (by omega))⟩
      · have hf : Hid (bookM lf0 kids = lf) := by
          show bookM lf0 kids = lf
          rw [← HR.out, M.drop_len kids j (by rw [HKL.out]; omega)]
          simp only [bookM]
        go_wp2_with fail
        go_ret
        exact ⟨by rw [HF.out, hf.out]; rfl, HW.out.trans (HBW.out.mono (by omega))⟩

/-- Is a tree small? -/
def smallJ (j : J) : Bool := decide (0 ≤ bookJ 1500 j)

theorem smallJ_wt {j : J} (h : smallJ j = true) : wtJ j ≤ 1500 := by
  have h0 : 0 ≤ bookJ 1500 j := of_decide_eq_true h
  have := bookJ_wt j 1500 h0
  omega

set_option maxRecDepth 100000 in
set_option maxHeartbeats 400000 in
theorem small_calls (j : J) (S : Nat → Prop) (w : World) (c : Array Value) (h : RdJ S w j c) :
    Calls Try.prog 19 #[.agg c] w fun e w' => e = .returned (.bool (smallJ j)) ∧ Below w.heap.size w w' := by
  have C := Lib.hid (tree_calls (depJ j) j (Nat.le_refl _) 1500)
  have H := Lib.hid h
  obtain ⟨k, t, kids⟩ := j
  obtain ⟨x, ak, nk, ck, rfl, _⟩ := h
  have HB : Hid (smallJ (.mk k t kids) = decide (0 ≤ bookJ 1500 (.mk k t kids))) := rfl
  generalize hg : smallJ (.mk k t kids) = sm at HB
  generalize bookJ 1500 (.mk k t kids) = n at C HB
  clear hg
  go_enter Try.func19, Try.ntmps19
  go_wp2_with fail
  refine (C.out _ _ _ (H.out.below ((Below.refl _ _).alloc (Nat.le_refl _) _)) (by omega) (by omega)).mono ?_
  rintro e w' ⟨rfl, hb⟩
  go_wp2_with fail
  go_ret
  exact ⟨by rw [HB.out]; rfl, ((Below.refl w.heap.size w).alloc (Nat.le_refl _) _).trans (hb.mono (by simp))⟩
end Go.Proofs.Ytamhdoijmkjngaa
