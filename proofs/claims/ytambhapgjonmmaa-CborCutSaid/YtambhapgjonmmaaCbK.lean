/- How large an item is: the statements' guard. -/
import Derived.Test.YtambhapgjonmmaaCbM0
namespace Go.Proofs.Ytambhapgjonmmaa
open Go.RowKit
set_option linter.unusedVariables false
set_option linter.unusedSimpArgs false

def roomS : Int → List Int → Int
  | left, [] => left
  | left, s :: r => if left < 0 ∨ left < s then -1 else roomS (left - s) r

theorem roomS_bd : ∀ (l : List Int) (left : Int), (∀ s ∈ l, 0 ≤ s) → -1 ≤ left → -1 ≤ roomS left l ∧ roomS left l ≤ left
  | [], left, _, h => by simp [roomS]; omega
  | s :: r, left, hs, h => by
    have h0 := hs s (by simp)
    simp only [roomS]
    split
    · omega
    · have := roomS_bd r (left - s) (fun x hx => hs x (by simp [hx])) (by omega)
      omega

def nAt (l : List Int) (i : Nat) : Int := l.getD i 0

set_option maxRecDepth 100000 in
set_option maxHeartbeats 1000000 in
theorem room_calls (a : Option Addr) (n cap : Nat) (left : Int) (w : World) (l : List Int) (h : RdI .i64 w a n l) (hs : ∀ s ∈ l, 0 ≤ s) (h0 : -1 ≤ left) (h1 : left ≤ 4611686018427387904) :
    Calls Try.prog 36 #[.int .i64 left, .slice a n cap] w fun e w' => e = .returned (.int .i64 (roomS left l)) ∧ w = w' := by
  have H := Lib.hid h
  have hm := h.2.1
  have HS := Lib.hid hs
  clear h hs
  go_enter Try.func36, Try.ntmps36
  go_wp2
  go_loop [0, 5] (fun q i => ∃ (k : Nat) (lf : Int), k ≤ n ∧ i = .int .i64 k ∧ q = .int .i64 lf ∧ -1 ≤ lf ∧ lf ≤ 4611686018427387904 ∧ roomS lf (l.drop k) = roomS left l) (fun _ i => n - (intOf i).toNat)
  case atStart => exact ⟨0, left, by omega, rfl, rfl, h0, h1, rfl⟩
  case round =>
    obtain ⟨k, lf, hk, rfl, rfl, b0, b1, hr⟩ := hrel
    have HR := Lib.hid hr
    clear hr
    by_cases hlt : k < n
    · obtain ⟨b, o, rfl, d⟩ : ∃ b o, a = some ⟨b, o, none⟩ ∧ w.cell? ⟨b, o + k, none⟩ = some (.int .i64 (nAt l k)) := H.out.2.2.2 k hlt
      have hl : k < l.length := by rw [H.out.1]; exact hlt
      have hd : Hid (roomS lf (l.drop k) = if lf < 0 ∨ lf < nAt l k then -1 else roomS (lf - nAt l k) (l.drop (k + 1))) := by
        show roomS lf (l.drop k) = _
        rw [drop_getD l 0 k hl]; rfl
      have hn : 0 ≤ nAt l k := HS.out _ (by unfold nAt; rw [List.getD_eq_getElem?_getD, List.getElem?_eq_getElem hl]; exact List.getElem_mem hl)
      clear hl
      generalize nAt l k = s at d hd hn
      by_cases hx : lf < 0
      · have hf := Lib.hid (HR.out.symm.trans (hd.out.trans (if_pos (Or.inl hx))))
        go_wp2
        go_ret
        exact ⟨by rw [hf.out]; rfl, rfl⟩
      · by_cases hy : lf < s
        · have hf := Lib.hid (HR.out.symm.trans (hd.out.trans (if_pos (Or.inr hy))))
          go_wp2
          go_ret
          exact ⟨by rw [hf.out]; rfl, rfl⟩
        · have hf := Lib.hid ((hd.out.trans (if_neg (by omega))).symm.trans HR.out)
          go_wp2
          go_round
          case rel => exact ⟨k + 1, lf - s, by omega, by simp, by simp, by omega, by omega, hf.out⟩
          case measure => simp [intOf]; omega
    · have hf : Hid (roomS left l = lf) := by
        have := HR.out
        rw [List.drop_of_length_le (by rw [H.out.1]; omega)] at this
        exact this.symm
      go_wp2
      go_ret
      exact ⟨by rw [hf.out]; rfl, rfl⟩

mutual
def bookI : Int → I → Int
  | left, .mk _ _ bs t f => bookIs (roomS left [2, t.size, bs.length]) f
def bookIs : Int → IL → Int
  | left, .nil => left
  | left, .cons x r => if left < 0 then left else bookIs (bookI left x) r
end

mutual
theorem bookI_bd : ∀ (x : I) (left : Int), -1 ≤ left → -1 ≤ bookI left x ∧ bookI left x ≤ left
  | .mk _ _ bs t f, left, h => by
    have h1 := roomS_bd [2, t.size, bs.length] left (by simp) h
    have h2 := bookIs_bd f _ h1.1
    simp only [bookI]
    omega
theorem bookIs_bd : ∀ (f : IL) (left : Int), -1 ≤ left → -1 ≤ bookIs left f ∧ bookIs left f ≤ left
  | .nil, left, h => by simp [bookIs]; omega
  | .cons x r, left, h => by
    simp only [bookIs]
    split
    · omega
    · have h2 := bookI_bd x _ h
      have h3 := bookIs_bd r _ h2.1
      omega
end

theorem roomS_sum : ∀ (l : List Int) (left : Int), (∀ s ∈ l, 0 ≤ s) → 0 ≤ roomS left l → roomS left l = left - l.sum
  | [], left, _, _ => by simp [roomS]
  | s :: r, left, hs, h => by
    simp only [roomS] at h ⊢
    split at h
    · omega
    · rename_i hh
      rw [if_neg hh, roomS_sum r (left - s) (fun x hx => hs x (by simp [hx])) h]
      simp; omega

mutual
theorem bookI_wt : ∀ (x : I) (left : Int), 0 ≤ bookI left x → bookI left x = left - x.wt
  | .mk _ _ bs t f, left, h => by
    simp only [bookI] at h ⊢
    have h2 := bookIs_wt f _ h
    have h1 := roomS_sum [2, t.size, bs.length] left (by simp) (by omega)
    rw [h2, h1]
    simp only [I.wt, List.sum_cons, List.sum_nil]
    omega
theorem bookIs_wt : ∀ (f : IL) (left : Int), 0 ≤ bookIs left f → bookIs left f = left - f.wt
  | .nil, left, h => by simp [bookIs, IL.wt]
  | .cons x r, left, h => by
    simp only [bookIs] at h ⊢
    split at h
    · omega
    · rename_i hh
      rw [if_neg hh]
      have h3 := bookIs_wt r _ h
      have h2 := bookI_wt x left (by omega)
      rw [h3, h2]
      simp only [IL.wt]
      omega
end

theorem RdI.ofNew {w : World} (cs : Array Value) (l : List Int) (t : Nat) (hc : cs.toList = l.map (Value.int .i64)) (hl : l.length ≤ 9223372036854775807) (hw : ∀ n ∈ l, (Lit.int .i64 n).wf = true) (g : Nat) (hg : g = w.heap.size) : RdI .i64 (w.alloc (.cells cs t)) (some ⟨g, 0, none⟩) l.length l := by
  subst hg
  refine ⟨rfl, hl, hw, fun i hi => ⟨_, _, rfl, ?_⟩⟩
  have : (w.alloc (.cells cs t)).cell? ⟨w.heap.size, 0 + i, none⟩ = cs[i]? := by rw [Nat.zero_add]; simp [go_sem]
  rw [this, ← Array.getElem?_toList, hc, List.getElem?_map]
  simp only [List.getD_eq_getElem?_getD, List.getElem?_eq_getElem hi]
  rfl

theorem wf_of {n : Int} (h0 : -9223372036854775808 ≤ n) (h1 : n ≤ 9223372036854775807) : (Lit.int .i64 n).wf = true := by
  simp [Lit.wf, IntKind.min, IntKind.max, IntKind.signed, IntKind.bits]; omega

theorem below_cell {W w' : World} {p : Addr} {v : Value} (hb : Below W.heap.size W w') (h : W.cell? p = some v) : w'.cell? p = some v := (hb.cell (cell_block h)).trans h

theorem below_cell2 {W w' : World} {B : Nat} {p : Addr} {v : Value} (hb : Below B W w') (h : W.cell? p = some v) (hB : p.block < B) : w'.cell? p = some v := (hb.cell hB).trans h

set_option maxRecDepth 100000 in
set_option maxHeartbeats 4000000 in
theorem item_calls (d : Nat) : ∀ (x : I), x.wt ≤ d → ∀ (left : Int) (w : World) (c : Array Value), RdIt (fun _ => True) w x c → -1 ≤ left → left ≤ 4611686018427387904 →
    Calls Try.prog 21 #[.int .i64 left, .agg c] w fun e w' => e = .returned (.int .i64 (bookI left x)) ∧ Below w.heap.size w w' := by
  induction d with
  | zero => intro x hx; have := I.wt_pos x; omega
  | succ d ih =>
    intro x hx left w c hr h0 h1
    obtain ⟨k, n, ys, text, kids⟩ := x
    simp only [I.wt] at hx
    obtain ⟨ab, nb, cb, ak, nk, ck, rfl, hok, hbs, hkl, hrm, hks⟩ := hr
    obtain ⟨wa, hwa⟩ : ∃ W, W = w.alloc (.cells #[.int .i64 k, .int .u64 (n : Nat), .slice ab nb cb, .string text, .slice ak nk ck] 26) := ⟨_, rfl⟩
    obtain ⟨gb, hgb⟩ : ∃ q, q = w.heap.size := ⟨_, rfl⟩
    have hba : Below w.heap.size w wa := by rw [hwa]; exact (Below.refl _ _).alloc (Nat.le_refl _) _
    have hxa : ItBx wa gb k n ab nb cb text ak nk ck := by rw [hwa, hgb]; exact ItBx.new _ _ _ _ _ _ _ _ _ _ _
    have HXa := Lib.hid hxa
    have HBA := Lib.hid hba
    have HKS : Hid (RdIs (fun _ => True) wa ak 0 kids) := hks.below hba
    have HKL := Lib.hid hkl
    have hyl : ys.length = nb := hbs.1.1
    have hnk := hrm.1
    have hts := hok.2.2
    have hnb9 : nb ≤ 9223372036854775807 := hbs.1.2.1
    have r1 := roomS_bd [2, (text.size : Int), (nb : Int)] left (by simp) h0
    have IH := Lib.hid ih
    have HF : Hid (bookI left (.mk k n ys text kids) = bookIs (roomS left [2, (text.size : Int), (nb : Int)]) kids) := by
      show bookI _ _ = _
      rw [← hyl]; rfl
    have HRm := Lib.hid (fun (W : World) (g : Nat) (hg : g = W.heap.size) => room_calls (some ⟨g, 0, none⟩) 3 3 left (W.alloc (.cells #[.int .i64 2, .int .i64 text.size, .int .i64 nb] 3)) [2, (text.size : Int), (nb : Int)] (RdI.ofNew _ _ _ rfl (by simp) (by intro n hn; simp at hn; rcases hn with rfl | rfl | rfl <;> exact wf_of (by omega) (by omega)) g hg) (by simp) h0 h1)
    generalize roomS left [2, (text.size : Int), (nb : Int)] = lf0 at r1 HF HRm
    have HX := Lib.hid hx
    obtain ⟨f0, f1, f2, f3, f4, l0⟩ := hxa
    clear hba hok hbs hrm hks hyl hkl ih hx hnb9 hts
    go_enter Try.func21, Try.ntmps21
    go_upto_region 1 with fail
    rw [← hwa, ← hgb]
    clear hwa hgb
    go_wp2_with fail
    refine (HRm.out _ _ (by simp)).mono ?_
    rintro e w1 ⟨rfl, hw1⟩
    have HB1 : Hid (Below wa.heap.size wa w1) := by show Below _ _ _; rw [← hw1]; exact (Below.refl _ _).alloc (Nat.le_refl _) _
    clear hw1 HRm f0 f1 f2 f3 f4 l0
    go_wp2_with fail
    go_loopw [0, 5] (fun q i wr => ∃ (j : Nat) (lf : Int), j ≤ nk ∧ i = .int .i64 j ∧ q = .int .i64 lf ∧ -1 ≤ lf ∧ lf ≤ 4611686018427387904 ∧ Hid (bookIs lf (kids.drop j) = bookIs lf0 kids) ∧ Below wa.heap.size wa wr) (fun _ i _ => nk - (intOf i).toNat)
    case atStart => exact ⟨0, lf0, by omega, rfl, rfl, by omega, by omega, by show _ = _; cases kids <;> rfl, HB1.out⟩
    case round =>
      obtain ⟨j, lf, hj, rfl, rfl, b0, b1, hr, hbl⟩ := hrel
      have HBL := Lib.hid hbl
      obtain ⟨f0, f1, f2, f3, f4, l0⟩ := HXa.out.keep hbl
      clear hbl
      by_cases hlt : j < nk
      · obtain ⟨y, hy⟩ := IL.get_some kids j (by rw [HKL.out]; exact hlt)
        have hst := IL.drop_get kids j y hy
        by_cases hlf : lf < 0
        · have hf : Hid (bookIs lf0 kids = lf) := by
            show _ = _
            rw [← hr.out, hst]
            simp only [bookIs]
            rw [if_pos hlf]
          have g1 : decide (0 ≤ lf) = false := by simp; omega
          clear hst hy hr
          go_wp2_with fail
          go_ret
          exact ⟨by rw [HF.out, hf.out]; rfl, HBA.out.trans (HBL.out.mono HBA.out.size)⟩
        · have hwg := IL.wt_get kids j y hy
          have g1 : decide (0 ≤ lf) = true := by simp; omega
          obtain ⟨b, o, k', n', bs', text', kids', ab', nb', cb', ak', nk', ck', hab, hxe, hblt, hxr, z0, z1, z2, z3, z4⟩ := (HKS.out.at hy).cells
          subst hab
          have hbd := bookI_bd y lf (by omega)
          have C := Lib.hid (IH.out y (by have := HX.out; omega) lf wr _ (hxr.below HBL.out) (by omega) b1)
          have HN : Hid (bookIs (bookI lf y) (kids.drop (j + 1)) = bookIs lf0 kids) := by
            show _ = _
            rw [← hr.out, hst]
            simp only [bookIs]
            rw [if_neg hlf]
          generalize bookI lf y = lf2 at hbd C HN
          have y0 : wr.cell? ⟨b, o + j * 5, none⟩ = some (.int .i64 k') := cell_below HBL.out z0
          have y1 : wr.cell? ⟨b, o + j * 5 + 1, none⟩ = some (.int .u64 (n' : Nat)) := cell_below HBL.out z1
          have y2 : wr.cell? ⟨b, o + j * 5 + 2, none⟩ = some (.slice ab' nb' cb') := cell_below HBL.out z2
          have y3 : wr.cell? ⟨b, o + j * 5 + 3, none⟩ = some (.string text') := cell_below HBL.out z3
          have y4 : wr.cell? ⟨b, o + j * 5 + 4, none⟩ = some (.slice ak' nk' ck') := cell_below HBL.out z4
          have hj0 : (0 : Int) ≤ (j : Int) := by omega
          have hj1 : (j : Int) < (nk : Int) := by omega
          clear hst hy hr hwg hxe hxr z0 z1 z2 z3 z4 hblt hlf
          go_wp2_with fail
          refine C.out.mono ?_
          rintro e w6 ⟨rfl, hb6⟩
          have HB6 : Hid (Below wa.heap.size wa w6) := HBL.out.trans (hb6.mono HBL.out.size)
          clear hb6 C y0 y1 y2 y3 y4
          go_wp2_with fail
          go_roundw
          case rel => exact ⟨j + 1, lf2, by omega, by simp, rfl, hbd.1, by omega, HN, HB6.out⟩
          case measure => simp [intOf]; omega
      · have hf : Hid (bookIs lf0 kids = lf) := by
          show _ = _
          rw [← hr.out, IL.drop_len kids j (by rw [HKL.out]; omega)]
          rfl
        clear hr
        go_wp2_with fail
        go_ret
        exact ⟨by rw [HF.out, hf.out]; rfl, HBA.out.trans (HBL.out.mono HBA.out.size)⟩

/-- Is an item small? -/
def smallI (x : I) : Bool := decide (0 ≤ bookI 1500 x)
theorem smallI_wt {x : I} (h : smallI x = true) : x.wt ≤ 1500 := by
  have h0 : 0 ≤ bookI 1500 x := of_decide_eq_true h
  have := bookI_wt x 1500 h0
  omega

set_option maxRecDepth 100000 in
set_option maxHeartbeats 400000 in
theorem small28 (x : I) (w : World) (c : Array Value) (h : RdIt (fun _ => True) w x c) :
    Calls Try.prog 10 #[.agg c] w fun e w' => e = .returned (.bool (smallI x)) ∧ Below w.heap.size w w' := by
  have C := Lib.hid (item_calls x.wt x (Nat.le_refl _) 1500)
  have H := Lib.hid h
  obtain ⟨k, n, ab, nb, cb, text, ak, nk, ck, rfl⟩ := h.shape
  have HB : Hid (smallI x = decide (0 ≤ bookI 1500 x)) := rfl
  generalize hg : smallI x = sm at HB
  generalize bookI 1500 x = n at C HB
  clear hg h
  go_enter Try.func10, Try.ntmps10
  go_wp2_with fail
  refine (C.out _ _ (H.out.below ((Below.refl _ _).alloc (Nat.le_refl _) _)) (by omega) (by omega)).mono ?_
  rintro e w' ⟨rfl, hb⟩
  go_wp2_with fail
  go_ret
  exact ⟨by rw [HB.out]; rfl, ((Below.refl w.heap.size w).alloc (Nat.le_refl _) _).trans (hb.mono (by simp))⟩

end Go.Proofs.Ytambhapgjonmmaa
