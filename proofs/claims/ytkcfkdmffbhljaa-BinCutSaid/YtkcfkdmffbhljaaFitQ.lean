/- How deep a tree is, whether it is within limits: by the reference. -/
import Derived.Test.YtkcfkdmffbhljaaMT
import Derived.Test.YtkcfkdmffbhljaaMay2
import Derived.Test.YtkcfkdmffbhljaaMA
import Derived.Deep.RegionHeld3
namespace Go.Proofs.Ytkcfkdmffbhljaa
open Go.RowKit
set_option linter.unusedVariables false
set_option linter.unusedSimpArgs false

theorem hT_next {W w' : World} {t : T} {c : Array Value} (hb : Below W.heap.size W w') (h : Hid (RdT W t c)) : Hid (RdT w' t c) := h.out.keep hb
theorem hT_drew {W : World} {t : T} {c : Array Value} (h : Hid (RdT W t c)) : Hid (RdT W.drew t c) := h.out.keep (Below.refl _ _).drew
theorem hB_next {a W w' : World} (hb : Below W.heap.size W w') (h : Hid (Below a.heap.size a W)) : Hid (Below a.heap.size a w') := h.out.trans (hb.mono h.out.size)
theorem hB_drew {a W : World} (h : Hid (Below a.heap.size a W)) : Hid (Below a.heap.size a W.drew) := h.out.drew
def DepRel (B : Nat) (W : World) (kids : F) (nk : Nat) (q i : Value) (wr : World) : Prop :=
  ∃ (j s : Nat), j ≤ nk ∧ i = .int .i64 j ∧ q = .int .i64 s ∧ s ≤ 1000000000 ∧ max s (depF (kids.drop j)) = depF kids ∧ Below B W wr

/-- What Depth answers for trees of a weight. -/
def DepSaid (g : Nat) (d : Nat) : Prop := ∀ (t : T), t.wt ≤ d → ∀ (w : World) (c : Array Value), RdT w t c → Calls Try.prog g #[.agg c] w fun e w' => e = .returned (.int .i64 (depT t : Nat)) ∧ Below w.heap.size w w'

set_option maxRecDepth 100000 in
set_option maxHeartbeats 1000000 in
theorem kids_calls (k : Int) (w : World) : Calls Try.prog 37 #[.int .i64 k] w fun e w' => e = .returned (.bool (isK k)) ∧ w = w' := by
  by_cases h1 : k = 3
  · subst h1
    go_enter Try.func37, Try.ntmps37
    go_wp2_with fail
    go_ret
    exact ⟨rfl, rfl⟩
  by_cases h2 : k = 4
  · subst h2
    go_enter Try.func37, Try.ntmps37
    go_wp2_with fail
    go_ret
    exact ⟨rfl, rfl⟩
  by_cases h3 : k = 15
  · subst h3
    go_enter Try.func37, Try.ntmps37
    go_wp2_with fail
    go_ret
    exact ⟨rfl, rfl⟩
  have n1 : (k == 3) = false := by simp; omega
  have n2 : (k == 4) = false := by simp; omega
  have n3 : (k == 15) = false := by simp; omega
  have HI : Hid (isK k = false) := by show isK k = false; unfold isK; rw [n1, n2, n3]; rfl
  clear h1 h2 h3
  go_enter Try.func37, Try.ntmps37
  go_wp2_with fail
  go_ret
  exact ⟨by rw [HI.out]; rfl, rfl⟩


set_option maxRecDepth 100000 in
set_option maxHeartbeats 4000000 in
theorem rdep_step (d : Nat) (hd : d ≤ 1000000000) (hof : DepSaid 19 d) : DepSaid 19 (d + 1) := by
  intro t ht w c h
  obtain ⟨k, bits, hi, lo, text, more, sub, bs, kids⟩ := t
  obtain ⟨ab, nb, cb, ak, nk, ck, rfl, hok, hrb, hkl, hnk, hks⟩ := h
  have hkd : kids.wt ≤ d := by simp only [T.wt] at ht; omega
  have hkb := depF_wt kids
  have HO := Lib.hid hof
  have HKS := Lib.hid hks
  have HL := Lib.hid hkl
  have HF : Hid (depT (.mk k bits hi lo text more sub bs kids) = bif isK k then depF kids + 1 else 0) := by
    show depT _ = _
    simp only [depT]
  clear hof hok hrb hkl hks ht
  generalize depT (.mk k bits hi lo text more sub bs kids) = r at HF
  by_cases h3 : k = 3 ∨ k = 4 ∨ k = 15
  · have HT : Hid (r = depF kids + 1) := by
      show _ = _
      rw [HF.out]; rcases h3 with rfl | rfl | rfl <;> rfl
    clear HF
    rcases h3 with rfl | rfl | rfl
    all_goals
      go_enter Try.func19, Try.ntmps19
      go_wp2_with fail
      refine (kids_calls _ _).mono ?_
      rintro e w1 ⟨rfl, rfl⟩
      go_wp2_with fail
      go_loopw [3, 4] (fun q i wr => DepRel (w.heap.size + 1) (w.alloc (.cells (valCells _ bits hi lo text more sub ab nb cb ak nk ck) 26)) kids nk q i wr) (fun _ i _ => nk - (intOf i).toNat)
      case atStart => exact ⟨0, 0, by omega, rfl, rfl, by omega, by simp [F.drop], Below.refl _ _⟩
      case round =>
        obtain ⟨j, s, hj, rfl, rfl, b0, hr, hbl⟩ := hrel
        have f0 := below_cell2 (p := ⟨w.heap.size, 0, none⟩) hbl (by simp [go_sem, valCells]; rfl) (by simp)
        have f8 : wr.cell? ⟨w.heap.size, 8, none⟩ = some (.slice ak nk ck) := below_cell2 hbl (by simp [go_sem, valCells]) (by simp)
        have hsz : w.heap.size + 1 ≤ wr.heap.size := by have := hbl.size; simp at this; omega
        have HKW := Lib.hid (HKS.out.keep (((Below.refl w.heap.size w).alloc (Nat.le_refl _) _).trans (hbl.mono (by omega))))
        have HBW := Lib.hid hbl
        clear hbl
        by_cases hlt : j < nk
        · obtain ⟨⟨nm, t⟩, hx⟩ := F.get_some kids j (by rw [HL.out]; exact hlt)
          have hw := F.wt_get kids j nm t hx
          have hg := depF_get kids j nm t hx
          have hb1 := depT_wt t
          obtain ⟨b, o, k', bits', hi', lo', text', more', sub', bs', kids', ab', nb', cb', ak', nk', ck', rfl, rfl, e1, e2, e3, g0, g1, g2, g3, g4, g5, g6, g7, g8, g9⟩ := (HKW.out.at hx).cells
          have HC := Lib.hid (HO.out _ (show T.wt (.mk k' bits' hi' lo' text' more' sub' bs' kids') ≤ d by omega))
          have E3 := Lib.hid e3
          rw [hg] at hr
          have hz : depT (.mk k' bits' hi' lo' text' more' sub' bs' kids') ≤ 1000000000 := by omega
          have HR := Lib.hid hr
          clear hx hg hr e3 hw hb1
          generalize depT (.mk k' bits' hi' lo' text' more' sub' bs' kids') = z at HC HR hz
          have hj0 : (0 : Int) ≤ (j : Int) := by omega
          have hj1 : (j : Int) < (nk : Int) := by omega
          go_wp2_with (go_at_call 19; refine (HC.out _ _ ?_).mono ?_; (exact E3.out.keep (Below.refl _ _)); rintro e w' ⟨rfl, hb⟩)
          all_goals
            go_wp2_with fail
            go_roundw
            case rel => exact ⟨j + 1, max s z, by omega, by simp, by first | rfl | (congr 1; omega) | (simp; omega), by omega, by have := HR.out; omega, HBW.out.trans (hb.mono hsz)⟩
            case measure => simp [intOf]; omega
        · have hf : Hid (depF kids = s) := by
            show depF kids = s
            rw [← hr, F.drop_len kids j (by rw [HL.out]; omega)]
            simp [depF]
          clear hr
          go_wp2_with fail
          go_ret
          exact ⟨by rw [HT.out, hf.out]; rfl, ((Below.refl w.heap.size w).alloc (Nat.le_refl _) _).trans (HBW.out.mono (by omega))⟩
  · have n1 : (k == 3) = false := by simp; omega
    have n2 : (k == 4) = false := by simp; omega
    have n3 : (k == 15) = false := by simp; omega
    have m1 : (k != 3) = true := by simp; omega
    have m2 : (k != 4) = true := by simp; omega
    have m3 : (k != 15) = true := by simp; omega
    have HT : Hid (r = 0) := by
      show _ = _
      rw [HF.out]; unfold isK; rw [n1, n2, n3]; rfl
    have i0 : isK k = false := by unfold isK; rw [n1, n2, n3]; rfl
    clear h3 HF
    go_enter Try.func19, Try.ntmps19
    go_wp2_with fail
    refine (kids_calls _ _).mono ?_
    rintro e w1 ⟨rfl, rfl⟩
    go_wp2_with fail
    all_goals
      go_ret
      exact ⟨by rw [HT.out]; rfl, (Below.refl _ _).alloc (Nat.le_refl _) _⟩
theorem rdep_all : ∀ d, d ≤ 1000000001 → DepSaid 19 d
  | 0, _ => fun t ht => by cases t; simp only [T.wt] at ht; omega
  | d + 1, h => rdep_step d (by omega) (rdep_all d (by omega))

def fitsN (m : Bool) (k : Int) (dp : Nat) (sz d s : Int) : Int := if m = false then 1 else if k ≠ 3 then 5 else if d < dp then 8 else if s < sz then 9 else 0
def fitsS (t : T) (d s o : Int) : Int := fitsN (mayS d s o) t.kind (depT t) (sizeT t) d s


set_option maxRecDepth 100000 in
set_option maxHeartbeats 2000000 in
theorem rfits_calls (t : T) (ht : t.wt ≤ 90000) (w : World) (c : Array Value) (h : RdT w t c) (d s o : Int) :
    Calls Try.prog 17 #[.agg c, .agg (limCells d s o)] w fun e w' => e = .returned (.int .i64 (fitsS t d s o)) ∧ Below w.heap.size w w' := by
  have H := Lib.hid h
  have C1 := Lib.hid (rdep_all 90000 (by omega) t ht)
  have C2 := Lib.hid (rsize_all 90000 (by omega) t ht)
  obtain ⟨k, bits, hi, lo, text, more, sub, bs, kids⟩ := t
  obtain ⟨ab, nb, cb, ak, nk, ck, rfl, _⟩ := h
  have HE := Lib.hid (show fitsS (.mk k bits hi lo text more sub bs kids) d s o = fitsN (mayS d s o) k (depT (.mk k bits hi lo text more sub bs kids)) (sizeT (.mk k bits hi lo text more sub bs kids)) d s from rfl)
  generalize fitsS (.mk k bits hi lo text more sub bs kids) d s o = r at HE
  generalize depT (.mk k bits hi lo text more sub bs kids) = dp at C1 HE
  generalize sizeT (.mk k bits hi lo text more sub bs kids) = sz at C2 HE
  cases hm : mayS d s o with
  | false =>
    rw [hm] at HE
    go_enter Try.func17, Try.ntmps17
    go_wp2_with fail
    refine (rmay_calls d s o _).mono ?_
    rintro e w1 ⟨rfl, hb1⟩
    have h1 := (((Below.refl w.heap.size w).alloc (Nat.le_refl _) (.cells (valCells _ bits hi lo text more sub ab nb cb ak nk ck) 26)).alloc (by simp) (.cells (limCells d s o) 28)).trans (hb1.mono (by simp; omega))
    have H1 := Lib.hid h1
    clear hb1 h1
    go_wp2_with fail
    go_ret
    exact ⟨by rw [HE.out]; rfl, H1.out⟩
  | true =>
    rw [hm] at HE
    have HM := Lib.hid hm
    clear hm
    by_cases hk : k = 3
    · subst hk
      by_cases hd : d < dp
      · have e1 : decide (d < (dp : Int)) = true := by simpa using hd
        have HE2 := Lib.hid (HE.out.trans (show fitsN true 3 dp sz d s = 8 by unfold fitsN; simp [hd]))
        clear HE hd
        go_enter Try.func17, Try.ntmps17
        go_wp2_with fail
        refine (rmay_calls d s o _).mono ?_
        rintro e w1 ⟨rfl, hb1⟩
        have h1 := (((Below.refl w.heap.size w).alloc (Nat.le_refl _) (.cells (valCells _ bits hi lo text more sub ab nb cb ak nk ck) 26)).alloc (by simp) (.cells (limCells d s o) 28)).trans (hb1.mono (by simp; omega))
        have H1 := Lib.hid h1
        rw [HM.out]
        have c0 := fun (j : Nat) => hb1.cell (p := ⟨w.heap.size, j, none⟩) (by simp; omega)
        have c1 := fun (j : Nat) => hb1.cell (p := ⟨w.heap.size + 1, j, none⟩) (by simp)
        simp [go_sem, valCells] at c0 c1
        have d0 := c0 0
        have d1 := c0 1
        have d2 := c0 2
        have d3 := c0 3
        have d4 := c0 4
        have d5 := c0 5
        have d6 := c0 6
        have d7 := c0 7
        have d8 := c0 8
        have x0 := c1 0
        have x1 := c1 1
        have x2 := c1 2
        simp at d0 d1 d2 d3 d4 d5 d6 d7 d8 x0 x1 x2
        clear c0 c1
        clear hb1 h1
        have hT : Hid (RdT w1 (.mk 3 bits hi lo text more sub bs kids) (valCells 3 bits hi lo text more sub ab nb cb ak nk ck)) := H.out.keep H1.out
        go_wp2_with fail
        go_region_held3 (fun w' => Hid (RdT w' (.mk 3 bits hi lo text more sub bs kids) (valCells 3 bits hi lo text more sub ab nb cb ak nk ck)) ∧ Hid (Below w.heap.size w w') ∧ w'.cell? ⟨w.heap.size, 0, none⟩ = some (.int .i64 3) ∧ w'.cell? ⟨w.heap.size, 1, none⟩ = some (.int .u64 (bits : Nat)) ∧ w'.cell? ⟨w.heap.size, 2, none⟩ = some (.int .u64 (hi : Nat)) ∧ w'.cell? ⟨w.heap.size, 3, none⟩ = some (.int .u64 (lo : Nat)) ∧ w'.cell? ⟨w.heap.size, 4, none⟩ = some (.string text) ∧ w'.cell? ⟨w.heap.size, 5, none⟩ = some (.string more) ∧ w'.cell? ⟨w.heap.size, 6, none⟩ = some (.int .i64 sub) ∧ w'.cell? ⟨w.heap.size, 7, none⟩ = some (.slice ab nb cb) ∧ w'.cell? ⟨w.heap.size, 8, none⟩ = some (.slice ak nk ck) ∧ w'.cell? ⟨w.heap.size + 1, 0, none⟩ = some (.int .i64 d) ∧ w'.cell? ⟨w.heap.size + 1, 1, none⟩ = some (.int .i64 s) ∧ w'.cell? ⟨w.heap.size + 1, 2, none⟩ = some (.int .i64 o)) ((repeat' apply And.intro) <;> first | (simp [*]; done) | (refine below_cell ‹Below _ _ _› ?_; simp [*]; done) | exact hT_next ‹Below _ _ _› (‹Hid (RdT _ _ _) ∧ Hid (Below _ _ _) ∧ _›).1 | exact hB_next ‹Below _ _ _› (‹Hid (RdT _ _ _) ∧ Hid (Below _ _ _) ∧ _›).2.1 | exact hT_drew ‹Hid (RdT _ _ _)› | exact hB_drew ‹Hid (Below _ _ _)›) ((go_at_call 19; refine (C1.out _ _ (‹Hid (RdT _ _ _) ∧ Hid (Below _ _ _) ∧ _›).1.out).mono ?_; rintro e w' ⟨rfl, hb⟩))
        all_goals
          go_wp2_with fail
          go_ret
          exact ⟨by rw [HE2.out]; rfl, (‹Hid (RdT _ _ _) ∧ Hid (Below _ _ _) ∧ _›).2.1.out⟩
      · have e1 : decide (d < (dp : Int)) = false := by simpa using hd
        by_cases hs : s < sz
        · have e2 : decide (s < sz) = true := by simpa using hs
          have HE2 := Lib.hid (HE.out.trans (show fitsN true 3 dp sz d s = 9 by unfold fitsN; simp [hd, hs]))
          clear HE hd hs
          go_enter Try.func17, Try.ntmps17
          go_wp2_with fail
          refine (rmay_calls d s o _).mono ?_
          rintro e w1 ⟨rfl, hb1⟩
          have h1 := (((Below.refl w.heap.size w).alloc (Nat.le_refl _) (.cells (valCells _ bits hi lo text more sub ab nb cb ak nk ck) 26)).alloc (by simp) (.cells (limCells d s o) 28)).trans (hb1.mono (by simp; omega))
          have H1 := Lib.hid h1
          rw [HM.out]
          have c0 := fun (j : Nat) => hb1.cell (p := ⟨w.heap.size, j, none⟩) (by simp; omega)
          have c1 := fun (j : Nat) => hb1.cell (p := ⟨w.heap.size + 1, j, none⟩) (by simp)
          simp [go_sem, valCells] at c0 c1
          have d0 := c0 0
          have d1 := c0 1
          have d2 := c0 2
          have d3 := c0 3
          have d4 := c0 4
          have d5 := c0 5
          have d6 := c0 6
          have d7 := c0 7
          have d8 := c0 8
          have x0 := c1 0
          have x1 := c1 1
          have x2 := c1 2
          simp at d0 d1 d2 d3 d4 d5 d6 d7 d8 x0 x1 x2
          clear c0 c1
          clear hb1 h1
          have hT : Hid (RdT w1 (.mk 3 bits hi lo text more sub bs kids) (valCells 3 bits hi lo text more sub ab nb cb ak nk ck)) := H.out.keep H1.out
          go_wp2_with fail
          go_region_held3 (fun w' => Hid (RdT w' (.mk 3 bits hi lo text more sub bs kids) (valCells 3 bits hi lo text more sub ab nb cb ak nk ck)) ∧ Hid (Below w.heap.size w w') ∧ w'.cell? ⟨w.heap.size, 0, none⟩ = some (.int .i64 3) ∧ w'.cell? ⟨w.heap.size, 1, none⟩ = some (.int .u64 (bits : Nat)) ∧ w'.cell? ⟨w.heap.size, 2, none⟩ = some (.int .u64 (hi : Nat)) ∧ w'.cell? ⟨w.heap.size, 3, none⟩ = some (.int .u64 (lo : Nat)) ∧ w'.cell? ⟨w.heap.size, 4, none⟩ = some (.string text) ∧ w'.cell? ⟨w.heap.size, 5, none⟩ = some (.string more) ∧ w'.cell? ⟨w.heap.size, 6, none⟩ = some (.int .i64 sub) ∧ w'.cell? ⟨w.heap.size, 7, none⟩ = some (.slice ab nb cb) ∧ w'.cell? ⟨w.heap.size, 8, none⟩ = some (.slice ak nk ck) ∧ w'.cell? ⟨w.heap.size + 1, 0, none⟩ = some (.int .i64 d) ∧ w'.cell? ⟨w.heap.size + 1, 1, none⟩ = some (.int .i64 s) ∧ w'.cell? ⟨w.heap.size + 1, 2, none⟩ = some (.int .i64 o)) ((repeat' apply And.intro) <;> first | (simp [*]; done) | (refine below_cell ‹Below _ _ _› ?_; simp [*]; done) | exact hT_next ‹Below _ _ _› (‹Hid (RdT _ _ _) ∧ Hid (Below _ _ _) ∧ _›).1 | exact hB_next ‹Below _ _ _› (‹Hid (RdT _ _ _) ∧ Hid (Below _ _ _) ∧ _›).2.1 | exact hT_drew ‹Hid (RdT _ _ _)› | exact hB_drew ‹Hid (Below _ _ _)›) ((go_at_call 19; refine (C1.out _ _ (‹Hid (RdT _ _ _) ∧ Hid (Below _ _ _) ∧ _›).1.out).mono ?_; rintro e w' ⟨rfl, hb⟩))
          all_goals
            clear d0 d1 d2 d3 d4 d5 d6 d7 d8 x0 x1 x2 hT H1
            obtain ⟨hT2, hB2, d0, d1, d2, d3, d4, d5, d6, d7, d8, x0, x1, x2⟩ := ‹Hid (RdT _ _ _) ∧ Hid (Below _ _ _) ∧ _›
            go_wp2_with fail
            go_region_held3 (fun w' => Hid (RdT w' (.mk 3 bits hi lo text more sub bs kids) (valCells 3 bits hi lo text more sub ab nb cb ak nk ck)) ∧ Hid (Below w.heap.size w w') ∧ w'.cell? ⟨w.heap.size, 0, none⟩ = some (.int .i64 3) ∧ w'.cell? ⟨w.heap.size, 1, none⟩ = some (.int .u64 (bits : Nat)) ∧ w'.cell? ⟨w.heap.size, 2, none⟩ = some (.int .u64 (hi : Nat)) ∧ w'.cell? ⟨w.heap.size, 3, none⟩ = some (.int .u64 (lo : Nat)) ∧ w'.cell? ⟨w.heap.size, 4, none⟩ = some (.string text) ∧ w'.cell? ⟨w.heap.size, 5, none⟩ = some (.string more) ∧ w'.cell? ⟨w.heap.size, 6, none⟩ = some (.int .i64 sub) ∧ w'.cell? ⟨w.heap.size, 7, none⟩ = some (.slice ab nb cb) ∧ w'.cell? ⟨w.heap.size, 8, none⟩ = some (.slice ak nk ck) ∧ w'.cell? ⟨w.heap.size + 1, 0, none⟩ = some (.int .i64 d) ∧ w'.cell? ⟨w.heap.size + 1, 1, none⟩ = some (.int .i64 s) ∧ w'.cell? ⟨w.heap.size + 1, 2, none⟩ = some (.int .i64 o)) ((repeat' apply And.intro) <;> first | (simp [*]; done) | (refine below_cell ‹Below _ _ _› ?_; simp [*]; done) | exact hT_next ‹Below _ _ _› (‹Hid (RdT _ _ _) ∧ Hid (Below _ _ _) ∧ _›).1 | exact hB_next ‹Below _ _ _› (‹Hid (RdT _ _ _) ∧ Hid (Below _ _ _) ∧ _›).2.1 | exact hT_drew ‹Hid (RdT _ _ _)› | exact hB_drew ‹Hid (Below _ _ _)›) ((go_at_call 31; refine (C2.out _ _ (‹Hid (RdT _ _ _) ∧ Hid (Below _ _ _) ∧ _›).1.out).mono ?_; rintro e w' ⟨rfl, hb⟩))
            all_goals
              go_wp2_with fail
              go_ret
              exact ⟨by rw [HE2.out]; rfl, (‹Hid (RdT _ _ _) ∧ Hid (Below _ _ _) ∧ _›).2.1.out⟩
        · have e2 : decide (s < sz) = false := by simpa using hs
          have HE2 := Lib.hid (HE.out.trans (show fitsN true 3 dp sz d s = 0 by unfold fitsN; simp [hd, hs]))
          clear HE hd hs
          go_enter Try.func17, Try.ntmps17
          go_wp2_with fail
          refine (rmay_calls d s o _).mono ?_
          rintro e w1 ⟨rfl, hb1⟩
          have h1 := (((Below.refl w.heap.size w).alloc (Nat.le_refl _) (.cells (valCells _ bits hi lo text more sub ab nb cb ak nk ck) 26)).alloc (by simp) (.cells (limCells d s o) 28)).trans (hb1.mono (by simp; omega))
          have H1 := Lib.hid h1
          rw [HM.out]
          have c0 := fun (j : Nat) => hb1.cell (p := ⟨w.heap.size, j, none⟩) (by simp; omega)
          have c1 := fun (j : Nat) => hb1.cell (p := ⟨w.heap.size + 1, j, none⟩) (by simp)
          simp [go_sem, valCells] at c0 c1
          have d0 := c0 0
          have d1 := c0 1
          have d2 := c0 2
          have d3 := c0 3
          have d4 := c0 4
          have d5 := c0 5
          have d6 := c0 6
          have d7 := c0 7
          have d8 := c0 8
          have x0 := c1 0
          have x1 := c1 1
          have x2 := c1 2
          simp at d0 d1 d2 d3 d4 d5 d6 d7 d8 x0 x1 x2
          clear c0 c1
          clear hb1 h1
          have hT : Hid (RdT w1 (.mk 3 bits hi lo text more sub bs kids) (valCells 3 bits hi lo text more sub ab nb cb ak nk ck)) := H.out.keep H1.out
          go_wp2_with fail
          go_region_held3 (fun w' => Hid (RdT w' (.mk 3 bits hi lo text more sub bs kids) (valCells 3 bits hi lo text more sub ab nb cb ak nk ck)) ∧ Hid (Below w.heap.size w w') ∧ w'.cell? ⟨w.heap.size, 0, none⟩ = some (.int .i64 3) ∧ w'.cell? ⟨w.heap.size, 1, none⟩ = some (.int .u64 (bits : Nat)) ∧ w'.cell? ⟨w.heap.size, 2, none⟩ = some (.int .u64 (hi : Nat)) ∧ w'.cell? ⟨w.heap.size, 3, none⟩ = some (.int .u64 (lo : Nat)) ∧ w'.cell? ⟨w.heap.size, 4, none⟩ = some (.string text) ∧ w'.cell? ⟨w.heap.size, 5, none⟩ = some (.string more) ∧ w'.cell? ⟨w.heap.size, 6, none⟩ = some (.int .i64 sub) ∧ w'.cell? ⟨w.heap.size, 7, none⟩ = some (.slice ab nb cb) ∧ w'.cell? ⟨w.heap.size, 8, none⟩ = some (.slice ak nk ck) ∧ w'.cell? ⟨w.heap.size + 1, 0, none⟩ = some (.int .i64 d) ∧ w'.cell? ⟨w.heap.size + 1, 1, none⟩ = some (.int .i64 s) ∧ w'.cell? ⟨w.heap.size + 1, 2, none⟩ = some (.int .i64 o)) ((repeat' apply And.intro) <;> first | (simp [*]; done) | (refine below_cell ‹Below _ _ _› ?_; simp [*]; done) | exact hT_next ‹Below _ _ _› (‹Hid (RdT _ _ _) ∧ Hid (Below _ _ _) ∧ _›).1 | exact hB_next ‹Below _ _ _› (‹Hid (RdT _ _ _) ∧ Hid (Below _ _ _) ∧ _›).2.1 | exact hT_drew ‹Hid (RdT _ _ _)› | exact hB_drew ‹Hid (Below _ _ _)›) ((go_at_call 19; refine (C1.out _ _ (‹Hid (RdT _ _ _) ∧ Hid (Below _ _ _) ∧ _›).1.out).mono ?_; rintro e w' ⟨rfl, hb⟩))
          all_goals
            clear d0 d1 d2 d3 d4 d5 d6 d7 d8 x0 x1 x2 hT H1
            obtain ⟨hT2, hB2, d0, d1, d2, d3, d4, d5, d6, d7, d8, x0, x1, x2⟩ := ‹Hid (RdT _ _ _) ∧ Hid (Below _ _ _) ∧ _›
            go_wp2_with fail
            go_region_held3 (fun w' => Hid (RdT w' (.mk 3 bits hi lo text more sub bs kids) (valCells 3 bits hi lo text more sub ab nb cb ak nk ck)) ∧ Hid (Below w.heap.size w w') ∧ w'.cell? ⟨w.heap.size, 0, none⟩ = some (.int .i64 3) ∧ w'.cell? ⟨w.heap.size, 1, none⟩ = some (.int .u64 (bits : Nat)) ∧ w'.cell? ⟨w.heap.size, 2, none⟩ = some (.int .u64 (hi : Nat)) ∧ w'.cell? ⟨w.heap.size, 3, none⟩ = some (.int .u64 (lo : Nat)) ∧ w'.cell? ⟨w.heap.size, 4, none⟩ = some (.string text) ∧ w'.cell? ⟨w.heap.size, 5, none⟩ = some (.string more) ∧ w'.cell? ⟨w.heap.size, 6, none⟩ = some (.int .i64 sub) ∧ w'.cell? ⟨w.heap.size, 7, none⟩ = some (.slice ab nb cb) ∧ w'.cell? ⟨w.heap.size, 8, none⟩ = some (.slice ak nk ck) ∧ w'.cell? ⟨w.heap.size + 1, 0, none⟩ = some (.int .i64 d) ∧ w'.cell? ⟨w.heap.size + 1, 1, none⟩ = some (.int .i64 s) ∧ w'.cell? ⟨w.heap.size + 1, 2, none⟩ = some (.int .i64 o)) ((repeat' apply And.intro) <;> first | (simp [*]; done) | (refine below_cell ‹Below _ _ _› ?_; simp [*]; done) | exact hT_next ‹Below _ _ _› (‹Hid (RdT _ _ _) ∧ Hid (Below _ _ _) ∧ _›).1 | exact hB_next ‹Below _ _ _› (‹Hid (RdT _ _ _) ∧ Hid (Below _ _ _) ∧ _›).2.1 | exact hT_drew ‹Hid (RdT _ _ _)› | exact hB_drew ‹Hid (Below _ _ _)›) ((go_at_call 31; refine (C2.out _ _ (‹Hid (RdT _ _ _) ∧ Hid (Below _ _ _) ∧ _›).1.out).mono ?_; rintro e w' ⟨rfl, hb⟩))
            all_goals
              go_wp2_with fail
              go_ret
              exact ⟨by rw [HE2.out]; rfl, (‹Hid (RdT _ _ _) ∧ Hid (Below _ _ _) ∧ _›).2.1.out⟩
    · have n3 : (k != 3) = true := by simpa using hk
      have HE2 := Lib.hid (HE.out.trans (show fitsN true k dp sz d s = 5 by unfold fitsN; simp [hk]))
      clear HE hk
      go_enter Try.func17, Try.ntmps17
      go_wp2_with fail
      refine (rmay_calls d s o _).mono ?_
      rintro e w1 ⟨rfl, hb1⟩
      have h1 := (((Below.refl w.heap.size w).alloc (Nat.le_refl _) (.cells (valCells _ bits hi lo text more sub ab nb cb ak nk ck) 26)).alloc (by simp) (.cells (limCells d s o) 28)).trans (hb1.mono (by simp; omega))
      have H1 := Lib.hid h1
      rw [HM.out]
      have c0 := fun (j : Nat) => hb1.cell (p := ⟨w.heap.size, j, none⟩) (by simp; omega)
      have c1 := fun (j : Nat) => hb1.cell (p := ⟨w.heap.size + 1, j, none⟩) (by simp)
      simp [go_sem, valCells] at c0 c1
      have d0 := c0 0
      have d1 := c0 1
      have d2 := c0 2
      have d3 := c0 3
      have d4 := c0 4
      have d5 := c0 5
      have d6 := c0 6
      have d7 := c0 7
      have d8 := c0 8
      have x0 := c1 0
      have x1 := c1 1
      have x2 := c1 2
      simp at d0 d1 d2 d3 d4 d5 d6 d7 d8 x0 x1 x2
      clear c0 c1
      clear hb1 h1
      go_wp2_with fail
      go_ret
      exact ⟨by rw [HE2.out]; rfl, H1.out⟩


end Go.Proofs.Ytkcfkdmffbhljaa
