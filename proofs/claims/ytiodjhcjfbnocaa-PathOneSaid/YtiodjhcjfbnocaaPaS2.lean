/- The reference's Same of trees. -/
import Derived.Test.YtiodjhcjfbnocaaPaS
namespace Go.Proofs.Ytiodjhcjfbnocaa
open Go.RowKit
set_option linter.unusedVariables false
set_option linter.unusedSimpArgs false

set_option maxRecDepth 100000 in
set_option maxHeartbeats 16000000 in
theorem tsame_step (d : Nat) (hof : TSame d) : TSame (d + 1) := by
  intro t u hd w c c2 h1 h2
  have hown := own_calls t u
  obtain ⟨k, bits, hi, lo, text, more, sub, bs, kids⟩ := t
  obtain ⟨k2, bits2, hi2, lo2, text2, more2, sub2, bs2, kids2⟩ := u
  have H1 := Lib.hid h1
  have H2 := Lib.hid h2
  obtain ⟨ab, nb, cb, ak, nk, ck, rfl, -, -, hkl, hnk, hks⟩ := h1
  obtain ⟨ab2, nb2, cb2, ak2, nk2, ck2, rfl, -, -, hkl2, hnk2, hks2⟩ := h2
  have hwt : T.wt (.mk k bits hi lo text more sub bs kids) = 2 + text.size + more.size + bs.length + kids.wt := by simp only [T.wt]
  rw [hwt] at hd
  have hr : sameT (.mk k bits hi lo text more sub bs kids) (.mk k2 bits2 hi2 lo2 text2 more2 sub2 bs2 kids2) = (ownEq (.mk k bits hi lo text more sub bs kids) (.mk k2 bits2 hi2 lo2 text2 more2 sub2 bs2 kids2) && (nk == nk2) && sameF kids kids2) := by
    rw [← hkl, ← hkl2]; rfl
  have HR := Lib.hid hr
  generalize sameT (.mk k bits hi lo text more sub bs kids) (.mk k2 bits2 hi2 lo2 text2 more2 sub2 bs2 kids2) = r at HR
  obtain ⟨q, hq⟩ : ∃ q, q = ownEq (.mk k bits hi lo text more sub bs kids) (.mk k2 bits2 hi2 lo2 text2 more2 sub2 bs2 kids2) := ⟨_, rfl⟩
  rw [← hq] at HR hown
  have CO := fun W (a : RdT W (.mk k bits hi lo text more sub bs kids) (valCells k bits hi lo text more sub ab nb cb ak nk ck)) (b : RdT W (.mk k2 bits2 hi2 lo2 text2 more2 sub2 bs2 kids2) (valCells k2 bits2 hi2 lo2 text2 more2 sub2 ab2 nb2 cb2 ak2 nk2 ck2)) => Lib.hid (hown W _ _ a b)
  have HOF := Lib.hid hof
  have HKA := Lib.hid hks
  have HKB := Lib.hid hks2
  have HML := Lib.hid hkl
  have HML2 := Lib.hid hkl2
  have hnk9 := hnk.1
  have hnk29 := hnk2.1
  have hbox : Below w.heap.size w ((w.alloc (.cells (valCells k bits hi lo text more sub ab nb cb ak nk ck) 26)).alloc (.cells (valCells k2 bits2 hi2 lo2 text2 more2 sub2 ab2 nb2 cb2 ak2 nk2 ck2) 26)) := ((Below.refl _ _).alloc (Nat.le_refl _) _).alloc (by simp) _
  have HBX := Lib.hid hbox
  clear hof hks hks2 hkl hkl2 hwt hnk hnk2 hr hq hown hbox
  cases q with
  | false =>
    have HF : Hid (r = false) := by show _ = _; rw [HR.out]; rfl
    clear HR
    go_enter Try.func22, Try.ntmps22
    go_wp2_with fail
    refine (CO _ (H1.out.keep HBX.out) (H2.out.keep HBX.out)).out.mono ?_
    rintro e w1 ⟨rfl, hb1⟩
    go_wp2_with fail
    go_ret
    exact ⟨by rw [HF.out]; rfl, HBX.out.trans (hb1.mono HBX.out.size)⟩
  | true =>
  by_cases q3 : nk = nk2
  case neg =>
    have e1 : (nk == nk2) = false := by simpa using q3
    have e1' : ((nk : Int) != nk2) = true := by simp; omega
    have HF : Hid (r = false) := by show _ = _; rw [HR.out, e1]; rfl
    clear HR
    go_enter Try.func22, Try.ntmps22
    go_wp2_with fail
    refine (CO _ (H1.out.keep HBX.out) (H2.out.keep HBX.out)).out.mono ?_
    rintro e w1 ⟨rfl, hb1⟩
    have fa : w1.cell? ⟨w.heap.size, 8, none⟩ = some (.slice ak nk ck) := cell_below hb1 (by simp [go_sem])
    have fb : w1.cell? ⟨w.heap.size + 1, 8, none⟩ = some (.slice ak2 nk2 ck2) := cell_below hb1 (by simp [go_sem])
    have HB1 := Lib.hid (HBX.out.trans (hb1.mono HBX.out.size))
    clear hb1
    go_wp2_with fail
    go_ret
    exact ⟨by rw [HF.out]; rfl, HB1.out⟩
  subst q3
  rw [show (nk == nk) = true by simp, Bool.true_and, Bool.true_and] at HR
  go_enter Try.func22, Try.ntmps22
  go_wp2_with fail
  refine (CO _ (H1.out.keep HBX.out) (H2.out.keep HBX.out)).out.mono ?_
  rintro e w1 ⟨rfl, hb1⟩
  have fa0 : w1.cell? ⟨w.heap.size, 8, none⟩ = some (.slice ak nk ck) := cell_below hb1 (by simp [go_sem])
  have fb0 : w1.cell? ⟨w.heap.size + 1, 8, none⟩ = some (.slice ak2 nk ck2) := cell_below hb1 (by simp [go_sem])
  have hz1 : w.heap.size + 2 ≤ w1.heap.size := by have := hb1.size; simpa using this
  have HB1 := Lib.hid (HBX.out.trans (hb1.mono HBX.out.size))
  clear hb1 CO
  go_wp2_with fail
  go_loopw [5] (fun i wr => TsRel w1 w1.heap.size kids kids2 i wr) (fun i _ => nk - (intOf i).toNat)
  case atStart => exact ⟨0, rfl, Nat.zero_le _, Lib.hid (by simp [F.drop]), Below.refl _ _⟩
  case round =>
    obtain ⟨j, rfl, hjm, heq, hbl⟩ := hrel
    have fa : wr.cell? ⟨w.heap.size, 8, none⟩ = some (.slice ak nk ck) := cell_below hbl fa0
    have fb : wr.cell? ⟨w.heap.size + 1, 8, none⟩ = some (.slice ak2 nk ck2) := cell_below hbl fb0
    have hsz : w1.heap.size ≤ wr.heap.size := hbl.size
    have hBW := HB1.out.trans (hbl.mono HB1.out.size)
    have HKW := Lib.hid (HKA.out.keep hBW)
    have HKW2 := Lib.hid (HKB.out.keep hBW)
    have HBW := Lib.hid hBW
    have HBL := Lib.hid hbl
    rw [HML.out] at hjm
    clear hbl hBW
    by_cases hlt : j < nk
    · obtain ⟨⟨n, vv⟩, hx⟩ := F.get_some kids j (by rw [HML.out]; exact hlt)
      obtain ⟨⟨n2, vv2⟩, hx2⟩ := F.get_some kids2 j (by rw [HML2.out]; exact hlt)
      have hwg := F.wt_get kids j n vv hx
      have hed := sameF_get kids kids2 j n n2 vv vv2 hx hx2
      obtain ⟨b0, o0, k', bits', hi', lo', text', more', sub', bs', kids', ab', nb', cb', ak', nk', ck', rfl, rfl, e1, e2, e3, g0, g1, g2, g3, g4, g5, g6, g7, g8, g9⟩ := (HKW.out.at hx).cells
      obtain ⟨b1, o1, k3, bits3, hi3, lo3, text3, more3, sub3, bs3, kids3, ab3, nb3, cb3, ak3, nk3, ck3, rfl, rfl, d1, d2, d3, z0, z1, z2, z3, z4, z5, z6, z7, z8, z9⟩ := (HKW2.out.at hx2).cells
      have hj0 : (0 : Int) ≤ (j : Int) := by omega
      have hj1 : (j : Int) < (nk : Int) := by omega
      have HC := Lib.hid (fun W ca cb => HOF.out (.mk k' bits' hi' lo' text' more' sub' bs' kids') (.mk k3 bits3 hi3 lo3 text3 more3 sub3 bs3 kids3) (show T.wt (.mk k' bits' hi' lo' text' more' sub' bs' kids') ≤ d by omega) W ca cb)
      have E7 := Lib.hid e3
      have D7 := Lib.hid d3
      obtain ⟨q, hq⟩ : ∃ q, q = sameT (.mk k' bits' hi' lo' text' more' sub' bs' kids') (.mk k3 bits3 hi3 lo3 text3 more3 sub3 bs3 kids3) := ⟨_, rfl⟩
      rw [← hq] at HC hed
      cases hn : (n.toList == n2.toList) with
      | false =>
        have hn' : (n.toList != n2.toList) = true := by unfold bne; rw [hn]; rfl
        have HF : Hid (r = false) := by show _ = _; rw [HR.out, heq.out, hed, hn]; rfl
        clear hx hx2 hwg hed e1 d1 e3 d3 hq fa0 fb0
        go_wp2_with fail
        go_quiet (fail)
        go_wp2_with fail
        go_ret
        exact ⟨by rw [HF.out]; rfl, HBW.out.trans (below_drewN _ _ _)⟩
      | true =>
        have hn' : (n.toList != n2.toList) = false := by unfold bne; rw [hn]; rfl
        rw [hn, Bool.true_and] at hed
        cases q with
        | false =>
          have HF : Hid (r = false) := by show _ = _; rw [HR.out, heq.out, hed]; rfl
          clear hx hx2 hwg hed e1 d1 e3 d3 hq fa0 fb0
          go_wp2_with fail
          go_region_held3 (fun w' => w'.cell? ⟨w.heap.size, 8, none⟩ = some (.slice (some ⟨b0, o0, none⟩) nk ck) ∧ w'.cell? ⟨w.heap.size + 1, 8, none⟩ = some (.slice (some ⟨b1, o1, none⟩) nk ck2) ∧ w'.cell? ⟨b0, o0 + j * 10, none⟩ = some (.string n) ∧ w'.cell? ⟨b0, o0 + j * 10 + 1, none⟩ = some (.int .i64 k') ∧ w'.cell? ⟨b0, o0 + j * 10 + 2, none⟩ = some (.int .u64 (bits' : Nat)) ∧ w'.cell? ⟨b0, o0 + j * 10 + 3, none⟩ = some (.int .u64 (hi' : Nat)) ∧ w'.cell? ⟨b0, o0 + j * 10 + 4, none⟩ = some (.int .u64 (lo' : Nat)) ∧ w'.cell? ⟨b0, o0 + j * 10 + 5, none⟩ = some (.string text') ∧ w'.cell? ⟨b0, o0 + j * 10 + 6, none⟩ = some (.string more') ∧ w'.cell? ⟨b0, o0 + j * 10 + 7, none⟩ = some (.int .i64 sub') ∧ w'.cell? ⟨b0, o0 + j * 10 + 8, none⟩ = some (.slice ab' nb' cb') ∧ w'.cell? ⟨b0, o0 + j * 10 + 9, none⟩ = some (.slice ak' nk' ck') ∧ w'.cell? ⟨b1, o1 + j * 10, none⟩ = some (.string n2) ∧ w'.cell? ⟨b1, o1 + j * 10 + 1, none⟩ = some (.int .i64 k3) ∧ w'.cell? ⟨b1, o1 + j * 10 + 2, none⟩ = some (.int .u64 (bits3 : Nat)) ∧ w'.cell? ⟨b1, o1 + j * 10 + 3, none⟩ = some (.int .u64 (hi3 : Nat)) ∧ w'.cell? ⟨b1, o1 + j * 10 + 4, none⟩ = some (.int .u64 (lo3 : Nat)) ∧ w'.cell? ⟨b1, o1 + j * 10 + 5, none⟩ = some (.string text3) ∧ w'.cell? ⟨b1, o1 + j * 10 + 6, none⟩ = some (.string more3) ∧ w'.cell? ⟨b1, o1 + j * 10 + 7, none⟩ = some (.int .i64 sub3) ∧ w'.cell? ⟨b1, o1 + j * 10 + 8, none⟩ = some (.slice ab3 nb3 cb3) ∧ w'.cell? ⟨b1, o1 + j * 10 + 9, none⟩ = some (.slice ak3 nk3 ck3)) (first | go_keep | ((repeat' apply And.intro) <;> (refine below_cell ‹Below _ _ _› ?_; simp [*]))) ((go_at_call 22; refine (HC.out _ _ _ ?_ ?_).mono ?_; (exact E7.out.keep ((Below.refl _ _).drew)); (exact D7.out.keep ((Below.refl _ _).drew)); rintro e w' ⟨rfl, hb⟩))
          go_wp2_with fail
          go_ret
          exact ⟨by rw [HF.out]; rfl, HBW.out.trans ((((Below.refl _ _).drew).trans hb).mono (by show _ ≤ wr.heap.size; omega))⟩
        | true =>
          have HN : Hid (sameF kids kids2 = sameF (kids.drop (j + 1)) (kids2.drop (j + 1))) := by show _ = _; rw [heq.out, hed]; rfl
          clear hx hx2 hwg hed e1 d1 e3 d3 hq fa0 fb0
          go_wp2_with fail
          go_region_held3 (fun w' => w'.cell? ⟨w.heap.size, 8, none⟩ = some (.slice (some ⟨b0, o0, none⟩) nk ck) ∧ w'.cell? ⟨w.heap.size + 1, 8, none⟩ = some (.slice (some ⟨b1, o1, none⟩) nk ck2) ∧ w'.cell? ⟨b0, o0 + j * 10, none⟩ = some (.string n) ∧ w'.cell? ⟨b0, o0 + j * 10 + 1, none⟩ = some (.int .i64 k') ∧ w'.cell? ⟨b0, o0 + j * 10 + 2, none⟩ = some (.int .u64 (bits' : Nat)) ∧ w'.cell? ⟨b0, o0 + j * 10 + 3, none⟩ = some (.int .u64 (hi' : Nat)) ∧ w'.cell? ⟨b0, o0 + j * 10 + 4, none⟩ = some (.int .u64 (lo' : Nat)) ∧ w'.cell? ⟨b0, o0 + j * 10 + 5, none⟩ = some (.string text') ∧ w'.cell? ⟨b0, o0 + j * 10 + 6, none⟩ = some (.string more') ∧ w'.cell? ⟨b0, o0 + j * 10 + 7, none⟩ = some (.int .i64 sub') ∧ w'.cell? ⟨b0, o0 + j * 10 + 8, none⟩ = some (.slice ab' nb' cb') ∧ w'.cell? ⟨b0, o0 + j * 10 + 9, none⟩ = some (.slice ak' nk' ck') ∧ w'.cell? ⟨b1, o1 + j * 10, none⟩ = some (.string n2) ∧ w'.cell? ⟨b1, o1 + j * 10 + 1, none⟩ = some (.int .i64 k3) ∧ w'.cell? ⟨b1, o1 + j * 10 + 2, none⟩ = some (.int .u64 (bits3 : Nat)) ∧ w'.cell? ⟨b1, o1 + j * 10 + 3, none⟩ = some (.int .u64 (hi3 : Nat)) ∧ w'.cell? ⟨b1, o1 + j * 10 + 4, none⟩ = some (.int .u64 (lo3 : Nat)) ∧ w'.cell? ⟨b1, o1 + j * 10 + 5, none⟩ = some (.string text3) ∧ w'.cell? ⟨b1, o1 + j * 10 + 6, none⟩ = some (.string more3) ∧ w'.cell? ⟨b1, o1 + j * 10 + 7, none⟩ = some (.int .i64 sub3) ∧ w'.cell? ⟨b1, o1 + j * 10 + 8, none⟩ = some (.slice ab3 nb3 cb3) ∧ w'.cell? ⟨b1, o1 + j * 10 + 9, none⟩ = some (.slice ak3 nk3 ck3)) (first | go_keep | ((repeat' apply And.intro) <;> (refine below_cell ‹Below _ _ _› ?_; simp [*]))) ((go_at_call 22; refine (HC.out _ _ _ ?_ ?_).mono ?_; (exact E7.out.keep ((Below.refl _ _).drew)); (exact D7.out.keep ((Below.refl _ _).drew)); rintro e w' ⟨rfl, hb⟩))
          go_wp2_with fail
          go_roundw
          case rel => exact ⟨j + 1, by simp, by rw [HML.out]; omega, HN, HBL.out.trans ((((Below.refl _ _).drew).trans hb).mono hsz)⟩
          case measure => simp [intOf]; omega
    · have HF : Hid (r = true) := by
        show _ = _
        rw [HR.out, heq.out, sameF_end _ _ _ (by rw [HML.out]; omega)]
      go_wp2_with fail
      go_ret
      exact ⟨by rw [HF.out]; rfl, HBW.out⟩

theorem tsame_all : ∀ d, TSame d
  | 0 => fun t u hj => by cases t; simp only [T.wt] at hj; omega
  | d + 1 => tsame_step d (tsame_all d)

end Go.Proofs.Ytiodjhcjfbnocaa
