/- How deep a tree is, by the reference. -/
import Derived.Test.YtiodjhcjfbnocaaDep
namespace Go.Proofs.Ytiodjhcjfbnocaa
open Go.RowKit
set_option linter.unusedVariables false
set_option linter.unusedSimpArgs false

set_option maxRecDepth 100000 in
set_option maxHeartbeats 4000000 in
theorem rdep_step (d : Nat) (hd : d ≤ 1000000000) (hof : DepSaid 27 d) : DepSaid 27 (d + 1) := by
  intro t ht w c h
  obtain ⟨k, bits, hi, lo, text, more, sub, bs, kids⟩ := t
  obtain ⟨ab, nb, cb, ak, nk, ck, rfl, hok, hrb, hkl, hnk, hks⟩ := h
  have hkd : kids.wt ≤ d := by simp only [T.wt] at ht; omega
  have hkb := depF_wt kids
  have HO := Lib.hid hof
  have HKS := Lib.hid hks
  have HL := Lib.hid hkl
  have HF : Hid (depT (.mk k bits hi lo text more sub bs kids) = bif isK k then depF kids + 1 else 0) := by
    show depT _ = _
    simp only [depT]
  clear hof hok hrb hkl hks ht
  generalize depT (.mk k bits hi lo text more sub bs kids) = r at HF
  by_cases h3 : k = 3 ∨ k = 4 ∨ k = 15
  · have HT : Hid (r = depF kids + 1) := by
      show _ = _
      rw [HF.out]; rcases h3 with rfl | rfl | rfl <;> rfl
    clear HF
    rcases h3 with rfl | rfl | rfl
    all_goals
      go_enter Try.func27, Try.ntmps27
      go_wp2_with fail
      refine (kids_calls _ _).mono ?_
      rintro e w1 ⟨rfl, rfl⟩
      go_wp2_with fail
      go_loopw [3, 4] (fun q i wr => DepRel (w.heap.size + 1) (w.alloc (.cells (valCells _ bits hi lo text more sub ab nb cb ak nk ck) 26)) kids nk q i wr) (fun _ i _ => nk - (intOf i).toNat)
      case atStart => exact ⟨0, 0, by omega, rfl, rfl, by omega, by simp [F.drop], Below.refl _ _⟩
      case round =>
        obtain ⟨j, s, hj, rfl, rfl, b0, hr, hbl⟩ := hrel
        have f0 := below_cell2 (p := ⟨w.heap.size, 0, none⟩) hbl (by simp [go_sem, valCells]; rfl) (by simp)
        have f8 : wr.cell? ⟨w.heap.size, 8, none⟩ = some (.slice ak nk ck) := below_cell2 hbl (by simp [go_sem, valCells]) (by simp)
        have hsz : w.heap.size + 1 ≤ wr.heap.size := by have := hbl.size; simp at this; omega
        have HKW := Lib.hid (HKS.out.keep (((Below.refl w.heap.size w).alloc (Nat.le_refl _) _).trans (hbl.mono (by omega))))
        have HBW := Lib.hid hbl
        clear hbl
        by_cases hlt : j < nk
        · obtain ⟨⟨nm, t⟩, hx⟩ := F.get_some kids j (by rw [HL.out]; exact hlt)
          have hw := F.wt_get kids j nm t hx
          have hg := depF_get kids j nm t hx
          have hb1 := depT_wt t
          obtain ⟨b, o, k', bits', hi', lo', text', more', sub', bs', kids', ab', nb', cb', ak', nk', ck', rfl, rfl, e1, e2, e3, g0, g1, g2, g3, g4, g5, g6, g7, g8, g9⟩ := (HKW.out.at hx).cells
          have HC := Lib.hid (HO.out _ (show T.wt (.mk k' bits' hi' lo' text' more' sub' bs' kids') ≤ d by omega))
          have E3 := Lib.hid e3
          rw [hg] at hr
          have hz : depT (.mk k' bits' hi' lo' text' more' sub' bs' kids') ≤ 1000000000 := by omega
          have HR := Lib.hid hr
          clear hx hg hr e3 hw hb1
          generalize depT (.mk k' bits' hi' lo' text' more' sub' bs' kids') = z at HC HR hz
          have hj0 : (0 : Int) ≤ (j : Int) := by omega
          have hj1 : (j : Int) < (nk : Int) := by omega
          go_wp2_with (go_at_call 27; refine (HC.out _ _ ?_).mono ?_; (exact E3.out.keep (Below.refl _ _)); rintro e w' ⟨rfl, hb⟩)
          all_goals
            go_wp2_with fail
            go_roundw
            case rel => exact ⟨j + 1, max s z, by omega, by simp, by first | rfl | (congr 1; omega) | (simp; omega), by omega, by have := HR.out; omega, HBW.out.trans (hb.mono hsz)⟩
            case measure => simp [intOf]; omega
        · have hf : Hid (depF kids = s) := by
            show depF kids = s
            rw [← hr, F.drop_len kids j (by rw [HL.out]; omega)]
            simp [depF]
          clear hr
          go_wp2_with fail
          go_ret
          exact ⟨by rw [HT.out, hf.out]; rfl, ((Below.refl w.heap.size w).alloc (Nat.le_refl _) _).trans (HBW.out.mono (by omega))⟩
  · have n1 : (k == 3) = false := by simp; omega
    have n2 : (k == 4) = false := by simp; omega
    have n3 : (k == 15) = false := by simp; omega
    have m1 : (k != 3) = true := by simp; omega
    have m2 : (k != 4) = true := by simp; omega
    have m3 : (k != 15) = true := by simp; omega
    have HT : Hid (r = 0) := by
      show _ = _
      rw [HF.out]; unfold isK; rw [n1, n2, n3]; rfl
    have i0 : isK k = false := by unfold isK; rw [n1, n2, n3]; rfl
    clear h3 HF
    go_enter Try.func27, Try.ntmps27
    go_wp2_with fail
    refine (kids_calls _ _).mono ?_
    rintro e w1 ⟨rfl, rfl⟩
    go_wp2_with fail
    all_goals
      go_ret
      exact ⟨by rw [HT.out]; rfl, (Below.refl _ _).alloc (Nat.le_refl _) _⟩
theorem rdep_all : ∀ d, d ≤ 1000000001 → DepSaid 27 d
  | 0, _ => fun t ht => by cases t; simp only [T.wt] at ht; omega
  | d + 1, h => rdep_step d (by omega) (rdep_all d (by omega))

end Go.Proofs.Ytiodjhcjfbnocaa
