/- The reference's Size, walked. -/
import Derived.Test.YtkcfkdmffbhljaaSize
namespace Go.Proofs.Ytkcfkdmffbhljaa
open Go.RowKit
set_option linter.unusedVariables false
set_option linter.unusedSimpArgs false

def RSizeSaid (d : Nat) : Prop := ∀ (t : T), t.wt ≤ d → ∀ (w : World) (c : Array Value), RdT w t c → Calls Try.prog 31 #[.agg c] w fun e w' => e = .returned (.int .i64 (sizeT t)) ∧ Below w.heap.size w w'

/-- The three kinds with Kids. -/
def tailS (k : Int) (text : Nat) (s : Int) : Int := bif k == 15 then text + 9 + s else s

theorem ownSize_tail (k sub : Int) (text more bs : Nat) (s : Int) (h : k = 3 ∨ k = 4 ∨ k = 15) : ownSize k sub text more bs s = tailS k text s := by
  rcases h with rfl | rfl | rfl <;> rfl

set_option maxRecDepth 100000 in
set_option maxHeartbeats 4000000 in
theorem rsize_step (d : Nat) (hd : d ≤ 1000000000) (hof : RSizeSaid d) : RSizeSaid (d + 1) := by
  intro t ht w c h
  obtain ⟨k, bits, hi, lo, text, more, sub, bs, kids⟩ := t
  obtain ⟨ab, nb, cb, ak, nk, ck, rfl, hok, hrb, hkl, hnk, hks⟩ := h
  have hkd : kids.wt ≤ d := by simp only [T.wt] at ht; omega
  have hkb := sizeF_bd kids
  have hbl := hrb.1
  have hxt : (text.size : Int) ≤ 1000000001 := by simp only [T.wt] at ht; omega
  have hxm : (more.size : Int) ≤ 1000000001 := by simp only [T.wt] at ht; omega
  have hxb : (nb : Int) ≤ 1000000001 := by simp only [T.wt] at ht; omega
  have HO := Lib.hid hof
  have HKS := Lib.hid hks
  have HL := Lib.hid hkl
  have HF : Hid (sizeT (.mk k bits hi lo text more sub bs kids) = ownSize k sub text.size more.size nb (5 + sizeF kids)) := by
    show sizeT _ = _
    simp only [sizeT]; rw [hbl]
  clear hof hok hrb hkl hks ht hbl
  generalize sizeT (.mk k bits hi lo text more sub bs kids) = r at HF
  by_cases h3 : k = 3 ∨ k = 4 ∨ k = 15
  · have HT := Lib.hid (HF.out.trans (ownSize_tail _ _ _ _ _ _ h3))
    clear HF
    rcases h3 with rfl | rfl | rfl
    all_goals
      go_enter Try.func31, Try.ntmps31
      go_wp2_with fail
      go_loopw [4, 5] (fun q i wr => ∃ (j : Nat) (s : Int), j ≤ nk ∧ i = .int .i64 j ∧ q = .int .i64 s ∧ 0 ≤ s ∧ s + sizeF (kids.drop j) = 5 + sizeF kids ∧ Below (w.heap.size + 1) (w.alloc (.cells (valCells _ bits hi lo text more sub ab nb cb ak nk ck) 26)) wr) (fun _ i _ => nk - (intOf i).toNat)
      case atStart => exact ⟨0, 5, by omega, rfl, rfl, by omega, by simp [F.drop], Below.refl _ _⟩
      case round =>
        obtain ⟨j, s, hj, rfl, rfl, b0, hr, hbl⟩ := hrel
        have f0 := below_cell2 (p := ⟨w.heap.size, 0, none⟩) hbl (by simp [go_sem, valCells]; rfl) (by simp)
        have f4 : wr.cell? ⟨w.heap.size, 4, none⟩ = some (.string text) := below_cell2 hbl (by simp [go_sem, valCells]) (by simp)
        have f8 : wr.cell? ⟨w.heap.size, 8, none⟩ = some (.slice ak nk ck) := below_cell2 hbl (by simp [go_sem, valCells]) (by simp)
        have hsz : w.heap.size + 1 ≤ wr.heap.size := by have := hbl.size; simp at this; omega
        have HKW := Lib.hid (HKS.out.keep (((Below.refl w.heap.size w).alloc (Nat.le_refl _) _).trans (hbl.mono (by omega))))
        have HBW := Lib.hid hbl
        clear hbl
        by_cases hlt : j < nk
        · obtain ⟨⟨nm, t⟩, hx⟩ := F.get_some kids j (by rw [HL.out]; exact hlt)
          have hw := F.wt_get kids j nm t hx
          have hg := sizeF_get kids j nm t hx
          have hb1 := sizeT_bd t
          have hb2 := sizeF_bd (kids.drop (j + 1))
          obtain ⟨b, o, k', bits', hi', lo', text', more', sub', bs', kids', ab', nb', cb', ak', nk', ck', rfl, rfl, e1, e2, e3, g0, g1, g2, g3, g4, g5, g6, g7, g8, g9⟩ := (HKW.out.at hx).cells
          have HC := Lib.hid (HO.out _ (show T.wt (.mk k' bits' hi' lo' text' more' sub' bs' kids') ≤ d by omega))
          have E3 := Lib.hid e3
          have hs : s + ((nm.size + 2 + sizeT (.mk k' bits' hi' lo' text' more' sub' bs' kids')) + sizeF (kids.drop (j + 1))) = 5 + sizeF kids := by rw [← hg]; exact hr
          have HS := Lib.hid hs
          clear hx hg hr e3 hw
          generalize sizeT (.mk k' bits' hi' lo' text' more' sub' bs' kids') = z at hb1 hs HS HC
          have hz : s + (nm.size + 2 + z) ≤ 13000000000 := by omega
          have hj0 : (0 : Int) ≤ (j : Int) := by omega
          have hj1 : (j : Int) < (nk : Int) := by omega
          clear hs
          have q3 : IntKind.i64.wrap (s + (nm.size : Int) + 2 + z) = s + (nm.size : Int) + 2 + z := IntWalk.i64_in _ (by omega)
          have q2 : IntKind.i64.wrap (s + (nm.size : Int) + 2) = s + (nm.size : Int) + 2 := IntWalk.i64_in _ (by omega)
          have q1 : IntKind.i64.wrap (s + (nm.size : Int)) = s + (nm.size : Int) := IntWalk.i64_in _ (by omega)
          go_wp2_with fail
          go_region_held3 (fun w' => w'.cell? ⟨w.heap.size, 8, none⟩ = some (.slice (some ⟨b, o, none⟩) nk ck) ∧ w'.cell? ⟨b, o + j * 10, none⟩ = some (.string nm) ∧ w'.cell? ⟨b, o + j * 10 + 1, none⟩ = some (.int .i64 k') ∧ w'.cell? ⟨b, o + j * 10 + 2, none⟩ = some (.int .u64 (bits' : Nat)) ∧ w'.cell? ⟨b, o + j * 10 + 3, none⟩ = some (.int .u64 (hi' : Nat)) ∧ w'.cell? ⟨b, o + j * 10 + 4, none⟩ = some (.int .u64 (lo' : Nat)) ∧ w'.cell? ⟨b, o + j * 10 + 5, none⟩ = some (.string text') ∧ w'.cell? ⟨b, o + j * 10 + 6, none⟩ = some (.string more') ∧ w'.cell? ⟨b, o + j * 10 + 7, none⟩ = some (.int .i64 sub') ∧ w'.cell? ⟨b, o + j * 10 + 8, none⟩ = some (.slice ab' nb' cb') ∧ w'.cell? ⟨b, o + j * 10 + 9, none⟩ = some (.slice ak' nk' ck')) (first | go_keep | ((repeat' apply And.intro) <;> (refine below_cell ‹Below _ _ _› ?_; simp [*]))) ((go_at_call 31; refine (HC.out _ _ ?_).mono ?_; (exact E3.out.keep (Below.refl _ _).drew); rintro e w' ⟨rfl, hb⟩))
          go_wp2_with fail
          go_roundw
          case rel => exact ⟨j + 1, _, by omega, by simp, rfl, by omega, by rw [← HS.out]; omega, HBW.out.trans (((Below.refl _ _).drew).trans (hb.mono hsz))⟩
          case measure => simp [intOf]; omega
        · have hf : Hid (5 + sizeF kids = s) := by
            show 5 + sizeF kids = s
            rw [← hr, F.drop_len kids j (by rw [HL.out]; omega)]
            simp only [sizeF]
            omega
          have hsb : s ≤ 13000000000 := by have := hf.out; omega
          clear hr
          go_wp2_with fail
          go_ret
          exact ⟨by rw [HT.out, hf.out]; simp [tailS]; try omega, ((Below.refl w.heap.size w).alloc (Nat.le_refl _) _).trans (HBW.out.mono (by omega))⟩
  · have n1 : (k == 3) = false := by simp; omega
    have n2 : (k == 4) = false := by simp; omega
    have n3 : (k == 15) = false := by simp; omega
    clear h3
    go_enter Try.func31, Try.ntmps31
    go_wp2_with fail
    all_goals
      go_ret
      refine ⟨by rw [HF.out]; simp only [ownSize, *, cond_true, cond_false]; rfl, ?_⟩
      exact (Below.refl _ _).alloc (Nat.le_refl _) _

theorem rsize_all : ∀ d, d ≤ 1000000001 → RSizeSaid d
  | 0, _ => fun t ht => by cases t; simp only [T.wt] at ht; omega
  | d + 1, h => rsize_step d (by omega) (rsize_all d (by omega))

end Go.Proofs.Ytkcfkdmffbhljaa
