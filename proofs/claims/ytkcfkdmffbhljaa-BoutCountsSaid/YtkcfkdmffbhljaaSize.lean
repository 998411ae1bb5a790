/- The program's size: Of and kids, walked. -/
import Derived.Test.YtkcfkdmffbhljaaWt
import Derived.Test.YtkcfkdmffbhljaaBook2
namespace Go.Proofs.Ytkcfkdmffbhljaa
open Go.RowKit
set_option linter.unusedVariables false
set_option linter.unusedSimpArgs false

/-- What Of answers for trees of a weight. -/
def OfSaid (d : Nat) : Prop := ∀ (t : T), t.wt ≤ d → ∀ (w : World) (c : Array Value), RdT w t c → Calls Try.prog 41 #[.agg c] w fun e w' => e = .returned (.int .i64 (sizeT t)) ∧ Below w.heap.size w w'

set_option maxRecDepth 100000 in
set_option maxHeartbeats 400000 in
theorem kids_of (d : Nat) (hd : d ≤ 1000000000) (hof : OfSaid d) (f : F) (hf : f.wt ≤ d) (a : Option Addr) (n cap : Nat) (w : World) (hl : f.len = n) (hn : n ≤ 9223372036854775807) (hk : RdKs w a 0 f) :
    Calls Try.prog 58 #[.slice a n cap] w fun e w' => e = .returned (.int .i64 (5 + sizeF f)) ∧ Below w.heap.size w w' := by
  have HK := Lib.hid hk
  have HL := Lib.hid hl
  have HO := Lib.hid hof
  have hfb := sizeF_bd f
  have HF : Hid (f.drop 0 = f) := rfl
  clear hk hl hof
  go_enter Try.func58, Try.ntmps58
  go_wp2_with fail
  go_loopw [3, 8] (fun q i wr => ∃ (j : Nat) (s : Int), j ≤ n ∧ i = .int .i64 j ∧ q = .int .i64 s ∧ 0 ≤ s ∧ s + sizeF (f.drop j) = 5 + sizeF f ∧ Below w.heap.size w wr) (fun _ i _ => n - (intOf i).toNat)
  case atStart => exact ⟨0, 5, by omega, rfl, rfl, by omega, rfl, Below.refl _ _⟩
  case round =>
    obtain ⟨j, s, hj, rfl, rfl, b0, hr, hbl⟩ := hrel
    have HKW := Lib.hid (HK.out.keep hbl)
    have hsz := hbl.size
    have HBW := Lib.hid hbl
    clear hbl
    by_cases hlt : j < n
    · obtain ⟨⟨nm, t⟩, hx⟩ := F.get_some f j (by rw [HL.out]; exact hlt)
      have hw := F.wt_get f j nm t hx
      have hg := sizeF_get f j nm t hx
      have hb1 := sizeT_bd t
      have hb2 := sizeF_bd (f.drop (j + 1))
      obtain ⟨b, o, k', bits', hi', lo', text', more', sub', bs', kids', ab', nb', cb', ak', nk', ck', rfl, rfl, e1, e2, e3, g0, g1, g2, g3, g4, g5, g6, g7, g8, g9⟩ := (HKW.out.at hx).cells
      have HC := Lib.hid (HO.out _ (show T.wt (.mk k' bits' hi' lo' text' more' sub' bs' kids') ≤ d by omega))
      have E3 := Lib.hid e3
      have hs : s + ((nm.size + 2 + sizeT (.mk k' bits' hi' lo' text' more' sub' bs' kids')) + sizeF (f.drop (j + 1))) = 5 + sizeF f := by rw [← hg]; exact hr
      have HS := Lib.hid hs
      clear hx hg hr e3 hw
      generalize sizeT (.mk k' bits' hi' lo' text' more' sub' bs' kids') = z at hb1 hs HS HC
      have hz : s + (nm.size + 2 + z) ≤ 13000000000 := by omega
      have hj1 : (j : Int) < (n : Int) := by omega
      clear hs
      have q1 : IntKind.i64.wrap ((nm.size : Int) + 2) = (nm.size : Int) + 2 := IntWalk.i64_in _ (by omega)
      have q2 : IntKind.i64.wrap ((nm.size : Int) + 2 + z) = (nm.size : Int) + 2 + z := IntWalk.i64_in _ (by omega)
      have q3 : IntKind.i64.wrap (s + ((nm.size : Int) + 2 + z)) = s + ((nm.size : Int) + 2 + z) := IntWalk.i64_in _ (by omega)
      go_wp2_with fail
      go_region_held3 (fun w' => w'.cell? ⟨wr.heap.size, 0, none⟩ = some (.string nm) ∧ w'.cell? ⟨wr.heap.size, 1, none⟩ = some (.int .i64 k') ∧ w'.cell? ⟨wr.heap.size, 2, none⟩ = some (.int .u64 (bits' : Nat)) ∧ w'.cell? ⟨wr.heap.size, 3, none⟩ = some (.int .u64 (hi' : Nat)) ∧ w'.cell? ⟨wr.heap.size, 4, none⟩ = some (.int .u64 (lo' : Nat)) ∧ w'.cell? ⟨wr.heap.size, 5, none⟩ = some (.string text') ∧ w'.cell? ⟨wr.heap.size, 6, none⟩ = some (.string more') ∧ w'.cell? ⟨wr.heap.size, 7, none⟩ = some (.int .i64 sub') ∧ w'.cell? ⟨wr.heap.size, 8, none⟩ = some (.slice ab' nb' cb') ∧ w'.cell? ⟨wr.heap.size, 9, none⟩ = some (.slice ak' nk' ck')) (first | go_keep | ((repeat' apply And.intro) <;> (refine below_cell ‹Below _ _ _› ?_; simp [*]))) ((go_at_call 41; refine (HC.out _ _ ?_).mono ?_; (exact E3.out.keep ((Below.refl _ _).alloc (Nat.le_refl _) _).drew); rintro e w' ⟨rfl, hb⟩))
      go_wp2_with fail
      go_roundw
      case rel => exact ⟨j + 1, _, by omega, by simp, rfl, by omega, by rw [← HS.out]; omega, below_more HBW.out hsz hb⟩
      case measure => simp [intOf]; omega
    · have hf : Hid (5 + sizeF f = s) := by
        show 5 + sizeF f = s
        rw [← hr, F.drop_len f j (by rw [HL.out]; omega)]
        simp only [sizeF]
        omega
      clear hr
      go_wp2_with fail
      go_ret
      exact ⟨by rw [hf.out]; rfl, HBW.out⟩
set_option maxRecDepth 100000 in
set_option maxHeartbeats 4000000 in
theorem of_step (d : Nat) (hd : d ≤ 1000000000) (hof : OfSaid d) : OfSaid (d + 1) := by
  intro t ht w c h
  obtain ⟨k, bits, hi, lo, text, more, sub, bs, kids⟩ := t
  have hst := sizeT_bd (.mk k bits hi lo text more sub bs kids)
  obtain ⟨ab, nb, cb, ak, nk, ck, rfl, hok, hrb, hkl, hnk, hks⟩ := h
  have hkd : kids.wt ≤ d := by simp only [T.wt] at ht; omega
  have hkb := sizeF_bd kids
  have hbl := hrb.1
  have hxt : (text.size : Int) ≤ 1000000001 := by simp only [T.wt] at ht; omega
  have hxm : (more.size : Int) ≤ 1000000001 := by simp only [T.wt] at ht; omega
  have hxb : (nb : Int) ≤ 1000000001 := by simp only [T.wt] at ht; omega
  have HC := Lib.hid (fun W => kids_of d hd hof kids hkd ak nk ck W hkl hnk.1)
  have HKS := Lib.hid hks
  have HF : Hid (sizeT (.mk k bits hi lo text more sub bs kids) = ownSize k sub text.size more.size nb (5 + sizeF kids)) := by
    show sizeT _ = _
    simp only [sizeT]; rw [hbl]
  have hz : 5 + sizeF kids ≤ 12000000005 := by omega
  have hz0 : 0 ≤ 5 + sizeF kids := by omega
  clear hof hok hrb hkl hnk hks ht hbl hst hkd
  generalize 5 + sizeF kids = z at HC HF hz hz0
  generalize sizeT (.mk k bits hi lo text more sub bs kids) = r at HF
  clear hkb
  have q2 : IntKind.i64.wrap ((text.size : Int) + 9 + z) = (text.size : Int) + 9 + z := IntWalk.i64_in _ (by omega)
  have q1 : IntKind.i64.wrap ((text.size : Int) + 9) = (text.size : Int) + 9 := IntWalk.i64_in _ (by omega)
  go_enter Try.func41, Try.ntmps41
  go_wp2_with (go_at_call 58; refine (HC.out _ ?_).mono ?_; (exact HKS.out.keep ((Below.refl _ _).alloc (Nat.le_refl _) _)); rintro e w' ⟨rfl, hb⟩)
  all_goals first
    | (go_ret
       refine ⟨by rw [HF.out]; simp only [ownSize, *, cond_true, cond_false]; rfl, ?_⟩
       first | exact (Below.refl _ _).alloc (Nat.le_refl _) _ | exact ((Below.refl w.heap.size w).alloc (Nat.le_refl _) _).trans (hb.mono (by simp)))
    | (go_region_held3 (fun w' => w'.cell? ⟨w.heap.size, 4, none⟩ = some (.string text) ∧ w'.cell? ⟨w.heap.size, 8, none⟩ = some (.slice ak nk ck)) (first | go_keep | ((repeat' apply And.intro) <;> (refine below_cell ‹Below _ _ _› ?_; simp [*]))) ((go_at_call 58; refine (HC.out _ ?_).mono ?_; (exact HKS.out.keep ((Below.refl _ _).alloc (Nat.le_refl _) _).drew); rintro e w' ⟨rfl, hb⟩))
       go_wp2
       go_ret
       refine ⟨by rw [HF.out]; simp only [ownSize, *, cond_true, cond_false]; rfl, ?_⟩
       exact (((Below.refl w.heap.size w).alloc (Nat.le_refl _) _).drew).trans (hb.mono (by show _ ≤ (w.heap.push _).size; simp)))
theorem of_all : ∀ d, d ≤ 1000000001 → OfSaid d
  | 0, _ => fun t ht => by cases t; simp only [T.wt] at ht; omega
  | d + 1, h => of_step d (by omega) (of_all d (by omega))

end Go.Proofs.Ytkcfkdmffbhljaa
