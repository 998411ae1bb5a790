/- Value and Small of the book, walked. -/
import Derived.Test.YtiodjhcjfbnocaaBook
namespace Go.Proofs.Ytiodjhcjfbnocaa
open Go.RowKit
set_option linter.unusedVariables false
set_option linter.unusedSimpArgs false

theorem RdI.ofNew {w : World} (cs : Array Value) (l : List Int) (t : Nat) (hc : cs.toList = l.map (Value.int .i64)) (hl : l.length ≤ 9223372036854775807) (hw : ∀ n ∈ l, (Lit.int .i64 n).wf = true) (g : Nat) (hg : g = w.heap.size) : RdI .i64 (w.alloc (.cells cs t)) (some ⟨g, 0, none⟩) l.length l := by
  subst hg
  refine ⟨rfl, hl, hw, fun i hi => ⟨_, _, rfl, ?_⟩⟩
  have : (w.alloc (.cells cs t)).cell? ⟨w.heap.size, 0 + i, none⟩ = cs[i]? := by rw [Nat.zero_add]; simp [go_sem]
  rw [this, ← Array.getElem?_toList, hc, List.getElem?_map]
  simp only [List.getD_eq_getElem?_getD, List.getElem?_eq_getElem hi]
  rfl

theorem wf_of {n : Int} (h0 : -9223372036854775808 ≤ n) (h1 : n ≤ 9223372036854775807) : (Lit.int .i64 n).wf = true := by
  simp [Lit.wf, IntKind.min, IntKind.max, IntKind.signed, IntKind.bits]; omega

theorem below_cell {W w' : World} {p : Addr} {v : Value} (hb : Below W.heap.size W w') (h : W.cell? p = some v) : w'.cell? p = some v := (hb.cell (cell_block h)).trans h

theorem below_cell2 {W w' : World} {B : Nat} {p : Addr} {v : Value} (hb : Below B W w') (h : W.cell? p = some v) (hB : p.block < B) : w'.cell? p = some v := (hb.cell hB).trans h

theorem below_more {B : Nat} {a wr w' : World} {o : Obj} (h : Below B a wr) (hs : B ≤ wr.heap.size) (hb : Below ((wr.alloc o).drew).heap.size ((wr.alloc o).drew) w') : Below B a w' :=
  h.trans ((((Below.refl wr.heap.size wr).alloc (Nat.le_refl _) o).drew.mono hs).trans (hb.mono (by show B ≤ (wr.heap.push o).size; simp; omega)))

/-- Room at one size. -/
theorem room1 (g : Nat) (left s : Int) (W : World) (hc : W.cell? ⟨g, 0, none⟩ = some (.int .i64 s)) (h0 : 0 ≤ s) (h1 : s ≤ 9223372036854775807) (b0 : -1 ≤ left) (b1 : left ≤ 4611686018427387904) :
    Calls Try.prog 45 #[.int .i64 left, .slice (some ⟨g, 0, none⟩) 1 1] W fun e w' => e = .returned (.int .i64 (roomS left [s])) ∧ W = w' :=
  by
  refine room_calls _ 1 1 left W [s] ⟨rfl, by omega, by intro n hn; simp at hn; subst hn; exact wf_of (by omega) h1, ?_⟩ (by simpa using h0) b0 b1
  intro i hi
  obtain rfl : i = 0 := by omega
  exact ⟨g, 0, rfl, by simpa using hc⟩

set_option maxRecDepth 100000 in
set_option maxHeartbeats 400000 in
theorem value_calls (d : Nat) : ∀ (t : T), t.depth ≤ d → ∀ (left : Int) (w : World) (c : Array Value), RdT w t c → -1 ≤ left → left ≤ 4611686018427387904 →
    Calls Try.prog 33 #[.int .i64 left, .agg c] w fun e w' => e = .returned (.int .i64 (bookT left t)) ∧ Below w.heap.size w w' := by
  induction d with
  | zero => intro t ht; cases t; simp [T.depth] at ht
  | succ d ih =>
    intro t ht left w c h h0 h1
    obtain ⟨k, bits, hi, lo, text, more, sub, bs, kids⟩ := t
    obtain ⟨ab, nb, cb, ak, nk, ck, rfl, hok, hrb, hkl, hnk, hks⟩ := h
    have hkd : kids.depth ≤ d := by simp only [T.depth] at ht; omega
    clear ht
    obtain ⟨ok1, ok2, ok3, ok4, ok5, ok6, ok7⟩ := hok
    have hbl := hrb.1
    have hbm := hrb.2.1
    have r1 := roomS_bd [2, text.size, more.size, bs.length] left (by simp) h0
    have IH := Lib.hid ih
    have HK := Lib.hid hks
    have HKL := Lib.hid hkl
    have HBL := Lib.hid hbl
    have HF : Hid (bookT left (.mk k bits hi lo text more sub bs kids) = bookF (roomS left [2, text.size, more.size, (nb : Int)]) kids) := by
      show bookT _ _ = _
      rw [← hbl]; rfl
    rw [hbl] at r1
    have hroom := fun (w : World) (g : Nat) (hg : g = w.heap.size) => room_calls _ _ 4 left (w.alloc (.cells #[.int .i64 2, .int .i64 text.size, .int .i64 more.size, .int .i64 nb] 3)) [2, text.size, more.size, (nb : Int)] (RdI.ofNew _ _ _ rfl (by simp) (by intro n hn; simp at hn; rcases hn with rfl | rfl | rfl | rfl <;> exact wf_of (by omega) (by omega)) g hg) (by simp) h0 h1
    have HRm := Lib.hid hroom
    clear ih hks hkl hrb hbl hroom
    generalize roomS left [2, text.size, more.size, (nb : Int)] = lf0 at r1 HF HRm
    go_enter Try.func33, Try.ntmps33
    go_wp2_with fail
    refine (HRm.out _ _ (by simp)).mono ?_
    rintro e w' ⟨rfl, rfl⟩
    go_wp2_with fail
    have hW : Below w.heap.size w ((w.alloc (.cells (valCells k bits hi lo text more sub ab nb cb ak nk ck) 26)).alloc (.cells #[.int .i64 2, .int .i64 text.size, .int .i64 more.size, .int .i64 nb] 3)) := ((Below.refl _ _).alloc (Nat.le_refl _) _).alloc (by simp) _
    have HW := Lib.hid hW
    clear hW
    go_loopw [0, 5] (fun q i wr => ∃ (j : Nat) (lf : Int), j ≤ nk ∧ i = .int .i64 j ∧ q = .int .i64 lf ∧ -1 ≤ lf ∧ lf ≤ 4611686018427387904 ∧ bookF lf (kids.drop j) = bookF lf0 kids ∧ Below (w.heap.size + 2) ((w.alloc (.cells (valCells k bits hi lo text more sub ab nb cb ak nk ck) 26)).alloc (.cells #[.int .i64 2, .int .i64 text.size, .int .i64 more.size, .int .i64 nb] 3)) wr) (fun _ i _ => nk - (intOf i).toNat)
    case atStart => exact ⟨0, lf0, by omega, rfl, rfl, by omega, by omega, by simp [F.drop], Below.refl _ _⟩
    case round =>
      obtain ⟨j, lf, hj, rfl, rfl, b0, b1, hr, hbl⟩ := hrel
      have f8 : wr.cell? ⟨w.heap.size, 8, none⟩ = some (.slice ak nk ck) := below_cell2 hbl (by simp [go_sem, valCells]) (by simp)
      have hsz : w.heap.size + 2 ≤ wr.heap.size := by have := hbl.size; simp at this; omega
      have HKW := Lib.hid (HK.out.keep (HW.out.trans (hbl.mono (by omega))))
      have HR := Lib.hid hr
      have HBW := Lib.hid hbl
      clear hr hbl
      by_cases hlt : j < nk
      · by_cases hlf : 0 ≤ lf
        · obtain ⟨⟨n, t⟩, hx⟩ := F.get_some kids j (by rw [HKL.out]; exact hlt)
          have hdep := (F.get_lt kids j _ hx).2
          obtain ⟨b, o, k', bits', hi', lo', text', more', sub', bs', kids', ab', nb', cb', ak', nk', ck', rfl, rfl, e1, e2, e3, g0, g1, g2, g3, g4, g5, g6, g7, g8, g9⟩ := (HKW.out.at hx).cells
          have hrn := roomS_bd [(n.size : Int)] lf (by simp) b0
          have hbt := bookT_bd (.mk k' bits' hi' lo' text' more' sub' bs' kids') _ hrn.1
          have HX := Lib.hid (F.drop_get kids j _ _ hx)
          have HN : Hid (bookF lf (kids.drop j) = bookF (bookT (roomS lf [(n.size : Int)]) (.mk k' bits' hi' lo' text' more' sub' bs' kids')) (kids.drop (j + 1))) := by
            show bookF _ _ = _
            rw [HX.out]; simp only [bookF]; rw [if_neg (by omega)]
          have hj0 : (0 : Int) ≤ (j : Int) := by omega
          have hj1 : (j : Int) < (nk : Int) := by omega
          have E3 := Lib.hid e3
          have HC := Lib.hid (IH.out _ (Nat.le_trans hdep hkd))
          have HR1 := Lib.hid (room1 wr.heap.size lf n.size)
          clear hx e3 hdep
          generalize roomS lf [(n.size : Int)] = lf1 at hrn hbt HN HR1
          go_wp2_with fail
          go_region_held3 (fun w' => w'.cell? ⟨w.heap.size, 8, none⟩ = some (.slice (some ⟨b, o, none⟩) nk ck) ∧ w'.cell? ⟨b, o + j * 10, none⟩ = some (.string n) ∧ w'.cell? ⟨b, o + j * 10 + 1, none⟩ = some (.int .i64 k') ∧ w'.cell? ⟨b, o + j * 10 + 2, none⟩ = some (.int .u64 (bits' : Nat)) ∧ w'.cell? ⟨b, o + j * 10 + 3, none⟩ = some (.int .u64 (hi' : Nat)) ∧ w'.cell? ⟨b, o + j * 10 + 4, none⟩ = some (.int .u64 (lo' : Nat)) ∧ w'.cell? ⟨b, o + j * 10 + 5, none⟩ = some (.string text') ∧ w'.cell? ⟨b, o + j * 10 + 6, none⟩ = some (.string more') ∧ w'.cell? ⟨b, o + j * 10 + 7, none⟩ = some (.int .i64 sub') ∧ w'.cell? ⟨b, o + j * 10 + 8, none⟩ = some (.slice ab' nb' cb') ∧ w'.cell? ⟨b, o + j * 10 + 9, none⟩ = some (.slice ak' nk' ck')) (first | go_keep | ((repeat' apply And.intro) <;> (refine below_cell ‹Below _ _ _› ?_; simp [*]))) (first | (go_at_call 45; refine (HR1.out _ ?_ (by omega) (by omega) (by omega) (by omega)).mono ?_; (simp [go_sem]); rintro e w' ⟨rfl, rfl⟩) | (go_at_call 33; refine (HC.out _ _ _ ?_ (by omega) (by omega)).mono ?_; (exact E3.out.keep ((Below.refl _ _).alloc (Nat.le_refl _) _).drew); rintro e w' ⟨rfl, hb⟩))
          go_wp2_with fail
          go_roundw
          case rel => exact ⟨j + 1, _, by omega, by simp, rfl, hbt.1, by omega, HN.out.symm.trans HR.out, below_more HBW.out hsz hb⟩
          case measure => simp [intOf]; omega
        · have hf : Hid (bookF lf0 kids = lf) := by
            show bookF lf0 kids = lf
            rw [← HR.out]
            obtain ⟨⟨n, t⟩, hx⟩ := F.get_some kids j (by rw [HKL.out]; exact hlt)
            rw [F.drop_get kids j _ _ hx]
            simp only [bookF]
            rw [if_pos (by omega)]
          go_wp2_with fail
          go_ret
          exact ⟨by rw [HF.out, hf.out]; rfl, HW.out.trans (HBW.out.mono (by omega))⟩
      · have hf : Hid (bookF lf0 kids = lf) := by
          show bookF lf0 kids = lf
          rw [← HR.out, F.drop_len kids j (by rw [HKL.out]; omega)]
          simp only [bookF]
        go_wp2_with fail
        go_ret
        exact ⟨by rw [HF.out, hf.out]; rfl, HW.out.trans (HBW.out.mono (by omega))⟩

/-- Is a tree small? -/
def smallT (t : T) : Bool := decide (0 ≤ bookT 1200 t)

set_option maxRecDepth 100000 in
set_option maxHeartbeats 400000 in
theorem small_calls (t : T) (w : World) (c : Array Value) (h : RdT w t c) :
    Calls Try.prog 11 #[.agg c] w fun e w' => e = .returned (.bool (smallT t)) ∧ Below w.heap.size w w' := by
  have C := Lib.hid (value_calls t.depth t (Nat.le_refl _) 1200)
  have H := Lib.hid h
  have hs := h.size
  obtain ⟨k, bits, hi, lo, text, more, sub, bs, kids⟩ := t
  obtain ⟨ab, nb, cb, ak, nk, ck, rfl, _⟩ := h
  have HB : Hid (smallT (T.mk k bits hi lo text more sub bs kids) = decide (0 ≤ bookT 1200 (T.mk k bits hi lo text more sub bs kids))) := rfl
  generalize hg : smallT (T.mk k bits hi lo text more sub bs kids) = sm at HB
  generalize bookT 1200 (T.mk k bits hi lo text more sub bs kids) = n at C HB
  clear hg
  go_enter Try.func11, Try.ntmps11
  go_wp2_with fail
  refine (C.out _ _ (H.out.keep ((Below.refl _ _).alloc (Nat.le_refl _) _)) (by omega) (by omega)).mono ?_
  rintro e w' ⟨rfl, hb⟩
  go_wp2_with fail
  go_ret
  exact ⟨by rw [HB.out]; rfl, ((Below.refl w.heap.size w).alloc (Nat.le_refl _) _).trans (hb.mono (by simp))⟩
end Go.Proofs.Ytiodjhcjfbnocaa
