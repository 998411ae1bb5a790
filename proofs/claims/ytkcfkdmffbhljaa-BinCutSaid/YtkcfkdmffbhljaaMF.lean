/- The reference's check, walked. tree.Check and the reference's Check. -/
import Derived.Test.YtkcfkdmffbhljaaBoM
import Derived.Test.YtkcfkdmffbhljaaBoK
import Derived.Test.YtkcfkdmffbhljaaME
namespace Go.Proofs.Ytkcfkdmffbhljaa
open Go.RowKit
set_option linter.unusedVariables false
set_option linter.unusedSimpArgs false

theorem checkT_own (k bits hi lo text more sub bs f) (nm : ByteArray) (p : List Int) : checkT (.mk k bits hi lo text more sub bs f) nm p = if ownE k bits hi lo text more sub bs.length f.len ≠ 0 then some (p, ownE k bits hi lo text more sub bs.length f.len) else if textOk true (sl nm) = false then some (p, 4) else checkF f 0 p := by
  simp only [checkT, ownE, fields_two]
  by_cases h1 : knownK k = false
  · simp [h1]
  have h1 : knownK k = true := by simpa using h1
  by_cases h2 : zerosOf k bits hi lo text more sub bs.length f.len = false
  · simp [h1, h2]
  have h2 : zerosOf k bits hi lo text more sub bs.length f.len = true := by simpa using h2
  by_cases h3 : ok2 k bits sub bs.length = false
  · simp [h1, h2, h3]
  have h3 : ok2 k bits sub bs.length = true := by simpa using h3
  simp only [h1, h2, h3]
  generalize textOk (k == 11) (sl text) = x
  generalize textOk (k == 11) (sl more) = y
  generalize textOk true (sl nm) = z
  cases x <;> cases y <;> cases z <;> simp

def RChkSaid (d : Nat) : Prop := ∀ t : T, t.wt ≤ d → ∀ (nm : ByteArray), nm.size ≤ 1000000 → ∀ (Sp : Nat → Prop) (w : World) (c : Array Value) (a : Option Addr) (n cp : Nat) (p : List Int), RdT w t c → RdPS Sp w a p → p.length = n → (a = none → cp = 0) → n ≤ cp → n + t.wt ≤ 1000000 →
  Calls Try.prog 45 #[.agg c, .string nm, .slice a n cp] w fun e w' => ∃ a' n' c', e = .returned (.tuple #[.slice a' n' c', .int .i64 (errN (checkT t nm p) : Nat)]) ∧ n' = (errP (checkT t nm p)).length ∧ n' ≤ 9223372036854775807 ∧ RdPS (fun q => Sp q ∨ w.heap.size ≤ q) w' a' (errP (checkT t nm p)) ∧ (a' = none → c' = 0) ∧ Below w.heap.size w w'

theorem rchk_at {d : Nat} (hof : RChkSaid d) {t : T} (hd : t.wt ≤ d) {nm : ByteArray} (hnm : nm.size ≤ 1000000) {wr w5 : World} {c : Array Value} {a : Option Addr} {n cp : Nat} {p : List Int} {R : Option (List Int × Nat)} (hR : R = checkT t nm p) (h : RdT wr t c) (hB : Below wr.heap.size wr w5) (hp : RdPS (fun k => wr.heap.size ≤ k ∧ k < w5.heap.size) w5 a p) (hn : p.length = n) (hc : a = none → cp = 0) (hcp : n ≤ cp) (hb : n + t.wt ≤ 1000000) :
    Calls Try.prog 45 #[.agg c, .string nm, .slice a n cp] w5 fun e w' => ∃ a' n' c', e = .returned (.tuple #[.slice a' n' c', .int .i64 (errN R : Nat)]) ∧ n' = (errP R).length ∧ n' ≤ 9223372036854775807 ∧ RdPS (fun q => wr.heap.size ≤ q) w' a' (errP R) ∧ (a' = none → c' = 0) ∧ Below wr.heap.size wr w' := by
  subst hR
  refine (hof t hd nm hnm _ w5 c a n cp p (h.keep hB) hp hn hc hcp hb).mono ?_
  rintro e w' ⟨a', n', c', h1, h2, h3, h4, h5, hbl⟩
  exact ⟨a', n', c', h1, h2, h3, h4.imp (fun q _ hq => by rcases hq with hq | hq; exact hq.1; exact Nat.le_trans hB.size hq), h5, hB.trans (hbl.mono hB.size)⟩

/-- What stands at the head of each round. -/
def RChkRel (w : World) (kids : F) (c : Array Value) (r : Option (List Int × Nat)) (p : List Int) (i : Value) (wr : World) : Prop :=
  ∃ (j : Nat), i = .int .i64 j ∧ j ≤ kids.len ∧ Hid (r = checkF (kids.drop j) j p) ∧ BoxV wr w.heap.size c ∧ Below w.heap.size w wr

set_option maxRecDepth 100000 in
set_option maxHeartbeats 16000000 in
theorem rchk_step (d : Nat) (hof : RChkSaid d) : RChkSaid (d + 1) := by
  intro t hd nm hnm Sp w c a n0 cp p h hp hn hcp hncp hxl
  obtain ⟨k, bits, hi, lo, text, more, sub, bs, kids⟩ := t
  have hwt : T.wt (.mk k bits hi lo text more sub bs kids) = 2 + text.size + more.size + bs.length + kids.wt := by simp only [T.wt]
  rw [hwt] at hd hxl
  obtain ⟨ab, nb, cb, ak, nk, ck, rfl, -, hrb, hkl, hnk, hks⟩ := h
  have hbl : bs.length = nb := hrb.1
  obtain ⟨R, hR⟩ : ∃ R, R = checkT (.mk k bits hi lo text more sub bs kids) nm p := ⟨_, rfl⟩
  rw [← hR]
  have hRR : R = (if ownE k bits hi lo text more sub nb nk ≠ 0 then some (p, ownE k bits hi lo text more sub nb nk) else if textOk true (sl nm) = false then some (p, 4) else checkF (kids.drop 0) 0 p) := by
    rw [hR, checkT_own, hbl, hkl]; rfl
  have CO := Lib.hid (fun W => rown_calls W k bits hi lo text more sub ab nb cb ak nk ck (by omega) (by omega))
  have C3 := Lib.hid (fun W => named_calls nm W (by omega))
  obtain ⟨E, hE⟩ : ∃ E, E = ownE k bits hi lo text more sub nb nk := ⟨_, rfl⟩
  obtain ⟨o3, ho3⟩ : ∃ x, x = textOk true (sl nm) := ⟨_, rfl⟩
  rw [← hE] at CO hRR
  rw [← ho3] at C3 hRR
  have HRR := Lib.hid hRR
  have HOF := Lib.hid hof
  have HKS := Lib.hid hks
  have HKL := Lib.hid hkl
  have HP := Lib.hid hp
  have HN := Lib.hid hn
  have HCP := Lib.hid hcp
  have HNCP := Lib.hid hncp
  have hn63 : n0 ≤ 1000000 := by omega
  have hnk9 := hnk.1
  have HB0 : Hid (Below w.heap.size w (w.alloc (.cells (valCells k bits hi lo text more sub ab nb cb ak nk ck) 26))) := (Below.refl _ _).alloc (Nat.le_refl _) _
  have HX0 : Hid (BoxV (w.alloc (.cells (valCells k bits hi lo text more sub ab nb cb ak nk ck) 26)) w.heap.size (valCells k bits hi lo text more sub ab nb cb ak nk ck)) := BoxV.new _ _ _
  clear hof hks hkl hp hn hcp hncp hwt hnk hR hRR hE ho3 hrb hbl
  obtain ⟨f0, f1, f2, f3, f4, f5, f6, f7, f8, l0⟩ := HX0.out.nine
  by_cases hE0 : E = 0
  case neg =>
    have HR : Hid (R = some (p, E)) := by show _ = _; rw [HRR.out, if_pos hE0]
    have e1 : ((E : Int) == 0) = false := by simpa using hE0
    have e2 : ((E : Int) != 0) = true := by simpa using hE0
    clear HRR
    go_enter Try.func45, Try.ntmps45
    go_wp2_with fail
    refine (CO.out _).mono ?_
    rintro e w1 ⟨rfl, hb1⟩
    have HB1 : Hid (Below w.heap.size w w1) := HB0.out.trans (hb1.mono HB0.out.size)
    have HX1 := Lib.hid (HX0.out.keep hb1)
    clear hb1 f0 f1 f2 f3 f4 f5 f6 f7 f8 l0
    obtain ⟨f0, f1, f2, f3, f4, f5, f6, f7, f8, l0⟩ := HX1.out.nine
    go_wp2_with fail
    go_ret2
    exact ⟨a, n0, cp, by rw [HR.out]; rfl, by rw [HR.out]; exact HN.out.symm, by omega, by rw [HR.out]; exact (HP.out.keep (KeepS.below HB1.out)).imp (fun _ _ hq => .inl hq), HCP.out, HB1.out⟩
  subst hE0
  cases o3 with
  | false =>
    have HR : Hid (R = some (p, 4)) := by show _ = _; rw [HRR.out]; rfl
    clear HRR
    go_enter Try.func45, Try.ntmps45
    go_wp2_with fail
    refine (CO.out _).mono ?_
    rintro e w1 ⟨rfl, hb1⟩
    have HB1 : Hid (Below w.heap.size w w1) := HB0.out.trans (hb1.mono HB0.out.size)
    have HX1 := Lib.hid (HX0.out.keep hb1)
    clear hb1 f0 f1 f2 f3 f4 f5 f6 f7 f8 l0
    obtain ⟨f0, f1, f2, f3, f4, f5, f6, f7, f8, l0⟩ := HX1.out.nine
    go_wp2_with fail
    refine (C3.out _).mono ?_
    rintro e w2 ⟨rfl, hb2⟩
    have HB2 : Hid (Below w.heap.size w w2) := HB1.out.trans (hb2.mono HB1.out.size)
    have HX2 := Lib.hid (HX1.out.keep hb2)
    clear hb2 f0 f1 f2 f3 f4 f5 f6 f7 f8 l0
    obtain ⟨f0, f1, f2, f3, f4, f5, f6, f7, f8, l0⟩ := HX2.out.nine
    go_wp2_with fail
    go_ret2
    exact ⟨a, n0, cp, by rw [HR.out]; rfl, by rw [HR.out]; exact HN.out.symm, by omega, by rw [HR.out]; exact (HP.out.keep (KeepS.below HB2.out)).imp (fun _ _ hq => .inl hq), HCP.out, HB2.out⟩
  | true =>
  have HG : Hid (R = checkF (kids.drop 0) 0 p) := by show _ = _; rw [HRR.out]; rfl
  clear HRR
  go_enter Try.func45, Try.ntmps45
  go_wp2_with fail
  refine (CO.out _).mono ?_
  rintro e w1 ⟨rfl, hb1⟩
  have HB1 : Hid (Below w.heap.size w w1) := HB0.out.trans (hb1.mono HB0.out.size)
  have HX1 := Lib.hid (HX0.out.keep hb1)
  clear hb1 f0 f1 f2 f3 f4 f5 f6 f7 f8 l0
  obtain ⟨f0, f1, f2, f3, f4, f5, f6, f7, f8, l0⟩ := HX1.out.nine
  go_wp2_with fail
  refine (C3.out _).mono ?_
  rintro e w2 ⟨rfl, hb2⟩
  have HB2 : Hid (Below w.heap.size w w2) := HB1.out.trans (hb2.mono HB1.out.size)
  have HX2 := Lib.hid (HX1.out.keep hb2)
  clear hb2 f0 f1 f2 f3 f4 f5 f6 f7 f8 l0
  obtain ⟨f0, f1, f2, f3, f4, f5, f6, f7, f8, l0⟩ := HX2.out.nine
  go_wp2_with fail
  go_loopw [9] (fun i wr => RChkRel w kids (valCells k bits hi lo text more sub ab nb cb ak nk ck) R p i wr) (fun i _ => nk - (intOf i).toNat)
  case atStart => exact ⟨0, rfl, Nat.zero_le _, HG, HX2.out, HB2.out⟩
  case round =>
    obtain ⟨j, rfl, hj, HGG, hbx, hbw⟩ := hrel
    rw [HKL.out] at hj
    have HBX := Lib.hid hbx
    have HBW := Lib.hid hbw
    have hz : w.heap.size < wr.heap.size := hbx.1
    clear hbx hbw HX0 HX1 HX2 HB1 HB2 f0 f1 f2 f3 f4 f5 f6 f7 f8 l0
    have c8 : wr.cell? ⟨w.heap.size, 8, none⟩ = some (.slice ak nk ck) := (HBX.out.2 8 (by omega)).1
    by_cases hlt : j < nk
    · obtain ⟨⟨n, tt⟩, hx⟩ := F.get_some kids j (by rw [HKL.out]; exact hlt)
      have hwg := F.wt_get kids j n tt hx
      have hst := checkF_step kids j n tt p hx
      obtain ⟨b, o, k', bits', hi', lo', text', more', sub', bs', kids', ab', nb', cb', ak', nk', ck', rfl, rfl, e1, e2, e3, g0, g1, g2, g3, g4, g5, g6, g7, g8, g9⟩ := ((HKS.out.keep HBW.out).at hx).cells
      have E3 := Lib.hid e3
      have hj0 : (0 : Int) ≤ (j : Int) := by omega
      have hj1 : (j : Int) < (nk : Int) := by omega
      have hw1 : (T.mk k' bits' hi' lo' text' more' sub' bs' kids').wt ≤ d := by omega
      have hnn : n.size ≤ 1000000 := by omega
      have hn2 : n0 + 1 + (T.mk k' bits' hi' lo' text' more' sub' bs' kids').wt ≤ 1000000 := by omega
      obtain ⟨R6, hR6⟩ : ∃ R6, R6 = checkT (T.mk k' bits' hi' lo' text' more' sub' bs' kids') n (p ++ [(j : Int)]) := ⟨_, rfl⟩
      rw [← hR6] at hst
      have HGN : Hid (R = orE R6 (checkF (kids.drop (j + 1)) (j + 1) p)) := HGG.out.trans hst
      have HR6 := Lib.hid hR6
      have HE : Hid (∀ q e, R6 = some (q, e) → e = 1 ∨ e = 4 ∨ e = 5) := by
        show ∀ q e, _
        intro q e h6
        exact checkT_err _ _ _ q e (hR6.symm.trans h6)
      have HSS : Hid (∀ W, Below wr.heap.size wr W → Hid (Below wr.heap.size wr W) ∧ W.cell? ⟨w.heap.size, 8, none⟩ = some (.slice (some ⟨b, o, none⟩) nk ck) ∧ W.cell? ⟨b, o + j * 10, none⟩ = some (.string n) ∧ W.cell? ⟨b, o + j * 10 + 1, none⟩ = some (.int .i64 k') ∧ W.cell? ⟨b, o + j * 10 + 2, none⟩ = some (.int .u64 (bits' : Nat)) ∧ W.cell? ⟨b, o + j * 10 + 3, none⟩ = some (.int .u64 (hi' : Nat)) ∧ W.cell? ⟨b, o + j * 10 + 4, none⟩ = some (.int .u64 (lo' : Nat)) ∧ W.cell? ⟨b, o + j * 10 + 5, none⟩ = some (.string text') ∧ W.cell? ⟨b, o + j * 10 + 6, none⟩ = some (.string more') ∧ W.cell? ⟨b, o + j * 10 + 7, none⟩ = some (.int .i64 sub') ∧ W.cell? ⟨b, o + j * 10 + 8, none⟩ = some (.slice ab' nb' cb') ∧ W.cell? ⟨b, o + j * 10 + 9, none⟩ = some (.slice ak' nk' ck')) := by
        show ∀ W, _
        intro W hW
        exact ⟨hW, cell_below hW c8, cell_below hW g0, cell_below hW g1, cell_below hW g2, cell_below hW g3, cell_below hW g4, cell_below hW g5, cell_below hW g6, cell_below hW g7, cell_below hW g8, cell_below hW g9⟩
      have HPW : Hid (RdPS Sp wr a p) := HP.out.keep (KeepS.below HBW.out)
      clear hx hst e3 e1 e2 hR6
      go_wp2_with fail
      go_region_held3 (fun W => Hid (Below wr.heap.size wr W) ∧ W.cell? ⟨w.heap.size, 8, none⟩ = some (.slice (some ⟨b, o, none⟩) nk ck) ∧ W.cell? ⟨b, o + j * 10, none⟩ = some (.string n) ∧ W.cell? ⟨b, o + j * 10 + 1, none⟩ = some (.int .i64 k') ∧ W.cell? ⟨b, o + j * 10 + 2, none⟩ = some (.int .u64 (bits' : Nat)) ∧ W.cell? ⟨b, o + j * 10 + 3, none⟩ = some (.int .u64 (hi' : Nat)) ∧ W.cell? ⟨b, o + j * 10 + 4, none⟩ = some (.int .u64 (lo' : Nat)) ∧ W.cell? ⟨b, o + j * 10 + 5, none⟩ = some (.string text') ∧ W.cell? ⟨b, o + j * 10 + 6, none⟩ = some (.string more') ∧ W.cell? ⟨b, o + j * 10 + 7, none⟩ = some (.int .i64 sub') ∧ W.cell? ⟨b, o + j * 10 + 8, none⟩ = some (.slice ab' nb' cb') ∧ W.cell? ⟨b, o + j * 10 + 9, none⟩ = some (.slice ak' nk' ck')) (first | with_reducible exact HSS.out _ HB6.out | with_reducible exact HSS.out _ HB5.out | ((with_reducible refine HSS.out _ ?_); (repeat' (first | with_reducible exact HB6.out | with_reducible exact HB5.out | with_reducible apply Below.drew | with_reducible exact Below.refl _ _)); done) | fail) ((first | (go_at_call 68; with_reducible refine (longer_at Sp HN.out HCP.out hn63 j ?_ HPW.out).mono ?_; (case _ => (repeat' (first | with_reducible apply Below.drew | with_reducible exact Below.refl _ _))); rintro e w5 ⟨a5, c5, rfl, hp5, hc5, hnc5, hb5⟩; (have HREC := Lib.hid (rchk_at HOF.out hw1 hnn HR6.out E3.out hb5 hp5 (by simp [HN.out]) hc5 hnc5 hn2)); (have HB5 := Lib.hid hb5); clear hp5 hc5 hb5 hnc5) | (go_at_call 45; (with_reducible refine HREC.out.mono ?_); rintro e w6 ⟨a6, N6, c6, rfl, hN6, hl6, hp6, hc6, hb6⟩; obtain ⟨E6, hE6⟩ : ∃ E, E = errN R6 := ⟨_, rfl⟩; rw [← hE6]; (have HE6 := Lib.hid hE6); (have HP6 := Lib.hid hp6); (have HC6 := Lib.hid hc6); (have HN6 := Lib.hid hN6); (have HB6 := Lib.hid hb6); clear hp6 hb6 hN6 hE6 hc6) | fail))
      all_goals
        clear c8 g0 g1 g2 g3 g4 g5 g6 g7 g8 g9
        clear ‹Hid (Below wr.heap.size wr w6) ∧ _›
        have HB6w : Hid (Below w.heap.size w w6) := HBW.out.trans (HB6.out.mono HBW.out.size)
        have HBX6 := Lib.hid (HBX.out.keep HB6.out)
        cases R6 with
        | none =>
          obtain rfl : E6 = 0 := HE6.out
          have hG : Hid (R = checkF (kids.drop (j + 1)) (j + 1) p) := HGN.out
          go_wp2_with fail
          go_roundw
          case rel => exact ⟨j + 1, by simp, by rw [HKL.out]; omega, hG, HBX6.out, HB6w.out⟩
          case measure => simp [intOf]; omega
        | some q6 =>
          obtain ⟨q6, e6⟩ := q6
          have he6 := HE.out q6 e6 rfl
          obtain rfl : E6 = e6 := HE6.out
          have hne : ((E6 : Int) != 0) = true := by simp; omega
          have hG : Hid (R = some (q6, E6)) := HGN.out
          go_wp2_with fail
          go_ret2
          exact ⟨a6, N6, c6, by rw [hG.out]; rfl, by rw [hG.out]; exact HN6.out, hl6, by rw [hG.out]; exact HP6.out.imp (fun q _ hq => .inr (Nat.le_trans HBW.out.size hq)), HC6.out, HB6w.out⟩
    · have hend := HGG.out
      rw [checkF_end kids j p (by rw [HKL.out]; omega)] at hend
      subst hend
      go_wp2_with fail
      go_ret2
      exact ⟨none, 0, 0, rfl, rfl, by omega, rdps_nil _ _, fun _ => rfl, HBW.out⟩

theorem rchk_all : ∀ d, RChkSaid d
  | 0 => fun t hd => by cases t; simp only [T.wt] at hd; omega
  | d + 1 => rchk_step d (rchk_all d)

end Go.Proofs.Ytkcfkdmffbhljaa

namespace Go.Proofs.Ytkcfkdmffbhljaa
open Go.RowKit
set_option linter.unusedVariables false
set_option linter.unusedSimpArgs false

/-- What is wrong of a tree. -/
def chk (t : T) : Option (List Int × Nat) := checkT t ⟨#[]⟩ []

def ChkOut (t : T) (w : World) (e : Ending) (w' : World) : Prop := ∃ a n c, e = .returned (.tuple #[.slice a n c, .int .i64 (errN (chk t) : Nat)]) ∧ n = (errP (chk t)).length ∧ n ≤ 9223372036854775807 ∧ RdPS (fun q => w.heap.size ≤ q) w' a (errP (chk t)) ∧ (a = none → c = 0) ∧ Below w.heap.size w w'

theorem no_own (k : Nat) : (Value.slice none 0 0).ownBlock ≠ some k := fun h => nomatch h

set_option maxRecDepth 100000 in
set_option maxHeartbeats 2000000 in
theorem tcheck_calls (t : T) (w : World) (c : Array Value) (h : RdT w t c) (hw : t.wt ≤ 900000) : Calls Try.prog 40 #[.agg c] w (ChkOut t w) := by
  obtain ⟨k, bits, hi, lo, text, more, sub, ab, nb, cb, ak, nk, ck, rfl⟩ := h.shape
  have hb : Below w.heap.size w (w.alloc (.cells (valCells k bits hi lo text more sub ab nb cb ak nk ck) 26)) := (Below.refl _ _).alloc (Nat.le_refl _) _
  have C := Lib.hid (tchk_all t.wt t (Nat.le_refl _) ⟨#[]⟩ (by decide) w _ w.heap.size _ (.slice none 0 0) [] h hb (Nat.le_refl _) hb.size (World.ownsRow_nil _ _ _ _) (by simp; omega))
  have HB := Lib.hid hb
  clear h hw hb
  go_enter Try.func40, Try.ntmps40
  go_wp2_with fail
  refine C.out.mono ?_
  rintro e w1 ⟨a, n, cc, rfl, ho, -, hch⟩
  have HB1 : Hid (Below w.heap.size w w1) := HB.out.trans ((hch.below (Nat.le_refl _) (fun k hk => absurd hk (no_own k))).mono HB.out.size)
  have HF : Hid (∀ q, (Value.slice a n cc).ownBlock = some q → w.heap.size ≤ q) := fun q hq => by
    have := (owns_lt ho q hq).1
    simpa using Nat.le_trans HB.out.size this
  obtain ⟨a2, c2, he, hr, hc, -, hm⟩ := ho.rd
  simp only [Value.slice.injEq] at he
  obtain ⟨rfl, rfl, rfl⟩ := he
  have HR := Lib.hid hr
  obtain ⟨E, hE⟩ : ∃ E, E = errN (checkT t ⟨#[]⟩ []) := ⟨_, rfl⟩
  obtain ⟨n, hn⟩ : ∃ n, n = (errP (checkT t ⟨#[]⟩ [])).length := ⟨_, rfl⟩
  rw [← hE, ← hn]
  rw [← hn] at hm
  have HE := Lib.hid hE
  have HN := Lib.hid hn
  clear ho hch C HB hE hr hn
  go_wp2_with fail
  go_ret2
  exact ⟨a, n, cc, by unfold chk; rw [← HE.out]; rfl, HN.out, hm, HR.out.imp (fun q _ hq => HF.out q hq), hc, HB1.out⟩

set_option maxRecDepth 100000 in
set_option maxHeartbeats 2000000 in
theorem rcheck2_calls (t : T) (w : World) (c : Array Value) (h : RdT w t c) (hw : t.wt ≤ 900000) : Calls Try.prog 29 #[.agg c] w (ChkOut t w) := by
  obtain ⟨k, bits, hi, lo, text, more, sub, ab, nb, cb, ak, nk, ck, rfl⟩ := h.shape
  have hb : Below w.heap.size w (w.alloc (.cells (valCells k bits hi lo text more sub ab nb cb ak nk ck) 26)) := (Below.refl _ _).alloc (Nat.le_refl _) _
  have C := Lib.hid (rchk_all t.wt t (Nat.le_refl _) ⟨#[]⟩ (by decide) (fun _ => False) _ _ none 0 0 [] (h.keep hb) (rdps_nil _ _) rfl (fun _ => rfl) (Nat.le_refl _) (by omega))
  have HB := Lib.hid hb
  clear h hw hb
  go_enter Try.func29, Try.ntmps29
  go_wp2_with fail
  refine C.out.mono ?_
  rintro e w1 ⟨a, n, cc, rfl, hn, hm, hr, hc, hbl⟩
  have HB1 : Hid (Below w.heap.size w w1) := HB.out.trans (hbl.mono HB.out.size)
  have HR := Lib.hid hr
  have HN := Lib.hid hn
  obtain ⟨E, hE⟩ : ∃ E, E = errN (checkT t ⟨#[]⟩ []) := ⟨_, rfl⟩
  rw [← hE]
  have HE := Lib.hid hE
  clear hbl C hE hr hn
  go_wp2_with fail
  go_ret2
  exact ⟨a, n, cc, by unfold chk; rw [← HE.out]; rfl, HN.out, hm, HR.out.imp (fun q _ hq => by rcases hq with hq | hq; exact hq.elim; exact Nat.le_trans HB.out.size hq), hc, HB1.out⟩

end Go.Proofs.Ytkcfkdmffbhljaa
