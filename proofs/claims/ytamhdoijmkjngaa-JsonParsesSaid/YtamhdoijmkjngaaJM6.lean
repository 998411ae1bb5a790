/- Two lists of numbers held against each other; two faults. The reference's parser as it lies; its step and bad, walked. The reference's parser: step and bad by what is at hand; value, walked over a contract of row. What the loop of the reference's row carries; how row ends. The reference's row, walked: kind = 2. The reference's row, walked: kind = 4. The reference's parser of JSON, walked. JsonParses: the walk. The law JsonParses holds for every input: its walk, lifted to the given statement. -/
import Derived.Test.YtamhdoijmkjngaaRows
import Derived.Test.YtamhdoijmkjngaaLib
import Derived.Test.YtamhdoijmkjngaaJM1
import Derived.Test.YtamhdoijmkjngaaJM5
import Derived.Deep.RegionHeld3
import Derived.Deep.Cut
import Derived.Test.YtamhdoijmkjngaaJM2
import Derived.Test.YtamhdoijmkjngaaJSame
import Derived.Test.YtamhdoijmkjngaaOpen
namespace Go.Proofs.Ytamhdoijmkjngaa
open Go.RowKit
set_option linter.unusedVariables false
set_option linter.unusedSimpArgs false

theorem RdI.at {k} {w : World} {a len l} (h : RdI k w a len l) (i : Nat) (hi : i < len) : ∃ b o, a = some ⟨b, o, none⟩ ∧ w.cell? ⟨b, o + i, none⟩ = some (.int k (l.getD i 0)) := h.2.2.2 i hi

/-- The number at a place. -/
def iAt (l : List Int) (i : Nat) : Int := l.getD i 0

theorem RdI.at' {k} {w : World} {a len l} (h : RdI k w a len l) (i : Nat) (hi : i < len) : ∃ b o, a = some ⟨b, o, none⟩ ∧ w.cell? ⟨b, o + i, none⟩ = some (.int k (iAt l i)) := h.2.2.2 i hi

theorem drew_more {w : World} {a b : Nat} : ∃ n, (w.drewN a).drewN b = w.drewN n := ⟨_, World.drewN_drewN ..⟩
theorem drew_more' {w : World} {a b : Nat} : ∃ n, w.drewN n = (w.drewN a).drewN b := ⟨_, (World.drewN_drewN ..).symm⟩

theorem take_eq_step {l m : List Int} {k : Nat} (hl : k < l.length) (hm : k < m.length) (h : l.take k = m.take k) (e : iAt l k = iAt m k) : l.take (k + 1) = m.take (k + 1) := by
  rw [List.take_succ_eq_append_getElem hl, List.take_succ_eq_append_getElem hm, h]
  unfold iAt at e
  rw [List.getD_eq_getElem?_getD, List.getD_eq_getElem?_getD, List.getElem?_eq_getElem hl, List.getElem?_eq_getElem hm] at e
  simp at e
  rw [e]

set_option maxRecDepth 100000 in
set_option maxHeartbeats 1000000 in
theorem same_ints (a1 a2 : Option Addr) (n1 n2 c1 c2 : Nat) (w : World) (l1 l2 : List Int) (h1 : RdI .i64 w a1 n1 l1) (h2 : RdI .i64 w a2 n2 l2) :
    Calls Try.prog 52 #[.slice a1 n1 c1, .slice a2 n2 c2] w fun e w' => e = .returned (.bool (decide (l1 = l2))) ∧ ∃ n, w.drewN n = w' := by
  have H1 := Lib.hid h1
  have H2 := Lib.hid h2
  have m1 := h1.2.1
  have m2 := h2.2.1
  clear h1 h2
  by_cases hn : n1 = n2
  · subst hn
    go_enter Try.func52, Try.ntmps52
    go_wp2
    go_loopw [5] (fun i wr => ∃ k : Nat, k ≤ n1 ∧ i = .int .i64 k ∧ l1.take k = l2.take k ∧ ∃ n, wr = w.drewN n) (fun i _ => n1 - (intOf i).toNat)
    case atStart => exact ⟨0, by omega, rfl, by simp, 0, rfl⟩
    case round =>
      obtain ⟨k, hk, rfl, ht, nd, rfl⟩ := hrel
      have HT := Lib.hid ht
      clear ht
      by_cases hlt : k < n1
      · obtain ⟨b1, o1, rfl, d1⟩ := H1.out.at' k hlt
        obtain ⟨b2, o2, rfl, d2⟩ := H2.out.at' k hlt
        by_cases he : iAt l1 k = iAt l2 k
        · have HE := Lib.hid (take_eq_step (by rw [H1.out.1]; exact hlt) (by rw [H2.out.1]; exact hlt) HT.out he)
          have hb : (iAt l1 k != iAt l2 k) = false := by simp [he]
          clear he
          go_wp2
          go_quiet (fail)
          go_wp2
          go_roundw
          case rel => exact ⟨k + 1, by omega, by simp, HE.out, by first | exact ⟨_, rfl⟩ | exact drew_more⟩
          case measure => simp [intOf]; omega
        · have HE : Hid (decide (l1 = l2) = false) := by
            show _ = false
            rw [decide_eq_false_iff_not]
            rintro rfl
            exact he rfl
          have hb : (iAt l1 k != iAt l2 k) = true := by simp [he]
          clear he
          go_wp2
          go_quiet (fail)
          go_wp2
          go_ret
          exact ⟨by rw [HE.out]; rfl, by first | exact ⟨_, rfl⟩ | exact drew_more'⟩
      · have HE : Hid (decide (l1 = l2) = true) := by
          show _ = true
          rw [decide_eq_true_eq]
          have := HT.out
          rwa [List.take_of_length_le (by rw [H1.out.1]; omega), List.take_of_length_le (by rw [H2.out.1]; omega)] at this
        go_wp2
        go_ret
        exact ⟨by rw [HE.out]; rfl, by first | exact ⟨_, rfl⟩ | exact drew_more'⟩
  · have HE : Hid (decide (l1 = l2) = false) := by
      show _ = false
      rw [decide_eq_false_iff_not]
      rintro rfl
      exact hn (H1.out.1.symm.trans H2.out.1)
    have hb : ((n1 : Int) != (n2 : Int)) = true := by simp; omega
    go_enter Try.func52, Try.ntmps52
    go_wp2
    go_ret
    exact ⟨by rw [HE.out]; rfl, 0, rfl⟩

set_option maxRecDepth 100000 in
set_option maxHeartbeats 1000000 in
/-- Two faults without paths, alike. -/
theorem same_fault (e p : Int) (w : World) : Calls Try.prog 28 #[.agg #[.int .i64 e, .int .i64 p, .slice none 0 0], .agg #[.int .i64 e, .int .i64 p, .slice none 0 0]] w fun r w' => r = .returned (.bool true) ∧ Below w.heap.size w w' := by
  have b1 : (e == e) = true := by simp
  have b2 : (p == p) = true := by simp
  go_enter Try.func28, Try.ntmps28
  go_wp2_with (go_at_call 52; refine (same_ints none none 0 0 0 0 _ [] [] ⟨rfl, by omega, by simp, fun i hi => absurd hi (Nat.not_lt_zero i)⟩ ⟨rfl, by omega, by simp, fun i hi => absurd hi (Nat.not_lt_zero i)⟩).mono ?_; rintro e w' ⟨rfl, nd, rfl⟩)
  go_ret
  exact ⟨rfl, Below_drewN (((Below.refl w.heap.size w).alloc (Nat.le_refl _) _).alloc (by simp) _)⟩

end Go.Proofs.Ytamhdoijmkjngaa

namespace Go.Proofs.Ytamhdoijmkjngaa
open Go.RowKit
set_option linter.unusedVariables false
set_option linter.unusedSimpArgs false

/-- A parser: its text, how deep it may go, the token at hand, the first error. -/
structure BoxP (w : World) (pb : Nat) (s : ByteArray) (dep : Nat) (k a e : Int) (t : ByteArray) (x b : Int) : Prop where
  c0 : w.cell? ⟨pb, 0, none⟩ = some (.string s)
  c1 : w.cell? ⟨pb, 1, none⟩ = some (.int .i64 (dep : Nat))
  c2 : w.cell? ⟨pb, 2, none⟩ = some (.int .i64 k)
  c3 : w.cell? ⟨pb, 3, none⟩ = some (.int .i64 a)
  c4 : w.cell? ⟨pb, 4, none⟩ = some (.int .i64 e)
  c5 : w.cell? ⟨pb, 5, none⟩ = some (.string t)
  c6 : w.cell? ⟨pb, 6, none⟩ = some (.int .i64 x)
  c7 : w.cell? ⟨pb, 7, none⟩ = some (.int .i64 b)
  c8 : w.cell? ⟨pb, 8, none⟩ = some (.slice none 0 0)
  f2 : w.frozen? ⟨pb, 2, none⟩ = false
  f3 : w.frozen? ⟨pb, 3, none⟩ = false
  f4 : w.frozen? ⟨pb, 4, none⟩ = false
  f5 : w.frozen? ⟨pb, 5, none⟩ = false
  f6 : w.frozen? ⟨pb, 6, none⟩ = false
  f7 : w.frozen? ⟨pb, 7, none⟩ = false
  f8 : w.frozen? ⟨pb, 8, none⟩ = false
  lt : pb < w.heap.size
  er : (-9223372036854775808 ≤ e ∧ e ≤ 9223372036854775807)

theorem BoxP.keep {w w' : World} {pb : Nat} {s : ByteArray} {dep : Nat} {k a e : Int} {t : ByteArray} {x b : Int} (hc : Chg (fun k => k ≠ pb) w w') (h : BoxP w pb s dep k a e t x b) : BoxP w' pb s dep k a e t x b := by
  constructor
  · exact hc.cell (by simp) h.c0
  · exact hc.cell (by simp) h.c1
  · exact hc.cell (by simp) h.c2
  · exact hc.cell (by simp) h.c3
  · exact hc.cell (by simp) h.c4
  · exact hc.cell (by simp) h.c5
  · exact hc.cell (by simp) h.c6
  · exact hc.cell (by simp) h.c7
  · exact hc.cell (by simp) h.c8
  · rw [hc.frozen (by simp) h.lt]; exact h.f2
  · rw [hc.frozen (by simp) h.lt]; exact h.f3
  · rw [hc.frozen (by simp) h.lt]; exact h.f4
  · rw [hc.frozen (by simp) h.lt]; exact h.f5
  · rw [hc.frozen (by simp) h.lt]; exact h.f6
  · rw [hc.frozen (by simp) h.lt]; exact h.f7
  · rw [hc.frozen (by simp) h.lt]; exact h.f8
  · exact Nat.lt_of_lt_of_le h.lt hc.size
  · exact h.er
theorem BoxP.below {w w' : World} {pb : Nat} {s : ByteArray} {dep : Nat} {k a e : Int} {t : ByteArray} {x b : Int} (h : BoxP w pb s dep k a e t x b) (hb : Below w.heap.size w w') : BoxP w' pb s dep k a e t x b := h.keep (Chg.of_below hb)

def TokR (w : World) (g : Nat) (k a e : Int) (t : ByteArray) : Prop := w.cell? ⟨g, 0, none⟩ = some (.int .i64 k) ∧ w.cell? ⟨g, 1, none⟩ = some (.int .i64 a) ∧ w.cell? ⟨g, 2, none⟩ = some (.int .i64 e) ∧ w.cell? ⟨g, 3, none⟩ = some (.string t)
def ErrR (w : World) (g : Nat) (x b : Int) : Prop := w.cell? ⟨g, 0, none⟩ = some (.int .i64 x) ∧ w.cell? ⟨g, 1, none⟩ = some (.int .i64 b) ∧ w.cell? ⟨g, 2, none⟩ = some (.slice none 0 0)
def badX (k c : Int) : Int := if k = 1 then 2 else c
def SPost (x : Int) (A B : Prop) : Prop := (x = 0 → A) ∧ (x ≠ 0 → B)
theorem spost_0 {A B : Prop} (h : A) : SPost 0 A B := ⟨fun _ => h, fun e => absurd rfl e⟩
theorem spost_1 {x : Int} {A B : Prop} (hx : x ≠ 0) (h : B) : SPost x A B := ⟨fun e => absurd e hx, fun _ => h⟩
/-- Behind the call of Next: the token lies in g2, the error in g3. -/
def SNx (w : World) (k a e : Int) (t : ByteArray) (x b : Int) (p2 p3 : Value) (W : World) : Prop :=
  ∃ g2 g3, p2 = .pointer (some ⟨g2, 0, none⟩) ∧ p3 = .pointer (some ⟨g3, 0, none⟩) ∧ TokR W g2 k a e t ∧ ErrR W g3 x b ∧ Below w.heap.size w W ∧ w.heap.size ≤ g2 ∧ w.heap.size ≤ g3
theorem snx_mk {w W : World} {g2 g3 : Nat} {k a e : Int} {t : ByteArray} {x b : Int} (hX : Below w.heap.size w W) (h1 : TokR W g2 k a e t) (h2 : ErrR W g3 x b) (h5 : w.heap.size ≤ g2) (h6 : w.heap.size ≤ g3) :
    SNx w k a e t x b (.pointer (some ⟨g2, 0, none⟩)) (.pointer (some ⟨g3, 0, none⟩)) W := ⟨g2, g3, rfl, rfl, h1, h2, hX, h5, h6⟩

set_option maxRecDepth 100000 in
set_option maxHeartbeats 8000000 in
theorem rstep_calls (s : ByteArray) (hs : s.size ≤ 1000000) (pb dep : Nat) (k a e : Int) (t : ByteArray) (x b : Int) (w : World) (h : BoxP w pb s dep k a e t x b) (k2 a2 e2 : Int) (t2 : ByteArray) (x2 b2 : Int) (hV : tokV (nextI (sl s) e) = .agg #[.int .i64 k2, .int .i64 a2, .int .i64 e2, .string t2]) (hE : errV (nextI (sl s) e) = .agg #[.int .i64 x2, .int .i64 b2, .slice none 0 0]) (he2 : (-9223372036854775808 ≤ e2 ∧ e2 ≤ 9223372036854775807)) :
    Calls Try.prog 57 #[.pointer (some ⟨pb, 0, none⟩)] w fun r w' => r = .returned (.tuple #[]) ∧ PChg pb w w' ∧ SPost x (BoxP w' pb s dep k2 a2 e2 t2 x2 b2) (BoxP w' pb s dep k a e t x b) := by
  have CN := fun W => Lib.hid (rnext_calls s hs e h.er W)
  unfold LexOut at CN
  rw [hV, hE] at CN
  clear hV hE
  have hlt := h.lt
  have c0 := h.c0
  have c4 := h.c4
  have D0 := Lib.hid (show w.drew.cell? ⟨pb, 0, none⟩ = some (.string s) from h.c0)
  have D4 := Lib.hid (show w.drew.cell? ⟨pb, 4, none⟩ = some (.int .i64 e) from h.c4)
  have HP0 := Lib.hid h
  clear h
  go_enter Try.func57, Try.ntmps57
  go_upto_region 0 with fail
  go_cut [2, 3] from 4 (fun p2 p3 W => SNx w k2 a2 e2 t2 x2 b2 p2 p3 W)
  case first =>
    go_region_held3 (fun w' => w'.cell? ⟨pb, 0, none⟩ = some (.string s) ∧ w'.cell? ⟨pb, 4, none⟩ = some (.int .i64 e)) (first | with_reducible exact ⟨D0.out, D4.out⟩ | with_reducible exact ⟨q0, q4⟩ | ((with_reducible refine ⟨?_, ?_⟩) <;> (repeat' (first | (with_reducible exact q0) | (with_reducible exact q4) | (with_reducible exact D0.out) | (with_reducible exact D4.out) | (with_reducible exact c0) | (with_reducible exact c4) | (with_reducible apply cell_dr) | (with_reducible apply cell_alloc) | (with_reducible apply cell_setN) | (simp only []; omega)))) | fail) ((go_at_call 27; refine (CN _).out.mono ?_; rintro e' w' ⟨rfl, hb⟩; (have hbw : Below w.heap.size w w' := Below.trans (by (repeat' (first | with_reducible exact Below.refl _ _ | with_reducible apply Below.drew | with_reducible refine Below.alloc ?_ (by first | omega | (simp; done) | (simp; omega)) _))) (hb.mono (by first | omega | (simp; done) | (simp; omega)))); (have PW := HP0.out.below hbw); (have q0 := PW.c0); (have q4 := PW.c4); (have hpw := PW.lt); (have hsw := hbw.size); (try (refine tok_cut (after_tok hb (w.heap.size)) ?_ ?_ (fun tz => ?_); (case _ => (first | (simp; done) | (simp; omega))); (case _ => (refine ⟨?_, ?_, ?_, ?_, ?_, ?_, ?_, ?_⟩ <;> (simp [go_sem]; done))); (obtain ⟨⟨_, _, _, _, _, _, _, _⟩, _⟩ := tz))); (try (refine tok_cut (after_tok hb (w.heap.size + 1)) ?_ ?_ (fun tz => ?_); (case _ => (first | (simp; done) | (simp; omega))); (case _ => (refine ⟨?_, ?_, ?_, ?_, ?_, ?_, ?_, ?_⟩ <;> (simp [go_sem]; done))); (obtain ⟨⟨_, _, _, _, _, _, _, _⟩, _⟩ := tz))); (try (refine tok_cut (after_err hb (w.heap.size)) ?_ ?_ (fun tz => ?_); (case _ => (first | (simp; done) | (simp; omega))); (case _ => (refine ⟨?_, ?_, ?_, ?_, ?_, ?_⟩ <;> (simp [go_sem]; done))); (obtain ⟨⟨_, _, _, _, _, _⟩, _⟩ := tz))); (try (refine tok_cut (after_err hb (w.heap.size + 1)) ?_ ?_ (fun tz => ?_); (case _ => (first | (simp; done) | (simp; omega))); (case _ => (refine ⟨?_, ?_, ?_, ?_, ?_, ?_⟩ <;> (simp [go_sem]; done))); (obtain ⟨⟨_, _, _, _, _, _⟩, _⟩ := tz))); skip))
    all_goals
      go_wp2_with fail
      go_meet
      case rel =>
        refine snx_mk ?_ ?_ ?_ ?_ ?_
        · (repeat' (first | with_reducible exact hbw | with_reducible refine Below.setCell ?_ (by first | omega | (simp; done) | (simp; omega)) _ | with_reducible refine Below.alloc ?_ (by first | omega | (simp; done) | (simp; omega)) _))
        · simp [TokR, go_sem, *]
        · simp [ErrR, go_sem, *]
        · first | omega | (simp; done) | (simp; omega)
        · first | omega | (simp; done) | (simp; omega)
  case rest =>
    obtain ⟨g2, g3, rfl, rfl, tc, ec, hbW, l2, l3⟩ := hcut
    have HPW := Lib.hid (HP0.out.below hbW)
    have c6 := HPW.out.c6
    have hchg : PChg pb w wc := Chg.of_below hbW
    clear CN D0 D4 HP0 c0 c4
    by_cases hx : x = 0
    · subst hx
      obtain ⟨t0, t1, t3, t4⟩ := tc
      obtain ⟨u0, u1, u2⟩ := ec
      obtain ⟨_, _, _, _, _, _, _, _, _, f2, f3, f4, f5, f6, f7, f8, hlt2, _⟩ := HPW.out
      have n1 : ¬ g2 = pb := by omega
      have m1 : ¬ pb = g2 := by omega
      have n2 : ¬ g3 = pb := by omega
      have m2 : ¬ pb = g3 := by omega
      go_wp2_with fail
      go_region_held3 (fun W => W.cell? ⟨g2, 0, none⟩ = some (.int .i64 k2) ∧ W.cell? ⟨g2, 1, none⟩ = some (.int .i64 a2) ∧ W.cell? ⟨g2, 2, none⟩ = some (.int .i64 e2) ∧ W.cell? ⟨g2, 3, none⟩ = some (.string t2) ∧ W.cell? ⟨g3, 0, none⟩ = some (.int .i64 x2) ∧ W.cell? ⟨g3, 1, none⟩ = some (.int .i64 b2) ∧ W.cell? ⟨g3, 2, none⟩ = some (.slice none 0 0)) (go_keep) (fail)
      all_goals
        go_wp2_with fail
        go_end0
        refine ⟨rfl, ?_, spost_0 ?_⟩
        · (repeat' (first | with_reducible exact hchg | with_reducible apply Chg.drew | with_reducible refine Chg.setCell ?_ (fun h => ?_) _))
          all_goals first | rfl | (simp only [] at h; omega)
        · have p0 := HPW.out.c0
          have p1 := HPW.out.c1
          constructor
          all_goals first | exact he2 | (simp [go_sem, *]; done) | (simp; omega)
    · have hx2 : (x == 0) = false := by simpa using hx
      go_wp2_with fail
      go_end0
      exact ⟨rfl, hchg, spost_1 hx HPW.out⟩

set_option maxRecDepth 100000 in
set_option maxHeartbeats 8000000 in
theorem rbad_calls (s : ByteArray) (pb dep : Nat) (k a e : Int) (t : ByteArray) (x b : Int) (w : World) (h : BoxP w pb s dep k a e t x b) (c : Int) :
    Calls Try.prog 59 #[.pointer (some ⟨pb, 0, none⟩), .int .i64 c] w fun r w' => r = .returned (.tuple #[]) ∧ PChg pb w w' ∧ SPost x (BoxP w' pb s dep k a e t (badX k c) a) (BoxP w' pb s dep k a e t x b) := by
  have H := Lib.hid h
  obtain ⟨c0, c1, c2, c3, c4, c5, c6, c7, c8, f2, f3, f4, f5, f6, f7, f8, hlt, her⟩ := h
  by_cases hx : x = 0
  · subst hx
    by_cases hk : k = 1
    · subst hk
      rw [show badX 1 c = 2 from rfl]
      go_enter Try.func59, Try.ntmps59
      go_wp2_with fail
      go_end0
      refine ⟨rfl, ?_, spost_0 ?_⟩
      · (repeat' (first | with_reducible exact Chg.refl _ _ | with_reducible apply Chg.drew | with_reducible refine Chg.setCell ?_ (fun h => ?_) _))
        all_goals rfl
      · constructor
        all_goals first | exact her | (simp [go_sem, *]; done) | (simp; omega)
    · have hk2 : (k == 1) = false := by simpa using hk
      rw [show badX k c = c from if_neg hk]
      go_enter Try.func59, Try.ntmps59
      go_wp2_with fail
      go_end0
      refine ⟨rfl, ?_, spost_0 ?_⟩
      · (repeat' (first | with_reducible exact Chg.refl _ _ | with_reducible apply Chg.drew | with_reducible refine Chg.setCell ?_ (fun h => ?_) _))
        all_goals rfl
      · constructor
        all_goals first | exact her | (simp [go_sem, *]; done) | (simp; omega)
  · have hx2 : (x == 0) = false := by simpa using hx
    go_enter Try.func59, Try.ntmps59
    go_wp2_with fail
    go_end0
    exact ⟨rfl, Chg.refl _ _, spost_1 hx H.out⟩

end Go.Proofs.Ytamhdoijmkjngaa

namespace Go.Proofs.Ytamhdoijmkjngaa
open Go.RowKit
set_option linter.unusedVariables false
set_option linter.unusedSimpArgs false

/-- The parser behind a step: the token, or the error. -/
def StZ (w : World) (pb : Nat) (s : ByteArray) (dep : Nat) : LexR → Prop
  | .tok kd a e t => BoxP w pb s dep (kd : Nat) (a : Nat) (e : Nat) (txt t) 0 0
  | .err x b => 1 ≤ x ∧ x ≤ 10 ∧ BoxP w pb s dep 0 0 0 ⟨#[]⟩ (x : Nat) (b : Nat)
/-- An error stands, whatever token is at hand. -/
def StE (w : World) (pb : Nat) (s : ByteArray) (dep x b : Nat) : Prop := 1 ≤ x ∧ x ≤ 10 ∧ ∃ k a e t, BoxP w pb s dep k a e t (x : Nat) (b : Nat)
theorem StZ.e {w : World} {pb : Nat} {s : ByteArray} {dep x b : Nat} (h : StZ w pb s dep (.err x b)) : StE w pb s dep x b := ⟨h.1, h.2.1, _, _, _, _, h.2.2⟩
theorem StE.keep {w w' : World} {pb : Nat} {s : ByteArray} {dep x b : Nat} (hc : Chg (fun k => k ≠ pb) w w') (h : StE w pb s dep x b) : StE w' pb s dep x b := by
  obtain ⟨h1, h2, k, a, e, t, h3⟩ := h
  exact ⟨h1, h2, k, a, e, t, h3.keep hc⟩
theorem StZ.keep {w w' : World} {pb : Nat} {s : ByteArray} {dep : Nat} {R : LexR} (hc : Chg (fun k => k ≠ pb) w w') (h : StZ w pb s dep R) : StZ w' pb s dep R := by
  cases R with
  | tok kd a e t => exact BoxP.keep hc h
  | err x b => exact ⟨h.1, h.2.1, h.2.2.keep hc⟩

theorem rstep_tok (s : ByteArray) (hs : s.size ≤ 1000000) (pb dep e : Nat) (k a : Int) (t : ByteArray) (w : World) (he : e ≤ s.size) (h : BoxP w pb s dep k a (e : Nat) t 0 0) :
    Calls Try.prog 57 #[.pointer (some ⟨pb, 0, none⟩)] w fun r w' => r = .returned (.tuple #[]) ∧ PChg pb w w' ∧ StZ w' pb s dep (nextAt (sl s) e) := by
  have hn := nextI_nat (sl s) e
  cases hR : nextAt (sl s) e with
  | tok kd2 a2 e2 t2 =>
    have hb := nextAt_tok (sl s) e kd2 a2 e2 t2 (by rw [sl_len]; exact he) hR
    rw [sl_len] at hb
    refine (rstep_calls s hs pb dep k a (e : Nat) t 0 0 w h (kd2 : Nat) (a2 : Nat) (e2 : Nat) (txt t2) 0 0 (by rw [hn, hR]; rfl) (by rw [hn, hR]; rfl) (by omega)).mono fun r w' h2 => ?_
    exact ⟨h2.1, h2.2.1, h2.2.2.1 rfl⟩
  | err x b =>
    have hb := nextAt_err (sl s) e x b hR
    refine (rstep_calls s hs pb dep k a (e : Nat) t 0 0 w h 0 0 0 ⟨#[]⟩ (x : Nat) (b : Nat) (by rw [hn, hR]; rfl) (by rw [hn, hR]; rfl) (by omega)).mono fun r w' h2 => ?_
    exact ⟨h2.1, h2.2.1, hb.1, hb.2, h2.2.2.1 rfl⟩
theorem rstep_err (s : ByteArray) (hs : s.size ≤ 1000000) (pb dep : Nat) (k a e : Int) (t : ByteArray) (x b : Nat) (hx : 1 ≤ x) (w : World) (h : BoxP w pb s dep k a e t (x : Nat) (b : Nat)) :
    Calls Try.prog 57 #[.pointer (some ⟨pb, 0, none⟩)] w fun r w' => r = .returned (.tuple #[]) ∧ PChg pb w w' ∧ BoxP w' pb s dep k a e t (x : Nat) (b : Nat) := by
  have her : ∀ R : LexR, (∀ k2 a2 e2 t2, R = .tok k2 a2 e2 t2 → e2 ≤ s.size) → ∃ (k2 a2 e2 : Int) (t2 : ByteArray), tokV R = .agg #[.int .i64 k2, .int .i64 a2, .int .i64 e2, .string t2] ∧ (-9223372036854775808 ≤ e2 ∧ e2 ≤ 9223372036854775807) := by
    intro R hR
    cases R with
    | tok k2 a2 e2 t2 => exact ⟨_, _, _, _, rfl, by have := hR _ _ _ _ rfl; omega⟩
    | err x b => exact ⟨_, _, _, _, rfl, by omega⟩
  obtain ⟨k2, a2, e2, t2, hV, he2⟩ := her (nextI (sl s) e) (by
    intro k2 a2 e2 t2 hR
    unfold nextI at hR
    split at hR
    · simp at hR
    · have hle : e.toNat ≤ (sl s).length := by
        by_cases hl : e.toNat ≤ (sl s).length
        · exact hl
        · unfold nextAt at hR; rw [if_pos (by omega)] at hR; simp at hR
      have := nextAt_tok (sl s) e.toNat k2 a2 e2 t2 hle hR
      rw [sl_len] at this
      omega)
  obtain ⟨x2, b2, hE⟩ := errV_agg (nextI (sl s) e)
  refine (rstep_calls s hs pb dep k a e t (x : Nat) (b : Nat) w h k2 a2 e2 t2 x2 b2 hV hE he2).mono fun r w' h2 => ?_
  exact ⟨h2.1, h2.2.1, h2.2.2.2 (by omega)⟩
theorem rbad_tok (s : ByteArray) (pb dep kd a c : Nat) (e : Int) (t : ByteArray) (w : World) (hc : 1 ≤ c ∧ c ≤ 10) (h : BoxP w pb s dep (kd : Nat) (a : Nat) e t 0 0) :
    Calls Try.prog 59 #[.pointer (some ⟨pb, 0, none⟩), .int .i64 (c : Nat)] w fun r w' => r = .returned (.tuple #[]) ∧ PChg pb w w' ∧ StE w' pb s dep (if kd = 1 then 2 else c) a := by
  refine (rbad_calls s pb dep (kd : Nat) (a : Nat) e t 0 0 w h (c : Nat)).mono fun r w' h2 => ?_
  refine ⟨h2.1, h2.2.1, ?_⟩
  have h3 := h2.2.2.1 rfl
  unfold badX at h3
  by_cases hk : kd = 1
  · rw [if_pos hk]
    rw [if_pos (by omega)] at h3
    exact ⟨by omega, by omega, _, _, _, _, h3⟩
  · rw [if_neg hk]
    rw [if_neg (by omega)] at h3
    exact ⟨hc.1, hc.2, _, _, _, _, h3⟩
theorem rbad_err (s : ByteArray) (pb dep : Nat) (k a e : Int) (t : ByteArray) (x b : Nat) (hx : 1 ≤ x) (c : Int) (w : World) (h : BoxP w pb s dep k a e t (x : Nat) (b : Nat)) :
    Calls Try.prog 59 #[.pointer (some ⟨pb, 0, none⟩), .int .i64 c] w fun r w' => r = .returned (.tuple #[]) ∧ PChg pb w w' ∧ BoxP w' pb s dep k a e t (x : Nat) (b : Nat) := by
  refine (rbad_calls s pb dep k a e t (x : Nat) (b : Nat) w h c).mono fun r w' h2 => ?_
  exact ⟨h2.1, h2.2.1, h2.2.2.2 (by omega)⟩

/-- What value answers: in an error's case some tree, too. -/
def RVal (pb : Nat) (s : ByteArray) (dep q : Nat) (w : World) (R : PR J) (r : Ending) (w' : World) : Prop := PChg pb w w' ∧ ∃ j c, r = .returned (.agg c) ∧ RdJ (fun k => w.heap.size ≤ k) w' j c ∧ match R with
  | .bad x b => StE w' pb s dep x b
  | .ok j' n => j = j' ∧ q ≤ n ∧ n ≤ s.size ∧ StZ w' pb s dep (nextAt (sl s) n)
def RRow (pb : Nat) (s : ByteArray) (dep q kd : Nat) (w : World) (R : PR M) (r : Ending) (w' : World) : Prop := PChg pb w w' ∧ ∃ j c, r = .returned (.agg c) ∧ RdJ (fun k => w.heap.size ≤ k) w' j c ∧ match R with
  | .bad x b => StE w' pb s dep x b
  | .ok m n => j = .mk (if kd = 2 then 7 else 6) [] m ∧ q ≤ n ∧ n ≤ s.size ∧ StZ w' pb s dep (nextAt (sl s) n)
def RowSaid (dep within : Nat) : Prop := ∀ (s : ByteArray), s.size ≤ 1000000 → ∀ (pb kd a q f : Nat) (t : ByteArray), (kd = 2 ∨ kd = 4) → q ≤ s.size → 2 * (s.size - q) + 2 ≤ f → ∀ w, BoxP w pb s dep (kd : Nat) (a : Nat) (q : Nat) t 0 0 →
  Calls Try.prog 79 #[.pointer (some ⟨pb, 0, none⟩), .int .i64 (kd : Nat), .int .i64 (within : Nat)] w (RRow pb s dep q kd w (kidsQ (sl s) dep f (within + 1) kd q))
def RValSaid (dep within : Nat) : Prop := ∀ (s : ByteArray), s.size ≤ 1000000 → ∀ (pb kd a q f : Nat) (t : List UInt8), t.length ≤ 2000000 → q ≤ s.size → 1 ≤ f → (kd = 2 ∨ kd = 4 → 2 * (s.size - q) + 3 ≤ f) → ∀ w, BoxP w pb s dep (kd : Nat) (a : Nat) (q : Nat) (txt t) 0 0 →
  Calls Try.prog 58 #[.pointer (some ⟨pb, 0, none⟩), .int .i64 (within : Nat)] w (RVal pb s dep q w (valP (sl s) dep f within kd a q t))

/-- A row's tree. -/
def rowJ (op : Nat) : PR M → PR J
  | .bad e b => .bad e b
  | .ok ks p => .ok (.mk (if op = 2 then 7 else 6) [] ks) p
theorem val_row {pb : Nat} {s : ByteArray} {dep q op : Nat} {w w1 w' : World} {RK : PR M} {j : J} {c : Array Value} (hlt : pb < w.heap.size) (hc : PChg pb w w1) (hX : Chg (fun k => k = w.heap.size) w1 w') (hrd : RdJ (fun k => w.heap.size + 2 ≤ k) w1 j c)
    (hst : match RK with | .bad x b => StE w1 pb s dep x b | .ok m n => j = .mk (if op = 2 then 7 else 6) [] m ∧ q ≤ n ∧ n ≤ s.size ∧ StZ w1 pb s dep (nextAt (sl s) n)) :
    RVal pb s dep q w (rowJ op RK) (.returned (.agg c)) w' := by
  have hX2 := hX.weaken (S' := fun k => k ≠ pb) fun k _ h => by omega
  refine ⟨hc.trans hX (fun k hk e => absurd hk (by omega)), j, c, rfl, (hrd.keep (KeepS.chg hX fun k hk h => by omega)).imp (fun k _ h => by omega), ?_⟩
  cases RK with
  | bad x b => exact StE.keep hX2 hst
  | ok m n => exact ⟨hst.1, hst.2.1, hst.2.2.1, StZ.keep hX2 hst.2.2.2⟩

theorem leaf_rd {w : World} {k : Nat} {t : List UInt8} (hk : k ≤ 10) (ht : t.length ≤ 2000000) (S : Nat → Prop) : RdJ S w (.mk (k : Nat) t .nil) (jCells (k : Nat) (txt t) none 0 0) := by
  refine ⟨_, none, 0, 0, rfl, sl_txt t, ?_, by omega, rfl, ⟨by omega, fun _ => rfl, by omega⟩, trivial⟩
  have : (txt t).size = t.length := by rw [← sl_len, sl_txt]
  omega

set_option maxRecDepth 100000 in
set_option maxHeartbeats 8000000 in
theorem rvalue_calls (dep within : Nat) (hdep : dep ≤ 1000) (hK : within < dep → RowSaid dep within) : RValSaid dep within := by
  intro s hs pb kd a q f t ht hq hf1 hf2 w h
  have hlt := h.lt
  obtain ⟨f, rfl⟩ : ∃ g, f = g + 1 := ⟨f - 1, by omega⟩
  have HP0 := Lib.hid h
  have HPv : Hid (∀ k' : Int, k' = (kd : Nat) → BoxP ((w.alloc (.cells #[.int .i64 0, .string { data := #[] }, .slice none 0 0] 24)).alloc (.cells #[.int .i64 k', .int .i64 (a : Nat), .int .i64 (q : Nat), .string (txt t)] 39)) pb s dep k' (a : Nat) (q : Nat) (txt t) 0 0) := by
    show ∀ k' : Int, _
    intro k' e
    subst e
    exact h.below (((Below.refl _ _).alloc (Nat.le_refl _) _).alloc (by simp) _)
  obtain ⟨R, hR⟩ : ∃ R, R = valP (sl s) dep (f + 1) within kd a q t := ⟨_, rfl⟩
  rw [← hR]
  have HR : Hid (R = valP (sl s) dep (f + 1) within kd a q t) := Lib.hid hR
  have CS := fun k' W hP => Lib.hid (rstep_tok s hs pb dep q k' (a : Nat) (txt t) W hq hP)
  have CB := fun c k' hc W hP => Lib.hid (rbad_tok s pb dep k' a c (q : Nat) (txt t) W hc hP)
  obtain ⟨c0, c1, c2, c3, c4, c5, c6, c7, c8, f2, f3, f4, f5, f6, f7, f8, _, _⟩ := h
  have n1 : ¬ pb = w.heap.size := by omega
  have m1 : ¬ w.heap.size = pb := by omega
  have n2 : ¬ pb = w.heap.size + 1 := by omega
  have m2 : ¬ w.heap.size + 1 = pb := by omega
  clear hR
  by_cases h8 : kd = 8
  · subst h8
    have HN : Hid (R = .ok (.mk (5 : Nat) t .nil) q) := by show _ = _; rw [HR.out, valP]; simp
    have HP := HPv.out 8 rfl
    have HPV := Lib.hid HP
    clear HR hK hf2 CB HP HPv
    go_enter Try.func58, Try.ntmps58
    go_wp2_with fail
    refine (CS _ _ HPV.out).out.mono ?_
    rintro r w1 ⟨rfl, hch, hst⟩
    obtain ⟨z0, z1, z2, y0, y1, y2⟩ := Box3.chg hch (by omega) (show Box3 _ w.heap.size (.int .i64 0) (.string ⟨#[]⟩) (.slice none 0 0) by refine ⟨?_, ?_, ?_, ?_, ?_, ?_⟩ <;> simp [go_sem])
    obtain ⟨x0, x1, x2, x3, v0, v1, v2, v3⟩ := Box4.chg hch (by omega) (show Box4 _ (w.heap.size + 1) (.int .i64 8) (.int .i64 (a : Nat)) (.int .i64 (q : Nat)) (.string (txt t)) by refine ⟨?_, ?_, ?_, ?_, ?_, ?_, ?_, ?_⟩ <;> simp [go_sem])
    have hz : w.heap.size + 2 ≤ w1.heap.size := by have := hch.size; simp at this; omega
    have hchg : PChg pb w w1 := by
      refine Chg.trans ?_ hch (fun _ _ h => h)
      (repeat' (first | with_reducible exact Chg.refl _ _ | with_reducible refine Chg.alloc ?_ _))
    have HST := Lib.hid hst
    clear hch hst CS c0 c1 c2 c3 c4 c5 c6 c7 c8 f2 f3 f4 f5 f6 f7 f8
    (repeat (first | go_values | go_skip | go_guarded | go_step | go_upon | (go_simp; go_at_K)))
    refine bodyPost_ret (v := .agg (jCells (5 : Nat) (txt t) none 0 0)) (by simp [txt, results, Try.results58, go_sem, *]) rfl ?_
    rw [HN.out]
    refine ⟨?_, _, _, rfl, leaf_rd (by omega) (by first | exact ht | simp) _, rfl, Nat.le_refl _, hq, HST.out.keep ?_⟩
    · skip
      (repeat' (first | with_reducible exact hchg | with_reducible apply Chg.drew | with_reducible refine Chg.alloc ?_ _ | with_reducible refine Chg.setCell ?_ (fun h => ?_) _))
      all_goals first | rfl | (simp only [] at h; omega)
    · skip
      (repeat' (first | with_reducible exact Chg.refl _ _ | with_reducible apply Chg.drew | with_reducible refine Chg.alloc ?_ _ | with_reducible refine Chg.setCell ?_ (fun h => ?_) _))
      all_goals (dsimp only; omega)
  by_cases h9 : kd = 9
  · subst h9
    have HN : Hid (R = .ok (.mk (4 : Nat) t .nil) q) := by show _ = _; rw [HR.out, valP]; simp
    have HP := HPv.out 9 rfl
    have HPV := Lib.hid HP
    clear HR hK hf2 CB HP HPv
    go_enter Try.func58, Try.ntmps58
    go_wp2_with fail
    refine (CS _ _ HPV.out).out.mono ?_
    rintro r w1 ⟨rfl, hch, hst⟩
    obtain ⟨z0, z1, z2, y0, y1, y2⟩ := Box3.chg hch (by omega) (show Box3 _ w.heap.size (.int .i64 0) (.string ⟨#[]⟩) (.slice none 0 0) by refine ⟨?_, ?_, ?_, ?_, ?_, ?_⟩ <;> simp [go_sem])
    obtain ⟨x0, x1, x2, x3, v0, v1, v2, v3⟩ := Box4.chg hch (by omega) (show Box4 _ (w.heap.size + 1) (.int .i64 9) (.int .i64 (a : Nat)) (.int .i64 (q : Nat)) (.string (txt t)) by refine ⟨?_, ?_, ?_, ?_, ?_, ?_, ?_, ?_⟩ <;> simp [go_sem])
    have hz : w.heap.size + 2 ≤ w1.heap.size := by have := hch.size; simp at this; omega
    have hchg : PChg pb w w1 := by
      refine Chg.trans ?_ hch (fun _ _ h => h)
      (repeat' (first | with_reducible exact Chg.refl _ _ | with_reducible refine Chg.alloc ?_ _))
    have HST := Lib.hid hst
    clear hch hst CS c0 c1 c2 c3 c4 c5 c6 c7 c8 f2 f3 f4 f5 f6 f7 f8
    (repeat (first | go_values | go_skip | go_guarded | go_step | go_upon | (go_simp; go_at_K)))
    refine bodyPost_ret (v := .agg (jCells (4 : Nat) (txt t) none 0 0)) (by simp [txt, results, Try.results58, go_sem, *]) rfl ?_
    rw [HN.out]
    refine ⟨?_, _, _, rfl, leaf_rd (by omega) (by first | exact ht | simp) _, rfl, Nat.le_refl _, hq, HST.out.keep ?_⟩
    · skip
      (repeat' (first | with_reducible exact hchg | with_reducible apply Chg.drew | with_reducible refine Chg.alloc ?_ _ | with_reducible refine Chg.setCell ?_ (fun h => ?_) _))
      all_goals first | rfl | (simp only [] at h; omega)
    · skip
      (repeat' (first | with_reducible exact Chg.refl _ _ | with_reducible apply Chg.drew | with_reducible refine Chg.alloc ?_ _ | with_reducible refine Chg.setCell ?_ (fun h => ?_) _))
      all_goals (dsimp only; omega)
  by_cases h10 : kd = 10
  · subst h10
    have HN : Hid (R = .ok (.mk (3 : Nat) [] .nil) q) := by show _ = _; rw [HR.out, valP]; simp
    have HP := HPv.out 10 rfl
    have HPV := Lib.hid HP
    clear HR hK hf2 CB HP HPv
    go_enter Try.func58, Try.ntmps58
    go_wp2_with fail
    refine (CS _ _ HPV.out).out.mono ?_
    rintro r w1 ⟨rfl, hch, hst⟩
    obtain ⟨z0, z1, z2, y0, y1, y2⟩ := Box3.chg hch (by omega) (show Box3 _ w.heap.size (.int .i64 0) (.string ⟨#[]⟩) (.slice none 0 0) by refine ⟨?_, ?_, ?_, ?_, ?_, ?_⟩ <;> simp [go_sem])
    obtain ⟨x0, x1, x2, x3, v0, v1, v2, v3⟩ := Box4.chg hch (by omega) (show Box4 _ (w.heap.size + 1) (.int .i64 10) (.int .i64 (a : Nat)) (.int .i64 (q : Nat)) (.string (txt t)) by refine ⟨?_, ?_, ?_, ?_, ?_, ?_, ?_, ?_⟩ <;> simp [go_sem])
    have hz : w.heap.size + 2 ≤ w1.heap.size := by have := hch.size; simp at this; omega
    have hchg : PChg pb w w1 := by
      refine Chg.trans ?_ hch (fun _ _ h => h)
      (repeat' (first | with_reducible exact Chg.refl _ _ | with_reducible refine Chg.alloc ?_ _))
    have HST := Lib.hid hst
    clear hch hst CS c0 c1 c2 c3 c4 c5 c6 c7 c8 f2 f3 f4 f5 f6 f7 f8
    (repeat (first | go_values | go_skip | go_guarded | go_step | go_upon | (go_simp; go_at_K)))
    refine bodyPost_ret (v := .agg (jCells (3 : Nat) (txt []) none 0 0)) (by simp [txt, results, Try.results58, go_sem, *]) rfl ?_
    rw [HN.out]
    refine ⟨?_, _, _, rfl, leaf_rd (by omega) (by first | exact ht | simp) _, rfl, Nat.le_refl _, hq, HST.out.keep ?_⟩
    · skip
      (repeat' (first | with_reducible exact hchg | with_reducible apply Chg.drew | with_reducible refine Chg.alloc ?_ _ | with_reducible refine Chg.setCell ?_ (fun h => ?_) _))
      all_goals first | rfl | (simp only [] at h; omega)
    · skip
      (repeat' (first | with_reducible exact Chg.refl _ _ | with_reducible apply Chg.drew | with_reducible refine Chg.alloc ?_ _ | with_reducible refine Chg.setCell ?_ (fun h => ?_) _))
      all_goals (dsimp only; omega)
  by_cases h11 : kd = 11
  · subst h11
    have HN : Hid (R = .ok (.mk (2 : Nat) [] .nil) q) := by show _ = _; rw [HR.out, valP]; simp
    have HP := HPv.out 11 rfl
    have HPV := Lib.hid HP
    clear HR hK hf2 CB HP HPv
    go_enter Try.func58, Try.ntmps58
    go_wp2_with fail
    refine (CS _ _ HPV.out).out.mono ?_
    rintro r w1 ⟨rfl, hch, hst⟩
    obtain ⟨z0, z1, z2, y0, y1, y2⟩ := Box3.chg hch (by omega) (show Box3 _ w.heap.size (.int .i64 0) (.string ⟨#[]⟩) (.slice none 0 0) by refine ⟨?_, ?_, ?_, ?_, ?_, ?_⟩ <;> simp [go_sem])
    obtain ⟨x0, x1, x2, x3, v0, v1, v2, v3⟩ := Box4.chg hch (by omega) (show Box4 _ (w.heap.size + 1) (.int .i64 11) (.int .i64 (a : Nat)) (.int .i64 (q : Nat)) (.string (txt t)) by refine ⟨?_, ?_, ?_, ?_, ?_, ?_, ?_, ?_⟩ <;> simp [go_sem])
    have hz : w.heap.size + 2 ≤ w1.heap.size := by have := hch.size; simp at this; omega
    have hchg : PChg pb w w1 := by
      refine Chg.trans ?_ hch (fun _ _ h => h)
      (repeat' (first | with_reducible exact Chg.refl _ _ | with_reducible refine Chg.alloc ?_ _))
    have HST := Lib.hid hst
    clear hch hst CS c0 c1 c2 c3 c4 c5 c6 c7 c8 f2 f3 f4 f5 f6 f7 f8
    (repeat (first | go_values | go_skip | go_guarded | go_step | go_upon | (go_simp; go_at_K)))
    refine bodyPost_ret (v := .agg (jCells (2 : Nat) (txt []) none 0 0)) (by simp [txt, results, Try.results58, go_sem, *]) rfl ?_
    rw [HN.out]
    refine ⟨?_, _, _, rfl, leaf_rd (by omega) (by first | exact ht | simp) _, rfl, Nat.le_refl _, hq, HST.out.keep ?_⟩
    · skip
      (repeat' (first | with_reducible exact hchg | with_reducible apply Chg.drew | with_reducible refine Chg.alloc ?_ _ | with_reducible refine Chg.setCell ?_ (fun h => ?_) _))
      all_goals first | rfl | (simp only [] at h; omega)
    · skip
      (repeat' (first | with_reducible exact Chg.refl _ _ | with_reducible apply Chg.drew | with_reducible refine Chg.alloc ?_ _ | with_reducible refine Chg.setCell ?_ (fun h => ?_) _))
      all_goals (dsimp only; omega)
  by_cases h12 : kd = 12
  · subst h12
    have HN : Hid (R = .ok (.mk (1 : Nat) [] .nil) q) := by show _ = _; rw [HR.out, valP]; simp
    have HP := HPv.out 12 rfl
    have HPV := Lib.hid HP
    clear HR hK hf2 CB HP HPv
    go_enter Try.func58, Try.ntmps58
    go_wp2_with fail
    refine (CS _ _ HPV.out).out.mono ?_
    rintro r w1 ⟨rfl, hch, hst⟩
    obtain ⟨z0, z1, z2, y0, y1, y2⟩ := Box3.chg hch (by omega) (show Box3 _ w.heap.size (.int .i64 0) (.string ⟨#[]⟩) (.slice none 0 0) by refine ⟨?_, ?_, ?_, ?_, ?_, ?_⟩ <;> simp [go_sem])
    obtain ⟨x0, x1, x2, x3, v0, v1, v2, v3⟩ := Box4.chg hch (by omega) (show Box4 _ (w.heap.size + 1) (.int .i64 12) (.int .i64 (a : Nat)) (.int .i64 (q : Nat)) (.string (txt t)) by refine ⟨?_, ?_, ?_, ?_, ?_, ?_, ?_, ?_⟩ <;> simp [go_sem])
    have hz : w.heap.size + 2 ≤ w1.heap.size := by have := hch.size; simp at this; omega
    have hchg : PChg pb w w1 := by
      refine Chg.trans ?_ hch (fun _ _ h => h)
      (repeat' (first | with_reducible exact Chg.refl _ _ | with_reducible refine Chg.alloc ?_ _))
    have HST := Lib.hid hst
    clear hch hst CS c0 c1 c2 c3 c4 c5 c6 c7 c8 f2 f3 f4 f5 f6 f7 f8
    (repeat (first | go_values | go_skip | go_guarded | go_step | go_upon | (go_simp; go_at_K)))
    refine bodyPost_ret (v := .agg (jCells (1 : Nat) (txt []) none 0 0)) (by simp [txt, results, Try.results58, go_sem, *]) rfl ?_
    rw [HN.out]
    refine ⟨?_, _, _, rfl, leaf_rd (by omega) (by first | exact ht | simp) _, rfl, Nat.le_refl _, hq, HST.out.keep ?_⟩
    · skip
      (repeat' (first | with_reducible exact hchg | with_reducible apply Chg.drew | with_reducible refine Chg.alloc ?_ _ | with_reducible refine Chg.setCell ?_ (fun h => ?_) _))
      all_goals first | rfl | (simp only [] at h; omega)
    · skip
      (repeat' (first | with_reducible exact Chg.refl _ _ | with_reducible apply Chg.drew | with_reducible refine Chg.alloc ?_ _ | with_reducible refine Chg.setCell ?_ (fun h => ?_) _))
      all_goals (dsimp only; omega)
  have b0 : ((kd : Int) == 12) = false := by simp; omega
  have b1 : ((kd : Int) == 11) = false := by simp; omega
  have b2 : ((kd : Int) == 10) = false := by simp; omega
  have b3 : ((kd : Int) == 9) = false := by simp; omega
  have b4 : ((kd : Int) == 8) = false := by simp; omega
  by_cases hk : kd = 2 ∨ kd = 4
  case neg =>
    have b5 : ((kd : Int) == 2) = false := by simp; omega
    have b6 : ((kd : Int) == 4) = false := by simp; omega
    have HN : Hid (R = .bad (if kd = 1 then 2 else 3) a) := by
      show _ = _
      rw [HR.out, valP, if_neg h12, if_neg h11, if_neg h10, if_neg h9, if_neg h8, if_neg hk]
      unfold wrongT
      split <;> rfl
    have HP := HPv.out (kd : Nat) rfl
    have HPV := Lib.hid HP
    clear HR hK hf2 CS HP HPv
    go_enter Try.func58, Try.ntmps58
    go_wp2_with fail
    refine (CB 3 kd (by omega) _ HPV.out).out.mono ?_
    rintro r w1 ⟨rfl, hch, hst⟩
    obtain ⟨z0, z1, z2, y0, y1, y2⟩ := Box3.chg hch (by omega) (show Box3 _ w.heap.size (.int .i64 0) (.string ⟨#[]⟩) (.slice none 0 0) by refine ⟨?_, ?_, ?_, ?_, ?_, ?_⟩ <;> simp [go_sem])
    obtain ⟨x0, x1, x2, x3, v0, v1, v2, v3⟩ := Box4.chg hch (by omega) (show Box4 _ (w.heap.size + 1) (.int .i64 (kd : Nat)) (.int .i64 (a : Nat)) (.int .i64 (q : Nat)) (.string (txt t)) by refine ⟨?_, ?_, ?_, ?_, ?_, ?_, ?_, ?_⟩ <;> simp [go_sem])
    have hz : w.heap.size + 2 ≤ w1.heap.size := by have := hch.size; simp at this; omega
    have hchg : PChg pb w w1 := by
      refine Chg.trans ?_ hch (fun _ _ h => h)
      (repeat' (first | with_reducible exact Chg.refl _ _ | with_reducible refine Chg.alloc ?_ _))
    have HST := Lib.hid hst
    clear hch hst CB c0 c1 c2 c3 c4 c5 c6 c7 c8 f2 f3 f4 f5 f6 f7 f8
    (repeat (first | go_values | go_skip | go_guarded | go_step | go_upon | (go_simp; go_at_K)))
    refine bodyPost_ret (v := .agg (jCells (0 : Nat) (txt []) none 0 0)) (by simp [txt, results, Try.results58, go_sem, *]) rfl ?_
    rw [HN.out]
    refine ⟨?_, _, _, rfl, leaf_rd (by omega) (by simp) _, HST.out.keep ?_⟩
    · skip
      (repeat' (first | with_reducible exact hchg | with_reducible apply Chg.drew | with_reducible refine Chg.alloc ?_ _ | with_reducible refine Chg.setCell ?_ (fun h => ?_) _))
      all_goals first | rfl | (simp only [] at h; omega)
    · skip
      (repeat' (first | with_reducible exact Chg.refl _ _ | with_reducible apply Chg.drew | with_reducible refine Chg.alloc ?_ _ | with_reducible refine Chg.setCell ?_ (fun h => ?_) _))
      all_goals (dsimp only; omega)
  by_cases hd : dep ≤ within
  case pos =>
    have HN : Hid (R = .bad (if kd = 1 then 2 else 8) a) := by
      show _ = _
      rw [HR.out, valP, if_neg h12, if_neg h11, if_neg h10, if_neg h9, if_neg h8, if_pos hk, if_pos hd, if_neg (by omega)]
    have g1 : decide ((dep : Int) ≤ within) = true := by simp; omega
    clear HR hK hf2 CS
    rcases hk with rfl | rfl
    all_goals
      have HP := HPv.out _ rfl
      have HPV := Lib.hid HP
      clear HP HPv
      go_enter Try.func58, Try.ntmps58
      go_wp2_with fail
      refine (CB 8 _ (by omega) _ HPV.out).out.mono ?_
      rintro r w1 ⟨rfl, hch, hst⟩
      obtain ⟨z0, z1, z2, y0, y1, y2⟩ := Box3.chg hch (by omega) (show Box3 _ w.heap.size (.int .i64 0) (.string ⟨#[]⟩) (.slice none 0 0) by refine ⟨?_, ?_, ?_, ?_, ?_, ?_⟩ <;> simp [go_sem])
      have hz : w.heap.size + 2 ≤ w1.heap.size := by have := hch.size; simp at this; omega
      have hchg : PChg pb w w1 := by
        refine Chg.trans ?_ hch (fun _ _ h => h)
        (repeat' (first | with_reducible exact Chg.refl _ _ | with_reducible refine Chg.alloc ?_ _))
      have HST := Lib.hid hst
      clear hch hst CB c0 c1 c2 c3 c4 c5 c6 c7 c8 f2 f3 f4 f5 f6 f7 f8
      (repeat (first | go_values | go_skip | go_guarded | go_step | go_upon | (go_simp; go_at_K)))
      refine bodyPost_ret (v := .agg (jCells (0 : Nat) (txt []) none 0 0)) (by simp [txt, results, Try.results58, go_sem, *]) rfl ?_
      rw [HN.out]
      refine ⟨?_, _, _, rfl, leaf_rd (by omega) (by simp) _, HST.out.keep ?_⟩
      · skip
        (repeat' (first | with_reducible exact hchg | with_reducible apply Chg.drew | with_reducible refine Chg.alloc ?_ _ | with_reducible refine Chg.setCell ?_ (fun h => ?_) _))
        all_goals first | rfl | (simp only [] at h; omega)
      · skip
        (repeat' (first | with_reducible exact Chg.refl _ _ | with_reducible apply Chg.drew | with_reducible refine Chg.alloc ?_ _ | with_reducible refine Chg.setCell ?_ (fun h => ?_) _))
        all_goals (dsimp only; omega)
  have hd1 : within < dep := by omega
  have g1 : decide ((dep : Int) ≤ within) = false := by simp; omega
  have CK0 := hK hd1 s hs pb kd a q f (txt t) hk hq (by have := hf2 hk; omega)
  have HN : Hid (R = rowJ kd (kidsQ (sl s) dep f (within + 1) kd q)) := by
    show _ = _
    rw [HR.out, valP_brk (sl s) dep f within kd a q t hk hd1]
    cases kidsQ (sl s) dep f (within + 1) kd q <;> rfl
  obtain ⟨RK, hRK⟩ : ∃ RK, RK = kidsQ (sl s) dep f (within + 1) kd q := ⟨_, rfl⟩
  rw [← hRK] at HN CK0
  have CK := fun W hP => Lib.hid (CK0 W hP)
  clear HR hK hf2 hRK CK0 CS CB
  have HKD := Lib.hid hk
  rcases hk with rfl | rfl
  all_goals
    have HP := HPv.out _ rfl
    have HPV := Lib.hid HP
    clear HP HPv
    go_enter Try.func58, Try.ntmps58
    go_wp2_with fail
    refine (CK _ HPV.out).out.mono ?_
    rintro r w1 ⟨hch, j, c, rfl, hrd, hst⟩
    obtain ⟨jk, jt, jm⟩ := j
    have hrd0 := hrd
    obtain ⟨jx, ak, nk, ck, rfl, -⟩ := hrd0
    obtain ⟨z0, z1, z2, y0, y1, y2⟩ := Box3.chg hch (by omega) (show Box3 _ w.heap.size (.int .i64 0) (.string ⟨#[]⟩) (.slice none 0 0) by refine ⟨?_, ?_, ?_, ?_, ?_, ?_⟩ <;> simp [go_sem])
    have hz : w.heap.size + 2 ≤ w1.heap.size := by have := hch.size; simp at this; omega
    have hchg : PChg pb w w1 := by
      refine Chg.trans ?_ hch (fun _ _ h => h)
      (repeat' (first | with_reducible exact Chg.refl _ _ | with_reducible refine Chg.alloc ?_ _))
    have HRD := Lib.hid (hrd.imp (S' := fun k => w.heap.size + 2 ≤ k) (fun k _ h => by simp at h; omega))
    have HST := Lib.hid hst
    clear hch hst hrd CK c0 c1 c2 c3 c4 c5 c6 c7 c8 f2 f3 f4 f5 f6 f7 f8
    simp only [jCells]
    (repeat (first | go_values | go_skip | go_guarded | go_step | go_upon | (go_simp; go_at_K)))
    refine bodyPost_ret (v := .agg (jCells jk jx ak nk ck)) (by simp [jCells, results, Try.results58, go_sem, *]) rfl ?_
    rw [HN.out]
    refine val_row hlt hchg ?_ HRD.out HST.out
    (repeat' (first | with_reducible exact Chg.refl _ _ | with_reducible apply Chg.drew | with_reducible refine Chg.setCell ?_ (fun h => ?_) _))
    all_goals rfl

end Go.Proofs.Ytamhdoijmkjngaa

namespace Go.Proofs.Ytamhdoijmkjngaa
open Go.RowKit
set_option linter.unusedVariables false
set_option linter.unusedSimpArgs false

theorem OwnM.rd {w : World} {B : Nat} {ak : Option Addr} {n ck : Nat} {m : M} (h : OwnM w B (fun k => B ≤ k) (.slice ak n ck) m) : RdM (fun k => B ≤ k) w ak 0 m ∧ RoomJ ak n ck ∧ m.len = n ∧ n ≤ 9223372036854775807 := by
  obtain ⟨a, c, e, h1, h2, h3⟩ := h.reads (fun k hk => hk)
  simp only [Value.slice.injEq] at e
  obtain ⟨rfl, e2, rfl⟩ := e
  have e3 : n = m.len := e2
  subst e3
  exact ⟨h1, h2, rfl, h3⟩

theorem row_fin {pb : Nat} {s : ByteArray} {dep q op : Nat} {w wB w' : World} {kind : Int} {m : M} {ak : Option Addr} {n ck : Nat} {R : PR M} (hk : kind = if op = 2 then 7 else 6) (hO : OwnM wB (w.heap.size + 2) (fun k => w.heap.size + 2 ≤ k) (.slice ak n ck) m)
    (hlt : pb < w.heap.size) (hc : PChg pb w wB) (hX : Chg (fun k => k = w.heap.size) wB w') (hst : match R with | .bad x b => StE wB pb s dep x b | .ok m' n' => m = m' ∧ q ≤ n' ∧ n' ≤ s.size ∧ StZ wB pb s dep (nextAt (sl s) n')) :
    RRow pb s dep q op w R (.returned (.agg (jCells kind ⟨#[]⟩ ak n ck))) w' := by
  obtain ⟨h1, h2, h3, h4⟩ := hO.rd
  have hX2 := hX.weaken (S' := fun k => k ≠ pb) fun k _ h => by omega
  refine ⟨hc.trans hX (fun k hk e => absurd hk (by omega)), .mk kind [] m, _, rfl, ⟨_, ak, n, ck, rfl, rfl, by decide, by rw [hk]; split <;> omega, h3, ⟨h4, h2⟩, ?_⟩, ?_⟩
  · exact (h1.keep (KeepS.chg hX fun k hk h => by omega)).imp (fun k _ h => by omega)
  · cases R with
    | bad x b => exact StE.keep hX2 hst
    | ok m' n' => exact ⟨by rw [hst.1, hk], hst.2.1, hst.2.2.1, StZ.keep hX2 hst.2.2.2⟩

/-- What is known of the token at hand, or of the error. -/
def RNow (pb : Nat) (s : ByteArray) (dep q op wi : Nat) (RES : PR M) (m : M) (wr : World) : LexR → Prop
  | .err x b => StE wr pb s dep x b ∧ RES = .bad x b
  | .tok kd a s1 t => BoxP wr pb s dep (kd : Nat) (a : Nat) (s1 : Nat) (txt t) 0 0 ∧ q ≤ s1 ∧ s1 ≤ s.size ∧ m.len ≤ s1 ∧ t.length ≤ 2000000 ∧ ∃ f, (2 * (s.size - s1) + 4 ≤ f ∨ (kd = 1 ∧ 2 ≤ f)) ∧ RES = kidsP (sl s) dep f wi op m kd a s1 t
def RHead (w : World) (pb : Nat) (s : ByteArray) (dep q op wi : Nat) (kind : Int) (RES : PR M) (wr : World) : Prop :=
  ∃ (R : LexR) (m : M) (ak : Option Addr) (n ck : Nat), Box3 wr w.heap.size (.int .i64 0) (.string ⟨#[]⟩) (.slice none 0 0) ∧ Box3 wr (w.heap.size + 1) (.int .i64 kind) (.string ⟨#[]⟩) (.slice ak n ck) ∧ OwnM wr (w.heap.size + 2) (fun k => w.heap.size + 2 ≤ k) (.slice ak n ck) m ∧ PChg pb w wr ∧ w.heap.size + 2 ≤ wr.heap.size ∧ RNow pb s dep q op wi RES m wr R
def rMeas (n pb : Nat) (w : World) : Nat :=
  match w.cell? ⟨pb, 6, none⟩, w.cell? ⟨pb, 4, none⟩ with
  | some (.int _ e), some (.int _ p) => if e = 0 then n + 2 - p.toNat else 0
  | _, _ => 0
theorem rMeas_tok {n pb : Nat} {w : World} {p : Nat} (h0 : w.cell? ⟨pb, 6, none⟩ = some (.int .i64 0)) (h1 : w.cell? ⟨pb, 4, none⟩ = some (.int .i64 (p : Nat))) : rMeas n pb w = n + 2 - p := by
  unfold rMeas; rw [h0, h1]; simp
theorem rMeas_err {n pb : Nat} {w : World} {x : Nat} (hx : 1 ≤ x) (h0 : w.cell? ⟨pb, 6, none⟩ = some (.int .i64 (x : Nat))) : rMeas n pb w = 0 := by
  unfold rMeas; rw [h0]
  split
  · rename_i h _; simp only [Option.some.injEq, Value.int.injEq] at h; rw [if_neg (by omega)]
  · rfl
theorem wrongT_if (kd a : Nat) : wrongT kd a = (if kd = 1 then 2 else 3, a) := by
  unfold wrongT; split <;> rfl

end Go.Proofs.Ytamhdoijmkjngaa

namespace Go.Proofs.Ytamhdoijmkjngaa
open Go.RowKit
set_option linter.unusedVariables false
set_option linter.unusedSimpArgs false

set_option maxRecDepth 100000 in
set_option maxHeartbeats 32000000 in
theorem rrow2_calls (dep within : Nat) (hdep : dep ≤ 1000) (hwd : within < dep) (hV : RValSaid dep (within + 1)) (s : ByteArray) (hs : s.size ≤ 1000000) (pb a q f : Nat) (t : ByteArray) (hq : q ≤ s.size) (hf : 2 * (s.size - q) + 2 ≤ f) (w : World) (h : BoxP w pb s dep (2 : Nat) (a : Nat) (q : Nat) t 0 0) :
    Calls Try.prog 79 #[.pointer (some ⟨pb, 0, none⟩), .int .i64 (2 : Nat), .int .i64 (within : Nat)] w (RRow pb s dep q 2 w (kidsQ (sl s) dep f (within + 1) 2 q)) := by
  have hlt := h.lt
  obtain ⟨RES, hRES⟩ : ∃ RES, RES = kidsQ (sl s) dep f (within + 1) 2 q := ⟨_, rfl⟩
  rw [← hRES]
  have CS := fun e k a t he W hP => Lib.hid (rstep_tok s hs pb dep e k a t W he hP)
  have CSE := fun k a e t x b hx W hP => Lib.hid (rstep_err s hs pb dep k a e t x b hx W hP)
  have CB := fun kd a c e t hc W hP => Lib.hid (rbad_tok s pb dep kd a c e t W hc hP)
  have CBE := fun k a e t x b hx c W hP => Lib.hid (rbad_err s pb dep k a e t x b hx c W hP)
  have CV := fun kd a q f t ht hq hf1 hf2 W hP => Lib.hid (hV s hs pb kd a q f t ht hq hf1 hf2 W hP)
  rw [show ((within + 1 : Nat) : Int) = (within : Int) + 1 from by omega] at CV
  have hwr : IntKind.i64.wrap ((within : Int) + 1) = (within : Int) + 1 := by simp [IntKind.wrap, IntKind.bits, IntKind.signed]; omega
  have hn1 := fun kd2 a2 s2 t2 => nextAt_tok (sl s) q kd2 a2 s2 t2 (by rw [sl_len]; exact hq)
  have hne := fun x b => nextAt_err (sl s) q x b
  unfold kidsQ at hRES
  obtain ⟨R0, hR0⟩ : ∃ R0, R0 = nextAt (sl s) q := ⟨_, rfl⟩
  have CS0 := fun W hP => CS q (2 : Nat) (a : Nat) t hq W hP
  rw [← hR0] at hRES hn1 hne CS0
  have HRES := Lib.hid hRES
  have HP0 := Lib.hid h
  obtain ⟨c0, c1, c2, c3, c4, c5, c6, c7, c8, f2, f3, f4, f5, f6, f7, f8, _, _⟩ := h
  have n1 : ¬ pb = w.heap.size := by omega
  have m1 : ¬ w.heap.size = pb := by omega
  have n2 : ¬ pb = w.heap.size + 1 := by omega
  have m2 : ¬ w.heap.size + 1 = pb := by omega
  clear hR0 hV hRES
  go_enter Try.func79, Try.ntmps79
  go_wp2_with fail
  refine (CS0 _ ?hP).out.mono ?_
  case hP =>
    refine BoxP.keep ?_ HP0.out
    (repeat' (first | with_reducible exact Chg.refl _ _ | with_reducible apply Chg.drew | with_reducible refine Chg.alloc ?_ _ | with_reducible refine Chg.setCell ?_ (fun h => ?_) _))
    all_goals (dsimp only; omega)
  rintro r w1 ⟨rfl, hch, hst⟩
  obtain ⟨p0, p1, p2, y0, y1, y2⟩ := Box3.chg hch (by omega) (show Box3 _ w.heap.size (.int .i64 0) (.string ⟨#[]⟩) (.slice none 0 0) by refine ⟨?_, ?_, ?_, ?_, ?_, ?_⟩ <;> simp [go_sem, *])
  obtain ⟨z0, z1, z2, v0, v1, v2⟩ := Box3.chg hch (by omega) (show Box3 _ (w.heap.size + 1) (.int .i64 7) (.string ⟨#[]⟩) (.slice none 0 0) by refine ⟨?_, ?_, ?_, ?_, ?_, ?_⟩ <;> simp [go_sem, *])
  have hchg : PChg pb w w1 := by
    refine Chg.trans ?_ hch (fun _ _ h => h)
    (repeat' (first | with_reducible exact Chg.refl _ _ | with_reducible apply Chg.drew | with_reducible refine Chg.alloc ?_ _ | with_reducible refine Chg.setCell ?_ (fun h => ?_) _))
    all_goals first | rfl | (simp only [] at h; omega)
  have hz : w.heap.size + 2 ≤ w1.heap.size := by have := hch.size; simp at this; omega
  have HST := Lib.hid hst
  have HO0 : Hid (OwnM w1 (w.heap.size + 2) (fun k => w.heap.size + 2 ≤ k) (.slice none 0 0) .nil) := OwnM.nil _ _ _
  clear hch hst CS0 c0 c1 c2 c3 c4 c5 c6 c7 c8 f2 f3 f4 f5 f6 f7 f8
  cases R0 with
  | err x b =>
    have HN : Hid (RES = .bad x b) := HRES.out
    have HSE := Lib.hid HST.out.e
    obtain ⟨hx1, hx2, hbp⟩ := HST.out
    obtain ⟨_, _, _, _, _, _, c6, _, _, _, _, _, _, _, _, _, _, _⟩ := hbp
    have b1 : ((x : Int) == 0) = false := by simp; omega
    have HKH : Hid (Box3 w1 w.heap.size (.int .i64 0) (.string ⟨#[]⟩) (.slice none 0 0) ∧ Box3 w1 (w.heap.size + 1) (.int .i64 7) (.string ⟨#[]⟩) (.slice none 0 0) ∧ w1.cell? ⟨pb, 6, none⟩ = some (.int .i64 (x : Nat))) := ⟨⟨p0, p1, p2, y0, y1, y2⟩, ⟨z0, z1, z2, v0, v1, v2⟩, c6⟩
    clear CS CSE CB CBE CV hn1 hne
    go_wp2_with fail
    go_loopw [8] (fun _ wr => Box3 wr w.heap.size (.int .i64 0) (.string ⟨#[]⟩) (.slice none 0 0) ∧ Box3 wr (w.heap.size + 1) (.int .i64 7) (.string ⟨#[]⟩) (.slice none 0 0) ∧ wr.cell? ⟨pb, 6, none⟩ = some (.int .i64 (x : Nat)) ∧ wr = w1) (fun _ _ => 0)
    case atStart => exact ⟨HKH.out.1, HKH.out.2.1, HKH.out.2.2, rfl⟩
    case round =>
      obtain ⟨hb6, hb7, d6, hwr2⟩ := hrel
      subst hwr2
      go_wp2_with fail
      (repeat (first | go_values | go_skip | go_guarded | go_step | go_upon | (go_simp; go_at_K)))
      refine bodyPost_ret (v := .agg (jCells 7 ⟨#[]⟩ none 0 0)) (by simp [jCells, results, Try.results79, go_sem, *]) rfl ?_
      rw [HN.out]
      refine row_fin (op := 2) rfl HO0.out (by omega) hchg ?_ HSE.out
      (repeat' (first | with_reducible exact Chg.refl _ _ | with_reducible apply Chg.drew | with_reducible refine Chg.alloc ?_ _ | with_reducible refine Chg.setCell ?_ (fun h => ?_) _))
      all_goals rfl
  | tok kd1 a1 s1 t1 =>
    obtain ⟨o1, o2, o3, o4, o5, o6⟩ := hn1 _ _ _ _ rfl
    rw [sl_len] at o2 o4 o6
    by_cases hl : kd1 = 3
    · have HN : Hid (RES = .ok .nil s1) := by show _ = _; rw [HRES.out]; simp only; rw [if_pos (by omega)]
      subst hl
      have HBP : Hid (BoxP w1 pb s dep _ _ _ _ 0 0) := HST.out
      obtain ⟨c0, c1, c2, c3, c4, c5, c6, c7, c8, f2, f3, f4, f5, f6, f7, f8, _, _⟩ := HBP.out
      go_wp2_with fail
      refine (CS s1 _ _ _ o2 _ HBP.out).out.mono ?_
      rintro r w2 ⟨rfl, hc2, hst2⟩
      clear c0 c1 c2 c3 c4 c5 c6 c7 c8 f2 f3 f4 f5 f6 f7 f8
      have hB6 := Box3.chg hc2 (by omega) (show Box3 w1 w.heap.size _ _ _ from ⟨p0, p1, p2, y0, y1, y2⟩)
      have hB7 := Box3.chg hc2 (by omega) (show Box3 w1 (w.heap.size + 1) _ _ _ from ⟨z0, z1, z2, v0, v1, v2⟩)
      clear p0 p1 p2 y0 y1 y2 z0 z1 z2 v0 v1 v2
      obtain ⟨p0, p1, p2, y0, y1, y2⟩ := hB6
      obtain ⟨z0, z1, z2, v0, v1, v2⟩ := hB7
      have hchg2 : PChg pb w w2 := hchg.trans hc2 (fun _ _ h => h)
      have HST2 := Lib.hid hst2
      have HC2 := Lib.hid hc2
      clear hc2 hst2 hchg CS CSE CB CBE CV hn1 hne
      (repeat (first | go_values | go_skip | go_guarded | go_step | go_upon | (go_simp; go_at_K)))
      refine bodyPost_ret (v := .agg (jCells 7 ⟨#[]⟩ none 0 0)) (by simp [jCells, results, Try.results79, go_sem, *]) rfl ?_
      rw [HN.out]
      refine row_fin (op := 2) rfl (HO0.out.chg (X := fun k => k = pb) HC2.out (fun k hk h => by omega) (fun k hk h => by simp [Value.ownBlock] at hk)) (by omega) hchg2 ?_ ⟨rfl, o1, o2, HST2.out⟩
      (repeat' (first | with_reducible exact Chg.refl _ _ | with_reducible apply Chg.drew | with_reducible refine Chg.alloc ?_ _ | with_reducible refine Chg.setCell ?_ (fun h => ?_) _))
      all_goals rfl
    have bl : ((kd1 : Int) == 3) = false := by simp; omega
    have HKH : Hid (RHead w pb s dep q 2 (within + 1) 7 RES w1) := by
      refine ⟨.tok kd1 a1 s1 t1, .nil, none, 0, 0, ⟨p0, p1, p2, y0, y1, y2⟩, ⟨z0, z1, z2, v0, v1, v2⟩, HO0.out, hchg, hz, HST.out, o1, o2, Nat.zero_le _, by omega, f, ?_, ?_⟩
      · by_cases h1 : kd1 = 1
        · exact .inr ⟨h1, by omega⟩
        · left; have := o3 h1; omega
      · rw [HRES.out]; simp only; rw [if_neg (by omega)]
    have HBP : Hid (BoxP w1 pb s dep _ _ _ _ 0 0) := HST.out
    obtain ⟨c0, c1, c2, c3, c4, c5, c6, c7, c8, f2, f3, f4, f5, f6, f7, f8, _, _⟩ := HBP.out
    go_wp2_with fail
    go_loopw [8] (fun _ wr => RHead w pb s dep q 2 (within + 1) 7 RES wr) (fun _ wr => rMeas s.size pb wr)
    case atStart => exact HKH.out
    case round =>
      clear c0 c1 c2 c3 c4 c5 c6 c7 c8 f2 f3 f4 f5 f6 f7 f8 HBP HKH HST HO0 hchg hz p0 p1 p2 y0 y1 y2 z0 z1 z2 v0 v1 v2 HRES hn1 hne o1 o2 o3 o4 o5 o6 bl hl
      obtain ⟨R, m, ak, n, ck, hb6, hb7, hown, hchg, hgr, hnow⟩ := hrel
      obtain ⟨p0, p1, p2, y0, y1, y2⟩ := hb6
      obtain ⟨z0, z1, z2, v0, v1, v2⟩ := hb7
      have HOWN := Lib.hid hown
      clear hown
      cases R with
      | err x b =>
        obtain ⟨hse, hres⟩ := hnow
        have HN := Lib.hid hres
        have HSE := Lib.hid hse
        obtain ⟨hx1, hx2, k9, a9, e9, t9, hbp⟩ := hse
        obtain ⟨_, _, _, _, _, _, c6, _, _, _, _, _, _, _, _, _, _, _⟩ := hbp
        have b1 : ((x : Int) == 0) = false := by simp; omega
        clear CS CSE CB CBE CV hres
        go_wp2_with fail
        (repeat (first | go_values | go_skip | go_guarded | go_step | go_upon | (go_simp; go_at_K)))
        refine bodyPost_ret (v := .agg (jCells 7 ⟨#[]⟩ ak n ck)) (by simp [jCells, results, Try.results79, go_sem, *]) rfl ?_
        rw [HN.out]
        refine row_fin (op := 2) rfl HOWN.out (by omega) hchg ?_ HSE.out
        (repeat' (first | with_reducible exact Chg.refl _ _ | with_reducible apply Chg.drew | with_reducible refine Chg.alloc ?_ _ | with_reducible refine Chg.setCell ?_ (fun h => ?_) _))
        all_goals rfl
      | tok kd a2 s2 t2 =>
        obtain ⟨hbp, hqs, hsn, hml, htl, f', hfu, hres⟩ := hnow
        obtain ⟨f0, rfl⟩ : ∃ f0, f' = f0 + 1 := ⟨f' - 1, by omega⟩
        have HM : Hid (rMeas s.size pb wr = s.size + 2 - s2) := rMeas_tok hbp.c6 hbp.c4
        have HBP := Lib.hid hbp
        have hgo : ∀ k, (Value.slice ak n ck).ownBlock = some k → w.heap.size + 2 ≤ k ∧ k < wr.heap.size := HOWN.out.far
        have HGO := Lib.hid hgo
        obtain ⟨g8, hg8, hg8'⟩ : ∃ g, g = wr.heap.size ∧ wr.heap.size ≤ g := ⟨_, rfl, Nat.le_refl _⟩
        have HG := Lib.hid hg8
        have l6 : w.heap.size < wr.heap.size := by omega
        have l7 : w.heap.size + 1 < wr.heap.size := by omega
        have l8 : pb < wr.heap.size := by omega
        have n3 : ¬ pb = wr.heap.size := by omega
        have m3 : ¬ wr.heap.size = pb := by omega
        have n4 : ¬ w.heap.size = wr.heap.size := by omega
        have m4 : ¬ wr.heap.size = w.heap.size := by omega
        have n5 : ¬ w.heap.size + 1 = wr.heap.size := by omega
        have m5 : ¬ wr.heap.size = w.heap.size + 1 := by omega
        clear hg8 hgo
        obtain ⟨c0, c1, c2, c3, c4, c5, c6, c7, c8, f2, f3, f4, f5, f6, f7, f8, _, _⟩ := hbp
        rw [kidsP_obj] at hres
        have HRES := Lib.hid hres
        clear hres
        obtain ⟨y, hy⟩ : ∃ y, y = txt t2 := ⟨_, rfl⟩
        have HYS : Hid (y.size ≤ 9223372036854775807) := by show _ ≤ _; rw [← sl_len, hy, sl_txt]; omega
        have HYT : Hid (sl y = t2) := by show _ = _; rw [hy, sl_txt]
        have HBP2 : Hid (BoxP wr pb s dep (kd : Nat) (a2 : Nat) (s2 : Nat) y 0 0) := by rw [hy]; exact HBP
        rw [← hy] at c5
        by_cases h8 : kd = 8
        case neg =>
          have b8 : ((kd : Int) != 8) = true := by simp; omega
          have HN : Hid (RES = .bad (if kd = 1 then 2 else 3) a2) := by
            show _ = _
            rw [HRES.out]
            unfold nmQ
            rw [if_neg h8, wrongT_if]
          clear CS CSE CBE CV hy
          go_wp2_with fail
          refine (CB kd a2 3 (s2 : Nat) (txt t2) (by omega) _ ?hP).out.mono ?_
          case hP =>
            refine BoxP.keep ?_ HBP.out
            (repeat' (first | with_reducible exact Chg.refl _ _ | with_reducible apply Chg.drew | with_reducible refine Chg.alloc ?_ _ | with_reducible refine Chg.setCell ?_ (fun h => ?_) _))
            all_goals (dsimp only; omega)
          rintro r w9 ⟨rfl, hc9, hst9⟩
          clear c0 c1 c2 c3 c4 c5 c6 c7 c8 f2 f3 f4 f5 f6 f7 f8
          have hB6 : Box3 w9 w.heap.size (.int .i64 0) (.string ⟨#[]⟩) (.slice none 0 0) := Box3.chg hc9 (by omega) (by refine ⟨?_, ?_, ?_, ?_, ?_, ?_⟩ <;> simp [go_sem, *])
          have hB7 : Box3 w9 (w.heap.size + 1) (.int .i64 7) (.string ⟨#[]⟩) (.slice ak n ck) := Box3.chg hc9 (by omega) (by refine ⟨?_, ?_, ?_, ?_, ?_, ?_⟩ <;> simp [go_sem, *])
          have hC9 : PChg pb w w9 := by
            refine Chg.trans ?_ hc9 (fun _ _ h => h)
            (repeat' (first | with_reducible exact hchg | with_reducible apply Chg.drew | with_reducible refine Chg.alloc ?_ _ | with_reducible refine Chg.setCell ?_ (fun h => ?_) _))
            all_goals first | rfl | (dsimp only at h ⊢; omega)
          have hX9 : Chg (fun k => k = pb) wr w9 := by
            refine Chg.trans ?_ hc9 (fun _ _ h => h)
            (repeat' (first | with_reducible exact Chg.refl _ _ | with_reducible apply Chg.drew | with_reducible refine Chg.alloc ?_ _ | with_reducible refine Chg.setCell ?_ (fun h => ?_) _))
            all_goals first | rfl | exact .inr rfl | (dsimp only at h ⊢; omega)
          have hO9 := HOWN.out.chg hX9 (fun k hk h => by omega) (fun k hk h => by have := (HOWN.out.far k hk).1; omega)
          have hz9 : w.heap.size + 2 ≤ w9.heap.size := by have := hX9.size; omega
          have HO9 := Lib.hid hO9
          have HST9 := Lib.hid hst9
          clear hc9 hst9 hX9 hO9
          clear p0 p1 p2 y0 y1 y2 z0 z1 z2 v0 v1 v2
          obtain ⟨p0, p1, p2, y0, y1, y2⟩ := hB6
          obtain ⟨z0, z1, z2, v0, v1, v2⟩ := hB7
          have q6 : w.heap.size < w9.heap.size := by omega
          have q7 : w.heap.size + 1 < w9.heap.size := by omega
          have q8 : pb < w9.heap.size := by omega
          (repeat (first | go_values | go_skip | go_guarded | go_step | go_upon | (go_simp; go_at_K)))
          refine bodyPost_ret (v := .agg (jCells 7 ⟨#[]⟩ ak n ck)) (by simp [jCells, results, Try.results79, go_sem, *]) rfl ?_
          rw [HN.out]
          refine row_fin (op := 2) rfl HO9.out (by omega) hC9 ?_ HST9.out
          (repeat' (first | with_reducible exact Chg.refl _ _ | with_reducible apply Chg.drew | with_reducible refine Chg.alloc ?_ _ | with_reducible refine Chg.setCell ?_ (fun h => ?_) _))
          all_goals rfl
        subst h8
        clear hy
        go_wp2_with fail
        refine (CS s2 (8 : Nat) (a2 : Nat) (txt t2) hsn _ ?hP).out.mono ?_
        case hP =>
          refine BoxP.keep ?_ HBP.out
          (repeat' (first | with_reducible exact Chg.refl _ _ | with_reducible apply Chg.drew | with_reducible refine Chg.alloc ?_ _ | with_reducible refine Chg.setCell ?_ (fun h => ?_) _))
          all_goals (dsimp only; omega)
        rintro r w5 ⟨rfl, hc5, hst5⟩
        clear c0 c1 c2 c3 c4 c5 c6 c7 c8 f2 f3 f4 f5 f6 f7 f8
        have hB8 : Box4 w5 wr.heap.size (.string y) (.int .i64 0) (.string ⟨#[]⟩) (.slice none 0 0) := Box4.chg hc5 (by omega) (by refine ⟨?_, ?_, ?_, ?_, ?_, ?_, ?_, ?_⟩ <;> simp [go_sem, *])
        have hB6 : Box3 w5 w.heap.size (.int .i64 0) (.string ⟨#[]⟩) (.slice none 0 0) := Box3.chg hc5 (by omega) (by refine ⟨?_, ?_, ?_, ?_, ?_, ?_⟩ <;> simp [go_sem, *])
        have hB7 : Box3 w5 (w.heap.size + 1) (.int .i64 7) (.string ⟨#[]⟩) (.slice ak n ck) := Box3.chg hc5 (by omega) (by refine ⟨?_, ?_, ?_, ?_, ?_, ?_⟩ <;> simp [go_sem, *])
        have hC5 : PChg pb w w5 := by
          refine Chg.trans ?_ hc5 (fun _ _ h => h)
          (repeat' (first | with_reducible exact hchg | with_reducible apply Chg.drew | with_reducible refine Chg.alloc ?_ _ | with_reducible refine Chg.setCell ?_ (fun h => ?_) _))
          all_goals first | rfl | (dsimp only at h ⊢; omega)
        have hX5 : Chg (fun k => k = pb) wr w5 := by
          refine Chg.trans ?_ hc5 (fun _ _ h => h)
          (repeat' (first | with_reducible exact Chg.refl _ _ | with_reducible apply Chg.drew | with_reducible refine Chg.alloc ?_ _ | with_reducible refine Chg.setCell ?_ (fun h => ?_) _))
          all_goals first | rfl | exact .inr rfl | (dsimp only at h ⊢; omega)
        have hO5 := HOWN.out.chg hX5 (fun k hk h => by omega) (fun k hk h => by have := (HOWN.out.far k hk).1; omega)
        have hz5 : w.heap.size + 2 ≤ w5.heap.size := by have := hX5.size; omega
        have HO5 := Lib.hid hO5
        have hn5 := fun kd2 a2 s2' t2' => nextAt_tok (sl s) s2 kd2 a2 s2' t2' (by rw [sl_len]; exact hsn)
        have HRES5 : Hid (RES = match nextAt (sl s) s2 with | .err e b => .bad e b | .tok kd1 a1 s1 _ => if kd1 = 6 then (match nextAt (sl s) s1 with | .err e b => .bad e b | .tok kd2 a2 s2 t3 => kidsStep (sl s) dep f0 (within + 1) 2 m t2 kd2 a2 s2 t3) else .bad (if kd1 = 1 then 2 else 3) a1) := by
          show _ = _
          rw [HRES.out]
          unfold nmQ
          rw [if_pos rfl]
          cases nextAt (sl s) s2 with
          | err e b => rfl
          | tok kd1 a1 s1 t1 =>
            simp only
            by_cases h6 : kd1 = 6
            · rw [if_pos h6, if_pos h6]
              try (cases nextAt (sl s) s1 <;> rfl)
            · rw [if_neg h6, if_neg h6, wrongT_if]
        obtain ⟨R1, hR1⟩ : ∃ R1, R1 = nextAt (sl s) s2 := ⟨_, rfl⟩
        rw [← hR1] at hst5 hn5 HRES5
        clear hR1 hO5 HRES
        clear p0 p1 p2 y0 y1 y2 z0 z1 z2 v0 v1 v2
        obtain ⟨p0, p1, p2, y0, y1, y2⟩ := hB6
        obtain ⟨z0, z1, z2, v0, v1, v2⟩ := hB7
        have q6 : w.heap.size < w5.heap.size := by omega
        have q7 : w.heap.size + 1 < w5.heap.size := by omega
        have q8 : pb < w5.heap.size := by omega
        obtain ⟨k0, k1, k2, k3, k4, k5, k6, k7⟩ := hB8
        clear hc5
        cases R1 with
        | err x b =>
          have HN : Hid (RES = .bad x b) := HRES5.out
          obtain ⟨hx1, hx2, hbp⟩ := hst5
          have HBP5 := Lib.hid hbp
          obtain ⟨c0, c1, c2, c3, c4, c5, c6, c7, c8, f2, f3, f4, f5, f6, f7, f8, _, _⟩ := hbp
          have b1 : ((x : Int) == 0) = false := by simp; omega
          clear CS CSE CB CV
          go_wp2_with fail
          refine (CBE 0 0 0 ⟨#[]⟩ x b hx1 3 _ ?hP).out.mono ?_
          case hP =>
            refine BoxP.keep ?_ HBP5.out
            (repeat' (first | with_reducible exact Chg.refl _ _ | with_reducible apply Chg.drew | with_reducible refine Chg.alloc ?_ _ | with_reducible refine Chg.setCell ?_ (fun h => ?_) _))
            all_goals (dsimp only; omega)
          rintro r w9 ⟨rfl, hc9, hst9⟩
          clear c0 c1 c2 c3 c4 c5 c6 c7 c8 f2 f3 f4 f5 f6 f7 f8
          have hB6 : Box3 w9 w.heap.size (.int .i64 0) (.string ⟨#[]⟩) (.slice none 0 0) := Box3.chg hc9 (by omega) (by refine ⟨?_, ?_, ?_, ?_, ?_, ?_⟩ <;> simp [go_sem, *])
          have hB7 : Box3 w9 (w.heap.size + 1) (.int .i64 7) (.string ⟨#[]⟩) (.slice ak n ck) := Box3.chg hc9 (by omega) (by refine ⟨?_, ?_, ?_, ?_, ?_, ?_⟩ <;> simp [go_sem, *])
          have hC9 : PChg pb w w9 := by
            refine Chg.trans ?_ hc9 (fun _ _ h => h)
            (repeat' (first | with_reducible exact hC5 | with_reducible apply Chg.drew | with_reducible refine Chg.alloc ?_ _ | with_reducible refine Chg.setCell ?_ (fun h => ?_) _))
            all_goals first | rfl | (dsimp only at h ⊢; omega)
          have hX9 : Chg (fun k => k = pb) w5 w9 := by
            refine Chg.trans ?_ hc9 (fun _ _ h => h)
            (repeat' (first | with_reducible exact Chg.refl _ _ | with_reducible apply Chg.drew | with_reducible refine Chg.alloc ?_ _ | with_reducible refine Chg.setCell ?_ (fun h => ?_) _))
            all_goals first | rfl | exact .inr rfl | (dsimp only at h ⊢; omega)
          have hO9 := HO5.out.chg hX9 (fun k hk h => by omega) (fun k hk h => by have := (HO5.out.far k hk).1; omega)
          have hz9 : w.heap.size + 2 ≤ w9.heap.size := by have := hX9.size; omega
          have HO9 := Lib.hid hO9
          have HST9 := Lib.hid hst9
          clear hc9 hst9 hX9 hO9
          clear p0 p1 p2 y0 y1 y2 z0 z1 z2 v0 v1 v2
          obtain ⟨p0, p1, p2, y0, y1, y2⟩ := hB6
          obtain ⟨z0, z1, z2, v0, v1, v2⟩ := hB7
          have q6 : w.heap.size < w9.heap.size := by omega
          have q7 : w.heap.size + 1 < w9.heap.size := by omega
          have q8 : pb < w9.heap.size := by omega
          (repeat (first | go_values | go_skip | go_guarded | go_step | go_upon | (go_simp; go_at_K)))
          refine bodyPost_ret (v := .agg (jCells 7 ⟨#[]⟩ ak n ck)) (by simp [jCells, results, Try.results79, go_sem, *]) rfl ?_
          rw [HN.out]
          refine row_fin (op := 2) rfl HO9.out (by omega) hC9 ?_ ⟨hx1, hx2, _, _, _, _, HST9.out⟩
          (repeat' (first | with_reducible exact Chg.refl _ _ | with_reducible apply Chg.drew | with_reducible refine Chg.alloc ?_ _ | with_reducible refine Chg.setCell ?_ (fun h => ?_) _))
          all_goals rfl
        | tok kd1 a1 s1 t1 =>
          obtain ⟨o1, o2, o3, o4, o5, o6⟩ := hn5 _ _ _ _ rfl
          rw [sl_len] at o2 o4 o6
          have HBP5 : Hid (BoxP w5 pb s dep (kd1 : Nat) (a1 : Nat) (s1 : Nat) (txt t1) 0 0) := hst5
          obtain ⟨c0, c1, c2, c3, c4, c5, c6, c7, c8, f2, f3, f4, f5, f6, f7, f8, _, _⟩ := HBP5.out
          clear hn5 hst5
          by_cases h6 : kd1 = 6
          case neg =>
            have b6 : ((kd1 : Int) != 6) = true := by simp; omega
            have HN : Hid (RES = .bad (if kd1 = 1 then 2 else 3) a1) := by
              show _ = _
              rw [HRES5.out]
              try simp only
              rw [if_neg h6]
            clear CS CSE CBE CV
            go_wp2_with fail
            refine (CB kd1 a1 3 (s1 : Nat) (txt t1) (by omega) _ ?hP).out.mono ?_
            case hP =>
              refine BoxP.keep ?_ HBP5.out
              (repeat' (first | with_reducible exact Chg.refl _ _ | with_reducible apply Chg.drew | with_reducible refine Chg.alloc ?_ _ | with_reducible refine Chg.setCell ?_ (fun h => ?_) _))
              all_goals (dsimp only; omega)
            rintro r w9 ⟨rfl, hc9, hst9⟩
            clear c0 c1 c2 c3 c4 c5 c6 c7 c8 f2 f3 f4 f5 f6 f7 f8
            have hB6 : Box3 w9 w.heap.size (.int .i64 0) (.string ⟨#[]⟩) (.slice none 0 0) := Box3.chg hc9 (by omega) (by refine ⟨?_, ?_, ?_, ?_, ?_, ?_⟩ <;> simp [go_sem, *])
            have hB7 : Box3 w9 (w.heap.size + 1) (.int .i64 7) (.string ⟨#[]⟩) (.slice ak n ck) := Box3.chg hc9 (by omega) (by refine ⟨?_, ?_, ?_, ?_, ?_, ?_⟩ <;> simp [go_sem, *])
            have hC9 : PChg pb w w9 := by
              refine Chg.trans ?_ hc9 (fun _ _ h => h)
              (repeat' (first | with_reducible exact hC5 | with_reducible apply Chg.drew | with_reducible refine Chg.alloc ?_ _ | with_reducible refine Chg.setCell ?_ (fun h => ?_) _))
              all_goals first | rfl | (dsimp only at h ⊢; omega)
            have hX9 : Chg (fun k => k = pb) w5 w9 := by
              refine Chg.trans ?_ hc9 (fun _ _ h => h)
              (repeat' (first | with_reducible exact Chg.refl _ _ | with_reducible apply Chg.drew | with_reducible refine Chg.alloc ?_ _ | with_reducible refine Chg.setCell ?_ (fun h => ?_) _))
              all_goals first | rfl | exact .inr rfl | (dsimp only at h ⊢; omega)
            have hO9 := HO5.out.chg hX9 (fun k hk h => by omega) (fun k hk h => by have := (HO5.out.far k hk).1; omega)
            have hz9 : w.heap.size + 2 ≤ w9.heap.size := by have := hX9.size; omega
            have HO9 := Lib.hid hO9
            have HST9 := Lib.hid hst9
            clear hc9 hst9 hX9 hO9
            clear p0 p1 p2 y0 y1 y2 z0 z1 z2 v0 v1 v2
            obtain ⟨p0, p1, p2, y0, y1, y2⟩ := hB6
            obtain ⟨z0, z1, z2, v0, v1, v2⟩ := hB7
            have q6 : w.heap.size < w9.heap.size := by omega
            have q7 : w.heap.size + 1 < w9.heap.size := by omega
            have q8 : pb < w9.heap.size := by omega
            (repeat (first | go_values | go_skip | go_guarded | go_step | go_upon | (go_simp; go_at_K)))
            refine bodyPost_ret (v := .agg (jCells 7 ⟨#[]⟩ ak n ck)) (by simp [jCells, results, Try.results79, go_sem, *]) rfl ?_
            rw [HN.out]
            refine row_fin (op := 2) rfl HO9.out (by omega) hC9 ?_ HST9.out
            (repeat' (first | with_reducible exact Chg.refl _ _ | with_reducible apply Chg.drew | with_reducible refine Chg.alloc ?_ _ | with_reducible refine Chg.setCell ?_ (fun h => ?_) _))
            all_goals rfl
          subst h6
          have hs21 : s2 < s1 := o3 (by omega)
          go_wp2_with fail
          refine (CS s1 (6 : Nat) (a1 : Nat) (txt t1) o2 _ ?hP).out.mono ?_
          case hP =>
            refine BoxP.keep ?_ HBP5.out
            (repeat' (first | with_reducible exact Chg.refl _ _ | with_reducible apply Chg.drew | with_reducible refine Chg.alloc ?_ _ | with_reducible refine Chg.setCell ?_ (fun h => ?_) _))
            all_goals (dsimp only; omega)
          rintro r w6 ⟨rfl, hc6, hst6⟩
          clear c0 c1 c2 c3 c4 c5 c6 c7 c8 f2 f3 f4 f5 f6 f7 f8
          have hB8 : Box4 w6 wr.heap.size (.string y) (.int .i64 0) (.string ⟨#[]⟩) (.slice none 0 0) := Box4.chg hc6 (by omega) (by refine ⟨?_, ?_, ?_, ?_, ?_, ?_, ?_, ?_⟩ <;> simp [go_sem, *])
          have hB6 : Box3 w6 w.heap.size (.int .i64 0) (.string ⟨#[]⟩) (.slice none 0 0) := Box3.chg hc6 (by omega) (by refine ⟨?_, ?_, ?_, ?_, ?_, ?_⟩ <;> simp [go_sem, *])
          have hB7 : Box3 w6 (w.heap.size + 1) (.int .i64 7) (.string ⟨#[]⟩) (.slice ak n ck) := Box3.chg hc6 (by omega) (by refine ⟨?_, ?_, ?_, ?_, ?_, ?_⟩ <;> simp [go_sem, *])
          have hC6 : PChg pb w w6 := by
            refine Chg.trans ?_ hc6 (fun _ _ h => h)
            (repeat' (first | with_reducible exact hC5 | with_reducible apply Chg.drew | with_reducible refine Chg.alloc ?_ _ | with_reducible refine Chg.setCell ?_ (fun h => ?_) _))
            all_goals first | rfl | (dsimp only at h ⊢; omega)
          have hX6 : Chg (fun k => k = pb) w5 w6 := by
            refine Chg.trans ?_ hc6 (fun _ _ h => h)
            (repeat' (first | with_reducible exact Chg.refl _ _ | with_reducible apply Chg.drew | with_reducible refine Chg.alloc ?_ _ | with_reducible refine Chg.setCell ?_ (fun h => ?_) _))
            all_goals first | rfl | exact .inr rfl | (dsimp only at h ⊢; omega)
          have hO6 := HO5.out.chg hX6 (fun k hk h => by omega) (fun k hk h => by have := (HO5.out.far k hk).1; omega)
          have hz6 : w.heap.size + 2 ≤ w6.heap.size := by have := hX6.size; omega
          have HO6 := Lib.hid hO6
          have hn6 := fun kd2 a2 s2' t2' => nextAt_tok (sl s) s1 kd2 a2 s2' t2' (by rw [sl_len]; exact o2)
          have HRES6 : Hid (RES = match nextAt (sl s) s1 with | .err e b => .bad e b | .tok kd2 a2 s2 t3 => kidsStep (sl s) dep f0 (within + 1) 2 m t2 kd2 a2 s2 t3) := by
            show _ = _
            rw [HRES5.out]
            try simp only
            rw [if_pos trivial]
            try (cases nextAt (sl s) s1 <;> rfl)
          obtain ⟨R2, hR2⟩ : ∃ R2, R2 = nextAt (sl s) s1 := ⟨_, rfl⟩
          rw [← hR2] at hst6 hn6 HRES6
          have hW6 : PChg pb wr w6 := hX5.trans hX6 (fun _ _ h => h)
          have hz8 : wr.heap.size < w6.heap.size := by simpa using cell_block hB8.1
          clear hR2 hX6 hO6 HRES5 hX5 hC5 HO5 HBP5 o1 o3 o4 o5 o6 hz5
          clear q6 q7 q8
          clear p0 p1 p2 y0 y1 y2 z0 z1 z2 v0 v1 v2
          obtain ⟨p0, p1, p2, y0, y1, y2⟩ := hB6
          obtain ⟨z0, z1, z2, v0, v1, v2⟩ := hB7
          have q6 : w.heap.size < w6.heap.size := by omega
          have q7 : w.heap.size + 1 < w6.heap.size := by omega
          have q8 : pb < w6.heap.size := by omega
          clear k0 k1 k2 k3 k4 k5 k6 k7
          obtain ⟨k0, k1, k2, k3, k4, k5, k6, k7⟩ := hB8
          clear hc6
          cases R2 with
          | err x b =>
            have HN : Hid (RES = .bad x b) := HRES6.out
            have HST6 := Lib.hid hst6.e
            obtain ⟨hx1, hx2, hbp⟩ := hst6
            obtain ⟨c0, c1, c2, c3, c4, c5, c6, c7, c8, f2, f3, f4, f5, f6, f7, f8, _, _⟩ := hbp
            have b1 : ((x : Int) == 0) = false := by simp; omega
            have b2 : ((x : Int) != 0) = true := by simp; omega
            clear CS CSE CB CBE CV
            go_wp2_with fail
            (repeat (first | go_values | go_skip | go_guarded | go_step | go_upon | (go_simp; go_at_K)))
            refine bodyPost_ret (v := .agg (jCells 7 ⟨#[]⟩ ak n ck)) (by simp [jCells, results, Try.results79, go_sem, *]) rfl ?_
            rw [HN.out]
            refine row_fin (op := 2) rfl HO6.out (by omega) hC6 ?_ HST6.out
            (repeat' (first | with_reducible exact Chg.refl _ _ | with_reducible apply Chg.drew | with_reducible refine Chg.alloc ?_ _ | with_reducible refine Chg.setCell ?_ (fun h => ?_) _))
            all_goals rfl
          | tok kd3 a3 s3 t3 =>
            obtain ⟨o1, o2', o3, o4, o5, o6⟩ := hn6 _ _ _ _ rfl
            rw [sl_len] at o2' o4 o6
            have hs13 : s1 ≤ s3 := o1
            have HBPV : Hid (BoxP w6 pb s dep (kd3 : Nat) (a3 : Nat) (s3 : Nat) (txt t3) 0 0) := hst6
            obtain ⟨c0, c1, c2, c3, c4, c5, c6, c7, c8, f2, f3, f4, f5, f6, f7, f8, _, _⟩ := HBPV.out
            have HS : Hid (RES = kidsStep (sl s) dep f0 (within + 1) 2 m t2 kd3 a3 s3 t3) := HRES6.out
            have htl2 : t3.length ≤ 2000000 := by omega
            have hsn2 : s3 ≤ s.size := o2'
            have hfu1 : 1 ≤ f0 := by omega
            have hfu2 : kd3 = 2 ∨ kd3 = 4 → 2 * (s.size - s3) + 3 ≤ f0 := by intro _; omega
            clear hn6 hst6
            obtain ⟨RV, hRV⟩ : ∃ RV, RV = valP (sl s) dep f0 (within + 1) kd3 a3 s3 t3 := ⟨_, rfl⟩
            have CV1 := fun W hP => CV kd3 a3 s3 f0 t3 htl2 hsn2 hfu1 hfu2 W hP
            rw [← hRV] at CV1
            have HRV := Lib.hid hRV
            clear hRV CV
            go_wp2_with fail
            refine (CV1 _ ?hP).out.mono ?_
            case hP =>
              refine BoxP.keep ?_ HBPV.out
              (repeat' (first | with_reducible exact Chg.refl _ _ | with_reducible apply Chg.drew | with_reducible refine Chg.alloc ?_ _ | with_reducible refine Chg.setCell ?_ (fun h => ?_) _))
              all_goals (dsimp only; omega)
            rintro r w3 ⟨hc3, jv, cv, rfl, hrd, hv⟩
            obtain ⟨jk, jt, jm⟩ := jv
            have hrd0 := hrd
            obtain ⟨jx, bk, nk, dk, rfl, -⟩ := hrd0
            have hB6 : Box3 w3 w.heap.size (.int .i64 0) (.string ⟨#[]⟩) (.slice none 0 0) := Box3.chg hc3 (by omega) (by refine ⟨?_, ?_, ?_, ?_, ?_, ?_⟩ <;> simp [go_sem, *])
            have hB7 : Box3 w3 (w.heap.size + 1) (.int .i64 7) (.string ⟨#[]⟩) (.slice ak n ck) := Box3.chg hc3 (by omega) (by refine ⟨?_, ?_, ?_, ?_, ?_, ?_⟩ <;> simp [go_sem, *])
            have hB8 : Box4 w3 wr.heap.size (.string y) (.int .i64 0) (.string ⟨#[]⟩) (.slice none 0 0) := Box4.chg hc3 (by omega) (by refine ⟨?_, ?_, ?_, ?_, ?_, ?_, ?_, ?_⟩ <;> simp [go_sem, *])
            have hchg3 : PChg pb wr w3 := by
              refine Chg.trans ?_ hc3 (fun _ _ h => h)
              (repeat' (first | with_reducible exact hW6 | with_reducible apply Chg.drew | with_reducible refine Chg.alloc ?_ _ | with_reducible refine Chg.setCell ?_ (fun h => ?_) _))
              all_goals first | rfl | (dsimp only at h ⊢; omega)
            have hz3 : wr.heap.size < w3.heap.size := by have := hB8.1; simpa using cell_block this
            have HO3 := Lib.hid ((HOWN.out.bound).chg hchg3 (fun k hk h => by omega) (fun k hk h => by have := HGO.out k hk; omega))
            have HRD := Lib.hid (hrd.imp (S' := fun k => wr.heap.size < k) (fun k _ h => by first | omega | (simp at h; omega)))
            have HV := Lib.hid hv
            have HC03 : Hid (PChg pb w w3) := hchg.trans hchg3 (fun _ _ h => h)
            have HLT : Hid (∀ k, k < w.heap.size → k < wr.heap.size) := Lib.hid fun k hk => by omega
            clear hc3 hrd hv hchg3 p0 p1 p2 y0 y1 y2 z0 z1 z2 v0 v1 v2 c0 c1 c2 c3 c4 c5 c6 c7 c8 f2 f3 f4 f5 f6 f7 f8 k0 k1 k2 k3 k4 k5 k6 k7 q6 q7 q8
            obtain ⟨p0, p1, p2, y0, y1, y2⟩ := hB6
            obtain ⟨z0, z1, z2, v0, v1, v2⟩ := hB7
            obtain ⟨k0, k1, k2, k3, k4, k5, k6, k7⟩ := hB8
            have q6 : w.heap.size < w3.heap.size := by omega
            have q7 : w.heap.size + 1 < w3.heap.size := by omega
            have q8 : pb < w3.heap.size := by omega
            simp only [jCells]
            go_wp2_with (at_builtin; refine wpList_appM (v := .slice ak n ck) (f := m) (g := .cons (sl y) (.mk jk jt jm) .nil) (B := w.heap.size + 2) (L := fun k => w.heap.size + 2 ≤ k) (S1 := fun k => wr.heap.size < k) (sv := .slice (some ⟨w3.heap.size, 0, none⟩) 1 1) (by rfl) _ _ (by rfl) (by rfl) ?oO (by rfl) ?oS ?oL ?oB ?oH ?_)
            case oO =>
              refine (HO3.out.chg (X := fun k => k = wr.heap.size) ?_ (fun k hk h => by omega) (fun k hk h => by have := HGO.out k hk; omega)).lift (fun k hk => hk.1)
              (repeat' (first | with_reducible exact Chg.refl _ _ | with_reducible apply Chg.drew | with_reducible refine Chg.alloc ?_ _ | with_reducible refine Chg.setCell ?_ (fun h => ?_) _))
              all_goals first | rfl | (dsimp only; omega)
            case oS =>
              refine SrcM.one (c := jCells jk jx bk nk dk) ?_ HYS.out ?_
              · refine HRD.out.keep (KeepS.chg (X := fun k => k ≤ wr.heap.size) ?_ (fun k hk h => by omega))
                (repeat' (first | with_reducible exact Chg.refl _ _ | with_reducible apply Chg.drew | with_reducible refine Chg.alloc ?_ _ | with_reducible refine Chg.setCell ?_ (fun h => ?_) _))
                all_goals (dsimp only; omega)
              · intro j u hj
                match j with
                | 0 => simp [memCells] at hj; subst hj; simp [go_sem]
                | 1 => simp [memCells] at hj; subst hj; simp [go_sem]
                | 2 => simp [memCells] at hj; subst hj; simp [go_sem]
                | 3 => simp [memCells] at hj; subst hj; simp [go_sem]
                | j + 4 => simp [memCells] at hj
            case oL => exact fun k hk => ⟨by omega, fun e => by have := HGO.out k e; omega⟩
            case oB => simp only [M.len]; omega
            case oH => simp; omega
            intro u4 w4 ho4 ha4
            obtain ⟨ak4, ck4, hu4, -⟩ := ho4.reads (fun k hk => hk)
            subst hu4
            have hX34 : Chg (fun k => k ≠ pb) w3 w4 := by
              refine Chg.trans ?_ ha4.chg (fun i hi e => by have := HGO.out i e; omega)
              (repeat' (first | with_reducible exact Chg.refl _ _ | with_reducible apply Chg.drew | with_reducible refine Chg.alloc ?_ _ | with_reducible refine Chg.setCell ?_ (fun h => ?_) _))
              all_goals (dsimp only; omega)
            have hB6 : Box3 w4 w.heap.size (.int .i64 0) (.string ⟨#[]⟩) (.slice none 0 0) := Box3.app ha4 (fun e => by have := HGO.out _ e; omega) (by refine ⟨?_, ?_, ?_, ?_, ?_, ?_⟩ <;> simp [go_sem, *])
            have hB7 : Box3 w4 (w.heap.size + 1) (.int .i64 7) (.string ⟨#[]⟩) (.slice ak n ck) := Box3.app ha4 (fun e => by have := HGO.out _ e; omega) (by refine ⟨?_, ?_, ?_, ?_, ?_, ?_⟩ <;> simp [go_sem, *])
            have hC4 : PChg pb w w4 := by
              refine Chg.trans ?_ ha4.chg (fun i hi e => by have := HGO.out i e; omega)
              (repeat' (first | with_reducible exact HC03.out | with_reducible apply Chg.drew | with_reducible refine Chg.alloc ?_ _ | with_reducible refine Chg.setCell ?_ (fun h => ?_) _))
              all_goals first | rfl | (dsimp only at h ⊢; omega)
            have hz4 : w.heap.size + 2 ≤ w4.heap.size := by have := hX34.size; omega
            obtain ⟨m2, hm2⟩ : ∃ m2, m2 = m.append (.cons (sl y) (.mk jk jt jm) .nil) := ⟨_, rfl⟩
            rw [← hm2] at ho4 ha4 ⊢
            have hm2l : m2.len = m.len + 1 := by rw [hm2, M.append_len]; rfl
            have HSN : Hid (m.snoc t2 (.mk jk jt jm) = m2) := by show _ = _; rw [hm2, HYT.out]; rfl
            obtain ⟨n4, hn4⟩ : ∃ n4, n4 = m2.len := ⟨_, rfl⟩
            rw [← hn4] at ho4 ha4 ⊢
            have HO4 := Lib.hid ho4
            have HX34 := Lib.hid hX34
            have HC4 := Lib.hid hC4
            clear hm2 hn4 ho4 ha4 hX34 hC4 HO3 HRD HC03 p0 p1 p2 y0 y1 y2 z0 z1 z2 v0 v1 v2 k0 k1 k2 k3 k4 k5 k6 k7 q6 q7 q8 CV1
            obtain ⟨p0, p1, p2, y0, y1, y2⟩ := hB6
            obtain ⟨z0, z1, z2, v0, v1, v2⟩ := hB7
            have q6 : w.heap.size < w4.heap.size := by omega
            have q7 : w.heap.size + 1 < w4.heap.size := by omega
            have q8 : pb < w4.heap.size := by omega
            cases RV with
            | bad x b =>
              have hse := StE.keep HX34.out HV.out
              have HN : Hid (RES = .bad x b) := by show _ = _; rw [HS.out, step_bad' HRV.out.symm]
              obtain ⟨hx1, hx2, k9, a9, e9, t9, hbp⟩ := hse
              have HBP9 := Lib.hid hbp
              obtain ⟨c0, c1, c2, c3, c4, c5, c6, c7, c8, f2, f3, f4, f5, f6, f7, f8, _, _⟩ := hbp
              have b1 : ((x : Int) == 0) = false := by simp; omega
              by_cases h7 : k9 = 7
              · have b7 : (k9 != 7) = false := by simp [h7]
                go_wp2_with fail
                refine (CSE k9 a9 e9 t9 x b hx1 _ ?hP).out.mono ?_
                case hP =>
                  refine BoxP.keep ?_ HBP9.out
                  (repeat' (first | with_reducible exact Chg.refl _ _ | with_reducible apply Chg.drew | with_reducible refine Chg.alloc ?_ _ | with_reducible refine Chg.setCell ?_ (fun h => ?_) _))
                  all_goals (dsimp only; omega)
                rintro r w9 ⟨rfl, hc9, hst9⟩
                clear c0 c1 c2 c3 c4 c5 c6 c7 c8 f2 f3 f4 f5 f6 f7 f8
                have hB6 : Box3 w9 w.heap.size (.int .i64 0) (.string ⟨#[]⟩) (.slice none 0 0) := Box3.chg hc9 (by omega) (by refine ⟨?_, ?_, ?_, ?_, ?_, ?_⟩ <;> simp [go_sem, *])
                have hB7 : Box3 w9 (w.heap.size + 1) (.int .i64 7) (.string ⟨#[]⟩) (.slice ak4 n4 ck4) := Box3.chg hc9 (by omega) (by refine ⟨?_, ?_, ?_, ?_, ?_, ?_⟩ <;> simp [go_sem, *])
                have hC9 : PChg pb w w9 := by
                  refine Chg.trans ?_ hc9 (fun _ _ h => h)
                  (repeat' (first | with_reducible exact HC4.out | with_reducible apply Chg.drew | with_reducible refine Chg.alloc ?_ _ | with_reducible refine Chg.setCell ?_ (fun h => ?_) _))
                  all_goals first | rfl | (dsimp only at h ⊢; omega)
                have hX9 : Chg (fun k => k = pb ∨ k = w.heap.size + 1) w4 w9 := by
                  refine Chg.trans ?_ hc9 (fun _ _ h => .inl h)
                  (repeat' (first | with_reducible exact Chg.refl _ _ | with_reducible apply Chg.drew | with_reducible refine Chg.alloc ?_ _ | with_reducible refine Chg.setCell ?_ (fun h => ?_) _))
                  all_goals first | rfl | exact .inr rfl | (dsimp only at h ⊢; omega)
                have hO9 := HO4.out.chg hX9 (fun k hk h => by omega) (fun k hk h => by have := (HO4.out.far k hk).1; omega)
                have hz9 : w.heap.size + 2 ≤ w9.heap.size := by have := hX9.size; omega
                have HO9 := Lib.hid hO9
                go_wp2_with fail
                go_roundw
                case rel => exact ⟨.err x b, m2, ak4, n4, ck4, hB6, hB7, HO9.out, hC9, hz9, ⟨hx1, hx2, _, _, _, _, hst9⟩, HN.out⟩
                case measure =>
                  rw [HM.out, rMeas_err hx1 hst9.c6]
                  omega
              · have b7 : (k9 != 7) = true := by simpa using h7
                go_wp2_with fail
                refine (CBE k9 a9 e9 t9 x b hx1 3 _ ?hP).out.mono ?_
                case hP =>
                  refine BoxP.keep ?_ HBP9.out
                  (repeat' (first | with_reducible exact Chg.refl _ _ | with_reducible apply Chg.drew | with_reducible refine Chg.alloc ?_ _ | with_reducible refine Chg.setCell ?_ (fun h => ?_) _))
                  all_goals (dsimp only; omega)
                rintro r w9 ⟨rfl, hc9, hst9⟩
                clear c0 c1 c2 c3 c4 c5 c6 c7 c8 f2 f3 f4 f5 f6 f7 f8
                have hB6 : Box3 w9 w.heap.size (.int .i64 0) (.string ⟨#[]⟩) (.slice none 0 0) := Box3.chg hc9 (by omega) (by refine ⟨?_, ?_, ?_, ?_, ?_, ?_⟩ <;> simp [go_sem, *])
                have hB7 : Box3 w9 (w.heap.size + 1) (.int .i64 7) (.string ⟨#[]⟩) (.slice ak4 n4 ck4) := Box3.chg hc9 (by omega) (by refine ⟨?_, ?_, ?_, ?_, ?_, ?_⟩ <;> simp [go_sem, *])
                have hC9 : PChg pb w w9 := by
                  refine Chg.trans ?_ hc9 (fun _ _ h => h)
                  (repeat' (first | with_reducible exact HC4.out | with_reducible apply Chg.drew | with_reducible refine Chg.alloc ?_ _ | with_reducible refine Chg.setCell ?_ (fun h => ?_) _))
                  all_goals first | rfl | (dsimp only at h ⊢; omega)
                have hX9 : Chg (fun k => k = pb ∨ k = w.heap.size + 1) w4 w9 := by
                  refine Chg.trans ?_ hc9 (fun _ _ h => .inl h)
                  (repeat' (first | with_reducible exact Chg.refl _ _ | with_reducible apply Chg.drew | with_reducible refine Chg.alloc ?_ _ | with_reducible refine Chg.setCell ?_ (fun h => ?_) _))
                  all_goals first | rfl | exact .inr rfl | (dsimp only at h ⊢; omega)
                have hO9 := HO4.out.chg hX9 (fun k hk h => by omega) (fun k hk h => by have := (HO4.out.far k hk).1; omega)
                have hz9 : w.heap.size + 2 ≤ w9.heap.size := by have := hX9.size; omega
                have HO9 := Lib.hid hO9
                have HST9 := Lib.hid hst9
                clear hc9 hst9 hX9 hO9
                clear p0 p1 p2 y0 y1 y2 z0 z1 z2 v0 v1 v2
                obtain ⟨p0, p1, p2, y0, y1, y2⟩ := hB6
                obtain ⟨z0, z1, z2, v0, v1, v2⟩ := hB7
                have q6 : w.heap.size < w9.heap.size := by omega
                have q7 : w.heap.size + 1 < w9.heap.size := by omega
                have q8 : pb < w9.heap.size := by omega
                (repeat (first | go_values | go_skip | go_guarded | go_step | go_upon | (go_simp; go_at_K)))
                refine bodyPost_ret (v := .agg (jCells 7 ⟨#[]⟩ ak4 n4 ck4)) (by simp [jCells, results, Try.results79, go_sem, *]) rfl ?_
                rw [HN.out]
                refine row_fin (op := 2) rfl HO9.out (by omega) hC9 ?_ ⟨hx1, hx2, _, _, _, _, HST9.out⟩
                (repeat' (first | with_reducible exact Chg.refl _ _ | with_reducible apply Chg.drew | with_reducible refine Chg.alloc ?_ _ | with_reducible refine Chg.setCell ?_ (fun h => ?_) _))
                all_goals rfl
            | ok j' p =>
              obtain ⟨hj, hp1, hp2, hst3⟩ := HV.out
              subst hj
              have hkd1 : kd3 ≠ 1 := fun e => by have hh := HRV.out; rw [e] at hh; exact valP_end _ _ _ _ _ _ _ _ _ hh
              have hst4 := StZ.keep HX34.out hst3
              have hn4' := fun kd2 a2 s2 t2 => nextAt_tok (sl s) p kd2 a2 s2 t2 (by rw [sl_len]; exact hp2)
              obtain ⟨R4, hR4⟩ : ∃ R4, R4 = nextAt (sl s) p := ⟨_, rfl⟩
              rw [← hR4] at hst4 hn4'
              have HR4 := Lib.hid hR4
              clear hst3 hR4
              cases R4 with
              | err x b =>
                have HN : Hid (RES = .bad x b) := by show _ = _; rw [HS.out, step_err' HRV.out.symm HR4.out.symm]
                obtain ⟨hx1, hx2, hbp⟩ := hst4
                have HBP9 := Lib.hid hbp
                obtain ⟨c0, c1, c2, c3, c4, c5, c6, c7, c8, f2, f3, f4, f5, f6, f7, f8, _, _⟩ := hbp
                have b1 : ((x : Int) == 0) = false := by simp; omega
                go_wp2_with fail
                refine (CBE 0 0 0 ⟨#[]⟩ x b hx1 3 _ ?hP).out.mono ?_
                case hP =>
                  refine BoxP.keep ?_ HBP9.out
                  (repeat' (first | with_reducible exact Chg.refl _ _ | with_reducible apply Chg.drew | with_reducible refine Chg.alloc ?_ _ | with_reducible refine Chg.setCell ?_ (fun h => ?_) _))
                  all_goals (dsimp only; omega)
                rintro r w9 ⟨rfl, hc9, hst9⟩
                clear c0 c1 c2 c3 c4 c5 c6 c7 c8 f2 f3 f4 f5 f6 f7 f8
                have hB6 : Box3 w9 w.heap.size (.int .i64 0) (.string ⟨#[]⟩) (.slice none 0 0) := Box3.chg hc9 (by omega) (by refine ⟨?_, ?_, ?_, ?_, ?_, ?_⟩ <;> simp [go_sem, *])
                have hB7 : Box3 w9 (w.heap.size + 1) (.int .i64 7) (.string ⟨#[]⟩) (.slice ak4 n4 ck4) := Box3.chg hc9 (by omega) (by refine ⟨?_, ?_, ?_, ?_, ?_, ?_⟩ <;> simp [go_sem, *])
                have hC9 : PChg pb w w9 := by
                  refine Chg.trans ?_ hc9 (fun _ _ h => h)
                  (repeat' (first | with_reducible exact HC4.out | with_reducible apply Chg.drew | with_reducible refine Chg.alloc ?_ _ | with_reducible refine Chg.setCell ?_ (fun h => ?_) _))
                  all_goals first | rfl | (dsimp only at h ⊢; omega)
                have hX9 : Chg (fun k => k = pb ∨ k = w.heap.size + 1) w4 w9 := by
                  refine Chg.trans ?_ hc9 (fun _ _ h => .inl h)
                  (repeat' (first | with_reducible exact Chg.refl _ _ | with_reducible apply Chg.drew | with_reducible refine Chg.alloc ?_ _ | with_reducible refine Chg.setCell ?_ (fun h => ?_) _))
                  all_goals first | rfl | exact .inr rfl | (dsimp only at h ⊢; omega)
                have hO9 := HO4.out.chg hX9 (fun k hk h => by omega) (fun k hk h => by have := (HO4.out.far k hk).1; omega)
                have hz9 : w.heap.size + 2 ≤ w9.heap.size := by have := hX9.size; omega
                have HO9 := Lib.hid hO9
                have HST9 := Lib.hid hst9
                clear hc9 hst9 hX9 hO9
                clear p0 p1 p2 y0 y1 y2 z0 z1 z2 v0 v1 v2
                obtain ⟨p0, p1, p2, y0, y1, y2⟩ := hB6
                obtain ⟨z0, z1, z2, v0, v1, v2⟩ := hB7
                have q6 : w.heap.size < w9.heap.size := by omega
                have q7 : w.heap.size + 1 < w9.heap.size := by omega
                have q8 : pb < w9.heap.size := by omega
                (repeat (first | go_values | go_skip | go_guarded | go_step | go_upon | (go_simp; go_at_K)))
                refine bodyPost_ret (v := .agg (jCells 7 ⟨#[]⟩ ak4 n4 ck4)) (by simp [jCells, results, Try.results79, go_sem, *]) rfl ?_
                rw [HN.out]
                refine row_fin (op := 2) rfl HO9.out (by omega) hC9 ?_ ⟨hx1, hx2, _, _, _, _, HST9.out⟩
                (repeat' (first | with_reducible exact Chg.refl _ _ | with_reducible apply Chg.drew | with_reducible refine Chg.alloc ?_ _ | with_reducible refine Chg.setCell ?_ (fun h => ?_) _))
                all_goals rfl
              | tok kd5 a5 s5 t5 =>
                obtain ⟨o1, o2, o3, o4, o5, o6⟩ := hn4' _ _ _ _ rfl
                rw [sl_len] at o2 o4 o6
                have hbp : BoxP w4 pb s dep (kd5 : Nat) (a5 : Nat) (s5 : Nat) (txt t5) 0 0 := hst4
                have HBP9 := Lib.hid hbp
                obtain ⟨c0, c1, c2, c3, c4, c5, c6, c7, c8, f2, f3, f4, f5, f6, f7, f8, _, _⟩ := hbp
                clear hn4' hst4
                by_cases hl5 : kd5 = 3
                · have HN : Hid (RES = .ok m2 s5) := by show _ = _; rw [HS.out, step_last' HRV.out.symm HR4.out.symm hl5, HSN.out]
                  subst hl5
                  go_wp2_with fail
                  refine (CS s5 (3 : Nat) (a5 : Nat) (txt t5) o2 _ ?hP).out.mono ?_
                  case hP =>
                    refine BoxP.keep ?_ HBP9.out
                    (repeat' (first | with_reducible exact Chg.refl _ _ | with_reducible apply Chg.drew | with_reducible refine Chg.alloc ?_ _ | with_reducible refine Chg.setCell ?_ (fun h => ?_) _))
                    all_goals (dsimp only; omega)
                  rintro r w9 ⟨rfl, hc9, hst9⟩
                  clear c0 c1 c2 c3 c4 c5 c6 c7 c8 f2 f3 f4 f5 f6 f7 f8
                  have hB6 : Box3 w9 w.heap.size (.int .i64 0) (.string ⟨#[]⟩) (.slice none 0 0) := Box3.chg hc9 (by omega) (by refine ⟨?_, ?_, ?_, ?_, ?_, ?_⟩ <;> simp [go_sem, *])
                  have hB7 : Box3 w9 (w.heap.size + 1) (.int .i64 7) (.string ⟨#[]⟩) (.slice ak4 n4 ck4) := Box3.chg hc9 (by omega) (by refine ⟨?_, ?_, ?_, ?_, ?_, ?_⟩ <;> simp [go_sem, *])
                  have hC9 : PChg pb w w9 := by
                    refine Chg.trans ?_ hc9 (fun _ _ h => h)
                    (repeat' (first | with_reducible exact HC4.out | with_reducible apply Chg.drew | with_reducible refine Chg.alloc ?_ _ | with_reducible refine Chg.setCell ?_ (fun h => ?_) _))
                    all_goals first | rfl | (dsimp only at h ⊢; omega)
                  have hX9 : Chg (fun k => k = pb ∨ k = w.heap.size + 1) w4 w9 := by
                    refine Chg.trans ?_ hc9 (fun _ _ h => .inl h)
                    (repeat' (first | with_reducible exact Chg.refl _ _ | with_reducible apply Chg.drew | with_reducible refine Chg.alloc ?_ _ | with_reducible refine Chg.setCell ?_ (fun h => ?_) _))
                    all_goals first | rfl | exact .inr rfl | (dsimp only at h ⊢; omega)
                  have hO9 := HO4.out.chg hX9 (fun k hk h => by omega) (fun k hk h => by have := (HO4.out.far k hk).1; omega)
                  have hz9 : w.heap.size + 2 ≤ w9.heap.size := by have := hX9.size; omega
                  have HO9 := Lib.hid hO9
                  have HST9 := Lib.hid hst9
                  clear hc9 hst9 hX9 hO9
                  clear p0 p1 p2 y0 y1 y2 z0 z1 z2 v0 v1 v2
                  obtain ⟨p0, p1, p2, y0, y1, y2⟩ := hB6
                  obtain ⟨z0, z1, z2, v0, v1, v2⟩ := hB7
                  have q6 : w.heap.size < w9.heap.size := by omega
                  have q7 : w.heap.size + 1 < w9.heap.size := by omega
                  have q8 : pb < w9.heap.size := by omega
                  (repeat (first | go_values | go_skip | go_guarded | go_step | go_upon | (go_simp; go_at_K)))
                  refine bodyPost_ret (v := .agg (jCells 7 ⟨#[]⟩ ak4 n4 ck4)) (by simp [jCells, results, Try.results79, go_sem, *]) rfl ?_
                  rw [HN.out]
                  refine row_fin (op := 2) rfl HO9.out (by omega) hC9 ?_ ⟨rfl, by omega, o2, HST9.out⟩
                  (repeat' (first | with_reducible exact Chg.refl _ _ | with_reducible apply Chg.drew | with_reducible refine Chg.alloc ?_ _ | with_reducible refine Chg.setCell ?_ (fun h => ?_) _))
                  all_goals rfl
                have bl5 : ((kd5 : Int) == 3) = false := by simp; omega
                by_cases h7 : kd5 = 7
                · subst h7
                  have HS7 : Hid (RES = match nextAt (sl s) s5 with | .err e b => .bad e b | .tok kd2 a2 s2 t2 => kidsP (sl s) dep f0 (within + 1) 2 m2 kd2 a2 s2 t2) := by
                    show _ = _
                    rw [HS.out, step_go' HRV.out.symm HR4.out.symm (by omega), HSN.out]
                    try (cases nextAt (sl s) s5 <;> rfl)
                  have hn6 := fun kd2 a2 s2 t2 => nextAt_tok (sl s) s5 kd2 a2 s2 t2 (by rw [sl_len]; exact o2)
                  go_wp2_with fail
                  refine (CS s5 (7 : Nat) (a5 : Nat) (txt t5) o2 _ ?hP).out.mono ?_
                  case hP =>
                    refine BoxP.keep ?_ HBP9.out
                    (repeat' (first | with_reducible exact Chg.refl _ _ | with_reducible apply Chg.drew | with_reducible refine Chg.alloc ?_ _ | with_reducible refine Chg.setCell ?_ (fun h => ?_) _))
                    all_goals (dsimp only; omega)
                  rintro r w9 ⟨rfl, hc9, hst9⟩
                  clear c0 c1 c2 c3 c4 c5 c6 c7 c8 f2 f3 f4 f5 f6 f7 f8
                  have hB6 : Box3 w9 w.heap.size (.int .i64 0) (.string ⟨#[]⟩) (.slice none 0 0) := Box3.chg hc9 (by omega) (by refine ⟨?_, ?_, ?_, ?_, ?_, ?_⟩ <;> simp [go_sem, *])
                  have hB7 : Box3 w9 (w.heap.size + 1) (.int .i64 7) (.string ⟨#[]⟩) (.slice ak4 n4 ck4) := Box3.chg hc9 (by omega) (by refine ⟨?_, ?_, ?_, ?_, ?_, ?_⟩ <;> simp [go_sem, *])
                  have hC9 : PChg pb w w9 := by
                    refine Chg.trans ?_ hc9 (fun _ _ h => h)
                    (repeat' (first | with_reducible exact HC4.out | with_reducible apply Chg.drew | with_reducible refine Chg.alloc ?_ _ | with_reducible refine Chg.setCell ?_ (fun h => ?_) _))
                    all_goals first | rfl | (dsimp only at h ⊢; omega)
                  have hX9 : Chg (fun k => k = pb ∨ k = w.heap.size + 1) w4 w9 := by
                    refine Chg.trans ?_ hc9 (fun _ _ h => .inl h)
                    (repeat' (first | with_reducible exact Chg.refl _ _ | with_reducible apply Chg.drew | with_reducible refine Chg.alloc ?_ _ | with_reducible refine Chg.setCell ?_ (fun h => ?_) _))
                    all_goals first | rfl | exact .inr rfl | (dsimp only at h ⊢; omega)
                  have hO9 := HO4.out.chg hX9 (fun k hk h => by omega) (fun k hk h => by have := (HO4.out.far k hk).1; omega)
                  have hz9 : w.heap.size + 2 ≤ w9.heap.size := by have := hX9.size; omega
                  have HO9 := Lib.hid hO9
                  go_wp2_with fail
                  go_roundw
                  case rel =>
                    refine ⟨nextAt (sl s) s5, m2, ak4, n4, ck4, hB6, hB7, HO9.out, hC9, hz9, ?_⟩
                    have hs7 := HS7.out
                    cases hR6 : nextAt (sl s) s5 with
                    | err x b =>
                      rw [hR6] at hs7 hst9
                      exact ⟨hst9.e, hs7⟩
                    | tok kd6 a6 s6 t6 =>
                      rw [hR6] at hs7 hst9
                      obtain ⟨v1, v2, v3, v4, v5, v6⟩ := hn6 kd6 a6 s6 t6 hR6
                      rw [sl_len] at v2 v4 v6
                      refine ⟨hst9, by omega, v2, by omega, by omega, f0, ?_, hs7⟩
                      by_cases h1 : kd6 = 1
                      · exact .inr ⟨h1, by omega⟩
                      · left; have := v3 h1; omega
                  case measure =>
                    cases hR6 : nextAt (sl s) s5 with
                    | err x b =>
                      rw [hR6] at hst9
                      rw [HM.out, rMeas_err hst9.1 hst9.2.2.c6]
                      omega
                    | tok kd6 a6 s6 t6 =>
                      rw [hR6] at hst9
                      have hst9' : BoxP w9 pb s dep (kd6 : Nat) (a6 : Nat) (s6 : Nat) (txt t6) 0 0 := hst9
                      obtain ⟨v1, v2, v3, v4, v5, v6⟩ := hn6 kd6 a6 s6 t6 hR6
                      rw [sl_len] at v2
                      rw [HM.out, rMeas_tok hst9'.c6 hst9'.c4]
                      omega
                · have b7 : ((kd5 : Int) != 7) = true := by simp; omega
                  have HN : Hid (RES = .bad (if kd5 = 1 then 2 else 3) a5) := by show _ = _; rw [HS.out, step_wrong' HRV.out.symm HR4.out.symm hl5 h7, wrongT_if]
                  go_wp2_with fail
                  refine (CB kd5 a5 3 (s5 : Nat) (txt t5) (by omega) _ ?hP).out.mono ?_
                  case hP =>
                    refine BoxP.keep ?_ HBP9.out
                    (repeat' (first | with_reducible exact Chg.refl _ _ | with_reducible apply Chg.drew | with_reducible refine Chg.alloc ?_ _ | with_reducible refine Chg.setCell ?_ (fun h => ?_) _))
                    all_goals (dsimp only; omega)
                  rintro r w9 ⟨rfl, hc9, hst9⟩
                  clear c0 c1 c2 c3 c4 c5 c6 c7 c8 f2 f3 f4 f5 f6 f7 f8
                  have hB6 : Box3 w9 w.heap.size (.int .i64 0) (.string ⟨#[]⟩) (.slice none 0 0) := Box3.chg hc9 (by omega) (by refine ⟨?_, ?_, ?_, ?_, ?_, ?_⟩ <;> simp [go_sem, *])
                  have hB7 : Box3 w9 (w.heap.size + 1) (.int .i64 7) (.string ⟨#[]⟩) (.slice ak4 n4 ck4) := Box3.chg hc9 (by omega) (by refine ⟨?_, ?_, ?_, ?_, ?_, ?_⟩ <;> simp [go_sem, *])
                  have hC9 : PChg pb w w9 := by
                    refine Chg.trans ?_ hc9 (fun _ _ h => h)
                    (repeat' (first | with_reducible exact HC4.out | with_reducible apply Chg.drew | with_reducible refine Chg.alloc ?_ _ | with_reducible refine Chg.setCell ?_ (fun h => ?_) _))
                    all_goals first | rfl | (dsimp only at h ⊢; omega)
                  have hX9 : Chg (fun k => k = pb ∨ k = w.heap.size + 1) w4 w9 := by
                    refine Chg.trans ?_ hc9 (fun _ _ h => .inl h)
                    (repeat' (first | with_reducible exact Chg.refl _ _ | with_reducible apply Chg.drew | with_reducible refine Chg.alloc ?_ _ | with_reducible refine Chg.setCell ?_ (fun h => ?_) _))
                    all_goals first | rfl | exact .inr rfl | (dsimp only at h ⊢; omega)
                  have hO9 := HO4.out.chg hX9 (fun k hk h => by omega) (fun k hk h => by have := (HO4.out.far k hk).1; omega)
                  have hz9 : w.heap.size + 2 ≤ w9.heap.size := by have := hX9.size; omega
                  have HO9 := Lib.hid hO9
                  have HST9 := Lib.hid hst9
                  clear hc9 hst9 hX9 hO9
                  clear p0 p1 p2 y0 y1 y2 z0 z1 z2 v0 v1 v2
                  obtain ⟨p0, p1, p2, y0, y1, y2⟩ := hB6
                  obtain ⟨z0, z1, z2, v0, v1, v2⟩ := hB7
                  have q6 : w.heap.size < w9.heap.size := by omega
                  have q7 : w.heap.size + 1 < w9.heap.size := by omega
                  have q8 : pb < w9.heap.size := by omega
                  (repeat (first | go_values | go_skip | go_guarded | go_step | go_upon | (go_simp; go_at_K)))
                  refine bodyPost_ret (v := .agg (jCells 7 ⟨#[]⟩ ak4 n4 ck4)) (by simp [jCells, results, Try.results79, go_sem, *]) rfl ?_
                  rw [HN.out]
                  refine row_fin (op := 2) rfl HO9.out (by omega) hC9 ?_ HST9.out
                  (repeat' (first | with_reducible exact Chg.refl _ _ | with_reducible apply Chg.drew | with_reducible refine Chg.alloc ?_ _ | with_reducible refine Chg.setCell ?_ (fun h => ?_) _))
                  all_goals rfl

end Go.Proofs.Ytamhdoijmkjngaa

namespace Go.Proofs.Ytamhdoijmkjngaa
open Go.RowKit
set_option linter.unusedVariables false
set_option linter.unusedSimpArgs false

set_option maxRecDepth 100000 in
set_option maxHeartbeats 32000000 in
theorem rrow4_calls (dep within : Nat) (hdep : dep ≤ 1000) (hwd : within < dep) (hV : RValSaid dep (within + 1)) (s : ByteArray) (hs : s.size ≤ 1000000) (pb a q f : Nat) (t : ByteArray) (hq : q ≤ s.size) (hf : 2 * (s.size - q) + 2 ≤ f) (w : World) (h : BoxP w pb s dep (4 : Nat) (a : Nat) (q : Nat) t 0 0) :
    Calls Try.prog 79 #[.pointer (some ⟨pb, 0, none⟩), .int .i64 (4 : Nat), .int .i64 (within : Nat)] w (RRow pb s dep q 4 w (kidsQ (sl s) dep f (within + 1) 4 q)) := by
  have hlt := h.lt
  obtain ⟨RES, hRES⟩ : ∃ RES, RES = kidsQ (sl s) dep f (within + 1) 4 q := ⟨_, rfl⟩
  rw [← hRES]
  have CS := fun e k a t he W hP => Lib.hid (rstep_tok s hs pb dep e k a t W he hP)
  have CSE := fun k a e t x b hx W hP => Lib.hid (rstep_err s hs pb dep k a e t x b hx W hP)
  have CB := fun kd a c e t hc W hP => Lib.hid (rbad_tok s pb dep kd a c e t W hc hP)
  have CBE := fun k a e t x b hx c W hP => Lib.hid (rbad_err s pb dep k a e t x b hx c W hP)
  have CV := fun kd a q f t ht hq hf1 hf2 W hP => Lib.hid (hV s hs pb kd a q f t ht hq hf1 hf2 W hP)
  rw [show ((within + 1 : Nat) : Int) = (within : Int) + 1 from by omega] at CV
  have hwr : IntKind.i64.wrap ((within : Int) + 1) = (within : Int) + 1 := by simp [IntKind.wrap, IntKind.bits, IntKind.signed]; omega
  have hn1 := fun kd2 a2 s2 t2 => nextAt_tok (sl s) q kd2 a2 s2 t2 (by rw [sl_len]; exact hq)
  have hne := fun x b => nextAt_err (sl s) q x b
  unfold kidsQ at hRES
  obtain ⟨R0, hR0⟩ : ∃ R0, R0 = nextAt (sl s) q := ⟨_, rfl⟩
  have CS0 := fun W hP => CS q (4 : Nat) (a : Nat) t hq W hP
  rw [← hR0] at hRES hn1 hne CS0
  have HRES := Lib.hid hRES
  have HP0 := Lib.hid h
  obtain ⟨c0, c1, c2, c3, c4, c5, c6, c7, c8, f2, f3, f4, f5, f6, f7, f8, _, _⟩ := h
  have n1 : ¬ pb = w.heap.size := by omega
  have m1 : ¬ w.heap.size = pb := by omega
  have n2 : ¬ pb = w.heap.size + 1 := by omega
  have m2 : ¬ w.heap.size + 1 = pb := by omega
  clear hR0 hV hRES
  go_enter Try.func79, Try.ntmps79
  go_wp2_with fail
  refine (CS0 _ ?hP).out.mono ?_
  case hP =>
    refine BoxP.keep ?_ HP0.out
    (repeat' (first | with_reducible exact Chg.refl _ _ | with_reducible apply Chg.drew | with_reducible refine Chg.alloc ?_ _ | with_reducible refine Chg.setCell ?_ (fun h => ?_) _))
    all_goals (dsimp only; omega)
  rintro r w1 ⟨rfl, hch, hst⟩
  obtain ⟨p0, p1, p2, y0, y1, y2⟩ := Box3.chg hch (by omega) (show Box3 _ w.heap.size (.int .i64 0) (.string ⟨#[]⟩) (.slice none 0 0) by refine ⟨?_, ?_, ?_, ?_, ?_, ?_⟩ <;> simp [go_sem, *])
  obtain ⟨z0, z1, z2, v0, v1, v2⟩ := Box3.chg hch (by omega) (show Box3 _ (w.heap.size + 1) (.int .i64 6) (.string ⟨#[]⟩) (.slice none 0 0) by refine ⟨?_, ?_, ?_, ?_, ?_, ?_⟩ <;> simp [go_sem, *])
  have hchg : PChg pb w w1 := by
    refine Chg.trans ?_ hch (fun _ _ h => h)
    (repeat' (first | with_reducible exact Chg.refl _ _ | with_reducible apply Chg.drew | with_reducible refine Chg.alloc ?_ _ | with_reducible refine Chg.setCell ?_ (fun h => ?_) _))
    all_goals first | rfl | (simp only [] at h; omega)
  have hz : w.heap.size + 2 ≤ w1.heap.size := by have := hch.size; simp at this; omega
  have HST := Lib.hid hst
  have HO0 : Hid (OwnM w1 (w.heap.size + 2) (fun k => w.heap.size + 2 ≤ k) (.slice none 0 0) .nil) := OwnM.nil _ _ _
  clear hch hst CS0 c0 c1 c2 c3 c4 c5 c6 c7 c8 f2 f3 f4 f5 f6 f7 f8
  cases R0 with
  | err x b =>
    have HN : Hid (RES = .bad x b) := HRES.out
    have HSE := Lib.hid HST.out.e
    obtain ⟨hx1, hx2, hbp⟩ := HST.out
    obtain ⟨_, _, _, _, _, _, c6, _, _, _, _, _, _, _, _, _, _, _⟩ := hbp
    have b1 : ((x : Int) == 0) = false := by simp; omega
    have HKH : Hid (Box3 w1 w.heap.size (.int .i64 0) (.string ⟨#[]⟩) (.slice none 0 0) ∧ Box3 w1 (w.heap.size + 1) (.int .i64 6) (.string ⟨#[]⟩) (.slice none 0 0) ∧ w1.cell? ⟨pb, 6, none⟩ = some (.int .i64 (x : Nat))) := ⟨⟨p0, p1, p2, y0, y1, y2⟩, ⟨z0, z1, z2, v0, v1, v2⟩, c6⟩
    clear CS CSE CB CBE CV hn1 hne
    go_wp2_with fail
    go_loopw [8] (fun _ wr => Box3 wr w.heap.size (.int .i64 0) (.string ⟨#[]⟩) (.slice none 0 0) ∧ Box3 wr (w.heap.size + 1) (.int .i64 6) (.string ⟨#[]⟩) (.slice none 0 0) ∧ wr.cell? ⟨pb, 6, none⟩ = some (.int .i64 (x : Nat)) ∧ wr = w1) (fun _ _ => 0)
    case atStart => exact ⟨HKH.out.1, HKH.out.2.1, HKH.out.2.2, rfl⟩
    case round =>
      obtain ⟨hb6, hb7, d6, hwr2⟩ := hrel
      subst hwr2
      go_wp2_with fail
      (repeat (first | go_values | go_skip | go_guarded | go_step | go_upon | (go_simp; go_at_K)))
      refine bodyPost_ret (v := .agg (jCells 6 ⟨#[]⟩ none 0 0)) (by simp [jCells, results, Try.results79, go_sem, *]) rfl ?_
      rw [HN.out]
      refine row_fin (op := 4) rfl HO0.out (by omega) hchg ?_ HSE.out
      (repeat' (first | with_reducible exact Chg.refl _ _ | with_reducible apply Chg.drew | with_reducible refine Chg.alloc ?_ _ | with_reducible refine Chg.setCell ?_ (fun h => ?_) _))
      all_goals rfl
  | tok kd1 a1 s1 t1 =>
    obtain ⟨o1, o2, o3, o4, o5, o6⟩ := hn1 _ _ _ _ rfl
    rw [sl_len] at o2 o4 o6
    by_cases hl : kd1 = 5
    · have HN : Hid (RES = .ok .nil s1) := by show _ = _; rw [HRES.out]; simp only; rw [if_pos (by omega)]
      subst hl
      have HBP : Hid (BoxP w1 pb s dep _ _ _ _ 0 0) := HST.out
      obtain ⟨c0, c1, c2, c3, c4, c5, c6, c7, c8, f2, f3, f4, f5, f6, f7, f8, _, _⟩ := HBP.out
      go_wp2_with fail
      refine (CS s1 _ _ _ o2 _ HBP.out).out.mono ?_
      rintro r w2 ⟨rfl, hc2, hst2⟩
      clear c0 c1 c2 c3 c4 c5 c6 c7 c8 f2 f3 f4 f5 f6 f7 f8
      have hB6 := Box3.chg hc2 (by omega) (show Box3 w1 w.heap.size _ _ _ from ⟨p0, p1, p2, y0, y1, y2⟩)
      have hB7 := Box3.chg hc2 (by omega) (show Box3 w1 (w.heap.size + 1) _ _ _ from ⟨z0, z1, z2, v0, v1, v2⟩)
      clear p0 p1 p2 y0 y1 y2 z0 z1 z2 v0 v1 v2
      obtain ⟨p0, p1, p2, y0, y1, y2⟩ := hB6
      obtain ⟨z0, z1, z2, v0, v1, v2⟩ := hB7
      have hchg2 : PChg pb w w2 := hchg.trans hc2 (fun _ _ h => h)
      have HST2 := Lib.hid hst2
      have HC2 := Lib.hid hc2
      clear hc2 hst2 hchg CS CSE CB CBE CV hn1 hne
      (repeat (first | go_values | go_skip | go_guarded | go_step | go_upon | (go_simp; go_at_K)))
      refine bodyPost_ret (v := .agg (jCells 6 ⟨#[]⟩ none 0 0)) (by simp [jCells, results, Try.results79, go_sem, *]) rfl ?_
      rw [HN.out]
      refine row_fin (op := 4) rfl (HO0.out.chg (X := fun k => k = pb) HC2.out (fun k hk h => by omega) (fun k hk h => by simp [Value.ownBlock] at hk)) (by omega) hchg2 ?_ ⟨rfl, o1, o2, HST2.out⟩
      (repeat' (first | with_reducible exact Chg.refl _ _ | with_reducible apply Chg.drew | with_reducible refine Chg.alloc ?_ _ | with_reducible refine Chg.setCell ?_ (fun h => ?_) _))
      all_goals rfl
    have bl : ((kd1 : Int) == 5) = false := by simp; omega
    have HKH : Hid (RHead w pb s dep q 4 (within + 1) 6 RES w1) := by
      refine ⟨.tok kd1 a1 s1 t1, .nil, none, 0, 0, ⟨p0, p1, p2, y0, y1, y2⟩, ⟨z0, z1, z2, v0, v1, v2⟩, HO0.out, hchg, hz, HST.out, o1, o2, Nat.zero_le _, by omega, f, ?_, ?_⟩
      · by_cases h1 : kd1 = 1
        · exact .inr ⟨h1, by omega⟩
        · left; have := o3 h1; omega
      · rw [HRES.out]; simp only; rw [if_neg (by omega)]
    have HBP : Hid (BoxP w1 pb s dep _ _ _ _ 0 0) := HST.out
    obtain ⟨c0, c1, c2, c3, c4, c5, c6, c7, c8, f2, f3, f4, f5, f6, f7, f8, _, _⟩ := HBP.out
    go_wp2_with fail
    go_loopw [8] (fun _ wr => RHead w pb s dep q 4 (within + 1) 6 RES wr) (fun _ wr => rMeas s.size pb wr)
    case atStart => exact HKH.out
    case round =>
      clear c0 c1 c2 c3 c4 c5 c6 c7 c8 f2 f3 f4 f5 f6 f7 f8 HBP HKH HST HO0 hchg hz p0 p1 p2 y0 y1 y2 z0 z1 z2 v0 v1 v2 HRES hn1 hne o1 o2 o3 o4 o5 o6 bl hl
      obtain ⟨R, m, ak, n, ck, hb6, hb7, hown, hchg, hgr, hnow⟩ := hrel
      obtain ⟨p0, p1, p2, y0, y1, y2⟩ := hb6
      obtain ⟨z0, z1, z2, v0, v1, v2⟩ := hb7
      have HOWN := Lib.hid hown
      clear hown
      cases R with
      | err x b =>
        obtain ⟨hse, hres⟩ := hnow
        have HN := Lib.hid hres
        have HSE := Lib.hid hse
        obtain ⟨hx1, hx2, k9, a9, e9, t9, hbp⟩ := hse
        obtain ⟨_, _, _, _, _, _, c6, _, _, _, _, _, _, _, _, _, _, _⟩ := hbp
        have b1 : ((x : Int) == 0) = false := by simp; omega
        clear CS CSE CB CBE CV hres
        go_wp2_with fail
        (repeat (first | go_values | go_skip | go_guarded | go_step | go_upon | (go_simp; go_at_K)))
        refine bodyPost_ret (v := .agg (jCells 6 ⟨#[]⟩ ak n ck)) (by simp [jCells, results, Try.results79, go_sem, *]) rfl ?_
        rw [HN.out]
        refine row_fin (op := 4) rfl HOWN.out (by omega) hchg ?_ HSE.out
        (repeat' (first | with_reducible exact Chg.refl _ _ | with_reducible apply Chg.drew | with_reducible refine Chg.alloc ?_ _ | with_reducible refine Chg.setCell ?_ (fun h => ?_) _))
        all_goals rfl
      | tok kd a2 s2 t2 =>
        obtain ⟨hbp, hqs, hsn, hml, htl, f', hfu, hres⟩ := hnow
        obtain ⟨f0, rfl⟩ : ∃ f0, f' = f0 + 1 := ⟨f' - 1, by omega⟩
        have HM : Hid (rMeas s.size pb wr = s.size + 2 - s2) := rMeas_tok hbp.c6 hbp.c4
        have HBP := Lib.hid hbp
        have hgo : ∀ k, (Value.slice ak n ck).ownBlock = some k → w.heap.size + 2 ≤ k ∧ k < wr.heap.size := HOWN.out.far
        have HGO := Lib.hid hgo
        obtain ⟨g8, hg8, hg8'⟩ : ∃ g, g = wr.heap.size ∧ wr.heap.size ≤ g := ⟨_, rfl, Nat.le_refl _⟩
        have HG := Lib.hid hg8
        have l6 : w.heap.size < wr.heap.size := by omega
        have l7 : w.heap.size + 1 < wr.heap.size := by omega
        have l8 : pb < wr.heap.size := by omega
        have n3 : ¬ pb = wr.heap.size := by omega
        have m3 : ¬ wr.heap.size = pb := by omega
        have n4 : ¬ w.heap.size = wr.heap.size := by omega
        have m4 : ¬ wr.heap.size = w.heap.size := by omega
        have n5 : ¬ w.heap.size + 1 = wr.heap.size := by omega
        have m5 : ¬ wr.heap.size = w.heap.size + 1 := by omega
        clear hg8 hgo
        obtain ⟨c0, c1, c2, c3, c4, c5, c6, c7, c8, f2, f3, f4, f5, f6, f7, f8, _, _⟩ := hbp
        rw [kidsP_arr _ _ _ _ _ _ _ _ _ _ (by omega)] at hres
        have HS := Lib.hid hres
        have htl2 := htl
        have hsn2 := hsn
        have hfu1 : 1 ≤ f0 := by omega
        have hfu2 : kd = 2 ∨ kd = 4 → 2 * (s.size - s2) + 3 ≤ f0 := by intro _; omega
        have HBPV := HBP
        clear hres
        obtain ⟨RV, hRV⟩ : ∃ RV, RV = valP (sl s) dep f0 (within + 1) kd a2 s2 t2 := ⟨_, rfl⟩
        have CV1 := fun W hP => CV kd a2 s2 f0 t2 htl2 hsn2 hfu1 hfu2 W hP
        rw [← hRV] at CV1
        have HRV := Lib.hid hRV
        clear hRV CV
        go_wp2_with fail
        refine (CV1 _ ?hP).out.mono ?_
        case hP =>
          refine BoxP.keep ?_ HBPV.out
          (repeat' (first | with_reducible exact Chg.refl _ _ | with_reducible apply Chg.drew | with_reducible refine Chg.alloc ?_ _ | with_reducible refine Chg.setCell ?_ (fun h => ?_) _))
          all_goals (dsimp only; omega)
        rintro r w3 ⟨hc3, jv, cv, rfl, hrd, hv⟩
        obtain ⟨jk, jt, jm⟩ := jv
        have hrd0 := hrd
        obtain ⟨jx, bk, nk, dk, rfl, -⟩ := hrd0
        have hB6 : Box3 w3 w.heap.size (.int .i64 0) (.string ⟨#[]⟩) (.slice none 0 0) := Box3.chg hc3 (by omega) (by refine ⟨?_, ?_, ?_, ?_, ?_, ?_⟩ <;> simp [go_sem, *])
        have hB7 : Box3 w3 (w.heap.size + 1) (.int .i64 6) (.string ⟨#[]⟩) (.slice ak n ck) := Box3.chg hc3 (by omega) (by refine ⟨?_, ?_, ?_, ?_, ?_, ?_⟩ <;> simp [go_sem, *])
        have hB8 : Box4 w3 wr.heap.size (.string ⟨#[]⟩) (.int .i64 0) (.string ⟨#[]⟩) (.slice none 0 0) := Box4.chg hc3 (by omega) (by refine ⟨?_, ?_, ?_, ?_, ?_, ?_, ?_, ?_⟩ <;> simp [go_sem, *])
        have hchg3 : PChg pb wr w3 := by
          refine Chg.trans ?_ hc3 (fun _ _ h => h)
          (repeat' (first | with_reducible exact Chg.refl _ _ | with_reducible apply Chg.drew | with_reducible refine Chg.alloc ?_ _ | with_reducible refine Chg.setCell ?_ (fun h => ?_) _))
          all_goals first | rfl | (dsimp only at h ⊢; omega)
        have hz3 : wr.heap.size < w3.heap.size := by have := hB8.1; simpa using cell_block this
        have HO3 := Lib.hid ((HOWN.out.bound).chg hchg3 (fun k hk h => by omega) (fun k hk h => by have := HGO.out k hk; omega))
        have HRD := Lib.hid (hrd.imp (S' := fun k => wr.heap.size < k) (fun k _ h => by first | omega | (simp at h; omega)))
        have HV := Lib.hid hv
        have HC03 : Hid (PChg pb w w3) := hchg.trans hchg3 (fun _ _ h => h)
        have HLT : Hid (∀ k, k < w.heap.size → k < wr.heap.size) := Lib.hid fun k hk => by omega
        clear hc3 hrd hv hchg3 p0 p1 p2 y0 y1 y2 z0 z1 z2 v0 v1 v2 c0 c1 c2 c3 c4 c5 c6 c7 c8 f2 f3 f4 f5 f6 f7 f8
        obtain ⟨p0, p1, p2, y0, y1, y2⟩ := hB6
        obtain ⟨z0, z1, z2, v0, v1, v2⟩ := hB7
        obtain ⟨k0, k1, k2, k3, k4, k5, k6, k7⟩ := hB8
        obtain ⟨y, hy⟩ : ∃ y : ByteArray, y = ⟨#[]⟩ := ⟨_, rfl⟩
        have HYS : Hid (y.size ≤ 9223372036854775807) := by show _ ≤ _; rw [hy]; decide
        have HYT : Hid (sl y = []) := by show _ = _; rw [hy]; rfl
        rw [← hy] at k0
        clear hy
        have q6 : w.heap.size < w3.heap.size := by omega
        have q7 : w.heap.size + 1 < w3.heap.size := by omega
        have q8 : pb < w3.heap.size := by omega
        simp only [jCells]
        go_wp2_with (at_builtin; refine wpList_appM (v := .slice ak n ck) (f := m) (g := .cons (sl y) (.mk jk jt jm) .nil) (B := w.heap.size + 2) (L := fun k => w.heap.size + 2 ≤ k) (S1 := fun k => wr.heap.size < k) (sv := .slice (some ⟨w3.heap.size, 0, none⟩) 1 1) (by rfl) _ _ (by rfl) (by rfl) ?oO (by rfl) ?oS ?oL ?oB ?oH ?_)
        case oO =>
          refine (HO3.out.chg (X := fun k => k = wr.heap.size) ?_ (fun k hk h => by omega) (fun k hk h => by have := HGO.out k hk; omega)).lift (fun k hk => hk.1)
          (repeat' (first | with_reducible exact Chg.refl _ _ | with_reducible apply Chg.drew | with_reducible refine Chg.alloc ?_ _ | with_reducible refine Chg.setCell ?_ (fun h => ?_) _))
          all_goals first | rfl | (dsimp only; omega)
        case oS =>
          refine SrcM.one (c := jCells jk jx bk nk dk) ?_ HYS.out ?_
          · refine HRD.out.keep (KeepS.chg (X := fun k => k ≤ wr.heap.size) ?_ (fun k hk h => by omega))
            (repeat' (first | with_reducible exact Chg.refl _ _ | with_reducible apply Chg.drew | with_reducible refine Chg.alloc ?_ _ | with_reducible refine Chg.setCell ?_ (fun h => ?_) _))
            all_goals (dsimp only; omega)
          · intro j u hj
            match j with
            | 0 => simp [memCells] at hj; subst hj; simp [go_sem]
            | 1 => simp [memCells] at hj; subst hj; simp [go_sem]
            | 2 => simp [memCells] at hj; subst hj; simp [go_sem]
            | 3 => simp [memCells] at hj; subst hj; simp [go_sem]
            | j + 4 => simp [memCells] at hj
        case oL => exact fun k hk => ⟨by omega, fun e => by have := HGO.out k e; omega⟩
        case oB => simp only [M.len]; omega
        case oH => simp; omega
        intro u4 w4 ho4 ha4
        obtain ⟨ak4, ck4, hu4, -⟩ := ho4.reads (fun k hk => hk)
        subst hu4
        have hX34 : Chg (fun k => k ≠ pb) w3 w4 := by
          refine Chg.trans ?_ ha4.chg (fun i hi e => by have := HGO.out i e; omega)
          (repeat' (first | with_reducible exact Chg.refl _ _ | with_reducible apply Chg.drew | with_reducible refine Chg.alloc ?_ _ | with_reducible refine Chg.setCell ?_ (fun h => ?_) _))
          all_goals (dsimp only; omega)
        have hB6 : Box3 w4 w.heap.size (.int .i64 0) (.string ⟨#[]⟩) (.slice none 0 0) := Box3.app ha4 (fun e => by have := HGO.out _ e; omega) (by refine ⟨?_, ?_, ?_, ?_, ?_, ?_⟩ <;> simp [go_sem, *])
        have hB7 : Box3 w4 (w.heap.size + 1) (.int .i64 6) (.string ⟨#[]⟩) (.slice ak n ck) := Box3.app ha4 (fun e => by have := HGO.out _ e; omega) (by refine ⟨?_, ?_, ?_, ?_, ?_, ?_⟩ <;> simp [go_sem, *])
        have hC4 : PChg pb w w4 := by
          refine Chg.trans ?_ ha4.chg (fun i hi e => by have := HGO.out i e; omega)
          (repeat' (first | with_reducible exact HC03.out | with_reducible apply Chg.drew | with_reducible refine Chg.alloc ?_ _ | with_reducible refine Chg.setCell ?_ (fun h => ?_) _))
          all_goals first | rfl | (dsimp only at h ⊢; omega)
        have hz4 : w.heap.size + 2 ≤ w4.heap.size := by have := hX34.size; omega
        obtain ⟨m2, hm2⟩ : ∃ m2, m2 = m.append (.cons (sl y) (.mk jk jt jm) .nil) := ⟨_, rfl⟩
        rw [← hm2] at ho4 ha4 ⊢
        have hm2l : m2.len = m.len + 1 := by rw [hm2, M.append_len]; rfl
        have HSN : Hid (m.snoc [] (.mk jk jt jm) = m2) := by show _ = _; rw [hm2, HYT.out]; rfl
        obtain ⟨n4, hn4⟩ : ∃ n4, n4 = m2.len := ⟨_, rfl⟩
        rw [← hn4] at ho4 ha4 ⊢
        have HO4 := Lib.hid ho4
        have HX34 := Lib.hid hX34
        have HC4 := Lib.hid hC4
        clear hm2 hn4 ho4 ha4 hX34 hC4 HO3 HRD HC03 p0 p1 p2 y0 y1 y2 z0 z1 z2 v0 v1 v2 k0 k1 k2 k3 k4 k5 k6 k7 q6 q7 q8 CV1
        obtain ⟨p0, p1, p2, y0, y1, y2⟩ := hB6
        obtain ⟨z0, z1, z2, v0, v1, v2⟩ := hB7
        have q6 : w.heap.size < w4.heap.size := by omega
        have q7 : w.heap.size + 1 < w4.heap.size := by omega
        have q8 : pb < w4.heap.size := by omega
        cases RV with
        | bad x b =>
          have hse := StE.keep HX34.out HV.out
          have HN : Hid (RES = .bad x b) := by show _ = _; rw [HS.out, step_bad' HRV.out.symm]
          obtain ⟨hx1, hx2, k9, a9, e9, t9, hbp⟩ := hse
          have HBP9 := Lib.hid hbp
          obtain ⟨c0, c1, c2, c3, c4, c5, c6, c7, c8, f2, f3, f4, f5, f6, f7, f8, _, _⟩ := hbp
          have b1 : ((x : Int) == 0) = false := by simp; omega
          by_cases h7 : k9 = 7
          · have b7 : (k9 != 7) = false := by simp [h7]
            go_wp2_with fail
            refine (CSE k9 a9 e9 t9 x b hx1 _ ?hP).out.mono ?_
            case hP =>
              refine BoxP.keep ?_ HBP9.out
              (repeat' (first | with_reducible exact Chg.refl _ _ | with_reducible apply Chg.drew | with_reducible refine Chg.alloc ?_ _ | with_reducible refine Chg.setCell ?_ (fun h => ?_) _))
              all_goals (dsimp only; omega)
            rintro r w9 ⟨rfl, hc9, hst9⟩
            clear c0 c1 c2 c3 c4 c5 c6 c7 c8 f2 f3 f4 f5 f6 f7 f8
            have hB6 : Box3 w9 w.heap.size (.int .i64 0) (.string ⟨#[]⟩) (.slice none 0 0) := Box3.chg hc9 (by omega) (by refine ⟨?_, ?_, ?_, ?_, ?_, ?_⟩ <;> simp [go_sem, *])
            have hB7 : Box3 w9 (w.heap.size + 1) (.int .i64 6) (.string ⟨#[]⟩) (.slice ak4 n4 ck4) := Box3.chg hc9 (by omega) (by refine ⟨?_, ?_, ?_, ?_, ?_, ?_⟩ <;> simp [go_sem, *])
            have hC9 : PChg pb w w9 := by
              refine Chg.trans ?_ hc9 (fun _ _ h => h)
              (repeat' (first | with_reducible exact HC4.out | with_reducible apply Chg.drew | with_reducible refine Chg.alloc ?_ _ | with_reducible refine Chg.setCell ?_ (fun h => ?_) _))
              all_goals first | rfl | (dsimp only at h ⊢; omega)
            have hX9 : Chg (fun k => k = pb ∨ k = w.heap.size + 1) w4 w9 := by
              refine Chg.trans ?_ hc9 (fun _ _ h => .inl h)
              (repeat' (first | with_reducible exact Chg.refl _ _ | with_reducible apply Chg.drew | with_reducible refine Chg.alloc ?_ _ | with_reducible refine Chg.setCell ?_ (fun h => ?_) _))
              all_goals first | rfl | exact .inr rfl | (dsimp only at h ⊢; omega)
            have hO9 := HO4.out.chg hX9 (fun k hk h => by omega) (fun k hk h => by have := (HO4.out.far k hk).1; omega)
            have hz9 : w.heap.size + 2 ≤ w9.heap.size := by have := hX9.size; omega
            have HO9 := Lib.hid hO9
            go_wp2_with fail
            go_roundw
            case rel => exact ⟨.err x b, m2, ak4, n4, ck4, hB6, hB7, HO9.out, hC9, hz9, ⟨hx1, hx2, _, _, _, _, hst9⟩, HN.out⟩
            case measure =>
              rw [HM.out, rMeas_err hx1 hst9.c6]
              omega
          · have b7 : (k9 != 7) = true := by simpa using h7
            go_wp2_with fail
            refine (CBE k9 a9 e9 t9 x b hx1 3 _ ?hP).out.mono ?_
            case hP =>
              refine BoxP.keep ?_ HBP9.out
              (repeat' (first | with_reducible exact Chg.refl _ _ | with_reducible apply Chg.drew | with_reducible refine Chg.alloc ?_ _ | with_reducible refine Chg.setCell ?_ (fun h => ?_) _))
              all_goals (dsimp only; omega)
            rintro r w9 ⟨rfl, hc9, hst9⟩
            clear c0 c1 c2 c3 c4 c5 c6 c7 c8 f2 f3 f4 f5 f6 f7 f8
            have hB6 : Box3 w9 w.heap.size (.int .i64 0) (.string ⟨#[]⟩) (.slice none 0 0) := Box3.chg hc9 (by omega) (by refine ⟨?_, ?_, ?_, ?_, ?_, ?_⟩ <;> simp [go_sem, *])
            have hB7 : Box3 w9 (w.heap.size + 1) (.int .i64 6) (.string ⟨#[]⟩) (.slice ak4 n4 ck4) := Box3.chg hc9 (by omega) (by refine ⟨?_, ?_, ?_, ?_, ?_, ?_⟩ <;> simp [go_sem, *])
            have hC9 : PChg pb w w9 := by
              refine Chg.trans ?_ hc9 (fun _ _ h => h)
              (repeat' (first | with_reducible exact HC4.out | with_reducible apply Chg.drew | with_reducible refine Chg.alloc ?_ _ | with_reducible refine Chg.setCell ?_ (fun h => ?_) _))
              all_goals first | rfl | (dsimp only at h ⊢; omega)
            have hX9 : Chg (fun k => k = pb ∨ k = w.heap.size + 1) w4 w9 := by
              refine Chg.trans ?_ hc9 (fun _ _ h => .inl h)
              (repeat' (first | with_reducible exact Chg.refl _ _ | with_reducible apply Chg.drew | with_reducible refine Chg.alloc ?_ _ | with_reducible refine Chg.setCell ?_ (fun h => ?_) _))
              all_goals first | rfl | exact .inr rfl | (dsimp only at h ⊢; omega)
            have hO9 := HO4.out.chg hX9 (fun k hk h => by omega) (fun k hk h => by have := (HO4.out.far k hk).1; omega)
            have hz9 : w.heap.size + 2 ≤ w9.heap.size := by have := hX9.size; omega
            have HO9 := Lib.hid hO9
            have HST9 := Lib.hid hst9
            clear hc9 hst9 hX9 hO9
            clear p0 p1 p2 y0 y1 y2 z0 z1 z2 v0 v1 v2
            obtain ⟨p0, p1, p2, y0, y1, y2⟩ := hB6
            obtain ⟨z0, z1, z2, v0, v1, v2⟩ := hB7
            have q6 : w.heap.size < w9.heap.size := by omega
            have q7 : w.heap.size + 1 < w9.heap.size := by omega
            have q8 : pb < w9.heap.size := by omega
            (repeat (first | go_values | go_skip | go_guarded | go_step | go_upon | (go_simp; go_at_K)))
            refine bodyPost_ret (v := .agg (jCells 6 ⟨#[]⟩ ak4 n4 ck4)) (by simp [jCells, results, Try.results79, go_sem, *]) rfl ?_
            rw [HN.out]
            refine row_fin (op := 4) rfl HO9.out (by omega) hC9 ?_ ⟨hx1, hx2, _, _, _, _, HST9.out⟩
            (repeat' (first | with_reducible exact Chg.refl _ _ | with_reducible apply Chg.drew | with_reducible refine Chg.alloc ?_ _ | with_reducible refine Chg.setCell ?_ (fun h => ?_) _))
            all_goals rfl
        | ok j' p =>
          obtain ⟨hj, hp1, hp2, hst3⟩ := HV.out
          subst hj
          have hkd1 : kd ≠ 1 := fun e => by have hh := HRV.out; rw [e] at hh; exact valP_end _ _ _ _ _ _ _ _ _ hh
          have hst4 := StZ.keep HX34.out hst3
          have hn4' := fun kd2 a2 s2 t2 => nextAt_tok (sl s) p kd2 a2 s2 t2 (by rw [sl_len]; exact hp2)
          obtain ⟨R4, hR4⟩ : ∃ R4, R4 = nextAt (sl s) p := ⟨_, rfl⟩
          rw [← hR4] at hst4 hn4'
          have HR4 := Lib.hid hR4
          clear hst3 hR4
          cases R4 with
          | err x b =>
            have HN : Hid (RES = .bad x b) := by show _ = _; rw [HS.out, step_err' HRV.out.symm HR4.out.symm]
            obtain ⟨hx1, hx2, hbp⟩ := hst4
            have HBP9 := Lib.hid hbp
            obtain ⟨c0, c1, c2, c3, c4, c5, c6, c7, c8, f2, f3, f4, f5, f6, f7, f8, _, _⟩ := hbp
            have b1 : ((x : Int) == 0) = false := by simp; omega
            go_wp2_with fail
            refine (CBE 0 0 0 ⟨#[]⟩ x b hx1 3 _ ?hP).out.mono ?_
            case hP =>
              refine BoxP.keep ?_ HBP9.out
              (repeat' (first | with_reducible exact Chg.refl _ _ | with_reducible apply Chg.drew | with_reducible refine Chg.alloc ?_ _ | with_reducible refine Chg.setCell ?_ (fun h => ?_) _))
              all_goals (dsimp only; omega)
            rintro r w9 ⟨rfl, hc9, hst9⟩
            clear c0 c1 c2 c3 c4 c5 c6 c7 c8 f2 f3 f4 f5 f6 f7 f8
            have hB6 : Box3 w9 w.heap.size (.int .i64 0) (.string ⟨#[]⟩) (.slice none 0 0) := Box3.chg hc9 (by omega) (by refine ⟨?_, ?_, ?_, ?_, ?_, ?_⟩ <;> simp [go_sem, *])
            have hB7 : Box3 w9 (w.heap.size + 1) (.int .i64 6) (.string ⟨#[]⟩) (.slice ak4 n4 ck4) := Box3.chg hc9 (by omega) (by refine ⟨?_, ?_, ?_, ?_, ?_, ?_⟩ <;> simp [go_sem, *])
            have hC9 : PChg pb w w9 := by
              refine Chg.trans ?_ hc9 (fun _ _ h => h)
              (repeat' (first | with_reducible exact HC4.out | with_reducible apply Chg.drew | with_reducible refine Chg.alloc ?_ _ | with_reducible refine Chg.setCell ?_ (fun h => ?_) _))
              all_goals first | rfl | (dsimp only at h ⊢; omega)
            have hX9 : Chg (fun k => k = pb ∨ k = w.heap.size + 1) w4 w9 := by
              refine Chg.trans ?_ hc9 (fun _ _ h => .inl h)
              (repeat' (first | with_reducible exact Chg.refl _ _ | with_reducible apply Chg.drew | with_reducible refine Chg.alloc ?_ _ | with_reducible refine Chg.setCell ?_ (fun h => ?_) _))
              all_goals first | rfl | exact .inr rfl | (dsimp only at h ⊢; omega)
            have hO9 := HO4.out.chg hX9 (fun k hk h => by omega) (fun k hk h => by have := (HO4.out.far k hk).1; omega)
            have hz9 : w.heap.size + 2 ≤ w9.heap.size := by have := hX9.size; omega
            have HO9 := Lib.hid hO9
            have HST9 := Lib.hid hst9
            clear hc9 hst9 hX9 hO9
            clear p0 p1 p2 y0 y1 y2 z0 z1 z2 v0 v1 v2
            obtain ⟨p0, p1, p2, y0, y1, y2⟩ := hB6
            obtain ⟨z0, z1, z2, v0, v1, v2⟩ := hB7
            have q6 : w.heap.size < w9.heap.size := by omega
            have q7 : w.heap.size + 1 < w9.heap.size := by omega
            have q8 : pb < w9.heap.size := by omega
            (repeat (first | go_values | go_skip | go_guarded | go_step | go_upon | (go_simp; go_at_K)))
            refine bodyPost_ret (v := .agg (jCells 6 ⟨#[]⟩ ak4 n4 ck4)) (by simp [jCells, results, Try.results79, go_sem, *]) rfl ?_
            rw [HN.out]
            refine row_fin (op := 4) rfl HO9.out (by omega) hC9 ?_ ⟨hx1, hx2, _, _, _, _, HST9.out⟩
            (repeat' (first | with_reducible exact Chg.refl _ _ | with_reducible apply Chg.drew | with_reducible refine Chg.alloc ?_ _ | with_reducible refine Chg.setCell ?_ (fun h => ?_) _))
            all_goals rfl
          | tok kd5 a5 s5 t5 =>
            obtain ⟨o1, o2, o3, o4, o5, o6⟩ := hn4' _ _ _ _ rfl
            rw [sl_len] at o2 o4 o6
            have hbp : BoxP w4 pb s dep (kd5 : Nat) (a5 : Nat) (s5 : Nat) (txt t5) 0 0 := hst4
            have HBP9 := Lib.hid hbp
            obtain ⟨c0, c1, c2, c3, c4, c5, c6, c7, c8, f2, f3, f4, f5, f6, f7, f8, _, _⟩ := hbp
            clear hn4' hst4
            by_cases hl5 : kd5 = 5
            · have HN : Hid (RES = .ok m2 s5) := by show _ = _; rw [HS.out, step_last' HRV.out.symm HR4.out.symm hl5, HSN.out]
              subst hl5
              go_wp2_with fail
              refine (CS s5 (5 : Nat) (a5 : Nat) (txt t5) o2 _ ?hP).out.mono ?_
              case hP =>
                refine BoxP.keep ?_ HBP9.out
                (repeat' (first | with_reducible exact Chg.refl _ _ | with_reducible apply Chg.drew | with_reducible refine Chg.alloc ?_ _ | with_reducible refine Chg.setCell ?_ (fun h => ?_) _))
                all_goals (dsimp only; omega)
              rintro r w9 ⟨rfl, hc9, hst9⟩
              clear c0 c1 c2 c3 c4 c5 c6 c7 c8 f2 f3 f4 f5 f6 f7 f8
              have hB6 : Box3 w9 w.heap.size (.int .i64 0) (.string ⟨#[]⟩) (.slice none 0 0) := Box3.chg hc9 (by omega) (by refine ⟨?_, ?_, ?_, ?_, ?_, ?_⟩ <;> simp [go_sem, *])
              have hB7 : Box3 w9 (w.heap.size + 1) (.int .i64 6) (.string ⟨#[]⟩) (.slice ak4 n4 ck4) := Box3.chg hc9 (by omega) (by refine ⟨?_, ?_, ?_, ?_, ?_, ?_⟩ <;> simp [go_sem, *])
              have hC9 : PChg pb w w9 := by
                refine Chg.trans ?_ hc9 (fun _ _ h => h)
                (repeat' (first | with_reducible exact HC4.out | with_reducible apply Chg.drew | with_reducible refine Chg.alloc ?_ _ | with_reducible refine Chg.setCell ?_ (fun h => ?_) _))
                all_goals first | rfl | (dsimp only at h ⊢; omega)
              have hX9 : Chg (fun k => k = pb ∨ k = w.heap.size + 1) w4 w9 := by
                refine Chg.trans ?_ hc9 (fun _ _ h => .inl h)
                (repeat' (first | with_reducible exact Chg.refl _ _ | with_reducible apply Chg.drew | with_reducible refine Chg.alloc ?_ _ | with_reducible refine Chg.setCell ?_ (fun h => ?_) _))
                all_goals first | rfl | exact .inr rfl | (dsimp only at h ⊢; omega)
              have hO9 := HO4.out.chg hX9 (fun k hk h => by omega) (fun k hk h => by have := (HO4.out.far k hk).1; omega)
              have hz9 : w.heap.size + 2 ≤ w9.heap.size := by have := hX9.size; omega
              have HO9 := Lib.hid hO9
              have HST9 := Lib.hid hst9
              clear hc9 hst9 hX9 hO9
              clear p0 p1 p2 y0 y1 y2 z0 z1 z2 v0 v1 v2
              obtain ⟨p0, p1, p2, y0, y1, y2⟩ := hB6
              obtain ⟨z0, z1, z2, v0, v1, v2⟩ := hB7
              have q6 : w.heap.size < w9.heap.size := by omega
              have q7 : w.heap.size + 1 < w9.heap.size := by omega
              have q8 : pb < w9.heap.size := by omega
              (repeat (first | go_values | go_skip | go_guarded | go_step | go_upon | (go_simp; go_at_K)))
              refine bodyPost_ret (v := .agg (jCells 6 ⟨#[]⟩ ak4 n4 ck4)) (by simp [jCells, results, Try.results79, go_sem, *]) rfl ?_
              rw [HN.out]
              refine row_fin (op := 4) rfl HO9.out (by omega) hC9 ?_ ⟨rfl, by omega, o2, HST9.out⟩
              (repeat' (first | with_reducible exact Chg.refl _ _ | with_reducible apply Chg.drew | with_reducible refine Chg.alloc ?_ _ | with_reducible refine Chg.setCell ?_ (fun h => ?_) _))
              all_goals rfl
            have bl5 : ((kd5 : Int) == 5) = false := by simp; omega
            by_cases h7 : kd5 = 7
            · subst h7
              have HS7 : Hid (RES = match nextAt (sl s) s5 with | .err e b => .bad e b | .tok kd2 a2 s2 t2 => kidsP (sl s) dep f0 (within + 1) 4 m2 kd2 a2 s2 t2) := by
                show _ = _
                rw [HS.out, step_go' HRV.out.symm HR4.out.symm (by omega), HSN.out]
                try (cases nextAt (sl s) s5 <;> rfl)
              have hn6 := fun kd2 a2 s2 t2 => nextAt_tok (sl s) s5 kd2 a2 s2 t2 (by rw [sl_len]; exact o2)
              go_wp2_with fail
              refine (CS s5 (7 : Nat) (a5 : Nat) (txt t5) o2 _ ?hP).out.mono ?_
              case hP =>
                refine BoxP.keep ?_ HBP9.out
                (repeat' (first | with_reducible exact Chg.refl _ _ | with_reducible apply Chg.drew | with_reducible refine Chg.alloc ?_ _ | with_reducible refine Chg.setCell ?_ (fun h => ?_) _))
                all_goals (dsimp only; omega)
              rintro r w9 ⟨rfl, hc9, hst9⟩
              clear c0 c1 c2 c3 c4 c5 c6 c7 c8 f2 f3 f4 f5 f6 f7 f8
              have hB6 : Box3 w9 w.heap.size (.int .i64 0) (.string ⟨#[]⟩) (.slice none 0 0) := Box3.chg hc9 (by omega) (by refine ⟨?_, ?_, ?_, ?_, ?_, ?_⟩ <;> simp [go_sem, *])
              have hB7 : Box3 w9 (w.heap.size + 1) (.int .i64 6) (.string ⟨#[]⟩) (.slice ak4 n4 ck4) := Box3.chg hc9 (by omega) (by refine ⟨?_, ?_, ?_, ?_, ?_, ?_⟩ <;> simp [go_sem, *])
              have hC9 : PChg pb w w9 := by
                refine Chg.trans ?_ hc9 (fun _ _ h => h)
                (repeat' (first | with_reducible exact HC4.out | with_reducible apply Chg.drew | with_reducible refine Chg.alloc ?_ _ | with_reducible refine Chg.setCell ?_ (fun h => ?_) _))
                all_goals first | rfl | (dsimp only at h ⊢; omega)
              have hX9 : Chg (fun k => k = pb ∨ k = w.heap.size + 1) w4 w9 := by
                refine Chg.trans ?_ hc9 (fun _ _ h => .inl h)
                (repeat' (first | with_reducible exact Chg.refl _ _ | with_reducible apply Chg.drew | with_reducible refine Chg.alloc ?_ _ | with_reducible refine Chg.setCell ?_ (fun h => ?_) _))
                all_goals first | rfl | exact .inr rfl | (dsimp only at h ⊢; omega)
              have hO9 := HO4.out.chg hX9 (fun k hk h => by omega) (fun k hk h => by have := (HO4.out.far k hk).1; omega)
              have hz9 : w.heap.size + 2 ≤ w9.heap.size := by have := hX9.size; omega
              have HO9 := Lib.hid hO9
              go_wp2_with fail
              go_roundw
              case rel =>
                refine ⟨nextAt (sl s) s5, m2, ak4, n4, ck4, hB6, hB7, HO9.out, hC9, hz9, ?_⟩
                have hs7 := HS7.out
                cases hR6 : nextAt (sl s) s5 with
                | err x b =>
                  rw [hR6] at hs7 hst9
                  exact ⟨hst9.e, hs7⟩
                | tok kd6 a6 s6 t6 =>
                  rw [hR6] at hs7 hst9
                  obtain ⟨v1, v2, v3, v4, v5, v6⟩ := hn6 kd6 a6 s6 t6 hR6
                  rw [sl_len] at v2 v4 v6
                  refine ⟨hst9, by omega, v2, by omega, by omega, f0, ?_, hs7⟩
                  by_cases h1 : kd6 = 1
                  · exact .inr ⟨h1, by omega⟩
                  · left; have := v3 h1; omega
              case measure =>
                cases hR6 : nextAt (sl s) s5 with
                | err x b =>
                  rw [hR6] at hst9
                  rw [HM.out, rMeas_err hst9.1 hst9.2.2.c6]
                  omega
                | tok kd6 a6 s6 t6 =>
                  rw [hR6] at hst9
                  have hst9' : BoxP w9 pb s dep (kd6 : Nat) (a6 : Nat) (s6 : Nat) (txt t6) 0 0 := hst9
                  obtain ⟨v1, v2, v3, v4, v5, v6⟩ := hn6 kd6 a6 s6 t6 hR6
                  rw [sl_len] at v2
                  rw [HM.out, rMeas_tok hst9'.c6 hst9'.c4]
                  omega
            · have b7 : ((kd5 : Int) != 7) = true := by simp; omega
              have HN : Hid (RES = .bad (if kd5 = 1 then 2 else 3) a5) := by show _ = _; rw [HS.out, step_wrong' HRV.out.symm HR4.out.symm hl5 h7, wrongT_if]
              go_wp2_with fail
              refine (CB kd5 a5 3 (s5 : Nat) (txt t5) (by omega) _ ?hP).out.mono ?_
              case hP =>
                refine BoxP.keep ?_ HBP9.out
                (repeat' (first | with_reducible exact Chg.refl _ _ | with_reducible apply Chg.drew | with_reducible refine Chg.alloc ?_ _ | with_reducible refine Chg.setCell ?_ (fun h => ?_) _))
                all_goals (dsimp only; omega)
              rintro r w9 ⟨rfl, hc9, hst9⟩
              clear c0 c1 c2 c3 c4 c5 c6 c7 c8 f2 f3 f4 f5 f6 f7 f8
              have hB6 : Box3 w9 w.heap.size (.int .i64 0) (.string ⟨#[]⟩) (.slice none 0 0) := Box3.chg hc9 (by omega) (by refine ⟨?_, ?_, ?_, ?_, ?_, ?_⟩ <;> simp [go_sem, *])
              have hB7 : Box3 w9 (w.heap.size + 1) (.int .i64 6) (.string ⟨#[]⟩) (.slice ak4 n4 ck4) := Box3.chg hc9 (by omega) (by refine ⟨?_, ?_, ?_, ?_, ?_, ?_⟩ <;> simp [go_sem, *])
              have hC9 : PChg pb w w9 := by
                refine Chg.trans ?_ hc9 (fun _ _ h => h)
                (repeat' (first | with_reducible exact HC4.out | with_reducible apply Chg.drew | with_reducible refine Chg.alloc ?_ _ | with_reducible refine Chg.setCell ?_ (fun h => ?_) _))
                all_goals first | rfl | (dsimp only at h ⊢; omega)
              have hX9 : Chg (fun k => k = pb ∨ k = w.heap.size + 1) w4 w9 := by
                refine Chg.trans ?_ hc9 (fun _ _ h => .inl h)
                (repeat' (first | with_reducible exact Chg.refl _ _ | with_reducible apply Chg.drew | with_reducible refine Chg.alloc ?_ _ | with_reducible refine Chg.setCell ?_ (fun h => ?_) _))
                all_goals first | rfl | exact .inr rfl | (dsimp only at h ⊢; omega)
              have hO9 := HO4.out.chg hX9 (fun k hk h => by omega) (fun k hk h => by have := (HO4.out.far k hk).1; omega)
              have hz9 : w.heap.size + 2 ≤ w9.heap.size := by have := hX9.size; omega
              have HO9 := Lib.hid hO9
              have HST9 := Lib.hid hst9
              clear hc9 hst9 hX9 hO9
              clear p0 p1 p2 y0 y1 y2 z0 z1 z2 v0 v1 v2
              obtain ⟨p0, p1, p2, y0, y1, y2⟩ := hB6
              obtain ⟨z0, z1, z2, v0, v1, v2⟩ := hB7
              have q6 : w.heap.size < w9.heap.size := by omega
              have q7 : w.heap.size + 1 < w9.heap.size := by omega
              have q8 : pb < w9.heap.size := by omega
              (repeat (first | go_values | go_skip | go_guarded | go_step | go_upon | (go_simp; go_at_K)))
              refine bodyPost_ret (v := .agg (jCells 6 ⟨#[]⟩ ak4 n4 ck4)) (by simp [jCells, results, Try.results79, go_sem, *]) rfl ?_
              rw [HN.out]
              refine row_fin (op := 4) rfl HO9.out (by omega) hC9 ?_ HST9.out
              (repeat' (first | with_reducible exact Chg.refl _ _ | with_reducible apply Chg.drew | with_reducible refine Chg.alloc ?_ _ | with_reducible refine Chg.setCell ?_ (fun h => ?_) _))
              all_goals rfl

end Go.Proofs.Ytamhdoijmkjngaa

namespace Go.Proofs.Ytamhdoijmkjngaa
open Go.RowKit
set_option linter.unusedVariables false
set_option linter.unusedSimpArgs false

theorem row_said (dep within : Nat) (hdep : dep ≤ 1000) (hw : within < dep) (hV : RValSaid dep (within + 1)) : RowSaid dep within := by
  intro s hs pb kd a q f t hk hq hf w h
  rcases hk with rfl | rfl
  · exact rrow2_calls dep within hdep hw hV s hs pb a q f t hq hf w h
  · exact rrow4_calls dep within hdep hw hV s hs pb a q f t hq hf w h
theorem rval_said (dep : Nat) (hdep : dep ≤ 1000) : ∀ k within, dep ≤ within + k → RValSaid dep within
  | 0, within, h => rvalue_calls dep within hdep fun h2 => by omega
  | k + 1, within, h => rvalue_calls dep within hdep fun h2 => row_said dep within hdep h2 (rval_said dep hdep k (within + 1) (by omega))

set_option maxRecDepth 100000 in
set_option maxHeartbeats 16000000 in
theorem rparse_calls (s : ByteArray) (hs : s.size ≤ 1000000) (dp : Int) (hdp : -9223372036854775808 ≤ dp ∧ dp ≤ 9223372036854775807) (w : World) :
    Calls Try.prog 34 #[.string s, .int .i64 dp] w (ParseOut w (parseP (sl s) dp)) := by
  obtain ⟨R, hR⟩ : ∃ R, R = parseP (sl s) dp := ⟨_, rfl⟩
  rw [← hR]
  by_cases hout : dp < 0 ∨ 1000 < dp
  · have HN : Hid (R = .bad 1 0) := by show _ = _; rw [hR]; unfold parseP; rw [if_pos hout]
    clear hR
    have hout2 : dp < 0 ∨ (0 ≤ dp ∧ 1000 < dp) := by omega
    clear hout
    rcases hout2 with h | ⟨h, h2⟩
    all_goals
      go_enter Try.func34, Try.ntmps34
      (repeat (first | go_values | go_skip | go_guarded | go_step | go_upon | (go_simp; go_at_K)))
      refine bodyPost_ret (v := .tuple #[.agg (jCells 0 ⟨#[]⟩ none 0 0), errV (.err 1 0)]) (by simp [errV, results, Try.results34, go_sem, *]) rfl ?_
      rw [HN.out]
      refine ⟨?_, ⟨by omega, by omega⟩, rfl⟩
      (repeat' (first | with_reducible exact Below.refl _ _ | with_reducible apply Below.drew | with_reducible refine Below.alloc ?_ (by first | omega | (simp; done) | (simp; omega)) _ | with_reducible refine Below.setCell ?_ (by first | omega | (simp only []; omega)) _))
  obtain ⟨dep, rfl⟩ : ∃ n : Nat, dp = n := ⟨dp.toNat, by omega⟩
  have hdep : dep ≤ 1000 := by omega
  have c1 : decide ((dep : Int) < 0) = false := by simp
  have c2 : decide ((1000 : Int) < (dep : Int)) = false := by simp; omega
  have hV := rval_said dep hdep dep 0 (by omega)
  have CV := fun pb kd a q f t ht hq hf1 hf2 W hP => Lib.hid (hV s hs pb kd a q f t ht hq hf1 hf2 W hP)
  have CS := fun pb e k a t he W hP => Lib.hid (rstep_tok s hs pb dep e k a t W he hP)
  have CB := fun pb kd a c e t hc W hP => Lib.hid (rbad_tok s pb dep kd a c e t W hc hP)
  obtain ⟨R1, hR1⟩ : ∃ R1, R1 = nextAt (sl s) 0 := ⟨_, rfl⟩
  have CS1 := fun pb W hP => CS pb 0 0 0 ⟨#[]⟩ (Nat.zero_le _) W hP
  have hn1 := fun kd2 a2 s2 t2 => nextAt_tok (sl s) 0 kd2 a2 s2 t2 (Nat.zero_le _)
  have hne := fun x b => nextAt_err (sl s) 0 x b
  rw [← hR1] at CS1 hn1 hne
  have HR := Lib.hid hR
  have HR1' := Lib.hid hR1
  clear hR hR1 hout hdp hV
  go_enter Try.func34, Try.ntmps34
  go_wp2_with fail
  refine (CS1 (w.heap.size + 1 + 1) _ ?hP).out.mono ?_
  case hP =>
    constructor
    all_goals first | (simp [go_sem]; done) | (simp; omega) | omega
  rintro e w1 ⟨rfl, hc1, hst⟩
  have hJ : Box3 w1 w.heap.size (.int .i64 0) (.string ⟨#[]⟩) (.slice none 0 0) := Box3.chg hc1 (by omega) (by refine ⟨?_, ?_, ?_, ?_, ?_, ?_⟩ <;> simp [go_sem, *])
  have hE : Box3 w1 (w.heap.size + 1) (.int .i64 0) (.int .i64 0) (.slice none 0 0) := Box3.chg hc1 (by omega) (by refine ⟨?_, ?_, ?_, ?_, ?_, ?_⟩ <;> simp [go_sem, *])
  have hb1 : Below w.heap.size w w1 := by
    have h0 : Chg (fun k => w.heap.size ≤ k) w w1 := Chg.trans ((((Chg.refl _ _).alloc _).alloc _).alloc _) hc1 (fun i hi e => by omega)
    exact h0.below (Nat.le_refl _) (fun i h => h)
  have hz1 : w.heap.size + 3 ≤ w1.heap.size := by have := hc1.size; simp at this; omega
  clear hc1 CS1
  obtain ⟨pb, hpb⟩ : ∃ g, g = w.heap.size + 1 + 1 := ⟨_, rfl⟩
  rw [← hpb] at hst ⊢
  have hpb2 : w.heap.size + 2 ≤ pb ∧ pb < w1.heap.size := by omega
  obtain ⟨y1, y2⟩ := hpb2
  clear hpb
  obtain ⟨j0, j1, j2, j3, j4, j5⟩ := hJ
  obtain ⟨e0, e1, e2, e3, e4, e5⟩ := hE
  have l0 : w.heap.size < w1.heap.size := by omega
  have l1 : w.heap.size + 1 < w1.heap.size := by omega
  have n1 : ¬ pb = w.heap.size := by omega
  have m1 : ¬ w.heap.size = pb := by omega
  have n2 : ¬ pb = w.heap.size + 1 := by omega
  have m2 : ¬ w.heap.size + 1 = pb := by omega
  cases R1 with
  | err x b =>
    obtain ⟨hx1, hx2, hbp⟩ := hst
    have HN : Hid (R = .bad x b) := HR.out.trans (parse_err _ _ _ _ hdep HR1'.out.symm)
    have b1 : ((x : Int) == 0) = false := by simp; omega
    have b2 : ((x : Int) != 0) = true := by simp; omega
    obtain ⟨c0, c1, c2, c3, c4, c5, c6, c7, c8, f2, f3, f4, f5, f6, f7, f8, _, _⟩ := hbp
    clear CV CS CB hn1 hne
    go_wp2_with fail
    go_region_held3 (fun W => W.cell? ⟨pb, 6, none⟩ = some (.int .i64 (x : Nat)) ∧ W.cell? ⟨pb, 7, none⟩ = some (.int .i64 (b : Nat)) ∧ W.cell? ⟨pb, 8, none⟩ = some (.slice none 0 0)) (first | (simp [go_sem, *]; done) | go_keep) (fail)
    all_goals
      (repeat (first | go_values | go_skip | go_guarded | go_step | go_upon | (go_simp; go_at_K)))
      refine bodyPost_ret (v := .tuple #[.agg (jCells 0 ⟨#[]⟩ none 0 0), errV (.err x b)]) (by simp [errV, jCells, results, Try.results34, go_sem, *]) rfl ?_
      rw [HN.out]
      refine ⟨?_, ⟨hx1, hx2⟩, rfl⟩
      (repeat' (first | with_reducible exact hb1 | with_reducible apply Below.drew | with_reducible refine Below.alloc ?_ (by first | omega | (simp; done) | (simp; omega)) _ | with_reducible refine Below.setCell ?_ (by first | omega | (simp only []; omega)) _))
  | tok kd a s1 t =>
    obtain ⟨o1, o2, o3, o4, o5, o6⟩ := hn1 kd a s1 t rfl
    rw [sl_len] at o2 o4 o6
    obtain ⟨RV, hRV⟩ : ∃ RV, RV = valP (sl s) dep (2 * (sl s).length + 10) 0 kd a s1 t := ⟨_, rfl⟩
    have CV1 := fun W hP => CV pb kd a s1 (2 * (sl s).length + 10) t (by omega) o2 (by omega) (fun _ => by rw [sl_len]; omega) W hP
    have HR1 : Hid (R = parseQ (sl s) RV) := by
      show _ = _
      rw [HR.out, hRV]
      exact parse_tok _ _ _ _ _ _ hdep HR1'.out.symm
    rw [← hRV] at CV1
    clear hRV CV HR hn1 hne
    rw [show ((0 : Nat) : Int) = 0 from rfl] at CV1
    have HBP : Hid (BoxP w1 pb s dep (kd : Nat) (a : Nat) (s1 : Nat) (txt t) 0 0) := hst
    obtain ⟨c0, c1, c2, c3, c4, c5, c6, c7, c8, f2, f3, f4, f5, f6, f7, f8, _, _⟩ := HBP.out
    clear hst
    go_wp2_with fail
    refine (CV1 _ HBP.out).out.mono ?_
    rintro r w2 ⟨hc2, jv, cv, rfl, hrd, hv⟩
    obtain ⟨jk, jt, jm⟩ := jv
    have hrd0 := hrd
    obtain ⟨jx, bk, nk, dk, rfl, -⟩ := hrd0
    have hJ : Box3 w2 w.heap.size (.int .i64 0) (.string ⟨#[]⟩) (.slice none 0 0) := Box3.chg hc2 (by omega) (by refine ⟨?_, ?_, ?_, ?_, ?_, ?_⟩ <;> simp [go_sem, *])
    have hE : Box3 w2 (w.heap.size + 1) (.int .i64 0) (.int .i64 0) (.slice none 0 0) := Box3.chg hc2 (by omega) (by refine ⟨?_, ?_, ?_, ?_, ?_, ?_⟩ <;> simp [go_sem, *])
    have hb2 : Below w.heap.size w w2 := by
      have h0 : Chg (fun k => w.heap.size ≤ k) w w2 := (Chg.of_below hb1).trans hc2 (fun i hi e => by omega)
      exact h0.below (Nat.le_refl _) (fun i h => h)
    have hz2 : w1.heap.size ≤ w2.heap.size := hc2.size
    clear hc2 CV1 hb1 HBP j0 j1 j2 j3 j4 j5 e0 e1 e2 e3 e4 e5 c0 c1 c2 c3 c4 c5 c6 c7 c8 f2 f3 f4 f5 f6 f7 f8
    obtain ⟨j0, j1, j2, j3, j4, j5⟩ := hJ
    obtain ⟨e0, e1, e2, e3, e4, e5⟩ := hE
    have q0 : w.heap.size < w2.heap.size := by omega
    have q1 : w.heap.size + 1 < w2.heap.size := by omega
    have q2 : pb < w2.heap.size := by omega
    have n3 : ¬ pb = w2.heap.size := by omega
    have m3 : ¬ w2.heap.size = pb := by omega
    have n4 : ¬ w.heap.size = w2.heap.size := by omega
    have m4 : ¬ w2.heap.size = w.heap.size := by omega
    have n5 : ¬ w.heap.size + 1 = w2.heap.size := by omega
    have m5 : ¬ w2.heap.size = w.heap.size + 1 := by omega
    simp only [jCells]
    cases RV with
    | bad x b =>
      obtain ⟨hx1, hx2, k9, a9, e9, t9, hbp⟩ := hv
      have HN : Hid (R = .bad x b) := HR1.out
      have b1 : ((x : Int) == 0) = false := by simp; omega
      have b2 : ((x : Int) != 0) = true := by simp; omega
      obtain ⟨c0, c1, c2, c3, c4, c5, c6, c7, c8, f2, f3, f4, f5, f6, f7, f8, _, _⟩ := hbp
      clear CS CB hrd
      go_wp2_with fail
      go_region_held3 (fun W => W.cell? ⟨pb, 6, none⟩ = some (.int .i64 (x : Nat)) ∧ W.cell? ⟨pb, 7, none⟩ = some (.int .i64 (b : Nat)) ∧ W.cell? ⟨pb, 8, none⟩ = some (.slice none 0 0)) (first | (simp [go_sem, *]; done) | go_keep) (fail)
      all_goals
        (repeat (first | go_values | go_skip | go_guarded | go_step | go_upon | (go_simp; go_at_K)))
        refine bodyPost_ret (v := .tuple #[.agg (jCells 0 ⟨#[]⟩ none 0 0), errV (.err x b)]) (by simp [errV, jCells, results, Try.results34, go_sem, *]) rfl ?_
        rw [HN.out]
        refine ⟨?_, ⟨hx1, hx2⟩, rfl⟩
        (repeat' (first | with_reducible exact hb2 | with_reducible apply Below.drew | with_reducible refine Below.alloc ?_ (by first | omega | (simp; done) | (simp; omega)) _ | with_reducible refine Below.setCell ?_ (by first | omega | (simp only []; omega)) _))
    | ok j' p =>
      obtain ⟨hj, hp1, hp2, hst⟩ := hv
      subst hj
      have HR2 : Hid (R = match nextAt (sl s) p with | .err e b => .bad e b | .tok kd1 a1 _ _ => if kd1 = 1 then .ok (.mk jk jt jm) 0 else .bad 7 a1) := by
        show _ = _
        rw [HR1.out]
        simp only [parseQ]
        try (cases nextAt (sl s) p <;> rfl)
      have hn4 := fun kd2 a2 s2 t2 => nextAt_tok (sl s) p kd2 a2 s2 t2 (by rw [sl_len]; exact hp2)
      obtain ⟨R4, hR4⟩ : ∃ R4, R4 = nextAt (sl s) p := ⟨_, rfl⟩
      rw [← hR4] at hst HR2 hn4
      clear hR4 HR1
      cases R4 with
      | err x b =>
        obtain ⟨hx1, hx2, hbp⟩ := hst
        have HN : Hid (R = .bad x b) := HR2.out
        have b1 : ((x : Int) == 0) = false := by simp; omega
        have b2 : ((x : Int) != 0) = true := by simp; omega
        obtain ⟨c0, c1, c2, c3, c4, c5, c6, c7, c8, f2, f3, f4, f5, f6, f7, f8, _, _⟩ := hbp
        clear CS CB hrd hn4
        go_wp2_with fail
        go_region_held3 (fun W => W.cell? ⟨pb, 6, none⟩ = some (.int .i64 (x : Nat)) ∧ W.cell? ⟨pb, 7, none⟩ = some (.int .i64 (b : Nat)) ∧ W.cell? ⟨pb, 8, none⟩ = some (.slice none 0 0)) (first | (simp [go_sem, *]; done) | go_keep) (fail)
        all_goals
          (repeat (first | go_values | go_skip | go_guarded | go_step | go_upon | (go_simp; go_at_K)))
          refine bodyPost_ret (v := .tuple #[.agg (jCells 0 ⟨#[]⟩ none 0 0), errV (.err x b)]) (by simp [errV, jCells, results, Try.results34, go_sem, *]) rfl ?_
          rw [HN.out]
          refine ⟨?_, ⟨hx1, hx2⟩, rfl⟩
          (repeat' (first | with_reducible exact hb2 | with_reducible apply Below.drew | with_reducible refine Below.alloc ?_ (by first | omega | (simp; done) | (simp; omega)) _ | with_reducible refine Below.setCell ?_ (by first | omega | (simp only []; omega)) _))
      | tok kd5 a5 s5 t5 =>
        have HBP : Hid (BoxP w2 pb s dep (kd5 : Nat) (a5 : Nat) (s5 : Nat) (txt t5) 0 0) := hst
        obtain ⟨c0, c1, c2, c3, c4, c5, c6, c7, c8, f2, f3, f4, f5, f6, f7, f8, _, _⟩ := HBP.out
        clear hst hn4
        by_cases h1 : kd5 = 1
        · have HN : Hid (R = .ok (.mk jk jt jm) 0) := by show _ = _; rw [HR2.out]; simp only; rw [if_pos h1]
          subst h1
          have HRD := Lib.hid (hrd.imp (S' := fun k => w.heap.size + 2 ≤ k ∧ k < w2.heap.size ∨ w2.heap.size ≤ k) (fun k hk h => by left; omega))
          clear CS CB hrd
          (repeat (first | go_values | go_skip | go_guarded | go_step | go_upon | (go_simp; go_at_K)))
          refine bodyPost_ret (v := .tuple #[.agg (jCells jk jx bk nk dk), errV (.tok 0 0 0 [])]) (by simp [errV, jCells, results, Try.results34, go_sem, *]) rfl ?_
          rw [HN.out]
          refine ⟨?_, _, rfl, ?_⟩
          · skip
            (repeat' (first | with_reducible exact hb2 | with_reducible apply Below.drew | with_reducible refine Below.alloc ?_ (by first | omega | (simp; done) | (simp; omega)) _ | with_reducible refine Below.setCell ?_ (by first | omega | (simp only []; omega)) _))
          · refine (HRD.out.keep (KeepS.chg (X := fun k => k = w.heap.size ∨ k = w.heap.size + 1) ?_ (fun k hk h => by omega))).imp (fun k _ h => by omega)
            (repeat' (first | with_reducible exact Chg.refl _ _ | with_reducible apply Chg.drew | with_reducible refine Chg.alloc ?_ _ | with_reducible refine Chg.setCell ?_ (fun h => ?_) _))
            all_goals first | exact .inl rfl | exact .inr rfl | (dsimp only at h ⊢; omega)
        · have HN : Hid (R = .bad 7 a5) := by show _ = _; rw [HR2.out]; simp only; rw [if_neg h1]
          have b5 : ((kd5 : Int) != 1) = true := by simp; omega
          have b3 : ((7 : Nat) : Int) = 7 := rfl
          clear hrd
          go_wp2_with fail
          refine (CB pb kd5 a5 7 (s5 : Nat) (txt t5) (by omega) _ ?hP).out.mono ?_
          case hP =>
            refine BoxP.keep ?_ HBP.out
            (repeat' (first | with_reducible exact Chg.refl _ _ | with_reducible apply Chg.drew | with_reducible refine Chg.alloc ?_ _ | with_reducible refine Chg.setCell ?_ (fun h => ?_) _))
            all_goals (dsimp only; omega)
          rintro r w3 ⟨rfl, hc3, hst⟩
          rw [if_neg h1] at hst
          obtain ⟨hx1, hx2, k9, a9, e9, t9, hbp⟩ := hst
          clear c0 c1 c2 c3 c4 c5 c6 c7 c8 f2 f3 f4 f5 f6 f7 f8 b3
          have hJ : Box3 w3 w.heap.size (.int .i64 0) (.string ⟨#[]⟩) (.slice none 0 0) := Box3.chg hc3 (by omega) (by refine ⟨?_, ?_, ?_, ?_, ?_, ?_⟩ <;> simp [go_sem, *])
          have hE : Box3 w3 (w.heap.size + 1) (.int .i64 0) (.int .i64 0) (.slice none 0 0) := Box3.chg hc3 (by omega) (by refine ⟨?_, ?_, ?_, ?_, ?_, ?_⟩ <;> simp [go_sem, *])
          have hb3 : Below w.heap.size w w3 := by
            have h0 : Chg (fun k => w.heap.size ≤ k) w w3 := by
              refine Chg.trans ?_ hc3 (fun i hi e => by omega)
              (repeat' (first | with_reducible exact (Chg.of_below hb2) | with_reducible apply Chg.drew | with_reducible refine Chg.alloc ?_ _ | with_reducible refine Chg.setCell ?_ (fun h => ?_) _))
              all_goals (dsimp only at h ⊢; omega)
            exact h0.below (Nat.le_refl _) (fun i h => h)
          have hz3 : w2.heap.size ≤ w3.heap.size := by have := hc3.size; simp at this; omega
          clear hc3 j0 j1 j2 j3 j4 j5 e0 e1 e2 e3 e4 e5 CS CB q0 q1 q2 n3 m3 n4 m4 n5 m5
          obtain ⟨j0, j1, j2, j3, j4, j5⟩ := hJ
          obtain ⟨e0, e1, e2, e3, e4, e5⟩ := hE
          obtain ⟨c0, c1, c2, c3, c4, c5, c6, c7, c8, f2, f3, f4, f5, f6, f7, f8, _, _⟩ := hbp
          have q0 : w.heap.size < w3.heap.size := by omega
          have q1 : w.heap.size + 1 < w3.heap.size := by omega
          have q2 : pb < w3.heap.size := by omega
          go_wp2_with fail
          go_region_held3 (fun W => W.cell? ⟨pb, 6, none⟩ = some (.int .i64 (7 : Nat)) ∧ W.cell? ⟨pb, 7, none⟩ = some (.int .i64 (a5 : Nat)) ∧ W.cell? ⟨pb, 8, none⟩ = some (.slice none 0 0)) (first | (simp [go_sem, *]; done) | go_keep) (fail)
          all_goals
            (repeat (first | go_values | go_skip | go_guarded | go_step | go_upon | (go_simp; go_at_K)))
            refine bodyPost_ret (v := .tuple #[.agg (jCells 0 ⟨#[]⟩ none 0 0), errV (.err 7 a5)]) (by simp [errV, jCells, results, Try.results34, go_sem, *]) rfl ?_
            rw [HN.out]
            refine ⟨?_, ⟨hx1, hx2⟩, rfl⟩
            (repeat' (first | with_reducible exact hb3 | with_reducible apply Below.drew | with_reducible refine Below.alloc ?_ (by first | omega | (simp; done) | (simp; omega)) _ | with_reducible refine Below.setCell ?_ (by first | omega | (simp only []; omega)) _))

end Go.Proofs.Ytamhdoijmkjngaa

namespace Go.Proofs.Ytamhdoijmkjngaa
open Go.RowKit
set_option linter.unusedVariables false
set_option linter.unusedSimpArgs false

theorem zero_rd0 (S : Nat → Prop) (w : World) : RdJ S w (.mk 0 [] .nil) (jCells 0 ⟨#[]⟩ none 0 0) :=
  ⟨⟨#[]⟩, none, 0, 0, rfl, rfl, by decide, by decide, rfl, ⟨by decide, fun _ => rfl, Nat.le_refl _⟩, trivial⟩
/-- What Parse answers, in one shape. -/
theorem parse_shape {w w' : World} {R : PR J} {e : Ending} (h : ParseOut w R e w') : ∃ (j : J) (k : Int) (x : ByteArray) (ak : Option Addr) (nk ck : Nat), e = .returned (.tuple #[.agg (jCells k x ak nk ck), match R with | .bad x b => errV (.err x b) | .ok _ _ => errV (.tok 0 0 0 [])]) ∧ RdJ (fun k => w.heap.size ≤ k) w' j (jCells k x ak nk ck) ∧ (j = match R with | .bad _ _ => .mk 0 [] .nil | .ok j' _ => j') ∧ Below w.heap.size w w' := by
  obtain ⟨hb, h2⟩ := h
  cases R with
  | bad x b => exact ⟨_, 0, ⟨#[]⟩, none, 0, 0, h2.2, zero_rd0 _ _, rfl, hb⟩
  | ok j n =>
    obtain ⟨c, h3, h4⟩ := h2
    have h5 := h4
    obtain ⟨k, t, m⟩ := j
    obtain ⟨x, ak, nk, ck, rfl, _⟩ := h5
    exact ⟨_, k, x, ak, nk, ck, h3, h4, rfl, hb⟩
def resE : PR J → LexR
  | .bad x b => .err x b
  | .ok _ _ => .tok 0 0 0 []
def resJ : PR J → J
  | .bad _ _ => .mk 0 [] .nil
  | .ok j _ => j
theorem parse_shape2 {w w' : World} {R : PR J} {e : Ending} (h : ParseOut w R e w') : ∃ (k : Int) (x : ByteArray) (ak : Option Addr) (nk ck : Nat), e = .returned (.tuple #[.agg (jCells k x ak nk ck), errV (resE R)]) ∧ RdJ (fun k => w.heap.size ≤ k) w' (resJ R) (jCells k x ak nk ck) ∧ Below w.heap.size w w' := by
  obtain ⟨j, k, x, ak, nk, ck, h1, h2, h3, h4⟩ := parse_shape h
  cases R with
  | bad y b => subst h3; exact ⟨k, x, ak, nk, ck, h1, h2, h4⟩
  | ok j' n => subst h3; exact ⟨k, x, ak, nk, ck, h1, h2, h4⟩

set_option maxRecDepth 100000 in
set_option maxHeartbeats 16000000 in
theorem JsonParses_walk (w : World) (s : ByteArray) (hs9 : s.size ≤ 9223372036854775807) (p : Int) (hp9 : -9223372036854775808 ≤ p ∧ p ≤ 9223372036854775807) :
    Calls Try.prog 10 #[.string s, .int .i64 p] w fun e w' => e = .returned (.bool true) ∧ Below w.heap.size w w' := by
  have CA := fun W => Lib.hid (awake23 W)
  by_cases h3 : 1000 < s.size
  · have d3 : decide ((1000 : Int) < (s.size : Int)) = true := by simp; omega
    go_enter Try.func10, Try.ntmps10
    go_wp2_with fail
    refine (CA _).out.mono ?_
    rintro e w1 ⟨rfl, hb1⟩
    go_wp2_with fail
    go_ret
    exact ⟨rfl, hb1⟩
  have d3 : decide ((1000 : Int) < (s.size : Int)) = false := by simp; omega
  have C1 := fun W => Lib.hid ((parse_calls s (by omega) p hp9 W).mono fun e w' h => parse_shape2 h)
  have C2 := fun W => Lib.hid ((rparse_calls s (by omega) p hp9 W).mono fun e w' h => parse_shape2 h)
  obtain ⟨R, hR⟩ : ∃ R, R = parseP (sl s) p := ⟨_, rfl⟩
  rw [← hR] at C1 C2
  obtain ⟨j, hj⟩ : ∃ j, j = resJ R := ⟨_, rfl⟩
  rw [← hj] at C1 C2
  obtain ⟨ke, ka, hE⟩ := errV_agg (resE R)
  rw [hE] at C1 C2
  have CSm := Lib.hid (fun S S' W ca cb => same_all (wtJ j) j j (Nat.le_refl _) S S' W ca cb)
  rw [(eqJ_iff j j).2 rfl] at CSm
  clear hR hE h3 hj
  go_enter Try.func10, Try.ntmps10
  go_wp2_with fail
  refine (CA _).out.mono ?_
  rintro e w1 ⟨rfl, hb1⟩
  have HB1 := Lib.hid hb1
  have hs1 := hb1.size
  clear hb1
  go_wp2_with fail
  refine (C1 _).out.mono ?_
  rintro e w2 ⟨k, x, ak, nk, ck, rfl, hrd, hb2⟩
  have HB2 := Lib.hid (HB1.out.trans (hb2.mono hs1))
  have hs2 := HB2.out.size
  have HRD2 := Lib.hid hrd
  clear hb2 hrd
  simp only [jCells]
  go_wp2_with fail
  refine (C2 _).out.mono ?_
  rintro e w3 ⟨k', x', ak', nk', ck', rfl, hrd, hb3⟩
  have t0 : w3.cell? ⟨w2.heap.size, 0, none⟩ = some (.int .i64 k) := by rw [hb3.cell (p := ⟨w2.heap.size, 0, none⟩) (by first | (simp; done) | (simp; omega))]; simp [go_sem]
  have t1 : w3.cell? ⟨w2.heap.size, 1, none⟩ = some (.string x) := by rw [hb3.cell (p := ⟨w2.heap.size, 1, none⟩) (by first | (simp; done) | (simp; omega))]; simp [go_sem]
  have t2 : w3.cell? ⟨w2.heap.size, 2, none⟩ = some (.slice ak nk ck) := by rw [hb3.cell (p := ⟨w2.heap.size, 2, none⟩) (by first | (simp; done) | (simp; omega))]; simp [go_sem]
  have u0 : w3.cell? ⟨w2.heap.size + 1, 0, none⟩ = some (.int .i64 ke) := by rw [hb3.cell (p := ⟨w2.heap.size + 1, 0, none⟩) (by first | (simp; done) | (simp; omega))]; simp [go_sem]
  have u1 : w3.cell? ⟨w2.heap.size + 1, 1, none⟩ = some (.int .i64 ka) := by rw [hb3.cell (p := ⟨w2.heap.size + 1, 1, none⟩) (by first | (simp; done) | (simp; omega))]; simp [go_sem]
  have u2 : w3.cell? ⟨w2.heap.size + 1, 2, none⟩ = some (.slice none 0 0) := by rw [hb3.cell (p := ⟨w2.heap.size + 1, 2, none⟩) (by first | (simp; done) | (simp; omega))]; simp [go_sem]
  have hs3 : w2.heap.size + 2 ≤ w3.heap.size := by have := hb3.size; simpa using this
  have l1 : w2.heap.size < w3.heap.size := by omega
  have l2 : w2.heap.size + 1 < w3.heap.size := by omega
  have l3 : w2.heap.size < w3.heap.size + 1 := by omega
  have l4 : w2.heap.size + 1 < w3.heap.size + 1 := by omega
  have hb23 : Below w2.heap.size w2 w3 := (((Below.refl _ _).alloc (Nat.le_refl _) _).alloc (by simp) _).trans (hb3.mono (by simp; omega))
  have HB3 : Hid (Below w.heap.size w w3) := HB2.out.trans (hb23.mono hs2)
  have HRA := Lib.hid (HRD2.out.below hb23)
  have HRB := Lib.hid hrd
  clear hb3 hrd hb23
  simp only [jCells]
  go_wp2_with fail
  refine (same_fault _ _ _).mono ?_
  rintro e w7 ⟨rfl, hb7⟩
  have x0 : w7.cell? ⟨w2.heap.size, 0, none⟩ = some (.int .i64 k) := by rw [hb7.cell (p := ⟨w2.heap.size, 0, none⟩) (by first | (simp; done) | (simp; omega))]; simp [go_sem, t0, t1, t2, l1, l3]
  have x1 : w7.cell? ⟨w2.heap.size, 1, none⟩ = some (.string x) := by rw [hb7.cell (p := ⟨w2.heap.size, 1, none⟩) (by first | (simp; done) | (simp; omega))]; simp [go_sem, t0, t1, t2, l1, l3]
  have x2 : w7.cell? ⟨w2.heap.size, 2, none⟩ = some (.slice ak nk ck) := by rw [hb7.cell (p := ⟨w2.heap.size, 2, none⟩) (by first | (simp; done) | (simp; omega))]; simp [go_sem, t0, t1, t2, l1, l3]
  have y0 : w7.cell? ⟨w3.heap.size, 0, none⟩ = some (.int .i64 k') := by rw [hb7.cell (p := ⟨w3.heap.size, 0, none⟩) (by first | (simp; done) | (simp; omega))]; simp [go_sem, t0, t1, t2, l1, l3]
  have y1 : w7.cell? ⟨w3.heap.size, 1, none⟩ = some (.string x') := by rw [hb7.cell (p := ⟨w3.heap.size, 1, none⟩) (by first | (simp; done) | (simp; omega))]; simp [go_sem, t0, t1, t2, l1, l3]
  have y2 : w7.cell? ⟨w3.heap.size, 2, none⟩ = some (.slice ak' nk' ck') := by rw [hb7.cell (p := ⟨w3.heap.size, 2, none⟩) (by first | (simp; done) | (simp; omega))]; simp [go_sem, t0, t1, t2, l1, l3]
  have hb37 : Below w3.heap.size w3 w7 := (((Below.refl _ _).alloc (Nat.le_refl _) _).alloc (by simp) _).trans (hb7.mono (by simp; omega))
  have HB7 : Hid (Below w.heap.size w w7) := HB3.out.trans (hb37.mono (by omega))
  have HRA7 := Lib.hid (HRA.out.below hb37)
  have HRB7 := Lib.hid (HRB.out.below hb37)
  have hs7 := HB7.out.size
  clear hb7 hb37 t0 t1 t2 u0 u1 u2
  go_wp2_with fail
  refine (CSm.out _ _ _ _ _ HRA7.out HRB7.out).mono ?_
  rintro e w8 ⟨rfl, hb8⟩
  go_wp2_with fail
  go_ret
  exact ⟨rfl, HB7.out.trans (hb8.mono hs7)⟩

end Go.Proofs.Ytamhdoijmkjngaa

namespace Go.Proofs.Ytamhdoijmkjngaa.lawJsonParses
open Go.ChangeShapes Go.WideShapes Go.ChangeAt Go.RowKit Go.Proofs.Ytamhdoijmkjngaa
open Go.ChangeMaps (open_string shut_string)
set_option linter.unusedVariables false
set_option linter.unusedSimpArgs false

theorem own : ownKnob Try.prog.godebug = none := by kernel_rfl
theorem laidOut : laidOutB Try.prog = true := by kernel_rfl

set_option maxRecDepth 100000 in
theorem lifted (os : Os) (started : os.Started) (H : Type) (enc : TypeId × Value → H) :
    ReturnsInHanded {} Try.checked os 10 .any (Rows.jsonParsesSpec.pre6 enc Try.prog Try.f10 Rows.jsonParsesRow.domain false) (Rows.jsonParsesSpec.post enc Try.prog Try.f10 false true false false) := by
  refine returnsInHanded_of_change (C := Try.checked) own started (by kernel_rfl) Try.func10
    (ChangeSpec.witness6 (enc := enc) (C := Try.checked) false ⟨#[], #[.string ByteArray.empty, .int .i64 0], []⟩ 8 (by kernel_rfl) (by kernel_rfl) (by kernel_rfl) (by kernel_rfl)) ?_
  intro W base args ds gs before hval0 hW hcnd _
  have hval : ∀ (j : Nat) t v, Try.f10.params[j]? = some t → args[j]? = some v → Value.okWide Try.prog W .any base t v := hval0
  have hW' := hW
  obtain ⟨p, q, hA0, hV, rfl, hfz, hnd⟩ := hW
  have hA : DataW.TrodAll enc Try.prog W 0 (fun _ => true) true Try.f10.params.toList args.toList ds p := hA0
  rw [Try.params10] at hA hval
  obtain ⟨v0, vs0, d0, ds0, p0, q0, hargs, rfl, rfl, h0, r0⟩ := trodAll_cons hA
  obtain ⟨v1, vs1, d1, ds1, p1, q1, rfl, rfl, rfl, h1, r1⟩ := trodAll_cons r0
  obtain ⟨rfl, rfl, rfl⟩ := trodAll_nil r1
  obtain rfl : args = #[v0, v1] := by cases args; simp_all
  obtain ⟨rfl, rfl⟩ := trodVars_none hV
  have k0 := h0
  have lt0 : ∀ x ∈ p0, x.block < W.heap.size := by obtain ⟨m, hm⟩ := k0; exact DataW.trod_lt m _ _ _ hm
  have k1 := h1
  have lt1 : ∀ x ∈ p1, x.block < W.heap.size := by obtain ⟨m, hm⟩ := k1; exact DataW.trod_lt m _ _ _ hm
  obtain ⟨a0, rfl, _, _, w0⟩ := open_string Try.underlying9 (hval 0 9 v0 rfl rfl) h0
  obtain ⟨a1, rfl, _, _, w1⟩ := open_int Try.underlying3 (hval 1 3 v1 rfl rfl) h1
  clear hA0 hval0
  refine (JsonParses_walk W a0 w0 a1 (wf_i64 w1)).mono fun e W' ⟨he, bel⟩ => ?_
  subst he
  exact ⟨_, rfl, _, _, _, [], _, [], hW', trodAll_mk1 (shut_bool Try.underlying4 _), (trodAll_cons_mk (Below.trod laidOut (by kernel_rfl) (of_decide_eq_true (by kernel_rfl)) k0 bel lt0) (trodAll_cons_mk (Below.trod laidOut (by kernel_rfl) (of_decide_eq_true (by kernel_rfl)) k1 bel lt1) trodAll_mk0)), rfl, bel.frame _, fun h => by cases h⟩

theorem over : Rows.jsonParsesRow.holds Try.pinned (OpenSpec.ofChange Rows.jsonParsesSpec) :=
  OpenClaim.holds_of_wide 10 Try.f10 rfl rfl rfl rfl rfl rfl rfl ⟨rfl, rfl, rfl, rfl, rfl⟩ rfl rfl rfl rfl rfl (by kernel_rfl) Try.func10 (by kernel_rfl)
    (of_decide_eq_true (by kernel_rfl)) (by unfold Func.isWrapper; first | (rw [if_pos (by decide +kernel)]; kernel_rfl) | (rw [if_neg (by decide +kernel)]; exact ⟨rfl, rfl⟩))
    (fun os started H enc _ => lifted os started H enc)

theorem proved : Rows.JsonParsesSaid := over
#print axioms proved
end Go.Proofs.Ytamhdoijmkjngaa.lawJsonParses
