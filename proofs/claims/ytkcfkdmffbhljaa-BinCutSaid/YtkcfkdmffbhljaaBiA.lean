/- bin's reader: a fault, the number of four bytes, how many bytes a Kind has, a text that a byte 0 ends. -/
import Derived.Test.YtkcfkdmffbhljaaMI
import Derived.Test.YtkcfkdmffbhljaaCtW
import Derived.Test.YtkcfkdmffbhljaaMN
import Derived.Test.YtkcfkdmffbhljaaME
import Derived.Deep.Cut
namespace Go.Proofs.Ytkcfkdmffbhljaa
open Go.RowKit
set_option linter.unusedVariables false
set_option linter.unusedSimpArgs false

/-- A fault at a place. -/
abbrev fltV (e a : Nat) : Value := .agg #[.int .i64 (e : Nat), .int .i64 (a : Nat), .slice none 0 0]

theorem wrong_calls (e a : Int) (w : World) : Calls Try.prog 49 #[.int .i64 e, .int .i64 a] w fun r w' => r = .returned (.agg #[.int .i64 e, .int .i64 a, .slice none 0 0]) ∧ Below w.heap.size w w' := by
  go_enter Try.func49, Try.ntmps49
  go_wp2_with fail
  refine bodyPost_ret (v := .agg #[.int .i64 e, .int .i64 a, .slice none 0 0]) (by simp [results, Try.results49, go_sem]) rfl ?_
  exact ⟨rfl, (Below.refl _ _).alloc (Nat.le_refl _) _⟩

/-- A reader as it lies: its bytes, how deep documents may be. -/
def BRd (w : World) (rb b o n c : Nat) (L : List UInt8) (deep : Nat) : Prop :=
  w.cell? ⟨rb, 0, none⟩ = some (.slice (some ⟨b, o, none⟩) n c) ∧ w.cell? ⟨rb, 1, none⟩ = some (.int .i64 (deep : Nat)) ∧ RdB w (some ⟨b, o, none⟩) n L ∧ n ≤ c ∧ n ≤ 1000000
theorem BRd.keep {w w' : World} {rb b o n c : Nat} {L : List UInt8} {deep : Nat} (h : BRd w rb b o n c L deep) (hb : Below w.heap.size w w') : BRd w' rb b o n c L deep :=
  ⟨cell_below hb h.1, cell_below hb h.2.1, h.2.2.1.keep hb, h.2.2.2⟩

theorem len4_wrap (x : Nat) (h : x < 4294967296) : wrap64 (wrap32 (x : Int)) = if x < 2147483648 then (x : Int) else (x : Int) - 4294967296 := by
  unfold wrap64 wrap32
  split <;> omega
theorem seg_seg (l : List UInt8) (p n : Nat) : seg (seg l p n) 0 n = seg l p n := by simp only [seg, List.drop_zero, List.take_take, Nat.min_self]

set_option maxRecDepth 100000 in
set_option maxHeartbeats 2000000 in
theorem length_calls (rb b o n c : Nat) (L : List UInt8) (deep : Nat) (w : World) (h : BRd w rb b o n c L deep) (p : Nat) (hp : p + 4 ≤ n) :
    Calls Try.prog 50 #[.pointer (some ⟨rb, 0, none⟩), .int .i64 (p : Nat)] w fun e w' => e = .returned (.int .i64 (len4 L p)) ∧ Below w.heap.size w w' := by
  obtain ⟨h1, h2, h3, h4, h5⟩ := h
  have hL : L.length = n := h3.1
  have hr : RdB w (some ⟨b, o + p, none⟩) 4 (seg L p 4) := seg_rd (by rw [hL]; exact h3) p 4 (by omega)
  have C := Lib.hid (new_calls (some ⟨b, o + p, none⟩) 4 (c - p) (seg L p 4) w hr (by simp) (by omega))
  have hsl : (seg L p 4).length = 4 := seg_length _ _ _ (by omega)
  have CL := Lib.hid (fun r W (h : Rdr W r (seg L p 4) 0) => rlow_yes r 0 (seg L p 4) W h 4 (by omega) (by omega) (by omega))
  rw [seg_seg] at CL
  have hlt := le_seg_lt L p 4
  obtain ⟨X, hX⟩ : ∃ X, X = le (seg L p 4) := ⟨_, rfl⟩
  rw [← hX] at CL hlt
  have hw1 : wrap64 (wrap32 (X : Int)) = len4 L p := by rw [len4_wrap X (by omega)]; unfold len4; rw [← hX]
  have e1 : IntKind.i64.wrap ((p : Int) + 4) = ((p + 4 : Nat) : Int) := (IntWalk.i64_in _ (by omega)).trans (by omega)
  obtain ⟨q, hq⟩ : ∃ q, q = p + 4 := ⟨_, rfl⟩
  rw [← hq] at e1
  have j1 : (p : Int) ≤ (q : Int) := by omega
  have j2 : (q : Int) ≤ (c : Int) := by omega
  have j3 : ¬ c = p := by omega
  have j4 : q - p = 4 := by omega
  clear h2 h3 hr hsl hX hq hp
  generalize len4 L p = R at *
  go_enter Try.func50, Try.ntmps50
  go_wp2_with fail
  refine C.out.mono ?_
  rintro e w1 ⟨r, rfl, hrd, hb1, hrr⟩
  have HB1 := Lib.hid hb1
  have C2 := Lib.hid (CL.out r w1 hrd)
  clear hrd hb1 h1
  go_wp2_with fail
  refine C2.out.mono ?_
  rintro e w2 ⟨rfl, hrd2, hch⟩
  have HB2 : Hid (Below w.heap.size w w2) := HB1.out.trans (hch.below HB1.out.size (fun i hi => by rw [hi]; exact hrr))
  clear hrd2 hch
  go_wp2_with fail
  go_ret
  exact ⟨by rw [← hw1]; rfl, HB2.out⟩

/-- How many bytes a value of a Kind has at least. -/
def fixP (k : Int) : Nat := if k = 1 ∨ k = 9 ∨ k = 17 ∨ k = 18 then 8 else if k = 16 ∨ k = 2 ∨ k = 13 ∨ k = 14 ∨ k = 12 ∨ k = 15 then 4 else if k = 8 then 1 else if k = 19 then 16 else if k = 7 then 12 else if k = 5 then 5 else 0

set_option maxRecDepth 100000 in
set_option maxHeartbeats 2000000 in
theorem fixed_calls (k : Int) (w : World) : Calls Try.prog 74 #[.int .i64 k] w fun e w' => e = .returned (.int .i64 (fixP k : Nat)) ∧ w = w' := by
  by_cases h : k = 1 ∨ k = 9 ∨ k = 17 ∨ k = 18 ∨ k = 16 ∨ k = 2 ∨ k = 13 ∨ k = 14 ∨ k = 12 ∨ k = 15 ∨ k = 8 ∨ k = 19 ∨ k = 7 ∨ k = 5
  · rcases h with rfl | rfl | rfl | rfl | rfl | rfl | rfl | rfl | rfl | rfl | rfl | rfl | rfl | rfl
    all_goals
      go_enter Try.func74, Try.ntmps74
      go_wp2_with fail
      go_ret
      exact ⟨rfl, rfl⟩
  · have e : fixP k = 0 := by unfold fixP; (repeat' split) <;> omega
    rw [e]
    have h1 : (k == 1) = false := by simp; omega
    have h9 : (k == 9) = false := by simp; omega
    have h17 : (k == 17) = false := by simp; omega
    have h18 : (k == 18) = false := by simp; omega
    have h16 : (k == 16) = false := by simp; omega
    have h2 : (k == 2) = false := by simp; omega
    have h13 : (k == 13) = false := by simp; omega
    have h14 : (k == 14) = false := by simp; omega
    have h12 : (k == 12) = false := by simp; omega
    have h15 : (k == 15) = false := by simp; omega
    have h8 : (k == 8) = false := by simp; omega
    have h19 : (k == 19) = false := by simp; omega
    have h7 : (k == 7) = false := by simp; omega
    have h5 : (k == 5) = false := by simp; omega
    clear h e
    go_enter Try.func74, Try.ntmps74
    go_wp2_with fail
    go_ret
    exact ⟨rfl, rfl⟩

/-- A text and the place behind, or a fault. -/
def TxtOut (x : Except (Nat × Nat) (List UInt8 × Nat)) (w : World) (e : Ending) (w' : World) : Prop :=
  (match x with
   | .error (er, a) => e = .returned (.tuple #[.string ⟨#[]⟩, .int .i64 0, fltV er a])
   | .ok (s, n) => e = .returned (.tuple #[.string (txt s), .int .i64 (n : Nat), fltV 0 0])) ∧ Below w.heap.size w w'

set_option maxRecDepth 100000 in
set_option maxHeartbeats 2000000 in
theorem bended_calls (rb b o n c : Nat) (L : List UInt8) (deep : Nat) (w : World) (h : BRd w rb b o n c L deep) (q z : Nat) (hz : z ≤ n) :
    Calls Try.prog 77 #[.pointer (some ⟨rb, 0, none⟩), .int .i64 (q : Nat), .int .i64 (z : Nat)] w (TxtOut (endQ L q z) w) := by
  obtain ⟨h1, h2, h3, h4, h5⟩ := h
  obtain ⟨wa, hwa⟩ : ∃ W, W = w.alloc (.cells #[.int .i64 0, .int .i64 0, .slice none 0 0] 34) := ⟨_, rfl⟩
  have hba : Below w.heap.size w wa := by rw [hwa]; exact (Below.refl _ _).alloc (Nat.le_refl _) _
  have HBA := Lib.hid hba
  obtain ⟨g, hg⟩ : ∃ g, g = w.heap.size := ⟨_, rfl⟩
  have k0 : wa.cell? ⟨g, 0, none⟩ = some (.int .i64 0) ∧ wa.cell? ⟨g, 1, none⟩ = some (.int .i64 0) ∧ wa.cell? ⟨g, 2, none⟩ = some (.slice none 0 0) := by rw [hwa, hg]; simp [go_sem]
  have z0 : wa.frozen? ⟨g, 0, none⟩ = false ∧ wa.frozen? ⟨g, 1, none⟩ = false ∧ wa.frozen? ⟨g, 2, none⟩ = false := by rw [hwa, hg]; simp [go_sem]
  have hrt : RdB wa (some ⟨b, o, none⟩) z (L.take z) := rd_take (h3.keep hba) z hz
  have C := Lib.hid (ctext_calls (some ⟨b, o, none⟩) z c q wa (L.take z) hrt (by omega))
  have hk1 := cell_below hba h1
  have j1 : (0 : Int) ≤ (z : Int) := by omega
  have j2 : (z : Int) ≤ (c : Int) := by omega
  obtain ⟨ka, kb, kc⟩ := k0
  obtain ⟨za, zb, zc⟩ := z0
  have HG : Hid (g = w.heap.size) := hg
  have HZ : Hid (∀ W, Below w.heap.size w W → True) := fun _ _ => trivial
  clear h1 h2 h3 hba hrt
  obtain ⟨E, hE⟩ : ∃ E, E = (cText (L.take z) q).2.2 := ⟨_, rfl⟩
  obtain ⟨N, hN⟩ : ∃ N, N = (cText (L.take z) q).2.1 := ⟨_, rfl⟩
  obtain ⟨s, hs⟩ : ∃ s, s = (cText (L.take z) q).1 := ⟨_, rfl⟩
  have hEQ : endQ L q z = if E ≠ 0 then .error (E, q) else .ok (s, N) := by unfold endQ; rw [hE, hN, hs]
  have HEQ := Lib.hid hEQ
  unfold CTextOut at C
  rw [← hE, ← hN, ← hs] at C
  clear hEQ hE hN hs
  by_cases h0 : E = 0
  · have HX : Hid (endQ L q z = .ok (s, N)) := by show _ = _; rw [HEQ.out, if_neg (by simpa using h0)]
    have hne : ((E : Int) != 0) = false := by simp [h0]
    clear h0 HEQ
    go_enter Try.func77, Try.ntmps77
    go_upto_region 1 with fail
    rw [← hwa, ← hg]
    clear hwa hg
    go_wp2_with fail
    refine C.out.mono ?_
    rintro e w1 ⟨rfl, rfl⟩
    go_wp2_with fail
    refine bodyPost_ret (v := .tuple #[.string (txt s), .int .i64 (N : Nat), fltV 0 0]) (by simp [results, Try.results77, go_sem, *]) rfl ?_
    refine ⟨by rw [HX.out], ?_⟩
    (repeat' (first | with_reducible exact HBA.out | with_reducible refine Below.setCell ?_ (by rw [HG.out]; exact Nat.le_refl _) _))
  · have HX : Hid (endQ L q z = .error (E, q)) := by show _ = _; rw [HEQ.out, if_pos h0]
    have hne : ((E : Int) != 0) = true := by simpa using h0
    have CW := Lib.hid (wrong_calls (E : Nat) (q : Nat) wa)
    clear h0 HEQ
    go_enter Try.func77, Try.ntmps77
    go_upto_region 1 with fail
    rw [← hwa, ← hg]
    clear hwa hg
    go_wp2_with fail
    refine C.out.mono ?_
    rintro e w1 ⟨rfl, rfl⟩
    go_wp2_with fail
    refine CW.out.mono ?_
    rintro e w2 ⟨rfl, hb2⟩
    have m0 := cell_below hb2 ka
    have m1 := cell_below hb2 kb
    have m2 := cell_below hb2 kc
    have hgs : g < wa.heap.size := by simpa using cell_block ka
    have y0 : w2.frozen? ⟨g, 0, none⟩ = false := (hb2.frozen (p := ⟨g, 0, none⟩) hgs).trans za
    have y1 : w2.frozen? ⟨g, 1, none⟩ = false := (hb2.frozen (p := ⟨g, 1, none⟩) hgs).trans zb
    have y2 : w2.frozen? ⟨g, 2, none⟩ = false := (hb2.frozen (p := ⟨g, 2, none⟩) hgs).trans zc
    have HB2 : Hid (Below w.heap.size w w2) := HBA.out.trans (hb2.mono HBA.out.size)
    clear hb2 ka kb kc za zb zc hk1 hgs
    go_wp2_with fail
    refine bodyPost_ret (v := .tuple #[.string ⟨#[]⟩, .int .i64 0, fltV E q]) (by simp [results, Try.results77, go_sem, *]) rfl ?_
    refine ⟨by rw [HX.out], ?_⟩
    (repeat' (first | with_reducible exact HB2.out | with_reducible refine Below.setCell ?_ (by rw [HG.out]; exact Nat.le_refl _) _))

end Go.Proofs.Ytkcfkdmffbhljaa
