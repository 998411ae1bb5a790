/- The reference's reader of documents as it lies; an error, the number of four bytes, how many bytes a Kind has, texts. -/
import Derived.Test.YtkcfkdmffbhljaaMI
import Derived.Test.YtkcfkdmffbhljaaCtR
import Derived.Test.YtkcfkdmffbhljaaMN
import Derived.Test.YtkcfkdmffbhljaaMD
namespace Go.Proofs.Ytkcfkdmffbhljaa
open Go.RowKit
set_option linter.unusedVariables false
set_option linter.unusedSimpArgs false

/-- The reference's reader: its bytes, how deep documents may be, the first error and its place. -/
structure RRd (w : World) (rb b o n c : Nat) (L : List UInt8) (d er a : Nat) : Prop where
  c0 : w.cell? ⟨rb, 0, none⟩ = some (.slice (some ⟨b, o, none⟩) n c)
  c1 : w.cell? ⟨rb, 1, none⟩ = some (.int .i64 (d : Nat))
  c4 : w.cell? ⟨rb, 4, none⟩ = some (.int .i64 (er : Nat))
  c5 : w.cell? ⟨rb, 5, none⟩ = some (.int .i64 (a : Nat))
  c6 : w.cell? ⟨rb, 6, none⟩ = some (.slice none 0 0)
  f4 : w.frozen? ⟨rb, 4, none⟩ = false
  f5 : w.frozen? ⟨rb, 5, none⟩ = false
  f6 : w.frozen? ⟨rb, 6, none⟩ = false
  lt : rb < w.heap.size
  rd : RdB w (some ⟨b, o, none⟩) n L
  nc : n ≤ c
  nb : n ≤ 1000000
  ne : b ≠ rb
theorem RRd.chg {S : Nat → Prop} {w w' : World} {rb b o n c : Nat} {L : List UInt8} {d er a : Nat} (h : RRd w rb b o n c L d er a) (hc : Chg S w w') (h1 : ¬ S rb) (h2 : ¬ S b) : RRd w' rb b o n c L d er a := by
  have hf : ∀ i, w'.frozen? ⟨rb, i, none⟩ = w.frozen? ⟨rb, i, none⟩ := fun i => World.frozen?_of_block (w := w) (a := ⟨rb, i, none⟩) (hc.block rb h.lt h1)
  exact ⟨hc.cell h1 h.c0, hc.cell h1 h.c1, hc.cell h1 h.c4, hc.cell h1 h.c5, hc.cell h1 h.c6, (hf 4).trans h.f4, (hf 5).trans h.f5, (hf 6).trans h.f6, Nat.lt_of_lt_of_le h.lt hc.size, h.rd.chg hc (fun p hp => by have := Option.some.inj hp; subst this; exact h2), h.nc, h.nb, h.ne⟩
theorem RRd.keep {w w' : World} {rb b o n c : Nat} {L : List UInt8} {d er a : Nat} (h : RRd w rb b o n c L d er a) (hb : Below w.heap.size w w') : RRd w' rb b o n c L d er a :=
  h.chg (Chg.of_below (S := fun _ => False) hb) (fun x => x) (fun x => x)
theorem RRd.at {w : World} {rb b o n c : Nat} {L : List UInt8} {d er a : Nat} (h : RRd w rb b o n c L d er a) (i : Nat) (hi : i < n) : w.cell? ⟨b, o + i, none⟩ = some (.int .u8 (bAt L i : Nat)) := by
  obtain ⟨b', o', ha, hc⟩ := h.rd.at i hi
  simp only [Option.some.injEq, Addr.mk.injEq, and_true] at ha
  obtain ⟨rfl, rfl⟩ := ha
  exact hc
theorem RRd.part {w : World} {rb b o n c : Nat} {L : List UInt8} {d er a : Nat} (h : RRd w rb b o n c L d er a) (p e : Nat) (hp : p ≤ e) (he : e ≤ n) : RdB w (some ⟨b, o + p, none⟩) (e - p) (seg L p (e - p)) :=
  seg_rd (by rw [h.rd.1]; exact h.rd) p (e - p) (by rw [h.rd.1]; omega)

/-- An error was told: it lies in the reader, nothing else that was there is turned. -/
def RErr (rb b o n c : Nat) (L : List UInt8) (d er a : Nat) (w w' : World) : Prop := RRd w' rb b o n c L d er a ∧ Chg (fun j => j = rb) w w'
theorem rerr_put {w : World} {rb b o n c : Nat} {L : List UInt8} {d : Nat} (h : RRd w rb b o n c L d 0 0) (er a : Nat) :
    RErr rb b o n c L d er a w (((w.setCell ⟨rb, 4, none⟩ (.int .i64 (er : Nat))).setCell ⟨rb, 5, none⟩ (.int .i64 (a : Nat))).setCell ⟨rb, 6, none⟩ (.slice none 0 0)) := by
  have hc : Chg (fun j => j = rb) w (((w.setCell ⟨rb, 4, none⟩ (.int .i64 (er : Nat))).setCell ⟨rb, 5, none⟩ (.int .i64 (a : Nat))).setCell ⟨rb, 6, none⟩ (.slice none 0 0)) :=
    by
    have hX : (fun j : Nat => j = rb) rb := rfl
    exact (((Chg.refl (fun j => j = rb) w).setCell (p := ⟨rb, 4, none⟩) (fun _ => hX) _).setCell (p := ⟨rb, 5, none⟩) (fun _ => hX) _).setCell (p := ⟨rb, 6, none⟩) (fun _ => hX) _
  obtain ⟨c0, c1, c4, c5, c6, f4, f5, f6, hlt, hrd, hnc, hnb, hne⟩ := h
  refine ⟨⟨?_, ?_, ?_, ?_, ?_, ?_, ?_, ?_, Nat.lt_of_lt_of_le hlt hc.size, hrd.chg hc (fun p hp => by have := Option.some.inj hp; subst this; exact hne), hnc, hnb, hne⟩, hc⟩
  all_goals simp [go_sem, *]
/-- What was there ahead of an error. -/
theorem RErr.from {w0 w w' : World} {rb b o n c : Nat} {L : List UInt8} {d er a : Nat} (h : RErr rb b o n c L d er a w w') (hb : Below w0.heap.size w0 w) : RErr rb b o n c L d er a w0 w' :=
  ⟨h.1, (Chg.of_below (S := fun j => j = rb) hb).trans h.2 (fun _ _ x => x)⟩
theorem RErr.then {w w' w2 : World} {rb b o n c : Nat} {L : List UInt8} {d er a : Nat} (h : RErr rb b o n c L d er a w w') (hb : Below w'.heap.size w' w2) : RErr rb b o n c L d er a w w2 :=
  ⟨h.1.keep hb, h.2.trans (Chg.of_below (S := fun j => j = rb) hb) (fun _ _ x => x)⟩

set_option maxRecDepth 100000 in
set_option maxHeartbeats 2000000 in
theorem rdbad_calls {w : World} {rb b o n c : Nat} {L : List UInt8} {d : Nat} (h : RRd w rb b o n c L d 0 0) (er a : Nat) :
    Calls Try.prog 54 #[.pointer (some ⟨rb, 0, none⟩), .int .i64 (er : Nat), .int .i64 (a : Nat)] w fun r w' => r = .returned (.tuple #[]) ∧ RErr rb b o n c L d er a w w' := by
  have H := Lib.hid (rerr_put h er a)
  obtain ⟨c0, c1, c4, c5, c6, f4, f5, f6, hlt, hrd, hnc, hnb, hne⟩ := h
  clear c0 c1 hrd hnc hnb hne
  go_enter Try.func54, Try.ntmps54
  go_wp2_with fail
  go_end0
  exact ⟨rfl, H.out⟩

set_option maxRecDepth 100000 in
set_option maxHeartbeats 2000000 in
theorem rdlen_calls {w : World} {rb b o n c : Nat} {L : List UInt8} {d er a : Nat} (h : RRd w rb b o n c L d er a) (p : Nat) (hp : p + 4 ≤ n) :
    Calls Try.prog 55 #[.pointer (some ⟨rb, 0, none⟩), .int .i64 (p : Nat)] w fun e w' => e = .returned (.int .i64 (len4 L p)) ∧ w = w' := by
  have hL : L.length = n := h.rd.1
  have C : Hid (Calls Try.prog 30 #[.slice (some ⟨b, o, none⟩) n c, .int .i64 (p : Nat), .int .i64 4] w fun e w' => e = .returned (.tuple #[.int .u64 (le (seg L p 4)), .bool true]) ∧ w = w') := low_yes (some ⟨b, o, none⟩) n c p 4 w L h.rd hp (by omega) (by omega)
  have hlt := le_seg_lt L p 4
  have c0 := h.c0
  have HL4 : Hid (len4 L p = if le (seg L p 4) < 2147483648 then (le (seg L p 4) : Int) else (le (seg L p 4) : Int) - 4294967296) := by show _ = _; rfl
  obtain ⟨X, hX⟩ : ∃ X, X = le (seg L p 4) := ⟨_, rfl⟩
  rw [← hX] at C hlt HL4
  generalize len4 L p = R at *
  have hw1 : IntKind.i64.wrap (X : Int) = (X : Int) := IntWalk.i64_in _ (by omega)
  have hw2 : IntKind.i64.wrap ((X : Int) - 4294967296) = (X : Int) - 4294967296 := IntWalk.i64_in _ (by omega)
  by_cases h0 : X < 2147483648
  · have HR : Hid (R = (X : Int)) := by show _ = _; rw [HL4.out, if_pos h0]
    have d0 : decide (2147483648 ≤ (X : Int)) = false := by simp; omega
    clear h0 hX hlt h HL4 hp
    go_enter Try.func55, Try.ntmps55
    go_wp2_with fail
    refine C.out.mono ?_
    rintro e w1 ⟨rfl, rfl⟩
    go_wp2_with fail
    go_ret
    exact ⟨by rw [HR.out]; rfl, rfl⟩
  · have HR : Hid (R = (X : Int) - 4294967296) := by show _ = _; rw [HL4.out, if_neg h0]
    have d0 : decide (2147483648 ≤ (X : Int)) = true := by simp; omega
    clear h0 hX hlt h HL4 hp
    go_enter Try.func55, Try.ntmps55
    go_wp2_with fail
    refine C.out.mono ?_
    rintro e w1 ⟨rfl, rfl⟩
    go_wp2_with fail
    go_ret
    exact ⟨by rw [HR.out]; rfl, rfl⟩

set_option maxRecDepth 100000 in
set_option maxHeartbeats 2000000 in
theorem rdfixed_calls (k : Nat) (w : World) : Calls Try.prog 98 #[.int .i64 (k : Nat)] w fun e w' => e = .returned (.int .i64 (fixN k : Nat)) ∧ w = w' := by
  by_cases h : k = 1 ∨ k = 9 ∨ k = 17 ∨ k = 18 ∨ k = 16 ∨ k = 8 ∨ k = 19 ∨ k = 7
  · rcases h with rfl | rfl | rfl | rfl | rfl | rfl | rfl | rfl
    all_goals
      go_enter Try.func98, Try.ntmps98
      go_wp2_with fail
      go_ret
      exact ⟨rfl, rfl⟩
  · have e : fixN k = 0 := by unfold fixN; (repeat' split) <;> omega
    rw [e]
    have h1 : ((k : Int) == 1) = false := by simp; omega
    have h9 : ((k : Int) == 9) = false := by simp; omega
    have h17 : ((k : Int) == 17) = false := by simp; omega
    have h18 : ((k : Int) == 18) = false := by simp; omega
    have h16 : ((k : Int) == 16) = false := by simp; omega
    have h8 : ((k : Int) == 8) = false := by simp; omega
    have h19 : ((k : Int) == 19) = false := by simp; omega
    have h7 : ((k : Int) == 7) = false := by simp; omega
    clear h e
    generalize (k : Int) = K at *
    go_enter Try.func98, Try.ntmps98
    go_wp2_with fail
    go_ret
    exact ⟨rfl, rfl⟩

/-- A text and the place behind; or an error. -/
def RTxt (rb b o n c : Nat) (L : List UInt8) (d : Nat) (x : Except (Nat × Nat) (List UInt8 × Nat)) (w : World) (e : Ending) (w' : World) : Prop :=
  match x with
  | .ok (s, m) => e = .returned (.tuple #[.string (txt s), .int .i64 (m : Nat)]) ∧ Below w.heap.size w w'
  | .error (er, a) => (∃ (s : ByteArray) (m : Nat), e = .returned (.tuple #[.string s, .int .i64 (m : Nat)])) ∧ RErr rb b o n c L d er a w w'

set_option maxRecDepth 100000 in
set_option maxHeartbeats 2000000 in
theorem rdctext_calls {w : World} {rb b o n c : Nat} {L : List UInt8} {d : Nat} (h : RRd w rb b o n c L d 0 0) (q z : Nat) (hz : z ≤ n) :
    Calls Try.prog 81 #[.pointer (some ⟨rb, 0, none⟩), .int .i64 (q : Nat), .int .i64 (z : Nat)] w (RTxt rb b o n c L d (endQ L q z) w) := by
  have hnc := h.nc
  have c0 := h.c0
  have CB := Lib.hid (fun er a => rdbad_calls h er a)
  have C := Lib.hid (rctext_calls (some ⟨b, o, none⟩) z c q w (L.take z) (rd_take h.rd z hz) (by omega))
  have j1 : (0 : Int) ≤ (z : Int) := by omega
  have j2 : (z : Int) ≤ (c : Int) := by omega
  obtain ⟨E, hE⟩ : ∃ E, E = (cText (L.take z) q).2.2 := ⟨_, rfl⟩
  obtain ⟨N, hN⟩ : ∃ N, N = (cText (L.take z) q).2.1 := ⟨_, rfl⟩
  obtain ⟨s, hs⟩ : ∃ s, s = (cText (L.take z) q).1 := ⟨_, rfl⟩
  have hEQ : endQ L q z = if E ≠ 0 then .error (E, q) else .ok (s, N) := by unfold endQ; rw [hE, hN, hs]
  have HEQ := Lib.hid hEQ
  unfold CTextOut at C
  rw [← hE, ← hN, ← hs] at C
  clear hEQ hE hN hs h
  by_cases h0 : E = 0
  · have HX : Hid (endQ L q z = .ok (s, N)) := by show _ = _; rw [HEQ.out, if_neg (by simpa using h0)]
    have hne : ((E : Int) != 0) = false := by simp [h0]
    clear h0 HEQ
    go_enter Try.func81, Try.ntmps81
    go_wp2_with fail
    refine C.out.mono ?_
    rintro e w1 ⟨rfl, rfl⟩
    go_wp2_with fail
    refine bodyPost_ret (v := .tuple #[.string (txt s), .int .i64 (N : Nat)]) (by simp [results, Try.results81, go_sem, *]) rfl ?_
    rw [HX.out]
    exact ⟨rfl, Below.refl _ _⟩
  · have HX : Hid (endQ L q z = .error (E, q)) := by show _ = _; rw [HEQ.out, if_pos h0]
    have hne : ((E : Int) != 0) = true := by simpa using h0
    clear h0 HEQ
    go_enter Try.func81, Try.ntmps81
    go_wp2_with fail
    refine C.out.mono ?_
    rintro e w1 ⟨rfl, rfl⟩
    go_wp2_with fail
    refine (CB.out E q).mono ?_
    rintro e w2 ⟨rfl, hE2⟩
    have HE2 := Lib.hid hE2
    clear hE2
    go_wp2_with fail
    refine bodyPost_ret (v := .tuple #[.string (txt s), .int .i64 (N : Nat)]) (by simp [results, Try.results81, go_sem, *]) rfl ?_
    rw [HX.out]
    exact ⟨⟨_, _, rfl⟩, HE2.out⟩

set_option maxRecDepth 100000 in
set_option maxHeartbeats 8000000 in
theorem rdtext_calls {w : World} {rb b o n c : Nat} {L : List UInt8} {d : Nat} (h : RRd w rb b o n c L d 0 0) (q z : Nat) (hq : q ≤ z) (hz : z ≤ n) :
    Calls Try.prog 99 #[.pointer (some ⟨rb, 0, none⟩), .int .i64 (q : Nat), .int .i64 (z : Nat)] w (RTxt rb b o n c L d (textQ L q z) w) := by
  have hL : L.length = n := h.rd.1
  have hnc := h.nc
  have hnb := h.nb
  have c0 := h.c0
  have HR := Lib.hid h
  have CB := Lib.hid (fun er a => rdbad_calls h er a)
  have CL := Lib.hid (fun p hp => rdlen_calls h p hp)
  clear h
  have e1 : IntKind.i64.wrap ((z : Int) - (q : Int)) = (z : Int) - (q : Int) := IntWalk.i64_in _ (by omega)
  by_cases h1 : z < q + 4
  · have HX : Hid (textQ L q z = .error (2, q)) := by show _ = _; unfold textQ; rw [if_pos h1]
    have d1 : decide ((z : Int) - (q : Int) < 4) = true := by simp; omega
    clear h1
    go_enter Try.func99, Try.ntmps99
    go_wp2_with fail
    refine (CB.out 2 q).mono ?_
    rintro e w2 ⟨rfl, hE2⟩
    have HE2 := Lib.hid hE2
    clear hE2
    go_wp2_with fail
    refine bodyPost_ret (v := .tuple #[.string ⟨#[]⟩, .int .i64 0]) (by simp [results, Try.results99, go_sem, *]) rfl ?_
    rw [HX.out]
    exact ⟨⟨_, 0, rfl⟩, HE2.out⟩
  have d1 : decide ((z : Int) - (q : Int) < 4) = false := by simp; omega
  have hq4n : q + 4 ≤ n := by omega
  obtain ⟨N, hN⟩ : ∃ N, N = len4 L q := ⟨_, rfl⟩
  have HN := Lib.hid hN
  have hNb : -2147483648 ≤ N ∧ N < 2147483648 := by
    rw [hN]; unfold len4
    have := le_seg_lt L q 4
    split <;> omega
  have e2 : IntKind.i64.wrap ((z : Int) - (q : Int) - 4) = (z : Int) - (q : Int) - 4 := IntWalk.i64_in _ (by omega)
  by_cases h2 : N < 1
  · have HX : Hid (textQ L q z = .error (6, q)) := by show _ = _; unfold textQ; rw [if_neg h1, if_pos (by rw [← hN]; exact .inl h2)]
    have d2 : decide (N < 1) = true := by simpa using h2
    clear h2 hN hNb
    go_enter Try.func99, Try.ntmps99
    go_wp2_with fail
    refine (CL.out q (by omega)).mono ?_
    rintro e w1 ⟨rfl, rfl⟩
    rw [← HN.out]
    go_wp2_with fail
    refine (CB.out 6 q).mono ?_
    rintro e w2 ⟨rfl, hE2⟩
    have HE2 := Lib.hid hE2
    clear hE2
    go_wp2_with fail
    refine bodyPost_ret (v := .tuple #[.string ⟨#[]⟩, .int .i64 0]) (by simp [results, Try.results99, go_sem, *]) rfl ?_
    rw [HX.out]
    exact ⟨⟨_, 0, rfl⟩, HE2.out⟩
  have d2 : decide (N < 1) = false := by simp; omega
  by_cases h3 : (z : Int) - q - 4 < N
  · have HX : Hid (textQ L q z = .error (6, q)) := by show _ = _; unfold textQ; rw [if_neg h1, if_pos (by rw [← hN]; exact .inr h3)]
    have d3 : decide ((z : Int) - (q : Int) - 4 < N) = true := by simpa using h3
    clear h2 h3 hN hNb
    go_enter Try.func99, Try.ntmps99
    go_wp2_with fail
    refine (CL.out q (by omega)).mono ?_
    rintro e w1 ⟨rfl, rfl⟩
    rw [← HN.out]
    go_wp2_with fail
    refine (CB.out 6 q).mono ?_
    rintro e w2 ⟨rfl, hE2⟩
    have HE2 := Lib.hid hE2
    clear hE2
    go_wp2_with fail
    refine bodyPost_ret (v := .tuple #[.string ⟨#[]⟩, .int .i64 0]) (by simp [results, Try.results99, go_sem, *]) rfl ?_
    rw [HX.out]
    exact ⟨⟨_, 0, rfl⟩, HE2.out⟩
  have d3 : decide ((z : Int) - (q : Int) - 4 < N) = false := by simp; omega
  obtain ⟨N1, rfl⟩ : ∃ N1 : Nat, N = (N1 : Int) := ⟨N.toNat, by omega⟩
  have hMt : (len4 L q).toNat = N1 := by rw [← hN]; omega
  obtain ⟨q4, hq4⟩ : ∃ x, x = q + 4 := ⟨_, rfl⟩
  obtain ⟨f1, hf1⟩ : ∃ x, x = q + 3 + N1 := ⟨_, rfl⟩
  obtain ⟨E, hE⟩ : ∃ x, x = q + 4 + N1 := ⟨_, rfl⟩
  obtain ⟨X, hX⟩ : ∃ X, X = bAt L f1 := ⟨_, rfl⟩
  have hEz : E ≤ z := by omega
  have w1 : IntKind.i64.wrap ((q : Int) + 4) = (q4 : Int) := (IntWalk.i64_in _ (by omega)).trans (by omega)
  have w2 : IntKind.i64.wrap ((q4 : Int) + (N1 : Int)) = (E : Int) := (IntWalk.i64_in _ (by omega)).trans (by omega)
  have w3 : IntKind.i64.wrap ((E : Int) - 1) = (f1 : Int) := (IntWalk.i64_in _ (by omega)).trans (by omega)
  have i1 : (0 : Int) ≤ (f1 : Int) := by omega
  have i2 : (f1 : Int) < (n : Int) := by omega
  have hT : textQ L q z = if X ≠ 0 then .error (3, f1) else if wholeTo (seg L q4 (f1 - q4)) ≠ f1 - q4 then .error (4, q4) else .ok (seg L q4 (f1 - q4), E) := by
    unfold textQ
    rw [if_neg h1, if_neg (by rw [← hN]; omega), hMt, show q + 4 + N1 - 1 = f1 from by omega, ← hX, ← hq4, show N1 - 1 = f1 - q4 from by omega, show q4 + N1 = E from by omega]
  have HTX := Lib.hid hT
  have hx1 : w.cell? ⟨b, o + f1, none⟩ = some (.int .u8 (X : Nat)) := by rw [hX]; exact HR.out.at f1 (by omega)
  by_cases h4 : X = 0
  case neg =>
    have HX : Hid (textQ L q z = .error (3, f1)) := by show _ = _; rw [HTX.out, if_pos h4]
    have d4 : ((X : Int) != 0) = true := by simpa using h4
    clear h1 h2 h3 h4 hN hMt hX hT HTX hE hf1 hq4 hEz hNb
    go_enter Try.func99, Try.ntmps99
    go_wp2_with fail
    refine (CL.out q (by omega)).mono ?_
    rintro e w1 ⟨rfl, rfl⟩
    rw [← HN.out]
    go_wp2_with fail
    refine (CB.out 3 f1).mono ?_
    rintro e w2 ⟨rfl, hE2⟩
    have HE2 := Lib.hid hE2
    clear hE2
    go_wp2_with fail
    refine bodyPost_ret (v := .tuple #[.string ⟨#[]⟩, .int .i64 0]) (by simp [results, Try.results99, go_sem, *]) rfl ?_
    rw [HX.out]
    exact ⟨⟨_, 0, rfl⟩, HE2.out⟩
  subst h4
  have d4 : (((0 : Nat) : Int) != 0) = false := rfl
  have hsg := HR.out.part q4 f1 (by omega) (by omega)
  obtain ⟨S, hS⟩ : ∃ S, S = seg L q4 (f1 - q4) := ⟨_, rfl⟩
  rw [← hS] at hsg HTX
  have hSn : S.length = f1 - q4 := hsg.1
  have j1 : (q4 : Int) ≤ (f1 : Int) := by omega
  have j2 : (f1 : Int) ≤ (c : Int) := by omega
  have j3 : ¬ c = q4 := by omega
  have hcv := conv_str hsg (c - q4)
  have CC := Lib.hid (rwhole_calls (txt S) (by rw [txt_size, hSn]; omega) w)
  rw [sl_txt, txt_size, hSn] at CC
  by_cases h5 : wholeTo S = f1 - q4
  case neg =>
    have HX : Hid (textQ L q z = .error (4, q4)) := by show _ = _; rw [HTX.out, if_neg (by simp), if_pos h5]
    have d5 : (wholeTo S == f1 - q4) = false := by simpa using h5
    rw [d5] at CC
    clear h1 h2 h3 h5 hN hMt hX hT HTX hE hf1 hq4 hEz hS d5 hNb hSn hsg
    go_enter Try.func99, Try.ntmps99
    go_wp2_with fail
    refine (CL.out q (by omega)).mono ?_
    rintro e w1 ⟨rfl, rfl⟩
    rw [← HN.out]
    go_wp2_with fail
    refine CC.out.mono ?_
    rintro e wx ⟨rfl, hbx⟩
    have CB2 := Lib.hid (fun er a => rdbad_calls (HR.out.keep hbx) er a)
    have HBX := Lib.hid hbx
    clear hbx
    go_wp2_with fail
    refine (CB2.out 4 q4).mono ?_
    rintro e w2 ⟨rfl, hE2⟩
    have HE2 := Lib.hid hE2
    clear hE2
    go_wp2_with fail
    refine bodyPost_ret (v := .tuple #[.string ⟨#[]⟩, .int .i64 0]) (by simp [results, Try.results99, go_sem, *]) rfl ?_
    rw [HX.out]
    exact ⟨⟨_, 0, rfl⟩, HE2.out.from HBX.out⟩
  have HX : Hid (textQ L q z = .ok (S, E)) := by show _ = _; rw [HTX.out, if_neg (by simp), if_neg (by simpa using h5)]
  have d5 : (wholeTo S == f1 - q4) = true := by simpa using h5
  rw [d5] at CC
  clear h1 h2 h3 h5 hN hMt hX hT HTX hE hf1 hq4 hEz hS d5 hNb hSn hsg
  go_enter Try.func99, Try.ntmps99
  go_wp2_with fail
  refine (CL.out q (by omega)).mono ?_
  rintro e w1 ⟨rfl, rfl⟩
  rw [← HN.out]
  go_wp2_with fail
  refine CC.out.mono ?_
  rintro e wx ⟨rfl, hbx⟩
  have HBX := Lib.hid hbx
  clear hbx
  go_wp2_with fail
  refine bodyPost_ret (v := .tuple #[.string (txt S), .int .i64 (E : Nat)]) (by simp [results, Try.results99, go_sem, *]) rfl ?_
  rw [HX.out]
  exact ⟨rfl, HBX.out⟩

end Go.Proofs.Ytkcfkdmffbhljaa
