/- The reference's reader of documents: what it answers; a code and its scope. -/
import Derived.Test.YtkcfkdmffbhljaaRbB
import Derived.Test.YtkcfkdmffbhljaaBiD
import Derived.Test.YtkcfkdmffbhljaaBiE
namespace Go.Proofs.Ytkcfkdmffbhljaa
open Go.RowKit
set_option linter.unusedVariables false
set_option linter.unusedSimpArgs false

def RValO (rb b o n c : Nat) (L : List UInt8) (d : Nat) (x : Ans) (w : World) (e : Ending) (w' : World) : Prop :=
  match x with
  | .val t nx => (∃ cs, e = .returned (.tuple #[.agg cs, .int .i64 (nx : Nat)]) ∧ RdTS (fun k => w.heap.size ≤ k) w' t cs) ∧ Below w.heap.size w w'
  | .bad er a => (∃ (cs : Array Value) (nx : Nat), IsV cs ∧ e = .returned (.tuple #[.agg cs, .int .i64 (nx : Nat)])) ∧ RErr rb b o n c L d er a w w'
  | .kids _ _ => False
def RDocO (rb b o n c : Nat) (L : List UInt8) (d : Nat) (x : Ans) (w : World) (e : Ending) (w' : World) : Prop :=
  match x with
  | .kids f nx => (∃ a cp, e = .returned (.tuple #[.slice a f.len cp, .int .i64 (nx : Nat)]) ∧ RdKsS (fun k => w.heap.size ≤ k) w' a 0 f ∧ Roomy a f.len cp ∧ f.len ≤ 9223372036854775807) ∧ Below w.heap.size w w'
  | .bad er a => (∃ (a' : Option Addr) (n' c' nx : Nat), e = .returned (.tuple #[.slice a' n' c', .int .i64 (nx : Nat)])) ∧ RErr rb b o n c L d er a w w'
  | .val _ _ => False
def RScoO (rb b o n c : Nat) (L : List UInt8) (d : Nat) (x : Ans) (w : World) (e : Ending) (w' : World) : Prop :=
  match x with
  | .val t nx => (∃ s f a cp, t = .mk ((15 : Nat) : Int) 0 0 0 s nt 0 [] f ∧ s.size ≤ 1000000 ∧ e = .returned (.tuple #[.string s, .slice a f.len cp, .int .i64 (nx : Nat)]) ∧ RdKsS (fun k => w.heap.size ≤ k) w' a 0 f ∧ Roomy a f.len cp ∧ f.len ≤ 9223372036854775807) ∧ Below w.heap.size w w'
  | .bad er a => (∃ (s : ByteArray) (a' : Option Addr) (n' c' nx : Nat), e = .returned (.tuple #[.string s, .slice a' n' c', .int .i64 (nx : Nat)])) ∧ RErr rb b o n c L d er a w w'
  | .kids _ _ => False

def RVlSaid (dd : Nat) : Prop := ∀ (rb b o n c : Nat) (L : List UInt8) (d : Nat) (w : World), RRd w rb b o n c L d 0 0 → ∀ (k q z win : Nat), knownK (k : Nat) = true → q ≤ z → z < n → z - q ≤ dd → win + (z - q) ≤ 2000000 →
  Calls Try.prog 82 #[.pointer (some ⟨rb, 0, none⟩), .int .i64 (k : Nat), .int .i64 (q : Nat), .int .i64 (z : Nat), .int .i64 (win : Nat)] w fun e w' => ∃ r, Q L d (.val k q z win) r ∧ RValO rb b o n c L d r w e w'
def RDcSaid (dd : Nat) : Prop := ∀ (rb b o n c : Nat) (L : List UInt8) (d : Nat) (w : World), RRd w rb b o n c L d 0 0 → ∀ (p z win how : Nat) (just : Bool), p ≤ z → z ≤ n → z - p ≤ dd → win + (z - p) ≤ 2000001 → how ≤ 2 → (how = 1 ↔ win = 0) → just = (how == 2) →
  Calls Try.prog 39 #[.pointer (some ⟨rb, 0, none⟩), .int .i64 (p : Nat), .int .i64 (z : Nat), .int .i64 (win : Nat), .bool just] w fun e w' => ∃ r, Q L d (.doc p z win how) r ∧ RDocO rb b o n c L d r w e w'
def RScSaid (dd : Nat) : Prop := ∀ (rb b o n c : Nat) (L : List UInt8) (d : Nat) (w : World), RRd w rb b o n c L d 0 0 → ∀ (q z win : Nat), q ≤ z → z < n → z - q ≤ dd → win + (z - q) ≤ 2000000 →
  Calls Try.prog 101 #[.pointer (some ⟨rb, 0, none⟩), .int .i64 (q : Nat), .int .i64 (z : Nat), .int .i64 (win : Nat)] w fun e w' => ∃ r, Q L d (.val 15 q z win) r ∧ RScoO rb b o n c L d r w e w'

set_option maxRecDepth 100000 in
set_option maxHeartbeats 8000000 in
theorem rsc_step (dd : Nat) (hof : RDcSaid dd) : RScSaid dd := by
  intro rb b o n c L d w h q z win hq hz hd hw
  have hL : L.length = n := h.rd.1
  have hnc := h.nc
  have hnb := h.nb
  have c0 := h.c0
  have HR := Lib.hid h
  have CB := Lib.hid (fun er a => rdbad_calls h er a)
  have CL := Lib.hid (fun p hp => rdlen_calls h p hp)
  clear h
  have e1 : IntKind.i64.wrap ((z : Int) - (q : Int)) = (z : Int) - (q : Int) := IntWalk.i64_in _ (by omega)
  by_cases h1 : z < q + 4
  · have HX : Hid (Q L d (.val 15 q z win) (.bad 2 q)) := .val_bad (by unfold scoH; rw [if_pos h1])
    have d1 : decide ((z : Int) - (q : Int) < 4) = true := by simp; omega
    clear h1
    go_enter Try.func101, Try.ntmps101
    go_wp2_with fail
    refine (CB.out 2 q).mono ?_
    rintro e w2 ⟨rfl, hE2⟩
    have HE2 := Lib.hid hE2
    clear hE2
    go_wp2_with fail
    refine bodyPost_ret (v := .tuple #[.string ⟨#[]⟩, .slice none 0 0, .int .i64 0]) (by simp [results, Try.results101, go_sem, *]) rfl ?_
    exact ⟨_, HX.out, ⟨_, _, _, _, 0, rfl⟩, HE2.out⟩
  have d1 : decide ((z : Int) - (q : Int) < 4) = false := by simp; omega
  have hq4n : q + 4 ≤ n := by omega
  obtain ⟨N, hN⟩ : ∃ N, N = len4 L q := ⟨_, rfl⟩
  have HN := Lib.hid hN
  have hNb : -2147483648 ≤ N ∧ N < 2147483648 := by
    rw [hN]; unfold len4
    have := le_seg_lt L q 4
    split <;> omega
  by_cases h2 : N < 14
  · have HX : Hid (Q L d (.val 15 q z win) (.bad 6 q)) := .val_bad (by unfold scoH; rw [if_neg h1, if_pos (by rw [← hN]; exact .inl h2)])
    have d2 : decide (N < 14) = true := by simpa using h2
    clear h2 hN hNb
    go_enter Try.func101, Try.ntmps101
    go_wp2_with fail
    refine (CL.out q (by omega)).mono ?_
    rintro e w1 ⟨rfl, rfl⟩
    rw [← HN.out]
    go_wp2_with fail
    refine (CB.out 6 q).mono ?_
    rintro e w2 ⟨rfl, hE2⟩
    have HE2 := Lib.hid hE2
    clear hE2
    go_wp2_with fail
    refine bodyPost_ret (v := .tuple #[.string ⟨#[]⟩, .slice none 0 0, .int .i64 0]) (by simp [results, Try.results101, go_sem, *]) rfl ?_
    exact ⟨_, HX.out, ⟨_, _, _, _, 0, rfl⟩, HE2.out⟩
  have d2 : decide (N < 14) = false := by simp; omega
  by_cases h3 : (z : Int) - q < N
  · have HX : Hid (Q L d (.val 15 q z win) (.bad 6 q)) := .val_bad (by unfold scoH; rw [if_neg h1, if_pos (by rw [← hN]; exact .inr h3)])
    have d3 : decide ((z : Int) - (q : Int) < N) = true := by simpa using h3
    clear h2 h3 hN hNb
    go_enter Try.func101, Try.ntmps101
    go_wp2_with fail
    refine (CL.out q (by omega)).mono ?_
    rintro e w1 ⟨rfl, rfl⟩
    rw [← HN.out]
    go_wp2_with fail
    refine (CB.out 6 q).mono ?_
    rintro e w2 ⟨rfl, hE2⟩
    have HE2 := Lib.hid hE2
    clear hE2
    go_wp2_with fail
    refine bodyPost_ret (v := .tuple #[.string ⟨#[]⟩, .slice none 0 0, .int .i64 0]) (by simp [results, Try.results101, go_sem, *]) rfl ?_
    exact ⟨_, HX.out, ⟨_, _, _, _, 0, rfl⟩, HE2.out⟩
  have d3 : decide ((z : Int) - (q : Int) < N) = false := by simp; omega
  obtain ⟨N1, rfl⟩ : ∃ N1 : Nat, N = (N1 : Int) := ⟨N.toNat, by omega⟩
  obtain ⟨q4, hq4⟩ : ∃ x, x = q + 4 := ⟨_, rfl⟩
  obtain ⟨zz, hzz⟩ : ∃ x, x = q + N1 := ⟨_, rfl⟩
  have w1 : IntKind.i64.wrap ((q : Int) + 4) = (q4 : Int) := (IntWalk.i64_in _ (by omega)).trans (by omega)
  have w2 : IntKind.i64.wrap ((q : Int) + (N1 : Int)) = (zz : Int) := (IntWalk.i64_in _ (by omega)).trans (by omega)
  obtain ⟨win1, hwin1⟩ : ∃ x, x = win + 1 := ⟨_, rfl⟩
  have w3 : IntKind.i64.wrap ((win : Int) + 1) = (win1 : Int) := (IntWalk.i64_in _ (by omega)).trans (by omega)
  obtain ⟨R, hR⟩ : ∃ R, R = textQ L q4 zz := ⟨_, rfl⟩
  have hsco : scoH L q z = scoTo R zz := by
    unfold scoH scoTo
    rw [if_neg h1, if_neg (by rw [← hN]; omega), show q + (len4 L q).toNat = zz from by rw [← hN, hzz]; rfl, hR, hq4]
    rfl
  have CT := Lib.hid (rdtext_calls HR.out q4 zz (by omega) (by omega))
  rw [← hR] at CT
  have hbdT := textQ_bd (b := L) (q := q4) (z := zz) (by omega) (by omega)
  rw [← hR] at hbdT
  have HSZ : Hid (∀ s nx, R = .ok (s, nx) → s.length ≤ 1000000) := by
    show ∀ s nx, _
    intro s nx hs
    have := textQ_len2 (b := L) (q := q4) (z := zz) (s := s) (n := nx) (by rw [← hR]; exact hs)
    omega
  have HOF := Lib.hid hof
  have HWN := Lib.hid hwin1
  have hzn : zz ≤ n := by omega
  have hzd : zz - q ≤ dd := by omega
  have hwz : win1 + (zz - q) ≤ 2000001 := by omega
  have HQ4 := Lib.hid hq4
  clear hR h2 h3 hN hNb hq4 hzz hwin1 h1
  go_enter Try.func101, Try.ntmps101
  go_wp2_with fail
  refine (CL.out q (by omega)).mono ?_
  rintro e w1 ⟨rfl, rfl⟩
  rw [← HN.out]
  go_wp2_with fail
  refine CT.out.mono ?_
  cases R with
  | error ea =>
    obtain ⟨er, a⟩ := ea
    have her : er ≠ 0 := by have := hbdT.1 er a rfl; omega
    have HX : Hid (Q L d (.val 15 q z win) (.bad er a)) := .val_bad hsco
    have hne : ((er : Int) != 0) = true := by simpa using her
    clear her hbdT hsco
    rintro e w2 ⟨⟨s0, m0, rfl⟩, hE2⟩
    have HE2 := Lib.hid hE2
    have c4 := hE2.1.c4
    clear hE2
    go_wp2_with fail
    refine bodyPost_ret (v := .tuple #[.string ⟨#[]⟩, .slice none 0 0, .int .i64 0]) (by simp [results, Try.results101, go_sem, *]) rfl ?_
    exact ⟨_, HX.out, ⟨_, _, _, _, 0, rfl⟩, HE2.out⟩
  | ok sn =>
    obtain ⟨s, m⟩ := sn
    have hbm := hbdT.2 s m rfl
    have hssz := HSZ.out s m rfl
    have HSC : Hid (scoH L q z = .ok (s, m, zz)) := hsco
    clear hbdT hsco HSZ
    rintro e w2 ⟨rfl, hb2⟩
    have HB2 := Lib.hid hb2
    have hr2 := HR.out.keep hb2
    have c4 := hr2.c4
    have HR2 := Lib.hid hr2
    have CD := Lib.hid (HOF.out rb b o n c L d w2 hr2 m zz win1 2 true (by omega) hzn (by have := HQ4.out; omega) (by have := HQ4.out; omega) (by omega) (by have := HWN.out; omega) rfl)
    have HSS : Hid ((txt s).size ≤ 1000000) := by show _ ≤ _; rw [txt_size]; exact hssz
    clear hb2 hr2 hbm hssz c0
    go_wp2_with fail
    refine CD.out.mono ?_
    rintro e w3 ⟨r, hq3, hout⟩
    rw [HWN.out] at hq3
    have HQ3 : Hid (Q L d (.val 15 q z win) (mkA 15 (txt s) r)) := .val_sco HSC.out hq3
    clear hq3 c4 CD
    cases r with
    | val t nx => exact hout.elim
    | kids f nx =>
      obtain ⟨⟨a3, cp3, rfl, hks, hroom, hfl⟩, hb3⟩ := hout
      have HKS : Hid (RdKsS (fun k => w.heap.size ≤ k) w3 a3 0 f) := hks.imp (fun j _ hj => by have hj2 : w2.heap.size ≤ j := hj; have := HB2.out.size; show w.heap.size ≤ j; omega)
      have HRM := Lib.hid hroom
      have HFL := Lib.hid hfl
      have HB3 : Hid (Below w.heap.size w w3) := HB2.out.trans (hb3.mono HB2.out.size)
      clear hks hroom hb3 hfl
      go_wp2_with fail
      refine bodyPost_ret (v := .tuple #[.string (txt s), .slice a3 f.len cp3, .int .i64 (nx : Nat)]) (by simp [results, Try.results101, go_sem, *]) rfl ?_
      exact ⟨_, HQ3.out, ⟨txt s, f, a3, cp3, rfl, HSS.out, rfl, HKS.out, HRM.out, HFL.out⟩, HB3.out⟩
    | bad er a =>
      obtain ⟨⟨a3, n3, c3, nx, rfl⟩, hE3⟩ := hout
      have HE3 : Hid (RErr rb b o n c L d er a w w3) := hE3.from HB2.out
      clear hE3
      go_wp2_with fail
      refine bodyPost_ret (v := .tuple #[.string (txt s), .slice a3 n3 c3, .int .i64 (nx : Nat)]) (by simp [results, Try.results101, go_sem, *]) rfl ?_
      exact ⟨_, HQ3.out, ⟨_, _, _, _, nx, rfl⟩, HE3.out⟩

end Go.Proofs.Ytkcfkdmffbhljaa
