/- PathGets: the walk. -/
import Derived.Test.YtiodjhcjfbnocaaPaG
import Derived.Test.YtiodjhcjfbnocaaOpen
import Derived.BigQuiet
namespace Go.Proofs.Ytiodjhcjfbnocaa
open Go.RowKit
set_option linter.unusedVariables false
set_option linter.unusedSimpArgs false

theorem small_wt {t : T} (h : smallT t = true) : t.wt ≤ 1200 := by
  have h0 : 0 ≤ bookT 1200 t := by simpa [smallT] using h
  have := bookT_wt _ _ h0
  omega

theorem BoxV.nine {W : World} {g : Nat} {k : Int} {bits hi lo : Nat} {text more : ByteArray} {sub : Int} {ab : Option Addr} {nb cb : Nat} {ak : Option Addr} {nk ck : Nat} (h : BoxV W g (valCells k bits hi lo text more sub ab nb cb ak nk ck)) :
    W.cell? ⟨g, 0, none⟩ = some (.int .i64 k) ∧ W.cell? ⟨g, 1, none⟩ = some (.int .u64 (bits : Nat)) ∧ W.cell? ⟨g, 2, none⟩ = some (.int .u64 (hi : Nat)) ∧ W.cell? ⟨g, 3, none⟩ = some (.int .u64 (lo : Nat)) ∧ W.cell? ⟨g, 4, none⟩ = some (.string text) ∧ W.cell? ⟨g, 5, none⟩ = some (.string more) ∧ W.cell? ⟨g, 6, none⟩ = some (.int .i64 sub) ∧ W.cell? ⟨g, 7, none⟩ = some (.slice ab nb cb) ∧ W.cell? ⟨g, 8, none⟩ = some (.slice ak nk ck) ∧ g < W.heap.size :=
  ⟨(h.2 0 (by omega)).1, (h.2 1 (by omega)).1, (h.2 2 (by omega)).1, (h.2 3 (by omega)).1, (h.2 4 (by omega)).1, (h.2 5 (by omega)).1, (h.2 6 (by omega)).1, (h.2 7 (by omega)).1, (h.2 8 (by omega)).1, h.1⟩

/-- A tree's cells, by their letters. -/
theorem RdT.shape {W : World} {t : T} {c : Array Value} (h : RdT W t c) : ∃ k bits hi lo text more sub ab nb cb ak nk ck, c = (valCells k bits hi lo text more sub ab nb cb ak nk ck) := by
  obtain ⟨k, bits, hi, lo, text, more, sub, bs, kids⟩ := t
  obtain ⟨ab, nb, cb, ak, nk, ck, rfl, -⟩ := h
  exact ⟨_, _, _, _, _, _, _, _, _, _, _, _, _, rfl⟩

theorem sameT_self (t : T) : sameT t t = true := (diff_same t t []).1 (diff_self t [])

/-- What is kept from call to call: the tree handed in, its box, a path. -/
def St (w W : World) (t : T) (c : Array Value) (a : Option Addr) (p : List Int) : Prop := Below w.heap.size w W ∧ BoxV W w.heap.size c ∧ RdT W t c ∧ RdPS (fun _ => True) W a p
theorem St.new {w : World} {t : T} {c : Array Value} {a : Option Addr} {p : List Int} (h : RdT w t c) (hp : RdPS (fun _ => True) w a p) (ty : TypeId) : St w (w.alloc (.cells c ty)) t c a p :=
  ⟨(Below.refl _ _).alloc (Nat.le_refl _) _, BoxV.new w c ty, h.keep ((Below.refl _ _).alloc (Nat.le_refl _) _), hp.keep (KeepS.below ((Below.refl _ _).alloc (Nat.le_refl _) _))⟩
theorem St.next {w W W' : World} {t : T} {c : Array Value} {a : Option Addr} {p : List Int} (h : St w W t c a p) (hb : Below W.heap.size W W') : St w W' t c a p :=
  ⟨h.1.trans (hb.mono h.1.size), h.2.1.keep hb, h.2.2.1.keep hb, h.2.2.2.keep (KeepS.below hb)⟩
theorem St.lt {w W : World} {t : T} {c : Array Value} {a : Option Addr} {p : List Int} (h : St w W t c a p) : w.heap.size < W.heap.size := h.2.1.1

def GtRel (g w1 wr : World) (n : Nat) (i : Value) : Prop := ∃ j : Nat, i = .int .i64 j ∧ j ≤ n ∧ Below g.heap.size w1 wr

set_option maxRecDepth 100000 in
set_option maxHeartbeats 16000000 in
theorem PathGets_walk (w : World) (c : Array Value) (t : T) (h : RdT w t c) (a : Option Addr) (n cap : Nat) (p : List Int) (hp : RdI .i64 w a n p) :
    Calls Try.prog 5 #[.agg c, .slice a n cap] w fun e w' => e = .returned (.bool true) ∧ Below w.heap.size w w' := by
  have hps : RdPS (fun _ => True) w a p := ⟨by rw [hp.1]; exact hp.2.2.2, fun _ _ _ => trivial⟩
  have hpl := hp.1
  have hn63 := hp.2.1
  have CA := fun W => Lib.hid (awake18 W)
  obtain ⟨k, bits, hi, lo, text, more, sub, ab, nb, cb, ak, nk, ck, rfl⟩ := h.shape
  have S0 := Lib.hid (St.new h hps 26)
  have CS := fun W (h : RdT W t (valCells k bits hi lo text more sub ab nb cb ak nk ck)) => Lib.hid (small_calls t W _ h)
  obtain ⟨sm, hsm⟩ : ∃ s, s = smallT t := ⟨_, rfl⟩
  rw [← hsm] at CS
  have HSM := Lib.hid hsm
  clear h hp hps hsm
  cases sm with
  | false =>
    go_enter Try.func5, Try.ntmps5
    go_wp2_with fail
    refine (CA _).out.mono ?_
    rintro e w1 ⟨rfl, hb1⟩
    have S1 := Lib.hid (S0.out.next hb1)
    obtain ⟨f0, f1, f2, f3, f4, f5, f6, f7, f8, l0⟩ := S1.out.2.1.nine
    clear hb1
    go_wp2_with fail
    refine (CS _ S1.out.2.2.1).out.mono ?_
    rintro e w2 ⟨rfl, hb2⟩
    have S2 := Lib.hid (S1.out.next hb2)
    clear f0 f1 f2 f3 f4 f5 f6 f7 f8 l0
    obtain ⟨f0, f1, f2, f3, f4, f5, f6, f7, f8, l0⟩ := S2.out.2.1.nine
    clear hb2
    go_wp2_with fail
    go_ret
    exact ⟨rfl, S2.out.1⟩
  | true =>
  by_cases hn : 100 < n
  · have d1 : decide ((100 : Int) < (n : Int)) = true := by simp; omega
    clear hn
    go_enter Try.func5, Try.ntmps5
    go_wp2_with fail
    refine (CA _).out.mono ?_
    rintro e w1 ⟨rfl, hb1⟩
    have S1 := Lib.hid (S0.out.next hb1)
    obtain ⟨f0, f1, f2, f3, f4, f5, f6, f7, f8, l0⟩ := S1.out.2.1.nine
    clear hb1
    go_wp2_with fail
    refine (CS _ S1.out.2.2.1).out.mono ?_
    rintro e w2 ⟨rfl, hb2⟩
    have S2 := Lib.hid (S1.out.next hb2)
    clear f0 f1 f2 f3 f4 f5 f6 f7 f8 l0
    obtain ⟨f0, f1, f2, f3, f4, f5, f6, f7, f8, l0⟩ := S2.out.2.1.nine
    clear hb2
    go_wp2_with fail
    go_ret
    exact ⟨rfl, S2.out.1⟩
  have d1 : decide ((100 : Int) < (n : Int)) = false := by simp; omega
  have hw := small_wt HSM.out.symm
  have CG := fun W (h : RdT W t (valCells k bits hi lo text more sub ab nb cb ak nk ck)) (hp : RdPS (fun _ => True) W a p) => Lib.hid (get_calls t W _ h a p n cap _ hp hpl (by omega) (by omega))
  have CR := fun W (h : RdT W t (valCells k bits hi lo text more sub ab nb cb ak nk ck)) (hp : RdPS (fun _ => True) W a p) => Lib.hid (rget_calls W t W (Below.refl _ _) _ h a p n cap _ hp hpl (by omega))
  have CN := fun W (h : RdT W t (valCells k bits hi lo text more sub ab nb cb ak nk ck)) (hp : RdPS (fun _ => True) W a p) => Lib.hid (names_calls t W _ h a p n cap _ hp hpl (by omega))
  have CM := fun W (h : RdT W t (valCells k bits hi lo text more sub ab nb cb ak nk ck)) (hp : RdPS (fun _ => True) W a p) => Lib.hid (rnames_calls W t W (Below.refl _ _) _ h a p n cap _ hp hpl (by omega))
  obtain ⟨ok, hok⟩ : ∃ ok, ok = (goT t p).isSome := ⟨_, rfl⟩
  obtain ⟨nm, hnm⟩ : ∃ nm, nm = goN t p := ⟨_, rfl⟩
  obtain ⟨x, hx⟩ : ∃ x, x = goX t p := ⟨_, rfl⟩
  rw [← hok, ← hx] at CG CR
  rw [← hok, ← hnm] at CN CM
  have CSm := Lib.hid (fun W c1 c2 h1 h2 => tsame_all x.wt x x (Nat.le_refl _) W c1 c2 h1 h2)
  rw [sameT_self] at CSm
  have eok : (ok != ok) = false := by simp
  clear hok hnm hx hpl hn hw
  go_enter Try.func5, Try.ntmps5
  go_wp2_with fail
  refine (CA _).out.mono ?_
  rintro e w1 ⟨rfl, hb1⟩
  have S1 := Lib.hid (S0.out.next hb1)
  obtain ⟨f0, f1, f2, f3, f4, f5, f6, f7, f8, l0⟩ := S1.out.2.1.nine
  clear hb1
  go_wp2_with fail
  refine (CS _ S1.out.2.2.1).out.mono ?_
  rintro e w2 ⟨rfl, hb2⟩
  have S2 := Lib.hid (S1.out.next hb2)
  clear f0 f1 f2 f3 f4 f5 f6 f7 f8 l0
  obtain ⟨f0, f1, f2, f3, f4, f5, f6, f7, f8, l0⟩ := S2.out.2.1.nine
  clear hb2
  go_wp2_with fail
  refine (CG _ S2.out.2.2.1 S2.out.2.2.2).out.mono ?_
  rintro e w3 ⟨c3, rfl, hr3, hb3⟩
  obtain ⟨k3, bits3, hi3, lo3, text3, more3, sub3, ab3, nb3, cb3, ak3, nk3, ck3, rfl⟩ := hr3.rd.shape
  have S3 := Lib.hid (S2.out.next hb3)
  clear f0 f1 f2 f3 f4 f5 f6 f7 f8 l0
  obtain ⟨f0, f1, f2, f3, f4, f5, f6, f7, f8, l0⟩ := S3.out.2.1.nine
  have R3 := Lib.hid hr3.rd
  clear hb3 hr3
  go_wp2_with fail
  have hb3 : Below w3.heap.size w3 (w3.alloc (.cells (valCells k3 bits3 hi3 lo3 text3 more3 sub3 ab3 nb3 cb3 ak3 nk3 ck3) 26)) := (Below.refl _ _).alloc (Nat.le_refl _) _
  have S3a := Lib.hid (S3.out.next hb3)
  have R3a := Lib.hid (R3.out.keep hb3)
  have X3a : Hid (BoxV (w3.alloc (.cells (valCells k3 bits3 hi3 lo3 text3 more3 sub3 ab3 nb3 cb3 ak3 nk3 ck3) 26)) w3.heap.size (valCells k3 bits3 hi3 lo3 text3 more3 sub3 ab3 nb3 cb3 ak3 nk3 ck3)) := BoxV.new _ _ _
  clear hb3
  refine (CR _ S3a.out.2.2.1 S3a.out.2.2.2).out.mono ?_
  rintro e w4 ⟨c4, rfl, hr4, hb4⟩
  obtain ⟨k4, bits4, hi4, lo4, text4, more4, sub4, ab4, nb4, cb4, ak4, nk4, ck4, rfl⟩ := hr4.shape
  have S4 := Lib.hid (S3a.out.next hb4)
  have R4 := Lib.hid (hr4.keep hb4)
  have R3b := Lib.hid (R3a.out.keep hb4)
  have X3b := Lib.hid (X3a.out.keep hb4)
  clear f0 f1 f2 f3 f4 f5 f6 f7 f8 l0
  obtain ⟨f0, f1, f2, f3, f4, f5, f6, f7, f8, l0⟩ := S4.out.2.1.nine
  have l3 := X3b.out.1
  clear hb4 hr4 X3a R3a
  go_wp2_with fail
  have hb4 : Below w4.heap.size w4 (w4.alloc (.cells (valCells k4 bits4 hi4 lo4 text4 more4 sub4 ab4 nb4 cb4 ak4 nk4 ck4) 26)) := (Below.refl _ _).alloc (Nat.le_refl _) _
  have S4a := Lib.hid (S4.out.next hb4)
  have R4a := Lib.hid (R4.out.keep hb4)
  have R3c := Lib.hid (R3b.out.keep hb4)
  have X3c := Lib.hid (X3b.out.keep hb4)
  have X4a : Hid (BoxV (w4.alloc (.cells (valCells k4 bits4 hi4 lo4 text4 more4 sub4 ab4 nb4 cb4 ak4 nk4 ck4) 26)) w4.heap.size (valCells k4 bits4 hi4 lo4 text4 more4 sub4 ab4 nb4 cb4 ak4 nk4 ck4)) := BoxV.new _ _ _
  clear hb4
  refine (CN _ S4a.out.2.2.1 S4a.out.2.2.2).out.mono ?_
  rintro e w5 ⟨v5, rfl, ho5, hb5⟩
  obtain ⟨a5, c5, rfl, hl5, hr5⟩ := ho5.rd
  have S5 := Lib.hid (S4a.out.next hb5)
  have R3 := Lib.hid (R3c.out.keep hb5)
  have R4 := Lib.hid (R4a.out.keep hb5)
  have X3 := Lib.hid (X3c.out.keep hb5)
  have X4 := Lib.hid (X4a.out.keep hb5)
  have N5 := Lib.hid hr5
  clear f0 f1 f2 f3 f4 f5 f6 f7 f8 l0
  obtain ⟨f0, f1, f2, f3, f4, f5, f6, f7, f8, l0⟩ := S5.out.2.1.nine
  clear hb5 ho5 hr5 R3b R3c R4a X3b X3c X4a l3
  go_wp2_with fail
  refine (CM _ S5.out.2.2.1 S5.out.2.2.2).out.mono ?_
  rintro e w6 ⟨v6, rfl, ho6, hb6⟩
  obtain ⟨a6, c6, rfl, hl6, hr6⟩ := ho6.rd
  have S6 := Lib.hid (S5.out.next hb6)
  have R3a := Lib.hid (R3.out.keep hb6)
  have R4a := Lib.hid (R4.out.keep hb6)
  have X3a := X3.out.keep hb6
  have X4a := X4.out.keep hb6
  have N5a := Lib.hid (N5.out.keep hb6 (Nat.le_refl _))
  have N6 := Lib.hid hr6
  clear f0 f1 f2 f3 f4 f5 f6 f7 f8 l0
  obtain ⟨g0, g1, g2, g3, g4, g5, g6, g7, g8, m0⟩ := X3a.nine
  obtain ⟨h0, h1, h2, h3, h4, h5, h6, h7, h8, n0⟩ := X4a.nine
  obtain ⟨N, hN⟩ : ∃ N, N = nm.length := ⟨_, rfl⟩
  rw [← hN] at hl5 hl6 N5a N6 ⊢
  clear hb6 ho6 hr6 X3 X4 X3a X4a R3 R4 N5 hN
  go_wp2_with fail
  refine (CSm.out _ _ _ R3a.out R4a.out).mono ?_
  rintro e w7 ⟨rfl, hb7⟩
  have S7 := Lib.hid (S6.out.next hb7)
  have N5b := Lib.hid (N5a.out.keep hb7 (Nat.le_refl _))
  have N6b := Lib.hid (N6.out.keep hb7 (Nat.le_refl _))
  clear g0 g1 g2 g3 g4 g5 g6 g7 g8 h0 h1 h2 h3 h4 h5 h6 h7 h8 m0 n0 hb7 N5a N6 R3a R4a
  go_wp2_with fail
  go_loopw [13] (fun i wr => GtRel w7 w7 wr N i) (fun i _ => N - (intOf i).toNat)
  case atStart => exact ⟨0, rfl, Nat.zero_le _, Below.refl _ _⟩
  case round =>
    obtain ⟨j, rfl, hj, hbw⟩ := hrel
    have HBW := Lib.hid hbw
    by_cases hlt : j < N
    · obtain ⟨b5, o5, ha5, y5⟩ := (N5b.out.keep hbw (Nat.le_refl _)) j hlt
      obtain ⟨b6, o6, ha6, y6⟩ := (N6b.out.keep hbw (Nat.le_refl _)) j hlt
      subst ha5 ha6
      generalize strAt nm j = z at y5 y6
      have ez : (z.toList == z.toList) = true := by simp
      have ez2 : (z.toList != z.toList) = false := by simp
      have hj0 : (0 : Int) ≤ (j : Int) := by omega
      have hj1 : (j : Int) < (N : Int) := by omega
      clear hbw
      go_wp2_with fail
      go_quiet (fail)
      go_wp2_with fail
      go_roundw
      case rel => exact ⟨j + 1, by simp, by omega, HBW.out.trans (below_drewN _ _ _)⟩
      case measure => simp [intOf]; omega
    · clear hbw
      go_wp2_with fail
      go_ret
      exact ⟨rfl, S7.out.1.trans (HBW.out.mono S7.out.1.size)⟩

end Go.Proofs.Ytiodjhcjfbnocaa
