/- path.Diff and the reference's Diff; PathDiffs: the walk. -/
import Derived.Test.YtiodjhcjfbnocaaPaQ
import Derived.Test.YtiodjhcjfbnocaaPaH
namespace Go.Proofs.Ytiodjhcjfbnocaa
open Go.RowKit
set_option linter.unusedVariables false
set_option linter.unusedSimpArgs false

set_option maxRecDepth 100000 in
set_option maxHeartbeats 4000000 in
theorem diff_calls (t u : T) (w : World) (c c2 : Array Value) (h : RdT w t c) (h2 : RdT w u c2) (hw : t.wt ≤ 90000) :
    Calls Try.prog 29 #[.agg c, .agg c2] w fun e w' => ∃ a n cp, e = .returned (.tuple #[.slice a n cp, .bool (diffT t u []).isSome]) ∧ n = ((diffT t u []).getD []).length ∧ n ≤ 9223372036854775807 ∧ RdR (fun k => w.heap.size ≤ k) w' a ((diffT t u []).getD []) ∧ Below w.heap.size w w' := by
  obtain ⟨k, bits, hi, lo, text, more, sub, ab, nb, cb, ak, nk, ck, rfl⟩ := h.shape
  obtain ⟨k2, bits2, hi2, lo2, text2, more2, sub2, ab2, nb2, cb2, ak2, nk2, ck2, rfl⟩ := h2.shape
  have hbx : Below w.heap.size w ((w.alloc (.cells (valCells k bits hi lo text more sub ab nb cb ak nk ck) 26)).alloc (.cells (valCells k2 bits2 hi2 lo2 text2 more2 sub2 ab2 nb2 cb2 ak2 nk2 ck2) 26)) := ((Below.refl _ _).alloc (Nat.le_refl _) _).alloc (by simp) _
  have C := Lib.hid (dif_all t.wt t u (Nat.le_refl _) w _ w.heap.size _ _ (fun k => w.heap.size ≤ k) (.slice none 0 0) (.slice none 0 0) [] [] h h2 hbx (Nat.le_refl _) hbx.size (OwnR.nil _ _ _) (World.ownsRow_nil _ _ _ _) (fun k hk => absurd hk (nil_own k)) (fun k hk => nil_own k) (fun k hk => by have := hbx.size; omega) (by simp; omega) (by simp; omega))
  have HBX := Lib.hid hbx
  rw [addO_nil] at C
  obtain ⟨R, hR⟩ : ∃ R, R = diffT t u [] := ⟨_, rfl⟩
  rw [← hR] at C ⊢
  clear h h2 hbx hw hR
  go_enter Try.func29, Try.ntmps29
  go_wp2_with fail
  refine C.out.mono ?_
  rintro e w1 ⟨v, rfl, ho, -, hch, -⟩
  obtain ⟨a, cp, rfl, hl, -, hr⟩ := ho.rdr
  have HB1 : Hid (Below w.heap.size w w1) := HBX.out.trans ((hch.below (Nat.le_refl _) (fun k hk => by rcases hk with h | h <;> exact absurd h (nil_own k))).mono HBX.out.size)
  have HR : Hid (RdR (fun k => w.heap.size ≤ k) w1 a (R.getD [])) := by
    obtain ⟨ys, x1, x2⟩ := hr
    exact ⟨ys, x1.imp (fun k _ hk => by exact hk), x2⟩
  obtain ⟨n, hn⟩ : ∃ n, n = (R.getD []).length := ⟨_, rfl⟩
  rw [← hn] at hl ⊢
  obtain ⟨ok, hok⟩ : ∃ ok, ok = R.isSome := ⟨_, rfl⟩
  rw [← hok]
  have HNN := Lib.hid hn
  have HOK := Lib.hid hok
  clear ho hch hr C HBX hn hok
  go_wp2_with fail
  go_ret2
  exact ⟨a, n, cp, by rw [← HOK.out]; rfl, HNN.out, hl, HR.out, HB1.out⟩

set_option maxRecDepth 100000 in
set_option maxHeartbeats 4000000 in
theorem rdiff_calls (t u : T) (w : World) (c c2 : Array Value) (h : RdT w t c) (h2 : RdT w u c2) (hw : t.wt ≤ 90000) :
    Calls Try.prog 30 #[.agg c, .agg c2] w fun e w' => ∃ a n cp, e = .returned (.tuple #[.slice a n cp, .bool (diffT t u []).isSome]) ∧ n = ((diffT t u []).getD []).length ∧ n ≤ 9223372036854775807 ∧ RdR (fun k => w.heap.size ≤ k) w' a ((diffT t u []).getD []) ∧ Below w.heap.size w w' := by
  obtain ⟨k, bits, hi, lo, text, more, sub, ab, nb, cb, ak, nk, ck, rfl⟩ := h.shape
  obtain ⟨k2, bits2, hi2, lo2, text2, more2, sub2, ab2, nb2, cb2, ak2, nk2, ck2, rfl⟩ := h2.shape
  have hbx : Below w.heap.size w ((w.alloc (.cells (valCells k bits hi lo text more sub ab nb cb ak nk ck) 26)).alloc (.cells (valCells k2 bits2 hi2 lo2 text2 more2 sub2 ab2 nb2 cb2 ak2 nk2 ck2) 26)) := ((Below.refl _ _).alloc (Nat.le_refl _) _).alloc (by simp) _
  have C := Lib.hid (rdif_all t.wt t u (Nat.le_refl _) (fun _ => False) _ _ _ none 0 0 [] (h.keep hbx) (h2.keep hbx) (rdps_nil _ _) (fun k hk => hk.elim) rfl (fun _ => rfl) (Nat.le_refl _) (by omega))
  have HBX := Lib.hid hbx
  obtain ⟨R, hR⟩ : ∃ R, R = diffT t u [] := ⟨_, rfl⟩
  rw [← hR] at C ⊢
  clear h h2 hbx hw hR
  go_enter Try.func30, Try.ntmps30
  go_wp2_with fail
  refine C.out.mono ?_
  rintro e w1 ⟨v, rfl, ho, hch⟩
  obtain ⟨a, cp, rfl, hl, -, hr⟩ := ho.rdr
  have HB1 : Hid (Below w.heap.size w w1) := HBX.out.trans (hch.mono HBX.out.size)
  have HR : Hid (RdR (fun k => w.heap.size ≤ k) w1 a (R.getD [])) := by
    obtain ⟨ys, x1, x2⟩ := hr
    exact ⟨ys, x1.imp (fun k _ hk => by rcases hk with hk | hk; exact hk.elim; exact Nat.le_trans HBX.out.size hk), x2⟩
  obtain ⟨n, hn⟩ : ∃ n, n = (R.getD []).length := ⟨_, rfl⟩
  rw [← hn] at hl ⊢
  obtain ⟨ok, hok⟩ : ∃ ok, ok = R.isSome := ⟨_, rfl⟩
  rw [← hok]
  have HNN := Lib.hid hn
  have HOK := Lib.hid hok
  clear ho hch hr C HBX hn hok
  go_wp2_with fail
  go_ret2
  exact ⟨a, n, cp, by rw [← HOK.out]; rfl, HNN.out, hl, HR.out, HB1.out⟩

/-- What is kept from call to call: two trees, their boxes. -/
def St2 (w W : World) (t u : T) (c c2 : Array Value) : Prop := Below w.heap.size w W ∧ BoxV W w.heap.size c ∧ BoxV W (w.heap.size + 1) c2 ∧ RdT W t c ∧ RdT W u c2
theorem St2.new {w : World} {t u : T} {c c2 : Array Value} (h : RdT w t c) (h2 : RdT w u c2) (ty : TypeId) : St2 w ((w.alloc (.cells c ty)).alloc (.cells c2 ty)) t u c c2 := by
  have hb : Below w.heap.size w ((w.alloc (.cells c ty)).alloc (.cells c2 ty)) := ((Below.refl _ _).alloc (Nat.le_refl _) _).alloc (by simp) _
  refine ⟨hb, (BoxV.new w c ty).keep ((Below.refl _ _).alloc (Nat.le_refl _) _), ?_, h.keep hb, h2.keep hb⟩
  rw [show w.heap.size + 1 = (w.alloc (.cells c ty)).heap.size by simp]
  exact BoxV.new _ _ _
theorem St2.next {w W W' : World} {t u : T} {c c2 : Array Value} (h : St2 w W t u c c2) (hb : Below W.heap.size W W') : St2 w W' t u c c2 :=
  ⟨h.1.trans (hb.mono h.1.size), h.2.1.keep hb, h.2.2.1.keep hb, h.2.2.2.1.keep hb, h.2.2.2.2.keep hb⟩

set_option maxRecDepth 100000 in
set_option maxHeartbeats 32000000 in
theorem PathDiffs_walk (w : World) (c : Array Value) (t : T) (h : RdT w t c) (c2 : Array Value) (u : T) (h2 : RdT w u c2) :
    Calls Try.prog 8 #[.agg c, .agg c2] w fun e w' => e = .returned (.bool true) ∧ Below w.heap.size w w' := by
  have CA := fun W => Lib.hid (awake18 W)
  obtain ⟨k, bits, hi, lo, text, more, sub, ab, nb, cb, ak, nk, ck, rfl⟩ := h.shape
  obtain ⟨k2, bits2, hi2, lo2, text2, more2, sub2, ab2, nb2, cb2, ak2, nk2, ck2, rfl⟩ := h2.shape
  have S0 := Lib.hid (St2.new h h2 26)
  have CS := fun W (h : RdT W t (valCells k bits hi lo text more sub ab nb cb ak nk ck)) => Lib.hid (small_calls t W _ h)
  have CS2 := fun W (h : RdT W u (valCells k2 bits2 hi2 lo2 text2 more2 sub2 ab2 nb2 cb2 ak2 nk2 ck2)) => Lib.hid (small_calls u W _ h)
  obtain ⟨sm, hsm⟩ : ∃ s, s = smallT t := ⟨_, rfl⟩
  obtain ⟨sm2, hsm2⟩ : ∃ s, s = smallT u := ⟨_, rfl⟩
  rw [← hsm] at CS
  rw [← hsm2] at CS2
  have HSM := Lib.hid hsm
  clear h h2 hsm hsm2
  cases sm with
  | false =>
    go_enter Try.func8, Try.ntmps8
    go_wp2_with fail
    refine (CA _).out.mono ?_
    rintro e w1 ⟨rfl, hb1⟩
    have S1 := Lib.hid (S0.out.next hb1)
    obtain ⟨f0, f1, f2, f3, f4, f5, f6, f7, f8, l0⟩ := S1.out.2.1.nine
    obtain ⟨g0, g1, g2, g3, g4, g5, g6, g7, g8, m0⟩ := S1.out.2.2.1.nine
    clear hb1
    go_wp2_with fail
    refine (CS _ S1.out.2.2.2.1).out.mono ?_
    rintro e w2 ⟨rfl, hb2⟩
    have S2 := Lib.hid (S1.out.next hb2)
    clear f0 f1 f2 f3 f4 f5 f6 f7 f8 l0 g0 g1 g2 g3 g4 g5 g6 g7 g8 m0
    obtain ⟨f0, f1, f2, f3, f4, f5, f6, f7, f8, l0⟩ := S2.out.2.1.nine
    obtain ⟨g0, g1, g2, g3, g4, g5, g6, g7, g8, m0⟩ := S2.out.2.2.1.nine
    clear hb2
    go_wp2_with fail
    go_ret
    exact ⟨rfl, S2.out.1⟩
  | true =>
  cases sm2 with
  | false =>
    go_enter Try.func8, Try.ntmps8
    go_wp2_with fail
    refine (CA _).out.mono ?_
    rintro e w1 ⟨rfl, hb1⟩
    have S1 := Lib.hid (S0.out.next hb1)
    obtain ⟨f0, f1, f2, f3, f4, f5, f6, f7, f8, l0⟩ := S1.out.2.1.nine
    obtain ⟨g0, g1, g2, g3, g4, g5, g6, g7, g8, m0⟩ := S1.out.2.2.1.nine
    clear hb1
    go_wp2_with fail
    refine (CS _ S1.out.2.2.2.1).out.mono ?_
    rintro e w2 ⟨rfl, hb2⟩
    have S2 := Lib.hid (S1.out.next hb2)
    clear f0 f1 f2 f3 f4 f5 f6 f7 f8 l0 g0 g1 g2 g3 g4 g5 g6 g7 g8 m0
    obtain ⟨f0, f1, f2, f3, f4, f5, f6, f7, f8, l0⟩ := S2.out.2.1.nine
    obtain ⟨g0, g1, g2, g3, g4, g5, g6, g7, g8, m0⟩ := S2.out.2.2.1.nine
    clear hb2
    go_wp2_with fail
    refine (CS2 _ S2.out.2.2.2.2).out.mono ?_
    rintro e w3 ⟨rfl, hb3⟩
    have S3 := Lib.hid (S2.out.next hb3)
    clear f0 f1 f2 f3 f4 f5 f6 f7 f8 l0 g0 g1 g2 g3 g4 g5 g6 g7 g8 m0
    obtain ⟨f0, f1, f2, f3, f4, f5, f6, f7, f8, l0⟩ := S3.out.2.1.nine
    obtain ⟨g0, g1, g2, g3, g4, g5, g6, g7, g8, m0⟩ := S3.out.2.2.1.nine
    clear hb3
    go_wp2_with fail
    go_ret
    exact ⟨rfl, S3.out.1⟩
  | true =>
  have hw := small_wt HSM.out.symm
  obtain ⟨R, hR⟩ : ∃ R, R = diffT t u [] := ⟨_, rfl⟩
  obtain ⟨sa, hsa⟩ : ∃ s, s = sameT t u := ⟨_, rfl⟩
  have hds := diff_same t u []
  have CD := fun W (h : RdT W t (valCells k bits hi lo text more sub ab nb cb ak nk ck)) (h2 : RdT W u (valCells k2 bits2 hi2 lo2 text2 more2 sub2 ab2 nb2 cb2 ak2 nk2 ck2)) => Lib.hid (diff_calls t u W _ _ h h2 (by omega))
  have CR := fun W (h : RdT W t (valCells k bits hi lo text more sub ab nb cb ak nk ck)) (h2 : RdT W u (valCells k2 bits2 hi2 lo2 text2 more2 sub2 ab2 nb2 cb2 ak2 nk2 ck2)) => Lib.hid (rdiff_calls t u W _ _ h h2 (by omega))
  have CN := fun W (h : RdT W t (valCells k bits hi lo text more sub ab nb cb ak nk ck)) => Lib.hid (diff_calls t t W _ _ h h (by omega))
  have CT := fun W (h : RdT W t (valCells k bits hi lo text more sub ab nb cb ak nk ck)) (h2 : RdT W u (valCells k2 bits2 hi2 lo2 text2 more2 sub2 ab2 nb2 cb2 ak2 nk2 ck2)) => Lib.hid (tsame_all t.wt t u (Nat.le_refl _) W _ _ h h2)
  rw [diff_self] at CN
  rw [← hR] at CD CR hds
  rw [← hsa] at CT hds
  have HDS := Lib.hid hds
  clear hR hsa hds hw
  go_enter Try.func8, Try.ntmps8
  go_wp2_with fail
  refine (CA _).out.mono ?_
  rintro e w1 ⟨rfl, hb1⟩
  have S1 := Lib.hid (S0.out.next hb1)
  obtain ⟨f0, f1, f2, f3, f4, f5, f6, f7, f8, l0⟩ := S1.out.2.1.nine
  obtain ⟨g0, g1, g2, g3, g4, g5, g6, g7, g8, m0⟩ := S1.out.2.2.1.nine
  clear hb1
  go_wp2_with fail
  refine (CS _ S1.out.2.2.2.1).out.mono ?_
  rintro e w2 ⟨rfl, hb2⟩
  have S2 := Lib.hid (S1.out.next hb2)
  clear f0 f1 f2 f3 f4 f5 f6 f7 f8 l0 g0 g1 g2 g3 g4 g5 g6 g7 g8 m0
  obtain ⟨f0, f1, f2, f3, f4, f5, f6, f7, f8, l0⟩ := S2.out.2.1.nine
  obtain ⟨g0, g1, g2, g3, g4, g5, g6, g7, g8, m0⟩ := S2.out.2.2.1.nine
  clear hb2
  go_wp2_with fail
  refine (CS2 _ S2.out.2.2.2.2).out.mono ?_
  rintro e w3 ⟨rfl, hb3⟩
  have S3 := Lib.hid (S2.out.next hb3)
  clear f0 f1 f2 f3 f4 f5 f6 f7 f8 l0 g0 g1 g2 g3 g4 g5 g6 g7 g8 m0
  obtain ⟨f0, f1, f2, f3, f4, f5, f6, f7, f8, l0⟩ := S3.out.2.1.nine
  obtain ⟨g0, g1, g2, g3, g4, g5, g6, g7, g8, m0⟩ := S3.out.2.2.1.nine
  clear hb3
  go_wp2_with fail
  refine (CD _ S3.out.2.2.2.1 S3.out.2.2.2.2).out.mono ?_
  rintro e w4 ⟨a4, n, c4, rfl, hn4, hl4, hr4, hb4⟩
  have S4 := Lib.hid (S3.out.next hb4)
  have R4 := Lib.hid hr4
  have HN4 := Lib.hid hn4
  obtain ⟨ok, hok⟩ : ∃ ok, ok = R.isSome := ⟨_, rfl⟩
  rw [← hok] at CR ⊢
  have HOK := Lib.hid hok
  clear f0 f1 f2 f3 f4 f5 f6 f7 f8 l0 g0 g1 g2 g3 g4 g5 g6 g7 g8 m0
  obtain ⟨f0, f1, f2, f3, f4, f5, f6, f7, f8, l0⟩ := S4.out.2.1.nine
  obtain ⟨g0, g1, g2, g3, g4, g5, g6, g7, g8, m0⟩ := S4.out.2.2.1.nine
  clear hb4 hr4 hn4 hok
  go_wp2_with fail
  refine (CR _ S4.out.2.2.2.1 S4.out.2.2.2.2).out.mono ?_
  rintro e w5 ⟨a5, n', c5, rfl, hn5, hl5, hr5, hb5⟩
  obtain rfl : n' = n := hn5.trans HN4.out.symm
  have S5 := Lib.hid (S4.out.next hb5)
  have R5 := Lib.hid hr5
  have R4a := Lib.hid (R4.out.keep hb5)
  clear f0 f1 f2 f3 f4 f5 f6 f7 f8 l0 g0 g1 g2 g3 g4 g5 g6 g7 g8 m0
  obtain ⟨f0, f1, f2, f3, f4, f5, f6, f7, f8, l0⟩ := S5.out.2.1.nine
  obtain ⟨g0, g1, g2, g3, g4, g5, g6, g7, g8, m0⟩ := S5.out.2.2.1.nine
  clear hb5 hr5 hn5
  go_wp2_with fail
  refine (CN _ S5.out.2.2.2.1).out.mono ?_
  rintro e w6 ⟨a6, n6, c6, rfl, hn6, hl6, hr6, hb6⟩
  obtain rfl : n6 = 0 := hn6
  have S6 := Lib.hid (S5.out.next hb6)
  have R6 := Lib.hid (R5.out.keep hb6)
  have R4b := Lib.hid (R4a.out.keep hb6)
  clear f0 f1 f2 f3 f4 f5 f6 f7 f8 l0 g0 g1 g2 g3 g4 g5 g6 g7 g8 m0
  obtain ⟨f0, f1, f2, f3, f4, f5, f6, f7, f8, l0⟩ := S6.out.2.1.nine
  obtain ⟨g0, g1, g2, g3, g4, g5, g6, g7, g8, m0⟩ := S6.out.2.2.1.nine
  clear hb6 hr6
  have CP := Lib.hid (same_paths _ _ a4 a5 n' n' c4 c5 w6 (R.getD []) (R.getD []) HN4.out.symm HN4.out.symm hl4 hl5 R4b.out R6.out)
  rw [decide_eq_true (rfl : R.getD [] = R.getD [])] at CP
  have CT6 := Lib.hid (fun m => (CT (w6.drewN m) (S6.out.2.2.2.1.keep (below_drewN _ _ _)) (S6.out.2.2.2.2.keep (below_drewN _ _ _))).out)
  clear CD CR CN CT CA CS CS2 S0 S1 S2 S3 S4 S5 R4 R4a R5
  have hsa : Hid (sa = (ok && decide (n' = 0))) := by
    show _ = _
    have h1 := HDS.out
    have h2 := HN4.out
    have h3 := HOK.out
    cases R with
    | none => simp at h3 h1; rw [h3, h1]; rfl
    | some d =>
      simp at h1 h2 h3
      rw [h3, h2, Bool.true_and]
      cases d with
      | nil => simp at h1; rw [h1]; simp
      | cons x y => simp at h1; rw [h1]; simp
  go_wp2_with fail
  refine CP.out.mono ?_
  rintro e w7 ⟨rfl, n7, rfl⟩
  have S7 := Lib.hid (S6.out.next (below_drewN w6 n7 _))
  clear f0 f1 f2 f3 f4 f5 f6 f7 f8 l0 g0 g1 g2 g3 g4 g5 g6 g7 g8 m0
  obtain ⟨f0, f1, f2, f3, f4, f5, f6, f7, f8, l0⟩ := S7.out.2.1.nine
  obtain ⟨g0, g1, g2, g3, g4, g5, g6, g7, g8, m0⟩ := S7.out.2.2.1.nine
  clear CP
  cases ok with
  | false =>
    have hs : sa = false := by rw [hsa.out]; rfl
    subst hs
    go_wp2_with fail
    refine (CT6.out n7).mono ?_
    rintro e w8 ⟨rfl, hb8⟩
    have S8 := Lib.hid (S7.out.next hb8)
    clear hb8 f0 f1 f2 f3 f4 f5 f6 f7 f8 l0 g0 g1 g2 g3 g4 g5 g6 g7 g8 m0
    go_wp2_with fail
    go_ret
    exact ⟨rfl, S8.out.1⟩
  | true =>
    by_cases h0 : n' = 0
    · have hs : sa = true := by rw [hsa.out, h0]; rfl
      subst hs
      subst h0
      go_wp2_with fail
      refine (CT6.out n7).mono ?_
      rintro e w8 ⟨rfl, hb8⟩
      have S8 := Lib.hid (S7.out.next hb8)
      clear hb8 f0 f1 f2 f3 f4 f5 f6 f7 f8 l0 g0 g1 g2 g3 g4 g5 g6 g7 g8 m0
      go_wp2_with fail
      go_ret
      exact ⟨rfl, S8.out.1⟩
    · have hs : sa = false := by rw [hsa.out]; simp [h0]
      subst hs
      have h1 : ((n' : Int) == 0) = false := by simp; omega
      go_wp2_with fail
      refine (CT6.out n7).mono ?_
      rintro e w8 ⟨rfl, hb8⟩
      have S8 := Lib.hid (S7.out.next hb8)
      clear hb8 f0 f1 f2 f3 f4 f5 f6 f7 f8 l0 g0 g1 g2 g3 g4 g5 g6 g7 g8 m0
      go_wp2_with fail
      go_ret
      exact ⟨rfl, S8.out.1⟩

end Go.Proofs.Ytiodjhcjfbnocaa
