/- PathOne: the walk. -/
import Derived.Test.YtiodjhcjfbnocaaPaU
import Derived.Test.YtiodjhcjfbnocaaPaR
import Derived.Test.YtiodjhcjfbnocaaPaK
import Derived.Test.YtiodjhcjfbnocaaPlc
import Derived.Laws.BitsAllLaws
namespace Go.Proofs.Ytiodjhcjfbnocaa
open Go.RowKit
set_option linter.unusedVariables false
set_option linter.unusedSimpArgs false

theorem with_all : ∀ p : List Int, WithSaid p
  | [] => with_nil
  | i :: p => with_cons i p (with_all p)

theorem goT_len1 : ∀ (p : List Int) (t x : T) (l : List ByteArray), goT t p = some (x, l) → p.length + x.wt ≤ t.wt
  | [], t, x, l, h => by
    simp only [goT, Option.some.injEq, Prod.mk.injEq] at h
    rw [h.1]; simp
  | i :: p, t, x, l, h => by
    obtain ⟨j, n, v, l', rfl, hj, hg⟩ := goT_cons h
    have h3 := goT_len1 p v x l' hg
    have h4 := F.wt_get t.kids _ n v hj
    have h5 : t.kids.wt + 1 ≤ t.wt := by cases t; simp only [T.kids, T.wt]; omega
    simp only [List.length_cons]
    omega
theorem all_at (t : T) (j : Nat) (h : j < (allT t []).length) : ∃ u l, goT t (pAt (allT t []) j) = some (u, l) ∧ (pAt (allT t []) j).length + u.wt ≤ t.wt := by
  have hm : pAt (allT t []) j ∈ allT t [] := by
    unfold pAt
    rw [List.getD_eq_getElem?_getD, List.getElem?_eq_getElem h]
    exact List.getElem_mem h
  obtain ⟨x, m, hx⟩ := allT_goes t t [] [] (by simp [goT]) _ hm
  exact ⟨x, m, hx, goT_len1 _ _ _ _ hx⟩
theorem all_pos (t : T) : 0 < (allT t []).length := by cases t; simp [allT]

theorem bytes_len (b : ByteArray) : b.toList.length = b.size := by rw [ByteArray.toList_eq]; rfl
/-- A value with other Bits. -/
def setB : T → Nat → T
  | .mk k _ h l t m s y f, b => .mk k b h l t m s y f
theorem xor_ne (b : Nat) : b ^^^ 1 ≠ b := by
  intro h
  have h2 : (b ^^^ 1).testBit 0 = b.testBit 0 := by rw [h]
  simp at h2
  omega
theorem diff_bits (u : T) (b : Nat) (p : List Int) (hb : ∀ k x h l t m s y f, u = .mk k x h l t m s y f → x ≠ b) : diffT u (setB u b) p = some [p] := by
  obtain ⟨k, x, h, l, t, m, s, y, f⟩ := u
  have hx := hb k x h l t m s y f rfl
  have e : ownEq (.mk k x h l t m s y f) (setB (.mk k x h l t m s y f) b) = false := by simp [ownEq, setB, hx]
  simp only [diffT]
  rw [if_neg (by simp [setB, T.kids])]
  show (match diffF f f 0 p with | none => none | some d => some ((if ownEq (.mk k x h l t m s y f) (setB (.mk k x h l t m s y f) b) then [] else [p]) ++ d)) = _
  rw [diffF_self, e]
  rfl
theorem bits_rd {S : Nat → Prop} {W : World} {u : T} {k : Int} {b b' h l : Nat} {t m : ByteArray} {s : Int} {ab : Option Addr} {nb cb : Nat} {ak : Option Addr} {nk ck : Nat} (hr : RdTS S W u (valCells k b h l t m s ab nb cb ak nk ck)) (hb : b' < okSize) : RdTS S W (setB u b') (valCells k b' h l t m s ab nb cb ak nk ck) ∧ ∀ k' x h' l' t' m' s' y f, u = .mk k' x h' l' t' m' s' y f → x = b := by
  obtain ⟨k', x, h', l', t', m', s', y, f⟩ := u
  obtain ⟨ab', nb', cb', ak', nk', ck', he, hok, hrb, hkl, hrm, hks⟩ := hr
  simp only [valCells, Array.mk.injEq, List.cons.injEq, Value.int.injEq, Value.string.injEq, Value.slice.injEq, true_and, and_true, Int.ofNat_inj] at he
  obtain ⟨rfl, hxb, hhh, hll, rfl, rfl, rfl, ⟨rfl, rfl, rfl⟩, ⟨rfl, rfl, rfl⟩⟩ := he
  obtain rfl : h = h' := by omega
  obtain rfl : l = l' := by omega
  obtain rfl : b = x := by omega
  refine ⟨⟨_, _, _, _, _, _, rfl, ?_, hrb, hkl, hrm, hks⟩, fun _ _ _ _ _ _ _ _ _ e => ?_⟩
  · obtain ⟨o1, o2, o3⟩ := hok
    exact ⟨o1, hb, o3⟩
  · simp only [T.mk.injEq] at e; exact e.2.1.symm

theorem rdts_kids {S : Nat → Prop} {W : World} {u : T} {k : Int} {b h l : Nat} {t m : ByteArray} {s : Int} {ab : Option Addr} {nb cb : Nat} {ak : Option Addr} {nk ck : Nat} (hr : RdTS S W u (valCells k b h l t m s ab nb cb ak nk ck)) : u.kids.len = nk ∧ RdKsS S W ak 0 u.kids ∧ nk ≤ 9223372036854775807 ∧ Roomy ak nk ck := by
  obtain ⟨k', x, h', l', t', m', s', y, f⟩ := u
  obtain ⟨ab', nb', cb', ak', nk', ck', he, hok, hrb, hkl, hrm, hks⟩ := hr
  simp only [valCells, Array.mk.injEq, List.cons.injEq, Value.int.injEq, Value.string.injEq, Value.slice.injEq, true_and, and_true, Int.ofNat_inj] at he
  obtain ⟨-, -, -, -, -, -, -, -, ⟨rfl, rfl, rfl⟩⟩ := he
  exact ⟨hkl, hks, hrm.1, hrm.2.1⟩
/-- A value with other Kids. -/
def setK : T → F → T
  | .mk k b h l t m s y _, f => .mk k b h l t m s y f
theorem kids_rd {S : Nat → Prop} {W : World} {u : T} {k : Int} {b h l : Nat} {t m : ByteArray} {s : Int} {ab : Option Addr} {nb cb : Nat} {ak ak2 : Option Addr} {nk ck nk2 ck2 : Nat} {f : F} (hr : RdTS S W u (valCells k b h l t m s ab nb cb ak nk ck)) (hf : f.len = nk2) (hm : nk2 ≤ 9223372036854775807) (hro : Roomy ak2 nk2 ck2) {S' : Nat → Prop} (hk : RdKsS S' W ak2 0 f) (hS : ∀ k, S k → S' k) : RdT W (setK u f) (valCells k b h l t m s ab nb cb ak2 nk2 ck2) := by
  obtain ⟨k', x, h', l', t', m', s', y, g⟩ := u
  obtain ⟨ab', nb', cb', ak', nk', ck', he, hok, hrb, hkl, hrm, hks⟩ := hr
  simp only [valCells, Array.mk.injEq, List.cons.injEq, Value.int.injEq, Value.string.injEq, Value.slice.injEq, true_and, and_true, Int.ofNat_inj] at he
  obtain ⟨rfl, hxb, hhh, hll, rfl, rfl, rfl, ⟨rfl, rfl, rfl⟩, -⟩ := he
  obtain rfl : h = h' := by omega
  obtain rfl : l = l' := by omega
  obtain rfl : b = x := by omega
  exact RdTS.rd (S := S') ⟨_, _, _, _, _, _, rfl, hok, ⟨hrb.1, fun h0 p hp => hS _ (hrb.2 h0 p hp)⟩, hf, ⟨hm, hro, hrm.2.2⟩, hk⟩
theorem diff_name (u : T) (n n' : ByteArray) (v : T) (r : F) (p : List Int) (hu : u.kids = .cons n v r) (hn : n.toList ≠ n'.toList) : diffT u (setK u (.cons n' v r)) p = none := by
  obtain ⟨k', x, h', l', t', m', s', y, g⟩ := u
  simp only [T.kids] at hu
  subst hu
  show diffT (.mk k' x h' l' t' m' s' y (.cons n v r)) (.mk k' x h' l' t' m' s' y (.cons n' v r)) p = none
  have e : diffF (.cons n v r) (.cons n' v r) 0 p = none := by
    simp only [diffF]
    exact if_pos hn
  simp [diffT, T.kids, F.len, e]
theorem diff_less (u : T) (n : ByteArray) (v : T) (r : F) (p : List Int) (hu : u.kids = .cons n v r) : diffT u (setK u r) p = none := by
  obtain ⟨k', x, h', l', t', m', s', y, g⟩ := u
  simp only [T.kids] at hu
  subst hu
  show diffT (.mk k' x h' l' t' m' s' y (.cons n v r)) (.mk k' x h' l' t' m' s' y r) p = none
  simp [diffT, T.kids, F.len]
theorem name_kidsS {S : Nat → Prop} {w w' : World} {B : Nat} {L : Nat → Prop} {g nk cp : Nat} {n n' : ByteArray} {v : T} {r : F} (h : OwnK w B L (.slice (some ⟨g, 0, none⟩) nk cp) (.cons n v r)) (hn' : n'.size ≤ 9223372036854775807) (hch : Chg (fun k => k = g) w w') (hL : ∀ k, L k → S k) (hg : S g) (ho : ∀ off, 0 < off → w'.cell? ⟨g, off, none⟩ = w.cell? ⟨g, off, none⟩) (hc : w'.cell? ⟨g, 0, none⟩ = some (.string n')) : RdKsS S w' (some ⟨g, 0, none⟩) 0 (.cons n' v r) := by
  refine RdKsS.build hg fun i m x hi => ?_
  cases i with
  | zero =>
    simp only [F.get?, Option.some.injEq, Prod.mk.injEq] at hi
    obtain ⟨rfl, rfl⟩ := hi
    obtain ⟨c, a1, a2, a3, a4, -⟩ := h.kid (i := 0) rfl
    refine ⟨c, hn', by simpa using hc, fun m hm => ?_, (a2.keep (KeepS.chg hch fun k hk => hk.2)).imp fun k _ hk => hL k hk.1⟩
    rw [show 0 + (0 + 0) * 10 + (m + 1) = 0 * 10 + (m + 1) by omega, ho _ (by omega)]; exact a4 m hm
  | succ i =>
    obtain ⟨c, a1, a2, a3, a4, -⟩ := h.kid (i := i + 1) (show (F.cons n v r).get? (i + 1) = some (m, x) from hi)
    refine ⟨c, a1, ?_, fun m hm => ?_, (a2.keep (KeepS.chg hch fun k hk => hk.2)).imp fun k _ hk => hL k hk.1⟩
    · rw [show 0 + (0 + (i + 1)) * 10 = (i + 1) * 10 by omega, ho _ (by omega)]; exact a3
    · rw [show 0 + (0 + (i + 1)) * 10 + (m + 1) = (i + 1) * 10 + (m + 1) by omega, ho _ (by omega)]; exact a4 m hm
theorem shift_kids {S : Nat → Prop} {W : World} {b o : Nat} : ∀ {r : F} {i : Nat}, RdKsS S W (some ⟨b, o, none⟩) (i + 1) r → RdKsS S W (some ⟨b, o + 10, none⟩) i r
  | .nil, _, _ => trivial
  | .cons n t r, i, h => by
    obtain ⟨⟨b', o', c, e, h1, h2, h3, h4, h5⟩, hr⟩ := h
    simp only [Option.some.injEq, Addr.mk.injEq, and_true] at e
    obtain ⟨rfl, rfl⟩ := e
    refine ⟨⟨b, o + 10, c, rfl, h1, h2, ?_, fun j hj => ?_, h5⟩, shift_kids hr⟩
    · rw [show o + 10 + i * 10 = o + (i + 1) * 10 by omega]; exact h3
    · rw [show o + 10 + i * 10 + (j + 1) = o + (i + 1) * 10 + (j + 1) by omega]; exact h4 j hj

/-- What is kept: the tree, its box, the value at the path, its box, the path. -/
def P1 (w W : World) (g gx B0 : Nat) (t u : T) (c cx : Array Value) (ap : Option Addr) (p : List Int) : Prop :=
  Below w.heap.size w W ∧ BoxV W g c ∧ BoxV W gx cx ∧ RdTS (fun k => k < B0) W t c ∧ RdTS (fun k => k < B0) W u cx ∧ RdPS (fun k => k < B0) W ap p ∧ B0 ≤ W.heap.size
theorem P1.chg {X : Nat → Prop} {w W W' : World} {g gx B0 : Nat} {t u : T} {c cx : Array Value} {ap : Option Addr} {p : List Int} (h : P1 w W g gx B0 t u c cx ap p) (hc : Chg X W W') (h1 : ¬ X g) (h2 : ¬ X gx) (h3 : ∀ k, X k → B0 ≤ k) (h4 : w.heap.size ≤ B0) : P1 w W' g gx B0 t u c cx ap p := by
  obtain ⟨a1, a2, a3, a4, a5, a6, a7⟩ := h
  have hk : KeepS (fun k => k < B0) W W' := KeepS.chg hc fun k hk e => by have := h3 k e; omega
  exact ⟨a1.trans (hc.below a1.size fun i e => Nat.le_trans h4 (h3 i e)), a2.chg hc h1, a3.chg hc h2, a4.keep hk, a5.keep hk, a6.keep hk, Nat.le_trans a7 hc.size⟩
theorem P1.next {w W W' : World} {g gx B0 : Nat} {t u : T} {c cx : Array Value} {ap : Option Addr} {p : List Int} (h : P1 w W g gx B0 t u c cx ap p) (hb : Below W.heap.size W W') (h4 : w.heap.size ≤ B0) : P1 w W' g gx B0 t u c cx ap p := h.chg (Chg.of_below (S := fun _ => False) hb) (fun e => e) (fun e => e) (fun k e => e.elim) h4
theorem bel4 {a b c : World} (h : Below a.heap.size a b) (k : Below b.heap.size b c) : Below a.heap.size a c := h.trans (k.mono h.size)

set_option maxRecDepth 100000 in
set_option maxHeartbeats 32000000 in
theorem PathOne_walk (w : World) (c : Array Value) (t : T) (h : RdT w t c) (kk : Int) (hkk : (Lit.int .i64 kk).wf = true) :
    Calls Try.prog 9 #[.agg c, .int .i64 kk] w fun e w' => e = .returned (.bool true) ∧ Below w.heap.size w w' := by
  obtain ⟨k, bi, hi, lo, text, more, sub, ab, nb, cb, ak, nk, ck, rfl⟩ := h.shape
  have CS := Lib.hid (fun W (h : RdT W t (valCells k bi hi lo text more sub ab nb cb ak nk ck)) => small_calls t W _ h)
  obtain ⟨sm, hsm⟩ : ∃ s, s = smallT t := ⟨_, rfl⟩
  rw [← hsm] at CS
  have HSM := Lib.hid hsm
  obtain ⟨wa, hwa⟩ : ∃ W, W = w.alloc (.cells (valCells k bi hi lo text more sub ab nb cb ak nk ck) 26) := ⟨_, rfl⟩
  obtain ⟨g2, hg2⟩ : ∃ g, g = w.heap.size := ⟨_, rfl⟩
  have hba : Below w.heap.size w wa := by rw [hwa]; exact (Below.refl _ _).alloc (Nat.le_refl _) _
  have HXA : Hid (BoxV wa g2 (valCells k bi hi lo text more sub ab nb cb ak nk ck)) := by show BoxV _ _ _; rw [hwa, hg2]; exact BoxV.new _ _ _
  have HTA : Hid (RdT wa t (valCells k bi hi lo text more sub ab nb cb ak nk ck)) := h.keep hba
  have HBA := Lib.hid hba
  have HG2 : Hid (g2 = w.heap.size) := hg2
  clear h hba hsm
  go_enter Try.func9, Try.ntmps9
  go_upto_region 1 with fail
  rw [← hwa, ← hg2]
  clear hwa hg2
  go_wp2_with fail
  refine (awake18 _).mono ?_
  rintro e w1 ⟨rfl, hb1⟩
  have HB1 := Lib.hid hb1
  clear hb1
  obtain ⟨f0, f1, f2, f3, f4, f5, f6, f7, f8, l0⟩ := (HXA.out.keep HB1.out).nine
  go_wp2_with fail
  refine (CS.out _ (HTA.out.keep HB1.out)).mono ?_
  rintro e w2 ⟨rfl, hb2⟩
  have HB2 : Hid (Below wa.heap.size wa w2) := bel4 HB1.out hb2
  clear hb2 f0 f1 f2 f3 f4 f5 f6 f7 f8 l0 CS
  cases sm with
  | false =>
    go_wp2_with fail
    go_ret
    exact ⟨rfl, bel4 HBA.out HB2.out⟩
  | true =>
  have hw := small_wt HSM.out.symm
  have hal := allT_wt t []
  have hap := all_pos t
  have HAT := Lib.hid (fun j h => all_at t j h)
  have CL := Lib.hid (fun W (h : RdT W t (valCells k bi hi lo text more sub ab nb cb ak nk ck)) => rallt_calls t W _ h (by omega))
  obtain ⟨f, hf⟩ : ∃ f, f = allT t [] := ⟨_, rfl⟩
  rw [← hf] at CL hal hap HAT
  obtain ⟨N, hN⟩ : ∃ N, N = f.length := ⟨_, rfl⟩
  have hj := place_lt kk N (by omega)
  have CP := Lib.hid (fun W => place_calls kk N (by omega) (by omega) W)
  obtain ⟨j, hjj⟩ : ∃ j, j = placeN kk N := ⟨_, rfl⟩
  rw [← hjj] at CP hj
  obtain ⟨u, lu, hgo, hpl⟩ := HAT.out j (by omega)
  obtain ⟨p, hp⟩ : ∃ p, p = pAt f j := ⟨_, rfl⟩
  rw [← hp] at hgo hpl
  obtain ⟨np, hnp⟩ : ∃ n, n = p.length := ⟨_, rfl⟩
  have hgx : goX t p = u := by unfold goX; rw [hgo]
  have hgs : (goT t p).isSome = true := by rw [hgo]; rfl
  have CG := Lib.hid (fun W (hW : RdT W t (valCells k bi hi lo text more sub ab nb cb ak nk ck)) a n cap (hp : RdPS (fun _ => True) W a p) (hn : p.length = n) => rget_calls W t W (Below.refl _ _) _ hW a p n cap _ hp hn (by omega))
  rw [hgx, hgs] at CG
  have hwt9 : t.wt ≤ 1200 := hw
  have hnp9 : np ≤ 1200 := by omega
  have huw : u.wt ≤ 1200 := by omega
  have HGO := Lib.hid hgo
  have HNP := Lib.hid hnp
  have HPP := Lib.hid hp
  have HNN := Lib.hid hN
  have j0 : (0 : Int) ≤ (j : Int) := by omega
  have j1 : (j : Int) < (N : Int) := by omega
  clear hgo hp hnp hw hal hap HAT hpl hgx hgs hjj HSM hf hN
  obtain ⟨f0, f1, f2, f3, f4, f5, f6, f7, f8, l0⟩ := (HXA.out.keep HB2.out).nine
  go_wp2_with fail
  refine (CL.out _ (HTA.out.keep HB2.out)).mono ?_
  rintro e w3 ⟨v3, rfl, ho3, hb3⟩
  obtain ⟨a3, c3, rfl, hl3, hc3, hr3⟩ := ho3.rdr
  rw [← HNN.out] at hl3 ⊢
  have HB3 : Hid (Below wa.heap.size wa w3) := bel4 HB2.out hb3
  obtain ⟨b3, o3, ap, cp, rfl, hcell, hpr, hpl3, hpc, hpcc⟩ := hr3.at j (by rw [← HNN.out]; exact hj)
  rw [← HPP.out, ← HNP.out] at hcell hpl3 hpcc
  rw [← HPP.out] at hpr
  have HPR := Lib.hid (hpr.imp (S' := fun _ => True) (fun _ _ _ => trivial))
  have HPC : Hid ((ap = none → cp = 0) ∧ np ≤ cp) := Lib.hid ⟨hpc, hpcc⟩
  clear ho3 hb3 hr3 f0 f1 f2 f3 f4 f5 f6 f7 f8 l0 CL hpr hpc hl3 hc3
  obtain ⟨f0, f1, f2, f3, f4, f5, f6, f7, f8, l0⟩ := (HXA.out.keep HB3.out).nine
  go_wp2_with fail
  refine (CP.out _).mono ?_
  rintro e w4 ⟨rfl, rfl⟩
  clear CP
  go_wp2_with fail
  refine (CG.out _ (HTA.out.keep HB3.out) ap np cp HPR.out HNP.out.symm).mono ?_
  rintro e w5 ⟨cx, rfl, hrx, hb5⟩
  obtain ⟨kx, bix, hix, lox, textx, morex, subx, abx, nbx, cbx, akx, nkx, ckx, rfl⟩ := hrx.shape
  obtain ⟨B0, hB0⟩ : ∃ g, g = w5.heap.size := ⟨_, rfl⟩
  have hux : u.kids.len = nkx := by
    obtain ⟨k', bits', hi', lo', text', more', sub', bs', kids'⟩ := u
    obtain ⟨ab', nb', cb', ak', nk', ck', he, -, -, hkl, -⟩ := hrx
    simp [valCells] at he
    simp only [T.kids]
    omega
  have hrt5 : RdTS (fun k => k < B0) w5 t (valCells k bi hi lo text more sub ab nb cb ak nk ck) := by rw [hB0]; exact RdTS.of ((HTA.out.keep HB3.out).keep hb5)
  have hru5 : RdTS (fun k => k < B0) w5 u (valCells kx bix hix lox textx morex subx abx nbx cbx akx nkx ckx) := by rw [hB0]; exact RdTS.of (hrx.keep hb5)
  have hrp5 : RdPS (fun k => k < B0) w5 ap p := by
    have := HPR.out.keep (w' := w5) (KeepS.below hb5)
    rw [hB0]
    refine ⟨this.1, fun hl b hb => ?_⟩
    obtain ⟨b', o', e', hc'⟩ := this.1 0 hl
    rw [hb] at e'
    obtain rfl := Option.some.inj e'
    simpa using cell_block hc'
  obtain ⟨w7, hw7⟩ : ∃ W, W = (w5.alloc (.cells (valCells kx bix hix lox textx morex subx abx nbx cbx akx nkx ckx) 26)).alloc (.cells (valCells kx bix hix lox textx morex subx abx nbx cbx akx nkx ckx) 26) := ⟨_, rfl⟩
  have hb57 : Below w5.heap.size w5 w7 := by rw [hw7]; exact ((Below.refl _ _).alloc (Nat.le_refl _) _).alloc (by simp) _
  have hgl : w.heap.size < B0 := by have := HBA.out.size; have := HB3.out.size; have := hb5.size; have := HXA.out.nine; have := this.2.2.2.2.2.2.2.2.2; have := HG2.out; omega
  have HP7 : Hid (P1 w w7 g2 B0 B0 t u (valCells k bi hi lo text more sub ab nb cb ak nk ck) (valCells kx bix hix lox textx morex subx abx nbx cbx akx nkx ckx) ap p) := by
    refine Lib.hid ⟨bel4 HBA.out (bel4 (bel4 HB3.out hb5) hb57), ((HXA.out.keep HB3.out).keep hb5).keep hb57, ?_, hrt5.keep (KeepS.below hb57), hru5.keep (KeepS.below hb57), hrp5.keep (KeepS.below hb57), by have := hb57.size; omega⟩
    rw [hw7, hB0]
    exact (BoxV.new _ _ _).keep ((Below.refl _ _).alloc (Nat.le_refl _) _)
  have hby : BoxV w7 (B0 + 1) (valCells kx bix hix lox textx morex subx abx nbx cbx akx nkx ckx) := by
    rw [hw7, show B0 + 1 = (w5.alloc (.cells (valCells kx bix hix lox textx morex subx abx nbx cbx akx nkx ckx) 26)).heap.size by rw [hB0]; simp]
    exact BoxV.new _ _ _
  have hs7 : w7.heap.size = B0 + 2 := by rw [hw7, hB0]; simp
  have HGL := Lib.hid hgl
  have HUX := Lib.hid hux
  have HB0 := Lib.hid hB0
  have HW7 := Lib.hid hw7
  have HBY := Lib.hid hby
  have HS7 := Lib.hid hs7
  clear f0 f1 f2 f3 f4 f5 f6 f7 f8 l0 hrx hb5 hrt5 hru5 hrp5 hw7 hb57 hby hs7 hgl hB0 hux CG HPR hcell hpl3 hpcc
  go_upto_region 9 with fail
  rw [← HW7.out, ← HB0.out]
  clear HW7 HB0
  have hbx9 : bix < okSize := by
    have := HP7.out.2.2.2.2.1
    obtain ⟨k', x, h', l', t', m', s', y, f⟩ := u
    obtain ⟨ab', nb', cb', ak', nk', ck', he, hok, -⟩ := this
    have h1 : (Value.int .u64 (bix : Int)) = .int .u64 (x : Int) := by
      have := congrArg (fun c : Array Value => c[1]!) he
      simpa [valCells] using this
    have h2 : bix = x := by
      have := (Value.int.inj h1).2
      omega
    have := hok.2.1
    omega
  obtain ⟨BY, hBY⟩ : ∃ b, b = bix ^^^ 1 := ⟨_, rfl⟩
  have hBY9 : BY < okSize := by rw [hBY]; exact Nat.xor_lt_two_pow (n := 64) hbx9 (by decide)
  have hxor : bits BinOp.xor IntKind.u64 (bix : Int) 1 = ((bix ^^^ 1 : Nat) : Int) := u64_xor_nat bix 1 hbx9 (by decide)
  have HBE := Lib.hid hBY
  clear hBY
  obtain ⟨y0, y1, y2, y3, y4, y5, y6, y7, y8, ly⟩ := HBY.out.nine
  have yf : w7.frozen? ⟨B0 + 1, 1, none⟩ = false := (HBY.out.2 1 (by omega)).2
  go_upto_region 10 with fail
  rw [← HBE.out]
  have hBY := HBE.out
  obtain ⟨w8, hw8⟩ : ∃ W, W = w7.setCell ⟨B0 + 1, 1, none⟩ (.int .u64 (BY : Nat)) := ⟨_, rfl⟩
  rw [← hw8]
  have hX8 : (fun k => k = B0 + 1) (B0 + 1) := rfl
  have hc8 : Chg (fun k => k = B0 + 1) w7 w8 := by rw [hw8]; exact Chg.setCell (Chg.refl _ _) (fun _ => hX8) _
  have HP8 : Hid (P1 w w8 g2 B0 B0 t u (valCells k bi hi lo text more sub ab nb cb ak nk ck) (valCells kx bix hix lox textx morex subx abx nbx cbx akx nkx ckx) ap p) := HP7.out.chg hc8 (by have := HG2.out; have := HGL.out; omega) (by omega) (fun k e => by have e' : k = B0 + 1 := e; omega) (by have := HGL.out; omega)
  have HY8 : Hid (BoxV w8 (B0 + 1) (valCells kx BY hix lox textx morex subx abx nbx cbx akx nkx ckx)) := by
    have := HBY.out.set 1 (.int .u64 (BY : Nat)) (by simp [valCells]) (by omega)
    show BoxV _ _ _
    rw [hw8]
    simpa [valCells] using this
  have hby8 := bits_rd (b' := BY) HP8.out.2.2.2.2.1 hBY9
  have HTY : Hid (RdT w8 (setB u BY) (valCells kx BY hix lox textx morex subx abx nbx cbx akx nkx ckx)) := hby8.1.rd
  have hD : diffT t (withT t p (setB u BY)) [] = some [p] := by
    rw [diff_with p t u (setB u BY) lu [] HGO.out, List.nil_append]
    exact diff_bits u BY p fun k' x h' l' t' m' s' y f e => by rw [hby8.2 _ _ _ _ _ _ _ _ _ e, hBY]; exact (xor_ne bix).symm
  have hs8 : w8.heap.size = B0 + 2 := by rw [hw8]; simp [World.setCell]; exact HS7.out
  have HS8 := Lib.hid hs8
  clear y0 y1 y2 y3 y4 y5 y6 y7 y8 ly yf hw8 hc8 hby8 HP7 HBY HS7 hs8 hX8 hxor HBE hbx9 hBY9
  have HD := Lib.hid hD
  clear hD hBY
  have CWY : Hid (∀ W, Below w8.heap.size w8 W → Calls Try.prog 32 #[.agg (valCells k bi hi lo text more sub ab nb cb ak nk ck), .slice ap np cp, .agg (valCells kx BY hix lox textx morex subx abx nbx cbx akx nkx ckx)] W fun e w' => ∃ c', e = .returned (.agg c') ∧ RdT w' (withT t p (setB u BY)) c' ∧ Below w8.heap.size w8 w') := by
    show ∀ W, _
    intro W hW
    refine (with_all p t (setB u BY) u lu HGO.out (by omega) W.heap.size W _ _ ap np cp (RdTS.of ((HP8.out.2.2.2.1.keep (KeepS.below hW)).rd)) (RdTS.of (HTY.out.keep hW)) (Nat.le_refl _) (((HP8.out.2.2.2.2.2.1).keep (KeepS.below hW)).imp fun _ _ _ => trivial) HNP.out.symm HPC.out.2 HPC.out.1).mono ?_
    rintro e w' ⟨c', rfl, h1, h2⟩
    exact ⟨c', rfl, h1.rd, bel4 hW h2⟩
  have CDY : Hid (∀ W, Below w8.heap.size w8 W → ∀ c', RdT W (withT t p (setB u BY)) c' → Calls Try.prog 29 #[.agg (valCells k bi hi lo text more sub ab nb cb ak nk ck), .agg c'] W fun e w' => ∃ a c S, e = .returned (.tuple #[.slice a 1 c, .bool true]) ∧ RdR S w' a [p] ∧ Below w8.heap.size w8 w') := by
    show ∀ W, _
    intro W hW c' hc'
    refine (diff_calls t (withT t p (setB u BY)) W _ _ ((HP8.out.2.2.2.1.keep (KeepS.below hW)).rd) hc' (by omega)).mono ?_
    rintro e w' ⟨a, n, cq, rfl, hn, -, hr, hb⟩
    rw [HD.out] at hn hr ⊢
    subst hn
    exact ⟨a, cq, _, rfl, hr, bel4 hW hb⟩
  have HKS : Hid (∀ W, Below w8.heap.size w8 W → Hid (Below w8.heap.size w8 W) ∧ W.cell? ⟨g2, 0, none⟩ = some (.int .i64 k) ∧ W.cell? ⟨g2, 1, none⟩ = some (.int .u64 (bi : Nat)) ∧ W.cell? ⟨g2, 2, none⟩ = some (.int .u64 (hi : Nat)) ∧ W.cell? ⟨g2, 3, none⟩ = some (.int .u64 (lo : Nat)) ∧ W.cell? ⟨g2, 4, none⟩ = some (.string text) ∧ W.cell? ⟨g2, 5, none⟩ = some (.string more) ∧ W.cell? ⟨g2, 6, none⟩ = some (.int .i64 sub) ∧ W.cell? ⟨g2, 7, none⟩ = some (.slice ab nb cb) ∧ W.cell? ⟨g2, 8, none⟩ = some (.slice ak nk ck) ∧ W.cell? ⟨(B0 + 1), 0, none⟩ = some (.int .i64 kx) ∧ W.cell? ⟨(B0 + 1), 1, none⟩ = some (.int .u64 (BY : Nat)) ∧ W.cell? ⟨(B0 + 1), 2, none⟩ = some (.int .u64 (hix : Nat)) ∧ W.cell? ⟨(B0 + 1), 3, none⟩ = some (.int .u64 (lox : Nat)) ∧ W.cell? ⟨(B0 + 1), 4, none⟩ = some (.string textx) ∧ W.cell? ⟨(B0 + 1), 5, none⟩ = some (.string morex) ∧ W.cell? ⟨(B0 + 1), 6, none⟩ = some (.int .i64 subx) ∧ W.cell? ⟨(B0 + 1), 7, none⟩ = some (.slice abx nbx cbx) ∧ W.cell? ⟨(B0 + 1), 8, none⟩ = some (.slice akx nkx ckx)) := by
    show ∀ W, _
    intro W hW
    obtain ⟨b10, b11, b12, b13, b14, b15, b16, b17, b18, -⟩ := (HP8.out.2.1.keep hW).nine
    obtain ⟨b20, b21, b22, b23, b24, b25, b26, b27, b28, -⟩ := (HY8.out.keep hW).nine
    exact ⟨hW, b10, b11, b12, b13, b14, b15, b16, b17, b18, b20, b21, b22, b23, b24, b25, b26, b27, b28⟩
  go_region_held3 (fun W => Hid (Below w8.heap.size w8 W) ∧ W.cell? ⟨g2, 0, none⟩ = some (.int .i64 k) ∧ W.cell? ⟨g2, 1, none⟩ = some (.int .u64 (bi : Nat)) ∧ W.cell? ⟨g2, 2, none⟩ = some (.int .u64 (hi : Nat)) ∧ W.cell? ⟨g2, 3, none⟩ = some (.int .u64 (lo : Nat)) ∧ W.cell? ⟨g2, 4, none⟩ = some (.string text) ∧ W.cell? ⟨g2, 5, none⟩ = some (.string more) ∧ W.cell? ⟨g2, 6, none⟩ = some (.int .i64 sub) ∧ W.cell? ⟨g2, 7, none⟩ = some (.slice ab nb cb) ∧ W.cell? ⟨g2, 8, none⟩ = some (.slice ak nk ck) ∧ W.cell? ⟨(B0 + 1), 0, none⟩ = some (.int .i64 kx) ∧ W.cell? ⟨(B0 + 1), 1, none⟩ = some (.int .u64 (BY : Nat)) ∧ W.cell? ⟨(B0 + 1), 2, none⟩ = some (.int .u64 (hix : Nat)) ∧ W.cell? ⟨(B0 + 1), 3, none⟩ = some (.int .u64 (lox : Nat)) ∧ W.cell? ⟨(B0 + 1), 4, none⟩ = some (.string textx) ∧ W.cell? ⟨(B0 + 1), 5, none⟩ = some (.string morex) ∧ W.cell? ⟨(B0 + 1), 6, none⟩ = some (.int .i64 subx) ∧ W.cell? ⟨(B0 + 1), 7, none⟩ = some (.slice abx nbx cbx) ∧ W.cell? ⟨(B0 + 1), 8, none⟩ = some (.slice akx nkx ckx)) (first | with_reducible exact HKS.out _ HB6.out | with_reducible exact HKS.out _ HB5.out | ((with_reducible refine HKS.out _ ?_); (repeat' (first | with_reducible apply Below.drew | with_reducible exact Below.refl _ _)); done) | fail) ((first | (go_at_call 32; (with_reducible refine (CWY.out _ ?_).mono ?_); (case _ => (repeat' (first | with_reducible apply Below.drew | with_reducible exact Below.refl _ _))); rintro e w5 ⟨c5, rfl, hr5, hb5⟩; (have HREC := Lib.hid (CDY.out _ hb5 _ hr5)); (have HB5 := Lib.hid hb5); clear hr5 hb5) | (go_at_call 29; (with_reducible refine HREC.out.mono ?_); rintro e w6 ⟨a6, c6, S6, rfl, hs6, hb6⟩; (have HSR6 := Lib.hid hs6); (have HB6 := Lib.hid hb6); clear hs6 hb6) | fail))
  go_upto_region 11 with fail
  have HP6 : Hid (P1 w w6 g2 B0 B0 t u (valCells k bi hi lo text more sub ab nb cb ak nk ck) (valCells kx bix hix lox textx morex subx abx nbx cbx akx nkx ckx) ap p) := HP8.out.next HB6.out (by have := HGL.out; omega)
  obtain ⟨wl, hwl⟩ : ∃ W, W = w6.alloc (.cells #[.slice ap np cp] 38) := ⟨_, rfl⟩
  have hbl : Below w6.heap.size w6 wl := by rw [hwl]; exact (Below.refl _ _).alloc (Nat.le_refl _) _
  obtain ⟨gl, hgl⟩ : ∃ g, g = w6.heap.size := ⟨_, rfl⟩
  have ho := OwnR.one (S := fun k => k < B0) (L := fun _ => True) (c := cp) HNP.out.symm HP6.out.2.2.2.2.2.1 HPC.out.1 HPC.out.2 (by omega) (fun k hk => ⟨trivial, Nat.lt_of_lt_of_le hk HP6.out.2.2.2.2.2.2⟩) (B := w6.heap.size) (Nat.le_refl _)
  rw [← hwl, ← hgl] at ho
  have HSP : Hid (Calls Try.prog 15 #[.slice a6 1 c6, .slice (some ⟨gl, 0, none⟩) 1 1] wl fun e w' => e = .returned (.bool true) ∧ ∃ n, wl.drewN n = w') := by
    obtain ⟨al, cl, e, hl1, hl2, hr⟩ := ho.rdr
    simp only [Value.slice.injEq, List.length_singleton] at e
    obtain ⟨rfl, -, rfl⟩ := e
    have := same_paths S6 _ a6 _ 1 1 c6 1 wl [p] [p] rfl rfl (by omega) (by omega) (HSR6.out.keep hbl) hr
    exact Lib.hid (by simpa using this)
  have HWL := Lib.hid hwl
  have HGL6 := Lib.hid hgl
  have HBL := Lib.hid hbl
  clear ho hwl hgl hbl HKS CWY CDY HREC HB5 HY8 HTY HSR6 HD HS8 HP8
  go_wp2_with fail
  rw [← HWL.out, ← HGL6.out]
  refine HSP.out.mono ?_
  rintro e w7' ⟨rfl, n7, rfl⟩
  obtain ⟨w9, hw9⟩ : ∃ W, W = wl.drewN n7 := ⟨_, rfl⟩
  rw [← hw9]
  have HP9 : Hid (P1 w w9 g2 B0 B0 t u (valCells k bi hi lo text more sub ab nb cb ak nk ck) (valCells kx bix hix lox textx morex subx abx nbx cbx akx nkx ckx) ap p) := HP6.out.next (by rw [hw9]; exact Below_drewN HBL.out) (by have := HGL.out; omega)
  clear hw9 HSP HWL HGL6 HBL HP6 HB6
  obtain ⟨x0, x1, x2, x3, x4, x5, x6, x7, x8, lx⟩ := HP9.out.2.2.1.nine
  obtain ⟨hkl, hks, hnm, hro⟩ := rdts_kids HP9.out.2.2.2.2.1
  have HRO := Lib.hid hro
  obtain ⟨y, hy⟩ : ∃ b, b = decide (nkx = 0) := ⟨_, rfl⟩
  cases y with
  | true =>
    obtain rfl : nkx = 0 := by simpa using hy
    clear hkl hks hnm hy hro
    go_wp2_with fail
    go_ret
    exact ⟨rfl, HP9.out.1⟩
  | false =>
  have hz : 0 < nkx := by have : ¬ nkx = 0 := by simpa using hy
                          omega
  clear hy hro
  obtain ⟨n1, v1, r1, hku⟩ : ∃ n v r, u.kids = .cons n v r := by
    cases hk : u.kids with
    | nil => rw [hk] at hkl; simp only [F.len] at hkl; omega
    | cons n v r => exact ⟨n, v, r, rfl⟩
  rw [hku] at hkl hks
  have hw1 : n1.size + r1.len ≤ 1200 := by
    have a1 : u.kids.wt + 1 ≤ u.wt := by cases u; simp only [T.kids, T.wt]; omega
    have a2 := F.len_wt r1
    rw [hku] at a1
    simp only [F.wt] at a1
    omega
  have HKU := Lib.hid hku
  have HKL := Lib.hid hkl
  have HKSX := Lib.hid hks
  have hr1 : r1.len + 1 = nkx := by simpa [F.len] using hkl
  have hn1 : n1.size ≤ 1200 := by omega
  have hnz : ((nkx : Int) == 0) = false := by simp; omega
  have hnk9 : nkx ≤ 1201 := by omega
  clear hku hkl hks hnm hw1 HUX
  go_upto_region 16 with fail
  obtain ⟨w10, hw10⟩ : ∃ W, W = w9.alloc (.cells (valCells kx bix hix lox textx morex subx abx nbx cbx akx nkx ckx) 26) := ⟨_, rfl⟩
  obtain ⟨gz, hgz⟩ : ∃ g, g = w9.heap.size := ⟨_, rfl⟩
  rw [← hw10, ← hgz]
  have hb10 : Below w9.heap.size w9 w10 := by rw [hw10]; exact (Below.refl _ _).alloc (Nat.le_refl _) _
  have hz10 : BoxV w10 gz (valCells kx bix hix lox textx morex subx abx nbx cbx akx nkx ckx) := by rw [hw10, hgz]; exact BoxV.new _ _ _
  have HP10 : Hid (P1 w w10 g2 B0 B0 t u (valCells k bi hi lo text more sub ab nb cb ak nk ck) (valCells kx bix hix lox textx morex subx abx nbx cbx akx nkx ckx) ap p) := HP9.out.next hb10 (by have := HGL.out; omega)
  have hBz : B0 + 1 ≤ gz := by have := x0; have := lx; omega
  have hgz10 : gz < w10.heap.size := hz10.nine.2.2.2.2.2.2.2.2.2
  have HSRC : Hid (∀ W, Below w10.heap.size w10 W → SrcK (fun k => k < B0) W (.slice akx nkx ckx) (.cons n1 v1 r1)) := by
    show ∀ W, _
    intro W hW
    have := SrcK.of ((HKSX.out.keep (KeepS.below hb10)).keep (KeepS.below hW)) (c := ckx) (by rw [HKL.out]; exact HRO.out)
    rwa [HKL.out] at this
  have HZ10 := Lib.hid hz10
  clear x0 x1 x2 x3 x4 x5 x6 x7 x8 lx hw10 hgz hb10 hz10 HP9 HKSX
  obtain ⟨x0, x1, x2, x3, x4, x5, x6, x7, x8, lx⟩ := HP10.out.2.2.1.nine
  go_wp2_with (at_builtin; refine wpList_appK (v := .slice (some ⟨w10.heap.size, 0, none⟩) 0 0) (f := .nil) (g := .cons n1 v1 r1) (B := w10.heap.size) (L := fun k => k < B0) (S1 := fun k => k < B0) (sv := .slice akx nkx ckx) (by rfl) _ _ (by rfl) (by rfl) (ownK_empty (heap_nw (by simp)) (by omega)) (by rfl) (HSRC.out _ ((Below.refl _ _).alloc (by simp) _)) (fun k hk => ⟨hk, fun e => by have e2 : w10.heap.size = k := Option.some.inj e; omega⟩) (by simp [F.len]; omega) (by simp) ?_)
  intro v5 w11 ho5 ha5
  have hsub5 : OwnK w11 w10.heap.size (fun k => k < B0) v5 (.cons n1 v1 r1) := ho5
  have hown5 : ∀ k, (Value.slice (some ⟨w10.heap.size, 0, none⟩) 0 0).ownBlock = some k → w10.heap.size ≤ k := fun k e => by have e2 : w10.heap.size = k := Option.some.inj e; omega
  have hb5 : Below w10.heap.size w10 w11 := ha5.below ((Below.refl w10.heap.size _).alloc (by simp) _) (by simp) hown5
  obtain ⟨g, cg, rfl, hg1, hg2, hg3, hg4⟩ := hsub5.new (by simp [F.len])
  rw [HKL.out] at hg3 hg4 hsub5 ⊢
  have HO11 := Lib.hid hsub5
  have HP11 : Hid (P1 w w11 g2 B0 B0 t u (valCells k bi hi lo text more sub ab nb cb ak nk ck) (valCells kx bix hix lox textx morex subx abx nbx cbx akx nkx ckx) ap p) := HP10.out.next hb5 (by have := HGL.out; omega)
  have HZ11 : Hid (BoxV w11 gz (valCells kx bix hix lox textx morex subx abx nbx cbx akx nkx ckx)) := HZ10.out.below hb5 hgz10
  have f8 : w11.frozen? ⟨gz, 8, none⟩ = false := (HZ11.out.2 8 (by omega)).2
  have z8 : w11.cell? ⟨gz, 8, none⟩ = some (.slice akx nkx ckx) := (HZ11.out.2 8 (by omega)).1
  clear ho5 ha5 hsub5 hown5 hb5 x0 x1 x2 x3 x4 x5 x6 x7 x8 lx HP10 HZ10 HSRC
  go_upto_region 17 with fail
  obtain ⟨w12, hw12⟩ : ∃ W, W = w11.setCell ⟨gz, 8, none⟩ (.slice (some ⟨g, 0, none⟩) nkx cg) := ⟨_, rfl⟩
  rw [← hw12]
  have hX12 : (fun k => k = gz) gz := rfl
  have hc12 : Chg (fun k => k = gz) w11 w12 := by rw [hw12]; exact Chg.setCell (Chg.refl _ _) (fun _ => hX12) _
  have HP12 : Hid (P1 w w12 g2 B0 B0 t u (valCells k bi hi lo text more sub ab nb cb ak nk ck) (valCells kx bix hix lox textx morex subx abx nbx cbx akx nkx ckx) ap p) := HP11.out.chg hc12 (by have := HG2.out; have := HGL.out; omega) (by omega) (fun k e => by have e' : k = gz := e; omega) (by have := HGL.out; omega)
  have HZ12 : Hid (BoxV w12 gz (valCells kx bix hix lox textx morex subx abx nbx cbx (some ⟨g, 0, none⟩) nkx cg)) := by
    have := HZ11.out.set 8 (.slice (some ⟨g, 0, none⟩) nkx cg) (by simp [valCells]) (by omega)
    show BoxV _ _ _
    rw [hw12]
    simpa [valCells] using this
  have ho12 : OwnK w12 w10.heap.size (fun k => k < B0) (.slice (some ⟨g, 0, none⟩) nkx cg) (.cons n1 v1 r1) := HO11.out.chg hc12 (fun k e => by have e2 : g = k := Option.some.inj e; omega) (fun k hk => by omega)
  have hg12 : g < w12.heap.size := by rw [hw12]; simpa [World.setCell] using hg2
  obtain ⟨c1, -, -, hnc, -, hfr⟩ := ho12.kid (i := 0) rfl
  have hnc : w12.cell? ⟨g, 0, none⟩ = some (.string n1) := by simpa using hnc
  have hfg : w12.frozen? ⟨g, 0, none⟩ = false := hfr 0
  have z8 : w12.cell? ⟨gz, 8, none⟩ = some (.slice (some ⟨g, 0, none⟩) nkx cg) := (HZ12.out.2 8 (by omega)).1
  have HO12 := Lib.hid ho12
  clear hw12 hX12 hc12 HP11 HZ11 HO11 ho12 hfr f8
  have hXg : (fun k => k = g) g := rfl
  have HSS : Hid (∀ W, Chg (fun k => k = g) w12 W → Hid (Chg (fun k => k = g) w12 W) ∧ W.cell? ⟨gz, 8, none⟩ = some (.slice (some ⟨g, 0, none⟩) nkx cg)) := by
    show ∀ W, _
    intro W hW
    exact ⟨hW, hW.cell (by dsimp only; omega) z8⟩
  have i0 : (0 : Int) < (nkx : Int) := by omega
  refine wp_region_held_drew (S := fun W => Hid (Chg (fun k => k = g) w12 W) ∧ W.cell? ⟨gz, 8, none⟩ = some (.slice (some ⟨g, 0, none⟩) nkx cg)) (by kernel_rfl) ?hSA (fun hHeld => ?restA)
  case hSA => exact HSS.out _ (Chg.refl _ _).drew
  refine wpAnyH_take (i := 0) (oi := _) (v := ?vv1) rfl (by kernel_rfl) (by kernel_rfl) (by kernel_rfl) (fun _ _ _ h => h) (Or.inl ⟨by rfl, ?hy1⟩) (by assumption) ?rest1
  case hy1 => (intro w hSw; (try dsimp only at hSw); go_simp; try with_reducible rfl)
  (try simp only [Act.put, List.setIfInBounds_toArray, List.set_cons_zero, List.set_cons_succ])
  refine wpAnyH_take (i := 1) (oi := _) (v := ?vv2) rfl (by kernel_rfl) (by kernel_rfl) (by kernel_rfl) (fun _ _ _ h => h) (Or.inl ⟨by rfl, ?hy2⟩) (by assumption) ?rest2
  case hy2 => (intro w hSw; (try dsimp only at hSw); go_simp; try with_reducible rfl)
  (try simp only [Act.put, List.setIfInBounds_toArray, List.set_cons_zero, List.set_cons_succ])
  refine wpAnyH_take (i := 2) (oi := _) (v := ?vv3) rfl (by kernel_rfl) (by kernel_rfl) (by kernel_rfl) (fun _ _ _ h => h) (Or.inl ⟨by rfl, ?hy3⟩) (by assumption) ?rest3
  case hy3 => (intro w hSw; (try dsimp only at hSw); go_simp; try with_reducible rfl)
  (try simp only [Act.put, List.setIfInBounds_toArray, List.set_cons_zero, List.set_cons_succ])
  refine wpAnyH_take (i := 3) (oi := _) (v := ?vv4) rfl (by kernel_rfl) (by kernel_rfl) (by kernel_rfl) (fun _ _ _ h => h) (Or.inl ⟨by rfl, ?hy4⟩) (by assumption) ?rest4
  case hy4 => (intro w hSw; (try dsimp only at hSw); go_simp; try with_reducible rfl)
  (try simp only [Act.put, List.setIfInBounds_toArray, List.set_cons_zero, List.set_cons_succ])
  refine wpAnyH_take (i := 4) (oi := _) (v := ?vv5) rfl (by kernel_rfl) (by kernel_rfl) (by kernel_rfl) (fun _ _ _ h => h) (Or.inl ⟨by rfl, ?hy5⟩) (by assumption) ?rest5
  case hy5 => (intro w hSw; (try dsimp only at hSw); go_simp; try with_reducible rfl)
  (try simp only [Act.put, List.setIfInBounds_toArray, List.set_cons_zero, List.set_cons_succ])
  refine wpAnyH_take (i := 5) (oi := _) (v := ?vv6) rfl (by kernel_rfl) (by kernel_rfl) (by kernel_rfl) (fun _ _ _ h => h) (Or.inl ⟨by rfl, ?hy6⟩) (by assumption) ?rest6
  case hy6 => (intro w hSw; (try dsimp only at hSw); go_simp; try with_reducible rfl)
  (try simp only [Act.put, List.setIfInBounds_toArray, List.set_cons_zero, List.set_cons_succ])
  refine wpAnyH_ready (rs := [6]) (by kernel_rfl) (by simp) ?_
  refine AllReadyH.cons (o := _) rfl (fun K hK => ?_) AllReadyH.nil
  go_simp
  refine hK.out _ _ ?hS7 (fun hHeld => ?rest7)
  case hS7 => (refine HSS.out _ ?_; (repeat' (first | with_reducible refine Chg.setCell ?_ (fun _ => hXg) _ | with_reducible apply Chg.drew | with_reducible exact Chg.refl _ _)))
  clear hK K
  (try simp only [Act.put, List.setIfInBounds_toArray, List.set_cons_zero, List.set_cons_succ])
  refine wpAnyH_take (i := 7) (oi := _) (v := ?vv8) rfl (by kernel_rfl) (by kernel_rfl) (by kernel_rfl) (fun _ _ _ h => h) (Or.inl ⟨by rfl, ?hy8⟩) (by assumption) ?rest8
  case hy8 => (intro w hSw; (try dsimp only at hSw); go_simp; (try rw [if_neg (by omega)]); try with_reducible rfl)
  (try simp only [Act.put, List.setIfInBounds_toArray, List.set_cons_zero, List.set_cons_succ])
  refine wpAnyH_take (i := 8) (oi := _) (v := ?vv9) rfl (by kernel_rfl) (by kernel_rfl) (by kernel_rfl) (fun _ _ _ h => h) (Or.inl ⟨by rfl, ?hy9⟩) (by assumption) ?rest9
  case hy9 => (intro w hSw; (try dsimp only at hSw); go_simp; try with_reducible rfl)
  (try simp only [Act.put, List.setIfInBounds_toArray, List.set_cons_zero, List.set_cons_succ])
  refine wpAnyH_take (i := 9) (oi := _) (v := ?vv10) rfl (by kernel_rfl) (by kernel_rfl) (by kernel_rfl) (fun _ _ _ h => h) (Or.inl ⟨by rfl, ?hy10⟩) (by assumption) ?rest10
  case hy10 => (intro w hSw; (try dsimp only at hSw); go_simp; try with_reducible rfl)
  (try simp only [Act.put, List.setIfInBounds_toArray, List.set_cons_zero, List.set_cons_succ])
  refine wpAnyH_ready (rs := [10]) (by kernel_rfl) (by simp) ?_
  refine AllReadyH.cons (o := _) rfl (fun K hK => ?_) AllReadyH.nil
  go_simp
  refine hK.out _ _ ?hS11 (fun hHeld => ?rest11)
  case hS11 => (refine HSS.out _ ?_; (repeat' (first | with_reducible refine Chg.setCell ?_ (fun _ => hXg) _ | with_reducible apply Chg.drew | with_reducible exact Chg.refl _ _)))
  clear hK K
  (try simp only [Act.put, List.setIfInBounds_toArray, List.set_cons_zero, List.set_cons_succ])
  refine wpAnyH_done (by kernel_rfl) ?_ _
  obtain ⟨n2, hn2⟩ : ∃ n, n = n1 ++ (⟨#[43]⟩ : ByteArray) := ⟨_, rfl⟩
  have hn2z : n2.size = n1.size + 1 := by rw [hn2, ByteArray.size_append]; rfl
  have hne : n1.toList ≠ n2.toList := by
    intro e
    have e2 := congrArg List.length e
    rw [bytes_len, bytes_len] at e2
    omega
  go_upto_region 18 with fail
  obtain ⟨w13, hw13⟩ : ∃ W, W = (w12.setCell ⟨g, 0, none⟩ (.string (n1 ++ (⟨#[43]⟩ : ByteArray)))).drew := ⟨_, rfl⟩
  rw [← hw13]
  have hc13 : Chg (fun k => k = g) w12 w13 := by rw [hw13]; exact (Chg.setCell (Chg.refl _ _) (fun _ => hXg) _).drew
  have hks13 : RdKsS (fun k => k < B0 ∨ k = g) w13 (some ⟨g, 0, none⟩) 0 (.cons n2 v1 r1) := by
    refine name_kidsS HO12.out (by omega) hc13 (fun k hk => .inl hk) (.inr rfl) (fun off ho => ?_) ?_
    · rw [hw13]
      exact World.cell?_setCell_other _ _ _ _ (by intro e; have := congrArg Addr.off e; simp only at this; omega)
    · rw [hw13, hn2]
      simp [go_sem, *]
  have HP13 : Hid (P1 w w13 g2 B0 B0 t u (valCells k bi hi lo text more sub ab nb cb ak nk ck) (valCells kx bix hix lox textx morex subx abx nbx cbx akx nkx ckx) ap p) := HP12.out.chg hc13 (by have := HG2.out; have := HGL.out; omega) (by omega) (fun k e => by have e' : k = g := e; omega) (by have := HGL.out; omega)
  have HZ13 : Hid (BoxV w13 gz (valCells kx bix hix lox textx morex subx abx nbx cbx (some ⟨g, 0, none⟩) nkx cg)) := HZ12.out.chg hc13 (by omega)
  have HTZ : Hid (RdT w13 (setK u (.cons n2 v1 r1)) (valCells kx bix hix lox textx morex subx abx nbx cbx (some ⟨g, 0, none⟩) nkx cg)) := kids_rd HP13.out.2.2.2.2.1 (by simp only [F.len]; omega) hg4 ⟨by simp, hg3⟩ hks13 (fun k hk => .inl hk)
  have HDZ : Hid (diffT t (withT t p (setK u (.cons n2 v1 r1))) [] = none) := by
    show diffT _ _ _ = none
    rw [diff_with p t u _ lu [] HGO.out]
    exact diff_name u n1 n2 v1 r1 _ HKU.out hne
  clear hn2 hne hw13 hc13 hks13 HP12 HZ12 HO12 HSS hXg i0 hHeld hnc z8 hfg hn2z hz
  have CWYz : Hid (∀ W, Below w13.heap.size w13 W → Calls Try.prog 32 #[.agg (valCells k bi hi lo text more sub ab nb cb ak nk ck), .slice ap np cp, .agg (valCells kx bix hix lox textx morex subx abx nbx cbx (some ⟨g, 0, none⟩) nkx cg)] W fun e w' => ∃ c', e = .returned (.agg c') ∧ RdT w' (withT t p (setK u (.cons n2 v1 r1))) c' ∧ Below w13.heap.size w13 w') := by
    show ∀ W, _
    intro W hW
    refine (with_all p t (setK u (.cons n2 v1 r1)) u lu HGO.out (by omega) W.heap.size W _ _ ap np cp (RdTS.of ((HP13.out.2.2.2.1.keep (KeepS.below hW)).rd)) (RdTS.of (HTZ.out.keep hW)) (Nat.le_refl _) (((HP13.out.2.2.2.2.2.1).keep (KeepS.below hW)).imp fun _ _ _ => trivial) HNP.out.symm HPC.out.2 HPC.out.1).mono ?_
    rintro e w' ⟨c', rfl, h1, h2⟩
    exact ⟨c', rfl, h1.rd, bel4 hW h2⟩
  have CDYz : Hid (∀ W, Below w13.heap.size w13 W → ∀ c', RdT W (withT t p (setK u (.cons n2 v1 r1))) c' → Calls Try.prog 29 #[.agg (valCells k bi hi lo text more sub ab nb cb ak nk ck), .agg c'] W fun e w' => ∃ a c, e = .returned (.tuple #[.slice a 0 c, .bool false]) ∧ Below w13.heap.size w13 w') := by
    show ∀ W, _
    intro W hW c' hc'
    refine (diff_calls t (withT t p (setK u (.cons n2 v1 r1))) W _ _ ((HP13.out.2.2.2.1.keep (KeepS.below hW)).rd) hc' (by omega)).mono ?_
    rintro e w' ⟨a, n, cq, rfl, hn, -, hr, hb⟩
    rw [HDZ.out] at hn hr ⊢
    subst hn
    exact ⟨a, cq, rfl, bel4 hW hb⟩
  have HKSz : Hid (∀ W, Below w13.heap.size w13 W → Hid (Below w13.heap.size w13 W) ∧ W.cell? ⟨g2, 0, none⟩ = some (.int .i64 k) ∧ W.cell? ⟨g2, 1, none⟩ = some (.int .u64 (bi : Nat)) ∧ W.cell? ⟨g2, 2, none⟩ = some (.int .u64 (hi : Nat)) ∧ W.cell? ⟨g2, 3, none⟩ = some (.int .u64 (lo : Nat)) ∧ W.cell? ⟨g2, 4, none⟩ = some (.string text) ∧ W.cell? ⟨g2, 5, none⟩ = some (.string more) ∧ W.cell? ⟨g2, 6, none⟩ = some (.int .i64 sub) ∧ W.cell? ⟨g2, 7, none⟩ = some (.slice ab nb cb) ∧ W.cell? ⟨g2, 8, none⟩ = some (.slice ak nk ck) ∧ W.cell? ⟨gz, 0, none⟩ = some (.int .i64 kx) ∧ W.cell? ⟨gz, 1, none⟩ = some (.int .u64 (bix : Nat)) ∧ W.cell? ⟨gz, 2, none⟩ = some (.int .u64 (hix : Nat)) ∧ W.cell? ⟨gz, 3, none⟩ = some (.int .u64 (lox : Nat)) ∧ W.cell? ⟨gz, 4, none⟩ = some (.string textx) ∧ W.cell? ⟨gz, 5, none⟩ = some (.string morex) ∧ W.cell? ⟨gz, 6, none⟩ = some (.int .i64 subx) ∧ W.cell? ⟨gz, 7, none⟩ = some (.slice abx nbx cbx) ∧ W.cell? ⟨gz, 8, none⟩ = some (.slice (some ⟨g, 0, none⟩) nkx cg)) := by
    show ∀ W, _
    intro W hW
    obtain ⟨b10, b11, b12, b13, b14, b15, b16, b17, b18, -⟩ := (HP13.out.2.1.keep hW).nine
    obtain ⟨b20, b21, b22, b23, b24, b25, b26, b27, b28, -⟩ := (HZ13.out.keep hW).nine
    exact ⟨hW, b10, b11, b12, b13, b14, b15, b16, b17, b18, b20, b21, b22, b23, b24, b25, b26, b27, b28⟩
  go_region_held3 (fun W => Hid (Below w13.heap.size w13 W) ∧ W.cell? ⟨g2, 0, none⟩ = some (.int .i64 k) ∧ W.cell? ⟨g2, 1, none⟩ = some (.int .u64 (bi : Nat)) ∧ W.cell? ⟨g2, 2, none⟩ = some (.int .u64 (hi : Nat)) ∧ W.cell? ⟨g2, 3, none⟩ = some (.int .u64 (lo : Nat)) ∧ W.cell? ⟨g2, 4, none⟩ = some (.string text) ∧ W.cell? ⟨g2, 5, none⟩ = some (.string more) ∧ W.cell? ⟨g2, 6, none⟩ = some (.int .i64 sub) ∧ W.cell? ⟨g2, 7, none⟩ = some (.slice ab nb cb) ∧ W.cell? ⟨g2, 8, none⟩ = some (.slice ak nk ck) ∧ W.cell? ⟨gz, 0, none⟩ = some (.int .i64 kx) ∧ W.cell? ⟨gz, 1, none⟩ = some (.int .u64 (bix : Nat)) ∧ W.cell? ⟨gz, 2, none⟩ = some (.int .u64 (hix : Nat)) ∧ W.cell? ⟨gz, 3, none⟩ = some (.int .u64 (lox : Nat)) ∧ W.cell? ⟨gz, 4, none⟩ = some (.string textx) ∧ W.cell? ⟨gz, 5, none⟩ = some (.string morex) ∧ W.cell? ⟨gz, 6, none⟩ = some (.int .i64 subx) ∧ W.cell? ⟨gz, 7, none⟩ = some (.slice abx nbx cbx) ∧ W.cell? ⟨gz, 8, none⟩ = some (.slice (some ⟨g, 0, none⟩) nkx cg)) (first | with_reducible exact HKSz.out _ HB6z.out | with_reducible exact HKSz.out _ HB5z.out | ((with_reducible refine HKSz.out _ ?_); (repeat' (first | with_reducible apply Below.drew | with_reducible exact Below.refl _ _)); done) | fail) ((first | (go_at_call 32; (with_reducible refine (CWYz.out _ ?_).mono ?_); (case _ => (repeat' (first | with_reducible apply Below.drew | with_reducible exact Below.refl _ _))); rintro e w5z ⟨c5z, rfl, hr5, hb5⟩; (have HRECz := Lib.hid (CDYz.out _ hb5 _ hr5)); (have HB5z := Lib.hid hb5); clear hr5 hb5) | (go_at_call 29; (with_reducible refine HRECz.out.mono ?_); rintro e w6z ⟨a6z, c6z, rfl, hb6⟩;  (have HB6z := Lib.hid hb6); clear hb6) | fail))
  go_upto_region 19 with fail
  have HP14 : Hid (P1 w w6z g2 B0 B0 t u (valCells k bi hi lo text more sub ab nb cb ak nk ck) (valCells kx bix hix lox textx morex subx abx nbx cbx akx nkx ckx) ap p) := HP13.out.next HB6z.out (by have := HGL.out; omega)
  clear HKSz CWYz CDYz HRECz HB5z HZ13 HTZ HDZ HP13 HB6z
  obtain ⟨x0, x1, x2, x3, x4, x5, x6, x7, x8, lx⟩ := HP14.out.2.2.1.nine
  go_upto_region 20 with fail
  obtain ⟨w15, hw15⟩ : ∃ W, W = w6z.alloc (.cells (valCells kx bix hix lox textx morex subx abx nbx cbx akx nkx ckx) 26) := ⟨_, rfl⟩
  obtain ⟨gw, hgw⟩ : ∃ g, g = w6z.heap.size := ⟨_, rfl⟩
  rw [← hw15, ← hgw]
  have hb15 : Below w6z.heap.size w6z w15 := by rw [hw15]; exact (Below.refl _ _).alloc (Nat.le_refl _) _
  have HW15 : Hid (BoxV w15 gw (valCells kx bix hix lox textx morex subx abx nbx cbx akx nkx ckx)) := by show BoxV _ _ _; rw [hw15, hgw]; exact BoxV.new _ _ _
  have HP15 : Hid (P1 w w15 g2 B0 B0 t u (valCells k bi hi lo text more sub ab nb cb ak nk ck) (valCells kx bix hix lox textx morex subx abx nbx cbx akx nkx ckx) ap p) := HP14.out.next hb15 (by have := HGL.out; omega)
  have hBw : B0 + 1 ≤ gw := by omega
  have f8 : w15.frozen? ⟨gw, 8, none⟩ = false := (HW15.out.2 8 (by omega)).2
  have z8 : w15.cell? ⟨gw, 8, none⟩ = some (.slice akx nkx ckx) := (HW15.out.2 8 (by omega)).1
  clear x0 x1 x2 x3 x4 x5 x6 x7 x8 lx hw15 hgw hb15 HP14
  obtain ⟨-, hks, -, hro⟩ := rdts_kids HP15.out.2.2.2.2.1
  rw [HKU.out] at hks
  obtain ⟨⟨bk, ok, ck1, rfl, -⟩, hkr⟩ := hks
  obtain ⟨nq, rfl⟩ : ∃ nq, nkx = nq + 1 := ⟨nkx - 1, by omega⟩
  obtain ⟨cq, rfl⟩ : ∃ cq, ckx = cq + 1 := ⟨ckx - 1, by have := hro.2; omega⟩
  have hncq : nq ≤ cq := by have := hro.2; omega
  obtain ⟨x0, x1, x2, x3, x4, x5, x6, x7, x8, lx⟩ := HP15.out.2.2.1.nine
  have hsl : (1 : Int) ≤ (nq : Int) + 1 := by omega
  have hr0 : r1.len = nq := by omega
  have HKR := Lib.hid hkr
  clear hro hkr HRO HKL hr1 hnz hg3 hg4
  by_cases hq0 : cq = 0
  · subst hq0
    obtain rfl : nq = 0 := by omega
    go_upto_region 21 with fail
    obtain ⟨w16, hw16⟩ : ∃ W, W = w15.setCell ⟨gw, 8, none⟩ (.slice (some ⟨bk, ok, none⟩) 0 0) := ⟨_, rfl⟩
    rw [← hw16]
    have hX16 : (fun k => k = gw) gw := rfl
    have hc16 : Chg (fun k => k = gw) w15 w16 := by rw [hw16]; exact Chg.setCell (Chg.refl _ _) (fun _ => hX16) _
    have HP16 : Hid (P1 w w16 g2 B0 B0 t u (valCells k bi hi lo text more sub ab nb cb ak nk ck) (valCells kx bix hix lox textx morex subx abx nbx cbx (some ⟨bk, ok, none⟩) (0 + 1) (0 + 1)) ap p) := HP15.out.chg hc16 (by have := HG2.out; have := HGL.out; omega) (by omega) (fun k e => by have e' : k = gw := e; omega) (by have := HGL.out; omega)
    have HW16 : Hid (BoxV w16 gw (valCells kx bix hix lox textx morex subx abx nbx cbx (some ⟨bk, ok, none⟩) 0 0)) := by
      have := HW15.out.set 8 (.slice (some ⟨bk, ok, none⟩) 0 0) (by simp [valCells]) (by omega)
      show BoxV _ _ _
      rw [hw16]
      simpa [valCells] using this
    have hkw : RdKsS (fun k => k < B0) w16 (some ⟨bk, ok, none⟩) 0 r1 := by
      have := HKR.out.keep (KeepS.chg hc16 fun k hk e => by have e' : k = gw := e; omega)
      cases r1 with
      | nil => trivial
      | cons n v r => simp only [F.len] at hr0; omega
    have HTW : Hid (RdT w16 (setK u r1) (valCells kx bix hix lox textx morex subx abx nbx cbx (some ⟨bk, ok, none⟩) 0 0)) := kids_rd HP16.out.2.2.2.2.1 hr0 (by omega) ⟨by simp, by omega⟩ hkw (fun k hk => hk)
    have HDW : Hid (diffT t (withT t p (setK u r1)) [] = none) := by
      show diffT _ _ _ = none
      rw [diff_with p t u _ lu [] HGO.out]
      exact diff_less u n1 v1 r1 _ HKU.out
    clear hw16 hX16 hc16 hkw HP15 HW15 HKR f8 z8 x0 x1 x2 x3 x4 x5 x6 x7 x8 lx hsl
    have CWYw : Hid (∀ W, Below w16.heap.size w16 W → Calls Try.prog 32 #[.agg (valCells k bi hi lo text more sub ab nb cb ak nk ck), .slice ap np cp, .agg (valCells kx bix hix lox textx morex subx abx nbx cbx (some ⟨bk, ok, none⟩) 0 0)] W fun e w' => ∃ c', e = .returned (.agg c') ∧ RdT w' (withT t p (setK u r1)) c' ∧ Below w16.heap.size w16 w') := by
      show ∀ W, _
      intro W hW
      refine (with_all p t (setK u r1) u lu HGO.out (by omega) W.heap.size W _ _ ap np cp (RdTS.of ((HP16.out.2.2.2.1.keep (KeepS.below hW)).rd)) (RdTS.of (HTW.out.keep hW)) (Nat.le_refl _) (((HP16.out.2.2.2.2.2.1).keep (KeepS.below hW)).imp fun _ _ _ => trivial) HNP.out.symm HPC.out.2 HPC.out.1).mono ?_
      rintro e w' ⟨c', rfl, h1, h2⟩
      exact ⟨c', rfl, h1.rd, bel4 hW h2⟩
    have CDYw : Hid (∀ W, Below w16.heap.size w16 W → ∀ c', RdT W (withT t p (setK u r1)) c' → Calls Try.prog 29 #[.agg (valCells k bi hi lo text more sub ab nb cb ak nk ck), .agg c'] W fun e w' => ∃ a c, e = .returned (.tuple #[.slice a 0 c, .bool false]) ∧ Below w16.heap.size w16 w') := by
      show ∀ W, _
      intro W hW c' hc'
      refine (diff_calls t (withT t p (setK u r1)) W _ _ ((HP16.out.2.2.2.1.keep (KeepS.below hW)).rd) hc' (by omega)).mono ?_
      rintro e w' ⟨a, n, cq, rfl, hn, -, hr, hb⟩
      rw [HDW.out] at hn hr ⊢
      subst hn
      exact ⟨a, cq, rfl, bel4 hW hb⟩
    have HKSw : Hid (∀ W, Below w16.heap.size w16 W → Hid (Below w16.heap.size w16 W) ∧ W.cell? ⟨g2, 0, none⟩ = some (.int .i64 k) ∧ W.cell? ⟨g2, 1, none⟩ = some (.int .u64 (bi : Nat)) ∧ W.cell? ⟨g2, 2, none⟩ = some (.int .u64 (hi : Nat)) ∧ W.cell? ⟨g2, 3, none⟩ = some (.int .u64 (lo : Nat)) ∧ W.cell? ⟨g2, 4, none⟩ = some (.string text) ∧ W.cell? ⟨g2, 5, none⟩ = some (.string more) ∧ W.cell? ⟨g2, 6, none⟩ = some (.int .i64 sub) ∧ W.cell? ⟨g2, 7, none⟩ = some (.slice ab nb cb) ∧ W.cell? ⟨g2, 8, none⟩ = some (.slice ak nk ck) ∧ W.cell? ⟨gw, 0, none⟩ = some (.int .i64 kx) ∧ W.cell? ⟨gw, 1, none⟩ = some (.int .u64 (bix : Nat)) ∧ W.cell? ⟨gw, 2, none⟩ = some (.int .u64 (hix : Nat)) ∧ W.cell? ⟨gw, 3, none⟩ = some (.int .u64 (lox : Nat)) ∧ W.cell? ⟨gw, 4, none⟩ = some (.string textx) ∧ W.cell? ⟨gw, 5, none⟩ = some (.string morex) ∧ W.cell? ⟨gw, 6, none⟩ = some (.int .i64 subx) ∧ W.cell? ⟨gw, 7, none⟩ = some (.slice abx nbx cbx) ∧ W.cell? ⟨gw, 8, none⟩ = some (.slice (some ⟨bk, ok, none⟩) 0 0)) := by
      show ∀ W, _
      intro W hW
      obtain ⟨b10, b11, b12, b13, b14, b15, b16, b17, b18, -⟩ := (HP16.out.2.1.keep hW).nine
      obtain ⟨b20, b21, b22, b23, b24, b25, b26, b27, b28, -⟩ := (HW16.out.keep hW).nine
      exact ⟨hW, b10, b11, b12, b13, b14, b15, b16, b17, b18, b20, b21, b22, b23, b24, b25, b26, b27, b28⟩
    go_region_held3 (fun W => Hid (Below w16.heap.size w16 W) ∧ W.cell? ⟨g2, 0, none⟩ = some (.int .i64 k) ∧ W.cell? ⟨g2, 1, none⟩ = some (.int .u64 (bi : Nat)) ∧ W.cell? ⟨g2, 2, none⟩ = some (.int .u64 (hi : Nat)) ∧ W.cell? ⟨g2, 3, none⟩ = some (.int .u64 (lo : Nat)) ∧ W.cell? ⟨g2, 4, none⟩ = some (.string text) ∧ W.cell? ⟨g2, 5, none⟩ = some (.string more) ∧ W.cell? ⟨g2, 6, none⟩ = some (.int .i64 sub) ∧ W.cell? ⟨g2, 7, none⟩ = some (.slice ab nb cb) ∧ W.cell? ⟨g2, 8, none⟩ = some (.slice ak nk ck) ∧ W.cell? ⟨gw, 0, none⟩ = some (.int .i64 kx) ∧ W.cell? ⟨gw, 1, none⟩ = some (.int .u64 (bix : Nat)) ∧ W.cell? ⟨gw, 2, none⟩ = some (.int .u64 (hix : Nat)) ∧ W.cell? ⟨gw, 3, none⟩ = some (.int .u64 (lox : Nat)) ∧ W.cell? ⟨gw, 4, none⟩ = some (.string textx) ∧ W.cell? ⟨gw, 5, none⟩ = some (.string morex) ∧ W.cell? ⟨gw, 6, none⟩ = some (.int .i64 subx) ∧ W.cell? ⟨gw, 7, none⟩ = some (.slice abx nbx cbx) ∧ W.cell? ⟨gw, 8, none⟩ = some (.slice (some ⟨bk, ok, none⟩) 0 0)) (first | with_reducible exact HKSw.out _ HB6w.out | with_reducible exact HKSw.out _ HB5w.out | ((with_reducible refine HKSw.out _ ?_); (repeat' (first | with_reducible apply Below.drew | with_reducible exact Below.refl _ _)); done) | fail) ((first | (go_at_call 32; (with_reducible refine (CWYw.out _ ?_).mono ?_); (case _ => (repeat' (first | with_reducible apply Below.drew | with_reducible exact Below.refl _ _))); rintro e w5w ⟨c5w, rfl, hr5, hb5⟩; (have HRECw := Lib.hid (CDYw.out _ hb5 _ hr5)); (have HB5w := Lib.hid hb5); clear hr5 hb5) | (go_at_call 29; (with_reducible refine HRECw.out.mono ?_); rintro e w6w ⟨a6w, c6w, rfl, hb6⟩;  (have HB6w := Lib.hid hb6); clear hb6) | fail))
    have HEND : Hid (Below w.heap.size w w6w) := (HP16.out.next HB6w.out (by have := HGL.out; omega)).1
    clear HKSw CWYw CDYw HRECw HB5w HW16 HTW HDW HP16 HB6w
    go_wp2_with fail
    go_ret
    exact ⟨rfl, HEND.out⟩
  · have hcq : ¬ (cq : Int) = 0 := by omega
    go_upto_region 21 with fail
    obtain ⟨w16, hw16⟩ : ∃ W, W = w15.setCell ⟨gw, 8, none⟩ (.slice (some ⟨bk, ok + 10, none⟩) nq cq) := ⟨_, rfl⟩
    rw [← hw16]
    have hX16 : (fun k => k = gw) gw := rfl
    have hc16 : Chg (fun k => k = gw) w15 w16 := by rw [hw16]; exact Chg.setCell (Chg.refl _ _) (fun _ => hX16) _
    have HP16 : Hid (P1 w w16 g2 B0 B0 t u (valCells k bi hi lo text more sub ab nb cb ak nk ck) (valCells kx bix hix lox textx morex subx abx nbx cbx (some ⟨bk, ok, none⟩) (nq + 1) (cq + 1)) ap p) := HP15.out.chg hc16 (by have := HG2.out; have := HGL.out; omega) (by omega) (fun k e => by have e' : k = gw := e; omega) (by have := HGL.out; omega)
    have HW16 : Hid (BoxV w16 gw (valCells kx bix hix lox textx morex subx abx nbx cbx (some ⟨bk, ok + 10, none⟩) nq cq)) := by
      have := HW15.out.set 8 (.slice (some ⟨bk, ok + 10, none⟩) nq cq) (by simp [valCells]) (by omega)
      show BoxV _ _ _
      rw [hw16]
      simpa [valCells] using this
    have hkw : RdKsS (fun k => k < B0) w16 (some ⟨bk, ok + 10, none⟩) 0 r1 := by
      have := HKR.out.keep (KeepS.chg hc16 fun k hk e => by have e' : k = gw := e; omega)
      exact shift_kids this
    have HTW : Hid (RdT w16 (setK u r1) (valCells kx bix hix lox textx morex subx abx nbx cbx (some ⟨bk, ok + 10, none⟩) nq cq)) := kids_rd HP16.out.2.2.2.2.1 hr0 (by omega) ⟨by simp, by omega⟩ hkw (fun k hk => hk)
    have HDW : Hid (diffT t (withT t p (setK u r1)) [] = none) := by
      show diffT _ _ _ = none
      rw [diff_with p t u _ lu [] HGO.out]
      exact diff_less u n1 v1 r1 _ HKU.out
    clear hw16 hX16 hc16 hkw HP15 HW15 HKR f8 z8 x0 x1 x2 x3 x4 x5 x6 x7 x8 lx hsl
    have CWYw : Hid (∀ W, Below w16.heap.size w16 W → Calls Try.prog 32 #[.agg (valCells k bi hi lo text more sub ab nb cb ak nk ck), .slice ap np cp, .agg (valCells kx bix hix lox textx morex subx abx nbx cbx (some ⟨bk, ok + 10, none⟩) nq cq)] W fun e w' => ∃ c', e = .returned (.agg c') ∧ RdT w' (withT t p (setK u r1)) c' ∧ Below w16.heap.size w16 w') := by
      show ∀ W, _
      intro W hW
      refine (with_all p t (setK u r1) u lu HGO.out (by omega) W.heap.size W _ _ ap np cp (RdTS.of ((HP16.out.2.2.2.1.keep (KeepS.below hW)).rd)) (RdTS.of (HTW.out.keep hW)) (Nat.le_refl _) (((HP16.out.2.2.2.2.2.1).keep (KeepS.below hW)).imp fun _ _ _ => trivial) HNP.out.symm HPC.out.2 HPC.out.1).mono ?_
      rintro e w' ⟨c', rfl, h1, h2⟩
      exact ⟨c', rfl, h1.rd, bel4 hW h2⟩
    have CDYw : Hid (∀ W, Below w16.heap.size w16 W → ∀ c', RdT W (withT t p (setK u r1)) c' → Calls Try.prog 29 #[.agg (valCells k bi hi lo text more sub ab nb cb ak nk ck), .agg c'] W fun e w' => ∃ a c, e = .returned (.tuple #[.slice a 0 c, .bool false]) ∧ Below w16.heap.size w16 w') := by
      show ∀ W, _
      intro W hW c' hc'
      refine (diff_calls t (withT t p (setK u r1)) W _ _ ((HP16.out.2.2.2.1.keep (KeepS.below hW)).rd) hc' (by omega)).mono ?_
      rintro e w' ⟨a, n, cq, rfl, hn, -, hr, hb⟩
      rw [HDW.out] at hn hr ⊢
      subst hn
      exact ⟨a, cq, rfl, bel4 hW hb⟩
    have HKSw : Hid (∀ W, Below w16.heap.size w16 W → Hid (Below w16.heap.size w16 W) ∧ W.cell? ⟨g2, 0, none⟩ = some (.int .i64 k) ∧ W.cell? ⟨g2, 1, none⟩ = some (.int .u64 (bi : Nat)) ∧ W.cell? ⟨g2, 2, none⟩ = some (.int .u64 (hi : Nat)) ∧ W.cell? ⟨g2, 3, none⟩ = some (.int .u64 (lo : Nat)) ∧ W.cell? ⟨g2, 4, none⟩ = some (.string text) ∧ W.cell? ⟨g2, 5, none⟩ = some (.string more) ∧ W.cell? ⟨g2, 6, none⟩ = some (.int .i64 sub) ∧ W.cell? ⟨g2, 7, none⟩ = some (.slice ab nb cb) ∧ W.cell? ⟨g2, 8, none⟩ = some (.slice ak nk ck) ∧ W.cell? ⟨gw, 0, none⟩ = some (.int .i64 kx) ∧ W.cell? ⟨gw, 1, none⟩ = some (.int .u64 (bix : Nat)) ∧ W.cell? ⟨gw, 2, none⟩ = some (.int .u64 (hix : Nat)) ∧ W.cell? ⟨gw, 3, none⟩ = some (.int .u64 (lox : Nat)) ∧ W.cell? ⟨gw, 4, none⟩ = some (.string textx) ∧ W.cell? ⟨gw, 5, none⟩ = some (.string morex) ∧ W.cell? ⟨gw, 6, none⟩ = some (.int .i64 subx) ∧ W.cell? ⟨gw, 7, none⟩ = some (.slice abx nbx cbx) ∧ W.cell? ⟨gw, 8, none⟩ = some (.slice (some ⟨bk, ok + 10, none⟩) nq cq)) := by
      show ∀ W, _
      intro W hW
      obtain ⟨b10, b11, b12, b13, b14, b15, b16, b17, b18, -⟩ := (HP16.out.2.1.keep hW).nine
      obtain ⟨b20, b21, b22, b23, b24, b25, b26, b27, b28, -⟩ := (HW16.out.keep hW).nine
      exact ⟨hW, b10, b11, b12, b13, b14, b15, b16, b17, b18, b20, b21, b22, b23, b24, b25, b26, b27, b28⟩
    go_region_held3 (fun W => Hid (Below w16.heap.size w16 W) ∧ W.cell? ⟨g2, 0, none⟩ = some (.int .i64 k) ∧ W.cell? ⟨g2, 1, none⟩ = some (.int .u64 (bi : Nat)) ∧ W.cell? ⟨g2, 2, none⟩ = some (.int .u64 (hi : Nat)) ∧ W.cell? ⟨g2, 3, none⟩ = some (.int .u64 (lo : Nat)) ∧ W.cell? ⟨g2, 4, none⟩ = some (.string text) ∧ W.cell? ⟨g2, 5, none⟩ = some (.string more) ∧ W.cell? ⟨g2, 6, none⟩ = some (.int .i64 sub) ∧ W.cell? ⟨g2, 7, none⟩ = some (.slice ab nb cb) ∧ W.cell? ⟨g2, 8, none⟩ = some (.slice ak nk ck) ∧ W.cell? ⟨gw, 0, none⟩ = some (.int .i64 kx) ∧ W.cell? ⟨gw, 1, none⟩ = some (.int .u64 (bix : Nat)) ∧ W.cell? ⟨gw, 2, none⟩ = some (.int .u64 (hix : Nat)) ∧ W.cell? ⟨gw, 3, none⟩ = some (.int .u64 (lox : Nat)) ∧ W.cell? ⟨gw, 4, none⟩ = some (.string textx) ∧ W.cell? ⟨gw, 5, none⟩ = some (.string morex) ∧ W.cell? ⟨gw, 6, none⟩ = some (.int .i64 subx) ∧ W.cell? ⟨gw, 7, none⟩ = some (.slice abx nbx cbx) ∧ W.cell? ⟨gw, 8, none⟩ = some (.slice (some ⟨bk, ok + 10, none⟩) nq cq)) (first | with_reducible exact HKSw.out _ HB6w.out | with_reducible exact HKSw.out _ HB5w.out | ((with_reducible refine HKSw.out _ ?_); (repeat' (first | with_reducible apply Below.drew | with_reducible exact Below.refl _ _)); done) | fail) ((first | (go_at_call 32; (with_reducible refine (CWYw.out _ ?_).mono ?_); (case _ => (repeat' (first | with_reducible apply Below.drew | with_reducible exact Below.refl _ _))); rintro e w5w ⟨c5w, rfl, hr5, hb5⟩; (have HRECw := Lib.hid (CDYw.out _ hb5 _ hr5)); (have HB5w := Lib.hid hb5); clear hr5 hb5) | (go_at_call 29; (with_reducible refine HRECw.out.mono ?_); rintro e w6w ⟨a6w, c6w, rfl, hb6⟩;  (have HB6w := Lib.hid hb6); clear hb6) | fail))
    have HEND : Hid (Below w.heap.size w w6w) := (HP16.out.next HB6w.out (by have := HGL.out; omega)).1
    clear HKSw CWYw CDYw HRECw HB5w HW16 HTW HDW HP16 HB6w
    go_wp2_with fail
    go_ret
    exact ⟨rfl, HEND.out⟩

end Go.Proofs.Ytiodjhcjfbnocaa
