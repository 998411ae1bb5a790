/- PathAll: the walk. -/
import Derived.Test.YtiodjhcjfbnocaaPaK
import Derived.Test.YtiodjhcjfbnocaaPaH
import Derived.Test.YtiodjhcjfbnocaaPaO
import Derived.Deep.CutRange
namespace Go.Proofs.Ytiodjhcjfbnocaa
open Go.RowKit
set_option linter.unusedVariables false
set_option linter.unusedSimpArgs false

theorem goT_len : ∀ (p : List Int) (t x : T) (l : List ByteArray), goT t p = some (x, l) → p.length + x.wt ≤ t.wt
  | [], t, x, l, h => by
    simp only [goT, Option.some.injEq, Prod.mk.injEq] at h
    rw [h.1]; simp
  | i :: p, t, x, l, h => by
    simp only [goT] at h
    cases h1 : t.kids.at? i with
    | none => rw [h1] at h; simp at h
    | some y =>
      obtain ⟨n, u⟩ := y
      rw [h1] at h
      simp only at h
      cases h2 : goT u p with
      | none => rw [h2] at h; simp at h
      | some z =>
        obtain ⟨x', l'⟩ := z
        rw [h2] at h
        simp only [Option.some.injEq, Prod.mk.injEq] at h
        have h3 := goT_len p u x' l' h2
        rw [h.1] at h3
        unfold F.at? at h1
        split at h1
        · simp at h1
        · have h4 := F.wt_get t.kids _ n u h1
          have h5 : t.kids.wt + 1 ≤ t.wt := by cases t; simp only [T.kids, T.wt]; omega
          simp only [List.length_cons]
          omega

/-- Each of all paths leads to a value, and one number more to none. -/
theorem all_leads (t : T) (j : Nat) (h : j < (allT t []).length) : ∃ K : Nat, (goT t (pAt (allT t []) j)).isSome = true ∧ (goX t (pAt (allT t []) j)).kids.len = K ∧ (goT t (pAt (allT t []) j ++ [(K : Int)])).isSome = false ∧ (pAt (allT t []) j).length ≤ t.wt ∧ K ≤ t.wt := by
  have hm : pAt (allT t []) j ∈ allT t [] := by
    unfold pAt
    rw [List.getD_eq_getElem?_getD, List.getElem?_eq_getElem h]
    exact List.getElem_mem h
  obtain ⟨x, m, hx⟩ := allT_goes t t [] [] (by simp [goT]) _ hm
  have hl := goT_len _ _ _ _ hx
  have he := goT_end _ _ _ _ hx
  refine ⟨x.kids.len, by rw [hx]; rfl, by unfold goX; rw [hx], by rw [he]; rfl, by omega, ?_⟩
  have h4 := F.len_wt x.kids
  have h5 : x.kids.wt ≤ x.wt := by cases x; simp only [T.kids, T.wt]; omega
  omega

theorem RdT.kidslen {W : World} {t : T} {k : Int} {bits hi lo : Nat} {text more : ByteArray} {sub : Int} {ab : Option Addr} {nb cb : Nat} {ak : Option Addr} {nk ck : Nat} (h : RdT W t (valCells k bits hi lo text more sub ab nb cb ak nk ck)) : t.kids.len = nk := by
  obtain ⟨k', bits', hi', lo', text', more', sub', bs', kids'⟩ := t
  obtain ⟨ab', nb', cb', ak', nk', ck', he, -, -, hkl, -⟩ := h
  simp [valCells] at he
  simp only [T.kids]
  omega

theorem heap_new_at {w : World} {o : Obj} {i : Nat} (h : i = w.heap.size) : (w.alloc o).heap[i]? = some o := by subst h; exact heap_alloc_new w o
theorem heap_old_at {w : World} {o x : Obj} {i : Nat} (h : i < w.heap.size) (hx : w.heap[i]? = some x) : (w.alloc o).heap[i]? = some x := (heap_alloc_old w o h).trans hx
theorem heap_drew_at {w : World} {x : Obj} {i : Nat} (hx : w.heap[i]? = some x) : w.drew.heap[i]? = some x := hx

/-- A value's cells before anything is laid there. -/
def ValZ (w : World) (g : Nat) : Prop := w.cell? ⟨g, 0, none⟩ = some (.int .i64 0) ∧ w.cell? ⟨g, 1, none⟩ = some (.int .u64 0) ∧ w.cell? ⟨g, 2, none⟩ = some (.int .u64 0) ∧ w.cell? ⟨g, 3, none⟩ = some (.int .u64 0) ∧ w.cell? ⟨g, 4, none⟩ = some (.string { data := #[] }) ∧ w.cell? ⟨g, 5, none⟩ = some (.string { data := #[] }) ∧ w.cell? ⟨g, 6, none⟩ = some (.int .i64 0) ∧ w.cell? ⟨g, 7, none⟩ = some (.slice none 0 0) ∧ w.cell? ⟨g, 8, none⟩ = some (.slice none 0 0) ∧ w.frozen? ⟨g, 0, none⟩ = false ∧ w.frozen? ⟨g, 1, none⟩ = false ∧ w.frozen? ⟨g, 2, none⟩ = false ∧ w.frozen? ⟨g, 3, none⟩ = false ∧ w.frozen? ⟨g, 4, none⟩ = false ∧ w.frozen? ⟨g, 5, none⟩ = false ∧ w.frozen? ⟨g, 6, none⟩ = false ∧ w.frozen? ⟨g, 7, none⟩ = false ∧ w.frozen? ⟨g, 8, none⟩ = false
theorem ValZ.keep {w w' : World} {g : Nat} (hb : Below w.heap.size w w') (hg : g < w.heap.size) (h : ValZ w g) : ValZ w' g := by
  obtain ⟨h0, h1, h2, h3, h4, h5, h6, h7, h8, f0, f1, f2, f3, f4, f5, f6, f7, f8⟩ := h
  refine ⟨cell_below hb h0, cell_below hb h1, cell_below hb h2, cell_below hb h3, cell_below hb h4, cell_below hb h5, cell_below hb h6, cell_below hb h7, cell_below hb h8, ?_, ?_, ?_, ?_, ?_, ?_, ?_, ?_, ?_⟩
  all_goals (rw [hb.frozen hg]; assumption)
theorem Chg.frozen {S : Nat → Prop} {a b : World} (h : Chg S a b) {p : Addr} (hp : ¬ S p.block) (hl : p.block < a.heap.size) : b.frozen? p = a.frozen? p := World.frozen?_of_block (w := a) (h.block p.block hl hp)
theorem ValZ.app {w w' : World} {v v' : Value} {g : Nat} (ha : AppF w w' v v') (hg : g < w.heap.size) (hv : v.ownBlock ≠ some g) (h : ValZ w g) : ValZ w' g ∧ g < w'.heap.size ∧ v'.ownBlock ≠ some g := by
  obtain ⟨h0, h1, h2, h3, h4, h5, h6, h7, h8, f0, f1, f2, f3, f4, f5, f6, f7, f8⟩ := h
  refine ⟨⟨ha.cell h0 (by exact hv), ha.cell h1 (by exact hv), ha.cell h2 (by exact hv), ha.cell h3 (by exact hv), ha.cell h4 (by exact hv), ha.cell h5 (by exact hv), ha.cell h6 (by exact hv), ha.cell h7 (by exact hv), ha.cell h8 (by exact hv), ?_, ?_, ?_, ?_, ?_, ?_, ?_, ?_, ?_⟩, by have := ha.size; omega, ha.far hv hg⟩
  all_goals (rw [ha.chg.frozen (by exact hv) (by exact hg)]; assumption)
theorem ValZ.app2 {w5 W w6 : World} {a5 : Option Addr} {m n c5 g : Nat} {v' : Value} (hb : Below w5.heap.size w5 W) (ha : AppF W w6 (.slice a5 n c5) v') (h : ValZ w5 g ∧ g < w5.heap.size ∧ (Value.slice a5 m c5).ownBlock ≠ some g) : ValZ w6 g ∧ g < w6.heap.size ∧ v'.ownBlock ≠ some g :=
  ValZ.app ha (Nat.lt_of_lt_of_le h.2.1 hb.size) (by cases a5 <;> exact h.2.2) (h.1.keep hb h.2.1)
theorem after_val {X w' : World} (hb : Below X.heap.size X w') (g : Nat) : g < X.heap.size → ValZ X g → (ValZ w' g ∧ g < w'.heap.size) := fun hg h => ⟨h.keep hb hg, by have := hb.size; omega⟩
theorem app_cut {w w' : World} {v v' : Value} (ha : AppF w w' v v') (g : Nat) (u : Value) {G : Prop} (hne : v.ownBlock ≠ some g) (hc : w.cell? ⟨g, 0, none⟩ = some u) (k : w'.cell? ⟨g, 0, none⟩ = some u → G) : G := k (ha.cell hc (by exact hne))
theorem val_cut {A B C G : Prop} (h : A → B → C) (a : A) (b : B) (k : C → G) : G := k (h a b)

/-- Behind 'x, ok := Get(v, l[i])'. -/
def GotRel (wr : World) (K : Nat) (p5 p6 : Value) (W : World) : Prop :=
  ∃ (g : Nat) (ak : Option Addr) (ck : Nat), p5 = .pointer (some ⟨g, 0, none⟩) ∧ p6 = .bool true ∧ W.cell? ⟨g, 8, none⟩ = some (.slice ak K ck) ∧ Below wr.heap.size wr W

/-- What the loop reads, in each world above. -/
def Held (wr : World) (t : T) (c : Array Value) (g b o : Nat) (q : List Int) (a2 : Option Addr) (n2 c2 : Nat) : Prop :=
  ∀ W, Below wr.heap.size wr W → BoxV W g c ∧ RdT W t c ∧ W.cell? ⟨b, o, none⟩ = some (.slice a2 n2 c2) ∧ RdPS (fun _ => True) W a2 q

def AllLoop (w0 wr : World) (N : Nat) (i : Value) : Prop := ∃ j : Nat, i = .int .i64 j ∧ j ≤ N ∧ Below w0.heap.size w0 wr

set_option maxRecDepth 100000 in
set_option maxHeartbeats 32000000 in
theorem PathAll_walk (w : World) (c : Array Value) (t : T) (h : RdT w t c) :
    Calls Try.prog 4 #[.agg c] w fun e w' => e = .returned (.bool true) ∧ Below w.heap.size w w' := by
  have CA := fun W => Lib.hid (awake18 W)
  obtain ⟨k, bits, hi, lo, text, more, sub, ab, nb, cb, ak, nk, ck, rfl⟩ := h.shape
  have S0 := Lib.hid (St.new (a := none) (p := []) h (rdps_nil _ w) 26)
  have CS := fun W (h : RdT W t (valCells k bits hi lo text more sub ab nb cb ak nk ck)) => Lib.hid (small_calls t W _ h)
  obtain ⟨sm, hsm⟩ : ∃ s, s = smallT t := ⟨_, rfl⟩
  rw [← hsm] at CS
  have HSM := Lib.hid hsm
  clear h hsm
  cases sm with
  | false =>
    go_enter Try.func4, Try.ntmps4
    go_wp2_with fail
    refine (CA _).out.mono ?_
    rintro e w1 ⟨rfl, hb1⟩
    have S1 := Lib.hid (S0.out.next hb1)
    obtain ⟨f0, f1, f2, f3, f4, f5, f6, f7, f8, l0⟩ := S1.out.2.1.nine
    clear hb1
    go_wp2_with fail
    refine (CS _ S1.out.2.2.1).out.mono ?_
    rintro e w2 ⟨rfl, hb2⟩
    have S2 := Lib.hid (S1.out.next hb2)
    clear f0 f1 f2 f3 f4 f5 f6 f7 f8 l0
    obtain ⟨f0, f1, f2, f3, f4, f5, f6, f7, f8, l0⟩ := S2.out.2.1.nine
    clear hb2
    go_wp2_with fail
    go_ret
    exact ⟨rfl, S2.out.1⟩
  | true =>
  have hw := small_wt HSM.out.symm
  have CG := Lib.hid (fun W (h : RdT W t (valCells k bits hi lo text more sub ab nb cb ak nk ck)) a p n cap (hp : RdPS (fun _ => True) W a p) (hn : p.length = n) (hb : n ≤ 100000) => get_calls t W _ h a p n cap _ hp hn (by omega) (by omega))
  have CL := fun W (h : RdT W t (valCells k bits hi lo text more sub ab nb cb ak nk ck)) => Lib.hid (all_calls t W _ h (by omega))
  have CR := fun W (h : RdT W t (valCells k bits hi lo text more sub ab nb cb ak nk ck)) => Lib.hid (rallt_calls t W _ h (by omega))
  have CC := fun W (h : RdT W t (valCells k bits hi lo text more sub ab nb cb ak nk ck)) => Lib.hid (rcnt_all t.wt t (Nat.le_refl _) W _ h (by omega))
  have HLD := Lib.hid (fun j h => all_leads t j h)
  have hct := countT_wt t
  have hfl := allT_len t []
  obtain ⟨N, hN⟩ : ∃ N, N = countT t := ⟨_, rfl⟩
  obtain ⟨f, hf⟩ : ∃ f, f = allT t [] := ⟨_, rfl⟩
  rw [← hN] at CC hct hfl
  rw [← hf] at CL CR HLD hfl
  have HFL := Lib.hid hfl
  have hN2 : N ≤ 1200 := by omega
  have enn : ((N : Int) != (N : Int)) = false := by simp
  have HW := Lib.hid hw
  clear hct hw hN hf hfl
  go_enter Try.func4, Try.ntmps4
  go_wp2_with fail
  refine (CA _).out.mono ?_
  rintro e w1 ⟨rfl, hb1⟩
  have S1 := Lib.hid (S0.out.next hb1)
  obtain ⟨f0, f1, f2, f3, f4, f5, f6, f7, f8, l0⟩ := S1.out.2.1.nine
  clear hb1
  go_wp2_with fail
  refine (CS _ S1.out.2.2.1).out.mono ?_
  rintro e w2 ⟨rfl, hb2⟩
  have S2 := Lib.hid (S1.out.next hb2)
  clear f0 f1 f2 f3 f4 f5 f6 f7 f8 l0
  obtain ⟨f0, f1, f2, f3, f4, f5, f6, f7, f8, l0⟩ := S2.out.2.1.nine
  clear hb2
  go_wp2_with fail
  refine (CL _ S2.out.2.2.1).out.mono ?_
  rintro e w3 ⟨v3, rfl, ho3, hb3⟩
  obtain ⟨a3, c3, rfl, hl3, hc3, hr3⟩ := ho3.rdr
  rw [HFL.out] at hl3 ⊢
  have S3 := Lib.hid (S2.out.next hb3)
  have R3 := Lib.hid hr3
  clear f0 f1 f2 f3 f4 f5 f6 f7 f8 l0 ho3 hb3 hr3
  obtain ⟨f0, f1, f2, f3, f4, f5, f6, f7, f8, l0⟩ := S3.out.2.1.nine
  go_wp2_with fail
  refine (CR _ S3.out.2.2.1).out.mono ?_
  rintro e w4 ⟨v4, rfl, ho4, hb4⟩
  obtain ⟨a4, c4, rfl, hl4, hc4, hr4⟩ := ho4.rdr
  rw [HFL.out] at hl4 ⊢
  have S4 := Lib.hid (S3.out.next hb4)
  have R4 := Lib.hid hr4
  have R3a := Lib.hid (R3.out.keep hb4)
  clear f0 f1 f2 f3 f4 f5 f6 f7 f8 l0 ho4 hb4 hr4
  obtain ⟨f0, f1, f2, f3, f4, f5, f6, f7, f8, l0⟩ := S4.out.2.1.nine
  have CP := Lib.hid (same_paths _ _ a3 a4 N N c3 c4 w4 f f HFL.out HFL.out hl3 hl4 R3a.out R4.out)
  rw [decide_eq_true (rfl : f = f)] at CP
  go_wp2_with fail
  refine CP.out.mono ?_
  rintro e w5 ⟨rfl, n5, rfl⟩
  have hb5 : Below w4.heap.size w4 (w4.drewN n5) := below_drewN _ _ _
  have S5 := Lib.hid (S4.out.next hb5)
  have R5 := Lib.hid (R3a.out.keep hb5)
  clear f0 f1 f2 f3 f4 f5 f6 f7 f8 l0 hb5 CP
  obtain ⟨f0, f1, f2, f3, f4, f5, f6, f7, f8, l0⟩ := S5.out.2.1.nine
  go_wp2_with fail
  refine (CC _ S5.out.2.2.1).out.mono ?_
  rintro e w6 ⟨rfl, hb6⟩
  have S6 := Lib.hid (S5.out.next hb6)
  have R6 := Lib.hid (R5.out.keep hb6)
  clear f0 f1 f2 f3 f4 f5 f6 f7 f8 l0 hb6
  go_wp2_with fail
  go_loopw [4] (fun i wr => AllLoop w6 wr N i) (fun i _ => N - (intOf i).toNat)
  case atStart => exact ⟨0, rfl, Nat.zero_le _, Below.refl _ _⟩
  case round =>
    obtain ⟨j, rfl, hj, hbw⟩ := hrel
    have HBW := Lib.hid hbw
    clear hbw
    by_cases hlt : j < N
    · have S7 := Lib.hid (S6.out.next HBW.out)
      obtain ⟨b, o, aq, cq, rfl, d0, rq, kq, hcq, hlq⟩ := (R6.out.keep HBW.out).at j (by rw [HFL.out]; exact hlt)
      obtain ⟨K, e1, e2, e3, e4, e5⟩ := HLD.out j (by rw [HFL.out]; exact hlt)
      have hw := HW.out
      have hK : K ≤ 1200 := by omega
      have hqn : (pAt f j).length ≤ 1200 := by omega
      have HH : Hid (Held wr t (valCells k bits hi lo text more sub ab nb cb ak nk ck) w.heap.size b (o + j) (pAt f j) aq (pAt f j).length cq) := by
        show Held ..
        intro W hW
        exact ⟨S7.out.2.1.keep hW, S7.out.2.2.1.keep hW, cell_below hW d0, (rq.imp (fun _ _ _ => trivial)).keep (KeepS.below hW)⟩
      obtain ⟨q, hq⟩ : ∃ q, q = pAt f j := ⟨_, rfl⟩
      rw [← hq] at HH d0 e1 e2 e3 hqn
      obtain ⟨n, hn⟩ : ∃ n, n = q.length := ⟨_, rfl⟩
      rw [← hn] at HH d0 hqn
      have CG1 := fun W (hW : Below wr.heap.size wr W) => Lib.hid (CG.out W (HH.out W hW).2.1 aq q n cq (HH.out W hW).2.2.2 hn.symm (by omega))
      rw [e1] at CG1
      have E2 := Lib.hid e2
      have E3 := Lib.hid e3
      have HN := Lib.hid hn
      have HCQ := Lib.hid hcq
      have hj1 : (j : Int) < (N : Int) := by omega
      have hj0 : (0 : Int) ≤ (j : Int) := by omega
      clear rq kq hcq hlq e1 e2 e3 e4 e5 hq hn hw
      obtain ⟨f0, f1, f2, f3, f4, f5, f6, f7, f8, l0⟩ := S7.out.2.1.nine
      have HSS : Hid (∀ W, Below wr.heap.size wr W → Hid (Below wr.heap.size wr W) ∧ W.cell? ⟨w.heap.size, 0, none⟩ = some (.int .i64 k) ∧ W.cell? ⟨w.heap.size, 1, none⟩ = some (.int .u64 (bits : Nat)) ∧ W.cell? ⟨w.heap.size, 2, none⟩ = some (.int .u64 (hi : Nat)) ∧ W.cell? ⟨w.heap.size, 3, none⟩ = some (.int .u64 (lo : Nat)) ∧ W.cell? ⟨w.heap.size, 4, none⟩ = some (.string text) ∧ W.cell? ⟨w.heap.size, 5, none⟩ = some (.string more) ∧ W.cell? ⟨w.heap.size, 6, none⟩ = some (.int .i64 sub) ∧ W.cell? ⟨w.heap.size, 7, none⟩ = some (.slice ab nb cb) ∧ W.cell? ⟨w.heap.size, 8, none⟩ = some (.slice ak nk ck) ∧ W.cell? ⟨b, o + j, none⟩ = some (.slice aq n cq)) := by
        show ∀ W, _
        intro W hW
        have hn := (HH.out W hW).1.nine
        exact ⟨hW, hn.1, hn.2.1, hn.2.2.1, hn.2.2.2.1, hn.2.2.2.2.1, hn.2.2.2.2.2.1, hn.2.2.2.2.2.2.1, hn.2.2.2.2.2.2.2.1, hn.2.2.2.2.2.2.2.2.1, (HH.out W hW).2.2.1⟩
      go_upto_region 11 with fail
      go_cut [5, 6] from 28 to 63 (fun p5 p6 W => GotRel wr K p5 p6 W)
      case first =>
        go_region_held3 (fun W => Hid (Below wr.heap.size wr W) ∧ W.cell? ⟨w.heap.size, 0, none⟩ = some (.int .i64 k) ∧ W.cell? ⟨w.heap.size, 1, none⟩ = some (.int .u64 (bits : Nat)) ∧ W.cell? ⟨w.heap.size, 2, none⟩ = some (.int .u64 (hi : Nat)) ∧ W.cell? ⟨w.heap.size, 3, none⟩ = some (.int .u64 (lo : Nat)) ∧ W.cell? ⟨w.heap.size, 4, none⟩ = some (.string text) ∧ W.cell? ⟨w.heap.size, 5, none⟩ = some (.string more) ∧ W.cell? ⟨w.heap.size, 6, none⟩ = some (.int .i64 sub) ∧ W.cell? ⟨w.heap.size, 7, none⟩ = some (.slice ab nb cb) ∧ W.cell? ⟨w.heap.size, 8, none⟩ = some (.slice ak nk ck) ∧ W.cell? ⟨b, o + j, none⟩ = some (.slice aq n cq)) (first | with_reducible exact HSS.out _ HB7.out | ((with_reducible refine HSS.out _ ?_); (repeat' (first | with_reducible exact HB7.out | with_reducible refine Below.setCell ?_ (by first | omega | (simp; done) | (simp; omega)) _ | with_reducible refine Below.alloc ?_ (by first | omega | (simp; done) | (simp; omega)) _ | with_reducible apply Below.drew | with_reducible exact Below.refl _ _)); done) | fail) ((go_at_call 18; refine (CG1 _ ?_).out.mono ?_; (case _ => (repeat' (first | with_reducible exact Below.refl _ _ | with_reducible apply Below.drew | with_reducible refine Below.alloc ?_ (by first | omega | (simp; done) | (simp; omega)) _))); rintro e w7 ⟨c7, rfl, hr7, hb7⟩; (have HB7 : Hid (Below wr.heap.size wr w7) := (by refine Below.trans ?_ (hb7.mono ?_); (case _ => (repeat' (first | with_reducible exact Below.refl _ _ | with_reducible apply Below.drew | with_reducible refine Below.alloc ?_ (by first | omega | (simp; done) | (simp; omega)) _))); (case _ => first | exact Nat.le_refl _ | (simp; done) | (simp; omega)))); (have hs7 := HB7.out.size); obtain ⟨k7, bits7, hi7, lo7, text7, more7, sub7, ab7, nb7, cb7, ak7, nk7, ck7, rfl⟩ := hr7.rd.shape; (have e7 := hr7.rd.kidslen); rw [E2.out] at e7; subst e7; (try (refine val_cut (after_val hb7 wr.heap.size) ?_ ?_ (fun tz => ?_); (case _ => (first | (simp; done) | (simp; omega))); (case _ => (refine ⟨?_, ?_, ?_, ?_, ?_, ?_, ?_, ?_, ?_, ?_, ?_, ?_, ?_, ?_, ?_, ?_, ?_, ?_⟩ <;> (simp [go_sem]; done))); (obtain ⟨⟨_, _, _, _, _, _, _, _, _, _, _, _, _, _, _, _, _, _⟩, _⟩ := tz)))))
        all_goals
          go_wp2_with fail
          go_meet
          case rel => exact ⟨_, ak7, ck7, rfl, rfl, by first | (simp [go_sem]; done) | (simp [go_sem, *]; done), (‹Hid (Below _ _ _) ∧ _›).1.out⟩
      case rest =>
        obtain ⟨g, akx, ckx, rfl, rfl, hgx, hbx⟩ := hcut
        have HGX := Lib.hid hgx
        have HBX := Lib.hid hbx
        have hnc : w.heap.size < wc.heap.size := by have := hbx.size; omega
        have hql : q.length ≤ 1200 := by rw [← HN.out]; exact hqn
        have HSQ : Hid (∀ W, Below wc.heap.size wc W → Src W (.slice aq n cq) q.length 1 (intCells q)) := by
          show ∀ W, _
          intro W hW
          have h1 := ((HH.out wc HBX.out).2.2.2.keep (KeepS.below hW)).src HCQ.out
          rw [← HN.out] at h1 ⊢
          exact h1
        have HSS2 : Hid (∀ W, Below wc.heap.size wc W → Hid (Below wc.heap.size wc W) ∧ W.cell? ⟨w.heap.size, 0, none⟩ = some (.int .i64 k) ∧ W.cell? ⟨w.heap.size, 1, none⟩ = some (.int .u64 (bits : Nat)) ∧ W.cell? ⟨w.heap.size, 2, none⟩ = some (.int .u64 (hi : Nat)) ∧ W.cell? ⟨w.heap.size, 3, none⟩ = some (.int .u64 (lo : Nat)) ∧ W.cell? ⟨w.heap.size, 4, none⟩ = some (.string text) ∧ W.cell? ⟨w.heap.size, 5, none⟩ = some (.string more) ∧ W.cell? ⟨w.heap.size, 6, none⟩ = some (.int .i64 sub) ∧ W.cell? ⟨w.heap.size, 7, none⟩ = some (.slice ab nb cb) ∧ W.cell? ⟨w.heap.size, 8, none⟩ = some (.slice ak nk ck) ∧ W.cell? ⟨b, o + j, none⟩ = some (.slice aq n cq) ∧ W.cell? ⟨g, 8, none⟩ = some (.slice akx K ckx)) := by
          show ∀ W, _
          intro W hW
          have hn := (HH.out W (HBX.out.trans (hW.mono HBX.out.size))).1.nine
          exact ⟨hW, hn.1, hn.2.1, hn.2.2.1, hn.2.2.2.1, hn.2.2.2.2.1, hn.2.2.2.2.2.1, hn.2.2.2.2.2.2.1, hn.2.2.2.2.2.2.2.1, hn.2.2.2.2.2.2.2.2.1, (HH.out W (HBX.out.trans (hW.mono HBX.out.size))).2.2.1, cell_below hW HGX.out⟩
        obtain ⟨y0, y1, y2, y3, y4, y5, y6, y7, y8, y9, y10⟩ := (HSS2.out wc (Below.refl _ _)).2
        have hgg : g < wc.heap.size := cell_block hgx
        clear hgx hbx HSS S7 f0 f1 f2 f3 f4 f5 f6 f7 f8 l0 d0 CG1
        go_wp2_with fail
        go_region_held3 (fun W => Hid (Below wc.heap.size wc W) ∧ W.cell? ⟨w.heap.size, 0, none⟩ = some (.int .i64 k) ∧ W.cell? ⟨w.heap.size, 1, none⟩ = some (.int .u64 (bits : Nat)) ∧ W.cell? ⟨w.heap.size, 2, none⟩ = some (.int .u64 (hi : Nat)) ∧ W.cell? ⟨w.heap.size, 3, none⟩ = some (.int .u64 (lo : Nat)) ∧ W.cell? ⟨w.heap.size, 4, none⟩ = some (.string text) ∧ W.cell? ⟨w.heap.size, 5, none⟩ = some (.string more) ∧ W.cell? ⟨w.heap.size, 6, none⟩ = some (.int .i64 sub) ∧ W.cell? ⟨w.heap.size, 7, none⟩ = some (.slice ab nb cb) ∧ W.cell? ⟨w.heap.size, 8, none⟩ = some (.slice ak nk ck) ∧ W.cell? ⟨b, o + j, none⟩ = some (.slice aq n cq) ∧ W.cell? ⟨g, 8, none⟩ = some (.slice akx K ckx)) (first | with_reducible exact HSS2.out _ HB7.out | with_reducible exact HSS2.out _ HB6.out | with_reducible exact HSS2.out _ HB5.out | ((with_reducible refine HSS2.out _ ?_); (first | ((repeat' (first | with_reducible exact HB7.out | with_reducible refine Below.setCell ?_ (by first | omega | (simp; done) | (simp; omega)) _ | with_reducible refine Below.alloc ?_ (by first | omega | (simp; done) | (simp; omega)) _ | with_reducible apply Below.drew | with_reducible exact Below.refl _ _)); done) | ((repeat' (first | with_reducible exact HB6.out | with_reducible refine Below.setCell ?_ (by first | omega | (simp; done) | (simp; omega)) _ | with_reducible refine Below.alloc ?_ (by first | omega | (simp; done) | (simp; omega)) _ | with_reducible apply Below.drew | with_reducible exact Below.refl _ _)); done) | ((repeat' (first | with_reducible exact HB5.out | with_reducible refine Below.setCell ?_ (by first | omega | (simp; done) | (simp; omega)) _ | with_reducible refine Below.alloc ?_ (by first | omega | (simp; done) | (simp; omega)) _ | with_reducible apply Below.drew | with_reducible exact Below.refl _ _)); done) | ((repeat' (first | with_reducible refine Below.setCell ?_ (by first | omega | (simp; done) | (simp; omega)) _ | with_reducible refine Below.alloc ?_ (by first | omega | (simp; done) | (simp; omega)) _ | with_reducible apply Below.drew | with_reducible exact Below.refl _ _)); done)); done) | fail) ((first | (refine step_appI (v := .slice (some ⟨wc.heap.size, 0, none⟩) 0 0) (xs := []) (sv := .slice aq n cq) (l := q) (B := wc.heap.size) (by rfl) _ _ (by rfl) (by rfl) (ownI_empty (by (repeat' (first | with_reducible exact heap_new_at (by simp; done) | with_reducible refine heap_old_at (by first | (simp; done) | (simp; omega)) ?_ | with_reducible refine heap_drew_at ?_))) (by omega)) (by rfl) (HSQ.out _ ?_) (by simp; omega) (by first | exact Nat.le_refl _ | (simp; done) | (simp; omega) | omega) ?_; (case _ => (repeat' (first | with_reducible refine Below.setCell ?_ (by first | omega | (simp; done) | (simp; omega)) _ | with_reducible refine Below.alloc ?_ (by first | omega | (simp; done) | (simp; omega)) _ | with_reducible apply Below.drew | with_reducible exact Below.refl _ _))); intro v5 w5 ho5 ha5; (have ho5 : OwnI w5 wc.heap.size v5 q := ho5); (have HB5 : Hid (Below wc.heap.size wc w5) := (by refine ha5.below ?_ ?_ (fun k hk => ?_); (case _ => (repeat' (first | with_reducible refine Below.setCell ?_ (by first | omega | (simp; done) | (simp; omega)) _ | with_reducible refine Below.alloc ?_ (by first | omega | (simp; done) | (simp; omega)) _ | with_reducible apply Below.drew | with_reducible exact Below.refl _ _))); (case _ => first | exact Nat.le_refl _ | (simp; done) | (simp; omega)); (case _ => (have hk2 : wc.heap.size = k := Option.some.inj hk); omega))); (have hs5 := HB5.out.size); (try (refine app_cut ha5 (wc.heap.size + 1) (.int .i64 (K : Nat)) (fun e => ?_) ?_ (fun z54 => ?_); (case _ => (have e2 : wc.heap.size = (wc.heap.size + 1) := Option.some.inj e); omega); (case _ => (simp [go_sem]; done)))); (try (refine app_cut ha5 (wc.heap.size + 1 + 1) (.int .i64 (K : Nat)) (fun e => ?_) ?_ (fun z54 => ?_); (case _ => (have e2 : wc.heap.size = (wc.heap.size + 1 + 1) := Option.some.inj e); omega); (case _ => (simp [go_sem]; done)))); (try (refine val_cut (fun h1 h2 => ValZ.app (g := (wc.heap.size + 1)) ha5 h1 (fun e => by have e2 : wc.heap.size = (wc.heap.size + 1) := Option.some.inj e; omega) h2) ?_ ?_ (fun tz => ?_); (case _ => (first | (simp; done) | (simp; omega))); (case _ => (refine ⟨?_, ?_, ?_, ?_, ?_, ?_, ?_, ?_, ?_, ?_, ?_, ?_, ?_, ?_, ?_, ?_, ?_, ?_⟩ <;> (simp [go_sem]; done))); (have VZ5 := Lib.hid tz))); (try (refine val_cut (fun h1 h2 => ValZ.app (g := (wc.heap.size + 1 + 1)) ha5 h1 (fun e => by have e2 : wc.heap.size = (wc.heap.size + 1 + 1) := Option.some.inj e; omega) h2) ?_ ?_ (fun tz => ?_); (case _ => (first | (simp; done) | (simp; omega))); (case _ => (refine ⟨?_, ?_, ?_, ?_, ?_, ?_, ?_, ?_, ?_, ?_, ?_, ?_, ?_, ?_, ?_, ?_, ?_, ?_⟩ <;> (simp [go_sem]; done))); (have VZ5 := Lib.hid tz))); obtain ⟨a5, c5, hv5, -⟩ := ho5.rd; subst hv5; rw [← HN.out] at ho5 ha5 ⊢; (have HO5 := Lib.hid ho5); clear ho5 ha5) | (refine step_appI (v := .slice (some ⟨(wc.heap.size + 1), 0, none⟩) 0 0) (xs := []) (sv := .slice aq n cq) (l := q) (B := wc.heap.size) (by rfl) _ _ (by rfl) (by rfl) (ownI_empty (by (repeat' (first | with_reducible exact heap_new_at (by simp; done) | with_reducible refine heap_old_at (by first | (simp; done) | (simp; omega)) ?_ | with_reducible refine heap_drew_at ?_))) (by omega)) (by rfl) (HSQ.out _ ?_) (by simp; omega) (by first | exact Nat.le_refl _ | (simp; done) | (simp; omega) | omega) ?_; (case _ => (repeat' (first | with_reducible refine Below.setCell ?_ (by first | omega | (simp; done) | (simp; omega)) _ | with_reducible refine Below.alloc ?_ (by first | omega | (simp; done) | (simp; omega)) _ | with_reducible apply Below.drew | with_reducible exact Below.refl _ _))); intro v5 w5 ho5 ha5; (have ho5 : OwnI w5 wc.heap.size v5 q := ho5); (have HB5 : Hid (Below wc.heap.size wc w5) := (by refine ha5.below ?_ ?_ (fun k hk => ?_); (case _ => (repeat' (first | with_reducible refine Below.setCell ?_ (by first | omega | (simp; done) | (simp; omega)) _ | with_reducible refine Below.alloc ?_ (by first | omega | (simp; done) | (simp; omega)) _ | with_reducible apply Below.drew | with_reducible exact Below.refl _ _))); (case _ => first | exact Nat.le_refl _ | (simp; done) | (simp; omega)); (case _ => (have hk2 : (wc.heap.size + 1) = k := Option.some.inj hk); omega))); (have hs5 := HB5.out.size); (try (refine app_cut ha5 wc.heap.size (.int .i64 (K : Nat)) (fun e => ?_) ?_ (fun z54 => ?_); (case _ => (have e2 : (wc.heap.size + 1) = wc.heap.size := Option.some.inj e); omega); (case _ => (simp [go_sem]; done)))); (try (refine app_cut ha5 (wc.heap.size + 1 + 1) (.int .i64 (K : Nat)) (fun e => ?_) ?_ (fun z54 => ?_); (case _ => (have e2 : (wc.heap.size + 1) = (wc.heap.size + 1 + 1) := Option.some.inj e); omega); (case _ => (simp [go_sem]; done)))); (try (refine val_cut (fun h1 h2 => ValZ.app (g := wc.heap.size) ha5 h1 (fun e => by have e2 : (wc.heap.size + 1) = wc.heap.size := Option.some.inj e; omega) h2) ?_ ?_ (fun tz => ?_); (case _ => (first | (simp; done) | (simp; omega))); (case _ => (refine ⟨?_, ?_, ?_, ?_, ?_, ?_, ?_, ?_, ?_, ?_, ?_, ?_, ?_, ?_, ?_, ?_, ?_, ?_⟩ <;> (simp [go_sem]; done))); (have VZ5 := Lib.hid tz))); (try (refine val_cut (fun h1 h2 => ValZ.app (g := (wc.heap.size + 1 + 1)) ha5 h1 (fun e => by have e2 : (wc.heap.size + 1) = (wc.heap.size + 1 + 1) := Option.some.inj e; omega) h2) ?_ ?_ (fun tz => ?_); (case _ => (first | (simp; done) | (simp; omega))); (case _ => (refine ⟨?_, ?_, ?_, ?_, ?_, ?_, ?_, ?_, ?_, ?_, ?_, ?_, ?_, ?_, ?_, ?_, ?_, ?_⟩ <;> (simp [go_sem]; done))); (have VZ5 := Lib.hid tz))); obtain ⟨a5, c5, hv5, -⟩ := ho5.rd; subst hv5; rw [← HN.out] at ho5 ha5 ⊢; (have HO5 := Lib.hid ho5); clear ho5 ha5) | (refine step_appI (v := .slice (some ⟨(wc.heap.size + 1 + 1), 0, none⟩) 0 0) (xs := []) (sv := .slice aq n cq) (l := q) (B := wc.heap.size) (by rfl) _ _ (by rfl) (by rfl) (ownI_empty (by (repeat' (first | with_reducible exact heap_new_at (by simp; done) | with_reducible refine heap_old_at (by first | (simp; done) | (simp; omega)) ?_ | with_reducible refine heap_drew_at ?_))) (by omega)) (by rfl) (HSQ.out _ ?_) (by simp; omega) (by first | exact Nat.le_refl _ | (simp; done) | (simp; omega) | omega) ?_; (case _ => (repeat' (first | with_reducible refine Below.setCell ?_ (by first | omega | (simp; done) | (simp; omega)) _ | with_reducible refine Below.alloc ?_ (by first | omega | (simp; done) | (simp; omega)) _ | with_reducible apply Below.drew | with_reducible exact Below.refl _ _))); intro v5 w5 ho5 ha5; (have ho5 : OwnI w5 wc.heap.size v5 q := ho5); (have HB5 : Hid (Below wc.heap.size wc w5) := (by refine ha5.below ?_ ?_ (fun k hk => ?_); (case _ => (repeat' (first | with_reducible refine Below.setCell ?_ (by first | omega | (simp; done) | (simp; omega)) _ | with_reducible refine Below.alloc ?_ (by first | omega | (simp; done) | (simp; omega)) _ | with_reducible apply Below.drew | with_reducible exact Below.refl _ _))); (case _ => first | exact Nat.le_refl _ | (simp; done) | (simp; omega)); (case _ => (have hk2 : (wc.heap.size + 1 + 1) = k := Option.some.inj hk); omega))); (have hs5 := HB5.out.size); (try (refine app_cut ha5 wc.heap.size (.int .i64 (K : Nat)) (fun e => ?_) ?_ (fun z54 => ?_); (case _ => (have e2 : (wc.heap.size + 1 + 1) = wc.heap.size := Option.some.inj e); omega); (case _ => (simp [go_sem]; done)))); (try (refine app_cut ha5 (wc.heap.size + 1) (.int .i64 (K : Nat)) (fun e => ?_) ?_ (fun z54 => ?_); (case _ => (have e2 : (wc.heap.size + 1 + 1) = (wc.heap.size + 1) := Option.some.inj e); omega); (case _ => (simp [go_sem]; done)))); (try (refine val_cut (fun h1 h2 => ValZ.app (g := wc.heap.size) ha5 h1 (fun e => by have e2 : (wc.heap.size + 1 + 1) = wc.heap.size := Option.some.inj e; omega) h2) ?_ ?_ (fun tz => ?_); (case _ => (first | (simp; done) | (simp; omega))); (case _ => (refine ⟨?_, ?_, ?_, ?_, ?_, ?_, ?_, ?_, ?_, ?_, ?_, ?_, ?_, ?_, ?_, ?_, ?_, ?_⟩ <;> (simp [go_sem]; done))); (have VZ5 := Lib.hid tz))); (try (refine val_cut (fun h1 h2 => ValZ.app (g := (wc.heap.size + 1)) ha5 h1 (fun e => by have e2 : (wc.heap.size + 1 + 1) = (wc.heap.size + 1) := Option.some.inj e; omega) h2) ?_ ?_ (fun tz => ?_); (case _ => (first | (simp; done) | (simp; omega))); (case _ => (refine ⟨?_, ?_, ?_, ?_, ?_, ?_, ?_, ?_, ?_, ?_, ?_, ?_, ?_, ?_, ?_, ?_, ?_, ?_⟩ <;> (simp [go_sem]; done))); (have VZ5 := Lib.hid tz))); obtain ⟨a5, c5, hv5, -⟩ := ho5.rd; subst hv5; rw [← HN.out] at ho5 ha5 ⊢; (have HO5 := Lib.hid ho5); clear ho5 ha5) | (refine step_appI (v := .slice a5 n c5) (xs := q) (sv := .slice (some ⟨w5.heap.size, 0, none⟩) 1 1) (l := [(K : Int)]) (B := wc.heap.size) (by rfl) _ _ (by rfl) (by rfl) (owns_keep HO5.out ?_) (by rfl) (src_cell (by first | exact z54 | exact cell_below (by (repeat' (first | with_reducible refine Below.setCell ?_ (by first | omega | (simp; done) | (simp; omega)) _ | with_reducible refine Below.alloc ?_ (by first | omega | (simp; done) | (simp; omega)) _ | with_reducible apply Below.drew | with_reducible exact Below.refl _ _))) z54 | (simp [go_sem]; done))) (by simp; omega) (by first | (simp; done) | (simp; omega) | omega) ?_; (case _ => (repeat' (first | with_reducible refine Below.setCell ?_ (by first | omega | (simp; done) | (simp; omega)) _ | with_reducible refine Below.alloc ?_ (by first | omega | (simp; done) | (simp; omega)) _ | with_reducible apply Below.drew | with_reducible exact Below.refl _ _))); intro v6 w6 ho6 ha6; (have HB6 : Hid (Below wc.heap.size wc w6) := (by refine ha6.below ?_ ?_ (fun k hk => ?_); (case _ => (repeat' (first | with_reducible exact HB5.out | with_reducible refine Below.setCell ?_ (by first | omega | (simp; done) | (simp; omega)) _ | with_reducible refine Below.alloc ?_ (by first | omega | (simp; done) | (simp; omega)) _ | with_reducible apply Below.drew | with_reducible exact Below.refl _ _))); (case _ => first | (simp; done) | (simp; omega) | omega); (case _ => exact (owns_lt HO5.out k hk).1))); (have hs6 := HB6.out.size); (try (have VZ6 := Lib.hid (ValZ.app2 (by (repeat' (first | with_reducible refine Below.setCell ?_ (by first | omega | (simp; done) | (simp; omega)) _ | with_reducible refine Below.alloc ?_ (by first | omega | (simp; done) | (simp; omega)) _ | with_reducible apply Below.drew | with_reducible exact Below.refl _ _))) ha6 VZ5.out))); (try (refine val_cut (fun h1 h2 => ValZ.app (g := (w5.heap.size + 1)) ha6 h1 (fun e => by have := (owns_lt HO5.out _ e).2; omega) h2) ?_ ?_ (fun tz => ?_); (case _ => (first | (simp; done) | (simp; omega))); (case _ => (refine ⟨?_, ?_, ?_, ?_, ?_, ?_, ?_, ?_, ?_, ?_, ?_, ?_, ?_, ?_, ?_, ?_, ?_, ?_⟩ <;> (simp [go_sem]; done))); (have VZ6 := Lib.hid tz))); obtain ⟨a6, c6, hv6, hr6, hc6, -⟩ := ho6.rd; subst hv6; obtain ⟨n6, hn6⟩ : ∃ x, x = (q ++ [(K : Int)]).length := ⟨_, rfl⟩; rw [← hn6] at ha6 ⊢; (have HC6 := Lib.hid (fun W (hW : Below w6.heap.size w6 W) => CG.out W (HH.out W (HBX.out.trans ((HB6.out.trans (hW.mono HB6.out.size)).mono HBX.out.size))).2.1 a6 (q ++ [(K : Int)]) n6 c6 ((hr6.imp (fun _ _ _ => trivial)).keep (KeepS.below hW)) hn6.symm (by rw [hn6]; simp; omega))); rw [E3.out] at HC6; (have HA6 := Lib.hid ha6); clear ho6 hr6 hc6 hn6 ha6) | (refine step_appI (v := .slice a5 n c5) (xs := q) (sv := .slice (some ⟨(w5.heap.size + 1), 0, none⟩) 1 1) (l := [(K : Int)]) (B := wc.heap.size) (by rfl) _ _ (by rfl) (by rfl) (owns_keep HO5.out ?_) (by rfl) (src_cell (by first | exact z54 | exact cell_below (by (repeat' (first | with_reducible refine Below.setCell ?_ (by first | omega | (simp; done) | (simp; omega)) _ | with_reducible refine Below.alloc ?_ (by first | omega | (simp; done) | (simp; omega)) _ | with_reducible apply Below.drew | with_reducible exact Below.refl _ _))) z54 | (simp [go_sem]; done))) (by simp; omega) (by first | (simp; done) | (simp; omega) | omega) ?_; (case _ => (repeat' (first | with_reducible refine Below.setCell ?_ (by first | omega | (simp; done) | (simp; omega)) _ | with_reducible refine Below.alloc ?_ (by first | omega | (simp; done) | (simp; omega)) _ | with_reducible apply Below.drew | with_reducible exact Below.refl _ _))); intro v6 w6 ho6 ha6; (have HB6 : Hid (Below wc.heap.size wc w6) := (by refine ha6.below ?_ ?_ (fun k hk => ?_); (case _ => (repeat' (first | with_reducible exact HB5.out | with_reducible refine Below.setCell ?_ (by first | omega | (simp; done) | (simp; omega)) _ | with_reducible refine Below.alloc ?_ (by first | omega | (simp; done) | (simp; omega)) _ | with_reducible apply Below.drew | with_reducible exact Below.refl _ _))); (case _ => first | (simp; done) | (simp; omega) | omega); (case _ => exact (owns_lt HO5.out k hk).1))); (have hs6 := HB6.out.size); (try (have VZ6 := Lib.hid (ValZ.app2 (by (repeat' (first | with_reducible refine Below.setCell ?_ (by first | omega | (simp; done) | (simp; omega)) _ | with_reducible refine Below.alloc ?_ (by first | omega | (simp; done) | (simp; omega)) _ | with_reducible apply Below.drew | with_reducible exact Below.refl _ _))) ha6 VZ5.out))); (try (refine val_cut (fun h1 h2 => ValZ.app (g := w5.heap.size) ha6 h1 (fun e => by have := (owns_lt HO5.out _ e).2; omega) h2) ?_ ?_ (fun tz => ?_); (case _ => (first | (simp; done) | (simp; omega))); (case _ => (refine ⟨?_, ?_, ?_, ?_, ?_, ?_, ?_, ?_, ?_, ?_, ?_, ?_, ?_, ?_, ?_, ?_, ?_, ?_⟩ <;> (simp [go_sem]; done))); (have VZ6 := Lib.hid tz))); obtain ⟨a6, c6, hv6, hr6, hc6, -⟩ := ho6.rd; subst hv6; obtain ⟨n6, hn6⟩ : ∃ x, x = (q ++ [(K : Int)]).length := ⟨_, rfl⟩; rw [← hn6] at ha6 ⊢; (have HC6 := Lib.hid (fun W (hW : Below w6.heap.size w6 W) => CG.out W (HH.out W (HBX.out.trans ((HB6.out.trans (hW.mono HB6.out.size)).mono HBX.out.size))).2.1 a6 (q ++ [(K : Int)]) n6 c6 ((hr6.imp (fun _ _ _ => trivial)).keep (KeepS.below hW)) hn6.symm (by rw [hn6]; simp; omega))); rw [E3.out] at HC6; (have HA6 := Lib.hid ha6); clear ho6 hr6 hc6 hn6 ha6) | (refine step_appI (v := .slice a5 n c5) (xs := q) (sv := .slice (some ⟨wc.heap.size, 0, none⟩) 1 1) (l := [(K : Int)]) (B := wc.heap.size) (by rfl) _ _ (by rfl) (by rfl) (owns_keep HO5.out ?_) (by rfl) (src_cell (by first | exact z54 | exact cell_below (by (repeat' (first | with_reducible refine Below.setCell ?_ (by first | omega | (simp; done) | (simp; omega)) _ | with_reducible refine Below.alloc ?_ (by first | omega | (simp; done) | (simp; omega)) _ | with_reducible apply Below.drew | with_reducible exact Below.refl _ _))) z54 | (simp [go_sem]; done))) (by simp; omega) (by first | (simp; done) | (simp; omega) | omega) ?_; (case _ => (repeat' (first | with_reducible refine Below.setCell ?_ (by first | omega | (simp; done) | (simp; omega)) _ | with_reducible refine Below.alloc ?_ (by first | omega | (simp; done) | (simp; omega)) _ | with_reducible apply Below.drew | with_reducible exact Below.refl _ _))); intro v6 w6 ho6 ha6; (have HB6 : Hid (Below wc.heap.size wc w6) := (by refine ha6.below ?_ ?_ (fun k hk => ?_); (case _ => (repeat' (first | with_reducible exact HB5.out | with_reducible refine Below.setCell ?_ (by first | omega | (simp; done) | (simp; omega)) _ | with_reducible refine Below.alloc ?_ (by first | omega | (simp; done) | (simp; omega)) _ | with_reducible apply Below.drew | with_reducible exact Below.refl _ _))); (case _ => first | (simp; done) | (simp; omega) | omega); (case _ => exact (owns_lt HO5.out k hk).1))); (have hs6 := HB6.out.size); (try (have VZ6 := Lib.hid (ValZ.app2 (by (repeat' (first | with_reducible refine Below.setCell ?_ (by first | omega | (simp; done) | (simp; omega)) _ | with_reducible refine Below.alloc ?_ (by first | omega | (simp; done) | (simp; omega)) _ | with_reducible apply Below.drew | with_reducible exact Below.refl _ _))) ha6 VZ5.out))); (try (refine val_cut (fun h1 h2 => ValZ.app (g := w5.heap.size) ha6 h1 (fun e => by have := (owns_lt HO5.out _ e).2; omega) h2) ?_ ?_ (fun tz => ?_); (case _ => (first | (simp; done) | (simp; omega))); (case _ => (refine ⟨?_, ?_, ?_, ?_, ?_, ?_, ?_, ?_, ?_, ?_, ?_, ?_, ?_, ?_, ?_, ?_, ?_, ?_⟩ <;> (simp [go_sem]; done))); (have VZ6 := Lib.hid tz))); (try (refine val_cut (fun h1 h2 => ValZ.app (g := (w5.heap.size + 1)) ha6 h1 (fun e => by have := (owns_lt HO5.out _ e).2; omega) h2) ?_ ?_ (fun tz => ?_); (case _ => (first | (simp; done) | (simp; omega))); (case _ => (refine ⟨?_, ?_, ?_, ?_, ?_, ?_, ?_, ?_, ?_, ?_, ?_, ?_, ?_, ?_, ?_, ?_, ?_, ?_⟩ <;> (simp [go_sem]; done))); (have VZ6 := Lib.hid tz))); obtain ⟨a6, c6, hv6, hr6, hc6, -⟩ := ho6.rd; subst hv6; obtain ⟨n6, hn6⟩ : ∃ x, x = (q ++ [(K : Int)]).length := ⟨_, rfl⟩; rw [← hn6] at ha6 ⊢; (have HC6 := Lib.hid (fun W (hW : Below w6.heap.size w6 W) => CG.out W (HH.out W (HBX.out.trans ((HB6.out.trans (hW.mono HB6.out.size)).mono HBX.out.size))).2.1 a6 (q ++ [(K : Int)]) n6 c6 ((hr6.imp (fun _ _ _ => trivial)).keep (KeepS.below hW)) hn6.symm (by rw [hn6]; simp; omega))); rw [E3.out] at HC6; (have HA6 := Lib.hid ha6); clear ho6 hr6 hc6 hn6 ha6) | (refine step_appI (v := .slice a5 n c5) (xs := q) (sv := .slice (some ⟨(wc.heap.size + 1), 0, none⟩) 1 1) (l := [(K : Int)]) (B := wc.heap.size) (by rfl) _ _ (by rfl) (by rfl) (owns_keep HO5.out ?_) (by rfl) (src_cell (by first | exact z54 | exact cell_below (by (repeat' (first | with_reducible refine Below.setCell ?_ (by first | omega | (simp; done) | (simp; omega)) _ | with_reducible refine Below.alloc ?_ (by first | omega | (simp; done) | (simp; omega)) _ | with_reducible apply Below.drew | with_reducible exact Below.refl _ _))) z54 | (simp [go_sem]; done))) (by simp; omega) (by first | (simp; done) | (simp; omega) | omega) ?_; (case _ => (repeat' (first | with_reducible refine Below.setCell ?_ (by first | omega | (simp; done) | (simp; omega)) _ | with_reducible refine Below.alloc ?_ (by first | omega | (simp; done) | (simp; omega)) _ | with_reducible apply Below.drew | with_reducible exact Below.refl _ _))); intro v6 w6 ho6 ha6; (have HB6 : Hid (Below wc.heap.size wc w6) := (by refine ha6.below ?_ ?_ (fun k hk => ?_); (case _ => (repeat' (first | with_reducible exact HB5.out | with_reducible refine Below.setCell ?_ (by first | omega | (simp; done) | (simp; omega)) _ | with_reducible refine Below.alloc ?_ (by first | omega | (simp; done) | (simp; omega)) _ | with_reducible apply Below.drew | with_reducible exact Below.refl _ _))); (case _ => first | (simp; done) | (simp; omega) | omega); (case _ => exact (owns_lt HO5.out k hk).1))); (have hs6 := HB6.out.size); (try (have VZ6 := Lib.hid (ValZ.app2 (by (repeat' (first | with_reducible refine Below.setCell ?_ (by first | omega | (simp; done) | (simp; omega)) _ | with_reducible refine Below.alloc ?_ (by first | omega | (simp; done) | (simp; omega)) _ | with_reducible apply Below.drew | with_reducible exact Below.refl _ _))) ha6 VZ5.out))); (try (refine val_cut (fun h1 h2 => ValZ.app (g := w5.heap.size) ha6 h1 (fun e => by have := (owns_lt HO5.out _ e).2; omega) h2) ?_ ?_ (fun tz => ?_); (case _ => (first | (simp; done) | (simp; omega))); (case _ => (refine ⟨?_, ?_, ?_, ?_, ?_, ?_, ?_, ?_, ?_, ?_, ?_, ?_, ?_, ?_, ?_, ?_, ?_, ?_⟩ <;> (simp [go_sem]; done))); (have VZ6 := Lib.hid tz))); (try (refine val_cut (fun h1 h2 => ValZ.app (g := (w5.heap.size + 1)) ha6 h1 (fun e => by have := (owns_lt HO5.out _ e).2; omega) h2) ?_ ?_ (fun tz => ?_); (case _ => (first | (simp; done) | (simp; omega))); (case _ => (refine ⟨?_, ?_, ?_, ?_, ?_, ?_, ?_, ?_, ?_, ?_, ?_, ?_, ?_, ?_, ?_, ?_, ?_, ?_⟩ <;> (simp [go_sem]; done))); (have VZ6 := Lib.hid tz))); obtain ⟨a6, c6, hv6, hr6, hc6, -⟩ := ho6.rd; subst hv6; obtain ⟨n6, hn6⟩ : ∃ x, x = (q ++ [(K : Int)]).length := ⟨_, rfl⟩; rw [← hn6] at ha6 ⊢; (have HC6 := Lib.hid (fun W (hW : Below w6.heap.size w6 W) => CG.out W (HH.out W (HBX.out.trans ((HB6.out.trans (hW.mono HB6.out.size)).mono HBX.out.size))).2.1 a6 (q ++ [(K : Int)]) n6 c6 ((hr6.imp (fun _ _ _ => trivial)).keep (KeepS.below hW)) hn6.symm (by rw [hn6]; simp; omega))); rw [E3.out] at HC6; (have HA6 := Lib.hid ha6); clear ho6 hr6 hc6 hn6 ha6) | (refine step_appI (v := .slice a5 n c5) (xs := q) (sv := .slice (some ⟨(wc.heap.size + 1 + 1), 0, none⟩) 1 1) (l := [(K : Int)]) (B := wc.heap.size) (by rfl) _ _ (by rfl) (by rfl) (owns_keep HO5.out ?_) (by rfl) (src_cell (by first | exact z54 | exact cell_below (by (repeat' (first | with_reducible refine Below.setCell ?_ (by first | omega | (simp; done) | (simp; omega)) _ | with_reducible refine Below.alloc ?_ (by first | omega | (simp; done) | (simp; omega)) _ | with_reducible apply Below.drew | with_reducible exact Below.refl _ _))) z54 | (simp [go_sem]; done))) (by simp; omega) (by first | (simp; done) | (simp; omega) | omega) ?_; (case _ => (repeat' (first | with_reducible refine Below.setCell ?_ (by first | omega | (simp; done) | (simp; omega)) _ | with_reducible refine Below.alloc ?_ (by first | omega | (simp; done) | (simp; omega)) _ | with_reducible apply Below.drew | with_reducible exact Below.refl _ _))); intro v6 w6 ho6 ha6; (have HB6 : Hid (Below wc.heap.size wc w6) := (by refine ha6.below ?_ ?_ (fun k hk => ?_); (case _ => (repeat' (first | with_reducible exact HB5.out | with_reducible refine Below.setCell ?_ (by first | omega | (simp; done) | (simp; omega)) _ | with_reducible refine Below.alloc ?_ (by first | omega | (simp; done) | (simp; omega)) _ | with_reducible apply Below.drew | with_reducible exact Below.refl _ _))); (case _ => first | (simp; done) | (simp; omega) | omega); (case _ => exact (owns_lt HO5.out k hk).1))); (have hs6 := HB6.out.size); (try (have VZ6 := Lib.hid (ValZ.app2 (by (repeat' (first | with_reducible refine Below.setCell ?_ (by first | omega | (simp; done) | (simp; omega)) _ | with_reducible refine Below.alloc ?_ (by first | omega | (simp; done) | (simp; omega)) _ | with_reducible apply Below.drew | with_reducible exact Below.refl _ _))) ha6 VZ5.out))); (try (refine val_cut (fun h1 h2 => ValZ.app (g := w5.heap.size) ha6 h1 (fun e => by have := (owns_lt HO5.out _ e).2; omega) h2) ?_ ?_ (fun tz => ?_); (case _ => (first | (simp; done) | (simp; omega))); (case _ => (refine ⟨?_, ?_, ?_, ?_, ?_, ?_, ?_, ?_, ?_, ?_, ?_, ?_, ?_, ?_, ?_, ?_, ?_, ?_⟩ <;> (simp [go_sem]; done))); (have VZ6 := Lib.hid tz))); (try (refine val_cut (fun h1 h2 => ValZ.app (g := (w5.heap.size + 1)) ha6 h1 (fun e => by have := (owns_lt HO5.out _ e).2; omega) h2) ?_ ?_ (fun tz => ?_); (case _ => (first | (simp; done) | (simp; omega))); (case _ => (refine ⟨?_, ?_, ?_, ?_, ?_, ?_, ?_, ?_, ?_, ?_, ?_, ?_, ?_, ?_, ?_, ?_, ?_, ?_⟩ <;> (simp [go_sem]; done))); (have VZ6 := Lib.hid tz))); obtain ⟨a6, c6, hv6, hr6, hc6, -⟩ := ho6.rd; subst hv6; obtain ⟨n6, hn6⟩ : ∃ x, x = (q ++ [(K : Int)]).length := ⟨_, rfl⟩; rw [← hn6] at ha6 ⊢; (have HC6 := Lib.hid (fun W (hW : Below w6.heap.size w6 W) => CG.out W (HH.out W (HBX.out.trans ((HB6.out.trans (hW.mono HB6.out.size)).mono HBX.out.size))).2.1 a6 (q ++ [(K : Int)]) n6 c6 ((hr6.imp (fun _ _ _ => trivial)).keep (KeepS.below hW)) hn6.symm (by rw [hn6]; simp; omega))); rw [E3.out] at HC6; (have HA6 := Lib.hid ha6); clear ho6 hr6 hc6 hn6 ha6) | (go_at_call 18; refine (HC6.out _ ?_).mono ?_; (case _ => (repeat' (first | with_reducible refine Below.setCell ?_ (by first | omega | (simp; done) | (simp; omega)) _ | with_reducible refine Below.alloc ?_ (by first | omega | (simp; done) | (simp; omega)) _ | with_reducible apply Below.drew | with_reducible exact Below.refl _ _))); rintro e w7 ⟨c7, rfl, hr7, hb7⟩; obtain ⟨k7, bits7, hi7, lo7, text7, more7, sub7, ab7, nb7, cb7, ak7, nk7, ck7, rfl⟩ := hr7.rd.shape; (have HB7 : Hid (Below wc.heap.size wc w7) := (by refine Below.trans ?_ (hb7.mono ?_); (case _ => (repeat' (first | with_reducible exact HB6.out | with_reducible refine Below.setCell ?_ (by first | omega | (simp; done) | (simp; omega)) _ | with_reducible refine Below.alloc ?_ (by first | omega | (simp; done) | (simp; omega)) _ | with_reducible apply Below.drew | with_reducible exact Below.refl _ _))); (case _ => first | exact hs6 | (simp; omega)))); (have hs7 := HB7.out.size); (try (have VZ7 := Lib.hid (ValZ.keep (w := w6) (Below.trans (by (repeat' (first | with_reducible refine Below.setCell ?_ (by first | omega | (simp; done) | (simp; omega)) _ | with_reducible refine Below.alloc ?_ (by first | omega | (simp; done) | (simp; omega)) _ | with_reducible apply Below.drew | with_reducible exact Below.refl _ _))) (hb7.mono (by first | exact Nat.le_refl _ | (simp; done) | (simp; omega)))) VZ6.out.2.1 VZ6.out.1))); (try (refine val_cut (after_val hb7 w6.heap.size) ?_ ?_ (fun tz => ?_); (case _ => (first | (simp; done) | (simp; omega))); (case _ => (refine ⟨?_, ?_, ?_, ?_, ?_, ?_, ?_, ?_, ?_, ?_, ?_, ?_, ?_, ?_, ?_, ?_, ?_, ?_⟩ <;> (simp [go_sem]; done))); (have VZ7 := Lib.hid tz.1))); (try (obtain ⟨_, _, _, _, _, _, _, _, _, _, _, _, _, _, _, _, _, _⟩ := VZ7.out)); clear hr7 hb7) | fail))
        all_goals
          have HBE := (‹Hid (Below wc.heap.size wc _) ∧ _›).1
          clear ‹Hid (Below wc.heap.size wc _) ∧ _›
          go_wp2_with fail
          go_roundw
          case rel => exact ⟨j + 1, by simp, by omega, HBW.out.trans ((HBX.out.trans (HBE.out.mono HBX.out.size)).mono HBW.out.size)⟩
          case measure => simp [intOf]; omega
    · go_wp2_with fail
      go_ret
      exact ⟨rfl, S6.out.1.trans (HBW.out.mono S6.out.1.size)⟩

end Go.Proofs.Ytiodjhcjfbnocaa
