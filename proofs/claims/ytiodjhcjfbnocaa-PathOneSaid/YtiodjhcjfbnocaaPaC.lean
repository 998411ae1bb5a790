/- path.walk, walked. -/
import Derived.Test.YtiodjhcjfbnocaaPaB
namespace Go.Proofs.Ytiodjhcjfbnocaa
open Go.RowKit
set_option linter.unusedVariables false
set_option linter.unusedSimpArgs false

theorem goT_none : ∀ (q r : List Int) (t : T), goT t q = none → goT t (q ++ r) = none
  | [], r, t, h => by simp [goT] at h
  | i :: q, r, t, h => by
    simp only [List.cons_append, goT] at h ⊢
    cases h1 : t.kids.at? i with
    | none => rfl
    | some y =>
      obtain ⟨n, u⟩ := y
      rw [h1] at h
      simp only at h ⊢
      cases h2 : goT u q with
      | none => rw [goT_none q r u h2]
      | some z => rw [h2] at h; simp at h

theorem take_iat (p : List Int) (j : Nat) (h : j < p.length) : p.take (j + 1) = p.take j ++ [iat p j] := by
  rw [List.take_add_one]
  congr 1
  unfold iat
  rw [List.getD_eq_getElem?_getD, List.getElem?_eq_getElem h]
  rfl

/-- What walk answers. -/
def WalkOut (w0 w : World) (R : Option (T × List ByteArray)) (e : Ending) (w' : World) : Prop := Below w.heap.size w w' ∧ match R with
  | none => e = .returned (.tuple #[.agg (valCells 0 0 0 0 ByteArray.empty ByteArray.empty 0 none 0 0 none 0 0), .slice none 0 0, .bool false])
  | some (x, l) => ∃ c v, e = .returned (.tuple #[.agg c, v, .bool true]) ∧ RdT w0 x c ∧ OwnS w' w.heap.size v l
def WkRel (w0 w : World) (t : T) (p : List Int) (o i : Value) (wr : World) : Prop :=
  ∃ (u : Value) (j : Nat) (x : T) (l : List ByteArray) (c : Array Value), u = o ∧ i = .int .i64 j ∧ j ≤ p.length ∧ Hid (goT t (p.take j) = some (x, l)) ∧ RdT w0 x c ∧ BoxV wr w.heap.size c ∧ BoxV wr (w.heap.size + 1) (valCells 0 0 0 0 ByteArray.empty ByteArray.empty 0 none 0 0 none 0 0) ∧ OwnS wr (w.heap.size + 2) u l ∧ l.length = j ∧ Below w.heap.size w wr ∧ w.heap.size + 2 ≤ wr.heap.size

theorem OwnS.mono {w : World} {B B' : Nat} {v : Value} {l : List ByteArray} (h : OwnS w B v l) (hB : B' ≤ B) : OwnS w B' v l := by
  refine ⟨h.1, ?_⟩
  rcases h.2 with h0 | ⟨g, cap, cur, e, hb, r⟩
  · exact .inl h0
  · exact .inr ⟨g, cap, cur, e, by omega, r⟩
theorem OwnS.chg {X : Nat → Prop} {w w' : World} {B : Nat} {v : Value} {l : List ByteArray} (h : OwnS w B v l) (hc : Chg X w w') (hX : ∀ k, B ≤ k → ¬ X k) : OwnS w' B v l :=
  owns_chg h hc fun k hk => hX k (owns_lt h k hk).1

set_option maxRecDepth 100000 in
set_option maxHeartbeats 16000000 in
theorem walk_calls (w0 : World) (t : T) (w : World) (hw0 : Below w0.heap.size w0 w) (c : Array Value) (h : RdT w0 t c) (a : Option Addr) (p : List Int) (n cap : Nat) (S : Nat → Prop) (hp : RdPS S w a p) (hn : p.length = n) (hnb : n ≤ 1000000) :
    Calls Try.prog 38 #[.agg c, .slice a n cap] w (WalkOut w0 w (goT t p)) := by
  obtain ⟨R, hR⟩ : ∃ R, R = goT t p := ⟨_, rfl⟩
  rw [← hR]
  have HR := Lib.hid hR
  have HN := Lib.hid hn
  have HP := Lib.hid hp
  have HT := Lib.hid h
  have HW0 := Lib.hid hw0
  have hsw0 := hw0.size
  have HT0 : Hid (goT t (p.take 0) = some (t, [])) := by show _ = _; simp [goT]
  obtain ⟨k, bits, hi, lo, text, more, sub, bs, kids⟩ := t
  obtain ⟨ab, nb, cb, ak, nk, ck, rfl, -⟩ := h
  clear hR hn hp hw0
  go_enter Try.func38, Try.ntmps38
  go_wp2_with fail
  go_loopw [7, 9, 12] (fun o _ i wr => WkRel w0 w (.mk k bits hi lo text more sub bs kids) p o i wr) (fun _ _ i _ => n - (intOf i).toNat)
  case atStart =>
    refine ⟨_, 0, _, [], _, rfl, rfl, Nat.zero_le _, HT0, HT.out, ?_, ?_, World.ownsRow_nil _ _ _ _, rfl, ?_, by simp⟩
    · exact (BoxV.new w _ _).keep ((Below.refl _ _).alloc (Nat.le_refl _) _)
    · rw [show w.heap.size + 1 = (w.alloc (.cells (valCells k bits hi lo text more sub ab nb cb ak nk ck) 26)).heap.size by simp]
      exact BoxV.new _ _ _
    · exact ((Below.refl _ _).alloc (Nat.le_refl _) _).alloc (by simp) _
  case round =>
    obtain ⟨u, j, x, l, c, rfl, rfl, hj, hg, hx, hbx, hbz, ho, hll, hb, hz⟩ := hrel
    rw [HN.out] at hj
    have HG := hg
    have HX := Lib.hid hx
    have HBX := Lib.hid hbx
    have HBZ := Lib.hid hbz
    have HO := Lib.hid ho
    have HB := Lib.hid hb
    have HLL := Lib.hid hll
    have hb0 : Below w0.heap.size w0 wr := HW0.out.trans (hb.mono HW0.out.size)
    have HB00 := Lib.hid hb0
    have hxw := hx.keep hb0
    clear hb0
    have HXW := Lib.hid hxw
    obtain ⟨k2, bits2, hi2, lo2, text2, more2, sub2, bs2, kids2⟩ := x
    obtain ⟨ab2, nb2, cb2, ak2, nk2, ck2, rfl, -, -, hkl, hnk, hks⟩ := hxw
    have HKL := Lib.hid hkl
    have HKS := Lib.hid hks
    have hnk9 := hnk.1
    have f0 : wr.frozen? ⟨w.heap.size, 0, none⟩ = false := (HBX.out.2 0 (by omega)).2
    have r0 : wr.frozen? ⟨w.heap.size + 1, 0, none⟩ = false := (HBZ.out.2 0 (by omega)).2
    have f1 : wr.frozen? ⟨w.heap.size, 1, none⟩ = false := (HBX.out.2 1 (by omega)).2
    have r1 : wr.frozen? ⟨w.heap.size + 1, 1, none⟩ = false := (HBZ.out.2 1 (by omega)).2
    have f2 : wr.frozen? ⟨w.heap.size, 2, none⟩ = false := (HBX.out.2 2 (by omega)).2
    have r2 : wr.frozen? ⟨w.heap.size + 1, 2, none⟩ = false := (HBZ.out.2 2 (by omega)).2
    have f3 : wr.frozen? ⟨w.heap.size, 3, none⟩ = false := (HBX.out.2 3 (by omega)).2
    have r3 : wr.frozen? ⟨w.heap.size + 1, 3, none⟩ = false := (HBZ.out.2 3 (by omega)).2
    have f4 : wr.frozen? ⟨w.heap.size, 4, none⟩ = false := (HBX.out.2 4 (by omega)).2
    have r4 : wr.frozen? ⟨w.heap.size + 1, 4, none⟩ = false := (HBZ.out.2 4 (by omega)).2
    have f5 : wr.frozen? ⟨w.heap.size, 5, none⟩ = false := (HBX.out.2 5 (by omega)).2
    have r5 : wr.frozen? ⟨w.heap.size + 1, 5, none⟩ = false := (HBZ.out.2 5 (by omega)).2
    have f6 : wr.frozen? ⟨w.heap.size, 6, none⟩ = false := (HBX.out.2 6 (by omega)).2
    have r6 : wr.frozen? ⟨w.heap.size + 1, 6, none⟩ = false := (HBZ.out.2 6 (by omega)).2
    have f7 : wr.frozen? ⟨w.heap.size, 7, none⟩ = false := (HBX.out.2 7 (by omega)).2
    have r7 : wr.frozen? ⟨w.heap.size + 1, 7, none⟩ = false := (HBZ.out.2 7 (by omega)).2
    have f8 : wr.frozen? ⟨w.heap.size, 8, none⟩ = false := (HBX.out.2 8 (by omega)).2
    have r8 : wr.frozen? ⟨w.heap.size + 1, 8, none⟩ = false := (HBZ.out.2 8 (by omega)).2
    have c0 : wr.cell? ⟨w.heap.size, 0, none⟩ = some (.int .i64 k2) := (HBX.out.2 0 (by omega)).1
    have c1 : wr.cell? ⟨w.heap.size, 1, none⟩ = some (.int .u64 (bits2 : Nat)) := (HBX.out.2 1 (by omega)).1
    have c2 : wr.cell? ⟨w.heap.size, 2, none⟩ = some (.int .u64 (hi2 : Nat)) := (HBX.out.2 2 (by omega)).1
    have c3 : wr.cell? ⟨w.heap.size, 3, none⟩ = some (.int .u64 (lo2 : Nat)) := (HBX.out.2 3 (by omega)).1
    have c4 : wr.cell? ⟨w.heap.size, 4, none⟩ = some (.string text2) := (HBX.out.2 4 (by omega)).1
    have c5 : wr.cell? ⟨w.heap.size, 5, none⟩ = some (.string more2) := (HBX.out.2 5 (by omega)).1
    have c6 : wr.cell? ⟨w.heap.size, 6, none⟩ = some (.int .i64 sub2) := (HBX.out.2 6 (by omega)).1
    have c7 : wr.cell? ⟨w.heap.size, 7, none⟩ = some (.slice ab2 nb2 cb2) := (HBX.out.2 7 (by omega)).1
    have c8 : wr.cell? ⟨w.heap.size, 8, none⟩ = some (.slice ak2 nk2 ck2) := (HBX.out.2 8 (by omega)).1
    have z0 : wr.cell? ⟨w.heap.size + 1, 0, none⟩ = some (.int .i64 0) := (HBZ.out.2 0 (by omega)).1
    have z1 : wr.cell? ⟨w.heap.size + 1, 1, none⟩ = some (.int .u64 0) := (HBZ.out.2 1 (by omega)).1
    have z2 : wr.cell? ⟨w.heap.size + 1, 2, none⟩ = some (.int .u64 0) := (HBZ.out.2 2 (by omega)).1
    have z3 : wr.cell? ⟨w.heap.size + 1, 3, none⟩ = some (.int .u64 0) := (HBZ.out.2 3 (by omega)).1
    have z4 : wr.cell? ⟨w.heap.size + 1, 4, none⟩ = some (.string ByteArray.empty) := (HBZ.out.2 4 (by omega)).1
    have z5 : wr.cell? ⟨w.heap.size + 1, 5, none⟩ = some (.string ByteArray.empty) := (HBZ.out.2 5 (by omega)).1
    have z6 : wr.cell? ⟨w.heap.size + 1, 6, none⟩ = some (.int .i64 0) := (HBZ.out.2 6 (by omega)).1
    have z7 : wr.cell? ⟨w.heap.size + 1, 7, none⟩ = some (.slice none 0 0) := (HBZ.out.2 7 (by omega)).1
    have z8 : wr.cell? ⟨w.heap.size + 1, 8, none⟩ = some (.slice none 0 0) := (HBZ.out.2 8 (by omega)).1
    have g1 : w.heap.size < wr.heap.size := by omega
    have g2 : w.heap.size + 1 < wr.heap.size := by omega
    clear hg hx hbx hbz ho hb hll hkl hks hnk
    by_cases hlt : j < n
    case neg =>
      have hjn : j = n := by omega
      have HRes : Hid (R = some (.mk k2 bits2 hi2 lo2 text2 more2 sub2 bs2 kids2, l)) := by
        show _ = _
        rw [HR.out]
        have h1 := HG.out
        rwa [List.take_of_length_le (by rw [HN.out]; omega)] at h1
      clear hjn
      obtain ⟨aS, cS, rfl, -⟩ := HO.out.rd
      (repeat (first | go_values | go_skip | go_guarded | go_step | go_upon | (go_simp; go_at_K)))
      refine bodyPost_ret (v := .tuple #[.agg (valCells k2 bits2 hi2 lo2 text2 more2 sub2 ab2 nb2 cb2 ak2 nk2 ck2), .slice aS l.length cS, .bool true]) (by simp [results, Try.results38, go_sem, *]) rfl ?_
      rw [HRes.out]
      refine ⟨?_, _, _, rfl, HX.out, (HO.out.chg (X := fun k => k = w.heap.size + 1) ?_ (fun k hk e => by omega)).mono (by omega)⟩
      · skip
        (repeat' (first | with_reducible exact HB.out | with_reducible apply Below.drew | with_reducible refine Below.alloc ?_ (by first | omega | (simp; done) | (simp; omega)) _ | with_reducible refine Below.setCell ?_ (by first | omega | (simp only []; omega)) _))
      · skip
        (repeat' (first | with_reducible exact Chg.refl _ _ | with_reducible apply Chg.drew | with_reducible refine Chg.alloc ?_ _ | with_reducible refine Chg.setCell ?_ (fun h => ?_) _))
        all_goals rfl
    obtain ⟨pb, po, hpa, hpc⟩ := (HP.out.keep (KeepS.below HB.out)).1 j (by rw [HN.out]; exact hlt)
    obtain ⟨i, hie⟩ : ∃ i, i = iat p j := ⟨_, rfl⟩
    have hpc2 : wr.cell? ⟨pb, po + j, none⟩ = some (.int .i64 i) := by rw [hie]; exact hpc
    have htk := take_iat p j (by rw [HN.out]; exact hlt)
    rw [← hie] at htk
    have HTK := Lib.hid htk
    have hsn := goT_snoc (p.take j) (.mk k bits hi lo text more sub bs kids) i
    rw [HG.out] at hsn
    simp only at hsn
    have HSN := Lib.hid hsn
    have HFAIL : Hid ((T.mk k2 bits2 hi2 lo2 text2 more2 sub2 bs2 kids2).kids.at? i = none → R = none) := by
      show _ → _
      intro e
      rw [HR.out]
      have h1 : goT (.mk k bits hi lo text more sub bs kids) (p.take (j + 1)) = none := by
        rw [HTK.out, HSN.out, e]
      have h2 := goT_none (p.take (j + 1)) (p.drop (j + 1)) _ h1
      rwa [List.take_append_drop] at h2
    obtain ⟨aS, cS, rfl, hlS, -⟩ := HO.out.rd
    clear hpc htk hsn hie
    subst hpa
    by_cases hneg : i < 0
    · have HRes : Hid (R = none) := HFAIL.out (by unfold F.at?; rw [if_pos hneg])
      have i1 : decide (i < 0) = true := by simpa using hneg
      (repeat (first | go_values | go_skip | go_guarded | go_step | go_upon | (go_simp; go_at_K)))
      refine bodyPost_ret (v := .tuple #[.agg (valCells 0 0 0 0 ByteArray.empty ByteArray.empty 0 none 0 0 none 0 0), .slice none 0 0, .bool false]) (by simp [results, Try.results38, go_sem, *]; rfl) rfl ?_
      rw [HRes.out]
      refine ⟨?_, rfl⟩
      (repeat' (first | with_reducible exact HB.out | with_reducible apply Below.drew | with_reducible refine Below.alloc ?_ (by first | omega | (simp; done) | (simp; omega)) _ | with_reducible refine Below.setCell ?_ (by first | omega | (simp only []; omega)) _))
    have i1 : decide (i < 0) = false := by simpa using hneg
    by_cases hbig : (nk2 : Int) ≤ i
    · have HRes : Hid (R = none) := HFAIL.out (by
        unfold F.at?
        rw [if_neg hneg]
        exact F.get_none _ _ (by show kids2.len ≤ _; rw [HKL.out]; omega))
      have i2 : decide ((nk2 : Int) ≤ i) = true := by simpa using hbig
      (repeat (first | go_values | go_skip | go_guarded | go_step | go_upon | (go_simp; go_at_K)))
      refine bodyPost_ret (v := .tuple #[.agg (valCells 0 0 0 0 ByteArray.empty ByteArray.empty 0 none 0 0 none 0 0), .slice none 0 0, .bool false]) (by simp [results, Try.results38, go_sem, *]; rfl) rfl ?_
      rw [HRes.out]
      refine ⟨?_, rfl⟩
      (repeat' (first | with_reducible exact HB.out | with_reducible apply Below.drew | with_reducible refine Below.alloc ?_ (by first | omega | (simp; done) | (simp; omega)) _ | with_reducible refine Below.setCell ?_ (by first | omega | (simp only []; omega)) _))
    have i2 : decide ((nk2 : Int) ≤ i) = false := by simpa using hbig
    obtain ⟨q, rfl⟩ : ∃ q : Nat, i = q := ⟨i.toNat, by omega⟩
    have hq : q < nk2 := by omega
    obtain ⟨⟨nm, x3⟩, hget⟩ := F.get_some kids2 q (by rw [HKL.out]; exact hq)
    have hat : (T.mk k2 bits2 hi2 lo2 text2 more2 sub2 bs2 kids2).kids.at? (q : Int) = some (nm, x3) := by
      unfold F.at?
      rw [if_neg (by omega), Int.toNat_natCast]
      exact hget
    have HNX : Hid (goT (.mk k bits hi lo text more sub bs kids) (p.take (j + 1)) = some (x3, l ++ [nm])) := by
      show _ = _
      rw [HTK.out, HSN.out, hat]
    have hX0 : RdT w0 (.mk k2 bits2 hi2 lo2 text2 more2 sub2 bs2 kids2) (valCells k2 bits2 hi2 lo2 text2 more2 sub2 ab2 nb2 cb2 ak2 nk2 ck2) := HX.out
    have hks0 : ∃ c3, RdT w0 x3 c3 ∧ ∃ b o, ak2 = some ⟨b, o, none⟩ ∧ nm.size ≤ 9223372036854775807 ∧ w0.cell? ⟨b, o + q * 10, none⟩ = some (.string nm) ∧ (∀ e, e < 9 → w0.cell? ⟨b, o + q * 10 + (e + 1), none⟩ = c3[e]?) := by
      obtain ⟨ab', nb', cb', ak', nk', ck', he, -, -, -, -, hks'⟩ := hX0
      have h8 := congrArg (fun A => A[8]?) he
      simp at h8
      obtain ⟨rfl, rfl, rfl⟩ := h8
      obtain ⟨b, o, c3, h1, h2, h3, h4, h5⟩ := hks'.at hget
      exact ⟨c3, h5, b, o, h1, h2, h3, h4⟩
    obtain ⟨c3, hx3, kb, ko, hak, hnm, hc0, hcs⟩ := hks0
    subst hak
    have HX3 := Lib.hid hx3
    obtain ⟨k3, bits3, hi3, lo3, text3, more3, sub3, bs3, kids3⟩ := x3
    obtain ⟨ab3, nb3, cb3, ak3, nk3, ck3, rfl, -⟩ := hx3
    have hkb : kb < w.heap.size := Nat.lt_of_lt_of_le (by simpa using cell_block hc0) hsw0
    have HC0 := Lib.hid hc0
    have HCS := Lib.hid hcs
    have e0 : wr.cell? ⟨kb, ko + q * 10, none⟩ = some (.string nm) := cell_below HB00.out hc0
    have hq0 : (0 : Int) ≤ (q : Int) := by omega
    have hq1 : (q : Int) < (nk2 : Int) := by omega
    have n1 : ¬ kb = w.heap.size := by omega
    have m1 : ¬ w.heap.size = kb := by omega
    have HO7 : Hid (OwnS (wr.alloc (.cells #[.string nm] 9)) (w.heap.size + 2) (.slice aS l.length cS) l) := HO.out.chg (X := fun _ => False) ((Chg.refl _ _).alloc _) (fun k hk e => e)
    have hgo : ∀ k, (Value.slice aS l.length cS).ownBlock = some k → w.heap.size + 2 ≤ k := fun k hk => (owns_lt HO.out k hk).1
    have HGO := Lib.hid hgo
    clear hc0 hcs hgo hget hat
    go_wp2_with (at_builtin; refine wpList_appS (v := .slice aS l.length cS) (xs := l) (sv := .slice (some ⟨wr.heap.size, 0, none⟩) 1 1) (l := [nm]) (B := w.heap.size + 2) (by rfl) _ _ (by rfl) (by rfl) HO7.out (by rfl) (src_str _ _ _) ?o3 ?o4 ?_)
    case o3 => have := HLL.out; simp; omega
    case o4 => first | omega | (simp; omega)
    intro v6 w6 ho6 ha6
    obtain ⟨a6, c6, hv6, -⟩ := ho6.rd
    subst hv6
    have hB6 : Below w.heap.size w w6 := ha6.below (HB.out.alloc HB.out.size _) (by simp; omega) (fun k hk => by have := HGO.out k hk; omega)
    have hBX6 : BoxV w6 w.heap.size (valCells k2 bits2 hi2 lo2 text2 more2 sub2 ab2 nb2 cb2 (some ⟨kb, ko, none⟩) nk2 ck2) := (HBX.out.keep ((Below.refl _ _).alloc (Nat.le_refl _) _)).chg ha6.chg (fun e => by have := HGO.out _ e; omega)
    have hBZ6 : BoxV w6 (w.heap.size + 1) (valCells 0 0 0 0 ByteArray.empty ByteArray.empty 0 none 0 0 none 0 0) := (HBZ.out.keep ((Below.refl _ _).alloc (Nat.le_refl _) _)).chg ha6.chg (fun e => by have := HGO.out _ e; omega)
    have hz6 : w.heap.size + 2 ≤ w6.heap.size := by have := ha6.size; simp at this; omega
    have HO6 := Lib.hid ho6
    have HB6 := Lib.hid hB6
    have HBX6 := Lib.hid hBX6
    have HBZ6 := Lib.hid hBZ6
    clear ho6 ha6 hB6 hBX6 hBZ6 e0
    have f0 : w6.frozen? ⟨w.heap.size, 0, none⟩ = false := (HBX6.out.2 0 (by omega)).2
    have c0 : w6.cell? ⟨w.heap.size, 0, none⟩ = some (.int .i64 k2) := (HBX6.out.2 0 (by omega)).1
    have e0 : w6.cell? ⟨kb, ko + q * 10 + 1, none⟩ = some (.int .i64 k3) := cell_below (HW0.out.trans (HB6.out.mono HW0.out.size)) (HCS.out 0 (by omega))
    have f1 : w6.frozen? ⟨w.heap.size, 1, none⟩ = false := (HBX6.out.2 1 (by omega)).2
    have c1 : w6.cell? ⟨w.heap.size, 1, none⟩ = some (.int .u64 (bits2 : Nat)) := (HBX6.out.2 1 (by omega)).1
    have e1 : w6.cell? ⟨kb, ko + q * 10 + 2, none⟩ = some (.int .u64 (bits3 : Nat)) := cell_below (HW0.out.trans (HB6.out.mono HW0.out.size)) (HCS.out 1 (by omega))
    have f2 : w6.frozen? ⟨w.heap.size, 2, none⟩ = false := (HBX6.out.2 2 (by omega)).2
    have c2 : w6.cell? ⟨w.heap.size, 2, none⟩ = some (.int .u64 (hi2 : Nat)) := (HBX6.out.2 2 (by omega)).1
    have e2 : w6.cell? ⟨kb, ko + q * 10 + 3, none⟩ = some (.int .u64 (hi3 : Nat)) := cell_below (HW0.out.trans (HB6.out.mono HW0.out.size)) (HCS.out 2 (by omega))
    have f3 : w6.frozen? ⟨w.heap.size, 3, none⟩ = false := (HBX6.out.2 3 (by omega)).2
    have c3 : w6.cell? ⟨w.heap.size, 3, none⟩ = some (.int .u64 (lo2 : Nat)) := (HBX6.out.2 3 (by omega)).1
    have e3 : w6.cell? ⟨kb, ko + q * 10 + 4, none⟩ = some (.int .u64 (lo3 : Nat)) := cell_below (HW0.out.trans (HB6.out.mono HW0.out.size)) (HCS.out 3 (by omega))
    have f4 : w6.frozen? ⟨w.heap.size, 4, none⟩ = false := (HBX6.out.2 4 (by omega)).2
    have c4 : w6.cell? ⟨w.heap.size, 4, none⟩ = some (.string text2) := (HBX6.out.2 4 (by omega)).1
    have e4 : w6.cell? ⟨kb, ko + q * 10 + 5, none⟩ = some (.string text3) := cell_below (HW0.out.trans (HB6.out.mono HW0.out.size)) (HCS.out 4 (by omega))
    have f5 : w6.frozen? ⟨w.heap.size, 5, none⟩ = false := (HBX6.out.2 5 (by omega)).2
    have c5 : w6.cell? ⟨w.heap.size, 5, none⟩ = some (.string more2) := (HBX6.out.2 5 (by omega)).1
    have e5 : w6.cell? ⟨kb, ko + q * 10 + 6, none⟩ = some (.string more3) := cell_below (HW0.out.trans (HB6.out.mono HW0.out.size)) (HCS.out 5 (by omega))
    have f6 : w6.frozen? ⟨w.heap.size, 6, none⟩ = false := (HBX6.out.2 6 (by omega)).2
    have c6 : w6.cell? ⟨w.heap.size, 6, none⟩ = some (.int .i64 sub2) := (HBX6.out.2 6 (by omega)).1
    have e6 : w6.cell? ⟨kb, ko + q * 10 + 7, none⟩ = some (.int .i64 sub3) := cell_below (HW0.out.trans (HB6.out.mono HW0.out.size)) (HCS.out 6 (by omega))
    have f7 : w6.frozen? ⟨w.heap.size, 7, none⟩ = false := (HBX6.out.2 7 (by omega)).2
    have c7 : w6.cell? ⟨w.heap.size, 7, none⟩ = some (.slice ab2 nb2 cb2) := (HBX6.out.2 7 (by omega)).1
    have e7 : w6.cell? ⟨kb, ko + q * 10 + 8, none⟩ = some (.slice ab3 nb3 cb3) := cell_below (HW0.out.trans (HB6.out.mono HW0.out.size)) (HCS.out 7 (by omega))
    have f8 : w6.frozen? ⟨w.heap.size, 8, none⟩ = false := (HBX6.out.2 8 (by omega)).2
    have c8 : w6.cell? ⟨w.heap.size, 8, none⟩ = some (.slice (some ⟨kb, ko, none⟩) nk2 ck2) := (HBX6.out.2 8 (by omega)).1
    have e8 : w6.cell? ⟨kb, ko + q * 10 + 9, none⟩ = some (.slice ak3 nk3 ck3) := cell_below (HW0.out.trans (HB6.out.mono HW0.out.size)) (HCS.out 8 (by omega))
    have g1 : w.heap.size < w6.heap.size := by omega
    go_wp2_with fail
    go_roundw
    case rel =>
      refine ⟨_, j + 1, _, l ++ [nm], _, rfl, by simp, by rw [HN.out]; omega, HNX, HX3.out, ?_, ?_, ?_, by simp [HLL.out], ?_, by simpa using hz6⟩
      · refine ⟨by simpa using g1, fun e he => ?_⟩
        rcases (by omega : e = 0 ∨ e = 1 ∨ e = 2 ∨ e = 3 ∨ e = 4 ∨ e = 5 ∨ e = 6 ∨ e = 7 ∨ e = 8) with rfl | rfl | rfl | rfl | rfl | rfl | rfl | rfl | rfl <;> exact ⟨by simp [go_sem, *], by simp [*]⟩
      · refine HBZ6.out.chg (X := fun k => k = w.heap.size) ?_ (by omega)
        (repeat' (first | with_reducible exact Chg.refl _ _ | with_reducible apply Chg.drew | with_reducible refine Chg.alloc ?_ _ | with_reducible refine Chg.setCell ?_ (fun h => ?_) _))
        all_goals rfl
      · refine HO6.out.chg (X := fun k => k = w.heap.size) ?_ (fun k hk e => by omega)
        (repeat' (first | with_reducible exact Chg.refl _ _ | with_reducible apply Chg.drew | with_reducible refine Chg.alloc ?_ _ | with_reducible refine Chg.setCell ?_ (fun h => ?_) _))
        all_goals rfl
      · skip
        (repeat' (first | with_reducible exact HB6.out | with_reducible apply Below.drew | with_reducible refine Below.alloc ?_ (by first | omega | (simp; done) | (simp; omega)) _ | with_reducible refine Below.setCell ?_ (by first | omega | (simp only []; omega)) _))
    case measure => simp [intOf]; omega

end Go.Proofs.Ytiodjhcjfbnocaa
