/- The reference's Get and Names, walked. -/
import Derived.Test.YtiodjhcjfbnocaaPaD
import Derived.Deep.RegionLaw
namespace Go.Proofs.Ytiodjhcjfbnocaa
open Go.RowKit
set_option linter.unusedVariables false
set_option linter.unusedSimpArgs false

theorem step_appS {w : World} {ops : Array Oper} {o : Oper} {a : Act} {K : Act → World → Prop} {Q : Exit → Act → World → Prop} {E : Prop} (hgd : o.guard = none) (s x : Operand)
    (ho : o.op = .call { callee := .builtin .append, args := #[s, x], argTypes := #[39, 39] })
    {B : Nat} {v : Value} {xs : List ByteArray} (hs : a.eval s = v) (hown : OwnS w B v xs) {sv : Value} {l : List ByteArray} (hx : a.eval x = sv) (hsrc : Src w sv l.length 1 (strCells l))
    (hb : xs.length + l.length ≤ 1000000000) (hbase : B ≤ w.heap.size)
    (h : ∀ v' w', OwnS w' B v' (xs ++ l) → AppF w w' v v' → K (a.put o.dst v') w') : if Region.wanted o (yielded ops a.tmps) = true then Oper.wp Try.prog o a w K Q else E :=
  step_app Try.underlying39 infoStr rfl (by omega) hgd s x ho hs hown hx hsrc (by unfold maxLen; omega) (by omega) hbase
    fun v' w' h1 h2 => h v' w' (by unfold OwnS strCells; rw [List.map_append, List.length_append]; exact h1) h2

def GkRel (w0 w : World) (t : T) (p : List Int) (i : Value) (wr : World) : Prop :=
  ∃ (j : Nat) (x : T) (l : List ByteArray) (c : Array Value), i = .int .i64 j ∧ j ≤ p.length ∧ Hid (goT t (p.take j) = some (x, l)) ∧ RdT w0 x c ∧ BoxV wr w.heap.size c ∧ BoxV wr (w.heap.size + 1) (valCells 0 0 0 0 ByteArray.empty ByteArray.empty 0 none 0 0 none 0 0) ∧ Below w.heap.size w wr ∧ w.heap.size + 2 ≤ wr.heap.size
def NkRel (w0 w : World) (t : T) (p : List Int) (o i : Value) (wr : World) : Prop :=
  ∃ (u : Value) (j : Nat) (x : T) (l : List ByteArray) (c : Array Value), u = o ∧ i = .int .i64 j ∧ j ≤ p.length ∧ Hid (goT t (p.take j) = some (x, l)) ∧ RdT w0 x c ∧ BoxV wr w.heap.size c ∧ OwnS wr (w.heap.size + 1) u l ∧ l.length = j ∧ Below w.heap.size w wr ∧ w.heap.size + 1 ≤ wr.heap.size

set_option maxRecDepth 100000 in
set_option maxHeartbeats 16000000 in
theorem rget_calls (w0 : World) (t : T) (w : World) (hw0 : Below w0.heap.size w0 w) (c : Array Value) (h : RdT w0 t c) (a : Option Addr) (p : List Int) (n cap : Nat) (S : Nat → Prop) (hp : RdPS S w a p) (hn : p.length = n) (hnb : n ≤ 1000000) :
    Calls Try.prog 19 #[.agg c, .slice a n cap] w fun e w' => ∃ c', e = .returned (.tuple #[.agg c', .bool (goT t p).isSome]) ∧ RdT w0 (goX t p) c' ∧ Below w.heap.size w w' := by
  have HXR := Lib.hid (show ∀ x l, goT t p = some (x, l) → (goT t p).isSome = true ∧ goX t p = x ∧ goN t p = l from fun x l e => by unfold goX goN; rw [e]; exact ⟨rfl, rfl, rfl⟩)
  have HNR := Lib.hid (show goT t p = none → (goT t p).isSome = false ∧ goX t p = T0 ∧ goN t p = [] from fun e => by unfold goX goN; rw [e]; exact ⟨rfl, rfl, rfl⟩)
  obtain ⟨R, hR⟩ : ∃ R, R = goT t p := ⟨_, rfl⟩
  obtain ⟨ok, hok⟩ : ∃ ok, ok = (goT t p).isSome := ⟨_, rfl⟩
  obtain ⟨gx, hgx⟩ : ∃ x, x = goX t p := ⟨_, rfl⟩
  obtain ⟨gn, hgn⟩ : ∃ x, x = goN t p := ⟨_, rfl⟩
  rw [← hok, ← hgx, ← hgn, ← hR] at HXR HNR
  rw [← hok, ← hgx]
  have HR := Lib.hid hR
  have HN := Lib.hid hn
  have HP := Lib.hid hp
  have HT := Lib.hid h
  have HW0 := Lib.hid hw0
  have hsw0 := hw0.size
  have HT0 : Hid (goT t (p.take 0) = some (t, [])) := by show _ = _; simp [goT]
  obtain ⟨k, bits, hi, lo, text, more, sub, bs, kids⟩ := t
  obtain ⟨ab, nb, cb, ak, nk, ck, rfl, -⟩ := h
  clear hR hok hgx hgn hn hp hw0
  go_enter Try.func19, Try.ntmps19
  go_wp2_with fail
  go_loopw [6] (fun i wr => GkRel w0 w (.mk k bits hi lo text more sub bs kids) p i wr) (fun i _ => n - (intOf i).toNat)
  case atStart =>
    refine ⟨0, _, [], _, rfl, Nat.zero_le _, HT0, HT.out, ?_, ?_, ?_, by simp⟩
    · exact (BoxV.new w _ _).keep ((Below.refl _ _).alloc (Nat.le_refl _) _)
    · rw [show w.heap.size + 1 = (w.alloc (.cells (valCells k bits hi lo text more sub ab nb cb ak nk ck) 26)).heap.size by simp]
      exact BoxV.new _ _ _
    · exact ((Below.refl _ _).alloc (Nat.le_refl _) _).alloc (by simp) _
  case round =>
    obtain ⟨j, x, l, c, rfl, hj, hg, hx, hbx, hbz, hb, hz⟩ := hrel
    have HBZ := Lib.hid hbz
    clear hbz
    rw [HN.out] at hj
    have HG := hg
    have HX := Lib.hid hx
    have HBX := Lib.hid hbx
    have HB := Lib.hid hb
    have hb0 : Below w0.heap.size w0 wr := HW0.out.trans (hb.mono HW0.out.size)
    have HB00 := Lib.hid hb0
    have hxw := hx.keep hb0
    clear hb0
    obtain ⟨k2, bits2, hi2, lo2, text2, more2, sub2, bs2, kids2⟩ := x
    obtain ⟨ab2, nb2, cb2, ak2, nk2, ck2, rfl, -, -, hkl, hnk, hks⟩ := hxw
    have HKL := Lib.hid hkl
    have hnk9 := hnk.1
    have f0 : wr.frozen? ⟨w.heap.size, 0, none⟩ = false := (HBX.out.2 0 (by omega)).2
    have c0 : wr.cell? ⟨w.heap.size, 0, none⟩ = some (.int .i64 k2) := (HBX.out.2 0 (by omega)).1
    have r0 : wr.frozen? ⟨w.heap.size + 1, 0, none⟩ = false := (HBZ.out.2 0 (by omega)).2
    have z0 : wr.cell? ⟨w.heap.size + 1, 0, none⟩ = some (.int .i64 0) := (HBZ.out.2 0 (by omega)).1
    have f1 : wr.frozen? ⟨w.heap.size, 1, none⟩ = false := (HBX.out.2 1 (by omega)).2
    have c1 : wr.cell? ⟨w.heap.size, 1, none⟩ = some (.int .u64 (bits2 : Nat)) := (HBX.out.2 1 (by omega)).1
    have r1 : wr.frozen? ⟨w.heap.size + 1, 1, none⟩ = false := (HBZ.out.2 1 (by omega)).2
    have z1 : wr.cell? ⟨w.heap.size + 1, 1, none⟩ = some (.int .u64 0) := (HBZ.out.2 1 (by omega)).1
    have f2 : wr.frozen? ⟨w.heap.size, 2, none⟩ = false := (HBX.out.2 2 (by omega)).2
    have c2 : wr.cell? ⟨w.heap.size, 2, none⟩ = some (.int .u64 (hi2 : Nat)) := (HBX.out.2 2 (by omega)).1
    have r2 : wr.frozen? ⟨w.heap.size + 1, 2, none⟩ = false := (HBZ.out.2 2 (by omega)).2
    have z2 : wr.cell? ⟨w.heap.size + 1, 2, none⟩ = some (.int .u64 0) := (HBZ.out.2 2 (by omega)).1
    have f3 : wr.frozen? ⟨w.heap.size, 3, none⟩ = false := (HBX.out.2 3 (by omega)).2
    have c3 : wr.cell? ⟨w.heap.size, 3, none⟩ = some (.int .u64 (lo2 : Nat)) := (HBX.out.2 3 (by omega)).1
    have r3 : wr.frozen? ⟨w.heap.size + 1, 3, none⟩ = false := (HBZ.out.2 3 (by omega)).2
    have z3 : wr.cell? ⟨w.heap.size + 1, 3, none⟩ = some (.int .u64 0) := (HBZ.out.2 3 (by omega)).1
    have f4 : wr.frozen? ⟨w.heap.size, 4, none⟩ = false := (HBX.out.2 4 (by omega)).2
    have c4 : wr.cell? ⟨w.heap.size, 4, none⟩ = some (.string text2) := (HBX.out.2 4 (by omega)).1
    have r4 : wr.frozen? ⟨w.heap.size + 1, 4, none⟩ = false := (HBZ.out.2 4 (by omega)).2
    have z4 : wr.cell? ⟨w.heap.size + 1, 4, none⟩ = some (.string ByteArray.empty) := (HBZ.out.2 4 (by omega)).1
    have f5 : wr.frozen? ⟨w.heap.size, 5, none⟩ = false := (HBX.out.2 5 (by omega)).2
    have c5 : wr.cell? ⟨w.heap.size, 5, none⟩ = some (.string more2) := (HBX.out.2 5 (by omega)).1
    have r5 : wr.frozen? ⟨w.heap.size + 1, 5, none⟩ = false := (HBZ.out.2 5 (by omega)).2
    have z5 : wr.cell? ⟨w.heap.size + 1, 5, none⟩ = some (.string ByteArray.empty) := (HBZ.out.2 5 (by omega)).1
    have f6 : wr.frozen? ⟨w.heap.size, 6, none⟩ = false := (HBX.out.2 6 (by omega)).2
    have c6 : wr.cell? ⟨w.heap.size, 6, none⟩ = some (.int .i64 sub2) := (HBX.out.2 6 (by omega)).1
    have r6 : wr.frozen? ⟨w.heap.size + 1, 6, none⟩ = false := (HBZ.out.2 6 (by omega)).2
    have z6 : wr.cell? ⟨w.heap.size + 1, 6, none⟩ = some (.int .i64 0) := (HBZ.out.2 6 (by omega)).1
    have f7 : wr.frozen? ⟨w.heap.size, 7, none⟩ = false := (HBX.out.2 7 (by omega)).2
    have c7 : wr.cell? ⟨w.heap.size, 7, none⟩ = some (.slice ab2 nb2 cb2) := (HBX.out.2 7 (by omega)).1
    have r7 : wr.frozen? ⟨w.heap.size + 1, 7, none⟩ = false := (HBZ.out.2 7 (by omega)).2
    have z7 : wr.cell? ⟨w.heap.size + 1, 7, none⟩ = some (.slice none 0 0) := (HBZ.out.2 7 (by omega)).1
    have f8 : wr.frozen? ⟨w.heap.size, 8, none⟩ = false := (HBX.out.2 8 (by omega)).2
    have c8 : wr.cell? ⟨w.heap.size, 8, none⟩ = some (.slice ak2 nk2 ck2) := (HBX.out.2 8 (by omega)).1
    have r8 : wr.frozen? ⟨w.heap.size + 1, 8, none⟩ = false := (HBZ.out.2 8 (by omega)).2
    have z8 : wr.cell? ⟨w.heap.size + 1, 8, none⟩ = some (.slice none 0 0) := (HBZ.out.2 8 (by omega)).1
    have g1 : w.heap.size < wr.heap.size := by omega
    clear hg hx hbx hb hkl hks hnk
    by_cases hlt : j < n
    case neg =>
      have hRes : R = some (.mk k2 bits2 hi2 lo2 text2 more2 sub2 bs2 kids2, l) := by
        rw [HR.out]
        have h1 := HG.out
        rwa [List.take_of_length_le (by rw [HN.out]; omega)] at h1
      obtain ⟨hok, hgx, hgn⟩ := HXR.out _ _ hRes
      have HOK := Lib.hid hok
      have HGX := Lib.hid hgx
      have HGN := Lib.hid hgn
      clear hRes hok hgx hgn
      have g2 : w.heap.size + 1 < wr.heap.size := by omega
      (repeat (first | go_values | go_skip | go_guarded | go_step | go_upon | (go_simp; go_at_K)))
      refine bodyPost_ret (v := .tuple #[.agg (valCells k2 bits2 hi2 lo2 text2 more2 sub2 ab2 nb2 cb2 ak2 nk2 ck2), .bool true]) (by simp [results, Try.results19, go_sem, *]) rfl ?_
      refine ⟨_, by rw [HOK.out], by rw [HGX.out]; exact HX.out, ?_⟩
      (repeat' (first | with_reducible exact HB.out | with_reducible apply Below.drew | with_reducible refine Below.alloc ?_ (by first | omega | (simp; done) | (simp; omega)) _ | with_reducible refine Below.setCell ?_ (by first | omega | (simp only []; omega)) _))
    obtain ⟨pb, po, hpa, hpc⟩ := (HP.out.keep (KeepS.below HB.out)).1 j (by rw [HN.out]; exact hlt)
    obtain ⟨i, hie⟩ : ∃ i, i = iat p j := ⟨_, rfl⟩
    have hpc2 : wr.cell? ⟨pb, po + j, none⟩ = some (.int .i64 i) := by rw [hie]; exact hpc
    have hpbw : pb < w.heap.size := by
      obtain ⟨pb', po', hpa', hpc'⟩ := HP.out.1 j (by rw [HN.out]; exact hlt)
      rw [hpa'] at hpa
      simp only [Option.some.injEq, Addr.mk.injEq, and_true] at hpa
      have := cell_block hpc'
      simp at this; omega
    have htk := take_iat p j (by rw [HN.out]; exact hlt)
    rw [← hie] at htk
    have HTK := Lib.hid htk
    have hsn := goT_snoc (p.take j) (.mk k bits hi lo text more sub bs kids) i
    rw [HG.out] at hsn
    simp only at hsn
    have HSN := Lib.hid hsn
    have HFAIL : Hid ((T.mk k2 bits2 hi2 lo2 text2 more2 sub2 bs2 kids2).kids.at? i = none → R = none) := by
      show _ → _
      intro e
      rw [HR.out]
      have h1 : goT (.mk k bits hi lo text more sub bs kids) (p.take (j + 1)) = none := by
        rw [HTK.out, HSN.out, e]
      have h2 := goT_none (p.take (j + 1)) (p.drop (j + 1)) _ h1
      rwa [List.take_append_drop] at h2
    have hj0 : (0 : Int) ≤ (j : Int) := by omega
    have hj1 : (j : Int) < (n : Int) := by omega
    clear hpc htk hsn hie
    subst hpa
    by_cases hneg : i < 0
    · have HRes : Hid (R = none) := HFAIL.out (by unfold F.at?; rw [if_pos hneg])
      have i1 : decide (i < 0) = true := by simpa using hneg
      obtain ⟨hok, hgx, hgn⟩ := HNR.out HRes.out
      have HOK := Lib.hid hok
      have HGX := Lib.hid hgx
      have HGN := Lib.hid hgn
      clear hok hgx hgn
      go_wp2_with fail
      go_quiet (fail)
      have hBd : Below w.heap.size w (wr.drewN nq) := HB.out.trans ((below_drewN wr nq wr.heap.size).mono HB.out.size)
      have HBd := Lib.hid hBd
      have hBZd := HBZ.out.keep (below_drewN wr nq wr.heap.size)
      have HBZd := Lib.hid hBZd
      clear hBd hBZd
      have r0 : (wr.drewN nq).frozen? ⟨w.heap.size + 1, 0, none⟩ = false := (HBZd.out.2 0 (by omega)).2
      have z0 : (wr.drewN nq).cell? ⟨w.heap.size + 1, 0, none⟩ = some (.int .i64 0) := (HBZd.out.2 0 (by omega)).1
      have r1 : (wr.drewN nq).frozen? ⟨w.heap.size + 1, 1, none⟩ = false := (HBZd.out.2 1 (by omega)).2
      have z1 : (wr.drewN nq).cell? ⟨w.heap.size + 1, 1, none⟩ = some (.int .u64 0) := (HBZd.out.2 1 (by omega)).1
      have r2 : (wr.drewN nq).frozen? ⟨w.heap.size + 1, 2, none⟩ = false := (HBZd.out.2 2 (by omega)).2
      have z2 : (wr.drewN nq).cell? ⟨w.heap.size + 1, 2, none⟩ = some (.int .u64 0) := (HBZd.out.2 2 (by omega)).1
      have r3 : (wr.drewN nq).frozen? ⟨w.heap.size + 1, 3, none⟩ = false := (HBZd.out.2 3 (by omega)).2
      have z3 : (wr.drewN nq).cell? ⟨w.heap.size + 1, 3, none⟩ = some (.int .u64 0) := (HBZd.out.2 3 (by omega)).1
      have r4 : (wr.drewN nq).frozen? ⟨w.heap.size + 1, 4, none⟩ = false := (HBZd.out.2 4 (by omega)).2
      have z4 : (wr.drewN nq).cell? ⟨w.heap.size + 1, 4, none⟩ = some (.string ByteArray.empty) := (HBZd.out.2 4 (by omega)).1
      have r5 : (wr.drewN nq).frozen? ⟨w.heap.size + 1, 5, none⟩ = false := (HBZd.out.2 5 (by omega)).2
      have z5 : (wr.drewN nq).cell? ⟨w.heap.size + 1, 5, none⟩ = some (.string ByteArray.empty) := (HBZd.out.2 5 (by omega)).1
      have r6 : (wr.drewN nq).frozen? ⟨w.heap.size + 1, 6, none⟩ = false := (HBZd.out.2 6 (by omega)).2
      have z6 : (wr.drewN nq).cell? ⟨w.heap.size + 1, 6, none⟩ = some (.int .i64 0) := (HBZd.out.2 6 (by omega)).1
      have r7 : (wr.drewN nq).frozen? ⟨w.heap.size + 1, 7, none⟩ = false := (HBZd.out.2 7 (by omega)).2
      have z7 : (wr.drewN nq).cell? ⟨w.heap.size + 1, 7, none⟩ = some (.slice none 0 0) := (HBZd.out.2 7 (by omega)).1
      have r8 : (wr.drewN nq).frozen? ⟨w.heap.size + 1, 8, none⟩ = false := (HBZd.out.2 8 (by omega)).2
      have z8 : (wr.drewN nq).cell? ⟨w.heap.size + 1, 8, none⟩ = some (.slice none 0 0) := (HBZd.out.2 8 (by omega)).1
      (repeat (first | go_values | go_skip | go_guarded | go_step | go_upon | (go_simp; go_at_K)))
      refine bodyPost_ret (v := .tuple #[.agg (valCells 0 0 0 0 ByteArray.empty ByteArray.empty 0 none 0 0 none 0 0), .bool false]) (by simp [results, Try.results19, go_sem, *]; rfl) rfl ?_
      refine ⟨_, by rw [HOK.out], by rw [HGX.out]; exact rd_T0 _, ?_⟩
      (repeat' (first | with_reducible exact HBd.out | with_reducible apply Below.drew | with_reducible refine Below.alloc ?_ (by first | omega | (simp; done) | (simp; omega)) _ | with_reducible refine Below.setCell ?_ (by first | omega | (simp only []; omega)) _))
    have i1 : decide (i < 0) = false := by simpa using hneg
    by_cases hbig : (nk2 : Int) ≤ i
    · have HRes : Hid (R = none) := HFAIL.out (by
        unfold F.at?
        rw [if_neg hneg]
        exact F.get_none _ _ (by show kids2.len ≤ _; rw [HKL.out]; omega))
      have i2 : decide ((nk2 : Int) ≤ i) = true := by simpa using hbig
      obtain ⟨hok, hgx, hgn⟩ := HNR.out HRes.out
      have HOK := Lib.hid hok
      have HGX := Lib.hid hgx
      have HGN := Lib.hid hgn
      clear hok hgx hgn
      go_wp2_with fail
      go_quiet (fail)
      have hBd : Below w.heap.size w (wr.drewN nq) := HB.out.trans ((below_drewN wr nq wr.heap.size).mono HB.out.size)
      have HBd := Lib.hid hBd
      have hBZd := HBZ.out.keep (below_drewN wr nq wr.heap.size)
      have HBZd := Lib.hid hBZd
      clear hBd hBZd
      have r0 : (wr.drewN nq).frozen? ⟨w.heap.size + 1, 0, none⟩ = false := (HBZd.out.2 0 (by omega)).2
      have z0 : (wr.drewN nq).cell? ⟨w.heap.size + 1, 0, none⟩ = some (.int .i64 0) := (HBZd.out.2 0 (by omega)).1
      have r1 : (wr.drewN nq).frozen? ⟨w.heap.size + 1, 1, none⟩ = false := (HBZd.out.2 1 (by omega)).2
      have z1 : (wr.drewN nq).cell? ⟨w.heap.size + 1, 1, none⟩ = some (.int .u64 0) := (HBZd.out.2 1 (by omega)).1
      have r2 : (wr.drewN nq).frozen? ⟨w.heap.size + 1, 2, none⟩ = false := (HBZd.out.2 2 (by omega)).2
      have z2 : (wr.drewN nq).cell? ⟨w.heap.size + 1, 2, none⟩ = some (.int .u64 0) := (HBZd.out.2 2 (by omega)).1
      have r3 : (wr.drewN nq).frozen? ⟨w.heap.size + 1, 3, none⟩ = false := (HBZd.out.2 3 (by omega)).2
      have z3 : (wr.drewN nq).cell? ⟨w.heap.size + 1, 3, none⟩ = some (.int .u64 0) := (HBZd.out.2 3 (by omega)).1
      have r4 : (wr.drewN nq).frozen? ⟨w.heap.size + 1, 4, none⟩ = false := (HBZd.out.2 4 (by omega)).2
      have z4 : (wr.drewN nq).cell? ⟨w.heap.size + 1, 4, none⟩ = some (.string ByteArray.empty) := (HBZd.out.2 4 (by omega)).1
      have r5 : (wr.drewN nq).frozen? ⟨w.heap.size + 1, 5, none⟩ = false := (HBZd.out.2 5 (by omega)).2
      have z5 : (wr.drewN nq).cell? ⟨w.heap.size + 1, 5, none⟩ = some (.string ByteArray.empty) := (HBZd.out.2 5 (by omega)).1
      have r6 : (wr.drewN nq).frozen? ⟨w.heap.size + 1, 6, none⟩ = false := (HBZd.out.2 6 (by omega)).2
      have z6 : (wr.drewN nq).cell? ⟨w.heap.size + 1, 6, none⟩ = some (.int .i64 0) := (HBZd.out.2 6 (by omega)).1
      have r7 : (wr.drewN nq).frozen? ⟨w.heap.size + 1, 7, none⟩ = false := (HBZd.out.2 7 (by omega)).2
      have z7 : (wr.drewN nq).cell? ⟨w.heap.size + 1, 7, none⟩ = some (.slice none 0 0) := (HBZd.out.2 7 (by omega)).1
      have r8 : (wr.drewN nq).frozen? ⟨w.heap.size + 1, 8, none⟩ = false := (HBZd.out.2 8 (by omega)).2
      have z8 : (wr.drewN nq).cell? ⟨w.heap.size + 1, 8, none⟩ = some (.slice none 0 0) := (HBZd.out.2 8 (by omega)).1
      (repeat (first | go_values | go_skip | go_guarded | go_step | go_upon | (go_simp; go_at_K)))
      refine bodyPost_ret (v := .tuple #[.agg (valCells 0 0 0 0 ByteArray.empty ByteArray.empty 0 none 0 0 none 0 0), .bool false]) (by simp [results, Try.results19, go_sem, *]; rfl) rfl ?_
      refine ⟨_, by rw [HOK.out], by rw [HGX.out]; exact rd_T0 _, ?_⟩
      (repeat' (first | with_reducible exact HBd.out | with_reducible apply Below.drew | with_reducible refine Below.alloc ?_ (by first | omega | (simp; done) | (simp; omega)) _ | with_reducible refine Below.setCell ?_ (by first | omega | (simp only []; omega)) _))
    have i2 : decide ((nk2 : Int) ≤ i) = false := by simpa using hbig
    obtain ⟨q, rfl⟩ : ∃ q : Nat, i = q := ⟨i.toNat, by omega⟩
    have hq : q < nk2 := by omega
    obtain ⟨⟨nm, x3⟩, hget⟩ := F.get_some kids2 q (by rw [HKL.out]; exact hq)
    have hat : (T.mk k2 bits2 hi2 lo2 text2 more2 sub2 bs2 kids2).kids.at? (q : Int) = some (nm, x3) := by
      unfold F.at?
      rw [if_neg (by omega), Int.toNat_natCast]
      exact hget
    have HNX : Hid (goT (.mk k bits hi lo text more sub bs kids) (p.take (j + 1)) = some (x3, l ++ [nm])) := by
      show _ = _
      rw [HTK.out, HSN.out, hat]
    have hX0 : RdT w0 (.mk k2 bits2 hi2 lo2 text2 more2 sub2 bs2 kids2) (valCells k2 bits2 hi2 lo2 text2 more2 sub2 ab2 nb2 cb2 ak2 nk2 ck2) := HX.out
    have hks0 : ∃ c3, RdT w0 x3 c3 ∧ ∃ b o, ak2 = some ⟨b, o, none⟩ ∧ nm.size ≤ 9223372036854775807 ∧ w0.cell? ⟨b, o + q * 10, none⟩ = some (.string nm) ∧ (∀ e, e < 9 → w0.cell? ⟨b, o + q * 10 + (e + 1), none⟩ = c3[e]?) := by
      obtain ⟨ab', nb', cb', ak', nk', ck', he, -, -, -, -, hks'⟩ := hX0
      have h8 := congrArg (fun A => A[8]?) he
      simp at h8
      obtain ⟨rfl, rfl, rfl⟩ := h8
      obtain ⟨b, o, c3, h1, h2, h3, h4, h5⟩ := hks'.at hget
      exact ⟨c3, h5, b, o, h1, h2, h3, h4⟩
    obtain ⟨c3, hx3, kb, ko, hak, hnm, hc0, hcs⟩ := hks0
    subst hak
    have HX3 := Lib.hid hx3
    obtain ⟨k3, bits3, hi3, lo3, text3, more3, sub3, bs3, kids3⟩ := x3
    obtain ⟨ab3, nb3, cb3, ak3, nk3, ck3, rfl, -⟩ := hx3
    have hkb : kb < w.heap.size := Nat.lt_of_lt_of_le (by simpa using cell_block hc0) hsw0
    have HC0 := Lib.hid hc0
    have HCS := Lib.hid hcs
    have hq0 : (0 : Int) ≤ (q : Int) := by omega
    have hq1 : (q : Int) < (nk2 : Int) := by omega
    have n1 : ¬ kb = w.heap.size := by omega
    have m1 : ¬ w.heap.size = kb := by omega
    have n2 : ¬ pb = w.heap.size := by omega
    have m2 : ¬ w.heap.size = pb := by omega
    have HPC : Hid (wr.cell? ⟨pb, po + j, none⟩ = some (.int .i64 (q : Nat))) := hpc2
    clear hc0 hcs hget hat hX0
    go_wp2_with fail
    go_quiet (fail)
    have HBd : Hid (Below w.heap.size w (wr.drewN nq)) := HB.out.trans ((below_drewN wr nq wr.heap.size).mono HB.out.size)
    have HBXd := Lib.hid (HBX.out.keep (below_drewN wr nq wr.heap.size))
    have HBZd := Lib.hid (HBZ.out.keep (below_drewN wr nq wr.heap.size))
    have hpd : (wr.drewN nq).cell? ⟨pb, po + j, none⟩ = some (.int .i64 (q : Nat)) := cell_below (below_drewN wr nq wr.heap.size) HPC.out
    have hsd : (wr.drewN nq).heap.size = wr.heap.size := by simp
    clear hpc2 f0 c0 f1 c1 f2 c2 f3 c3 f4 c4 f5 c5 f6 c6 f7 c7 f8 c8 r0 z0 r1 z1 r2 z2 r3 z3 r4 z4 r5 z5 r6 z6 r7 z7 r8 z8
    obtain ⟨wd, hwd⟩ : ∃ W, W = wr.drewN nq := ⟨_, rfl⟩
    rw [← hwd] at HBd HBXd hpd hsd HBZd ⊢
    clear hwd
    have g3 : w.heap.size < wd.heap.size := by omega
    have hszd : w.heap.size + 2 ≤ wd.heap.size := by omega
    clear hsd
    have f0 : wd.frozen? ⟨w.heap.size, 0, none⟩ = false := (HBXd.out.2 0 (by omega)).2
    have c0 : wd.cell? ⟨w.heap.size, 0, none⟩ = some (.int .i64 k2) := (HBXd.out.2 0 (by omega)).1
    have e0 : wd.cell? ⟨kb, ko + q * 10 + 1, none⟩ = some (.int .i64 k3) := cell_below (HW0.out.trans (HBd.out.mono HW0.out.size)) (HCS.out 0 (by omega))
    have f1 : wd.frozen? ⟨w.heap.size, 1, none⟩ = false := (HBXd.out.2 1 (by omega)).2
    have c1 : wd.cell? ⟨w.heap.size, 1, none⟩ = some (.int .u64 (bits2 : Nat)) := (HBXd.out.2 1 (by omega)).1
    have e1 : wd.cell? ⟨kb, ko + q * 10 + 2, none⟩ = some (.int .u64 (bits3 : Nat)) := cell_below (HW0.out.trans (HBd.out.mono HW0.out.size)) (HCS.out 1 (by omega))
    have f2 : wd.frozen? ⟨w.heap.size, 2, none⟩ = false := (HBXd.out.2 2 (by omega)).2
    have c2 : wd.cell? ⟨w.heap.size, 2, none⟩ = some (.int .u64 (hi2 : Nat)) := (HBXd.out.2 2 (by omega)).1
    have e2 : wd.cell? ⟨kb, ko + q * 10 + 3, none⟩ = some (.int .u64 (hi3 : Nat)) := cell_below (HW0.out.trans (HBd.out.mono HW0.out.size)) (HCS.out 2 (by omega))
    have f3 : wd.frozen? ⟨w.heap.size, 3, none⟩ = false := (HBXd.out.2 3 (by omega)).2
    have c3 : wd.cell? ⟨w.heap.size, 3, none⟩ = some (.int .u64 (lo2 : Nat)) := (HBXd.out.2 3 (by omega)).1
    have e3 : wd.cell? ⟨kb, ko + q * 10 + 4, none⟩ = some (.int .u64 (lo3 : Nat)) := cell_below (HW0.out.trans (HBd.out.mono HW0.out.size)) (HCS.out 3 (by omega))
    have f4 : wd.frozen? ⟨w.heap.size, 4, none⟩ = false := (HBXd.out.2 4 (by omega)).2
    have c4 : wd.cell? ⟨w.heap.size, 4, none⟩ = some (.string text2) := (HBXd.out.2 4 (by omega)).1
    have e4 : wd.cell? ⟨kb, ko + q * 10 + 5, none⟩ = some (.string text3) := cell_below (HW0.out.trans (HBd.out.mono HW0.out.size)) (HCS.out 4 (by omega))
    have f5 : wd.frozen? ⟨w.heap.size, 5, none⟩ = false := (HBXd.out.2 5 (by omega)).2
    have c5 : wd.cell? ⟨w.heap.size, 5, none⟩ = some (.string more2) := (HBXd.out.2 5 (by omega)).1
    have e5 : wd.cell? ⟨kb, ko + q * 10 + 6, none⟩ = some (.string more3) := cell_below (HW0.out.trans (HBd.out.mono HW0.out.size)) (HCS.out 5 (by omega))
    have f6 : wd.frozen? ⟨w.heap.size, 6, none⟩ = false := (HBXd.out.2 6 (by omega)).2
    have c6 : wd.cell? ⟨w.heap.size, 6, none⟩ = some (.int .i64 sub2) := (HBXd.out.2 6 (by omega)).1
    have e6 : wd.cell? ⟨kb, ko + q * 10 + 7, none⟩ = some (.int .i64 sub3) := cell_below (HW0.out.trans (HBd.out.mono HW0.out.size)) (HCS.out 6 (by omega))
    have f7 : wd.frozen? ⟨w.heap.size, 7, none⟩ = false := (HBXd.out.2 7 (by omega)).2
    have c7 : wd.cell? ⟨w.heap.size, 7, none⟩ = some (.slice ab2 nb2 cb2) := (HBXd.out.2 7 (by omega)).1
    have e7 : wd.cell? ⟨kb, ko + q * 10 + 8, none⟩ = some (.slice ab3 nb3 cb3) := cell_below (HW0.out.trans (HBd.out.mono HW0.out.size)) (HCS.out 7 (by omega))
    have f8 : wd.frozen? ⟨w.heap.size, 8, none⟩ = false := (HBXd.out.2 8 (by omega)).2
    have c8 : wd.cell? ⟨w.heap.size, 8, none⟩ = some (.slice (some ⟨kb, ko, none⟩) nk2 ck2) := (HBXd.out.2 8 (by omega)).1
    have e8 : wd.cell? ⟨kb, ko + q * 10 + 9, none⟩ = some (.slice ak3 nk3 ck3) := cell_below (HW0.out.trans (HBd.out.mono HW0.out.size)) (HCS.out 8 (by omega))
    have e9 : wd.cell? ⟨kb, ko + q * 10, none⟩ = some (.string nm) := cell_below (HW0.out.trans (HBd.out.mono HW0.out.size)) HC0.out
    go_wp2_with fail
    go_region
    all_goals
      go_wp2_with fail
      go_roundw
      case rel =>
        refine ⟨j + 1, _, l ++ [nm], _, by simp, by rw [HN.out]; omega, HNX, HX3.out, ?_, ?_, ?_, by simp; omega⟩
        · refine ⟨by simp; omega, fun e he => ?_⟩
          rcases (by omega : e = 0 ∨ e = 1 ∨ e = 2 ∨ e = 3 ∨ e = 4 ∨ e = 5 ∨ e = 6 ∨ e = 7 ∨ e = 8) with rfl | rfl | rfl | rfl | rfl | rfl | rfl | rfl | rfl <;> exact ⟨by simp [go_sem, *], by simp [*]⟩
        · refine HBZd.out.chg (X := fun k => k = w.heap.size) ?_ (by omega)
          (repeat' (first | with_reducible exact Chg.refl _ _ | with_reducible apply Chg.drew | with_reducible refine Chg.alloc ?_ _ | with_reducible refine Chg.setCell ?_ (fun h => ?_) _))
          all_goals rfl
        · skip
          (repeat' (first | with_reducible exact HBd.out | with_reducible apply Below.drew | with_reducible refine Below.alloc ?_ (by first | omega | (simp; done) | (simp; omega)) _ | with_reducible refine Below.setCell ?_ (by first | omega | (simp only []; omega)) _))
      case measure => simp [intOf]; omega

set_option maxRecDepth 100000 in
set_option maxHeartbeats 16000000 in
theorem rnames_calls (w0 : World) (t : T) (w : World) (hw0 : Below w0.heap.size w0 w) (c : Array Value) (h : RdT w0 t c) (a : Option Addr) (p : List Int) (n cap : Nat) (S : Nat → Prop) (hp : RdPS S w a p) (hn : p.length = n) (hnb : n ≤ 1000000) :
    Calls Try.prog 21 #[.agg c, .slice a n cap] w fun e w' => ∃ v, e = .returned (.tuple #[v, .bool (goT t p).isSome]) ∧ OwnS w' w.heap.size v (goN t p) ∧ Below w.heap.size w w' := by
  have HXR := Lib.hid (show ∀ x l, goT t p = some (x, l) → (goT t p).isSome = true ∧ goX t p = x ∧ goN t p = l from fun x l e => by unfold goX goN; rw [e]; exact ⟨rfl, rfl, rfl⟩)
  have HNR := Lib.hid (show goT t p = none → (goT t p).isSome = false ∧ goX t p = T0 ∧ goN t p = [] from fun e => by unfold goX goN; rw [e]; exact ⟨rfl, rfl, rfl⟩)
  obtain ⟨R, hR⟩ : ∃ R, R = goT t p := ⟨_, rfl⟩
  obtain ⟨ok, hok⟩ : ∃ ok, ok = (goT t p).isSome := ⟨_, rfl⟩
  obtain ⟨gx, hgx⟩ : ∃ x, x = goX t p := ⟨_, rfl⟩
  obtain ⟨gn, hgn⟩ : ∃ x, x = goN t p := ⟨_, rfl⟩
  rw [← hok, ← hgx, ← hgn, ← hR] at HXR HNR
  rw [← hok, ← hgn]
  have HR := Lib.hid hR
  have HN := Lib.hid hn
  have HP := Lib.hid hp
  have HT := Lib.hid h
  have HW0 := Lib.hid hw0
  have hsw0 := hw0.size
  have HT0 : Hid (goT t (p.take 0) = some (t, [])) := by show _ = _; simp [goT]
  obtain ⟨k, bits, hi, lo, text, more, sub, bs, kids⟩ := t
  obtain ⟨ab, nb, cb, ak, nk, ck, rfl, -⟩ := h
  clear hR hok hgx hgn hn hp hw0
  go_enter Try.func21, Try.ntmps21
  go_wp2_with fail
  go_loopw [6, 7] (fun o i wr => NkRel w0 w (.mk k bits hi lo text more sub bs kids) p o i wr) (fun _ i _ => n - (intOf i).toNat)
  case atStart => exact ⟨_, 0, _, [], _, rfl, rfl, Nat.zero_le _, HT0, HT.out, BoxV.new w _ _, World.ownsRow_nil _ _ _ _, rfl, (Below.refl _ _).alloc (Nat.le_refl _) _, by simp⟩
  case round =>
    obtain ⟨u, j, x, l, c, rfl, rfl, hj, hg, hx, hbx, ho, hll, hb, hz⟩ := hrel
    have HO := Lib.hid ho
    have HLL := Lib.hid hll
    clear ho hll
    rw [HN.out] at hj
    have HG := hg
    have HX := Lib.hid hx
    have HBX := Lib.hid hbx
    have HB := Lib.hid hb
    have hb0 : Below w0.heap.size w0 wr := HW0.out.trans (hb.mono HW0.out.size)
    have HB00 := Lib.hid hb0
    have hxw := hx.keep hb0
    clear hb0
    obtain ⟨k2, bits2, hi2, lo2, text2, more2, sub2, bs2, kids2⟩ := x
    obtain ⟨ab2, nb2, cb2, ak2, nk2, ck2, rfl, -, -, hkl, hnk, hks⟩ := hxw
    have HKL := Lib.hid hkl
    have hnk9 := hnk.1
    have f0 : wr.frozen? ⟨w.heap.size, 0, none⟩ = false := (HBX.out.2 0 (by omega)).2
    have c0 : wr.cell? ⟨w.heap.size, 0, none⟩ = some (.int .i64 k2) := (HBX.out.2 0 (by omega)).1
    have f1 : wr.frozen? ⟨w.heap.size, 1, none⟩ = false := (HBX.out.2 1 (by omega)).2
    have c1 : wr.cell? ⟨w.heap.size, 1, none⟩ = some (.int .u64 (bits2 : Nat)) := (HBX.out.2 1 (by omega)).1
    have f2 : wr.frozen? ⟨w.heap.size, 2, none⟩ = false := (HBX.out.2 2 (by omega)).2
    have c2 : wr.cell? ⟨w.heap.size, 2, none⟩ = some (.int .u64 (hi2 : Nat)) := (HBX.out.2 2 (by omega)).1
    have f3 : wr.frozen? ⟨w.heap.size, 3, none⟩ = false := (HBX.out.2 3 (by omega)).2
    have c3 : wr.cell? ⟨w.heap.size, 3, none⟩ = some (.int .u64 (lo2 : Nat)) := (HBX.out.2 3 (by omega)).1
    have f4 : wr.frozen? ⟨w.heap.size, 4, none⟩ = false := (HBX.out.2 4 (by omega)).2
    have c4 : wr.cell? ⟨w.heap.size, 4, none⟩ = some (.string text2) := (HBX.out.2 4 (by omega)).1
    have f5 : wr.frozen? ⟨w.heap.size, 5, none⟩ = false := (HBX.out.2 5 (by omega)).2
    have c5 : wr.cell? ⟨w.heap.size, 5, none⟩ = some (.string more2) := (HBX.out.2 5 (by omega)).1
    have f6 : wr.frozen? ⟨w.heap.size, 6, none⟩ = false := (HBX.out.2 6 (by omega)).2
    have c6 : wr.cell? ⟨w.heap.size, 6, none⟩ = some (.int .i64 sub2) := (HBX.out.2 6 (by omega)).1
    have f7 : wr.frozen? ⟨w.heap.size, 7, none⟩ = false := (HBX.out.2 7 (by omega)).2
    have c7 : wr.cell? ⟨w.heap.size, 7, none⟩ = some (.slice ab2 nb2 cb2) := (HBX.out.2 7 (by omega)).1
    have f8 : wr.frozen? ⟨w.heap.size, 8, none⟩ = false := (HBX.out.2 8 (by omega)).2
    have c8 : wr.cell? ⟨w.heap.size, 8, none⟩ = some (.slice ak2 nk2 ck2) := (HBX.out.2 8 (by omega)).1
    have g1 : w.heap.size < wr.heap.size := by omega
    clear hg hx hbx hb hkl hks hnk
    by_cases hlt : j < n
    case neg =>
      have hRes : R = some (.mk k2 bits2 hi2 lo2 text2 more2 sub2 bs2 kids2, l) := by
        rw [HR.out]
        have h1 := HG.out
        rwa [List.take_of_length_le (by rw [HN.out]; omega)] at h1
      obtain ⟨hok, hgx, hgn⟩ := HXR.out _ _ hRes
      have HOK := Lib.hid hok
      have HGX := Lib.hid hgx
      have HGN := Lib.hid hgn
      clear hRes hok hgx hgn
      obtain ⟨aS, cS, rfl, -⟩ := HO.out.rd
      go_wp2_with fail
      go_ret2
      refine ⟨_, by rw [HOK.out]; rfl, ?_, HB.out⟩
      rw [HGN.out]; exact HO.out.mono (by omega)
    obtain ⟨pb, po, hpa, hpc⟩ := (HP.out.keep (KeepS.below HB.out)).1 j (by rw [HN.out]; exact hlt)
    obtain ⟨i, hie⟩ : ∃ i, i = iat p j := ⟨_, rfl⟩
    have hpc2 : wr.cell? ⟨pb, po + j, none⟩ = some (.int .i64 i) := by rw [hie]; exact hpc
    have hpbw : pb < w.heap.size := by
      obtain ⟨pb', po', hpa', hpc'⟩ := HP.out.1 j (by rw [HN.out]; exact hlt)
      rw [hpa'] at hpa
      simp only [Option.some.injEq, Addr.mk.injEq, and_true] at hpa
      have := cell_block hpc'
      simp at this; omega
    have htk := take_iat p j (by rw [HN.out]; exact hlt)
    rw [← hie] at htk
    have HTK := Lib.hid htk
    have hsn := goT_snoc (p.take j) (.mk k bits hi lo text more sub bs kids) i
    rw [HG.out] at hsn
    simp only at hsn
    have HSN := Lib.hid hsn
    have HFAIL : Hid ((T.mk k2 bits2 hi2 lo2 text2 more2 sub2 bs2 kids2).kids.at? i = none → R = none) := by
      show _ → _
      intro e
      rw [HR.out]
      have h1 : goT (.mk k bits hi lo text more sub bs kids) (p.take (j + 1)) = none := by
        rw [HTK.out, HSN.out, e]
      have h2 := goT_none (p.take (j + 1)) (p.drop (j + 1)) _ h1
      rwa [List.take_append_drop] at h2
    have hj0 : (0 : Int) ≤ (j : Int) := by omega
    have hj1 : (j : Int) < (n : Int) := by omega
    clear hpc htk hsn hie
    subst hpa
    obtain ⟨aS, cS, rfl, hlS, -⟩ := HO.out.rd
    by_cases hneg : i < 0
    · have HRes : Hid (R = none) := HFAIL.out (by unfold F.at?; rw [if_pos hneg])
      have i1 : decide (i < 0) = true := by simpa using hneg
      obtain ⟨hok, hgx, hgn⟩ := HNR.out HRes.out
      have HOK := Lib.hid hok
      have HGX := Lib.hid hgx
      have HGN := Lib.hid hgn
      clear hok hgx hgn
      go_wp2_with fail
      go_quiet (fail)
      go_wp2_with fail
      go_ret2
      refine ⟨_, by rw [HOK.out]; rfl, by rw [HGN.out]; exact World.ownsRow_nil _ _ _ _, HB.out.trans ((below_drewN _ _ _).mono HB.out.size)⟩
    have i1 : decide (i < 0) = false := by simpa using hneg
    by_cases hbig : (nk2 : Int) ≤ i
    · have HRes : Hid (R = none) := HFAIL.out (by
        unfold F.at?
        rw [if_neg hneg]
        exact F.get_none _ _ (by show kids2.len ≤ _; rw [HKL.out]; omega))
      have i2 : decide ((nk2 : Int) ≤ i) = true := by simpa using hbig
      obtain ⟨hok, hgx, hgn⟩ := HNR.out HRes.out
      have HOK := Lib.hid hok
      have HGX := Lib.hid hgx
      have HGN := Lib.hid hgn
      clear hok hgx hgn
      go_wp2_with fail
      go_quiet (fail)
      go_wp2_with fail
      go_ret2
      refine ⟨_, by rw [HOK.out]; rfl, by rw [HGN.out]; exact World.ownsRow_nil _ _ _ _, HB.out.trans ((below_drewN _ _ _).mono HB.out.size)⟩
    have i2 : decide ((nk2 : Int) ≤ i) = false := by simpa using hbig
    obtain ⟨q, rfl⟩ : ∃ q : Nat, i = q := ⟨i.toNat, by omega⟩
    have hq : q < nk2 := by omega
    obtain ⟨⟨nm, x3⟩, hget⟩ := F.get_some kids2 q (by rw [HKL.out]; exact hq)
    have hat : (T.mk k2 bits2 hi2 lo2 text2 more2 sub2 bs2 kids2).kids.at? (q : Int) = some (nm, x3) := by
      unfold F.at?
      rw [if_neg (by omega), Int.toNat_natCast]
      exact hget
    have HNX : Hid (goT (.mk k bits hi lo text more sub bs kids) (p.take (j + 1)) = some (x3, l ++ [nm])) := by
      show _ = _
      rw [HTK.out, HSN.out, hat]
    have hX0 : RdT w0 (.mk k2 bits2 hi2 lo2 text2 more2 sub2 bs2 kids2) (valCells k2 bits2 hi2 lo2 text2 more2 sub2 ab2 nb2 cb2 ak2 nk2 ck2) := HX.out
    have hks0 : ∃ c3, RdT w0 x3 c3 ∧ ∃ b o, ak2 = some ⟨b, o, none⟩ ∧ nm.size ≤ 9223372036854775807 ∧ w0.cell? ⟨b, o + q * 10, none⟩ = some (.string nm) ∧ (∀ e, e < 9 → w0.cell? ⟨b, o + q * 10 + (e + 1), none⟩ = c3[e]?) := by
      obtain ⟨ab', nb', cb', ak', nk', ck', he, -, -, -, -, hks'⟩ := hX0
      have h8 := congrArg (fun A => A[8]?) he
      simp at h8
      obtain ⟨rfl, rfl, rfl⟩ := h8
      obtain ⟨b, o, c3, h1, h2, h3, h4, h5⟩ := hks'.at hget
      exact ⟨c3, h5, b, o, h1, h2, h3, h4⟩
    obtain ⟨c3, hx3, kb, ko, hak, hnm, hc0, hcs⟩ := hks0
    subst hak
    have HX3 := Lib.hid hx3
    obtain ⟨k3, bits3, hi3, lo3, text3, more3, sub3, bs3, kids3⟩ := x3
    obtain ⟨ab3, nb3, cb3, ak3, nk3, ck3, rfl, -⟩ := hx3
    have hkb : kb < w.heap.size := Nat.lt_of_lt_of_le (by simpa using cell_block hc0) hsw0
    have HC0 := Lib.hid hc0
    have HCS := Lib.hid hcs
    have hq0 : (0 : Int) ≤ (q : Int) := by omega
    have hq1 : (q : Int) < (nk2 : Int) := by omega
    have n1 : ¬ kb = w.heap.size := by omega
    have m1 : ¬ w.heap.size = kb := by omega
    have n2 : ¬ pb = w.heap.size := by omega
    have m2 : ¬ w.heap.size = pb := by omega
    have HPC : Hid (wr.cell? ⟨pb, po + j, none⟩ = some (.int .i64 (q : Nat))) := hpc2
    clear hc0 hcs hget hat hX0
    go_wp2_with fail
    go_quiet (fail)
    have HBd : Hid (Below w.heap.size w (wr.drewN nq)) := HB.out.trans ((below_drewN wr nq wr.heap.size).mono HB.out.size)
    have HBXd := Lib.hid (HBX.out.keep (below_drewN wr nq wr.heap.size))
    have HOd := Lib.hid (HO.out.chg (X := fun _ => False) (Chg.of_below (below_drewN wr nq wr.heap.size)) (fun k hk e => e))
    have hpd : (wr.drewN nq).cell? ⟨pb, po + j, none⟩ = some (.int .i64 (q : Nat)) := cell_below (below_drewN wr nq wr.heap.size) HPC.out
    have hsd : (wr.drewN nq).heap.size = wr.heap.size := by simp
    clear hpc2 f0 c0 f1 c1 f2 c2 f3 c3 f4 c4 f5 c5 f6 c6 f7 c7 f8 c8
    obtain ⟨wd, hwd⟩ : ∃ W, W = wr.drewN nq := ⟨_, rfl⟩
    rw [← hwd] at HBd HBXd hpd hsd HOd ⊢
    clear hwd
    have g3 : w.heap.size < wd.heap.size := by omega
    have hszd : w.heap.size + 1 ≤ wd.heap.size := by omega
    clear hsd
    have f0 : wd.frozen? ⟨w.heap.size, 0, none⟩ = false := (HBXd.out.2 0 (by omega)).2
    have c0 : wd.cell? ⟨w.heap.size, 0, none⟩ = some (.int .i64 k2) := (HBXd.out.2 0 (by omega)).1
    have e0 : wd.cell? ⟨kb, ko + q * 10 + 1, none⟩ = some (.int .i64 k3) := cell_below (HW0.out.trans (HBd.out.mono HW0.out.size)) (HCS.out 0 (by omega))
    have f1 : wd.frozen? ⟨w.heap.size, 1, none⟩ = false := (HBXd.out.2 1 (by omega)).2
    have c1 : wd.cell? ⟨w.heap.size, 1, none⟩ = some (.int .u64 (bits2 : Nat)) := (HBXd.out.2 1 (by omega)).1
    have e1 : wd.cell? ⟨kb, ko + q * 10 + 2, none⟩ = some (.int .u64 (bits3 : Nat)) := cell_below (HW0.out.trans (HBd.out.mono HW0.out.size)) (HCS.out 1 (by omega))
    have f2 : wd.frozen? ⟨w.heap.size, 2, none⟩ = false := (HBXd.out.2 2 (by omega)).2
    have c2 : wd.cell? ⟨w.heap.size, 2, none⟩ = some (.int .u64 (hi2 : Nat)) := (HBXd.out.2 2 (by omega)).1
    have e2 : wd.cell? ⟨kb, ko + q * 10 + 3, none⟩ = some (.int .u64 (hi3 : Nat)) := cell_below (HW0.out.trans (HBd.out.mono HW0.out.size)) (HCS.out 2 (by omega))
    have f3 : wd.frozen? ⟨w.heap.size, 3, none⟩ = false := (HBXd.out.2 3 (by omega)).2
    have c3 : wd.cell? ⟨w.heap.size, 3, none⟩ = some (.int .u64 (lo2 : Nat)) := (HBXd.out.2 3 (by omega)).1
    have e3 : wd.cell? ⟨kb, ko + q * 10 + 4, none⟩ = some (.int .u64 (lo3 : Nat)) := cell_below (HW0.out.trans (HBd.out.mono HW0.out.size)) (HCS.out 3 (by omega))
    have f4 : wd.frozen? ⟨w.heap.size, 4, none⟩ = false := (HBXd.out.2 4 (by omega)).2
    have c4 : wd.cell? ⟨w.heap.size, 4, none⟩ = some (.string text2) := (HBXd.out.2 4 (by omega)).1
    have e4 : wd.cell? ⟨kb, ko + q * 10 + 5, none⟩ = some (.string text3) := cell_below (HW0.out.trans (HBd.out.mono HW0.out.size)) (HCS.out 4 (by omega))
    have f5 : wd.frozen? ⟨w.heap.size, 5, none⟩ = false := (HBXd.out.2 5 (by omega)).2
    have c5 : wd.cell? ⟨w.heap.size, 5, none⟩ = some (.string more2) := (HBXd.out.2 5 (by omega)).1
    have e5 : wd.cell? ⟨kb, ko + q * 10 + 6, none⟩ = some (.string more3) := cell_below (HW0.out.trans (HBd.out.mono HW0.out.size)) (HCS.out 5 (by omega))
    have f6 : wd.frozen? ⟨w.heap.size, 6, none⟩ = false := (HBXd.out.2 6 (by omega)).2
    have c6 : wd.cell? ⟨w.heap.size, 6, none⟩ = some (.int .i64 sub2) := (HBXd.out.2 6 (by omega)).1
    have e6 : wd.cell? ⟨kb, ko + q * 10 + 7, none⟩ = some (.int .i64 sub3) := cell_below (HW0.out.trans (HBd.out.mono HW0.out.size)) (HCS.out 6 (by omega))
    have f7 : wd.frozen? ⟨w.heap.size, 7, none⟩ = false := (HBXd.out.2 7 (by omega)).2
    have c7 : wd.cell? ⟨w.heap.size, 7, none⟩ = some (.slice ab2 nb2 cb2) := (HBXd.out.2 7 (by omega)).1
    have e7 : wd.cell? ⟨kb, ko + q * 10 + 8, none⟩ = some (.slice ab3 nb3 cb3) := cell_below (HW0.out.trans (HBd.out.mono HW0.out.size)) (HCS.out 7 (by omega))
    have f8 : wd.frozen? ⟨w.heap.size, 8, none⟩ = false := (HBXd.out.2 8 (by omega)).2
    have c8 : wd.cell? ⟨w.heap.size, 8, none⟩ = some (.slice (some ⟨kb, ko, none⟩) nk2 ck2) := (HBXd.out.2 8 (by omega)).1
    have e8 : wd.cell? ⟨kb, ko + q * 10 + 9, none⟩ = some (.slice ak3 nk3 ck3) := cell_below (HW0.out.trans (HBd.out.mono HW0.out.size)) (HCS.out 8 (by omega))
    have e9 : wd.cell? ⟨kb, ko + q * 10, none⟩ = some (.string nm) := cell_below (HW0.out.trans (HBd.out.mono HW0.out.size)) HC0.out
    have HO7 : Hid (OwnS (wd.drew.alloc (.cells #[.string nm] 9)) (w.heap.size + 1) (.slice aS l.length cS) l) := HOd.out.chg (X := fun _ => False) ((Chg.refl _ _).drew.alloc _) (fun k hk e => e)
    have hgo : ∀ k, (Value.slice aS l.length cS).ownBlock = some k → w.heap.size + 1 ≤ k := fun k hk => (owns_lt HOd.out k hk).1
    have HGO := Lib.hid hgo
    have hlln := HLL.out
    have hlb : l.length ≤ 1000000 := by omega
    clear hgo hlln
    go_wp2_with fail
    go_region_law ((refine step_appS (v := .slice aS l.length cS) (xs := l) (sv := .slice (some ⟨wd.heap.size, 0, none⟩) 1 1) (l := [nm]) (B := w.heap.size + 1) (by rfl) _ _ (by rfl) (by rfl) HO7.out (by rfl) (src_str _ _ _) (by simp; omega) (by first | omega | (simp; omega)) ?_; intro v6 w6 ho6 ha6; obtain ⟨aS6, cS6, hv6, -⟩ := ho6.rd; subst hv6; obtain ⟨N6, hN6⟩ : ∃ N, N = (l ++ [nm]).length := ⟨_, rfl⟩; rw [← hN6] at ho6 ha6 ⊢; clear hN6; have HO6 := Lib.hid ho6; have HA6 := Lib.hid ha6; clear ho6 ha6))
    all_goals
      have hB6 : Below w.heap.size w w6 := HA6.out.below (HBd.out.drew.alloc HBd.out.size _) (by first | omega | (simp; omega)) (fun k hk => by have := HGO.out k hk; omega)
      have hBX6 : BoxV w6 w.heap.size (valCells k2 bits2 hi2 lo2 text2 more2 sub2 ab2 nb2 cb2 (some ⟨kb, ko, none⟩) nk2 ck2) := (HBXd.out.keep ((Below.refl _ _).drew.alloc (Nat.le_refl _) _)).chg HA6.out.chg (fun e => by have := HGO.out _ e; omega)
      have hz6 : w.heap.size + 1 ≤ w6.heap.size := by have := HA6.out.size; simp at this; omega
      have HB6 := Lib.hid hB6
      have HBX6 := Lib.hid hBX6
      have hpd6 : w6.cell? ⟨pb, po + j, none⟩ = some (.int .i64 (q : Nat)) := by
        have h1 := hB6.cell (p := ⟨pb, po + j, none⟩) hpbw
        have h2 := HBd.out.cell (p := ⟨pb, po + j, none⟩) hpbw
        rw [h1, ← h2]; exact hpd
      clear hB6 hBX6 hpd e9 f0 c0 e0 f1 c1 e1 f2 c2 e2 f3 c3 e3 f4 c4 e4 f5 c5 e5 f6 c6 e6 f7 c7 e7 f8 c8 e8
      have f0 : w6.frozen? ⟨w.heap.size, 0, none⟩ = false := (HBX6.out.2 0 (by omega)).2
      have c0 : w6.cell? ⟨w.heap.size, 0, none⟩ = some (.int .i64 k2) := (HBX6.out.2 0 (by omega)).1
      have e0 : w6.cell? ⟨kb, ko + q * 10 + 1, none⟩ = some (.int .i64 k3) := cell_below (HW0.out.trans (HB6.out.mono HW0.out.size)) (HCS.out 0 (by omega))
      have f1 : w6.frozen? ⟨w.heap.size, 1, none⟩ = false := (HBX6.out.2 1 (by omega)).2
      have c1 : w6.cell? ⟨w.heap.size, 1, none⟩ = some (.int .u64 (bits2 : Nat)) := (HBX6.out.2 1 (by omega)).1
      have e1 : w6.cell? ⟨kb, ko + q * 10 + 2, none⟩ = some (.int .u64 (bits3 : Nat)) := cell_below (HW0.out.trans (HB6.out.mono HW0.out.size)) (HCS.out 1 (by omega))
      have f2 : w6.frozen? ⟨w.heap.size, 2, none⟩ = false := (HBX6.out.2 2 (by omega)).2
      have c2 : w6.cell? ⟨w.heap.size, 2, none⟩ = some (.int .u64 (hi2 : Nat)) := (HBX6.out.2 2 (by omega)).1
      have e2 : w6.cell? ⟨kb, ko + q * 10 + 3, none⟩ = some (.int .u64 (hi3 : Nat)) := cell_below (HW0.out.trans (HB6.out.mono HW0.out.size)) (HCS.out 2 (by omega))
      have f3 : w6.frozen? ⟨w.heap.size, 3, none⟩ = false := (HBX6.out.2 3 (by omega)).2
      have c3 : w6.cell? ⟨w.heap.size, 3, none⟩ = some (.int .u64 (lo2 : Nat)) := (HBX6.out.2 3 (by omega)).1
      have e3 : w6.cell? ⟨kb, ko + q * 10 + 4, none⟩ = some (.int .u64 (lo3 : Nat)) := cell_below (HW0.out.trans (HB6.out.mono HW0.out.size)) (HCS.out 3 (by omega))
      have f4 : w6.frozen? ⟨w.heap.size, 4, none⟩ = false := (HBX6.out.2 4 (by omega)).2
      have c4 : w6.cell? ⟨w.heap.size, 4, none⟩ = some (.string text2) := (HBX6.out.2 4 (by omega)).1
      have e4 : w6.cell? ⟨kb, ko + q * 10 + 5, none⟩ = some (.string text3) := cell_below (HW0.out.trans (HB6.out.mono HW0.out.size)) (HCS.out 4 (by omega))
      have f5 : w6.frozen? ⟨w.heap.size, 5, none⟩ = false := (HBX6.out.2 5 (by omega)).2
      have c5 : w6.cell? ⟨w.heap.size, 5, none⟩ = some (.string more2) := (HBX6.out.2 5 (by omega)).1
      have e5 : w6.cell? ⟨kb, ko + q * 10 + 6, none⟩ = some (.string more3) := cell_below (HW0.out.trans (HB6.out.mono HW0.out.size)) (HCS.out 5 (by omega))
      have f6 : w6.frozen? ⟨w.heap.size, 6, none⟩ = false := (HBX6.out.2 6 (by omega)).2
      have c6 : w6.cell? ⟨w.heap.size, 6, none⟩ = some (.int .i64 sub2) := (HBX6.out.2 6 (by omega)).1
      have e6 : w6.cell? ⟨kb, ko + q * 10 + 7, none⟩ = some (.int .i64 sub3) := cell_below (HW0.out.trans (HB6.out.mono HW0.out.size)) (HCS.out 6 (by omega))
      have f7 : w6.frozen? ⟨w.heap.size, 7, none⟩ = false := (HBX6.out.2 7 (by omega)).2
      have c7 : w6.cell? ⟨w.heap.size, 7, none⟩ = some (.slice ab2 nb2 cb2) := (HBX6.out.2 7 (by omega)).1
      have e7 : w6.cell? ⟨kb, ko + q * 10 + 8, none⟩ = some (.slice ab3 nb3 cb3) := cell_below (HW0.out.trans (HB6.out.mono HW0.out.size)) (HCS.out 7 (by omega))
      have f8 : w6.frozen? ⟨w.heap.size, 8, none⟩ = false := (HBX6.out.2 8 (by omega)).2
      have c8 : w6.cell? ⟨w.heap.size, 8, none⟩ = some (.slice (some ⟨kb, ko, none⟩) nk2 ck2) := (HBX6.out.2 8 (by omega)).1
      have e8 : w6.cell? ⟨kb, ko + q * 10 + 9, none⟩ = some (.slice ak3 nk3 ck3) := cell_below (HW0.out.trans (HB6.out.mono HW0.out.size)) (HCS.out 8 (by omega))
      go_wp2_with fail
      go_region
      all_goals
        go_wp2_with fail
        go_roundw
        case rel =>
          refine ⟨_, j + 1, _, l ++ [nm], _, rfl, by simp, by rw [HN.out]; omega, HNX, HX3.out, ?_, ?_, by simp [HLL.out], ?_, by simp; omega⟩
          · refine ⟨by simp; omega, fun e he => ?_⟩
            rcases (by omega : e = 0 ∨ e = 1 ∨ e = 2 ∨ e = 3 ∨ e = 4 ∨ e = 5 ∨ e = 6 ∨ e = 7 ∨ e = 8) with rfl | rfl | rfl | rfl | rfl | rfl | rfl | rfl | rfl <;> exact ⟨by simp [go_sem, *], by simp [*]⟩
          · refine HO6.out.chg (X := fun k => k = w.heap.size) ?_ (fun k hk e => by omega)
            (repeat' (first | with_reducible exact Chg.refl _ _ | with_reducible apply Chg.drew | with_reducible refine Chg.alloc ?_ _ | with_reducible refine Chg.setCell ?_ (fun h => ?_) _))
            all_goals rfl
          · skip
            (repeat' (first | with_reducible exact HB6.out | with_reducible apply Below.drew | with_reducible refine Below.alloc ?_ (by first | omega | (simp; done) | (simp; omega)) _ | with_reducible refine Below.setCell ?_ (by first | omega | (simp only []; omega)) _))
        case measure => simp [intOf]; omega

end Go.Proofs.Ytiodjhcjfbnocaa
