/- The reference's reader of documents: an element. -/
import Derived.Test.YtkcfkdmffbhljaaRbV0
import Derived.Test.YtkcfkdmffbhljaaMB
namespace Go.Proofs.Ytkcfkdmffbhljaa
open Go.RowKit
set_option linter.unusedVariables false
set_option linter.unusedSimpArgs false

/-- A field's cells, of whatever letters. -/
def IsF (cs : Array Value) : Prop := ∃ (nm : ByteArray) (k : Int) (bits hi lo : Nat) (text more : ByteArray) (sub : Int) (ab : Option Addr) (nb cb : Nat) (ak : Option Addr) (nk ck : Nat), cs = #[.string nm, .int .i64 k, .int .u64 (bits : Nat), .int .u64 (hi : Nat), .int .u64 (lo : Nat), .string text, .string more, .int .i64 sub, .slice ab nb cb, .slice ak nk ck]
/-- A field's box, all zero. -/
def FldZ (W : World) (g : Nat) : Prop := (W.cell? ⟨g, 0, none⟩ = some (.string ⟨#[]⟩) ∧ W.cell? ⟨g, 1, none⟩ = some (.int .i64 0) ∧ W.cell? ⟨g, 2, none⟩ = some (.int .u64 0) ∧ W.cell? ⟨g, 3, none⟩ = some (.int .u64 0) ∧ W.cell? ⟨g, 4, none⟩ = some (.int .u64 0) ∧ W.cell? ⟨g, 5, none⟩ = some (.string ⟨#[]⟩) ∧ W.cell? ⟨g, 6, none⟩ = some (.string ⟨#[]⟩) ∧ W.cell? ⟨g, 7, none⟩ = some (.int .i64 0) ∧ W.cell? ⟨g, 8, none⟩ = some (.slice none 0 0) ∧ W.cell? ⟨g, 9, none⟩ = some (.slice none 0 0)) ∧ (W.frozen? ⟨g, 0, none⟩ = false ∧ W.frozen? ⟨g, 1, none⟩ = false ∧ W.frozen? ⟨g, 2, none⟩ = false ∧ W.frozen? ⟨g, 3, none⟩ = false ∧ W.frozen? ⟨g, 4, none⟩ = false ∧ W.frozen? ⟨g, 5, none⟩ = false ∧ W.frozen? ⟨g, 6, none⟩ = false ∧ W.frozen? ⟨g, 7, none⟩ = false ∧ W.frozen? ⟨g, 8, none⟩ = false ∧ W.frozen? ⟨g, 9, none⟩ = false) ∧ g < W.heap.size
theorem FldZ.chg {X : Nat → Prop} {W W' : World} {g : Nat} (h : FldZ W g) (hc : Chg X W W') (hg : ¬ X g) : FldZ W' g := by
  obtain ⟨⟨f0, f1, f2, f3, f4, f5, f6, f7, f8, f9⟩, ⟨p0, p1, p2, p3, p4, p5, p6, p7, p8, p9⟩, l0⟩ := h
  have hf : ∀ i, W'.frozen? ⟨g, i, none⟩ = W.frozen? ⟨g, i, none⟩ := fun i => World.frozen?_of_block (w := W) (a := ⟨g, i, none⟩) (hc.block g l0 hg)
  exact ⟨⟨hc.cell hg f0, hc.cell hg f1, hc.cell hg f2, hc.cell hg f3, hc.cell hg f4, hc.cell hg f5, hc.cell hg f6, hc.cell hg f7, hc.cell hg f8, hc.cell hg f9⟩, ⟨(hf 0).trans p0, (hf 1).trans p1, (hf 2).trans p2, (hf 3).trans p3, (hf 4).trans p4, (hf 5).trans p5, (hf 6).trans p6, (hf 7).trans p7, (hf 8).trans p8, (hf 9).trans p9⟩, Nat.lt_of_lt_of_le l0 hc.size⟩
theorem FldZ.keep {W W' : World} {g : Nat} (h : FldZ W g) (hb : Below W.heap.size W W') : FldZ W' g := h.chg (Chg.of_below (S := fun _ => False) hb) (fun x => x)

/-- What element answers. -/
def RElO (rb b o n c : Nat) (L : List UInt8) (d at' last win : Nat) (w : World) (e : Ending) (w' : World) : Prop :=
  (∃ er a, (elsH L at' last = .error (.bad er a) ∨ ∃ nm k q, elsH L at' last = .ok (nm, k, q) ∧ Q L d (.val k q last win) (.bad er a)) ∧ (∃ (cs : Array Value) (nx : Nat), IsF cs ∧ e = .returned (.tuple #[.agg cs, .int .i64 (nx : Nat)])) ∧ RErr rb b o n c L d er a w w') ∨
  (∃ nm k q t nx, elsH L at' last = .ok (nm, k, q) ∧ Q L d (.val k q last win) (.val t nx) ∧ (∃ k bits hi lo text more sub ab nb cb ak nk ck, e = .returned (.tuple #[.agg #[.string nm, .int .i64 k, .int .u64 (bits : Nat), .int .u64 (hi : Nat), .int .u64 (lo : Nat), .string text, .string more, .int .i64 sub, .slice ab nb cb, .slice ak nk ck], .int .i64 (nx : Nat)]) ∧ RdTS (fun k => w.heap.size ≤ k) w' t (valCells k bits hi lo text more sub ab nb cb ak nk ck)) ∧ nm.size ≤ 1000000 ∧ Below w.heap.size w w')
theorem rel_bad {w Wb W' : World} {rb b o n c : Nat} {L : List UInt8} {d at' last win er a : Nat} {nx g : Nat} {cs : Array Value} (hQ : elsH L at' last = .error (.bad er a) ∨ ∃ nm k q, elsH L at' last = .ok (nm, k, q) ∧ Q L d (.val k q last win) (.bad er a)) (hE : RErr rb b o n c L d er a w Wb) (hg : w.heap.size = g) (hrb : rb < g) (hbb : b < g) (hc : Chg (fun j => j = g) Wb W') (hi : IsF cs) :
    RElO rb b o n c L d at' last win w (.returned (.tuple #[.agg cs, .int .i64 (nx : Nat)])) W' :=
  .inl ⟨er, a, hQ, ⟨cs, nx, hi, rfl⟩, hE.1.chg hc (fun e => by have e2 : rb = g := e; omega) (fun e => by have e2 : b = g := e; omega), hE.2.trans hc (fun i hi e => by have e2 : i = g := e; omega)⟩

set_option maxRecDepth 100000 in
set_option maxHeartbeats 8000000 in
theorem rel_step (dd : Nat) (hof : RVlSaid dd) {rb b o n c : Nat} {L : List UInt8} {d : Nat} {w : World} (h : RRd w rb b o n c L d 0 0) (at' last win : Nat) (hat : at' < last) (hln : last < n) (hd : last - at' ≤ dd + 1) (hw : win + (last - at') ≤ 2000001) :
    Calls Try.prog 56 #[.pointer (some ⟨rb, 0, none⟩), .int .i64 (at' : Nat), .int .i64 (last : Nat), .int .i64 (win : Nat)] w (RElO rb b o n c L d at' last win w) := by
  have hL : L.length = n := h.rd.1
  have hnc := h.nc
  have hnb := h.nb
  obtain ⟨wa, hwa⟩ : ∃ W, W = w.alloc (.cells #[.string ⟨#[]⟩, .int .i64 0, .int .u64 0, .int .u64 0, .int .u64 0, .string ⟨#[]⟩, .string ⟨#[]⟩, .int .i64 0, .slice none 0 0, .slice none 0 0] 57) := ⟨_, rfl⟩
  have hba : Below w.heap.size w wa := by rw [hwa]; exact (Below.refl _ _).alloc (Nat.le_refl _) _
  obtain ⟨g, hg⟩ : ∃ g, g = w.heap.size := ⟨_, rfl⟩
  have hfa : FldZ wa g := by
    rw [hwa, hg]
    refine ⟨⟨?_, ?_, ?_, ?_, ?_, ?_, ?_, ?_, ?_, ?_⟩, ⟨?_, ?_, ?_, ?_, ?_, ?_, ?_, ?_, ?_, ?_⟩, ?_⟩ <;> simp [go_sem]
  have HFa := Lib.hid hfa
  have HBA := Lib.hid hba
  have HRA := Lib.hid (h.keep hba)
  have HWG : Hid (w.heap.size = g) := hg.symm
  have hrb : rb < g := by rw [hg]; exact h.lt
  have hbb : b < g := by rw [hg]; simpa using cell_block (h.at at' (by omega))
  have HRB := Lib.hid hrb
  have HBB := Lib.hid hbb
  have hr1 : ¬ rb = g := by omega
  have hr3 : ¬ g = rb := by omega
  have CB := Lib.hid (fun W (h : RRd W rb b o n c L d 0 0) er a => rdbad_calls h er a)
  have CN := Lib.hid (fun (X : Nat) W => rname_calls (X : Int) W)
  obtain ⟨X, hX⟩ : ∃ X, X = bAt L at' := ⟨_, rfl⟩
  have hX8 : X < 256 := by rw [hX]; exact bAt_lt _ _
  have hcx : wa.cell? ⟨b, o + at', none⟩ = some (.int .u8 (X : Nat)) := by rw [hX]; exact HRA.out.at at' (by omega)
  have wx : IntKind.i64.wrap (X : Int) = (X : Int) := IntWalk.i64_in _ (by omega)
  have i1 : (0 : Int) ≤ (at' : Int) := by omega
  have i2 : (at' : Int) < (n : Int) := by omega
  obtain ⟨pq, hp1⟩ : ∃ x, x = at' + 1 := ⟨_, rfl⟩
  have w1 : IntKind.i64.wrap ((at' : Int) + 1) = (pq : Int) := (IntWalk.i64_in _ (by omega)).trans (by omega)
  have HEL : Hid (elsH L at' last = if X = 0 then .error (.bad 3 at') else if knownK X = false then .error (.bad 5 at') else match endQ L (at' + 1) last with | .error (e, a) => .error (.bad e a) | .ok (s, n) => .ok (txt s, X, n)) := by
    show _ = _
    unfold elsH
    rw [if_neg (by omega), ← hX]
    rfl
  have HP1 := Lib.hid hp1
  have HOF := Lib.hid hof
  have c0 := HRA.out.c0
  have c4 := HRA.out.c4
  obtain ⟨⟨f0, f1, f2, f3, f4, f5, f6, f7, f8, f9⟩, ⟨p0, p1, p2, p3, p4, p5, p6, p7, p8, p9⟩, l0⟩ := HFa.out
  clear hba hfa hrb hbb h hX hp1 hof
  go_enter Try.func56, Try.ntmps56
  go_upto_region 1 with fail
  rw [← hwa, ← hg]
  clear hwa hg
  by_cases h0 : X = 0
  · have HX : Hid (elsH L at' last = .error (.bad 3 at')) := by show _ = _; rw [HEL.out, if_pos h0]
    subst h0
    go_wp2_with fail
    refine (CB.out _ HRA.out 3 at').mono ?_
    rintro e w2 ⟨rfl, hE⟩
    have HE2 := Lib.hid hE
    have HF2 := Lib.hid (HFa.out.chg hE.2 (fun e => hr3 e))
    have c4 := hE.1.c4
    clear hE
    clear f0 p0 f1 p1 f2 p2 f3 p3 f4 p4 f5 p5 f6 p6 f7 p7 f8 p8 f9 p9 l0
    obtain ⟨⟨f0, f1, f2, f3, f4, f5, f6, f7, f8, f9⟩, ⟨p0, p1, p2, p3, p4, p5, p6, p7, p8, p9⟩, l0⟩ := HF2.out
    go_upto_region 4 with fail
    (repeat (first | go_values | go_skip | go_guarded | go_step | go_upon | (go_simp; go_at_K)))
    refine bodyPost_ret (v := .tuple #[.agg #[.string ⟨#[]⟩, .int .i64 0, .int .u64 0, .int .u64 0, .int .u64 0, .string ⟨#[]⟩, .string ⟨#[]⟩, .int .i64 0, .slice none 0 0, .slice none 0 0], .int .i64 0]) (by simp [results, Try.results56, go_sem, *]) rfl ?_
    have hX : (fun j : Nat => j = g) g := rfl
    exact rel_bad (nx := 0) (.inl HX.out) (HE2.out.from HBA.out) HWG.out HRB.out HBB.out (by (repeat' (first | with_reducible exact Chg.refl _ _ | with_reducible refine Chg.drew ?_ | with_reducible refine Chg.alloc ?_ _ | refine Chg.setCell ?_ (fun _ => hX) _))) ⟨⟨#[]⟩, 0, 0, 0, 0, ⟨#[]⟩, ⟨#[]⟩, 0, none, 0, 0, none, 0, 0, rfl⟩
  have n0 : ((X : Int) == 0) = false := by simp; omega
  go_wp2_with fail
  refine (CN.out X _).mono ?_
  rintro e w1 ⟨s1, rfl, hs1, hb1⟩
  have HR1 := Lib.hid (HRA.out.keep hb1)
  have HF1 := Lib.hid (HFa.out.keep hb1)
  have HB1 : Hid (Below w.heap.size w w1) := HBA.out.trans (hb1.mono HBA.out.size)
  have c0 := HR1.out.c0
  have c4 := HR1.out.c4
  clear hb1 hcx
  clear f0 p0 f1 p1 f2 p2 f3 p3 f4 p4 f5 p5 f6 p6 f7 p7 f8 p8 f9 p9 l0
  obtain ⟨⟨f0, f1, f2, f3, f4, f5, f6, f7, f8, f9⟩, ⟨p0, p1, p2, p3, p4, p5, p6, p7, p8, p9⟩, l0⟩ := HF1.out
  unfold noTxt at hs1
  by_cases hk : knownK X = true
  case neg =>
    have hk' : knownK (X : Int) = false := by simpa using hk
    have HX : Hid (elsH L at' last = .error (.bad 5 at')) := by show _ = _; rw [HEL.out, if_neg h0, if_pos hk']
    rw [hk'] at hs1
    clear hk hk' h0
    go_wp2_with fail
    refine (CB.out _ HR1.out 5 at').mono ?_
    rintro e w2 ⟨rfl, hE⟩
    have HE2 := Lib.hid hE
    have HF2 := Lib.hid (HF1.out.chg hE.2 (fun e => hr3 e))
    have c4 := hE.1.c4
    clear hE
    clear f0 p0 f1 p1 f2 p2 f3 p3 f4 p4 f5 p5 f6 p6 f7 p7 f8 p8 f9 p9 l0
    obtain ⟨⟨f0, f1, f2, f3, f4, f5, f6, f7, f8, f9⟩, ⟨p0, p1, p2, p3, p4, p5, p6, p7, p8, p9⟩, l0⟩ := HF2.out
    go_upto_region 7 with fail
    (repeat (first | go_values | go_skip | go_guarded | go_step | go_upon | (go_simp; go_at_K)))
    refine bodyPost_ret (v := .tuple #[.agg #[.string ⟨#[]⟩, .int .i64 0, .int .u64 0, .int .u64 0, .int .u64 0, .string ⟨#[]⟩, .string ⟨#[]⟩, .int .i64 0, .slice none 0 0, .slice none 0 0], .int .i64 0]) (by simp [results, Try.results56, go_sem, *]) rfl ?_
    have hX : (fun j : Nat => j = g) g := rfl
    exact rel_bad (nx := 0) (.inl HX.out) (HE2.out.from HB1.out) HWG.out HRB.out HBB.out (by (repeat' (first | with_reducible exact Chg.refl _ _ | with_reducible refine Chg.drew ?_ | with_reducible refine Chg.alloc ?_ _ | refine Chg.setCell ?_ (fun _ => hX) _))) ⟨⟨#[]⟩, 0, 0, 0, 0, ⟨#[]⟩, ⟨#[]⟩, 0, none, 0, 0, none, 0, 0, rfl⟩
  have HK : Hid (knownK X = true) := hk
  rw [hk] at hs1
  obtain ⟨R, hR⟩ : ∃ R, R = endQ L (at' + 1) last := ⟨_, rfl⟩
  have hEL := HEL.out
  rw [if_neg h0, if_neg (by rw [hk]; simp), ← hR] at hEL
  have CR := Lib.hid (rdctext_calls HR1.out pq last (by omega))
  rw [HP1.out, ← hR, ← HP1.out] at CR
  have hbdT := endQ_bd (b := L) (q := at' + 1) (z := last) (by omega) (by omega)
  rw [← hR] at hbdT
  have HSZ : Hid (∀ s nx, R = .ok (s, nx) → (txt s).size ≤ 1000000) := by
    show ∀ s nx, _
    intro s nx hs
    have := endQ_len (b := L) (q := at' + 1) (z := last) (s := s) (n := nx) (by rw [← hR]; exact hs)
    rw [txt_size]
    omega
  clear hR hk h0
  go_wp2_with fail
  refine CR.out.mono ?_
  cases R with
  | error ea =>
    obtain ⟨er, a⟩ := ea
    have HX : Hid (elsH L at' last = .error (.bad er a)) := hEL
    have her : ((er : Int) != 0) = true := by have := (hbdT.1 er a rfl).1; simp; omega
    clear hbdT hEL
    rintro e w2 ⟨⟨s0, m0, rfl⟩, hE⟩
    have HE2 := Lib.hid hE
    have HF2 := Lib.hid (HF1.out.chg hE.2 (fun e => hr3 e))
    have c4 := hE.1.c4
    clear hE
    clear f0 p0 f1 p1 f2 p2 f3 p3 f4 p4 f5 p5 f6 p6 f7 p7 f8 p8 f9 p9 l0
    obtain ⟨⟨f0, f1, f2, f3, f4, f5, f6, f7, f8, f9⟩, ⟨p0, p1, p2, p3, p4, p5, p6, p7, p8, p9⟩, l0⟩ := HF2.out
    go_upto_region 10 with fail
    (repeat (first | go_values | go_skip | go_guarded | go_step | go_upon | (go_simp; go_at_K)))
    refine bodyPost_ret (v := .tuple #[.agg #[.string ⟨#[]⟩, .int .i64 0, .int .u64 0, .int .u64 0, .int .u64 0, .string ⟨#[]⟩, .string ⟨#[]⟩, .int .i64 0, .slice none 0 0, .slice none 0 0], .int .i64 0]) (by simp [results, Try.results56, go_sem, *]) rfl ?_
    have hX : (fun j : Nat => j = g) g := rfl
    exact rel_bad (nx := 0) (.inl HX.out) (HE2.out.from HB1.out) HWG.out HRB.out HBB.out (by (repeat' (first | with_reducible exact Chg.refl _ _ | with_reducible refine Chg.drew ?_ | with_reducible refine Chg.alloc ?_ _ | refine Chg.setCell ?_ (fun _ => hX) _))) ⟨⟨#[]⟩, 0, 0, 0, 0, ⟨#[]⟩, ⟨#[]⟩, 0, none, 0, 0, none, 0, 0, rfl⟩
  | ok sn =>
    obtain ⟨s, m⟩ := sn
    have HX : Hid (elsH L at' last = .ok (txt s, X, m)) := hEL
    have hbm := hbdT.2 s m rfl
    have HSS := Lib.hid (HSZ.out s m rfl)
    clear hbdT hEL
    rintro e w2 ⟨rfl, hb⟩
    have HR2 := Lib.hid (HR1.out.keep hb)
    have HF2 := Lib.hid (HF1.out.keep hb)
    have HB2 : Hid (Below w.heap.size w w2) := HB1.out.trans (hb.mono HB1.out.size)
    have c4 := HR2.out.c4
    have CV := Lib.hid (HOF.out rb b o n c L d w2 HR2.out X m last win HK.out (by omega) hln (by omega) (by omega))
    clear hb hbm
    clear f0 p0 f1 p1 f2 p2 f3 p3 f4 p4 f5 p5 f6 p6 f7 p7 f8 p8 f9 p9 l0
    obtain ⟨⟨f0, f1, f2, f3, f4, f5, f6, f7, f8, f9⟩, ⟨p0, p1, p2, p3, p4, p5, p6, p7, p8, p9⟩, l0⟩ := HF2.out
    go_wp2_with fail
    refine CV.out.mono ?_
    rintro e w3 ⟨r, hq3, hout⟩
    have HQ3 := Lib.hid hq3
    clear hq3 CV
    cases r with
    | kids f nx => exact hout.elim
    | val t nx =>
      obtain ⟨⟨cs, rfl, hrd⟩, hb⟩ := hout
      obtain ⟨k, bits, hi, lo, text, more, sub, ab, nb, cb, ak, nk, ck, rfl⟩ := hrd.rd.shape
      have HRD := Lib.hid (hrd.imp (S' := fun j => g < j) (fun j _ hj => by have h2 : w2.heap.size ≤ j := hj; have := HF2.out.2.2; show g < j; omega))
      have HB3 : Hid (Below w.heap.size w w3) := HB2.out.trans (hb.mono HB2.out.size)
      have HF3 := Lib.hid (HF2.out.keep hb)
      obtain ⟨w4, hw4⟩ : ∃ W, W = w3.alloc (.cells (valCells k bits hi lo text more sub ab nb cb ak nk ck) 26) := ⟨_, rfl⟩
      obtain ⟨g4, hg4⟩ : ∃ x, x = w3.heap.size := ⟨_, rfl⟩
      have h34 : Below w3.heap.size w3 w4 := by rw [hw4]; exact (Below.refl _ _).alloc (Nat.le_refl _) _
      have hbv : BoxV w4 g4 (valCells k bits hi lo text more sub ab nb cb ak nk ck) := by rw [hw4, hg4]; exact BoxV.new _ _ _
      have HF4 := Lib.hid (HF3.out.keep h34)
      have HRD4 := Lib.hid (hrd.rd)
      have HKS : Hid (∀ W', Chg (fun j => j = g) w4 W' → RdTS (fun k => w.heap.size ≤ k) W' t (valCells k bits hi lo text more sub ab nb cb ak nk ck) ∧ Below w.heap.size w W') := by
        show ∀ W', _
        intro W' hW
        have hB4 := HB3.out.trans (h34.mono HB3.out.size)
        have hg0 := HWG.out
        refine ⟨((HRD.out.keep (KeepS.below h34)).keep (KeepS.chg hW (fun j hj e => by have h2 : g < j := hj; have h3 : j = g := e; omega))).imp (fun j _ hj => by have h2 : g < j := hj; show w.heap.size ≤ j; omega), hB4.trans (hW.below hB4.size (fun j e => by have h3 : j = g := e; omega))⟩
      obtain ⟨e0, e1, e2, e3, e4, e5, e6, e7, e8, l1⟩ := hbv.nine
      clear hb hrd h34 hbv
      clear f0 p0 f1 p1 f2 p2 f3 p3 f4 p4 f5 p5 f6 p6 f7 p7 f8 p8 f9 p9 l0
      obtain ⟨⟨f0, f1, f2, f3, f4, f5, f6, f7, f8, f9⟩, ⟨p0, p1, p2, p3, p4, p5, p6, p7, p8, p9⟩, l0⟩ := HF4.out
      go_upto_region 12 with fail
      rw [← hw4, ← hg4]
      clear hw4 hg4
      (repeat (first | go_values | go_skip | go_guarded | go_step | go_upon | (go_simp; go_at_K)))
      refine bodyPost_ret (v := .tuple #[.agg #[.string (txt s), .int .i64 k, .int .u64 (bits : Nat), .int .u64 (hi : Nat), .int .u64 (lo : Nat), .string text, .string more, .int .i64 sub, .slice ab nb cb, .slice ak nk ck], .int .i64 (nx : Nat)]) (by simp [results, Try.results56, go_sem, *]) rfl ?_
      have hX : (fun j : Nat => j = g) g := rfl
      have key : ∀ W', Chg (fun j => j = g) w4 W' → RElO rb b o n c L d at' last win w (.returned (.tuple #[.agg #[.string (txt s), .int .i64 k, .int .u64 (bits : Nat), .int .u64 (hi : Nat), .int .u64 (lo : Nat), .string text, .string more, .int .i64 sub, .slice ab nb cb, .slice ak nk ck], .int .i64 (nx : Nat)])) W' := fun W' hW => .inr ⟨txt s, X, m, t, nx, HX.out, HQ3.out, ⟨k, bits, hi, lo, text, more, sub, ab, nb, cb, ak, nk, ck, rfl, (HKS.out W' hW).1⟩, HSS.out, (HKS.out W' hW).2⟩
      refine key _ ?_
      (repeat' (first | with_reducible exact Chg.refl _ _ | with_reducible refine Chg.drew ?_ | with_reducible refine Chg.alloc ?_ _ | refine Chg.setCell ?_ (fun _ => hX) _))
    | bad er a =>
      obtain ⟨⟨cs, nx, ⟨k, bits, hi, lo, text, more, sub, ab, nb, cb, ak, nk, ck, rfl⟩, rfl⟩, hE⟩ := hout
      have HE3 := Lib.hid hE
      have HF3 := Lib.hid (HF2.out.chg hE.2 (fun e => hr3 e))
      obtain ⟨w4, hw4⟩ : ∃ W, W = w3.alloc (.cells (valCells k bits hi lo text more sub ab nb cb ak nk ck) 26) := ⟨_, rfl⟩
      obtain ⟨g4, hg4⟩ : ∃ x, x = w3.heap.size := ⟨_, rfl⟩
      have h34 : Below w3.heap.size w3 w4 := by rw [hw4]; exact (Below.refl _ _).alloc (Nat.le_refl _) _
      have hbv : BoxV w4 g4 (valCells k bits hi lo text more sub ab nb cb ak nk ck) := by rw [hw4, hg4]; exact BoxV.new _ _ _
      have HF4 := Lib.hid (HF3.out.keep h34)
      have HE4 : Hid (RErr rb b o n c L d er a w2 w4) := hE.then h34
      obtain ⟨e0, e1, e2, e3, e4, e5, e6, e7, e8, l1⟩ := hbv.nine
      clear hE h34 hbv
      clear f0 p0 f1 p1 f2 p2 f3 p3 f4 p4 f5 p5 f6 p6 f7 p7 f8 p8 f9 p9 l0
      obtain ⟨⟨f0, f1, f2, f3, f4, f5, f6, f7, f8, f9⟩, ⟨p0, p1, p2, p3, p4, p5, p6, p7, p8, p9⟩, l0⟩ := HF4.out
      go_upto_region 12 with fail
      rw [← hw4, ← hg4]
      clear hw4 hg4
      (repeat (first | go_values | go_skip | go_guarded | go_step | go_upon | (go_simp; go_at_K)))
      refine bodyPost_ret (v := .tuple #[.agg #[.string (txt s), .int .i64 k, .int .u64 (bits : Nat), .int .u64 (hi : Nat), .int .u64 (lo : Nat), .string text, .string more, .int .i64 sub, .slice ab nb cb, .slice ak nk ck], .int .i64 (nx : Nat)]) (by simp [results, Try.results56, go_sem, *]) rfl ?_
      have hX : (fun j : Nat => j = g) g := rfl
      exact rel_bad (.inr ⟨txt s, X, m, HX.out, HQ3.out⟩) (HE4.out.from HB2.out) HWG.out HRB.out HBB.out (by (repeat' (first | with_reducible exact Chg.refl _ _ | with_reducible refine Chg.drew ?_ | with_reducible refine Chg.alloc ?_ _ | refine Chg.setCell ?_ (fun _ => hX) _))) ⟨_, _, _, _, _, _, _, _, _, _, _, _, _, _, rfl⟩

end Go.Proofs.Ytkcfkdmffbhljaa
