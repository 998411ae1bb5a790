/- tree.check, walked: the first thing that is wrong of a tree, and its path. -/
import Derived.Test.YtkcfkdmffbhljaaMB
import Derived.Test.YtkcfkdmffbhljaaMD
import Derived.Test.YtkcfkdmffbhljaaME
import Derived.Test.YtkcfkdmffbhljaaMT
import Derived.Deep.RegionHeld3
namespace Go.Proofs.Ytkcfkdmffbhljaa
open Go.RowKit
set_option linter.unusedVariables false
set_option linter.unusedSimpArgs false

mutual
/-- The first thing that is wrong: its path, the error. -/
def checkT : T → ByteArray → List Int → Option (List Int × Nat)
  | .mk k bits hi lo text more sub bs f, nm, p =>
    if knownK k = false then some (p, 5) else
    if fieldsOf k bits hi lo text more sub bs.length f.len = false then some (p, 1) else
    if (textOk (k == 11) (sl text) && textOk (k == 11) (sl more) && textOk true (sl nm)) = false then some (p, 4) else checkF f 0 p
def checkF : F → Nat → List Int → Option (List Int × Nat)
  | .nil, _, _ => none
  | .cons n t r, i, p => match checkT t n (p ++ [(i : Int)]) with
    | some e => some e
    | none => checkF r (i + 1) p
end
def errN : Option (List Int × Nat) → Nat
  | none => 0
  | some (_, e) => e
def errP : Option (List Int × Nat) → List Int
  | none => []
  | some (p, _) => p
mutual
theorem checkT_err : ∀ (t : T) (nm : ByteArray) (p q : List Int) (e : Nat), checkT t nm p = some (q, e) → e = 1 ∨ e = 4 ∨ e = 5
  | .mk k bits hi lo text more sub bs f, nm, p, q, e, h => by
    simp only [checkT] at h
    split at h
    · simp at h; omega
    · split at h
      · simp at h; omega
      · split at h
        · simp at h; omega
        · exact checkF_err f 0 p q e h
theorem checkF_err : ∀ (f : F) (i : Nat) (p q : List Int) (e : Nat), checkF f i p = some (q, e) → e = 1 ∨ e = 4 ∨ e = 5
  | .nil, i, p, q, e, h => by simp [checkF] at h
  | .cons n t r, i, p, q, e, h => by
    simp only [checkF] at h
    split at h
    · rename_i x hx
      simp only [Option.some.injEq] at h
      subst h
      exact checkT_err t n _ q e hx
    · exact checkF_err r _ p q e h
end
def orE (a b : Option (List Int × Nat)) : Option (List Int × Nat) := match a with | some e => some e | none => b
theorem checkF_step (a : F) (j : Nat) (n : ByteArray) (t : T) (xs : List Int) (h : a.get? j = some (n, t)) : checkF (a.drop j) j xs = orE (checkT t n (xs ++ [(j : Int)])) (checkF (a.drop (j + 1)) (j + 1) xs) := by
  rw [F.drop_get a j n t h]; rfl
theorem checkF_end (a : F) (j : Nat) (xs : List Int) (h : a.len ≤ j) : checkF (a.drop j) j xs = none := by
  rw [F.drop_len a j h]; rfl

theorem OwnI.base {w : World} {B B' : Nat} {v : Value} {xs : List Int} (h : OwnI w B v xs) (hB : B' ≤ B) : OwnI w B' v xs := ownsRow_weaken h hB

def TChkSaid (d : Nat) : Prop := ∀ t : T, t.wt ≤ d → ∀ (nm : ByteArray), nm.size ≤ 1000000 → ∀ (w0 w : World) (B : Nat) (c : Array Value) (vp : Value) (xs : List Int), RdT w0 t c → Below w0.heap.size w0 w → w0.heap.size ≤ B → B ≤ w.heap.size →
  OwnI w B vp xs → xs.length + t.wt ≤ 1000000 →
  Calls Try.prog 57 #[.agg c, .string nm, vp] w fun e w' => ∃ a n cc, e = .returned (.tuple #[.slice a n cc, .int .i64 (errN (checkT t nm xs) : Nat)]) ∧ OwnI w' w.heap.size (.slice a n cc) (errP (checkT t nm xs)) ∧ OwnI w' B vp xs ∧ Chg (fun k => vp.ownBlock = some k) w w'

/-- What stands at the head of each round. -/
def TChkRel (w0 w : World) (B : Nat) (vp : Value) (kids : F) (c : Array Value) (r : Option (List Int × Nat)) (xs : List Int) (i : Value) (wr : World) : Prop :=
  ∃ (j : Nat), i = .int .i64 j ∧ j ≤ kids.len ∧ Hid (r = checkF (kids.drop j) j xs) ∧ OwnI wr B vp xs ∧ BoxV wr w.heap.size c ∧ Chg (fun k => vp.ownBlock = some k) w wr

theorem tchk_rec {d : Nat} (hof : TChkSaid d) {t : T} (hd : t.wt ≤ d) {nm : ByteArray} (hnm : nm.size ≤ 1000000) {w0 W2 w5 : World} {B : Nat} {c : Array Value} {vp v5 : Value} {ys : List Int} (h : RdT w0 t c) (hb : Below w0.heap.size w0 W2) (hwB : w0.heap.size ≤ B) (hB2 : B ≤ W2.heap.size)
    (hi : OwnI w5 B v5 ys) (ha : AppF W2 w5 vp v5) (hvp : ∀ k, vp.ownBlock = some k → B ≤ k) (hx : ys.length + t.wt ≤ 1000000) :
    Calls Try.prog 57 #[.agg c, .string nm, v5] w5 fun e w' => ∃ a n cc, e = .returned (.tuple #[.slice a n cc, .int .i64 (errN (checkT t nm ys) : Nat)]) ∧ OwnI w' w5.heap.size (.slice a n cc) (errP (checkT t nm ys)) ∧ OwnI w' B v5 ys ∧ Chg (fun k => v5.ownBlock = some k) w5 w' := by
  have hs := ha.size
  exact hof t hd nm hnm w0 w5 B c v5 ys h (ha.below hb (by omega) (fun k hk => by have := hvp k hk; omega)) hwB (by omega) hi hx

set_option maxRecDepth 100000 in
set_option maxHeartbeats 16000000 in
theorem tchk_step (d : Nat) (hof : TChkSaid d) : TChkSaid (d + 1) := by
  intro t hd nm hnm w0 w B c vp xs h hw0 hwB hBw hoi hxl
  obtain ⟨k, bits, hi, lo, text, more, sub, bs, kids⟩ := t
  have hwt : T.wt (.mk k bits hi lo text more sub bs kids) = 2 + text.size + more.size + bs.length + kids.wt := by simp only [T.wt]
  rw [hwt] at hd hxl
  have H1 := Lib.hid h
  obtain ⟨ab, nb, cb, ak, nk, ck, rfl, -, hrb, hkl, hnk, hks⟩ := h
  have hbl : bs.length = nb := hrb.1
  obtain ⟨R, hR⟩ : ∃ R, R = checkT (.mk k bits hi lo text more sub bs kids) nm xs := ⟨_, rfl⟩
  rw [← hR]
  have hRR : R = (if knownK k = false then some (xs, 5) else if fieldsOf k bits hi lo text more sub nb nk = false then some (xs, 1) else if (textOk (k == 11) (sl text) && textOk (k == 11) (sl more) && textOk true (sl nm)) = false then some (xs, 4) else checkF (kids.drop 0) 0 xs) := by
    rw [hR, ← hbl, ← hkl]; rfl
  have HRR := Lib.hid hRR
  have HOF := Lib.hid hof
  have HKS := Lib.hid hks
  have HKL := Lib.hid hkl
  have HW0 := Lib.hid hw0
  have HOI := Lib.hid hoi
  have hsw0 := hw0.size
  have hnk9 := hnk.1
  obtain ⟨ap, cp, rfl, hrp, hcp, -, hxm⟩ := hoi.rd
  have HFP : Hid (∀ k, (Value.slice ap xs.length cp).ownBlock = some k → B ≤ k ∧ k < w.heap.size) := fun k hk => owns_lt hoi k hk
  have CC := Lib.hid (fun W hW => cloneI_calls ap xs.length cp xs W _ rfl (RdPS.keep (KeepS.below hW) hrp) hcp (by omega))
  have CN := Lib.hid (fun W => name_calls k W)
  have CF := Lib.hid (fun W => fields_calls W k bits hi lo text more sub ab nb cb ak nk ck)
  obtain ⟨rx, hrx⟩ : ∃ rx, rx = (k == 11) := ⟨_, rfl⟩
  rw [← hrx] at hRR
  have C1 := Lib.hid (fun W => twhole_calls text rx (by omega) W)
  have C2 := Lib.hid (fun W => twhole_calls more rx (by omega) W)
  have C3 := Lib.hid (fun W => twhole_calls nm true (by omega) W)
  obtain ⟨kn, hkn⟩ : ∃ x, x = knownK k := ⟨_, rfl⟩
  obtain ⟨fo, hfo⟩ : ∃ x, x = fieldsOf k bits hi lo text more sub nb nk := ⟨_, rfl⟩
  obtain ⟨o1, ho1⟩ : ∃ x, x = textOk rx (sl text) := ⟨_, rfl⟩
  obtain ⟨o2, ho2⟩ : ∃ x, x = textOk rx (sl more) := ⟨_, rfl⟩
  obtain ⟨o3, ho3⟩ : ∃ x, x = textOk true (sl nm) := ⟨_, rfl⟩
  rw [← hkn] at CN hRR
  rw [← hfo] at CF hRR
  rw [← ho1] at C1 hRR
  rw [← ho2] at C2 hRR
  rw [← ho3] at C3 hRR
  have HRR := Lib.hid hRR
  have HRX : Hid ((k == 11) = rx) := hrx.symm
  have HB0 : Hid (Below w.heap.size w (w.alloc (.cells (valCells k bits hi lo text more sub ab nb cb ak nk ck) 26))) := (Below.refl _ _).alloc (Nat.le_refl _) _
  have HX0 : Hid (BoxV (w.alloc (.cells (valCells k bits hi lo text more sub ab nb cb ak nk ck) 26)) w.heap.size (valCells k bits hi lo text more sub ab nb cb ak nk ck)) := BoxV.new _ _ _
  clear hof hks hkl hw0 hoi hwt hnk hR hRR hrp hrx hkn hfo ho1 ho2 ho3 hrb hbl
  cases kn with
  | false =>
    have HR : Hid (R = some (xs, 5)) := by show _ = _; rw [HRR.out]; rfl
    clear HRR
    go_enter Try.func57, Try.ntmps57
    obtain ⟨f0, f1, f2, f3, f4, f5, f6, f7, f8, l0⟩ := HX0.out.nine
    have e11 := HRX.out
    go_wp2_with fail
    refine (CN.out _).mono ?_
    rintro e w1 ⟨s1, rfl, hs1, hb1⟩
    have HB1 : Hid (Below w.heap.size w w1) := HB0.out.trans (hb1.mono HB0.out.size)
    have HX1 := Lib.hid (HX0.out.keep hb1)
    have hs1 : (s1.toList == []) = true := hs1
    clear f0 f1 f2 f3 f4 f5 f6 f7 f8 l0
    obtain ⟨f0, f1, f2, f3, f4, f5, f6, f7, f8, l0⟩ := HX1.out.nine
    clear hb1
    go_wp2_with fail
    refine (CC.out w1 HB1.out).mono ?_
    rintro e w9 ⟨v9, rfl, ho9, hb9⟩
    have HB9 : Hid (Below w.heap.size w w9) := HB1.out.trans (hb9.mono HB1.out.size)
    have HO9 : Hid (OwnI w9 w.heap.size v9 xs) := OwnI.base ho9 HB1.out.size
    obtain ⟨a9, c9, rfl, -⟩ := ho9.rd
    clear ho9 hb9 f0 f1 f2 f3 f4 f5 f6 f7 f8 l0
    go_wp2_with fail
    go_ret2
    exact ⟨a9, _, c9, by rw [HR.out]; rfl, by rw [HR.out]; exact HO9.out, owns_keep HOI.out HB9.out, Chg.of_below HB9.out⟩
  | true =>
  cases fo with
  | false =>
    have HR : Hid (R = some (xs, 1)) := by show _ = _; rw [HRR.out]; rfl
    clear HRR
    go_enter Try.func57, Try.ntmps57
    obtain ⟨f0, f1, f2, f3, f4, f5, f6, f7, f8, l0⟩ := HX0.out.nine
    have e11 := HRX.out
    go_wp2_with fail
    refine (CN.out _).mono ?_
    rintro e w1 ⟨s1, rfl, hs1, hb1⟩
    have HB1 : Hid (Below w.heap.size w w1) := HB0.out.trans (hb1.mono HB0.out.size)
    have HX1 := Lib.hid (HX0.out.keep hb1)
    have hs1 : (s1.toList == []) = false := hs1
    clear f0 f1 f2 f3 f4 f5 f6 f7 f8 l0
    obtain ⟨f0, f1, f2, f3, f4, f5, f6, f7, f8, l0⟩ := HX1.out.nine
    clear hb1
    go_wp2_with fail
    refine (CF.out _).mono ?_
    rintro e w2 ⟨rfl, hb2⟩
    have HB2 : Hid (Below w.heap.size w w2) := HB1.out.trans (hb2.mono HB1.out.size)
    have HX2 := Lib.hid (HX1.out.keep hb2)
    clear f0 f1 f2 f3 f4 f5 f6 f7 f8 l0
    obtain ⟨f0, f1, f2, f3, f4, f5, f6, f7, f8, l0⟩ := HX2.out.nine
    clear hb2
    go_wp2_with fail
    refine (CC.out w2 HB2.out).mono ?_
    rintro e w9 ⟨v9, rfl, ho9, hb9⟩
    have HB9 : Hid (Below w.heap.size w w9) := HB2.out.trans (hb9.mono HB2.out.size)
    have HO9 : Hid (OwnI w9 w.heap.size v9 xs) := OwnI.base ho9 HB2.out.size
    obtain ⟨a9, c9, rfl, -⟩ := ho9.rd
    clear ho9 hb9 f0 f1 f2 f3 f4 f5 f6 f7 f8 l0
    go_wp2_with fail
    go_ret2
    exact ⟨a9, _, c9, by rw [HR.out]; rfl, by rw [HR.out]; exact HO9.out, owns_keep HOI.out HB9.out, Chg.of_below HB9.out⟩
  | true =>
  cases o1 with
  | false =>
    have HR : Hid (R = some (xs, 4)) := by show _ = _; rw [HRR.out]; rfl
    clear HRR
    go_enter Try.func57, Try.ntmps57
    obtain ⟨f0, f1, f2, f3, f4, f5, f6, f7, f8, l0⟩ := HX0.out.nine
    have e11 := HRX.out
    go_wp2_with fail
    refine (CN.out _).mono ?_
    rintro e w1 ⟨s1, rfl, hs1, hb1⟩
    have HB1 : Hid (Below w.heap.size w w1) := HB0.out.trans (hb1.mono HB0.out.size)
    have HX1 := Lib.hid (HX0.out.keep hb1)
    have hs1 : (s1.toList == []) = false := hs1
    clear f0 f1 f2 f3 f4 f5 f6 f7 f8 l0
    obtain ⟨f0, f1, f2, f3, f4, f5, f6, f7, f8, l0⟩ := HX1.out.nine
    clear hb1
    go_wp2_with fail
    refine (CF.out _).mono ?_
    rintro e w2 ⟨rfl, hb2⟩
    have HB2 : Hid (Below w.heap.size w w2) := HB1.out.trans (hb2.mono HB1.out.size)
    have HX2 := Lib.hid (HX1.out.keep hb2)
    clear f0 f1 f2 f3 f4 f5 f6 f7 f8 l0
    obtain ⟨f0, f1, f2, f3, f4, f5, f6, f7, f8, l0⟩ := HX2.out.nine
    clear hb2
    go_wp2_with fail
    refine (C1.out _).mono ?_
    rintro e w3 ⟨rfl, hb3⟩
    have HB3 : Hid (Below w.heap.size w w3) := HB2.out.trans (hb3.mono HB2.out.size)
    have HX3 := Lib.hid (HX2.out.keep hb3)
    clear f0 f1 f2 f3 f4 f5 f6 f7 f8 l0
    obtain ⟨f0, f1, f2, f3, f4, f5, f6, f7, f8, l0⟩ := HX3.out.nine
    clear hb3
    go_wp2_with fail
    refine (CC.out w3 HB3.out).mono ?_
    rintro e w9 ⟨v9, rfl, ho9, hb9⟩
    have HB9 : Hid (Below w.heap.size w w9) := HB3.out.trans (hb9.mono HB3.out.size)
    have HO9 : Hid (OwnI w9 w.heap.size v9 xs) := OwnI.base ho9 HB3.out.size
    obtain ⟨a9, c9, rfl, -⟩ := ho9.rd
    clear ho9 hb9 f0 f1 f2 f3 f4 f5 f6 f7 f8 l0
    go_wp2_with fail
    go_ret2
    exact ⟨a9, _, c9, by rw [HR.out]; rfl, by rw [HR.out]; exact HO9.out, owns_keep HOI.out HB9.out, Chg.of_below HB9.out⟩
  | true =>
  cases o2 with
  | false =>
    have HR : Hid (R = some (xs, 4)) := by show _ = _; rw [HRR.out]; rfl
    clear HRR
    go_enter Try.func57, Try.ntmps57
    obtain ⟨f0, f1, f2, f3, f4, f5, f6, f7, f8, l0⟩ := HX0.out.nine
    have e11 := HRX.out
    go_wp2_with fail
    refine (CN.out _).mono ?_
    rintro e w1 ⟨s1, rfl, hs1, hb1⟩
    have HB1 : Hid (Below w.heap.size w w1) := HB0.out.trans (hb1.mono HB0.out.size)
    have HX1 := Lib.hid (HX0.out.keep hb1)
    have hs1 : (s1.toList == []) = false := hs1
    clear f0 f1 f2 f3 f4 f5 f6 f7 f8 l0
    obtain ⟨f0, f1, f2, f3, f4, f5, f6, f7, f8, l0⟩ := HX1.out.nine
    clear hb1
    go_wp2_with fail
    refine (CF.out _).mono ?_
    rintro e w2 ⟨rfl, hb2⟩
    have HB2 : Hid (Below w.heap.size w w2) := HB1.out.trans (hb2.mono HB1.out.size)
    have HX2 := Lib.hid (HX1.out.keep hb2)
    clear f0 f1 f2 f3 f4 f5 f6 f7 f8 l0
    obtain ⟨f0, f1, f2, f3, f4, f5, f6, f7, f8, l0⟩ := HX2.out.nine
    clear hb2
    go_wp2_with fail
    refine (C1.out _).mono ?_
    rintro e w3 ⟨rfl, hb3⟩
    have HB3 : Hid (Below w.heap.size w w3) := HB2.out.trans (hb3.mono HB2.out.size)
    have HX3 := Lib.hid (HX2.out.keep hb3)
    clear f0 f1 f2 f3 f4 f5 f6 f7 f8 l0
    obtain ⟨f0, f1, f2, f3, f4, f5, f6, f7, f8, l0⟩ := HX3.out.nine
    clear hb3
    go_wp2_with fail
    refine (C2.out _).mono ?_
    rintro e w4 ⟨rfl, hb4⟩
    have HB4 : Hid (Below w.heap.size w w4) := HB3.out.trans (hb4.mono HB3.out.size)
    have HX4 := Lib.hid (HX3.out.keep hb4)
    clear f0 f1 f2 f3 f4 f5 f6 f7 f8 l0
    obtain ⟨f0, f1, f2, f3, f4, f5, f6, f7, f8, l0⟩ := HX4.out.nine
    clear hb4
    go_wp2_with fail
    refine (CC.out w4 HB4.out).mono ?_
    rintro e w9 ⟨v9, rfl, ho9, hb9⟩
    have HB9 : Hid (Below w.heap.size w w9) := HB4.out.trans (hb9.mono HB4.out.size)
    have HO9 : Hid (OwnI w9 w.heap.size v9 xs) := OwnI.base ho9 HB4.out.size
    obtain ⟨a9, c9, rfl, -⟩ := ho9.rd
    clear ho9 hb9 f0 f1 f2 f3 f4 f5 f6 f7 f8 l0
    go_wp2_with fail
    go_ret2
    exact ⟨a9, _, c9, by rw [HR.out]; rfl, by rw [HR.out]; exact HO9.out, owns_keep HOI.out HB9.out, Chg.of_below HB9.out⟩
  | true =>
  cases o3 with
  | false =>
    have HR : Hid (R = some (xs, 4)) := by show _ = _; rw [HRR.out]; rfl
    clear HRR
    go_enter Try.func57, Try.ntmps57
    obtain ⟨f0, f1, f2, f3, f4, f5, f6, f7, f8, l0⟩ := HX0.out.nine
    have e11 := HRX.out
    go_wp2_with fail
    refine (CN.out _).mono ?_
    rintro e w1 ⟨s1, rfl, hs1, hb1⟩
    have HB1 : Hid (Below w.heap.size w w1) := HB0.out.trans (hb1.mono HB0.out.size)
    have HX1 := Lib.hid (HX0.out.keep hb1)
    have hs1 : (s1.toList == []) = false := hs1
    clear f0 f1 f2 f3 f4 f5 f6 f7 f8 l0
    obtain ⟨f0, f1, f2, f3, f4, f5, f6, f7, f8, l0⟩ := HX1.out.nine
    clear hb1
    go_wp2_with fail
    refine (CF.out _).mono ?_
    rintro e w2 ⟨rfl, hb2⟩
    have HB2 : Hid (Below w.heap.size w w2) := HB1.out.trans (hb2.mono HB1.out.size)
    have HX2 := Lib.hid (HX1.out.keep hb2)
    clear f0 f1 f2 f3 f4 f5 f6 f7 f8 l0
    obtain ⟨f0, f1, f2, f3, f4, f5, f6, f7, f8, l0⟩ := HX2.out.nine
    clear hb2
    go_wp2_with fail
    refine (C1.out _).mono ?_
    rintro e w3 ⟨rfl, hb3⟩
    have HB3 : Hid (Below w.heap.size w w3) := HB2.out.trans (hb3.mono HB2.out.size)
    have HX3 := Lib.hid (HX2.out.keep hb3)
    clear f0 f1 f2 f3 f4 f5 f6 f7 f8 l0
    obtain ⟨f0, f1, f2, f3, f4, f5, f6, f7, f8, l0⟩ := HX3.out.nine
    clear hb3
    go_wp2_with fail
    refine (C2.out _).mono ?_
    rintro e w4 ⟨rfl, hb4⟩
    have HB4 : Hid (Below w.heap.size w w4) := HB3.out.trans (hb4.mono HB3.out.size)
    have HX4 := Lib.hid (HX3.out.keep hb4)
    clear f0 f1 f2 f3 f4 f5 f6 f7 f8 l0
    obtain ⟨f0, f1, f2, f3, f4, f5, f6, f7, f8, l0⟩ := HX4.out.nine
    clear hb4
    go_wp2_with fail
    refine (C3.out _).mono ?_
    rintro e w5 ⟨rfl, hb5⟩
    have HB5 : Hid (Below w.heap.size w w5) := HB4.out.trans (hb5.mono HB4.out.size)
    have HX5 := Lib.hid (HX4.out.keep hb5)
    clear f0 f1 f2 f3 f4 f5 f6 f7 f8 l0
    obtain ⟨f0, f1, f2, f3, f4, f5, f6, f7, f8, l0⟩ := HX5.out.nine
    clear hb5
    go_wp2_with fail
    refine (CC.out w5 HB5.out).mono ?_
    rintro e w9 ⟨v9, rfl, ho9, hb9⟩
    have HB9 : Hid (Below w.heap.size w w9) := HB5.out.trans (hb9.mono HB5.out.size)
    have HO9 : Hid (OwnI w9 w.heap.size v9 xs) := OwnI.base ho9 HB5.out.size
    obtain ⟨a9, c9, rfl, -⟩ := ho9.rd
    clear ho9 hb9 f0 f1 f2 f3 f4 f5 f6 f7 f8 l0
    go_wp2_with fail
    go_ret2
    exact ⟨a9, _, c9, by rw [HR.out]; rfl, by rw [HR.out]; exact HO9.out, owns_keep HOI.out HB9.out, Chg.of_below HB9.out⟩
  | true =>
  have HG : Hid (R = checkF (kids.drop 0) 0 xs) := by show _ = _; rw [HRR.out]; rfl
  clear HRR
  go_enter Try.func57, Try.ntmps57
  obtain ⟨f0, f1, f2, f3, f4, f5, f6, f7, f8, l0⟩ := HX0.out.nine
  have e11 := HRX.out
  go_wp2_with fail
  refine (CN.out _).mono ?_
  rintro e w1 ⟨s1, rfl, hs1, hb1⟩
  have HB1 : Hid (Below w.heap.size w w1) := HB0.out.trans (hb1.mono HB0.out.size)
  have HX1 := Lib.hid (HX0.out.keep hb1)
  have hs1 : (s1.toList == []) = false := hs1
  clear f0 f1 f2 f3 f4 f5 f6 f7 f8 l0
  obtain ⟨f0, f1, f2, f3, f4, f5, f6, f7, f8, l0⟩ := HX1.out.nine
  clear hb1
  go_wp2_with fail
  refine (CF.out _).mono ?_
  rintro e w2 ⟨rfl, hb2⟩
  have HB2 : Hid (Below w.heap.size w w2) := HB1.out.trans (hb2.mono HB1.out.size)
  have HX2 := Lib.hid (HX1.out.keep hb2)
  clear f0 f1 f2 f3 f4 f5 f6 f7 f8 l0
  obtain ⟨f0, f1, f2, f3, f4, f5, f6, f7, f8, l0⟩ := HX2.out.nine
  clear hb2
  go_wp2_with fail
  refine (C1.out _).mono ?_
  rintro e w3 ⟨rfl, hb3⟩
  have HB3 : Hid (Below w.heap.size w w3) := HB2.out.trans (hb3.mono HB2.out.size)
  have HX3 := Lib.hid (HX2.out.keep hb3)
  clear f0 f1 f2 f3 f4 f5 f6 f7 f8 l0
  obtain ⟨f0, f1, f2, f3, f4, f5, f6, f7, f8, l0⟩ := HX3.out.nine
  clear hb3
  go_wp2_with fail
  refine (C2.out _).mono ?_
  rintro e w4 ⟨rfl, hb4⟩
  have HB4 : Hid (Below w.heap.size w w4) := HB3.out.trans (hb4.mono HB3.out.size)
  have HX4 := Lib.hid (HX3.out.keep hb4)
  clear f0 f1 f2 f3 f4 f5 f6 f7 f8 l0
  obtain ⟨f0, f1, f2, f3, f4, f5, f6, f7, f8, l0⟩ := HX4.out.nine
  clear hb4
  go_wp2_with fail
  refine (C3.out _).mono ?_
  rintro e w5 ⟨rfl, hb5⟩
  have HB5 : Hid (Below w.heap.size w w5) := HB4.out.trans (hb5.mono HB4.out.size)
  have HX5 := Lib.hid (HX4.out.keep hb5)
  clear f0 f1 f2 f3 f4 f5 f6 f7 f8 l0
  obtain ⟨f0, f1, f2, f3, f4, f5, f6, f7, f8, l0⟩ := HX5.out.nine
  clear hb5
  go_wp2_with fail
  go_loopw [52] (fun i wr => TChkRel w0 w B (Value.slice ap xs.length cp) kids (valCells k bits hi lo text more sub ab nb cb ak nk ck) R xs i wr) (fun i _ => nk - (intOf i).toNat)
  case atStart => exact ⟨0, rfl, Nat.zero_le _, HG, owns_keep HOI.out HB5.out, HX5.out, Chg.of_below HB5.out⟩
  case round =>
    obtain ⟨j, rfl, hj, HGG, hi2, hb1, hch⟩ := hrel
    rw [HKL.out] at hj
    have HI := Lib.hid hi2
    have HX := Lib.hid hb1
    have HC := Lib.hid hch
    have hz : w.heap.size < wr.heap.size := hb1.1
    clear hi2 hb1 hch HX0 HX1 HX2 HX3 HX4 HX5 HB1 HB2 HB3 HB4 HB5 f0 f1 f2 f3 f4 f5 f6 f7 f8 l0
    by_cases hlt : j < nk
    · obtain ⟨⟨n, tt⟩, hx⟩ := F.get_some kids j (by rw [HKL.out]; exact hlt)
      have hwg := F.wt_get kids j n tt hx
      have hst := checkF_step kids j n tt xs hx
      obtain ⟨b, o, k', bits', hi', lo', text', more', sub', bs', kids', ab', nb', cb', ak', nk', ck', rfl, rfl, e1, e2, e3, g0, g1, g2, g3, g4, g5, g6, g7, g8, g9⟩ := (HKS.out.at hx).cells
      have hB0r : Below w0.heap.size w0 wr := HW0.out.trans (HC.out.below hsw0 (fun i h => by have := (HFP.out i h).1; omega))
      have HB0r := Lib.hid hB0r
      have E3 := Lib.hid e3
      have hj0 : (0 : Int) ≤ (j : Int) := by omega
      have hj1 : (j : Int) < (nk : Int) := by omega
      have y0 : wr.cell? ⟨b, o + j * 10, none⟩ = some (.string n) := cell_below hB0r g0
      have y1 : wr.cell? ⟨b, o + j * 10 + 1, none⟩ = some (.int .i64 k') := cell_below hB0r g1
      have y2 : wr.cell? ⟨b, o + j * 10 + 2, none⟩ = some (.int .u64 (bits' : Nat)) := cell_below hB0r g2
      have y3 : wr.cell? ⟨b, o + j * 10 + 3, none⟩ = some (.int .u64 (hi' : Nat)) := cell_below hB0r g3
      have y4 : wr.cell? ⟨b, o + j * 10 + 4, none⟩ = some (.int .u64 (lo' : Nat)) := cell_below hB0r g4
      have y5 : wr.cell? ⟨b, o + j * 10 + 5, none⟩ = some (.string text') := cell_below hB0r g5
      have y6 : wr.cell? ⟨b, o + j * 10 + 6, none⟩ = some (.string more') := cell_below hB0r g6
      have y7 : wr.cell? ⟨b, o + j * 10 + 7, none⟩ = some (.int .i64 sub') := cell_below hB0r g7
      have y8 : wr.cell? ⟨b, o + j * 10 + 8, none⟩ = some (.slice ab' nb' cb') := cell_below hB0r g8
      have y9 : wr.cell? ⟨b, o + j * 10 + 9, none⟩ = some (.slice ak' nk' ck') := cell_below hB0r g9
      have hw1 : (T.mk k' bits' hi' lo' text' more' sub' bs' kids').wt ≤ d := by omega
      have hnn : n.size ≤ 1000000 := by omega
      have hlen1 : (xs ++ [(j : Int)]).length + (T.mk k' bits' hi' lo' text' more' sub' bs' kids').wt ≤ 1000000 := by simp; omega
      obtain ⟨R6, hR6⟩ : ∃ R6, R6 = checkT (T.mk k' bits' hi' lo' text' more' sub' bs' kids') n (xs ++ [(j : Int)]) := ⟨_, rfl⟩
      rw [← hR6] at hst
      have HGN : Hid (R = orE R6 (checkF (kids.drop (j + 1)) (j + 1) xs)) := HGG.out.trans hst
      have HR6 := Lib.hid hR6
      have HE : Hid (∀ q e, R6 = some (q, e) → e = 1 ∨ e = 4 ∨ e = 5) := by
        show ∀ q e, _
        intro q e h6
        exact checkT_err _ _ _ q e (hR6.symm.trans h6)
      clear hx hst e3 e1 e2 g0 g1 g2 g3 g4 g5 g6 g7 g8 g9 hR6 hB0r
      go_wp2_with fail
      obtain ⟨wf, hwf⟩ : ∃ W, W = wr.alloc (.cells #[.string n, .int .i64 k', .int .u64 (bits' : Nat), .int .u64 (hi' : Nat), .int .u64 (lo' : Nat), .string text', .string more', .int .i64 sub', .slice ab' nb' cb', .slice ak' nk' ck'] 57) := ⟨_, rfl⟩
      have hwfb : Below wr.heap.size wr wf := by rw [hwf]; exact (Below.refl _ _).alloc (Nat.le_refl _) _
      have hgf : wr.heap.size < wf.heap.size := by rw [hwf]; simp
      have x0 : wf.cell? ⟨wr.heap.size, 0, none⟩ = some (.string n) := by rw [hwf]; simp [go_sem]
      have x1 : wf.cell? ⟨wr.heap.size, 1, none⟩ = some (.int .i64 k') := by rw [hwf]; simp [go_sem]
      have x2 : wf.cell? ⟨wr.heap.size, 2, none⟩ = some (.int .u64 (bits' : Nat)) := by rw [hwf]; simp [go_sem]
      have x3 : wf.cell? ⟨wr.heap.size, 3, none⟩ = some (.int .u64 (hi' : Nat)) := by rw [hwf]; simp [go_sem]
      have x4 : wf.cell? ⟨wr.heap.size, 4, none⟩ = some (.int .u64 (lo' : Nat)) := by rw [hwf]; simp [go_sem]
      have x5 : wf.cell? ⟨wr.heap.size, 5, none⟩ = some (.string text') := by rw [hwf]; simp [go_sem]
      have x6 : wf.cell? ⟨wr.heap.size, 6, none⟩ = some (.string more') := by rw [hwf]; simp [go_sem]
      have x7 : wf.cell? ⟨wr.heap.size, 7, none⟩ = some (.int .i64 sub') := by rw [hwf]; simp [go_sem]
      have x8 : wf.cell? ⟨wr.heap.size, 8, none⟩ = some (.slice ab' nb' cb') := by rw [hwf]; simp [go_sem]
      have x9 : wf.cell? ⟨wr.heap.size, 9, none⟩ = some (.slice ak' nk' ck') := by rw [hwf]; simp [go_sem]
      rw [← hwf]
      clear hwf y0 y1 y2 y3 y4 y5 y6 y7 y8 y9
      obtain ⟨g8, hg8⟩ : ∃ g, g = wr.heap.size := ⟨_, rfl⟩
      rw [← hg8] at hgf x0 x1 x2 x3 x4 x5 x6 x7 x8 x9 ⊢
      have HG8 := Lib.hid hg8
      have hzg : w.heap.size < g8 := by omega
      clear hg8
      have HIg := Lib.hid (owns_keep HI.out hwfb)
      have HXg := Lib.hid (HX.out.keep hwfb)
      have HB0g : Hid (Below w0.heap.size w0 wf) := HB0r.out.trans (hwfb.mono HB0r.out.size)
      have HCg : Hid (Chg (fun k => (Value.slice ap xs.length cp).ownBlock = some k) w wf) := HC.out.trans (Chg.of_below (S := fun _ => False) hwfb) (fun _ _ h => h.elim)
      have HSS : Hid (∀ W, Chg (fun k => (Value.slice ap xs.length cp).ownBlock = some k) wf W → Hid (Chg (fun k => (Value.slice ap xs.length cp).ownBlock = some k) wf W) ∧ W.cell? ⟨g8, 0, none⟩ = some (.string n) ∧ W.cell? ⟨g8, 1, none⟩ = some (.int .i64 k') ∧ W.cell? ⟨g8, 2, none⟩ = some (.int .u64 (bits' : Nat)) ∧ W.cell? ⟨g8, 3, none⟩ = some (.int .u64 (hi' : Nat)) ∧ W.cell? ⟨g8, 4, none⟩ = some (.int .u64 (lo' : Nat)) ∧ W.cell? ⟨g8, 5, none⟩ = some (.string text') ∧ W.cell? ⟨g8, 6, none⟩ = some (.string more') ∧ W.cell? ⟨g8, 7, none⟩ = some (.int .i64 sub') ∧ W.cell? ⟨g8, 8, none⟩ = some (.slice ab' nb' cb') ∧ W.cell? ⟨g8, 9, none⟩ = some (.slice ak' nk' ck')) := by
        show ∀ W, _
        intro W hW
        have n1 : ¬ (Value.slice ap xs.length cp).ownBlock = some g8 := fun e => by have := (HFP.out _ e).2; omega
        exact ⟨hW, hW.cell n1 x0, hW.cell n1 x1, hW.cell n1 x2, hW.cell n1 x3, hW.cell n1 x4, hW.cell n1 x5, hW.cell n1 x6, hW.cell n1 x7, hW.cell n1 x8, hW.cell n1 x9⟩
      clear HB0r HC HI HX hwfb
      go_region_held3 (fun W => Hid (Chg (fun k => (Value.slice ap xs.length cp).ownBlock = some k) wf W) ∧ W.cell? ⟨g8, 0, none⟩ = some (.string n) ∧ W.cell? ⟨g8, 1, none⟩ = some (.int .i64 k') ∧ W.cell? ⟨g8, 2, none⟩ = some (.int .u64 (bits' : Nat)) ∧ W.cell? ⟨g8, 3, none⟩ = some (.int .u64 (hi' : Nat)) ∧ W.cell? ⟨g8, 4, none⟩ = some (.int .u64 (lo' : Nat)) ∧ W.cell? ⟨g8, 5, none⟩ = some (.string text') ∧ W.cell? ⟨g8, 6, none⟩ = some (.string more') ∧ W.cell? ⟨g8, 7, none⟩ = some (.int .i64 sub') ∧ W.cell? ⟨g8, 8, none⟩ = some (.slice ab' nb' cb') ∧ W.cell? ⟨g8, 9, none⟩ = some (.slice ak' nk' ck')) (first | with_reducible exact HSS.out _ HC6.out | with_reducible exact HSS.out _ HC5.out | ((with_reducible refine HSS.out _ ?_); (repeat' (first | with_reducible exact HC6.out | with_reducible exact HC5.out | with_reducible apply Chg.drew | with_reducible refine Chg.alloc ?_ _ | with_reducible exact Chg.refl _ _)); done) | fail) ((first | (refine step_appI2 (v := Value.slice ap xs.length cp) (xs := xs) (sv := .slice (some ⟨wf.heap.size, 0, none⟩) 1 1) (l := [(j : Int)]) (B := B) (by rfl) _ _ (by rfl) (by rfl) (owns_keep HIg.out ?_) (by rfl) (src_cell (by simp [go_sem]; done)) (by simp; omega) (by first | omega | (simp; omega)) ?_; (case _ => (repeat' (first | with_reducible exact Below.refl _ _ | with_reducible apply Below.drew | with_reducible refine Below.alloc ?_ (by first | exact Nat.le_refl _ | (simp; done) | (simp; omega)) _))); intro v5 w5 ho5 ha5 hoi5; obtain ⟨W2, hW2, ha5⟩ : ∃ W2, Below wf.heap.size wf W2 ∧ AppF W2 w5 (Value.slice ap xs.length cp) v5 := ⟨_, by (repeat' (first | with_reducible exact Below.refl _ _ | with_reducible apply Below.drew | with_reducible refine Below.alloc ?_ (by first | exact Nat.le_refl _ | (simp; done) | (simp; omega)) _)), ha5⟩; (have hs2 := hW2.size); obtain ⟨aP, cP, hv5, -⟩ := ho5.rd; subst hv5; (have HREC := Lib.hid (tchk_rec HOF.out hw1 hnn E3.out (HB0g.out.trans (hW2.mono HB0g.out.size)) hwB (by omega) ho5 ha5 (fun k hk => (HFP.out k hk).1) hlen1)); rw [← HR6.out] at HREC; obtain ⟨N5, hN5⟩ : ∃ N, N = (xs ++ [(j : Int)]).length := ⟨_, rfl⟩; rw [← hN5] at ho5 ha5 HREC ⊢; (have HC5 : Hid (Chg (fun k => (Value.slice ap xs.length cp).ownBlock = some k) wf w5) := (Chg.of_below hW2).trans ha5.chg (fun i _ e => e)); (have HO5 := Lib.hid ho5); (have HA5 := Lib.hid ha5); (have HI5 := Lib.hid hoi5); (have HW2 := Lib.hid hW2); clear ho5 ha5 hoi5 hN5 hW2) | (go_at_call 57; (with_reducible refine HREC.out.mono ?_); rintro e w6 ⟨a6, N6, c6, rfl, ho6, hoi6, hch6⟩; obtain ⟨E6, hE6⟩ : ∃ E, E = errN R6 := ⟨_, rfl⟩; rw [← hE6]; (have HC6 : Hid (Chg (fun k => (Value.slice ap xs.length cp).ownBlock = some k) wf w6) := HC5.out.trans hch6 (fun i hi e => by rcases HA5.out.2 with h | h; exact h ▸ e; (rw [h] at e; have e2 := Option.some.inj e; have := HW2.out.size; omega))); (have HC6a := Lib.hid hch6); (have HO6 := Lib.hid ho6); (have HI6 := Lib.hid hoi6); (have HE6 := Lib.hid hE6); clear ho6 hoi6 hch6 hE6) | fail))
      all_goals
        have hIx : OwnI w6 B (Value.slice ap xs.length cp) xs := by
          refine OwnI.shorter HI5.out HO5.out HI6.out (fun hne k hk => ?_)
          have h1 := (owns_lt HI5.out k hk).2
          exact HC6a.out.block k h1 (fun e => hne (by rw [hk, e]))
        have hc6 : Chg (fun k => (Value.slice ap xs.length cp).ownBlock = some k) w w6 := HCg.out.trans HC6.out (fun i hi e => e)
        have hb61 : BoxV w6 w.heap.size (valCells k bits hi lo text more sub ab nb cb (some ⟨b, o, none⟩) nk ck) := HXg.out.chg HC6.out (fun e => by have := (HFP.out _ e).2; omega)
        have hs6 : w.heap.size ≤ w5.heap.size := by have := HC5.out.size; omega
        have HIX := Lib.hid hIx
        have HC6w := Lib.hid hc6
        have HB61 := Lib.hid hb61
        clear hIx hc6 hb61
        cases R6 with
        | none =>
          obtain rfl : E6 = 0 := HE6.out
          have hG : Hid (R = checkF (kids.drop (j + 1)) (j + 1) xs) := HGN.out
          go_wp2_with fail
          go_roundw
          case rel => exact ⟨j + 1, by simp, by rw [HKL.out]; omega, hG, HIX.out, HB61.out, HC6w.out⟩
          case measure => simp [intOf]; omega
        | some q6 =>
          obtain ⟨q6, e6⟩ := q6
          have he6 := HE.out q6 e6 rfl
          obtain rfl : E6 = e6 := HE6.out
          have hne : ((E6 : Int) != 0) = true := by simp; omega
          have hG : Hid (R = some (q6, E6)) := HGN.out
          have hq : Hid (OwnI w6 w.heap.size (.slice a6 N6 c6) q6) := OwnI.base HO6.out hs6
          go_wp2_with fail
          go_ret2
          exact ⟨a6, N6, c6, by rw [hG.out]; rfl, by rw [hG.out]; exact hq.out, HIX.out, HC6w.out⟩
    · have hend := HGG.out
      rw [checkF_end kids j xs (by rw [HKL.out]; omega)] at hend
      subst hend
      go_wp2_with fail
      go_ret2
      exact ⟨none, 0, 0, rfl, World.ownsRow_nil _ _ _ _, HI.out, HC.out⟩

theorem tchk_all : ∀ d, TChkSaid d
  | 0 => fun t hd => by cases t; simp only [T.wt] at hd; omega
  | d + 1 => tchk_step d (tchk_all d)

end Go.Proofs.Ytkcfkdmffbhljaa
