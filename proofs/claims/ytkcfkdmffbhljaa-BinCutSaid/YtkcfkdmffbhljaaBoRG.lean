/- The reference's Encode. -/
import Derived.Test.YtkcfkdmffbhljaaBoG
import Derived.Test.YtkcfkdmffbhljaaBoRV
import Derived.Test.YtkcfkdmffbhljaaMT
namespace Go.Proofs.Ytkcfkdmffbhljaa
open Go.RowKit
set_option linter.unusedVariables false
set_option linter.unusedSimpArgs false

set_option maxRecDepth 100000 in
set_option maxHeartbeats 16000000 in
theorem rencode_calls (t : T) (w : World) (c : Array Value) (h : RdT w t c) (hw : t.wt ≤ 90000) : Calls Try.prog 15 #[.agg c] w (EncOut t w) := by
  have hsz := (sizeT_bd t).2
  have CK := Lib.hid (fun W (h : RdT W t c) => rcheck2_calls t W c h (by omega))
  have CZ := Lib.hid (fun W (h : RdT W t c) => rsize_all (t.wt) (by omega) t (Nat.le_refl _) W c h)
  have HT := Lib.hid h
  obtain ⟨k, bits, hi, lo, text, more, sub, ab, nb, cb, ak, nk, ck, rfl⟩ := h.shape
  have hkind : t.kind = k ∧ RdKs w ak 0 t.kids ∧ t.kids.len = nk ∧ nk ≤ 9223372036854775807 ∧ t.kids.wt ≤ 90000 := by
    obtain ⟨k', bits', hi', lo', text', more', sub', bs', kids'⟩ := t
    obtain ⟨ab', nb', cb', ak', nk', ck', he, -, -, hkl, hn, hk⟩ := h
    simp [valCells] at he
    obtain ⟨rfl, -, -, -, -, -, -, -, rfl, rfl, rfl⟩ := he
    exact ⟨rfl, hk, hkl, hn.1, by simp only [T.wt] at hw; simp only [T.kids]; omega⟩
  have HKS := Lib.hid hkind.2
  have hb1 : Below w.heap.size w (w.alloc (.cells (valCells k bits hi lo text more sub ab nb cb ak nk ck) 26)) := (Below.refl _ _).alloc (Nat.le_refl _) _
  obtain ⟨wa, hwa⟩ : ∃ W, W = (w.alloc (.cells (valCells k bits hi lo text more sub ab nb cb ak nk ck) 26)).alloc (.cells #[.int .i64 0, .int .i64 0, .slice none 0 0] 34) := ⟨_, rfl⟩
  have HBA : Hid (Below w.heap.size w wa) := by show Below _ _ _; rw [hwa]; exact hb1.alloc (by simp) _
  have HXA : Hid (BoxV wa w.heap.size (valCells k bits hi lo text more sub ab nb cb ak nk ck)) := by show BoxV _ _ _; rw [hwa]; exact (BoxV.new _ _ _).keep ((Below.refl _ _).alloc (Nat.le_refl _) _)
  obtain ⟨gf, hgf⟩ : ∃ g, g = w.heap.size + 1 := ⟨_, rfl⟩
  have HFA : Hid (FBox wa gf) := by
    show FBox _ _
    have := FBox.new (w.alloc (.cells (valCells k bits hi lo text more sub ab nb cb ak nk ck) 26)) 34
    rw [hwa, hgf]
    simpa using this
  have hzs : wa.heap.size = w.heap.size + 2 := by rw [hwa]; simp
  have hgw : w.heap.size ≤ gf ∧ gf < wa.heap.size := by omega
  obtain ⟨E, hE⟩ : ∃ E, E = errN (chk t) := ⟨_, rfl⟩
  have hEE : encE t = if E = 0 then (if k = 3 then 0 else 5) else E := by
    unfold encE
    rw [hE, hkind.1]
    cases hc : chk t with
    | none => rfl
    | some q =>
      obtain ⟨q, e⟩ := q
      have := checkT_err t ⟨#[]⟩ [] q e hc
      have h0 : e ≠ 0 := by omega
      show e = if e = 0 then _ else e
      rw [if_neg h0]
  have HEE := Lib.hid hEE
  have HE := Lib.hid hE
  have hnil : E = 0 → errP (chk t) = [] := fun h0 => by
    cases hc : chk t with
    | none => rfl
    | some q =>
      obtain ⟨q, e⟩ := q
      have := checkT_err t ⟨#[]⟩ [] q e hc
      rw [hE, hc] at h0
      have h1 : e = 0 := h0
      omega
  have HNIL := Lib.hid hnil
  have HGF : Hid (w.heap.size + 1 = gf) := hgf.symm
  obtain ⟨f0, f1, f2, f3, f4, f5, f6, f7, f8, l0⟩ := HXA.out.nine
  have HSZ : Hid (sizeT t ≤ 16777216) := by show _ ≤ _; omega
  clear h hw hkind hb1 hEE hE hnil
  by_cases hE0 : E = 0
  case neg =>
    have hne : ((E : Int) != 0) = true := by simpa using hE0
    have HEN : Hid (encE t = E) := by show _ = _; rw [HEE.out, if_neg hE0]
    go_enter Try.func15, Try.ntmps15
    go_upto_region 1 with fail
    rw [← hwa, ← hgf]
    clear hwa hgf
    go_wp2_with fail
    refine (CK.out wa (HT.out.keep HBA.out)).mono ?_
    rintro e w1 ⟨aP, nP, cP, rfl, hnP, hmP, hrP, hcP, hb1⟩
    rw [← HE.out]
    have HB1 : Hid (Below w.heap.size w w1) := HBA.out.trans (hb1.mono HBA.out.size)
    have HX1 := Lib.hid (HXA.out.keep hb1)
    have HF1 := Lib.hid (HFA.out.keep hb1)
    have HNP := Lib.hid hnP
    have HRP := Lib.hid hrP
    have HT1 := Lib.hid ((HT.out.keep HBA.out).keep hb1)
    clear f0 f1 f2 f3 f4 f5 f6 f7 f8 l0
    obtain ⟨f0, f1, f2, f3, f4, f5, f6, f7, f8, l0⟩ := HX1.out.nine
    obtain ⟨z0, z1, z2, q0, q1, q2, hg1⟩ := HF1.out
    clear hb1 hnP hrP
    go_wp2_with fail
    refine bodyPost_ret (v := .tuple #[.slice none 0 0, .agg #[.int .i64 ((E : Nat)), .int .i64 0, .slice aP nP cP]]) (by simp [results, Try.results15, go_sem, *]) rfl ?_
    have hset : ∀ W', Chg (fun q => q = gf) w1 W' → Below w.heap.size w W' := fun W' hW => HB1.out.trans (hW.below HB1.out.size (fun i hi => by rw [hi]; exact hgw.1))
    refine ⟨none, 0, 0, aP, nP, cP, by rw [HEN.out], ?_, ⟨fun _ => rfl, Nat.le_refl _⟩, HNP.out, hmP, HRP.out.far (g := gf) ?_ (fun q hq => by have h2 : wa.heap.size ≤ q := hq; have := hgw.2; omega), hcP, hset _ ?_⟩
    · unfold encB
      rw [HEN.out, if_neg hE0]
      exact .nil _ _
    all_goals (repeat' (first | with_reducible exact Chg.refl _ _ | refine Chg.put ?_ _ _))
  subst hE0
  have hpn := HNIL.out rfl
  by_cases h3 : k = 3
  case neg =>
    have hk3 : (k != 3) = true := by simpa using h3
    have HEN : Hid (encE t = 5) := by show _ = _; rw [HEE.out]; simp [h3]
    go_enter Try.func15, Try.ntmps15
    go_upto_region 1 with fail
    rw [← hwa, ← hgf]
    clear hwa hgf
    go_wp2_with fail
    refine (CK.out wa (HT.out.keep HBA.out)).mono ?_
    rintro e w1 ⟨aP, nP, cP, rfl, hnP, hmP, hrP, hcP, hb1⟩
    rw [← HE.out]
    have HB1 : Hid (Below w.heap.size w w1) := HBA.out.trans (hb1.mono HBA.out.size)
    have HX1 := Lib.hid (HXA.out.keep hb1)
    have HF1 := Lib.hid (HFA.out.keep hb1)
    have HNP := Lib.hid hnP
    have HRP := Lib.hid hrP
    have HT1 := Lib.hid ((HT.out.keep HBA.out).keep hb1)
    clear f0 f1 f2 f3 f4 f5 f6 f7 f8 l0
    obtain ⟨f0, f1, f2, f3, f4, f5, f6, f7, f8, l0⟩ := HX1.out.nine
    obtain ⟨z0, z1, z2, q0, q1, q2, hg1⟩ := HF1.out
    clear hb1 hnP hrP
    go_wp2_with fail
    refine bodyPost_ret (v := .tuple #[.slice none 0 0, .agg #[.int .i64 (((5 : Nat) : Int)), .int .i64 0, .slice none 0 0]]) (by simp [results, Try.results15, go_sem, *]) rfl ?_
    have hset : ∀ W', Chg (fun q => q = gf) w1 W' → Below w.heap.size w W' := fun W' hW => HB1.out.trans (hW.below HB1.out.size (fun i hi => by rw [hi]; exact hgw.1))
    refine ⟨none, 0, 0, none, 0, 0, by rw [HEN.out], ?_, ⟨fun _ => rfl, Nat.le_refl _⟩, by rw [hpn]; rfl, by omega, by rw [hpn]; exact rdps_nil _ _, fun _ => rfl, hset _ ?_⟩
    · unfold encB
      rw [HEN.out, if_neg (by omega)]
      exact .nil _ _
    all_goals (repeat' (first | with_reducible exact Chg.refl _ _ | refine Chg.put ?_ _ _))
  subst h3
  have HEN : Hid (encE t = 0) := by show _ = _; rw [HEE.out]; rfl
  go_enter Try.func15, Try.ntmps15
  go_upto_region 1 with fail
  rw [← hwa, ← hgf]
  clear hwa hgf
  go_wp2_with fail
  refine (CK.out wa (HT.out.keep HBA.out)).mono ?_
  rintro e w1 ⟨aP, nP, cP, rfl, hnP, hmP, hrP, hcP, hb1⟩
  rw [← HE.out]
  have HB1 : Hid (Below w.heap.size w w1) := HBA.out.trans (hb1.mono HBA.out.size)
  have HX1 := Lib.hid (HXA.out.keep hb1)
  have HF1 := Lib.hid (HFA.out.keep hb1)
  have HNP := Lib.hid hnP
  have HRP := Lib.hid hrP
  have HT1 := Lib.hid ((HT.out.keep HBA.out).keep hb1)
  clear f0 f1 f2 f3 f4 f5 f6 f7 f8 l0
  obtain ⟨f0, f1, f2, f3, f4, f5, f6, f7, f8, l0⟩ := HX1.out.nine
  obtain ⟨z0, z1, z2, q0, q1, q2, hg1⟩ := HF1.out
  clear hb1 hnP hrP
  go_wp2_with fail
  refine (CZ.out w1 HT1.out).mono ?_
  rintro e w2 ⟨rfl, hb2⟩
  have hsz2 : decide ((16777216 : Int) < sizeT t) = false := by have := HSZ.out; simp; omega
  have HB2 : Hid (Below w.heap.size w w2) := HB1.out.trans (hb2.mono HB1.out.size)
  have HX2 := Lib.hid (HX1.out.keep hb2)
  have HF2 := Lib.hid (HF1.out.keep hb2)
  clear f0 f1 f2 f3 f4 f5 f6 f7 f8 l0
  clear z0 z1 z2 q0 q1 q2 hg1 hb2
  obtain ⟨f0, f1, f2, f3, f4, f5, f6, f7, f8, l0⟩ := HX2.out.nine
  go_wp2_with fail
  have hk4 := HKS.out
  refine (rdoc_all t.kids.wt t.kids (Nat.le_refl _) hk4.2.2.2 w2 ak nk ck (hk4.1.keep HB2.out) hk4.2.1 hk4.2.2.1).mono ?_
  rintro e w5 ⟨v5, rfl, ho5, hb5⟩
  have HB5 : Hid (Below w.heap.size w w5) := HB2.out.trans (hb5.mono HB2.out.size)
  have hF5 := HF2.out.keep hb5
  have hcap := ho5.2
  obtain ⟨a5, c5, rfl, hrd5⟩ := ho5.reads
  have HRD5 := Lib.hid hrd5
  have HO5 := Lib.hid ho5
  have HC5 := Lib.hid hcap
  have HG5 : Hid (gf < w2.heap.size) := HF2.out.2.2.2.2.2.2
  obtain ⟨z0, z1, z2, q0, q1, q2, hg1⟩ := hF5
  clear f0 f1 f2 f3 f4 f5 f6 f7 f8 l0
  clear hb5 ho5 hcap hrd5
  go_wp2_with fail
  refine bodyPost_ret (v := .tuple #[.slice a5 (docOf (kidsB t.kids)).length c5, .agg #[.int .i64 (((0 : Nat) : Int)), .int .i64 0, .slice none 0 0]]) (by simp [results, Try.results15, go_sem, *]) rfl ?_
  have hset : ∀ W', Chg (fun q => q = gf) w5 W' → Below w.heap.size w W' := fun W' hW => HB5.out.trans (hW.below HB5.out.size (fun i hi => by rw [hi]; exact hgw.1))
  refine ⟨a5, _, c5, none, 0, 0, by rw [HEN.out], ?_, ?_, by rw [hpn]; rfl, by omega, by rw [hpn]; exact rdps_nil _ _, fun _ => rfl, hset _ ?_⟩
  · unfold encB
    rw [HEN.out, if_pos rfl]
    refine HRD5.out.chg (S := fun q => q = gf) ?_ ?_
    · repeat' (first | with_reducible exact Chg.refl _ _ | refine Chg.put ?_ _ _)
    · rintro p hp h0
      have := (owns_lt HO5.out p.block (by rw [hp]; rfl)).1
      have h1 : p.block = gf := h0
      have := HG5.out
      omega
  · refine ⟨?_, ?_⟩
    · rintro rfl
      rcases HC5.out with ⟨e, _⟩ | ⟨g, cp, cur, e, _⟩
      · simp only [Value.slice.injEq] at e; exact e.2.2
      · simp at e
    · rcases HC5.out with ⟨e, h0⟩ | ⟨g, cp, cur, e, _, _, hn, _⟩
      · omega
      · simp only [Value.slice.injEq] at e
        omega
  all_goals (repeat' (first | with_reducible exact Chg.refl _ _ | refine Chg.put ?_ _ _))

end Go.Proofs.Ytkcfkdmffbhljaa
