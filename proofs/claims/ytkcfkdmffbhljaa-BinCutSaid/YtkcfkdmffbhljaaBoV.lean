/- bout.value over bout.document; both, for every tree. -/
import Derived.Test.YtkcfkdmffbhljaaMG
import Derived.Deep.Cut
namespace Go.Proofs.Ytkcfkdmffbhljaa
open Go.RowKit
set_option linter.unusedVariables false
set_option linter.unusedSimpArgs false

theorem set_scope (bs l : List UInt8) (x : Nat) (h : x = l.length + 4) : setAt (bs ++ leBytes 4 0 ++ l) bs.length (leBytes 4 x) = bs ++ scopeOf l := by
  subst h
  unfold setAt scopeOf
  have e1 : (bs ++ leBytes 4 0 ++ l).take bs.length = bs := by
    rw [List.append_assoc, List.take_left']
    rfl
  have e2 : (bs ++ leBytes 4 0 ++ l).drop (bs.length + (leBytes 4 (l.length + 4)).length) = l := by
    rw [leB_len, ← leB_len 4 0, ← List.length_append]
    exact List.drop_left' rfl
  rw [e1, e2]

set_option maxRecDepth 100000 in
set_option maxHeartbeats 32000000 in
theorem val_step (d : Nat) (hof : DocSaid d) : ValSaid (d + 1) := by
  intro t hd w0 w B g v bs0 c h hw0 hwB hwg hwt hBw hbl
  obtain ⟨k, bits, hi, lo, text, more, sub, bs, kids⟩ := t
  have hwtt : T.wt (.mk k bits hi lo text more sub bs kids) = 2 + text.size + more.size + bs.length + kids.wt := by simp only [T.wt]
  rw [hwtt] at hd hbl
  obtain ⟨ab, nb, cb, ak, nk, ck, rfl, hok, hrb, hkl, hnk, hks⟩ := h
  obtain ⟨-, hbits, hhi, hlo, -, -, -⟩ := hok
  have hbl2 : bs.length = nb := hrb.1
  have hst1 := sl_len text
  have hst2 := sl_len more
  have htl := textB_len text
  have hdl := docOf_len (kidsB kids)
  have hkb := kidsB_len kids
  have HWT := Lib.hid hwt
  have HW0 := Lib.hid hw0
  have HRB := Lib.hid hrb
  have HAB := Lib.hid hnk.2.2.1
  have HD := Lib.hid (fun W vr l h1 h2 h3 h4 => hof kids (by omega) w0 W B g vr l ak nk ck hks hkl hnk.1 h1 hwB hwg h2 h3 h4)
  have hgw : g < w.heap.size := by simpa using cell_block hwt.1
  have hvw : ∀ q, v.ownBlock = some q → q < w.heap.size := fun q hq => (owns_lt hwt.2.2.1 q hq).2
  obtain ⟨wa, hwa⟩ : ∃ W, W = w.alloc (.cells (valCells k bits hi lo text more sub ab nb cb ak nk ck) 26) := ⟨_, rfl⟩
  have hba : Below w.heap.size w wa := by rw [hwa]; exact (Below.refl _ _).alloc (Nat.le_refl _) _
  have hxa : BoxV wa w.heap.size (valCells k bits hi lo text more sub ab nb cb ak nk ck) := by rw [hwa]; exact BoxV.new _ _ _
  have HBX : Hid (∀ W, Chg (fun q => q = g ∨ v.ownBlock = some q) wa W → BoxV W w.heap.size (valCells k bits hi lo text more sub ab nb cb ak nk ck)) := by
    show ∀ W, _
    intro W hW
    refine hxa.chg hW (fun e => ?_)
    rcases e with e | e
    · omega
    · have := hvw _ e; omega
  have HG0 : Hid (WGo wa B g v bs0 v wa) := WGo.refl (hwt.below hba)
  have HWA := Lib.hid (hwt.below hba)
  have HBA := Lib.hid hba
  have HU := Lib.hid (hw0.trans (hba.mono hw0.size))
  have hBa : B ≤ wa.heap.size := Nat.le_trans hBw hba.size
  obtain ⟨f0, f1, f2, f3, f4, f5, f6, f7, f8, l0⟩ := hxa.nine
  have CL := Lib.hid (fun W vr l (h : Wtr W B g vr l) => wlen_calls g vr l W B h)
  have CB := Lib.hid (fun W vr l x (h : Wtr W B g vr l) hB hl => wbyte_calls g vr l W B h hB hl x)
  have CO := Lib.hid (fun W vr l x n hx h1 h8 (h : Wtr W B g vr l) hB hl => wlow_yes g vr l W B h hB hl x n hx h1 h8)
  have CE := Lib.hid (fun W vr l s hs (h : Wtr W B g vr l) hB hl => ended_calls g vr l W B h hB hl s hs)
  have CT := Lib.hid (fun W vr l s hs (h : Wtr W B g vr l) hB hl => btext_calls g vr l W B h hB hl s hs)
  have CR := Lib.hid (fun W vr l (h0 : Below w0.heap.size w0 W) (h : Wtr W B g vr l) hB hl => wraw_calls g vr l bs W B h hB hl (.slice ab nb cb) ⟨ab, nb, cb, rfl, HRB.out.keep h0, HAB.out⟩ (by omega))
  have CS := Lib.hid (fun W vr l p x hx hp (h : Wtr W B g vr l) hl => wset_yes g vr l W B h hl p x 4 hx (by omega) (by omega) hp)
  have ETER : ∀ X, Hid (valB (.mk k bits hi lo text more sub bs kids) = X) → Hid (valB (.mk k bits hi lo text more sub bs kids) = X) := fun _ h => h
  have hszs : wa.heap.size = w.heap.size + 1 := by rw [hwa]; simp
  clear hof hks hkl hnk hrb hw0 hwt hba hxa hwtt ETER
  by_cases h1 : k = 1
  · subst h1
    as_aux_lemma =>
    have HV : Hid (valB (.mk 1 bits hi lo text more sub bs kids) = leBytes 8 bits) := by show _ = _; simp [valB]
    go_enter Try.func63, Try.ntmps63
    go_upto_region 1 with fail
    rw [← hwa]
    clear hwa
    go_wp2_with fail
    refine (CO.out wa v _ bits 8 hbits (by omega) (by omega) HG0.out.1 (by omega) (by first | omega | (simp [leB_len]; omega) | (simp [leB_len, *]; omega))).mono ?_
    rintro e w1 ⟨rfl, hst1⟩
    obtain ⟨v1, hgo1⟩ := HG0.out.step hst1
    have HG1 := Lib.hid hgo1
    have hs1 := hgo1.2.1.size
    clear f0 f1 f2 f3 f4 f5 f6 f7 f8 l0
    obtain ⟨f0, f1, f2, f3, f4, f5, f6, f7, f8, l0⟩ := (HBX.out w1 hgo1.2.1).nine
    clear hst1 hgo1
    go_wp2_with fail
    go_end0
    refine ⟨rfl, ?_⟩
    have hf := (HG1.out.wstep).below HBA.out
    rw [HV.out]
    simpa only [List.append_assoc, kindB] using hf
  by_cases h9 : k = 9
  · subst h9
    as_aux_lemma =>
    have HV : Hid (valB (.mk 9 bits hi lo text more sub bs kids) = leBytes 8 bits) := by show _ = _; simp [valB]
    go_enter Try.func63, Try.ntmps63
    go_upto_region 1 with fail
    rw [← hwa]
    clear hwa
    go_wp2_with fail
    refine (CO.out wa v _ bits 8 hbits (by omega) (by omega) HG0.out.1 (by omega) (by first | omega | (simp [leB_len]; omega) | (simp [leB_len, *]; omega))).mono ?_
    rintro e w1 ⟨rfl, hst1⟩
    obtain ⟨v1, hgo1⟩ := HG0.out.step hst1
    have HG1 := Lib.hid hgo1
    have hs1 := hgo1.2.1.size
    clear f0 f1 f2 f3 f4 f5 f6 f7 f8 l0
    obtain ⟨f0, f1, f2, f3, f4, f5, f6, f7, f8, l0⟩ := (HBX.out w1 hgo1.2.1).nine
    clear hst1 hgo1
    go_wp2_with fail
    go_end0
    refine ⟨rfl, ?_⟩
    have hf := (HG1.out.wstep).below HBA.out
    rw [HV.out]
    simpa only [List.append_assoc, kindB] using hf
  by_cases h17 : k = 17
  · subst h17
    as_aux_lemma =>
    have HV : Hid (valB (.mk 17 bits hi lo text more sub bs kids) = leBytes 8 bits) := by show _ = _; simp [valB]
    go_enter Try.func63, Try.ntmps63
    go_upto_region 1 with fail
    rw [← hwa]
    clear hwa
    go_wp2_with fail
    refine (CO.out wa v _ bits 8 hbits (by omega) (by omega) HG0.out.1 (by omega) (by first | omega | (simp [leB_len]; omega) | (simp [leB_len, *]; omega))).mono ?_
    rintro e w1 ⟨rfl, hst1⟩
    obtain ⟨v1, hgo1⟩ := HG0.out.step hst1
    have HG1 := Lib.hid hgo1
    have hs1 := hgo1.2.1.size
    clear f0 f1 f2 f3 f4 f5 f6 f7 f8 l0
    obtain ⟨f0, f1, f2, f3, f4, f5, f6, f7, f8, l0⟩ := (HBX.out w1 hgo1.2.1).nine
    clear hst1 hgo1
    go_wp2_with fail
    go_end0
    refine ⟨rfl, ?_⟩
    have hf := (HG1.out.wstep).below HBA.out
    rw [HV.out]
    simpa only [List.append_assoc, kindB] using hf
  by_cases h18 : k = 18
  · subst h18
    as_aux_lemma =>
    have HV : Hid (valB (.mk 18 bits hi lo text more sub bs kids) = leBytes 8 bits) := by show _ = _; simp [valB]
    go_enter Try.func63, Try.ntmps63
    go_upto_region 1 with fail
    rw [← hwa]
    clear hwa
    go_wp2_with fail
    refine (CO.out wa v _ bits 8 hbits (by omega) (by omega) HG0.out.1 (by omega) (by first | omega | (simp [leB_len]; omega) | (simp [leB_len, *]; omega))).mono ?_
    rintro e w1 ⟨rfl, hst1⟩
    obtain ⟨v1, hgo1⟩ := HG0.out.step hst1
    have HG1 := Lib.hid hgo1
    have hs1 := hgo1.2.1.size
    clear f0 f1 f2 f3 f4 f5 f6 f7 f8 l0
    obtain ⟨f0, f1, f2, f3, f4, f5, f6, f7, f8, l0⟩ := (HBX.out w1 hgo1.2.1).nine
    clear hst1 hgo1
    go_wp2_with fail
    go_end0
    refine ⟨rfl, ?_⟩
    have hf := (HG1.out.wstep).below HBA.out
    rw [HV.out]
    simpa only [List.append_assoc, kindB] using hf
  by_cases h16 : k = 16
  · subst h16
    as_aux_lemma =>
    have HV : Hid (valB (.mk 16 bits hi lo text more sub bs kids) = leBytes 4 bits) := by show _ = _; simp [valB]
    go_enter Try.func63, Try.ntmps63
    go_upto_region 1 with fail
    rw [← hwa]
    clear hwa
    go_wp2_with fail
    refine (CO.out wa v _ bits 4 hbits (by omega) (by omega) HG0.out.1 (by omega) (by first | omega | (simp [leB_len]; omega) | (simp [leB_len, *]; omega))).mono ?_
    rintro e w1 ⟨rfl, hst1⟩
    obtain ⟨v1, hgo1⟩ := HG0.out.step hst1
    have HG1 := Lib.hid hgo1
    have hs1 := hgo1.2.1.size
    clear f0 f1 f2 f3 f4 f5 f6 f7 f8 l0
    obtain ⟨f0, f1, f2, f3, f4, f5, f6, f7, f8, l0⟩ := (HBX.out w1 hgo1.2.1).nine
    clear hst1 hgo1
    go_wp2_with fail
    go_end0
    refine ⟨rfl, ?_⟩
    have hf := (HG1.out.wstep).below HBA.out
    rw [HV.out]
    simpa only [List.append_assoc, kindB] using hf
  by_cases h8 : k = 8
  · subst h8
    as_aux_lemma =>
    have HV : Hid (valB (.mk 8 bits hi lo text more sub bs kids) = leBytes 1 bits) := by show _ = _; simp [valB]
    go_enter Try.func63, Try.ntmps63
    go_upto_region 1 with fail
    rw [← hwa]
    clear hwa
    go_wp2_with fail
    refine (CO.out wa v _ bits 1 hbits (by omega) (by omega) HG0.out.1 (by omega) (by first | omega | (simp [leB_len]; omega) | (simp [leB_len, *]; omega))).mono ?_
    rintro e w1 ⟨rfl, hst1⟩
    obtain ⟨v1, hgo1⟩ := HG0.out.step hst1
    have HG1 := Lib.hid hgo1
    have hs1 := hgo1.2.1.size
    clear f0 f1 f2 f3 f4 f5 f6 f7 f8 l0
    obtain ⟨f0, f1, f2, f3, f4, f5, f6, f7, f8, l0⟩ := (HBX.out w1 hgo1.2.1).nine
    clear hst1 hgo1
    go_wp2_with fail
    go_end0
    refine ⟨rfl, ?_⟩
    have hf := (HG1.out.wstep).below HBA.out
    rw [HV.out]
    simpa only [List.append_assoc, kindB] using hf
  by_cases h19 : k = 19
  · subst h19
    as_aux_lemma =>
    have HV : Hid (valB (.mk 19 bits hi lo text more sub bs kids) = leBytes 8 lo ++ leBytes 8 hi) := by show _ = _; simp [valB]
    go_enter Try.func63, Try.ntmps63
    go_upto_region 1 with fail
    rw [← hwa]
    clear hwa
    go_wp2_with fail
    refine (CO.out wa v _ lo 8 hlo (by omega) (by omega) HG0.out.1 (by omega) (by first | omega | (simp [leB_len]; omega) | (simp [leB_len, *]; omega))).mono ?_
    rintro e w1 ⟨rfl, hst1⟩
    obtain ⟨v1, hgo1⟩ := HG0.out.step hst1
    have HG1 := Lib.hid hgo1
    have hs1 := hgo1.2.1.size
    clear f0 f1 f2 f3 f4 f5 f6 f7 f8 l0
    obtain ⟨f0, f1, f2, f3, f4, f5, f6, f7, f8, l0⟩ := (HBX.out w1 hgo1.2.1).nine
    clear hst1 hgo1
    go_wp2_with fail
    refine (CO.out w1 v1 _ hi 8 hhi (by omega) (by omega) HG1.out.1 (by omega) (by first | omega | (simp [leB_len]; omega) | (simp [leB_len, *]; omega))).mono ?_
    rintro e w2 ⟨rfl, hst2⟩
    obtain ⟨v2, hgo2⟩ := HG1.out.step hst2
    have HG2 := Lib.hid hgo2
    have hs2 := hgo2.2.1.size
    clear f0 f1 f2 f3 f4 f5 f6 f7 f8 l0
    obtain ⟨f0, f1, f2, f3, f4, f5, f6, f7, f8, l0⟩ := (HBX.out w2 hgo2.2.1).nine
    clear hst2 hgo2
    go_wp2_with fail
    go_end0
    refine ⟨rfl, ?_⟩
    have hf := (HG2.out.wstep).below HBA.out
    rw [HV.out]
    simpa only [List.append_assoc, kindB] using hf
  by_cases h2 : k = 2
  · subst h2
    as_aux_lemma =>
    have HV : Hid (valB (.mk 2 bits hi lo text more sub bs kids) = textB text) := by show _ = _; simp [valB]
    go_enter Try.func63, Try.ntmps63
    go_upto_region 1 with fail
    rw [← hwa]
    clear hwa
    go_wp2_with fail
    refine (CT.out wa v _ text (by omega) HG0.out.1 (by omega) (by first | omega | (simp [leB_len]; omega) | (simp [leB_len, *]; omega))).mono ?_
    rintro e w1 ⟨rfl, hst1⟩
    obtain ⟨v1, hgo1⟩ := HG0.out.step hst1
    have HG1 := Lib.hid hgo1
    have hs1 := hgo1.2.1.size
    clear f0 f1 f2 f3 f4 f5 f6 f7 f8 l0
    obtain ⟨f0, f1, f2, f3, f4, f5, f6, f7, f8, l0⟩ := (HBX.out w1 hgo1.2.1).nine
    clear hst1 hgo1
    go_wp2_with fail
    go_end0
    refine ⟨rfl, ?_⟩
    have hf := (HG1.out.wstep).below HBA.out
    rw [HV.out]
    simpa only [List.append_assoc, kindB] using hf
  by_cases h13 : k = 13
  · subst h13
    as_aux_lemma =>
    have HV : Hid (valB (.mk 13 bits hi lo text more sub bs kids) = textB text) := by show _ = _; simp [valB]
    go_enter Try.func63, Try.ntmps63
    go_upto_region 1 with fail
    rw [← hwa]
    clear hwa
    go_wp2_with fail
    refine (CT.out wa v _ text (by omega) HG0.out.1 (by omega) (by first | omega | (simp [leB_len]; omega) | (simp [leB_len, *]; omega))).mono ?_
    rintro e w1 ⟨rfl, hst1⟩
    obtain ⟨v1, hgo1⟩ := HG0.out.step hst1
    have HG1 := Lib.hid hgo1
    have hs1 := hgo1.2.1.size
    clear f0 f1 f2 f3 f4 f5 f6 f7 f8 l0
    obtain ⟨f0, f1, f2, f3, f4, f5, f6, f7, f8, l0⟩ := (HBX.out w1 hgo1.2.1).nine
    clear hst1 hgo1
    go_wp2_with fail
    go_end0
    refine ⟨rfl, ?_⟩
    have hf := (HG1.out.wstep).below HBA.out
    rw [HV.out]
    simpa only [List.append_assoc, kindB] using hf
  by_cases h14 : k = 14
  · subst h14
    as_aux_lemma =>
    have HV : Hid (valB (.mk 14 bits hi lo text more sub bs kids) = textB text) := by show _ = _; simp [valB]
    go_enter Try.func63, Try.ntmps63
    go_upto_region 1 with fail
    rw [← hwa]
    clear hwa
    go_wp2_with fail
    refine (CT.out wa v _ text (by omega) HG0.out.1 (by omega) (by first | omega | (simp [leB_len]; omega) | (simp [leB_len, *]; omega))).mono ?_
    rintro e w1 ⟨rfl, hst1⟩
    obtain ⟨v1, hgo1⟩ := HG0.out.step hst1
    have HG1 := Lib.hid hgo1
    have hs1 := hgo1.2.1.size
    clear f0 f1 f2 f3 f4 f5 f6 f7 f8 l0
    obtain ⟨f0, f1, f2, f3, f4, f5, f6, f7, f8, l0⟩ := (HBX.out w1 hgo1.2.1).nine
    clear hst1 hgo1
    go_wp2_with fail
    go_end0
    refine ⟨rfl, ?_⟩
    have hf := (HG1.out.wstep).below HBA.out
    rw [HV.out]
    simpa only [List.append_assoc, kindB] using hf
  by_cases h11 : k = 11
  · subst h11
    as_aux_lemma =>
    have HV : Hid (valB (.mk 11 bits hi lo text more sub bs kids) = (sl text ++ [0]) ++ (sl more ++ [0])) := by show _ = _; simp [valB]
    go_enter Try.func63, Try.ntmps63
    go_upto_region 1 with fail
    rw [← hwa]
    clear hwa
    go_wp2_with fail
    refine (CE.out wa v _ text (by omega) HG0.out.1 (by omega) (by first | omega | (simp [leB_len]; omega) | (simp [leB_len, *]; omega))).mono ?_
    rintro e w1 ⟨rfl, hst1⟩
    obtain ⟨v1, hgo1⟩ := HG0.out.step hst1
    have HG1 := Lib.hid hgo1
    have hs1 := hgo1.2.1.size
    clear f0 f1 f2 f3 f4 f5 f6 f7 f8 l0
    obtain ⟨f0, f1, f2, f3, f4, f5, f6, f7, f8, l0⟩ := (HBX.out w1 hgo1.2.1).nine
    clear hst1 hgo1
    go_wp2_with fail
    refine (CE.out w1 v1 _ more (by omega) HG1.out.1 (by omega) (by first | omega | (simp [leB_len]; omega) | (simp [leB_len, *]; omega))).mono ?_
    rintro e w2 ⟨rfl, hst2⟩
    obtain ⟨v2, hgo2⟩ := HG1.out.step hst2
    have HG2 := Lib.hid hgo2
    have hs2 := hgo2.2.1.size
    clear f0 f1 f2 f3 f4 f5 f6 f7 f8 l0
    obtain ⟨f0, f1, f2, f3, f4, f5, f6, f7, f8, l0⟩ := (HBX.out w2 hgo2.2.1).nine
    clear hst2 hgo2
    go_wp2_with fail
    go_end0
    refine ⟨rfl, ?_⟩
    have hf := (HG2.out.wstep).below HBA.out
    rw [HV.out]
    simpa only [List.append_assoc, kindB] using hf
  by_cases h5 : k = 5
  · subst h5
    as_aux_lemma =>
    have e1 : IntKind.u64.wrap ((nb : Int) + 4) = (nb : Int) + 4 := wrap_u64_of (by omega) (by omega)
    have e0 : IntKind.u64.wrap (nb : Int) = (nb : Int) := wrap_u64_of (by omega) (by omega)
    have hnbk : nb < okSize := by unfold okSize; omega
    have hnbk4 : nb + 4 < okSize := by unfold okSize; omega
    by_cases hs2 : sub = 2
    · subst hs2
      have HV : Hid (valB (.mk 5 bits hi lo text more 2 bs kids) = leBytes 4 (nb + 4) ++ [kindB 2] ++ leBytes 4 nb ++ bs) := by show _ = _; simp [valB, binB, hbl2]
      go_enter Try.func63, Try.ntmps63
      go_upto_region 1 with fail
      rw [← hwa]
      clear hwa
      go_wp2_with fail
      refine (CO.out wa v _ (nb + 4) 4 hnbk4 (by omega) (by omega) HG0.out.1 (by omega) (by first | omega | (simp [leB_len]; omega) | (simp [leB_len, *]; omega))).mono ?_
      rintro e w1 ⟨rfl, hst1⟩
      obtain ⟨v1, hgo1⟩ := HG0.out.step hst1
      have HG1 := Lib.hid hgo1
      have hs1 := hgo1.2.1.size
      clear f0 f1 f2 f3 f4 f5 f6 f7 f8 l0
      obtain ⟨f0, f1, f2, f3, f4, f5, f6, f7, f8, l0⟩ := (HBX.out w1 hgo1.2.1).nine
      clear hst1 hgo1
      go_wp2_with fail
      refine (CB.out w1 v1 _ 2 HG1.out.1 (by omega) (by first | omega | (simp [leB_len]; omega) | (simp [leB_len, *]; omega))).mono ?_
      rintro e w2 ⟨rfl, hst2⟩
      obtain ⟨v2, hgo2⟩ := HG1.out.step hst2
      have HG2 := Lib.hid hgo2
      have hs2 := hgo2.2.1.size
      clear f0 f1 f2 f3 f4 f5 f6 f7 f8 l0
      obtain ⟨f0, f1, f2, f3, f4, f5, f6, f7, f8, l0⟩ := (HBX.out w2 hgo2.2.1).nine
      clear hst2 hgo2
      go_wp2_with fail
      refine (CO.out w2 v2 _ nb 4 hnbk (by omega) (by omega) HG2.out.1 (by omega) (by first | omega | (simp [leB_len]; omega) | (simp [leB_len, *]; omega))).mono ?_
      rintro e w3 ⟨rfl, hst3⟩
      obtain ⟨v3, hgo3⟩ := HG2.out.step hst3
      have HG3 := Lib.hid hgo3
      have hs3 := hgo3.2.1.size
      clear f0 f1 f2 f3 f4 f5 f6 f7 f8 l0
      obtain ⟨f0, f1, f2, f3, f4, f5, f6, f7, f8, l0⟩ := (HBX.out w3 hgo3.2.1).nine
      clear hst3 hgo3
      go_wp2_with fail
      refine (CR.out w3 v3 _ (HG3.out.under HWA.out HU.out hwB hwg) HG3.out.1 (by omega) (by first | omega | (simp [leB_len]; omega) | (simp [leB_len, *]; omega))).mono ?_
      rintro e w4 ⟨rfl, hst4⟩
      obtain ⟨v4, hgo4⟩ := HG3.out.step hst4
      have HG4 := Lib.hid hgo4
      have hs4 := hgo4.2.1.size
      clear f0 f1 f2 f3 f4 f5 f6 f7 f8 l0
      obtain ⟨f0, f1, f2, f3, f4, f5, f6, f7, f8, l0⟩ := (HBX.out w4 hgo4.2.1).nine
      clear hst4 hgo4
      go_wp2_with fail
      go_end0
      refine ⟨rfl, ?_⟩
      have hf := (HG4.out.wstep).below HBA.out
      rw [HV.out]
      simpa only [List.append_assoc, kindB] using hf
    · have es : (sub == 2) = false := by simpa using hs2
      have HV : Hid (valB (.mk 5 bits hi lo text more sub bs kids) = leBytes 4 nb ++ [kindB sub] ++ bs) := by show _ = _; simp [valB, binB, hbl2, hs2]
      go_enter Try.func63, Try.ntmps63
      go_upto_region 1 with fail
      rw [← hwa]
      clear hwa
      go_wp2_with fail
      refine (CO.out wa v _ nb 4 hnbk (by omega) (by omega) HG0.out.1 (by omega) (by first | omega | (simp [leB_len]; omega) | (simp [leB_len, *]; omega))).mono ?_
      rintro e w1 ⟨rfl, hst1⟩
      obtain ⟨v1, hgo1⟩ := HG0.out.step hst1
      have HG1 := Lib.hid hgo1
      have hs1 := hgo1.2.1.size
      clear f0 f1 f2 f3 f4 f5 f6 f7 f8 l0
      obtain ⟨f0, f1, f2, f3, f4, f5, f6, f7, f8, l0⟩ := (HBX.out w1 hgo1.2.1).nine
      clear hst1 hgo1
      go_wp2_with fail
      refine (CB.out w1 v1 _ sub HG1.out.1 (by omega) (by first | omega | (simp [leB_len]; omega) | (simp [leB_len, *]; omega))).mono ?_
      rintro e w2 ⟨rfl, hst2⟩
      obtain ⟨v2, hgo2⟩ := HG1.out.step hst2
      have HG2 := Lib.hid hgo2
      have hs2 := hgo2.2.1.size
      clear f0 f1 f2 f3 f4 f5 f6 f7 f8 l0
      obtain ⟨f0, f1, f2, f3, f4, f5, f6, f7, f8, l0⟩ := (HBX.out w2 hgo2.2.1).nine
      clear hst2 hgo2
      go_wp2_with fail
      refine (CR.out w2 v2 _ (HG2.out.under HWA.out HU.out hwB hwg) HG2.out.1 (by omega) (by first | omega | (simp [leB_len]; omega) | (simp [leB_len, *]; omega))).mono ?_
      rintro e w3 ⟨rfl, hst3⟩
      obtain ⟨v3, hgo3⟩ := HG2.out.step hst3
      have HG3 := Lib.hid hgo3
      have hs3 := hgo3.2.1.size
      clear f0 f1 f2 f3 f4 f5 f6 f7 f8 l0
      obtain ⟨f0, f1, f2, f3, f4, f5, f6, f7, f8, l0⟩ := (HBX.out w3 hgo3.2.1).nine
      clear hst3 hgo3
      go_wp2_with fail
      go_end0
      refine ⟨rfl, ?_⟩
      have hf := (HG3.out.wstep).below HBA.out
      rw [HV.out]
      simpa only [List.append_assoc, kindB] using hf
  by_cases h7 : k = 7
  · subst h7
    as_aux_lemma =>
    have HV : Hid (valB (.mk 7 bits hi lo text more sub bs kids) = bs) := by show _ = _; simp [valB]
    go_enter Try.func63, Try.ntmps63
    go_upto_region 1 with fail
    rw [← hwa]
    clear hwa
    go_wp2_with fail
    refine (CR.out wa v _ (HG0.out.under HWA.out HU.out hwB hwg) HG0.out.1 (by omega) (by first | omega | (simp [leB_len]; omega) | (simp [leB_len, *]; omega))).mono ?_
    rintro e w1 ⟨rfl, hst1⟩
    obtain ⟨v1, hgo1⟩ := HG0.out.step hst1
    have HG1 := Lib.hid hgo1
    have hs1 := hgo1.2.1.size
    clear f0 f1 f2 f3 f4 f5 f6 f7 f8 l0
    obtain ⟨f0, f1, f2, f3, f4, f5, f6, f7, f8, l0⟩ := (HBX.out w1 hgo1.2.1).nine
    clear hst1 hgo1
    go_wp2_with fail
    go_end0
    refine ⟨rfl, ?_⟩
    have hf := (HG1.out.wstep).below HBA.out
    rw [HV.out]
    simpa only [List.append_assoc, kindB] using hf
  by_cases h12 : k = 12
  · subst h12
    as_aux_lemma =>
    have HV : Hid (valB (.mk 12 bits hi lo text more sub bs kids) = textB text ++ bs) := by show _ = _; simp [valB]
    go_enter Try.func63, Try.ntmps63
    go_upto_region 1 with fail
    rw [← hwa]
    clear hwa
    go_wp2_with fail
    refine (CT.out wa v _ text (by omega) HG0.out.1 (by omega) (by first | omega | (simp [leB_len]; omega) | (simp [leB_len, *]; omega))).mono ?_
    rintro e w1 ⟨rfl, hst1⟩
    obtain ⟨v1, hgo1⟩ := HG0.out.step hst1
    have HG1 := Lib.hid hgo1
    have hs1 := hgo1.2.1.size
    clear f0 f1 f2 f3 f4 f5 f6 f7 f8 l0
    obtain ⟨f0, f1, f2, f3, f4, f5, f6, f7, f8, l0⟩ := (HBX.out w1 hgo1.2.1).nine
    clear hst1 hgo1
    go_wp2_with fail
    refine (CR.out w1 v1 _ (HG1.out.under HWA.out HU.out hwB hwg) HG1.out.1 (by omega) (by first | omega | (simp [leB_len]; omega) | (simp [leB_len, *]; omega))).mono ?_
    rintro e w2 ⟨rfl, hst2⟩
    obtain ⟨v2, hgo2⟩ := HG1.out.step hst2
    have HG2 := Lib.hid hgo2
    have hs2 := hgo2.2.1.size
    clear f0 f1 f2 f3 f4 f5 f6 f7 f8 l0
    obtain ⟨f0, f1, f2, f3, f4, f5, f6, f7, f8, l0⟩ := (HBX.out w2 hgo2.2.1).nine
    clear hst2 hgo2
    go_wp2_with fail
    go_end0
    refine ⟨rfl, ?_⟩
    have hf := (HG2.out.wstep).below HBA.out
    rw [HV.out]
    simpa only [List.append_assoc, kindB] using hf
  by_cases h3 : k = 3
  · subst h3
    as_aux_lemma =>
    have HV : Hid (valB (.mk 3 bits hi lo text more sub bs kids) = docOf (kidsB kids)) := by show _ = _; simp [valB]
    go_enter Try.func63, Try.ntmps63
    go_upto_region 1 with fail
    rw [← hwa]
    clear hwa
    go_wp2_with fail
    refine (HD.out wa v _ (HG0.out.under HWA.out HU.out hwB hwg) HG0.out.1 (by omega) (by first | omega | (simp [leB_len]; omega) | (simp [leB_len, *]; omega))).mono ?_
    rintro e w1 ⟨rfl, hst1⟩
    obtain ⟨v1, hgo1⟩ := HG0.out.step hst1
    have HG1 := Lib.hid hgo1
    have hs1 := hgo1.2.1.size
    clear f0 f1 f2 f3 f4 f5 f6 f7 f8 l0
    obtain ⟨f0, f1, f2, f3, f4, f5, f6, f7, f8, l0⟩ := (HBX.out w1 hgo1.2.1).nine
    clear hst1 hgo1
    go_wp2_with fail
    go_end0
    refine ⟨rfl, ?_⟩
    have hf := (HG1.out.wstep).below HBA.out
    rw [HV.out]
    simpa only [List.append_assoc, kindB] using hf
  by_cases h4 : k = 4
  · subst h4
    as_aux_lemma =>
    have HV : Hid (valB (.mk 4 bits hi lo text more sub bs kids) = docOf (kidsB kids)) := by show _ = _; simp [valB]
    go_enter Try.func63, Try.ntmps63
    go_upto_region 1 with fail
    rw [← hwa]
    clear hwa
    go_wp2_with fail
    refine (HD.out wa v _ (HG0.out.under HWA.out HU.out hwB hwg) HG0.out.1 (by omega) (by first | omega | (simp [leB_len]; omega) | (simp [leB_len, *]; omega))).mono ?_
    rintro e w1 ⟨rfl, hst1⟩
    obtain ⟨v1, hgo1⟩ := HG0.out.step hst1
    have HG1 := Lib.hid hgo1
    have hs1 := hgo1.2.1.size
    clear f0 f1 f2 f3 f4 f5 f6 f7 f8 l0
    obtain ⟨f0, f1, f2, f3, f4, f5, f6, f7, f8, l0⟩ := (HBX.out w1 hgo1.2.1).nine
    clear hst1 hgo1
    go_wp2_with fail
    go_end0
    refine ⟨rfl, ?_⟩
    have hf := (HG1.out.wstep).below HBA.out
    rw [HV.out]
    simpa only [List.append_assoc, kindB] using hf
  by_cases h15 : k = 15
  · subst h15
    as_aux_lemma =>
    have HV : Hid (valB (.mk 15 bits hi lo text more sub bs kids) = scopeOf (textB text ++ docOf (kidsB kids))) := by show _ = _; simp [valB]
    go_enter Try.func63, Try.ntmps63
    go_upto_region 1 with fail
    rw [← hwa]
    clear hwa
    go_wp2_with fail
    refine (CL.out wa v bs0 HG0.out.1).mono ?_
    rintro e wl ⟨rfl, rfl⟩
    go_wp2_with fail
    refine (CO.out wa v _ 0 4 (show 0 < okSize by unfold okSize; omega) (by omega) (by omega) HG0.out.1 (by omega) (by first | omega | (simp [leB_len]; omega) | (simp [leB_len, *]; omega))).mono ?_
    rintro e w1 ⟨rfl, hst1⟩
    obtain ⟨v1, hgo1⟩ := HG0.out.step hst1
    have HG1 := Lib.hid hgo1
    have hs1 := hgo1.2.1.size
    clear f0 f1 f2 f3 f4 f5 f6 f7 f8 l0
    obtain ⟨f0, f1, f2, f3, f4, f5, f6, f7, f8, l0⟩ := (HBX.out w1 hgo1.2.1).nine
    clear hst1 hgo1
    go_wp2_with fail
    refine (CT.out w1 v1 _ text (by omega) HG1.out.1 (by omega) (by first | omega | (simp [leB_len]; omega) | (simp [leB_len, *]; omega))).mono ?_
    rintro e w2 ⟨rfl, hst2⟩
    obtain ⟨v2, hgo2⟩ := HG1.out.step hst2
    have HG2 := Lib.hid hgo2
    have hs2 := hgo2.2.1.size
    clear f0 f1 f2 f3 f4 f5 f6 f7 f8 l0
    obtain ⟨f0, f1, f2, f3, f4, f5, f6, f7, f8, l0⟩ := (HBX.out w2 hgo2.2.1).nine
    clear hst2 hgo2
    go_wp2_with fail
    refine (HD.out w2 v2 _ (HG2.out.under HWA.out HU.out hwB hwg) HG2.out.1 (by omega) (by first | omega | (simp [leB_len]; omega) | (simp [leB_len, *]; omega))).mono ?_
    rintro e w3 ⟨rfl, hst3⟩
    obtain ⟨v3, hgo3⟩ := HG2.out.step hst3
    have HG3 := Lib.hid hgo3
    have hs3 := hgo3.2.1.size
    clear f0 f1 f2 f3 f4 f5 f6 f7 f8 l0
    obtain ⟨f0, f1, f2, f3, f4, f5, f6, f7, f8, l0⟩ := (HBX.out w3 hgo3.2.1).nine
    clear hst3 hgo3
    go_wp2_with fail
    have hl3 : (bs0 ++ leBytes 4 0 ++ textB text ++ docOf (kidsB kids)).length = bs0.length + ((textB text ++ docOf (kidsB kids)).length + 4) := by simp [leB_len]; omega
    refine (CL.out w3 v3 _ HG3.out.1).mono ?_
    rintro e w8 ⟨rfl, rfl⟩
    rw [hl3]
    obtain ⟨KL, hKL⟩ : ∃ x, x = (textB text ++ docOf (kidsB kids)).length := ⟨_, rfl⟩
    have hKB : KL ≤ 70000000 := by rw [hKL, List.length_append, htl, hdl]; omega
    have hset := set_scope bs0 (textB text ++ docOf (kidsB kids)) (KL + 4) (by rw [hKL])
    rw [← List.append_assoc] at hset
    rw [← hKL] at hl3 ⊢
    have HSE := Lib.hid hset
    have HL3 := Lib.hid hl3
    clear hset hl3 hKL htl hdl
    have e1 : IntKind.i64.wrap (((bs0.length + (KL + 4) : Nat) : Int) - (bs0.length : Int)) = ((KL + 4 : Nat) : Int) := by
      rw [show (((bs0.length + (KL + 4) : Nat) : Int) - (bs0.length : Int)) = ((KL + 4 : Nat) : Int) by omega]
      exact IntWalk.i64_in _ (by omega)
    have e2 : IntKind.u64.wrap ((KL + 4 : Nat) : Int) = ((KL + 4 : Nat) : Int) := wrap_u64_of (by omega) (by omega)
    have CS2 : Hid (∀ X : Int, X = ((KL + 4 : Nat) : Int) → Calls Try.prog 64 #[.pointer (some ⟨g, 0, none⟩), .int .i64 bs0.length, .int .u64 X, .int .i64 4] w3 fun e w' => e = .returned (.bool true) ∧ SetPost w3 B g v3 (bs0 ++ scopeOf (textB text ++ docOf (kidsB kids))) w') := by
      show ∀ X, _
      rintro X rfl
      rw [← HSE.out]
      exact CS.out w3 v3 _ bs0.length (KL + 4) (by unfold okSize; omega) (by rw [HL3.out]; omega) HG3.out.1 (by rw [HL3.out]; omega)
    go_wp2_with fail
    refine (CS2.out _ (by omega)).mono ?_
    rintro e w9 ⟨rfl, hw9, hc9⟩
    have HW9 : Hid (WStep wa B g v (bs0 ++ scopeOf (textB text ++ docOf (kidsB kids))) w9) := WStep.trans HG3.out.2.1 HG3.out.2.2 ⟨v3, hw9, hc9.weaken (fun _ _ e => .inr e), fun q hq => .inl hq⟩
    clear hw9 hc9
    go_wp2_with fail
    go_end0
    exact ⟨rfl, by rw [HV.out]; exact HW9.out.below HBA.out⟩
  have n1 : (k == 1) = false := by simpa using h1
  have n9 : (k == 9) = false := by simpa using h9
  have n17 : (k == 17) = false := by simpa using h17
  have n18 : (k == 18) = false := by simpa using h18
  have n16 : (k == 16) = false := by simpa using h16
  have n8 : (k == 8) = false := by simpa using h8
  have n19 : (k == 19) = false := by simpa using h19
  have n2 : (k == 2) = false := by simpa using h2
  have n13 : (k == 13) = false := by simpa using h13
  have n14 : (k == 14) = false := by simpa using h14
  have n11 : (k == 11) = false := by simpa using h11
  have n5 : (k == 5) = false := by simpa using h5
  have n7 : (k == 7) = false := by simpa using h7
  have n12 : (k == 12) = false := by simpa using h12
  have n3 : (k == 3) = false := by simpa using h3
  have n4 : (k == 4) = false := by simpa using h4
  have n15 : (k == 15) = false := by simpa using h15
  have HV : Hid (valB (.mk k bits hi lo text more sub bs kids) = []) := by show _ = _; simp [valB, h1, h9, h17, h18, h16, h8, h19, h2, h13, h14, h11, h5, h7, h12, h3, h4, h15]
  go_enter Try.func63, Try.ntmps63
  go_upto_region 1 with fail
  rw [← hwa]
  clear hwa
  go_wp2_with fail
  go_end0
  refine ⟨rfl, ?_⟩
  have hf := (HG0.out.wstep).below HBA.out
  rw [HV.out, List.append_nil]
  exact hf

theorem val_all : ∀ d, ValSaid d
  | 0 => fun t hd => by cases t; simp only [T.wt] at hd; omega
  | d + 1 => val_step d (doc_step d (val_all d))
theorem doc_all (d : Nat) : DocSaid d := doc_step d (val_all d)

end Go.Proofs.Ytkcfkdmffbhljaa
