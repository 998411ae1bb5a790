/- The reference's own: a value's own error. -/
import Derived.Test.YtkcfkdmffbhljaaMB
import Derived.Test.YtkcfkdmffbhljaaMD
import Derived.Deep.CutRange
namespace Go.Proofs.Ytkcfkdmffbhljaa
open Go.RowKit
set_option linter.unusedVariables false
set_option linter.unusedSimpArgs false

def zerosOf (k : Int) (bits hi lo : Nat) (text more : ByteArray) (sub : Int) (nb nk : Nat) : Bool :=
  (hasBits k || bits == 0) && (hasWide k || hi == 0) && (hasWide k || lo == 0) && (hasText k || text.toList == []) && (hasMore k || more.toList == []) && (hasSub k || sub == 0) && (hasBytes k || nb == 0) && (hasKids k || nk == 0)
def ok2 (k : Int) (bits : Nat) (sub : Int) (nb : Nat) : Bool := !(k == 16 && decide (4294967296 ≤ bits)) && !(k == 8 && decide (2 ≤ bits)) && !decide (sub < 0) && !decide (255 < sub) && !((k == 7 || k == 12) && !(nb == 12))
theorem fields_zeros (k : Int) (bits hi lo : Nat) (text more : ByteArray) (sub : Int) (nb nk : Nat) : fieldsOf k bits hi lo text more sub nb nk = (okK k bits sub nb && zerosOf k bits hi lo text more sub nb nk) := by
  simp only [fieldsOf, zerosOf, Bool.and_assoc]
theorem ok_two (k : Int) (bits hi lo : Nat) (text more : ByteArray) (sub : Int) (nb nk : Nat) (h : zerosOf k bits hi lo text more sub nb nk = true) : okK k bits sub nb = ok2 k bits sub nb := by
  simp only [zerosOf, Bool.and_eq_true] at h
  have h5 := h.1.1.2
  by_cases hk : k = 5
  · subst hk
    unfold okK ok2
    rw [Bool.eq_iff_iff]
    simp
  · have : sub = 0 := by simpa [hasSub, hk] using h5
    subst this
    unfold okK ok2
    simp [hk]
theorem fields_two (k : Int) (bits hi lo : Nat) (text more : ByteArray) (sub : Int) (nb nk : Nat) : fieldsOf k bits hi lo text more sub nb nk = (zerosOf k bits hi lo text more sub nb nk && ok2 k bits sub nb) := by
  rw [fields_zeros]
  cases hz : zerosOf k bits hi lo text more sub nb nk with
  | false => simp
  | true => rw [ok_two _ _ _ _ _ _ _ _ _ hz]; simp

def ownE (k : Int) (bits hi lo : Nat) (text more : ByteArray) (sub : Int) (nb nk : Nat) : Nat :=
  if knownK k = false then 5 else if zerosOf k bits hi lo text more sub nb nk = false then 1 else if ok2 k bits sub nb = false then 1 else if (textOk (k == 11) (sl text) && textOk (k == 11) (sl more)) = false then 4 else 0

theorem has_vec (k : Int) (q1 q2 q3 q4 q5 q6 q7 : Bool) (e1 : q1 = hasBits k) (e2 : q2 = hasWide k) (e3 : q3 = hasText k) (e4 : q4 = hasMore k) (e5 : q5 = hasSub k) (e6 : q6 = hasBytes k) (e7 : q7 = hasKids k) :
    (q1 = true ∧ q2 = false ∧ q3 = false ∧ q4 = false ∧ q5 = false ∧ q6 = false ∧ q7 = false) ∨ (q1 = false ∧ q2 = true ∧ q3 = false ∧ q4 = false ∧ q5 = false ∧ q6 = false ∧ q7 = false) ∨ (q1 = false ∧ q2 = false ∧ q3 = true ∧ q4 = false ∧ q5 = false ∧ q6 = false ∧ q7 = false) ∨ (q1 = false ∧ q2 = false ∧ q3 = true ∧ q4 = true ∧ q5 = false ∧ q6 = false ∧ q7 = false) ∨ (q1 = false ∧ q2 = false ∧ q3 = false ∧ q4 = false ∧ q5 = true ∧ q6 = true ∧ q7 = false) ∨ (q1 = false ∧ q2 = false ∧ q3 = false ∧ q4 = false ∧ q5 = false ∧ q6 = true ∧ q7 = false) ∨ (q1 = false ∧ q2 = false ∧ q3 = true ∧ q4 = false ∧ q5 = false ∧ q6 = true ∧ q7 = false) ∨ (q1 = false ∧ q2 = false ∧ q3 = false ∧ q4 = false ∧ q5 = false ∧ q6 = false ∧ q7 = true) ∨ (q1 = false ∧ q2 = false ∧ q3 = true ∧ q4 = false ∧ q5 = false ∧ q6 = false ∧ q7 = true) ∨ (q1 = false ∧ q2 = false ∧ q3 = false ∧ q4 = false ∧ q5 = false ∧ q6 = false ∧ q7 = false) := by
  by_cases h1 : k = 1
  · subst h1; exact .inl ⟨by rw [e1]; rfl, by rw [e2]; rfl, by rw [e3]; rfl, by rw [e4]; rfl, by rw [e5]; rfl, by rw [e6]; rfl, by rw [e7]; rfl⟩
  by_cases h9 : k = 9
  · subst h9; exact .inl ⟨by rw [e1]; rfl, by rw [e2]; rfl, by rw [e3]; rfl, by rw [e4]; rfl, by rw [e5]; rfl, by rw [e6]; rfl, by rw [e7]; rfl⟩
  by_cases h17 : k = 17
  · subst h17; exact .inl ⟨by rw [e1]; rfl, by rw [e2]; rfl, by rw [e3]; rfl, by rw [e4]; rfl, by rw [e5]; rfl, by rw [e6]; rfl, by rw [e7]; rfl⟩
  by_cases h18 : k = 18
  · subst h18; exact .inl ⟨by rw [e1]; rfl, by rw [e2]; rfl, by rw [e3]; rfl, by rw [e4]; rfl, by rw [e5]; rfl, by rw [e6]; rfl, by rw [e7]; rfl⟩
  by_cases h16 : k = 16
  · subst h16; exact .inl ⟨by rw [e1]; rfl, by rw [e2]; rfl, by rw [e3]; rfl, by rw [e4]; rfl, by rw [e5]; rfl, by rw [e6]; rfl, by rw [e7]; rfl⟩
  by_cases h8 : k = 8
  · subst h8; exact .inl ⟨by rw [e1]; rfl, by rw [e2]; rfl, by rw [e3]; rfl, by rw [e4]; rfl, by rw [e5]; rfl, by rw [e6]; rfl, by rw [e7]; rfl⟩
  by_cases h19 : k = 19
  · subst h19; exact .inr (.inl ⟨by rw [e1]; rfl, by rw [e2]; rfl, by rw [e3]; rfl, by rw [e4]; rfl, by rw [e5]; rfl, by rw [e6]; rfl, by rw [e7]; rfl⟩)
  by_cases h2 : k = 2
  · subst h2; exact .inr (.inr (.inl ⟨by rw [e1]; rfl, by rw [e2]; rfl, by rw [e3]; rfl, by rw [e4]; rfl, by rw [e5]; rfl, by rw [e6]; rfl, by rw [e7]; rfl⟩))
  by_cases h13 : k = 13
  · subst h13; exact .inr (.inr (.inl ⟨by rw [e1]; rfl, by rw [e2]; rfl, by rw [e3]; rfl, by rw [e4]; rfl, by rw [e5]; rfl, by rw [e6]; rfl, by rw [e7]; rfl⟩))
  by_cases h14 : k = 14
  · subst h14; exact .inr (.inr (.inl ⟨by rw [e1]; rfl, by rw [e2]; rfl, by rw [e3]; rfl, by rw [e4]; rfl, by rw [e5]; rfl, by rw [e6]; rfl, by rw [e7]; rfl⟩))
  by_cases h11 : k = 11
  · subst h11; exact .inr (.inr (.inr (.inl ⟨by rw [e1]; rfl, by rw [e2]; rfl, by rw [e3]; rfl, by rw [e4]; rfl, by rw [e5]; rfl, by rw [e6]; rfl, by rw [e7]; rfl⟩)))
  by_cases h5 : k = 5
  · subst h5; exact .inr (.inr (.inr (.inr (.inl ⟨by rw [e1]; rfl, by rw [e2]; rfl, by rw [e3]; rfl, by rw [e4]; rfl, by rw [e5]; rfl, by rw [e6]; rfl, by rw [e7]; rfl⟩))))
  by_cases h7 : k = 7
  · subst h7; exact .inr (.inr (.inr (.inr (.inr (.inl ⟨by rw [e1]; rfl, by rw [e2]; rfl, by rw [e3]; rfl, by rw [e4]; rfl, by rw [e5]; rfl, by rw [e6]; rfl, by rw [e7]; rfl⟩)))))
  by_cases h12 : k = 12
  · subst h12; exact .inr (.inr (.inr (.inr (.inr (.inr (.inl ⟨by rw [e1]; rfl, by rw [e2]; rfl, by rw [e3]; rfl, by rw [e4]; rfl, by rw [e5]; rfl, by rw [e6]; rfl, by rw [e7]; rfl⟩))))))
  by_cases h3 : k = 3
  · subst h3; exact .inr (.inr (.inr (.inr (.inr (.inr (.inr (.inl ⟨by rw [e1]; rfl, by rw [e2]; rfl, by rw [e3]; rfl, by rw [e4]; rfl, by rw [e5]; rfl, by rw [e6]; rfl, by rw [e7]; rfl⟩)))))))
  by_cases h4 : k = 4
  · subst h4; exact .inr (.inr (.inr (.inr (.inr (.inr (.inr (.inl ⟨by rw [e1]; rfl, by rw [e2]; rfl, by rw [e3]; rfl, by rw [e4]; rfl, by rw [e5]; rfl, by rw [e6]; rfl, by rw [e7]; rfl⟩)))))))
  by_cases h15 : k = 15
  · subst h15; exact .inr (.inr (.inr (.inr (.inr (.inr (.inr (.inr (.inl ⟨by rw [e1]; rfl, by rw [e2]; rfl, by rw [e3]; rfl, by rw [e4]; rfl, by rw [e5]; rfl, by rw [e6]; rfl, by rw [e7]; rfl⟩))))))))
  exact .inr (.inr (.inr (.inr (.inr (.inr (.inr (.inr (.inr (⟨by rw [e1]; simp [hasBits, hasWide, hasText, hasMore, hasSub, hasBytes, hasKids, h1, h9, h17, h18, h16, h8, h19, h2, h13, h14, h11, h5, h7, h12, h3, h4, h15], by rw [e2]; simp [hasBits, hasWide, hasText, hasMore, hasSub, hasBytes, hasKids, h1, h9, h17, h18, h16, h8, h19, h2, h13, h14, h11, h5, h7, h12, h3, h4, h15], by rw [e3]; simp [hasBits, hasWide, hasText, hasMore, hasSub, hasBytes, hasKids, h1, h9, h17, h18, h16, h8, h19, h2, h13, h14, h11, h5, h7, h12, h3, h4, h15], by rw [e4]; simp [hasBits, hasWide, hasText, hasMore, hasSub, hasBytes, hasKids, h1, h9, h17, h18, h16, h8, h19, h2, h13, h14, h11, h5, h7, h12, h3, h4, h15], by rw [e5]; simp [hasBits, hasWide, hasText, hasMore, hasSub, hasBytes, hasKids, h1, h9, h17, h18, h16, h8, h19, h2, h13, h14, h11, h5, h7, h12, h3, h4, h15], by rw [e6]; simp [hasBits, hasWide, hasText, hasMore, hasSub, hasBytes, hasKids, h1, h9, h17, h18, h16, h8, h19, h2, h13, h14, h11, h5, h7, h12, h3, h4, h15], by rw [e7]; simp [hasBits, hasWide, hasText, hasMore, hasSub, hasBytes, hasKids, h1, h9, h17, h18, h16, h8, h19, h2, h13, h14, h11, h5, h7, h12, h3, h4, h15]⟩)))))))))

set_option maxRecDepth 100000 in
set_option maxHeartbeats 64000000 in
theorem rown_calls (w : World) (k : Int) (bits hi lo : Nat) (text more : ByteArray) (sub : Int) (ab : Option Addr) (nb cb : Nat) (ak : Option Addr) (nk ck : Nat) (ht : text.size ≤ 1000000) (hmo : more.size ≤ 1000000) :
    Calls Try.prog 66 #[.agg (valCells k bits hi lo text more sub ab nb cb ak nk ck)] w fun e w' => e = .returned (.int .i64 (ownE k bits hi lo text more sub nb nk : Nat)) ∧ Below w.heap.size w w' := by
  obtain ⟨E, hE⟩ : ∃ E, E = ownE k bits hi lo text more sub nb nk := ⟨_, rfl⟩
  rw [← hE]
  obtain ⟨kn, hkn⟩ : ∃ x, x = knownK k := ⟨_, rfl⟩
  obtain ⟨D1, hD1⟩ : ∃ x, x = !zerosOf k bits hi lo text more sub nb nk := ⟨_, rfl⟩
  obtain ⟨D2, hD2⟩ : ∃ x, x = !ok2 k bits sub nb := ⟨_, rfl⟩
  obtain ⟨rx, hrx⟩ : ∃ x, x = (k == 11) := ⟨_, rfl⟩
  obtain ⟨b1, hb1⟩ : ∃ x, x = (wholeTo (sl text) == text.size) := ⟨_, rfl⟩
  obtain ⟨b2, hb2⟩ : ∃ x, x = (wholeTo (sl more) == more.size) := ⟨_, rfl⟩
  obtain ⟨z1, hz1⟩ : ∃ x, x = hasZ (sl text) := ⟨_, rfl⟩
  obtain ⟨z2, hz2⟩ : ∃ x, x = hasZ (sl more) := ⟨_, rfl⟩
  have CN := Lib.hid (fun W => rname_calls k W)
  have CH := Lib.hid (fun W => has_calls k W)
  have W1 := Lib.hid (fun W => rwhole_calls text (by omega) W)
  have W2 := Lib.hid (fun W => rwhole_calls more (by omega) W)
  have Z1 := Lib.hid (fun W => rzero_calls text W (by omega))
  have Z2 := Lib.hid (fun W => rzero_calls more W (by omega))
  rw [← hkn] at CN
  rw [← hb1] at W1
  rw [← hb2] at W2
  rw [← hz1] at Z1
  rw [← hz2] at Z2
  have hEE : E = if kn = false then 5 else if D1 = true then 1 else if D2 = true then 1 else if ((b1 && !(rx && z1)) && (b2 && !(rx && z2))) = false then 4 else 0 := by
    rw [hE, hkn, hD1, hD2, hrx, hb1, hb2, hz1, hz2]
    unfold ownE textOk
    rw [sl_len, sl_len]
    cases zerosOf k bits hi lo text more sub nb nk <;> cases ok2 k bits sub nb <;> rfl
  have HEE := Lib.hid hEE
  obtain ⟨q1, hq1⟩ : ∃ x, x = hasBits k := ⟨_, rfl⟩
  obtain ⟨q2, hq2⟩ : ∃ x, x = hasWide k := ⟨_, rfl⟩
  obtain ⟨q3, hq3⟩ : ∃ x, x = hasText k := ⟨_, rfl⟩
  obtain ⟨q4, hq4⟩ : ∃ x, x = hasMore k := ⟨_, rfl⟩
  obtain ⟨q5, hq5⟩ : ∃ x, x = hasSub k := ⟨_, rfl⟩
  obtain ⟨q6, hq6⟩ : ∃ x, x = hasBytes k := ⟨_, rfl⟩
  obtain ⟨q7, hq7⟩ : ∃ x, x = hasKids k := ⟨_, rfl⟩
  have hv : hasV k = #[.bool q1, .bool q2, .bool q3, .bool q4, .bool q5, .bool q6, .bool q7] := by unfold hasV; rw [← hq1, ← hq2, ← hq3, ← hq4, ← hq5, ← hq6, ← hq7]
  rw [hv] at CH
  have HVEC := Lib.hid (has_vec k q1 q2 q3 q4 q5 q6 q7 hq1 hq2 hq3 hq4 hq5 hq6 hq7)
  have HD1 : Hid (D1 = !((q1 || bits == 0) && (q2 || hi == 0) && (q2 || lo == 0) && (q3 || text.toList == []) && (q4 || more.toList == []) && (q5 || sub == 0) && (q6 || nb == 0) && (q7 || nk == 0))) := by
    show _ = _
    rw [hD1]; unfold zerosOf; rw [← hq1, ← hq2, ← hq3, ← hq4, ← hq5, ← hq6, ← hq7]
  have HD2 : Hid (D2 = !ok2 k bits sub nb) := hD2
  have HRX : Hid ((k == 11) = rx) := hrx.symm
  have HB0 : Hid (Below w.heap.size w (w.alloc (.cells (valCells k bits hi lo text more sub ab nb cb ak nk ck) 26))) := (Below.refl _ _).alloc (Nat.le_refl _) _
  have HX0 : Hid (BoxV (w.alloc (.cells (valCells k bits hi lo text more sub ab nb cb ak nk ck) 26)) w.heap.size (valCells k bits hi lo text more sub ab nb cb ak nk ck)) := BoxV.new _ _ _
  clear hE hkn hD1 hD2 hrx hb1 hb2 hz1 hz2 hEE hq1 hq2 hq3 hq4 hq5 hq6 hq7 hv ht hmo
  obtain ⟨f0, f1, f2, f3, f4, f5, f6, f7, f8, l0⟩ := HX0.out.nine
  cases kn with
  | false =>
    have HE : Hid (E = 5) := HEE.out
    clear HEE
    go_enter Try.func66, Try.ntmps66
    go_wp2_with fail
    refine (CN.out _).mono ?_
    rintro e w1 ⟨s1, rfl, hs1, hb1⟩
    have hs1 : (s1.toList == []) = true := hs1
    have HB1 : Hid (Below w.heap.size w w1) := HB0.out.trans (hb1.mono HB0.out.size)
    clear hb1 f0 f1 f2 f3 f4 f5 f6 f7 f8 l0
    go_wp2_with fail
    go_ret
    exact ⟨by rw [HE.out]; rfl, HB1.out⟩
  | true =>
  go_enter Try.func66, Try.ntmps66
  go_wp2_with fail
  refine (CN.out _).mono ?_
  rintro e w1 ⟨s1, rfl, hs1, hb1⟩
  have hs1 : (s1.toList == []) = false := hs1
  have HB1 : Hid (Below w.heap.size w w1) := HB0.out.trans (hb1.mono HB0.out.size)
  have HX1 := Lib.hid (HX0.out.keep hb1)
  clear hb1 f0 f1 f2 f3 f4 f5 f6 f7 f8 l0
  obtain ⟨f0, f1, f2, f3, f4, f5, f6, f7, f8, l0⟩ := HX1.out.nine
  go_wp2_with fail
  refine (CH.out _).mono ?_
  rintro e w2 ⟨rfl, rfl⟩
  clear hs1 CN CH
  go_upto_region 4 with fail
  simp only [List.append_eq, List.cons_append, List.nil_append]
  go_cut [92] from 25 to 92 (fun p92 W => p92 = .bool D1 ∧ W = w1)
  case first =>
    rcases HVEC.out with ⟨rfl, rfl, rfl, rfl, rfl, rfl, rfl⟩ | ⟨rfl, rfl, rfl, rfl, rfl, rfl, rfl⟩ | ⟨rfl, rfl, rfl, rfl, rfl, rfl, rfl⟩ | ⟨rfl, rfl, rfl, rfl, rfl, rfl, rfl⟩ | ⟨rfl, rfl, rfl, rfl, rfl, rfl, rfl⟩ | ⟨rfl, rfl, rfl, rfl, rfl, rfl, rfl⟩ | ⟨rfl, rfl, rfl, rfl, rfl, rfl, rfl⟩ | ⟨rfl, rfl, rfl, rfl, rfl, rfl, rfl⟩ | ⟨rfl, rfl, rfl, rfl, rfl, rfl, rfl⟩ | ⟨rfl, rfl, rfl, rfl, rfl, rfl, rfl⟩
    · as_aux_lemma =>
      by_cases hhi : hi = 0
      case neg =>
        have e1 : ((hi : Int) != 0) = true := by simpa using hhi
        have HF : Hid (D1 = true) := by show _ = _; rw [HD1.out]; simp [hhi]
        go_wp2_with fail
        go_meet
        case rel => exact ⟨by rw [HF.out], rfl⟩
      subst hhi
      by_cases hlo : lo = 0
      case neg =>
        have e1 : ((lo : Int) != 0) = true := by simpa using hlo
        have HF : Hid (D1 = true) := by show _ = _; rw [HD1.out]; simp [hlo]
        go_wp2_with fail
        go_meet
        case rel => exact ⟨by rw [HF.out], rfl⟩
      subst hlo
      cases ttext : (text.toList == []) with
      | false =>
        have e1 : (text.toList != []) = true := by unfold bne; rw [ttext]; rfl
        have HF : Hid (D1 = true) := by show _ = _; rw [HD1.out, ttext]; simp
        go_wp2_with fail
        go_meet
        case rel => exact ⟨by rw [HF.out], rfl⟩
      | true =>
      have gtext : (text.toList != []) = false := by unfold bne; rw [ttext]; rfl
      cases tmore : (more.toList == []) with
      | false =>
        have e1 : (more.toList != []) = true := by unfold bne; rw [tmore]; rfl
        have HF : Hid (D1 = true) := by show _ = _; rw [HD1.out, tmore]; simp
        go_wp2_with fail
        go_meet
        case rel => exact ⟨by rw [HF.out], rfl⟩
      | true =>
      have gmore : (more.toList != []) = false := by unfold bne; rw [tmore]; rfl
      by_cases hsub : sub = 0
      case neg =>
        have e1 : (sub != 0) = true := by simpa using hsub
        have HF : Hid (D1 = true) := by show _ = _; rw [HD1.out]; simp [hsub, ttext, tmore]
        go_wp2_with fail
        go_meet
        case rel => exact ⟨by rw [HF.out], rfl⟩
      subst hsub
      by_cases hnb : nb = 0
      case neg =>
        have e1 : decide ((0 : Int) < (nb : Int)) = true := by simp; omega
        have e2 : 0 < nb := by omega
        have HF : Hid (D1 = true) := by show _ = _; rw [HD1.out]; simp [hnb, ttext, tmore]
        go_wp2_with fail
        go_meet
        case rel => exact ⟨by rw [HF.out], rfl⟩
      subst hnb
      by_cases hnk : nk = 0
      case neg =>
        have e1 : decide ((0 : Int) < (nk : Int)) = true := by simp; omega
        have e2 : 0 < nk := by omega
        have HF : Hid (D1 = true) := by show _ = _; rw [HD1.out]; simp [hnk, ttext, tmore]
        go_wp2_with fail
        go_meet
        case rel => exact ⟨by rw [HF.out], rfl⟩
      subst hnk
      have HF : Hid (D1 = false) := by show _ = _; rw [HD1.out, ttext, tmore]; rfl
      go_wp2_with fail
      go_meet
      case rel => exact ⟨by rw [HF.out], rfl⟩
    · as_aux_lemma =>
      by_cases hbits : bits = 0
      case neg =>
        have e1 : ((bits : Int) != 0) = true := by simpa using hbits
        have HF : Hid (D1 = true) := by show _ = _; rw [HD1.out]; simp [hbits]
        go_wp2_with fail
        go_meet
        case rel => exact ⟨by rw [HF.out], rfl⟩
      subst hbits
      cases ttext : (text.toList == []) with
      | false =>
        have e1 : (text.toList != []) = true := by unfold bne; rw [ttext]; rfl
        have HF : Hid (D1 = true) := by show _ = _; rw [HD1.out, ttext]; simp
        go_wp2_with fail
        go_meet
        case rel => exact ⟨by rw [HF.out], rfl⟩
      | true =>
      have gtext : (text.toList != []) = false := by unfold bne; rw [ttext]; rfl
      cases tmore : (more.toList == []) with
      | false =>
        have e1 : (more.toList != []) = true := by unfold bne; rw [tmore]; rfl
        have HF : Hid (D1 = true) := by show _ = _; rw [HD1.out, tmore]; simp
        go_wp2_with fail
        go_meet
        case rel => exact ⟨by rw [HF.out], rfl⟩
      | true =>
      have gmore : (more.toList != []) = false := by unfold bne; rw [tmore]; rfl
      by_cases hsub : sub = 0
      case neg =>
        have e1 : (sub != 0) = true := by simpa using hsub
        have HF : Hid (D1 = true) := by show _ = _; rw [HD1.out]; simp [hsub, ttext, tmore]
        go_wp2_with fail
        go_meet
        case rel => exact ⟨by rw [HF.out], rfl⟩
      subst hsub
      by_cases hnb : nb = 0
      case neg =>
        have e1 : decide ((0 : Int) < (nb : Int)) = true := by simp; omega
        have e2 : 0 < nb := by omega
        have HF : Hid (D1 = true) := by show _ = _; rw [HD1.out]; simp [hnb, ttext, tmore]
        go_wp2_with fail
        go_meet
        case rel => exact ⟨by rw [HF.out], rfl⟩
      subst hnb
      by_cases hnk : nk = 0
      case neg =>
        have e1 : decide ((0 : Int) < (nk : Int)) = true := by simp; omega
        have e2 : 0 < nk := by omega
        have HF : Hid (D1 = true) := by show _ = _; rw [HD1.out]; simp [hnk, ttext, tmore]
        go_wp2_with fail
        go_meet
        case rel => exact ⟨by rw [HF.out], rfl⟩
      subst hnk
      have HF : Hid (D1 = false) := by show _ = _; rw [HD1.out, ttext, tmore]; rfl
      go_wp2_with fail
      go_meet
      case rel => exact ⟨by rw [HF.out], rfl⟩
    · as_aux_lemma =>
      by_cases hbits : bits = 0
      case neg =>
        have e1 : ((bits : Int) != 0) = true := by simpa using hbits
        have HF : Hid (D1 = true) := by show _ = _; rw [HD1.out]; simp [hbits]
        go_wp2_with fail
        go_meet
        case rel => exact ⟨by rw [HF.out], rfl⟩
      subst hbits
      by_cases hhi : hi = 0
      case neg =>
        have e1 : ((hi : Int) != 0) = true := by simpa using hhi
        have HF : Hid (D1 = true) := by show _ = _; rw [HD1.out]; simp [hhi]
        go_wp2_with fail
        go_meet
        case rel => exact ⟨by rw [HF.out], rfl⟩
      subst hhi
      by_cases hlo : lo = 0
      case neg =>
        have e1 : ((lo : Int) != 0) = true := by simpa using hlo
        have HF : Hid (D1 = true) := by show _ = _; rw [HD1.out]; simp [hlo]
        go_wp2_with fail
        go_meet
        case rel => exact ⟨by rw [HF.out], rfl⟩
      subst hlo
      cases tmore : (more.toList == []) with
      | false =>
        have e1 : (more.toList != []) = true := by unfold bne; rw [tmore]; rfl
        have HF : Hid (D1 = true) := by show _ = _; rw [HD1.out, tmore]; simp
        go_wp2_with fail
        go_meet
        case rel => exact ⟨by rw [HF.out], rfl⟩
      | true =>
      have gmore : (more.toList != []) = false := by unfold bne; rw [tmore]; rfl
      by_cases hsub : sub = 0
      case neg =>
        have e1 : (sub != 0) = true := by simpa using hsub
        have HF : Hid (D1 = true) := by show _ = _; rw [HD1.out]; simp [hsub, tmore]
        go_wp2_with fail
        go_meet
        case rel => exact ⟨by rw [HF.out], rfl⟩
      subst hsub
      by_cases hnb : nb = 0
      case neg =>
        have e1 : decide ((0 : Int) < (nb : Int)) = true := by simp; omega
        have e2 : 0 < nb := by omega
        have HF : Hid (D1 = true) := by show _ = _; rw [HD1.out]; simp [hnb, tmore]
        go_wp2_with fail
        go_meet
        case rel => exact ⟨by rw [HF.out], rfl⟩
      subst hnb
      by_cases hnk : nk = 0
      case neg =>
        have e1 : decide ((0 : Int) < (nk : Int)) = true := by simp; omega
        have e2 : 0 < nk := by omega
        have HF : Hid (D1 = true) := by show _ = _; rw [HD1.out]; simp [hnk, tmore]
        go_wp2_with fail
        go_meet
        case rel => exact ⟨by rw [HF.out], rfl⟩
      subst hnk
      have HF : Hid (D1 = false) := by show _ = _; rw [HD1.out, tmore]; rfl
      go_wp2_with fail
      go_meet
      case rel => exact ⟨by rw [HF.out], rfl⟩
    · as_aux_lemma =>
      by_cases hbits : bits = 0
      case neg =>
        have e1 : ((bits : Int) != 0) = true := by simpa using hbits
        have HF : Hid (D1 = true) := by show _ = _; rw [HD1.out]; simp [hbits]
        go_wp2_with fail
        go_meet
        case rel => exact ⟨by rw [HF.out], rfl⟩
      subst hbits
      by_cases hhi : hi = 0
      case neg =>
        have e1 : ((hi : Int) != 0) = true := by simpa using hhi
        have HF : Hid (D1 = true) := by show _ = _; rw [HD1.out]; simp [hhi]
        go_wp2_with fail
        go_meet
        case rel => exact ⟨by rw [HF.out], rfl⟩
      subst hhi
      by_cases hlo : lo = 0
      case neg =>
        have e1 : ((lo : Int) != 0) = true := by simpa using hlo
        have HF : Hid (D1 = true) := by show _ = _; rw [HD1.out]; simp [hlo]
        go_wp2_with fail
        go_meet
        case rel => exact ⟨by rw [HF.out], rfl⟩
      subst hlo
      by_cases hsub : sub = 0
      case neg =>
        have e1 : (sub != 0) = true := by simpa using hsub
        have HF : Hid (D1 = true) := by show _ = _; rw [HD1.out]; simp [hsub]
        go_wp2_with fail
        go_meet
        case rel => exact ⟨by rw [HF.out], rfl⟩
      subst hsub
      by_cases hnb : nb = 0
      case neg =>
        have e1 : decide ((0 : Int) < (nb : Int)) = true := by simp; omega
        have e2 : 0 < nb := by omega
        have HF : Hid (D1 = true) := by show _ = _; rw [HD1.out]; simp [hnb]
        go_wp2_with fail
        go_meet
        case rel => exact ⟨by rw [HF.out], rfl⟩
      subst hnb
      by_cases hnk : nk = 0
      case neg =>
        have e1 : decide ((0 : Int) < (nk : Int)) = true := by simp; omega
        have e2 : 0 < nk := by omega
        have HF : Hid (D1 = true) := by show _ = _; rw [HD1.out]; simp [hnk]
        go_wp2_with fail
        go_meet
        case rel => exact ⟨by rw [HF.out], rfl⟩
      subst hnk
      have HF : Hid (D1 = false) := by show _ = _; rw [HD1.out]; rfl
      go_wp2_with fail
      go_meet
      case rel => exact ⟨by rw [HF.out], rfl⟩
    · as_aux_lemma =>
      by_cases hbits : bits = 0
      case neg =>
        have e1 : ((bits : Int) != 0) = true := by simpa using hbits
        have HF : Hid (D1 = true) := by show _ = _; rw [HD1.out]; simp [hbits]
        go_wp2_with fail
        go_meet
        case rel => exact ⟨by rw [HF.out], rfl⟩
      subst hbits
      by_cases hhi : hi = 0
      case neg =>
        have e1 : ((hi : Int) != 0) = true := by simpa using hhi
        have HF : Hid (D1 = true) := by show _ = _; rw [HD1.out]; simp [hhi]
        go_wp2_with fail
        go_meet
        case rel => exact ⟨by rw [HF.out], rfl⟩
      subst hhi
      by_cases hlo : lo = 0
      case neg =>
        have e1 : ((lo : Int) != 0) = true := by simpa using hlo
        have HF : Hid (D1 = true) := by show _ = _; rw [HD1.out]; simp [hlo]
        go_wp2_with fail
        go_meet
        case rel => exact ⟨by rw [HF.out], rfl⟩
      subst hlo
      cases ttext : (text.toList == []) with
      | false =>
        have e1 : (text.toList != []) = true := by unfold bne; rw [ttext]; rfl
        have HF : Hid (D1 = true) := by show _ = _; rw [HD1.out, ttext]; simp
        go_wp2_with fail
        go_meet
        case rel => exact ⟨by rw [HF.out], rfl⟩
      | true =>
      have gtext : (text.toList != []) = false := by unfold bne; rw [ttext]; rfl
      cases tmore : (more.toList == []) with
      | false =>
        have e1 : (more.toList != []) = true := by unfold bne; rw [tmore]; rfl
        have HF : Hid (D1 = true) := by show _ = _; rw [HD1.out, tmore]; simp
        go_wp2_with fail
        go_meet
        case rel => exact ⟨by rw [HF.out], rfl⟩
      | true =>
      have gmore : (more.toList != []) = false := by unfold bne; rw [tmore]; rfl
      by_cases hnk : nk = 0
      case neg =>
        have e1 : decide ((0 : Int) < (nk : Int)) = true := by simp; omega
        have e2 : 0 < nk := by omega
        have HF : Hid (D1 = true) := by show _ = _; rw [HD1.out]; simp [hnk, ttext, tmore]
        go_wp2_with fail
        go_meet
        case rel => exact ⟨by rw [HF.out], rfl⟩
      subst hnk
      have HF : Hid (D1 = false) := by show _ = _; rw [HD1.out, ttext, tmore]; rfl
      go_wp2_with fail
      go_meet
      case rel => exact ⟨by rw [HF.out], rfl⟩
    · as_aux_lemma =>
      by_cases hbits : bits = 0
      case neg =>
        have e1 : ((bits : Int) != 0) = true := by simpa using hbits
        have HF : Hid (D1 = true) := by show _ = _; rw [HD1.out]; simp [hbits]
        go_wp2_with fail
        go_meet
        case rel => exact ⟨by rw [HF.out], rfl⟩
      subst hbits
      by_cases hhi : hi = 0
      case neg =>
        have e1 : ((hi : Int) != 0) = true := by simpa using hhi
        have HF : Hid (D1 = true) := by show _ = _; rw [HD1.out]; simp [hhi]
        go_wp2_with fail
        go_meet
        case rel => exact ⟨by rw [HF.out], rfl⟩
      subst hhi
      by_cases hlo : lo = 0
      case neg =>
        have e1 : ((lo : Int) != 0) = true := by simpa using hlo
        have HF : Hid (D1 = true) := by show _ = _; rw [HD1.out]; simp [hlo]
        go_wp2_with fail
        go_meet
        case rel => exact ⟨by rw [HF.out], rfl⟩
      subst hlo
      cases ttext : (text.toList == []) with
      | false =>
        have e1 : (text.toList != []) = true := by unfold bne; rw [ttext]; rfl
        have HF : Hid (D1 = true) := by show _ = _; rw [HD1.out, ttext]; simp
        go_wp2_with fail
        go_meet
        case rel => exact ⟨by rw [HF.out], rfl⟩
      | true =>
      have gtext : (text.toList != []) = false := by unfold bne; rw [ttext]; rfl
      cases tmore : (more.toList == []) with
      | false =>
        have e1 : (more.toList != []) = true := by unfold bne; rw [tmore]; rfl
        have HF : Hid (D1 = true) := by show _ = _; rw [HD1.out, tmore]; simp
        go_wp2_with fail
        go_meet
        case rel => exact ⟨by rw [HF.out], rfl⟩
      | true =>
      have gmore : (more.toList != []) = false := by unfold bne; rw [tmore]; rfl
      by_cases hsub : sub = 0
      case neg =>
        have e1 : (sub != 0) = true := by simpa using hsub
        have HF : Hid (D1 = true) := by show _ = _; rw [HD1.out]; simp [hsub, ttext, tmore]
        go_wp2_with fail
        go_meet
        case rel => exact ⟨by rw [HF.out], rfl⟩
      subst hsub
      by_cases hnk : nk = 0
      case neg =>
        have e1 : decide ((0 : Int) < (nk : Int)) = true := by simp; omega
        have e2 : 0 < nk := by omega
        have HF : Hid (D1 = true) := by show _ = _; rw [HD1.out]; simp [hnk, ttext, tmore]
        go_wp2_with fail
        go_meet
        case rel => exact ⟨by rw [HF.out], rfl⟩
      subst hnk
      have HF : Hid (D1 = false) := by show _ = _; rw [HD1.out, ttext, tmore]; rfl
      go_wp2_with fail
      go_meet
      case rel => exact ⟨by rw [HF.out], rfl⟩
    · as_aux_lemma =>
      by_cases hbits : bits = 0
      case neg =>
        have e1 : ((bits : Int) != 0) = true := by simpa using hbits
        have HF : Hid (D1 = true) := by show _ = _; rw [HD1.out]; simp [hbits]
        go_wp2_with fail
        go_meet
        case rel => exact ⟨by rw [HF.out], rfl⟩
      subst hbits
      by_cases hhi : hi = 0
      case neg =>
        have e1 : ((hi : Int) != 0) = true := by simpa using hhi
        have HF : Hid (D1 = true) := by show _ = _; rw [HD1.out]; simp [hhi]
        go_wp2_with fail
        go_meet
        case rel => exact ⟨by rw [HF.out], rfl⟩
      subst hhi
      by_cases hlo : lo = 0
      case neg =>
        have e1 : ((lo : Int) != 0) = true := by simpa using hlo
        have HF : Hid (D1 = true) := by show _ = _; rw [HD1.out]; simp [hlo]
        go_wp2_with fail
        go_meet
        case rel => exact ⟨by rw [HF.out], rfl⟩
      subst hlo
      cases tmore : (more.toList == []) with
      | false =>
        have e1 : (more.toList != []) = true := by unfold bne; rw [tmore]; rfl
        have HF : Hid (D1 = true) := by show _ = _; rw [HD1.out, tmore]; simp
        go_wp2_with fail
        go_meet
        case rel => exact ⟨by rw [HF.out], rfl⟩
      | true =>
      have gmore : (more.toList != []) = false := by unfold bne; rw [tmore]; rfl
      by_cases hsub : sub = 0
      case neg =>
        have e1 : (sub != 0) = true := by simpa using hsub
        have HF : Hid (D1 = true) := by show _ = _; rw [HD1.out]; simp [hsub, tmore]
        go_wp2_with fail
        go_meet
        case rel => exact ⟨by rw [HF.out], rfl⟩
      subst hsub
      by_cases hnk : nk = 0
      case neg =>
        have e1 : decide ((0 : Int) < (nk : Int)) = true := by simp; omega
        have e2 : 0 < nk := by omega
        have HF : Hid (D1 = true) := by show _ = _; rw [HD1.out]; simp [hnk, tmore]
        go_wp2_with fail
        go_meet
        case rel => exact ⟨by rw [HF.out], rfl⟩
      subst hnk
      have HF : Hid (D1 = false) := by show _ = _; rw [HD1.out, tmore]; rfl
      go_wp2_with fail
      go_meet
      case rel => exact ⟨by rw [HF.out], rfl⟩
    · as_aux_lemma =>
      by_cases hbits : bits = 0
      case neg =>
        have e1 : ((bits : Int) != 0) = true := by simpa using hbits
        have HF : Hid (D1 = true) := by show _ = _; rw [HD1.out]; simp [hbits]
        go_wp2_with fail
        go_meet
        case rel => exact ⟨by rw [HF.out], rfl⟩
      subst hbits
      by_cases hhi : hi = 0
      case neg =>
        have e1 : ((hi : Int) != 0) = true := by simpa using hhi
        have HF : Hid (D1 = true) := by show _ = _; rw [HD1.out]; simp [hhi]
        go_wp2_with fail
        go_meet
        case rel => exact ⟨by rw [HF.out], rfl⟩
      subst hhi
      by_cases hlo : lo = 0
      case neg =>
        have e1 : ((lo : Int) != 0) = true := by simpa using hlo
        have HF : Hid (D1 = true) := by show _ = _; rw [HD1.out]; simp [hlo]
        go_wp2_with fail
        go_meet
        case rel => exact ⟨by rw [HF.out], rfl⟩
      subst hlo
      cases ttext : (text.toList == []) with
      | false =>
        have e1 : (text.toList != []) = true := by unfold bne; rw [ttext]; rfl
        have HF : Hid (D1 = true) := by show _ = _; rw [HD1.out, ttext]; simp
        go_wp2_with fail
        go_meet
        case rel => exact ⟨by rw [HF.out], rfl⟩
      | true =>
      have gtext : (text.toList != []) = false := by unfold bne; rw [ttext]; rfl
      cases tmore : (more.toList == []) with
      | false =>
        have e1 : (more.toList != []) = true := by unfold bne; rw [tmore]; rfl
        have HF : Hid (D1 = true) := by show _ = _; rw [HD1.out, tmore]; simp
        go_wp2_with fail
        go_meet
        case rel => exact ⟨by rw [HF.out], rfl⟩
      | true =>
      have gmore : (more.toList != []) = false := by unfold bne; rw [tmore]; rfl
      by_cases hsub : sub = 0
      case neg =>
        have e1 : (sub != 0) = true := by simpa using hsub
        have HF : Hid (D1 = true) := by show _ = _; rw [HD1.out]; simp [hsub, ttext, tmore]
        go_wp2_with fail
        go_meet
        case rel => exact ⟨by rw [HF.out], rfl⟩
      subst hsub
      by_cases hnb : nb = 0
      case neg =>
        have e1 : decide ((0 : Int) < (nb : Int)) = true := by simp; omega
        have e2 : 0 < nb := by omega
        have HF : Hid (D1 = true) := by show _ = _; rw [HD1.out]; simp [hnb, ttext, tmore]
        go_wp2_with fail
        go_meet
        case rel => exact ⟨by rw [HF.out], rfl⟩
      subst hnb
      have HF : Hid (D1 = false) := by show _ = _; rw [HD1.out, ttext, tmore]; rfl
      go_wp2_with fail
      go_meet
      case rel => exact ⟨by rw [HF.out], rfl⟩
    · as_aux_lemma =>
      by_cases hbits : bits = 0
      case neg =>
        have e1 : ((bits : Int) != 0) = true := by simpa using hbits
        have HF : Hid (D1 = true) := by show _ = _; rw [HD1.out]; simp [hbits]
        go_wp2_with fail
        go_meet
        case rel => exact ⟨by rw [HF.out], rfl⟩
      subst hbits
      by_cases hhi : hi = 0
      case neg =>
        have e1 : ((hi : Int) != 0) = true := by simpa using hhi
        have HF : Hid (D1 = true) := by show _ = _; rw [HD1.out]; simp [hhi]
        go_wp2_with fail
        go_meet
        case rel => exact ⟨by rw [HF.out], rfl⟩
      subst hhi
      by_cases hlo : lo = 0
      case neg =>
        have e1 : ((lo : Int) != 0) = true := by simpa using hlo
        have HF : Hid (D1 = true) := by show _ = _; rw [HD1.out]; simp [hlo]
        go_wp2_with fail
        go_meet
        case rel => exact ⟨by rw [HF.out], rfl⟩
      subst hlo
      cases tmore : (more.toList == []) with
      | false =>
        have e1 : (more.toList != []) = true := by unfold bne; rw [tmore]; rfl
        have HF : Hid (D1 = true) := by show _ = _; rw [HD1.out, tmore]; simp
        go_wp2_with fail
        go_meet
        case rel => exact ⟨by rw [HF.out], rfl⟩
      | true =>
      have gmore : (more.toList != []) = false := by unfold bne; rw [tmore]; rfl
      by_cases hsub : sub = 0
      case neg =>
        have e1 : (sub != 0) = true := by simpa using hsub
        have HF : Hid (D1 = true) := by show _ = _; rw [HD1.out]; simp [hsub, tmore]
        go_wp2_with fail
        go_meet
        case rel => exact ⟨by rw [HF.out], rfl⟩
      subst hsub
      by_cases hnb : nb = 0
      case neg =>
        have e1 : decide ((0 : Int) < (nb : Int)) = true := by simp; omega
        have e2 : 0 < nb := by omega
        have HF : Hid (D1 = true) := by show _ = _; rw [HD1.out]; simp [hnb, tmore]
        go_wp2_with fail
        go_meet
        case rel => exact ⟨by rw [HF.out], rfl⟩
      subst hnb
      have HF : Hid (D1 = false) := by show _ = _; rw [HD1.out, tmore]; rfl
      go_wp2_with fail
      go_meet
      case rel => exact ⟨by rw [HF.out], rfl⟩
    · as_aux_lemma =>
      by_cases hbits : bits = 0
      case neg =>
        have e1 : ((bits : Int) != 0) = true := by simpa using hbits
        have HF : Hid (D1 = true) := by show _ = _; rw [HD1.out]; simp [hbits]
        go_wp2_with fail
        go_meet
        case rel => exact ⟨by rw [HF.out], rfl⟩
      subst hbits
      by_cases hhi : hi = 0
      case neg =>
        have e1 : ((hi : Int) != 0) = true := by simpa using hhi
        have HF : Hid (D1 = true) := by show _ = _; rw [HD1.out]; simp [hhi]
        go_wp2_with fail
        go_meet
        case rel => exact ⟨by rw [HF.out], rfl⟩
      subst hhi
      by_cases hlo : lo = 0
      case neg =>
        have e1 : ((lo : Int) != 0) = true := by simpa using hlo
        have HF : Hid (D1 = true) := by show _ = _; rw [HD1.out]; simp [hlo]
        go_wp2_with fail
        go_meet
        case rel => exact ⟨by rw [HF.out], rfl⟩
      subst hlo
      cases ttext : (text.toList == []) with
      | false =>
        have e1 : (text.toList != []) = true := by unfold bne; rw [ttext]; rfl
        have HF : Hid (D1 = true) := by show _ = _; rw [HD1.out, ttext]; simp
        go_wp2_with fail
        go_meet
        case rel => exact ⟨by rw [HF.out], rfl⟩
      | true =>
      have gtext : (text.toList != []) = false := by unfold bne; rw [ttext]; rfl
      cases tmore : (more.toList == []) with
      | false =>
        have e1 : (more.toList != []) = true := by unfold bne; rw [tmore]; rfl
        have HF : Hid (D1 = true) := by show _ = _; rw [HD1.out, tmore]; simp
        go_wp2_with fail
        go_meet
        case rel => exact ⟨by rw [HF.out], rfl⟩
      | true =>
      have gmore : (more.toList != []) = false := by unfold bne; rw [tmore]; rfl
      by_cases hsub : sub = 0
      case neg =>
        have e1 : (sub != 0) = true := by simpa using hsub
        have HF : Hid (D1 = true) := by show _ = _; rw [HD1.out]; simp [hsub, ttext, tmore]
        go_wp2_with fail
        go_meet
        case rel => exact ⟨by rw [HF.out], rfl⟩
      subst hsub
      by_cases hnb : nb = 0
      case neg =>
        have e1 : decide ((0 : Int) < (nb : Int)) = true := by simp; omega
        have e2 : 0 < nb := by omega
        have HF : Hid (D1 = true) := by show _ = _; rw [HD1.out]; simp [hnb, ttext, tmore]
        go_wp2_with fail
        go_meet
        case rel => exact ⟨by rw [HF.out], rfl⟩
      subst hnb
      by_cases hnk : nk = 0
      case neg =>
        have e1 : decide ((0 : Int) < (nk : Int)) = true := by simp; omega
        have e2 : 0 < nk := by omega
        have HF : Hid (D1 = true) := by show _ = _; rw [HD1.out]; simp [hnk, ttext, tmore]
        go_wp2_with fail
        go_meet
        case rel => exact ⟨by rw [HF.out], rfl⟩
      subst hnk
      have HF : Hid (D1 = false) := by show _ = _; rw [HD1.out, ttext, tmore]; rfl
      go_wp2_with fail
      go_meet
      case rel => exact ⟨by rw [HF.out], rfl⟩
  case rest =>
    obtain ⟨rfl, rfl⟩ := hcut
    clear HVEC HD1
    cases D1 with
    | true =>
      have HE : Hid (E = 1) := HEE.out
      clear HEE
      go_wp2_with fail
      go_ret
      exact ⟨by rw [HE.out]; rfl, HB1.out⟩
    | false =>
    go_upto_region 6 with fail
    go_cut [136] from 93 to 136 (fun p136 W => p136 = .bool D2 ∧ W = wc)
    case first =>
      by_cases h16 : k = 16
      · subst h16
        as_aux_lemma =>
        by_cases hb : 4294967296 ≤ bits
        case pos =>
          have HF : Hid (D2 = true) := by show _ = _; rw [HD2.out]; simp [ok2, hb]
          have e0 : decide ((4294967296 : Int) ≤ (bits : Int)) = true := by simp; omega
          go_wp2_with fail
          go_meet
          case rel => exact ⟨by rw [HF.out], rfl⟩
        have e0 : decide ((4294967296 : Int) ≤ (bits : Int)) = false := by simp; omega
        by_cases hs0 : sub < 0
        case pos =>
          have HF : Hid (D2 = true) := by show _ = _; rw [HD2.out]; simp [ok2, hs0]
          have e1 : decide (sub < 0) = true := by simpa using hs0
          go_wp2_with fail
          go_meet
          case rel => exact ⟨by rw [HF.out], rfl⟩
        have e1 : decide (sub < 0) = false := by simpa using hs0
        by_cases hs1 : 255 < sub
        case pos =>
          have HF : Hid (D2 = true) := by show _ = _; rw [HD2.out]; simp [ok2, hs1]
          have e2 : decide (255 < sub) = true := by simpa using hs1
          go_wp2_with fail
          go_meet
          case rel => exact ⟨by rw [HF.out], rfl⟩
        have e2 : decide (255 < sub) = false := by simpa using hs1
        have HF : Hid (D2 = false) := by show _ = _; rw [HD2.out]; simp [ok2, hs0, hs1, hb]; try omega
        go_wp2_with fail
        go_meet
        case rel => exact ⟨by rw [HF.out], rfl⟩
      by_cases h8 : k = 8
      · subst h8
        as_aux_lemma =>
        by_cases hb : 2 ≤ bits
        case pos =>
          have HF : Hid (D2 = true) := by show _ = _; rw [HD2.out]; simp [ok2, hb]
          have e0 : decide ((1 : Int) < (bits : Int)) = true := by simp; omega
          go_wp2_with fail
          go_meet
          case rel => exact ⟨by rw [HF.out], rfl⟩
        have e0 : decide ((1 : Int) < (bits : Int)) = false := by simp; omega
        by_cases hs0 : sub < 0
        case pos =>
          have HF : Hid (D2 = true) := by show _ = _; rw [HD2.out]; simp [ok2, hs0]
          have e1 : decide (sub < 0) = true := by simpa using hs0
          go_wp2_with fail
          go_meet
          case rel => exact ⟨by rw [HF.out], rfl⟩
        have e1 : decide (sub < 0) = false := by simpa using hs0
        by_cases hs1 : 255 < sub
        case pos =>
          have HF : Hid (D2 = true) := by show _ = _; rw [HD2.out]; simp [ok2, hs1]
          have e2 : decide (255 < sub) = true := by simpa using hs1
          go_wp2_with fail
          go_meet
          case rel => exact ⟨by rw [HF.out], rfl⟩
        have e2 : decide (255 < sub) = false := by simpa using hs1
        have HF : Hid (D2 = false) := by show _ = _; rw [HD2.out]; simp [ok2, hs0, hs1, hb]; try omega
        go_wp2_with fail
        go_meet
        case rel => exact ⟨by rw [HF.out], rfl⟩
      by_cases h7 : k = 7
      · subst h7
        as_aux_lemma =>
        by_cases hs0 : sub < 0
        case pos =>
          have HF : Hid (D2 = true) := by show _ = _; rw [HD2.out]; simp [ok2, hs0]
          have e1 : decide (sub < 0) = true := by simpa using hs0
          go_wp2_with fail
          go_meet
          case rel => exact ⟨by rw [HF.out], rfl⟩
        have e1 : decide (sub < 0) = false := by simpa using hs0
        by_cases hs1 : 255 < sub
        case pos =>
          have HF : Hid (D2 = true) := by show _ = _; rw [HD2.out]; simp [ok2, hs1]
          have e2 : decide (255 < sub) = true := by simpa using hs1
          go_wp2_with fail
          go_meet
          case rel => exact ⟨by rw [HF.out], rfl⟩
        have e2 : decide (255 < sub) = false := by simpa using hs1
        by_cases hb : nb = 12
        · subst hb
          have HF : Hid (D2 = false) := by show _ = _; rw [HD2.out]; simp [ok2, hs0, hs1]; try omega
          go_wp2_with fail
          go_meet
          case rel => exact ⟨by rw [HF.out], rfl⟩
        · have HF : Hid (D2 = true) := by show _ = _; rw [HD2.out]; simp [ok2, hb]
          have e3 : ((nb : Int) != 12) = true := by simp; omega
          go_wp2_with fail
          go_meet
          case rel => exact ⟨by rw [HF.out], rfl⟩
      by_cases h12 : k = 12
      · subst h12
        as_aux_lemma =>
        by_cases hs0 : sub < 0
        case pos =>
          have HF : Hid (D2 = true) := by show _ = _; rw [HD2.out]; simp [ok2, hs0]
          have e1 : decide (sub < 0) = true := by simpa using hs0
          go_wp2_with fail
          go_meet
          case rel => exact ⟨by rw [HF.out], rfl⟩
        have e1 : decide (sub < 0) = false := by simpa using hs0
        by_cases hs1 : 255 < sub
        case pos =>
          have HF : Hid (D2 = true) := by show _ = _; rw [HD2.out]; simp [ok2, hs1]
          have e2 : decide (255 < sub) = true := by simpa using hs1
          go_wp2_with fail
          go_meet
          case rel => exact ⟨by rw [HF.out], rfl⟩
        have e2 : decide (255 < sub) = false := by simpa using hs1
        by_cases hb : nb = 12
        · subst hb
          have HF : Hid (D2 = false) := by show _ = _; rw [HD2.out]; simp [ok2, hs0, hs1]; try omega
          go_wp2_with fail
          go_meet
          case rel => exact ⟨by rw [HF.out], rfl⟩
        · have HF : Hid (D2 = true) := by show _ = _; rw [HD2.out]; simp [ok2, hb]
          have e3 : ((nb : Int) != 12) = true := by simp; omega
          go_wp2_with fail
          go_meet
          case rel => exact ⟨by rw [HF.out], rfl⟩
      have n16 : (k == 16) = false := by simpa using h16
      have n8 : (k == 8) = false := by simpa using h8
      have n7 : (k == 7) = false := by simpa using h7
      have n12 : (k == 12) = false := by simpa using h12
      by_cases hs0 : sub < 0
      case pos =>
        have HF : Hid (D2 = true) := by show _ = _; rw [HD2.out]; simp [ok2, hs0]
        have e1 : decide (sub < 0) = true := by simpa using hs0
        go_wp2_with fail
        go_meet
        case rel => exact ⟨by rw [HF.out], rfl⟩
      have e1 : decide (sub < 0) = false := by simpa using hs0
      by_cases hs1 : 255 < sub
      case pos =>
        have HF : Hid (D2 = true) := by show _ = _; rw [HD2.out]; simp [ok2, hs1]
        have e2 : decide (255 < sub) = true := by simpa using hs1
        go_wp2_with fail
        go_meet
        case rel => exact ⟨by rw [HF.out], rfl⟩
      have e2 : decide (255 < sub) = false := by simpa using hs1
      have HF : Hid (D2 = false) := by show _ = _; rw [HD2.out]; simp [ok2, hs0, hs1, h16, h8, h7, h12]; try omega
      go_wp2_with fail
      go_meet
      case rel => exact ⟨by rw [HF.out], rfl⟩
    case rest =>
      obtain ⟨rfl, hw⟩ := hcut
      subst hw
      clear HD2
      cases D2 with
      | true =>
        have HE : Hid (E = 1) := HEE.out
        clear HEE
        go_wp2_with fail
        go_ret
        exact ⟨by rw [HE.out]; rfl, HB1.out⟩
      | false =>
      have e11 := HRX.out
      cases b1 with
      | false =>
        have HE : Hid (E = 4) := by show _ = _; rw [HEE.out]; rfl
        clear HEE
        go_wp2_with fail
        refine (W1.out _).mono ?_
        rintro e w3 ⟨rfl, hb3⟩
        have HB3 : Hid (Below w.heap.size w w3) := HB1.out.trans (hb3.mono HB1.out.size)
        have HX3 := Lib.hid (HX1.out.keep hb3)
        clear f0 f1 f2 f3 f4 f5 f6 f7 f8 l0
        obtain ⟨f0, f1, f2, f3, f4, f5, f6, f7, f8, l0⟩ := HX3.out.nine
        clear hb3
        go_wp2_with fail
        go_ret
        exact ⟨by rw [HE.out]; rfl, HB3.out⟩
      | true =>
      cases b2 with
      | false =>
        have : ∀ a b c d : Bool, True := fun _ _ _ _ => trivial
        have HE : Hid (E = 4) := by show _ = _; rw [HEE.out]; simp
        clear HEE
        go_wp2_with fail
        refine (W1.out _).mono ?_
        rintro e w3 ⟨rfl, hb3⟩
        have HB3 : Hid (Below w.heap.size w w3) := HB1.out.trans (hb3.mono HB1.out.size)
        have HX3 := Lib.hid (HX1.out.keep hb3)
        clear f0 f1 f2 f3 f4 f5 f6 f7 f8 l0
        obtain ⟨f0, f1, f2, f3, f4, f5, f6, f7, f8, l0⟩ := HX3.out.nine
        clear hb3
        go_wp2_with fail
        refine (W2.out _).mono ?_
        rintro e w4 ⟨rfl, hb4⟩
        have HB4 : Hid (Below w.heap.size w w4) := HB3.out.trans (hb4.mono HB3.out.size)
        have HX4 := Lib.hid (HX3.out.keep hb4)
        clear f0 f1 f2 f3 f4 f5 f6 f7 f8 l0
        obtain ⟨f0, f1, f2, f3, f4, f5, f6, f7, f8, l0⟩ := HX4.out.nine
        clear hb4
        go_wp2_with fail
        go_ret
        exact ⟨by rw [HE.out]; rfl, HB4.out⟩
      | true =>
      cases rx with
      | false =>
        have HE : Hid (E = 0) := by show _ = _; rw [HEE.out]; rfl
        clear HEE
        go_wp2_with fail
        refine (W1.out _).mono ?_
        rintro e w3 ⟨rfl, hb3⟩
        have HB3 : Hid (Below w.heap.size w w3) := HB1.out.trans (hb3.mono HB1.out.size)
        have HX3 := Lib.hid (HX1.out.keep hb3)
        clear f0 f1 f2 f3 f4 f5 f6 f7 f8 l0
        obtain ⟨f0, f1, f2, f3, f4, f5, f6, f7, f8, l0⟩ := HX3.out.nine
        clear hb3
        go_wp2_with fail
        refine (W2.out _).mono ?_
        rintro e w4 ⟨rfl, hb4⟩
        have HB4 : Hid (Below w.heap.size w w4) := HB3.out.trans (hb4.mono HB3.out.size)
        have HX4 := Lib.hid (HX3.out.keep hb4)
        clear f0 f1 f2 f3 f4 f5 f6 f7 f8 l0
        obtain ⟨f0, f1, f2, f3, f4, f5, f6, f7, f8, l0⟩ := HX4.out.nine
        clear hb4
        go_wp2_with fail
        go_ret
        exact ⟨by rw [HE.out]; rfl, HB4.out⟩
      | true =>
      cases z1 with
      | true =>
        have HE : Hid (E = 4) := by show _ = _; rw [HEE.out]; rfl
        clear HEE
        go_wp2_with fail
        refine (W1.out _).mono ?_
        rintro e w3 ⟨rfl, hb3⟩
        have HB3 : Hid (Below w.heap.size w w3) := HB1.out.trans (hb3.mono HB1.out.size)
        have HX3 := Lib.hid (HX1.out.keep hb3)
        clear f0 f1 f2 f3 f4 f5 f6 f7 f8 l0
        obtain ⟨f0, f1, f2, f3, f4, f5, f6, f7, f8, l0⟩ := HX3.out.nine
        clear hb3
        go_wp2_with fail
        refine (W2.out _).mono ?_
        rintro e w4 ⟨rfl, hb4⟩
        have HB4 : Hid (Below w.heap.size w w4) := HB3.out.trans (hb4.mono HB3.out.size)
        have HX4 := Lib.hid (HX3.out.keep hb4)
        clear f0 f1 f2 f3 f4 f5 f6 f7 f8 l0
        obtain ⟨f0, f1, f2, f3, f4, f5, f6, f7, f8, l0⟩ := HX4.out.nine
        clear hb4
        go_wp2_with fail
        refine (Z1.out _).mono ?_
        rintro e w5 ⟨rfl, rfl⟩
        go_wp2_with fail
        go_ret
        exact ⟨by rw [HE.out]; rfl, HB4.out⟩
      | false =>
      cases z2 with
      | true =>
        have HE : Hid (E = 4) := by show _ = _; rw [HEE.out]; rfl
        clear HEE
        go_wp2_with fail
        refine (W1.out _).mono ?_
        rintro e w3 ⟨rfl, hb3⟩
        have HB3 : Hid (Below w.heap.size w w3) := HB1.out.trans (hb3.mono HB1.out.size)
        have HX3 := Lib.hid (HX1.out.keep hb3)
        clear f0 f1 f2 f3 f4 f5 f6 f7 f8 l0
        obtain ⟨f0, f1, f2, f3, f4, f5, f6, f7, f8, l0⟩ := HX3.out.nine
        clear hb3
        go_wp2_with fail
        refine (W2.out _).mono ?_
        rintro e w4 ⟨rfl, hb4⟩
        have HB4 : Hid (Below w.heap.size w w4) := HB3.out.trans (hb4.mono HB3.out.size)
        have HX4 := Lib.hid (HX3.out.keep hb4)
        clear f0 f1 f2 f3 f4 f5 f6 f7 f8 l0
        obtain ⟨f0, f1, f2, f3, f4, f5, f6, f7, f8, l0⟩ := HX4.out.nine
        clear hb4
        go_wp2_with fail
        refine (Z1.out _).mono ?_
        rintro e w5 ⟨rfl, rfl⟩
        go_wp2_with fail
        refine (Z2.out _).mono ?_
        rintro e w6 ⟨rfl, rfl⟩
        go_wp2_with fail
        go_ret
        exact ⟨by rw [HE.out]; rfl, HB4.out⟩
      | false =>
      have HE : Hid (E = 0) := by show _ = _; rw [HEE.out]; rfl
      clear HEE
      go_wp2_with fail
      refine (W1.out _).mono ?_
      rintro e w3 ⟨rfl, hb3⟩
      have HB3 : Hid (Below w.heap.size w w3) := HB1.out.trans (hb3.mono HB1.out.size)
      have HX3 := Lib.hid (HX1.out.keep hb3)
      clear f0 f1 f2 f3 f4 f5 f6 f7 f8 l0
      obtain ⟨f0, f1, f2, f3, f4, f5, f6, f7, f8, l0⟩ := HX3.out.nine
      clear hb3
      go_wp2_with fail
      refine (W2.out _).mono ?_
      rintro e w4 ⟨rfl, hb4⟩
      have HB4 : Hid (Below w.heap.size w w4) := HB3.out.trans (hb4.mono HB3.out.size)
      have HX4 := Lib.hid (HX3.out.keep hb4)
      clear f0 f1 f2 f3 f4 f5 f6 f7 f8 l0
      obtain ⟨f0, f1, f2, f3, f4, f5, f6, f7, f8, l0⟩ := HX4.out.nine
      clear hb4
      go_wp2_with fail
      refine (Z1.out _).mono ?_
      rintro e w5 ⟨rfl, rfl⟩
      go_wp2_with fail
      refine (Z2.out _).mono ?_
      rintro e w6 ⟨rfl, rfl⟩
      go_wp2_with fail
      go_ret
      exact ⟨by rw [HE.out]; rfl, HB4.out⟩

end Go.Proofs.Ytkcfkdmffbhljaa
