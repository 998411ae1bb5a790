/- What Decode answers, plainly: it is one thing; the laws' plain halves. -/
import Derived.Test.YtkcfkdmffbhljaaMI
import Derived.Test.YtkcfkdmffbhljaaMay2
namespace Go.Proofs.Ytkcfkdmffbhljaa
set_option linter.unusedVariables false
set_option linter.unusedSimpArgs false

/-- A document of these Kids. -/
def docT (f : F) : T := .mk 3 0 0 0 nt nt 0 [] f

/-- What Decode answers: an error and its place, or a document's Kids. -/
def DecQ (d s o : Int) (L : List UInt8) : Except (Nat × Nat) F → Prop
  | .error p => (mayS d s o = false ∧ p = (1, 0)) ∨ (mayS d s o = true ∧ s < (L.length : Int) ∧ p = (9, 0)) ∨ (mayS d s o = true ∧ ¬ s < (L.length : Int) ∧ Q L d.toNat (.doc 0 L.length 0 1) (.bad p.1 p.2))
  | .ok f => mayS d s o = true ∧ ¬ s < (L.length : Int) ∧ ∃ nx, Q L d.toNat (.doc 0 L.length 0 1) (.kids f nx)

theorem DecQ.one {d s o : Int} {L : List UInt8} {r r' : Except (Nat × Nat) F} (h : DecQ d s o L r) (g : DecQ d s o L r') : r = r' := by
  cases r with
  | error p =>
    cases r' with
    | error p' =>
      rcases h with ⟨h1, rfl⟩ | ⟨h1, h2, rfl⟩ | ⟨h1, h2, h3⟩ <;> rcases g with ⟨g1, rfl⟩ | ⟨g1, g2, rfl⟩ | ⟨g1, g2, g3⟩
      all_goals first | rfl | exact Bool.noConfusion (h1.symm.trans g1) | exact absurd g2 h2 | exact absurd h2 g2 | skip
      have := h3.one g3
      simp only [Ans.bad.injEq] at this
      rw [Prod.ext this.1 this.2]
    | ok f =>
      obtain ⟨g1, g2, nx, g3⟩ := g
      rcases h with ⟨h1, rfl⟩ | ⟨h1, h2, rfl⟩ | ⟨h1, h2, h3⟩
      · rw [h1] at g1; exact absurd g1 (by simp)
      · exact absurd h2 g2
      · exact absurd (h3.one g3) (by simp)
  | ok f =>
    obtain ⟨h1, h2, nx, h3⟩ := h
    cases r' with
    | error p' =>
      rcases g with ⟨g1, rfl⟩ | ⟨g1, g2, rfl⟩ | ⟨g1, g2, g3⟩
      · rw [h1] at g1; exact absurd g1 (by simp)
      · exact absurd g2 h2
      · exact absurd (h3.one g3) (by simp)
    | ok f' =>
      obtain ⟨g1, g2, nx', g3⟩ := g
      have := h3.one g3
      simp only [Ans.kids.injEq] at this
      rw [this.1]

theorem DecQ.bad {d s o : Int} {L : List UInt8} {e a : Nat} (h : DecQ d s o L (.error (e, a))) : a ≤ L.length ∧ 1 ≤ e ∧ e ≤ 9 := by
  rcases h with ⟨h1, h2⟩ | ⟨h1, h2, h3⟩ | ⟨h1, h2, h3⟩
  · simp only [Prod.mk.injEq] at h2; omega
  · simp only [Prod.mk.injEq] at h3; omega
  · have := h3.bd (Nat.zero_le _) (Nat.le_refl _)
    simp only at this
    omega

mutual
theorem wt_size : ∀ (t : T) (nm : ByteArray) (p : List Int), checkT t nm p = none → (t.wt : Int) ≤ 2 + sizeT t
  | .mk k bits hi lo s m sub l f, nm, p, hc => by
    obtain ⟨c1, c2, c3, c4, c5, c6⟩ := check_parts hc
    have hk := wtF_size f 0 p c6
    have hz := sizeF_bd f
    rcases known_cases c1 with rfl | rfl | rfl | rfl | rfl | rfl | rfl | rfl | rfl | rfl | rfl | rfl | rfl | rfl | rfl | rfl | rfl | rfl | rfl | rfl | rfl
    all_goals
      simp [fieldsOf, okK, hasBits, hasWide, hasText, hasMore, hasSub, hasBytes, hasKids] at c2
      simp only [and_assoc] at c2
      have hs0 : s.toList = [] → s.size = 0 := fun e => by rw [eq_nt e]; rfl
      have hm0 : m.toList = [] → m.size = 0 := fun e => by rw [eq_nt e]; rfl
      have hf0 : f.len = 0 → f.wt = 0 := fun e => by rw [len_nil e]; rfl
      simp [T.wt, sizeT, ownSize]
      simp_all
      try omega
    cases (sub == 2) <;> simp <;> omega
theorem wtF_size : ∀ (f : F) (i : Nat) (p : List Int), checkF f i p = none → (f.wt : Int) ≤ sizeF f
  | .nil, i, p, hc => by simp [F.wt, sizeF]
  | .cons n t r, i, p, hc => by
    obtain ⟨c1, c2⟩ := checkF_parts hc
    have h1 := wt_size t n _ c1
    have h2 := wtF_size r (i + 1) p c2
    simp [sizeF, F.wt]
    omega
end

/-- What is read may be written, and is written as those bytes. -/
theorem DecQ.just {d s o : Int} {L : List UInt8} {f : F} (h : DecQ d s o L (.ok f)) (hl : L.length < 2147483648) :
    mayS d s o = true ∧ chk (docT f) = none ∧ encE (docT f) = 0 ∧ encB (docT f) = L ∧ bdF f ∧ (depT (docT f) : Int) ≤ d ∧ sizeT (docT f) = L.length ∧ (L.length : Int) ≤ s ∧ (docT f).wt ≤ L.length + 2 := by
  obtain ⟨h1, h2, nx, h3⟩ := h
  have hb := h3.bd (Nat.zero_le _) (Nat.le_refl _)
  obtain ⟨j1, j2, j3, j4⟩ := h3.just (Nat.zero_le _) (Nat.le_refl _)
  have hn : nx = L.length := hb.2.2 (.inl rfl)
  rw [hn, Nat.sub_zero, seg_all] at j1
  have hc : chk (docT f) = none := by
    unfold chk docT
    have e : sl (⟨#[]⟩ : ByteArray) = [] := rfl
    have l : (⟨#[]⟩ : ByteArray).toList = [] := by rw [toList_sl, e]
    simp only [checkT, sl_nt, e, text_nil, j2 0 []]
    simp [knownK, fieldsOf, okK, hasBits, hasWide, hasText, hasMore, hasSub, hasBytes, hasKids, nt_list, l]
  have he : encE (docT f) = 0 := enc_ok.2 ⟨hc, rfl⟩
  have hbb : encB (docT f) = L := by unfold encB; rw [if_pos he]; exact j1.symm
  have hcnt := (enc_counts he (by rw [hbb]; exact hl)).1
  rw [hbb] at hcnt
  have hw := wt_size _ _ _ hc
  have hd1 : 1 ≤ d := by unfold mayS at h1; simp only [decide_eq_true_eq] at h1; exact h1.1
  refine ⟨h1, hc, he, hbb, j3, ?_, hcnt.symm, by omega, by omega⟩
  show ((bif isK 3 then depF f + 1 else 0 : Nat) : Int) ≤ d
  have : isK 3 = true := rfl
  rw [this]
  simp only [cond_true]
  omega

/-- Within wider limits. -/
theorem DecQ.wide {d s o d2 s2 o2 : Int} {L : List UInt8} {r x : Except (Nat × Nat) F} (hm : mayS d s o = true) (hm2 : mayS d2 s2 o2 = true) (h : DecQ d s o L r) (g : DecQ (max d d2) (max s s2) 0 L x) :
    (∀ f, r = .ok f → x = .ok f) ∧ ∀ e a, r = .error (e, a) → e ≠ 8 → e ≠ 9 → x = .error (e, a) := by
  have hmw : mayS (max d d2) (max s s2) 0 = true := by
    unfold mayS at hm hm2 ⊢
    simp only [decide_eq_true_eq] at hm hm2 ⊢
    omega
  constructor
  · rintro f rfl
    obtain ⟨h1, h2, nx, h3⟩ := h
    refine g.one ⟨hmw, by omega, nx, h3.wider (by omega) (by simp)⟩
  · rintro e a rfl n8 n9
    rcases h with ⟨h1, h2⟩ | ⟨h1, h2, h3⟩ | ⟨h1, h2, h3⟩
    · rw [hm] at h1; exact absurd h1 (by simp)
    · simp only [Prod.mk.injEq] at h3; exact absurd h3.1 n9
    · refine g.one (.inr (.inr ⟨hmw, by omega, h3.wider (by omega) (fun x hx => ?_)⟩))
      simp only [Ans.bad.injEq] at hx
      exact n8 hx.1

/-- What is written is read. -/
theorem DecQ.back {d s o : Int} {t : T} {r : Except (Nat × Nat) F} (he : encE t = 0) (hb : bdF t.kids) (hl : (encB t).length < 2147483648) (h : DecQ d s o (encB t) r) :
    (mayS d s o = false → r = .error (1, 0)) ∧ (mayS d s o = true → (depT t : Int) ≤ d → sizeT t ≤ s → r = .ok t.kids ∧ t = docT t.kids) ∧ (mayS d s o = true → (d < depT t ∨ s < sizeT t) → ∃ e a, r = .error (e, a) ∧ (e = 8 ∨ e = 9)) := by
  obtain ⟨hs, hc⟩ := doc_shape he
  have hB : encB t = docOf (kidsB t.kids) := by unfold encB; rw [if_pos he]
  have hsz := (enc_counts he hl).1
  have hdep : depT t = depF t.kids + 1 := by rw [hs]; rfl
  refine ⟨fun hm => h.one (.inl ⟨hm, rfl⟩), fun hm h1 h2 => ⟨?_, hs⟩, fun hm h1 => ?_⟩
  · obtain ⟨r0, hr0, ht⟩ := read_doc he hb d.toNat (by rw [← hB]; exact hl)
    have := ht.1 (by omega)
    rw [this, ← hB] at hr0
    exact h.one ⟨hm, by omega, _, hr0⟩
  · by_cases hlt : s < ((encB t).length : Int)
    · exact ⟨9, 0, h.one (.inr (.inl ⟨hm, hlt, rfl⟩)), .inr rfl⟩
    · obtain ⟨r0, hr0, ht⟩ := read_doc he hb d.toNat (by rw [← hB]; exact hl)
      have hd1 : 1 ≤ d := by unfold mayS at hm; simp only [decide_eq_true_eq] at hm; exact hm.1
      obtain ⟨a, ha⟩ := ht.2 (by omega)
      rw [ha, ← hB] at hr0
      exact ⟨8, a, h.one (.inr (.inr ⟨hm, hlt, hr0⟩)), .inl rfl⟩

theorem docOf_head (l : List UInt8) : seg (docOf l) 0 4 = leBytes 4 (l.length + 5) := by
  unfold seg docOf
  rw [List.append_assoc, List.drop_zero, List.take_append_of_le_length (by rw [leBytes_length]; exact Nat.le_refl _), List.take_of_length_le (by rw [leBytes_length]; exact Nat.le_refl _)]
theorem seg_take (l : List UInt8) (k n : Nat) (h : n ≤ k) : seg (l.take k) 0 n = seg l 0 n := by
  simp [seg, List.take_take, Nat.min_eq_left h]
theorem le_head (l m : List UInt8) (hl : l.length + 5 < 2147483648) (hm : m.length + 5 < 2147483648) (h : seg (docOf l) 0 4 = seg (docOf m) 0 4) : l.length = m.length := by
  rw [docOf_head, docOf_head] at h
  have := congrArg le h
  rw [le_leBytes, le_leBytes, Nat.mod_eq_of_lt (by omega), Nat.mod_eq_of_lt (by omega)] at this
  omega

/-- Bytes of a document, cut, or with one more. -/
theorem DecQ.cut {d s o : Int} {t : T} {r : Except (Nat × Nat) F} (k : Nat) (he : encE t = 0) (hl : (encB t).length < 2147483648) (hk : k < (encB t).length) (h : DecQ d s o ((encB t).take k) r) : ∃ e a, r = .error (e, a) ∧ 1 ≤ e := by
  cases r with
  | error p => exact ⟨p.1, p.2, rfl, h.bad.2.1⟩
  | ok f =>
    exfalso
    have hB : encB t = docOf (kidsB t.kids) := by unfold encB; rw [if_pos he]
    have hlk : ((encB t).take k).length = k := by simp; omega
    obtain ⟨j1, j2, j3, j4, -⟩ := h.just (by rw [hlk]; omega)
    have e2 : encB (docT f) = docOf (kidsB f) := by unfold encB; rw [if_pos j3]; rfl
    rw [e2, hB] at j4
    have h5 := docOf_len (kidsB f)
    have h6 := docOf_len (kidsB t.kids)
    have h7 := congrArg List.length j4
    rw [← hB, hlk] at h7
    rw [hB] at hk hl
    have := le_head (kidsB f) (kidsB t.kids) (by omega) (by omega) (by rw [j4, seg_take _ _ _ (by omega)])
    omega
theorem DecQ.more {d s o : Int} {t : T} {by' : UInt8} {r : Except (Nat × Nat) F} (he : encE t = 0) (hl : (encB t).length < 2147483647) (hm : mayS d s o = true) (hs : ((encB t).length : Int) < s) (h : DecQ d s o (encB t ++ [by']) r) : r = .error (7, (encB t).length) := by
  have hB : encB t = docOf (kidsB t.kids) := by unfold encB; rw [if_pos he]
  have h5 := docOf_len (kidsB t.kids)
  have hd1 : 1 ≤ d := by unfold mayS at hm; simp only [decide_eq_true_eq] at hm; exact hm.1
  refine h.one (.inr (.inr ⟨hm, by simp; omega, .doc_bad ?_⟩))
  have hsg : seg (encB t ++ [by']) 0 4 = leBytes 4 (encB t).length := by
    have : seg (encB t ++ [by']) 0 4 = seg (encB t) 0 4 := by
      simp only [seg, List.drop_zero]
      rw [List.take_append_of_le_length (by rw [hB]; omega)]
    rw [this, hB, docOf_head, h5]
  have h4 : len4 (encB t ++ [by']) 0 = (encB t).length := len4_of hsg (by omega)
  have hlen : (encB t ++ [by']).length = (encB t).length + 1 := by simp
  unfold docH
  rw [h4, hlen]
  rw [hB]
  rw [if_neg (by omega), if_neg (by omega), if_neg (by omega), if_pos (by omega)]
  simp

end Go.Proofs.Ytkcfkdmffbhljaa
