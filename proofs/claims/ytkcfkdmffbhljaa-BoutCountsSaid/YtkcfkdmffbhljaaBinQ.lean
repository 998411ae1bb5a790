/- Bytes of trees, plainly: how many, unlike ones of unlike trees; trees that are alike are one. -/
import Derived.Test.YtkcfkdmffbhljaaBinP
import Derived.Test.YtkcfkdmffbhljaaBoG
import Derived.Test.YtkcfkdmffbhljaaPathP
namespace Go.Proofs.Ytkcfkdmffbhljaa
set_option linter.unusedVariables false
set_option linter.unusedSimpArgs false

mutual
theorem val_size : ∀ (t : T) (nm : ByteArray) (p : List Int), checkT t nm p = none → ((valB t).length : Int) = sizeT t
  | .mk k bits hi lo s m sub l f, nm, p, hc => by
    obtain ⟨c1, c2, c3, c4, c5, c6⟩ := check_parts hc
    have hk := kids_size f 0 p c6
    have hd := docOf_len (kidsB f)
    have hs := sl_len s
    have hm := sl_len m
    rcases known_cases c1 with rfl | rfl | rfl | rfl | rfl | rfl | rfl | rfl | rfl | rfl | rfl | rfl | rfl | rfl | rfl | rfl | rfl | rfl | rfl | rfl | rfl
    all_goals
      simp [fieldsOf, okK, hasBits, hasWide, hasText, hasMore, hasSub, hasBytes, hasKids] at c2
      simp [valB, sizeT, ownSize, leB_len, textB_len, docOf_len, scopeOf_len, sl_len]
      try omega
    by_cases h2 : sub = 2
    · subst h2
      simp [binB, leB_len]
      omega
    · have : (sub == 2) = false := by simpa using h2
      rw [this]
      simp [binB, this, leB_len]
      omega
theorem kids_size : ∀ (f : F) (i : Nat) (p : List Int), checkF f i p = none → ((kidsB f).length : Int) = sizeF f
  | .nil, i, p, hc => rfl
  | .cons n t r, i, p, hc => by
    obtain ⟨c1, c2⟩ := checkF_parts hc
    have h1 := val_size t n _ c1
    have h2 := kids_size r (i + 1) p c2
    rw [kidsB_pos]
    simp [sizeF, sl_len]
    omega
end
theorem toList_ext {a b : ByteArray} (h : a.toList = b.toList) : a = b := by
  rw [toList_sl, toList_sl] at h
  rw [← txt_sl a, ← txt_sl b, h]
mutual
theorem same_eq : ∀ (a b : T), sameT a b = true ↔ a = b
  | .mk k b h l t m s y f, .mk k' b' h' l' t' m' s' y' f' => by
    have ih := same_eqF f f'
    simp only [sameT, ownEq, T.kids, Bool.and_eq_true, beq_iff_eq]
    constructor
    · rintro ⟨⟨⟨⟨⟨⟨⟨⟨⟨rfl, rfl⟩, rfl⟩, rfl⟩, ht⟩, hm⟩, rfl⟩, rfl⟩, hl⟩, hf⟩
      rw [toList_ext ht, toList_ext hm, ih.1 ⟨hl, hf⟩]
    · intro e
      simp only [T.mk.injEq] at e
      obtain ⟨rfl, rfl, rfl, rfl, rfl, rfl, rfl, rfl, rfl⟩ := e
      have := ih.2 rfl
      exact ⟨⟨⟨⟨⟨⟨⟨⟨⟨rfl, rfl⟩, rfl⟩, rfl⟩, rfl⟩, rfl⟩, rfl⟩, rfl⟩, this.1⟩, this.2⟩
theorem same_eqF : ∀ (a b : F), (a.len = b.len ∧ sameF a b = true) ↔ a = b
  | .nil, .nil => by simp [sameF]
  | .nil, .cons n t r => by simp [F.len]
  | .cons n t r, .nil => by simp [F.len]
  | .cons n t r, .cons n' t' r' => by
    have h1 := same_eq t t'
    have h2 := same_eqF r r'
    simp only [F.len, sameF, Bool.and_eq_true, beq_iff_eq]
    constructor
    · rintro ⟨hl, ⟨hn, ht⟩, hr⟩
      rw [toList_ext hn, h1.1 ht, h2.1 ⟨by omega, hr⟩]
    · intro e
      simp only [F.cons.injEq] at e
      obtain ⟨rfl, rfl, rfl⟩ := e
      have := h2.2 rfl
      exact ⟨rfl, ⟨rfl, h1.2 rfl⟩, this.2⟩
end


mutual
theorem checkT_pos : ∀ (t : T) (nm : ByteArray) (p q : List Int) (e : Nat), checkT t nm p = some (q, e) → e ≠ 0
  | .mk k bits hi lo text more sub bs f, nm, p, q, e, h => by
    simp only [checkT] at h
    split at h
    · simp at h; omega
    · split at h
      · simp at h; omega
      · split at h
        · simp at h; omega
        · exact checkF_pos f 0 p q e h
theorem checkF_pos : ∀ (f : F) (i : Nat) (p q : List Int) (e : Nat), checkF f i p = some (q, e) → e ≠ 0
  | .nil, i, p, q, e, h => by simp [checkF] at h
  | .cons n t r, i, p, q, e, h => by
    simp only [checkF] at h
    split at h
    · rename_i x hx
      simp only [Option.some.injEq] at h
      subst h
      exact checkT_pos t n _ q e hx
    · exact checkF_pos r _ p q e h
end
theorem enc_ok {t : T} : encE t = 0 ↔ chk t = none ∧ t.kind = 3 := by
  unfold encE
  cases h : chk t with
  | none => simp
  | some x =>
    obtain ⟨q, e⟩ := x
    have := checkT_pos t _ _ q e h
    simp [this]
/-- A document that may be: its own fields. -/
theorem doc_shape {t : T} (h : encE t = 0) : t = .mk 3 0 0 0 nt nt 0 [] t.kids ∧ (∀ i p, i = 0 → p = [] → checkF t.kids i p = none) := by
  obtain ⟨hc, hk⟩ := enc_ok.1 h
  obtain ⟨k, bits, hi, lo, s, m, sub, l, f⟩ := t
  obtain rfl : k = 3 := hk
  obtain ⟨c1, c2, c3, c4, c5, c6⟩ := check_parts hc
  simp [fieldsOf, okK, hasBits, hasWide, hasText, hasMore, hasSub, hasBytes, hasKids] at c2
  simp only [and_assoc] at c2
  obtain ⟨rfl, rfl, rfl, e1, e2, rfl, rfl⟩ := c2
  obtain rfl := eq_nt e1
  obtain rfl := eq_nt e2
  exact ⟨rfl, fun i p hi hp => by subst hi; subst hp; exact c6⟩
theorem seg_all (l : List UInt8) : seg l 0 l.length = l := by simp [seg]
/-- A document's bytes, read. -/
theorem read_doc {t : T} (h : encE t = 0) (hb : bdF t.kids) (deep : Nat) (hl : (docOf (kidsB t.kids)).length < 2147483648) :
    ∃ r, Q (docOf (kidsB t.kids)) deep (.doc 0 (docOf (kidsB t.kids)).length 0 1) r ∧ Told deep (depF t.kids + 1) r (.kids t.kids (docOf (kidsB t.kids)).length) := by
  obtain ⟨hs, hc⟩ := doc_shape h
  obtain ⟨r, hr, ht⟩ := Q.of_doc (f := t.kids) (b := docOf (kidsB t.kids)) (deep := deep) (fun at' last win g1 g2 g3 g4 g5 => Q.of_kids t.kids 0 [] (hc 0 [] rfl rfl) hb _ deep at' last win g1 g2 g3 g4 hl g5) 0 (docOf (kidsB t.kids)).length 0 1 (seg_all _) (by omega) (by omega) hl (.inr (by omega))
  refine ⟨r, hr, ?_⟩
  rw [Nat.zero_add, Nat.zero_add] at ht
  exact ht
theorem enc_apart {a b : T} (ha : encE a = 0) (hb : encE b = 0) (ba : bdF a.kids) (bb : bdF b.kids) (la : (encB a).length < 2147483648) : encB a = encB b ↔ a = b := by
  constructor
  · intro e
    have ea : encB a = docOf (kidsB a.kids) := by unfold encB; rw [if_pos ha]
    have eb : encB b = docOf (kidsB b.kids) := by unfold encB; rw [if_pos hb]
    rw [ea] at la
    rw [ea, eb] at e
    obtain ⟨r, hr, ht⟩ := read_doc ha ba (depF a.kids + depF b.kids + 1) la
    obtain ⟨r', hr', ht'⟩ := read_doc hb bb (depF a.kids + depF b.kids + 1) (by rw [← e]; exact la)
    rw [← e] at hr' ht'
    have h1 := ht.1 (by omega)
    have h2 := ht'.1 (by omega)
    have h3 := hr.one hr'
    rw [h1, h2] at h3
    simp only [Ans.kids.injEq] at h3
    rw [(doc_shape ha).1, (doc_shape hb).1, h3.1]
  · rintro rfl; rfl
/-- What BoutCounts says. -/
theorem enc_counts {t : T} (h : encE t = 0) (hl : (encB t).length < 2147483648) : ((encB t).length : Int) = sizeT t ∧ 5 ≤ (encB t).length ∧ le (seg (encB t) 0 4) = (encB t).length ∧ bAt (encB t) ((encB t).length - 1) = 0 := by
  have ea : encB t = docOf (kidsB t.kids) := by unfold encB; rw [if_pos h]
  obtain ⟨hc, hk⟩ := enc_ok.1 h
  have hs := val_size t _ _ hc
  have hsh := (doc_shape h).1
  have hv : valB t = docOf (kidsB t.kids) := by
    rw [hsh]
    simp [valB, T.kids]
  rw [hv, ← ea] at hs
  have hd := docOf_len (kidsB t.kids)
  rw [← ea] at hd
  refine ⟨hs, by omega, ?_, ?_⟩
  · have : seg (encB t) 0 4 = leBytes 4 (encB t).length := by
      rw [hd, ea]
      unfold docOf seg
      rw [List.drop_zero, List.append_assoc]
      exact List.take_left' (leB_len _ _)
    rw [this, le_leBytes, Nat.mod_eq_of_lt (by omega)]
  · rw [ea, docOf_len]
    unfold docOf bAt
    rw [show (kidsB t.kids).length + 5 - 1 = (leBytes 4 ((kidsB t.kids).length + 5) ++ kidsB t.kids).length + 0 from by rw [List.length_append, leB_len]; omega]
    simp [List.getD]

end Go.Proofs.Ytkcfkdmffbhljaa
