/- CBOR, plainly: what is laid is read as it was; what is read has just those bytes. CBOR, plainly: what is laid is read as it was, as deep as it is; cut bytes are too few. CBOR, plainly: what is read may be, and has just those bytes. -/
import Derived.Test.YtambhapgjonmmaaCbV
import Derived.Test.YtambhapgjonmmaaCbY0
namespace Go.Proofs.Ytambhapgjonmmaa
set_option linter.unusedVariables false
set_option linter.unusedSimpArgs false

/-- At a place stand such bytes. -/
def At (b : List UInt8) (p : Nat) (s : List UInt8) : Prop := ∃ u v, b = u ++ (s ++ v) ∧ u.length = p
theorem At.app {b s t : List UInt8} {p : Nat} (h : At b p (s ++ t)) : At b p s ∧ At b (p + s.length) t := by
  obtain ⟨u, v, rfl, rfl⟩ := h
  exact ⟨⟨u, t ++ v, by simp, rfl⟩, ⟨u ++ s, v, by simp, by simp⟩⟩
theorem At.len {b s : List UInt8} {p : Nat} (h : At b p s) : p + s.length ≤ b.length := by
  obtain ⟨u, v, rfl, rfl⟩ := h
  simp only [List.length_append]; omega
theorem At.byte {b s : List UInt8} {p : Nat} (h : At b p s) (i : Nat) (hi : i < s.length) : bAt b (p + i) = bAt s i := by
  obtain ⟨u, v, rfl, rfl⟩ := h
  rw [bAt_append_right, bAt_append_left _ _ _ hi]
theorem At.seg {b s : List UInt8} {p : Nat} (h : At b p s) : seg b p s.length = s := by
  obtain ⟨u, v, rfl, rfl⟩ := h
  simp [Go.Proofs.Ytambhapgjonmmaa.seg]
theorem seg_add28 (b : List UInt8) (p m k : Nat) : seg b p (m + k) = seg b p m ++ seg b (p + m) k := by
  simp only [seg, List.take_add, List.drop_drop]
theorem leBytes_le : ∀ l : List UInt8, leBytes l.length (le l) = l
  | [] => rfl
  | b :: r => by
    have hb := b.toNat_lt
    have e : (b.toNat + 256 * le r) / 256 = le r := by omega
    simp only [List.length_cons, leBytes, le, e, leBytes_le r]
    congr 1
    rw [UInt8.ofNat_add]
    apply UInt8.toNat_inj.1
    simp [UInt8.toNat_add]
theorem be_rev (k n : Nat) (h : n < 256 ^ k) : be ((leBytes k n).reverse) = n := by
  unfold be
  rw [List.reverse_reverse, le_leBytes, Nat.mod_eq_of_lt h]
theorem needN_pow (n : Nat) (h : n < okSize) (hn : 24 ≤ n) : n < 256 ^ needN n := by
  unfold needN okSize at *
  (repeat' split) <;> omega
theorem need_vals (n : Nat) : (n < 24 ∧ needN n = 0 ∧ codeN n = n) ∨ (24 ≤ n ∧ n < 256 ∧ needN n = 1 ∧ codeN n = 24) ∨ (256 ≤ n ∧ n < 65536 ∧ needN n = 2 ∧ codeN n = 25) ∨ (65536 ≤ n ∧ n < 4294967296 ∧ needN n = 4 ∧ codeN n = 26) ∨ (4294967296 ≤ n ∧ needN n = 8 ∧ codeN n = 27) := by
  unfold needN codeN
  by_cases h1 : n < 24
  · left; rw [if_pos h1, if_pos h1]; exact ⟨h1, rfl, rfl⟩
  by_cases h2 : n < 256
  · right; left; rw [if_neg h1, if_neg h1, if_pos h2, if_pos h2]; exact ⟨by omega, h2, rfl, rfl⟩
  by_cases h3 : n < 65536
  · right; right; left; rw [if_neg h1, if_neg h1, if_neg h2, if_neg h2, if_pos h3, if_pos h3]; exact ⟨by omega, h3, rfl, rfl⟩
  by_cases h4 : n < 4294967296
  · right; right; right; left; rw [if_neg h1, if_neg h1, if_neg h2, if_neg h2, if_neg h3, if_neg h3, if_pos h4, if_pos h4]; exact ⟨by omega, h4, rfl, rfl⟩
  · right; right; right; right; rw [if_neg h1, if_neg h1, if_neg h2, if_neg h2, if_neg h3, if_neg h3, if_neg h4, if_neg h4]; exact ⟨by omega, rfl, rfl⟩
theorem need_code (n : Nat) : sizeL (codeN n) = needN n ∧ (24 ≤ n → 24 ≤ codeN n ∧ needN n = wideB (codeN n)) ∧ (n < 24 → codeN n = n ∧ needN n = 0) := by
  rcases need_vals n with ⟨h, e1, e2⟩ | ⟨h, h', e1, e2⟩ | ⟨h, h', e1, e2⟩ | ⟨h, h', e1, e2⟩ | ⟨h, e1, e2⟩ <;> rw [e1, e2]
  · exact ⟨if_pos h, fun h2 => by omega, fun _ => ⟨rfl, rfl⟩⟩
  · exact ⟨rfl, fun _ => ⟨by omega, rfl⟩, fun h2 => by omega⟩
  · exact ⟨rfl, fun _ => ⟨by omega, rfl⟩, fun h2 => by omega⟩
  · exact ⟨rfl, fun _ => ⟨by omega, rfl⟩, fun h2 => by omega⟩
  · exact ⟨rfl, fun _ => ⟨by omega, rfl⟩, fun h2 => by omega⟩
theorem need_back (n low : Nat) (h : 24 ≤ low) (h7 : low ≤ 27) (e : needN n = wideB low) : codeN n = low ∧ 24 ≤ n := by
  have : (low = 24 ∧ wideB low = 1) ∨ (low = 25 ∧ wideB low = 2) ∨ (low = 26 ∧ wideB low = 4) ∨ (low = 27 ∧ wideB low = 8) := by
    have : low = 24 ∨ low = 25 ∨ low = 26 ∨ low = 27 := by omega
    rcases this with rfl | rfl | rfl | rfl
    · exact .inl ⟨rfl, rfl⟩
    · exact .inr (.inl ⟨rfl, rfl⟩)
    · exact .inr (.inr (.inl ⟨rfl, rfl⟩))
    · exact .inr (.inr (.inr ⟨rfl, rfl⟩))
  rcases need_vals n with ⟨h, e1, e2⟩ | ⟨h, h', e1, e2⟩ | ⟨h, h', e1, e2⟩ | ⟨h, h', e1, e2⟩ | ⟨h, e1, e2⟩ <;> omega

/-- A head that stands somewhere is read. -/
theorem head_read {b : List UInt8} {p m n : Nat} (h : At b p (headB m n)) (hm : m ≤ 7) (hn : n < okSize) :
    bAt b p / 32 = m ∧ bAt b p % 32 = codeN n ∧ p < b.length ∧ p + 1 + needN n ≤ b.length ∧ numL b p (codeN n) = n := by
  have hl := h.len
  rw [headB_len] at hl
  have h0 := h.byte 0 (by rw [headB_len]; omega)
  have hc := codeN_le n
  have e0 : bAt (headB m n) 0 = 32 * m + codeN n := by
    unfold headB
    rw [bAt_zero, ofNat_lt _ (by omega)]
  rw [Nat.add_zero, e0] at h0
  refine ⟨by omega, by omega, by omega, by omega, ?_⟩
  unfold numL
  by_cases h24 : n < 24
  · have e := (need_code n).2.2 h24
    rw [e.1, if_pos h24]
  · have e := (need_code n).2.1 (by omega)
    rw [if_neg (by omega), ← e.2]
    have h1 : At b (p + 1) ((leBytes (needN n) n).reverse) := by
      have : headB m n = [UInt8.ofNat (32 * m + codeN n)] ++ (leBytes (needN n) n).reverse := rfl
      rw [this] at h
      exact h.app.2
    have h2 := h1.seg
    rw [List.length_reverse, leBytes_length] at h2
    rw [h2]
    exact be_rev _ _ (needN_pow n hn (by omega))
theorem read_head {b : List UInt8} {p m n : Nat} (h : At b p (headB m n)) (hm : m ≤ 7) (hn : n < okSize) (d : Nat) : readQ b (d + 1) p = behQ (readQ b d) b p m (codeN n) n (p + 1 + needN n) := by
  obtain ⟨h1, h2, h3, h4, h5⟩ := head_read h hm hn
  have hc := codeN_le n
  rw [readQ, if_neg (by omega), h2, if_neg (by omega), (need_code n).1, if_neg (by omega), h1, h5]
theorem need_fine (n : Nat) : ¬ (24 ≤ codeN n ∧ needN n ≠ wideB (codeN n)) := by
  intro h
  by_cases h24 : n < 24
  · have e := (need_code n).2.2 h24; omega
  · have e := (need_code n).2.1 (by omega); exact h.2 e.2

mutual
/-- All numbers are of 64 bits. -/
def okI : I → Prop
  | .mk _ n _ _ f => n < okSize ∧ okIs f
def okIs : IL → Prop
  | .nil => True
  | .cons x r => okI x ∧ okIs r
end
mutual
/-- How many stand within one another. -/
def nestI : I → Nat
  | .mk _ _ _ _ f => nestIs f + 1
def nestIs : IL → Nat
  | .nil => 0
  | .cons x r => max (nestI x) (nestIs r)
end
theorem nest_pos (x : I) : 1 ≤ nestI x := by cases x; simp only [nestI]; omega
mutual
theorem nestI_wt : ∀ x : I, 2 * nestI x ≤ x.wt
  | .mk k n bs t f => by have := nestIs_wt f; simp only [nestI, I.wt]; omega
theorem nestIs_wt : ∀ f : IL, 2 * nestIs f ≤ f.wt
  | .nil => by simp [nestIs]
  | .cons x r => by have := nestI_wt x; have := nestIs_wt r; simp only [nestIs, IL.wt]; omega
end
theorem no_len {l : List UInt8} (h : l.length = 0) : l = [] := List.length_eq_zero_iff.1 h
theorem no_size {t : ByteArray} (h : t.size = 0) : t = ⟨#[]⟩ := by
  obtain ⟨⟨l⟩⟩ := t
  have : l = [] := List.length_eq_zero_iff.1 h
  subst this; rfl
theorem no_il {f : IL} (h : f.len = 0) : f = .nil := by cases f with
  | nil => rfl
  | cons => simp [IL.len] at h
/-- What an item has that may be. -/
theorem fields_of {k : Int} {n : Nat} {bs : List UInt8} {t : ByteArray} {f : IL} (h : errI (.mk k n bs t f) = 0) :
    errIs f = 0 ∧ ((k = 1 ∧ bs = [] ∧ t = ⟨#[]⟩ ∧ f = .nil) ∨ (k = 2 ∧ bs = [] ∧ t = ⟨#[]⟩ ∧ f = .nil) ∨ (k = 3 ∧ n = 0 ∧ t = ⟨#[]⟩ ∧ f = .nil) ∨ (k = 4 ∧ n = 0 ∧ bs = [] ∧ f = .nil ∧ wholeTo (sl t) = t.size) ∨
      (k = 5 ∧ n = 0 ∧ bs = [] ∧ t = ⟨#[]⟩) ∨ (k = 6 ∧ n = 0 ∧ bs = [] ∧ t = ⟨#[]⟩ ∧ f.len % 2 = 0) ∨ (k = 7 ∧ bs = [] ∧ t = ⟨#[]⟩ ∧ f.len = 1) ∨ (k = 8 ∧ bs = [] ∧ t = ⟨#[]⟩ ∧ f = .nil ∧ 20 ≤ n ∧ n ≤ 23) ∨ (k = 9 ∧ bs = [] ∧ t = ⟨#[]⟩ ∧ f = .nil)) := by
  simp only [errI] at h
  split at h
  · omega
  split at h
  · omega
  split at h
  · omega
  rename_i h1 h2 h3
  refine ⟨h, ?_⟩
  have h3' : wholeTo (sl t) = t.size := by simpa using h3
  have : k = 1 ∨ k = 2 ∨ k = 3 ∨ k = 4 ∨ k = 5 ∨ k = 6 ∨ k = 7 ∨ k = 8 ∨ k = 9 := by omega
  rcases this with rfl | rfl | rfl | rfl | rfl | rfl | rfl | rfl | rfl <;> simp [fieldsB] at h2
  · exact .inl ⟨rfl, no_len (by simp [h2]), no_size (by simp [h2]), no_il (by omega)⟩
  · exact .inr (.inl ⟨rfl, no_len (by simp [h2]), no_size (by simp [h2]), no_il (by omega)⟩)
  · exact .inr (.inr (.inl ⟨rfl, by omega, no_size (by simp [h2]), no_il (by omega)⟩))
  · exact .inr (.inr (.inr (.inl ⟨rfl, by omega, no_len (by simp [h2]), no_il (by omega), h3'⟩)))
  · exact .inr (.inr (.inr (.inr (.inl ⟨rfl, by omega, no_len (by simp [h2]), no_size (by simp [h2])⟩))))
  · exact .inr (.inr (.inr (.inr (.inr (.inl ⟨rfl, by omega, no_len (by simp [h2]), no_size (by simp [h2]), by omega⟩)))))
  · exact .inr (.inr (.inr (.inr (.inr (.inr (.inl ⟨rfl, no_len (by simp [h2]), no_size (by simp [h2]), by omega⟩))))))
  · exact .inr (.inr (.inr (.inr (.inr (.inr (.inr (.inl ⟨rfl, no_len (by simp [h2]), no_size (by simp [h2]), no_il (by omega), by omega, by omega⟩)))))))
  · exact .inr (.inr (.inr (.inr (.inr (.inr (.inr (.inr ⟨rfl, no_len (by simp [h2]), no_size (by simp [h2]), no_il (by omega)⟩)))))))
theorem errIs_cons {x : I} {r : IL} (h : errIs (.cons x r) = 0) : errI x = 0 ∧ errIs r = 0 := by
  simp only [errIs] at h
  split at h
  · rename_i h1; exact absurd h h1
  · rename_i h1; exact ⟨by omega, h⟩

end Go.Proofs.Ytambhapgjonmmaa

namespace Go.Proofs.Ytambhapgjonmmaa
set_option linter.unusedVariables false
set_option linter.unusedSimpArgs false

/-- An item's bytes: a head, and what is behind it. -/
theorem lay_eq (k : Int) (n : Nat) (bs : List UInt8) (t : ByteArray) (f : IL) (h : errI (.mk k n bs t f) = 0) :
    (k = 1 ∧ layI (.mk k n bs t f) = headB 0 n ∧ bs = [] ∧ t = ⟨#[]⟩ ∧ f = .nil) ∨ (k = 2 ∧ layI (.mk k n bs t f) = headB 1 n ∧ bs = [] ∧ t = ⟨#[]⟩ ∧ f = .nil) ∨
    (k = 3 ∧ layI (.mk k n bs t f) = headB 2 bs.length ++ bs ∧ n = 0 ∧ t = ⟨#[]⟩ ∧ f = .nil) ∨ (k = 4 ∧ layI (.mk k n bs t f) = headB 3 t.size ++ sl t ∧ n = 0 ∧ bs = [] ∧ f = .nil ∧ wholeTo (sl t) = t.size) ∨
    (k = 5 ∧ layI (.mk k n bs t f) = headB 4 f.len ++ layIs f ∧ n = 0 ∧ bs = [] ∧ t = ⟨#[]⟩) ∨ (k = 6 ∧ layI (.mk k n bs t f) = headB 5 (f.len / 2) ++ layIs f ∧ n = 0 ∧ bs = [] ∧ t = ⟨#[]⟩ ∧ f.len % 2 = 0) ∨
    (k = 7 ∧ layI (.mk k n bs t f) = headB 6 n ++ layIs f ∧ bs = [] ∧ t = ⟨#[]⟩ ∧ f.len = 1) ∨ (k = 8 ∧ layI (.mk k n bs t f) = headB 7 n ∧ bs = [] ∧ t = ⟨#[]⟩ ∧ f = .nil ∧ 20 ≤ n ∧ n ≤ 23) ∨
    (k = 9 ∧ layI (.mk k n bs t f) = 251 :: (leBytes 8 n).reverse ∧ bs = [] ∧ t = ⟨#[]⟩ ∧ f = .nil) := by
  rcases (fields_of h).2 with ⟨rfl, h1, h2, rfl⟩ | ⟨rfl, h1, h2, rfl⟩ | ⟨rfl, h1, h2, rfl⟩ | ⟨rfl, h1, h2, rfl, h3⟩ | ⟨rfl, h1, h2, h3⟩ | ⟨rfl, h1, h2, h3, h4⟩ | ⟨rfl, h1, h2, h3⟩ | ⟨rfl, h1, h2, rfl, h3⟩ | ⟨rfl, h1, h2, rfl⟩
  · exact .inl ⟨rfl, by simp [layI, layIs], h1, h2, rfl⟩
  · exact .inr (.inl ⟨rfl, by simp [layI, layIs], h1, h2, rfl⟩)
  · exact .inr (.inr (.inl ⟨rfl, by simp [layI, layIs], h1, h2, rfl⟩))
  · exact .inr (.inr (.inr (.inl ⟨rfl, by simp [layI, layIs], h1, h2, rfl, h3⟩)))
  · exact .inr (.inr (.inr (.inr (.inl ⟨rfl, by simp [layI], h1, h2, h3⟩))))
  · exact .inr (.inr (.inr (.inr (.inr (.inl ⟨rfl, by simp [layI], h1, h2, h3, h4⟩)))))
  · exact .inr (.inr (.inr (.inr (.inr (.inr (.inl ⟨rfl, by simp [layI], h1, h2, h3⟩))))))
  · exact .inr (.inr (.inr (.inr (.inr (.inr (.inr (.inl ⟨rfl, by simp [layI, layIs], h1, h2, rfl, h3⟩)))))))
  · exact .inr (.inr (.inr (.inr (.inr (.inr (.inr (.inr ⟨rfl, by simp [layI, layIs], h1, h2, rfl⟩)))))))

theorem float_read {b : List UInt8} {p n : Nat} (h : At b p (251 :: (leBytes 8 n).reverse)) (hn : n < okSize) (d : Nat) : readQ b (d + 1) p = .ok (.mk 9 n [] ⟨#[]⟩ .nil, p + 9) := by
  have hl := h.len
  simp only [List.length_cons, List.length_reverse, leBytes_length] at hl
  have h0 := h.byte 0 (by simp)
  have e0 : bAt (251 :: (leBytes 8 n).reverse) 0 = 251 := rfl
  rw [Nat.add_zero, e0] at h0
  have h1 : At b (p + 1) ((leBytes 8 n).reverse) := (show At b p ([251] ++ (leBytes 8 n).reverse) from h).app.2
  have h2 := h1.seg
  rw [List.length_reverse, leBytes_length] at h2
  have e1 : sizeL 27 = 8 := rfl
  have e2 : numL b p 27 = n := by
    show be (seg b (p + 1) (wideB 27)) = n
    rw [show wideB 27 = 8 from rfl, h2]
    exact be_rev 8 n hn
  rw [readQ, if_neg (by omega), h0, if_neg (by omega), show 251 % 32 = 27 from rfl, e1, if_neg (by omega), e2]
  unfold behQ
  rw [if_pos (by rfl), if_pos rfl]

theorem withKids_ok (k : Int) (n : Nat) (f : IL) (q : Nat) : withKids k n (.ok (f, q)) = .ok (.mk k n [] ⟨#[]⟩ f, q) := rfl
theorem withKids_err (k : Int) (n : Nat) (e : Nat × Nat) : withKids k n (.error e) = .error e := rfl

mutual
theorem read_lay : ∀ (x : I), errI x = 0 → okI x → x.wt ≤ 100000 → ∀ (b : List UInt8) (p d : Nat), At b p (layI x) → nestI x ≤ d → readQ b d p = .ok (x, p + (layI x).length)
  | .mk k n bs t f, he, ho, hw, b, p, d, ha, hd => by
    obtain ⟨d, rfl⟩ : ∃ d', d = d' + 1 := ⟨d - 1, by have := nest_pos (.mk k n bs t f); omega⟩
    simp only [nestI] at hd
    simp only [okI] at ho
    simp only [I.wt] at hw
    have hek := (fields_of he).1
    have hfl := IL.len_wt f
    have hkk := fun (q : Nat) (h : At b q (layIs f)) => kids_lay f hek ho.2 (by omega) b q d h (by omega)
    have small : ∀ x : Nat, x ≤ 100000 → x < okSize := fun x h => by unfold okSize; omega
    rcases lay_eq k n bs t f he with ⟨rfl, e, rfl, rfl, rfl⟩ | ⟨rfl, e, rfl, rfl, rfl⟩ | ⟨rfl, e, rfl, rfl, rfl⟩ | ⟨rfl, e, rfl, rfl, rfl, hwh⟩ | ⟨rfl, e, rfl, rfl, rfl⟩ | ⟨rfl, e, rfl, rfl, rfl, hev⟩ | ⟨rfl, e, rfl, rfl, hev⟩ | ⟨rfl, e, rfl, rfl, rfl, hn1, hn2⟩ | ⟨rfl, e, rfl, rfl, rfl⟩ <;> rw [e] at ha ⊢
    · rw [read_head ha (by omega) ho.1, headB_len]
      unfold behQ
      rw [if_neg (by omega), if_neg (need_fine n), if_pos rfl, Nat.add_assoc]
    · rw [read_head ha (by omega) ho.1, headB_len]
      unfold behQ
      rw [if_neg (by omega), if_neg (need_fine n), if_neg (by omega), if_pos rfl, Nat.add_assoc]
    · have h2 := ha.app
      have hl := h2.2.len
      have hs := h2.2.seg
      rw [headB_len] at hl hs
      rw [read_head h2.1 (by omega) (small _ (by omega)), List.length_append, headB_len]
      unfold behQ
      rw [if_neg (by omega), if_neg (need_fine _), if_neg (by omega), if_neg (by omega), if_pos (.inl rfl)]
      unfold rowQ
      rw [if_neg (by omega), if_pos rfl]
      rw [show p + 1 + needN bs.length = p + (1 + needN bs.length) from by omega, hs, Nat.add_assoc]
    · have h2 := ha.app
      have hl := h2.2.len
      have hs := h2.2.seg
      rw [headB_len, sl_len] at hl hs
      rw [read_head h2.1 (by omega) (small _ (by omega)), List.length_append, headB_len, sl_len]
      unfold behQ
      rw [if_neg (by omega), if_neg (need_fine _), if_neg (by omega), if_neg (by omega), if_pos (.inr rfl)]
      unfold rowQ
      rw [if_neg (by omega), if_neg (by omega)]
      rw [show p + 1 + needN t.size = p + (1 + needN t.size) from by omega, hs, hwh, if_neg (by simp), Nat.add_assoc]
      rfl
    · have h2 := ha.app
      have h3 := h2.2
      rw [headB_len] at h3
      rw [read_head h2.1 (by omega) (small _ (by omega)), List.length_append, headB_len]
      unfold behQ
      rw [if_neg (by omega), if_neg (need_fine _), if_neg (by omega), if_neg (by omega), if_neg (by omega), if_pos rfl]
      rw [show p + 1 + needN f.len = p + (1 + needN f.len) from by omega, hkk _ h3, withKids_ok, Nat.add_assoc]
    · have h2 := ha.app
      have h3 := h2.2
      rw [headB_len] at h3
      rw [read_head h2.1 (by omega) (small _ (by omega)), List.length_append, headB_len]
      unfold behQ
      rw [if_neg (by omega), if_neg (need_fine _), if_neg (by omega), if_neg (by omega), if_neg (by omega), if_neg (by omega), if_pos rfl]
      rw [show p + 1 + needN (f.len / 2) = p + (1 + needN (f.len / 2)) from by omega, show f.len / 2 * 2 = f.len from by omega, hkk _ h3, withKids_ok, Nat.add_assoc]
    · have h2 := ha.app
      have h3 := h2.2
      rw [headB_len] at h3
      rw [read_head h2.1 (by omega) ho.1, List.length_append, headB_len]
      unfold behQ
      rw [if_neg (by omega), if_neg (need_fine _), if_neg (by omega), if_neg (by omega), if_neg (by omega), if_neg (by omega), if_neg (by omega)]
      have h4 := hkk _ h3
      rw [hev] at h4
      rw [show p + 1 + needN n = p + (1 + needN n) from by omega, h4, withKids_ok, Nat.add_assoc]
    · have hc : codeN n = n := ((need_code n).2.2 (by omega)).1
      rw [read_head ha (by omega) ho.1, headB_len]
      unfold behQ
      rw [if_pos rfl, hc, if_neg (by omega), if_pos ⟨hn1, hn2⟩, Nat.add_assoc]
    · rw [float_read ha ho.1]
      simp [leBytes_length]
theorem kids_lay : ∀ (f : IL), errIs f = 0 → okIs f → f.wt ≤ 100000 → ∀ (b : List UInt8) (p d : Nat), At b p (layIs f) → nestIs f ≤ d → kidsW (readQ b d) f.len p = .ok (f, p + (layIs f).length)
  | .nil, _, _, _, b, p, d, _, _ => by simp [kidsW, IL.len, layIs]
  | .cons x r, he, ho, hw, b, p, d, ha, hd => by
    obtain ⟨h1, h2⟩ := errIs_cons he
    simp only [okIs] at ho
    simp only [IL.wt] at hw
    simp only [nestIs] at hd
    simp only [layIs] at ha ⊢
    have h3 := ha.app
    simp only [IL.len, kidsW]
    rw [read_lay x h1 ho.1 (by omega) b p d h3.1 (by omega)]
    simp only [thenKids]
    rw [kids_lay r h2 ho.2 (by omega) b _ d h3.2 (by omega)]
    simp only [andKid, List.length_append, Nat.add_assoc]
end

mutual
theorem read_deep : ∀ (x : I), errI x = 0 → okI x → x.wt ≤ 100000 → ∀ (b : List UInt8) (p d : Nat), At b p (layI x) → d < nestI x → ∃ a, readQ b d p = .error (8, a)
  | .mk k n bs t f, he, ho, hw, b, p, 0, ha, hd => ⟨p, rfl⟩
  | .mk k n bs t f, he, ho, hw, b, p, d + 1, ha, hd => by
    simp only [nestI] at hd
    simp only [okI] at ho
    simp only [I.wt] at hw
    have hek := (fields_of he).1
    have hfl := IL.len_wt f
    have hkk := fun (q : Nat) (h : At b q (layIs f)) => kids_deep f hek ho.2 (by omega) b q d h (by omega)
    have small : ∀ x : Nat, x ≤ 100000 → x < okSize := fun x h => by unfold okSize; omega
    have hnil : f = .nil → False := fun e => by rw [e] at hd; simp only [nestIs] at hd; omega
    rcases lay_eq k n bs t f he with ⟨rfl, e, rfl, rfl, e2⟩ | ⟨rfl, e, rfl, rfl, e2⟩ | ⟨rfl, e, rfl, rfl, e2⟩ | ⟨rfl, e, rfl, rfl, e2, hwh⟩ | ⟨rfl, e, rfl, rfl, rfl⟩ | ⟨rfl, e, rfl, rfl, rfl, hev⟩ | ⟨rfl, e, rfl, rfl, hev⟩ | ⟨rfl, e, rfl, rfl, e2, hn1, hn2⟩ | ⟨rfl, e, rfl, rfl, e2⟩
    · exact (hnil e2).elim
    · exact (hnil e2).elim
    · exact (hnil e2).elim
    · exact (hnil e2).elim
    · rw [e] at ha
      have h2 := ha.app
      have h3 := h2.2
      rw [headB_len] at h3
      obtain ⟨a, h4⟩ := hkk _ h3
      refine ⟨a, ?_⟩
      rw [read_head h2.1 (by omega) (small _ (by omega))]
      unfold behQ
      rw [if_neg (by omega), if_neg (need_fine _), if_neg (by omega), if_neg (by omega), if_neg (by omega), if_pos rfl]
      rw [show p + 1 + needN f.len = p + (1 + needN f.len) from by omega, h4, withKids_err]
    · rw [e] at ha
      have h2 := ha.app
      have h3 := h2.2
      rw [headB_len] at h3
      obtain ⟨a, h4⟩ := hkk _ h3
      refine ⟨a, ?_⟩
      rw [read_head h2.1 (by omega) (small _ (by omega))]
      unfold behQ
      rw [if_neg (by omega), if_neg (need_fine _), if_neg (by omega), if_neg (by omega), if_neg (by omega), if_neg (by omega), if_pos rfl]
      rw [show p + 1 + needN (f.len / 2) = p + (1 + needN (f.len / 2)) from by omega, show f.len / 2 * 2 = f.len from by omega, h4, withKids_err]
    · rw [e] at ha
      have h2 := ha.app
      have h3 := h2.2
      rw [headB_len] at h3
      obtain ⟨a, h4⟩ := hkk _ h3
      refine ⟨a, ?_⟩
      rw [read_head h2.1 (by omega) ho.1]
      unfold behQ
      rw [if_neg (by omega), if_neg (need_fine _), if_neg (by omega), if_neg (by omega), if_neg (by omega), if_neg (by omega), if_neg (by omega)]
      rw [hev] at h4
      rw [show p + 1 + needN n = p + (1 + needN n) from by omega, h4, withKids_err]
    · exact (hnil e2).elim
    · exact (hnil e2).elim
theorem kids_deep : ∀ (f : IL), errIs f = 0 → okIs f → f.wt ≤ 100000 → ∀ (b : List UInt8) (p d : Nat), At b p (layIs f) → d < nestIs f → ∃ a, kidsW (readQ b d) f.len p = .error (8, a)
  | .nil, _, _, _, b, p, d, _, hd => by simp [nestIs] at hd
  | .cons x r, he, ho, hw, b, p, d, ha, hd => by
    obtain ⟨h1, h2⟩ := errIs_cons he
    simp only [okIs] at ho
    simp only [IL.wt] at hw
    simp only [nestIs] at hd
    simp only [layIs] at ha
    have h3 := ha.app
    simp only [IL.len, kidsW]
    by_cases hx : d < nestI x
    · obtain ⟨a, e⟩ := read_deep x h1 ho.1 (by omega) b p d h3.1 hx
      exact ⟨a, by rw [e]; rfl⟩
    · rw [read_lay x h1 ho.1 (by omega) b p d h3.1 (by omega)]
      obtain ⟨a, e⟩ := kids_deep r h2 ho.2 (by omega) b _ d h3.2 (by omega)
      exact ⟨a, by simp only [thenKids]; rw [e]; rfl⟩
end

/-- The bytes end within such bytes, which begin at a place. -/
def Cut (b : List UInt8) (p : Nat) (s : List UInt8) : Prop := ∃ u k, b = u ++ s.take k ∧ u.length = p ∧ k < s.length
theorem Cut.len {b s : List UInt8} {p : Nat} (h : Cut b p s) : p ≤ b.length ∧ b.length < p + s.length := by
  obtain ⟨u, k, rfl, rfl, hk⟩ := h
  simp only [List.length_append, List.length_take]; omega
theorem Cut.byte {b s : List UInt8} {p : Nat} (h : Cut b p s) (hp : p < b.length) : bAt b p = bAt s 0 := by
  obtain ⟨u, k, rfl, rfl, hk⟩ := h
  simp only [List.length_append, List.length_take] at hp
  have := bAt_append_right u (s.take k) 0
  rw [Nat.add_zero] at this
  rw [this]
  cases s with
  | nil => simp at hk
  | cons x s =>
    cases k with
    | zero => simp at hp
    | succ k => rfl
theorem Cut.app {b s t : List UInt8} {p : Nat} (h : Cut b p (s ++ t)) : Cut b p s ∨ (At b p s ∧ Cut b (p + s.length) t) := by
  obtain ⟨u, k, rfl, rfl, hk⟩ := h
  by_cases h1 : k < s.length
  · exact .inl ⟨u, k, by rw [List.take_append_of_le_length (by omega)], rfl, h1⟩
  · have e : (s ++ t).take k = s ++ t.take (k - s.length) := by rw [List.take_append, List.take_of_length_le (by omega)]
    right
    rw [e]
    refine ⟨⟨u, t.take (k - s.length), rfl, rfl⟩, ⟨u ++ s, k - s.length, by simp, by simp, ?_⟩⟩
    rw [List.length_append] at hk
    omega
/-- A head that is cut is too short. -/
theorem head_cut {b : List UInt8} {p m n : Nat} (h : Cut b p (headB m n)) (hm : m ≤ 7) (d : Nat) : readQ b (d + 1) p = .error (2, p) := by
  have hl := h.len
  rw [headB_len] at hl
  rw [readQ]
  by_cases h1 : b.length ≤ p
  · rw [if_pos h1]
  have h0 := h.byte (by omega)
  have hc := codeN_le n
  have e0 : bAt (headB m n) 0 = 32 * m + codeN n := by
    unfold headB
    rw [bAt_zero, ofNat_lt _ (by omega)]
  rw [e0] at h0
  rw [if_neg h1, show bAt b p % 32 = codeN n from by omega, if_neg (by omega), (need_code n).1, if_pos (by omega)]
theorem float_cut {b : List UInt8} {p n : Nat} (h : Cut b p (251 :: (leBytes 8 n).reverse)) (d : Nat) : readQ b (d + 1) p = .error (2, p) := by
  have hl := h.len
  simp only [List.length_cons, List.length_reverse, leBytes_length] at hl
  rw [readQ]
  by_cases h1 : b.length ≤ p
  · rw [if_pos h1]
  have h0 := h.byte (by omega)
  have e0 : bAt (251 :: (leBytes 8 n).reverse) 0 = 251 := rfl
  rw [e0] at h0
  have e1 : sizeL 27 = 8 := rfl
  rw [if_neg h1, h0, show 251 % 32 = 27 from rfl, if_neg (by omega), e1, if_pos (by omega)]

mutual
theorem read_cutI : ∀ (x : I), errI x = 0 → okI x → x.wt ≤ 100000 → ∀ (b : List UInt8) (p d : Nat), Cut b p (layI x) → nestI x ≤ d → ∃ a, readQ b d p = .error (2, a)
  | .mk k n bs t f, he, ho, hw, b, p, d, ha, hd => by
    obtain ⟨d, rfl⟩ : ∃ d', d = d' + 1 := ⟨d - 1, by have := nest_pos (.mk k n bs t f); omega⟩
    simp only [nestI] at hd
    simp only [okI] at ho
    simp only [I.wt] at hw
    have hek := (fields_of he).1
    have hfl := IL.len_wt f
    have hkk := fun (q : Nat) (h : Cut b q (layIs f)) => kids_cutI f hek ho.2 (by omega) b q d h (by omega)
    have small : ∀ x : Nat, x ≤ 100000 → x < okSize := fun x h => by unfold okSize; omega
    rcases lay_eq k n bs t f he with ⟨rfl, e, rfl, rfl, rfl⟩ | ⟨rfl, e, rfl, rfl, rfl⟩ | ⟨rfl, e, rfl, rfl, rfl⟩ | ⟨rfl, e, rfl, rfl, rfl, hwh⟩ | ⟨rfl, e, rfl, rfl, rfl⟩ | ⟨rfl, e, rfl, rfl, rfl, hev⟩ | ⟨rfl, e, rfl, rfl, hev⟩ | ⟨rfl, e, rfl, rfl, rfl, hn1, hn2⟩ | ⟨rfl, e, rfl, rfl, rfl⟩ <;> rw [e] at ha
    · exact ⟨p, head_cut ha (by omega) d⟩
    · exact ⟨p, head_cut ha (by omega) d⟩
    · rcases ha.app with h1 | ⟨h1, h2⟩
      · exact ⟨p, head_cut h1 (by omega) d⟩
      · have hl := h2.len
        rw [headB_len] at hl
        refine ⟨p, ?_⟩
        rw [read_head h1 (by omega) (small _ (by omega))]
        unfold behQ
        rw [if_neg (by omega), if_neg (need_fine _), if_neg (by omega), if_neg (by omega), if_pos (.inl rfl)]
        unfold rowQ
        rw [if_pos (by omega)]
    · rcases ha.app with h1 | ⟨h1, h2⟩
      · exact ⟨p, head_cut h1 (by omega) d⟩
      · have hl := h2.len
        rw [headB_len, sl_len] at hl
        refine ⟨p, ?_⟩
        rw [read_head h1 (by omega) (small _ (by omega))]
        unfold behQ
        rw [if_neg (by omega), if_neg (need_fine _), if_neg (by omega), if_neg (by omega), if_pos (.inr rfl)]
        unfold rowQ
        rw [if_pos (by omega)]
    · rcases ha.app with h1 | ⟨h1, h3⟩
      · exact ⟨p, head_cut h1 (by omega) d⟩
      · rw [headB_len] at h3
        obtain ⟨a, h4⟩ := hkk _ h3
        refine ⟨a, ?_⟩
        rw [read_head h1 (by omega) (small _ (by omega))]
        unfold behQ
        rw [if_neg (by omega), if_neg (need_fine _), if_neg (by omega), if_neg (by omega), if_neg (by omega), if_pos rfl]
        rw [show p + 1 + needN f.len = p + (1 + needN f.len) from by omega, h4, withKids_err]
    · rcases ha.app with h1 | ⟨h1, h3⟩
      · exact ⟨p, head_cut h1 (by omega) d⟩
      · rw [headB_len] at h3
        obtain ⟨a, h4⟩ := hkk _ h3
        refine ⟨a, ?_⟩
        rw [read_head h1 (by omega) (small _ (by omega))]
        unfold behQ
        rw [if_neg (by omega), if_neg (need_fine _), if_neg (by omega), if_neg (by omega), if_neg (by omega), if_neg (by omega), if_pos rfl]
        rw [show p + 1 + needN (f.len / 2) = p + (1 + needN (f.len / 2)) from by omega, show f.len / 2 * 2 = f.len from by omega, h4, withKids_err]
    · rcases ha.app with h1 | ⟨h1, h3⟩
      · exact ⟨p, head_cut h1 (by omega) d⟩
      · rw [headB_len] at h3
        obtain ⟨a, h4⟩ := hkk _ h3
        refine ⟨a, ?_⟩
        rw [read_head h1 (by omega) ho.1]
        unfold behQ
        rw [if_neg (by omega), if_neg (need_fine _), if_neg (by omega), if_neg (by omega), if_neg (by omega), if_neg (by omega), if_neg (by omega)]
        rw [hev] at h4
        rw [show p + 1 + needN n = p + (1 + needN n) from by omega, h4, withKids_err]
    · exact ⟨p, head_cut ha (by omega) d⟩
    · exact ⟨p, float_cut ha d⟩
theorem kids_cutI : ∀ (f : IL), errIs f = 0 → okIs f → f.wt ≤ 100000 → ∀ (b : List UInt8) (p d : Nat), Cut b p (layIs f) → nestIs f ≤ d → ∃ a, kidsW (readQ b d) f.len p = .error (2, a)
  | .nil, _, _, _, b, p, d, ha, _ => by obtain ⟨u, k, _, _, hk⟩ := ha; simp [layIs] at hk
  | .cons x r, he, ho, hw, b, p, d, ha, hd => by
    obtain ⟨h1, h2⟩ := errIs_cons he
    simp only [okIs] at ho
    simp only [IL.wt] at hw
    simp only [nestIs] at hd
    simp only [layIs] at ha
    simp only [IL.len, kidsW]
    rcases ha.app with h3 | ⟨h3, h4⟩
    · obtain ⟨a, e⟩ := read_cutI x h1 ho.1 (by omega) b p d h3 (by omega)
      exact ⟨a, by rw [e]; rfl⟩
    · rw [read_lay x h1 ho.1 (by omega) b p d h3 (by omega)]
      obtain ⟨a, e⟩ := kids_cutI r h2 ho.2 (by omega) b _ d h4 (by omega)
      exact ⟨a, by simp only [thenKids]; rw [e]; rfl⟩
end

end Go.Proofs.Ytambhapgjonmmaa

namespace Go.Proofs.Ytambhapgjonmmaa
set_option linter.unusedVariables false
set_option linter.unusedSimpArgs false

theorem seg_one28 (b : List UInt8) (p : Nat) (h : p < b.length) : seg b p 1 = [UInt8.ofNat (bAt b p)] := by
  simp only [seg]
  rw [drop_getD _ 0 _ h]
  simp [bAt]
theorem head_seg {b : List UInt8} {p m low : Nat} (hm : m = bAt b p / 32) (hlw : low = bAt b p % 32) (h27 : low ≤ 27) (hl : p + 1 + sizeL low ≤ b.length) (hnd : 24 ≤ low → needN (numL b p low) = wideB low) :
    headB m (numL b p low) = seg b p (1 + sizeL low) := by
  have hb := bAt_lt b p
  rw [seg_add28, seg_one28 b p (by omega)]
  by_cases h24 : 24 ≤ low
  · have e := hnd h24
    have e1 : sizeL low = wideB low := if_neg (by omega)
    have e2 : numL b p low = be (seg b (p + 1) (wideB low)) := if_neg (by omega)
    have e3 := (need_back _ low h24 h27 e).1
    unfold headB
    rw [e3, e, e1, show 32 * m + low = bAt b p from by omega]
    rw [e1] at hl
    have hs := seg_length b (p + 1) (wideB low) hl
    obtain ⟨S, hS⟩ : ∃ S, S = seg b (p + 1) (wideB low) := ⟨_, rfl⟩
    rw [← hS] at hs e2
    rw [e2, ← hS]
    have := leBytes_le S.reverse
    rw [List.length_reverse, hs] at this
    unfold be
    rw [this, List.reverse_reverse]
    rfl
  · have e1 : sizeL low = 0 := if_pos (by omega)
    have e2 : numL b p low = low := if_pos (by omega)
    have e3 := (need_code low).2.2 (by omega)
    unfold headB
    rw [e2, e3.1, e3.2, e1, show 32 * m + low = bAt b p from by omega]
    simp [leBytes, seg]
theorem float_seg {b : List UInt8} {p : Nat} (h : bAt b p = 251) (hl : p + 9 ≤ b.length) : 251 :: (leBytes 8 (numL b p 27)).reverse = seg b p 9 := by
  rw [show (9 : Nat) = 1 + 8 from rfl, seg_add28, seg_one28 b p (by omega), h]
  have e2 : numL b p 27 = be (seg b (p + 1) 8) := rfl
  have hs := seg_length b (p + 1) 8 (by omega)
  obtain ⟨S, hS⟩ : ∃ S, S = seg b (p + 1) 8 := ⟨_, rfl⟩
  rw [← hS] at hs e2
  rw [e2, ← hS]
  have := leBytes_le S.reverse
  rw [List.length_reverse, hs] at this
  unfold be
  rw [this, List.reverse_reverse]
  rfl
theorem err_mk {k : Int} {n : Nat} {bs : List UInt8} {t : ByteArray} {f : IL} (hk : 1 ≤ k ∧ k ≤ 9) (hf : fieldsB k n bs.length t.size f.len = true) (ht : wholeTo (sl t) = t.size) : errI (.mk k n bs t f) = errIs f := by
  simp only [errI]
  rw [if_neg (by omega), if_neg (by rw [hf]; simp), if_neg (by rw [ht]; simp)]

/-- What is told of an item that was read. -/
def Just (b : List UInt8) (d p : Nat) (x : I) (q : Nat) : Prop := errI x = 0 ∧ okI x ∧ layI x = seg b p (q - p) ∧ nestI x ≤ d ∧ p ≤ q ∧ q ≤ b.length
def Justs (b : List UInt8) (d p : Nat) (f : IL) (q : Nat) : Prop := errIs f = 0 ∧ okIs f ∧ layIs f = seg b p (q - p) ∧ nestIs f ≤ d ∧ p ≤ q ∧ q ≤ b.length
theorem seg_join {b : List UInt8} {p q r : Nat} (h1 : p ≤ q) (h2 : q ≤ r) : seg b p (r - p) = seg b p (q - p) ++ seg b q (r - q) := by
  have := seg_add28 b p (q - p) (r - q)
  rw [show q - p + (r - q) = r - p from by omega, show p + (q - p) = q from by omega] at this
  exact this
theorem kids_just {b : List UInt8} {d : Nat} {rd : Nat → Rs I} (hr : ∀ p x q, p ≤ b.length → rd p = .ok (x, q) → Just b d p x q) : ∀ (n p : Nat) (f : IL) (q : Nat), p ≤ b.length → kidsW rd n p = .ok (f, q) → f.len = n ∧ Justs b d p f q
  | 0, p, f, q, hp, h => by
    simp only [kidsW, Except.ok.injEq, Prod.mk.injEq] at h
    obtain ⟨rfl, rfl⟩ := h
    exact ⟨rfl, rfl, trivial, by simp [layIs, seg], by simp [nestIs], Nat.le_refl _, hp⟩
  | n + 1, p, f, q, hp, h => by
    simp only [kidsW] at h
    cases hR : rd p with
    | error e => rw [hR] at h; simp [thenKids] at h
    | ok y =>
      obtain ⟨x, t⟩ := y
      rw [hR] at h
      simp only [thenKids] at h
      obtain ⟨j1, j2, j3, j4, j5, j6⟩ := hr p x t hp hR
      cases hK : kidsW rd n t with
      | error e => rw [hK] at h; simp [andKid] at h
      | ok z =>
        obtain ⟨g, u⟩ := z
        rw [hK] at h
        simp only [andKid, Except.ok.injEq, Prod.mk.injEq] at h
        obtain ⟨rfl, rfl⟩ := h
        obtain ⟨k0, k1, k2, k3, k4, k5, k6⟩ := kids_just hr n t g u j6 hK
        refine ⟨by simp only [IL.len]; omega, ?_, ⟨j2, k2⟩, ?_, ?_, by omega, k6⟩
        · simp only [errIs]
          rw [if_neg (by omega)]; exact k1
        · simp only [layIs]
          rw [j3, k3, ← seg_join j5 k5]
        · simp only [nestIs]; omega
theorem withKids_inv {k : Int} {n : Nat} {R : Rs IL} {x : I} {q : Nat} (h : withKids k n R = .ok (x, q)) : ∃ f, R = .ok (f, q) ∧ x = .mk k n [] ⟨#[]⟩ f := by
  cases R with
  | error e => simp [withKids] at h
  | ok y =>
    obtain ⟨f, t⟩ := y
    simp only [withKids, Except.ok.injEq, Prod.mk.injEq] at h
    exact ⟨f, by rw [h.2], h.1.symm⟩
theorem wholeNil : wholeTo (sl ⟨#[]⟩) = ByteArray.size ⟨#[]⟩ := rfl
theorem even_not (f n : Nat) (h : f = n * 2) : (f % 2 == 0) = true := by simp; omega

theorem read_just (b : List UInt8) : ∀ (d p : Nat) (x : I) (q : Nat), p ≤ b.length → readQ b d p = .ok (x, q) → Just b d p x q
  | 0, p, x, q, _, h => by simp [readQ] at h
  | d + 1, p, x, q, hp, h => by
    rw [readQ] at h
    by_cases h1 : b.length ≤ p
    · rw [if_pos h1] at h; simp at h
    rw [if_neg h1] at h
    by_cases h2 : 27 < bAt b p % 32
    · rw [if_pos h2] at h; simp at h
    rw [if_neg h2] at h
    by_cases h3 : b.length < p + 1 + sizeL (bAt b p % 32)
    · rw [if_pos h3] at h; simp at h
    rw [if_neg h3] at h
    have hb := bAt_lt b p
    obtain ⟨m, hm⟩ : ∃ m, m = bAt b p / 32 := ⟨_, rfl⟩
    obtain ⟨low, hlw⟩ : ∃ l, l = bAt b p % 32 := ⟨_, rfl⟩
    rw [← hm, ← hlw] at h
    rw [← hlw] at h2 h3
    have hn9 := numL_lt b p low (by omega) (by omega)
    have hsz : sizeL 27 = 8 := rfl
    unfold behQ at h
    by_cases h7 : m = 7
    · rw [if_pos h7] at h
      by_cases h27 : low = 27
      · rw [if_pos h27] at h
        simp only [Except.ok.injEq, Prod.mk.injEq] at h
        obtain ⟨rfl, rfl⟩ := h
        subst h27
        rw [hsz] at h3
        refine ⟨(err_mk (by omega) rfl wholeNil).trans rfl, ⟨hn9, trivial⟩, ?_, by simp [nestI, nestIs], by omega, by rw [hsz]; omega⟩
        have e := float_seg (b := b) (p := p) (by omega) (by omega)
        rw [hsz, show p + 1 + 8 - p = 9 from by omega, ← e]
        simp [layI, layIs]
      rw [if_neg h27] at h
      by_cases h20 : 20 ≤ low ∧ low ≤ 23
      · rw [if_pos h20] at h
        simp only [Except.ok.injEq, Prod.mk.injEq] at h
        obtain ⟨rfl, rfl⟩ := h
        have e := head_seg hm hlw (by omega) (by omega) (fun h => by omega)
        have en : numL b p low = low := if_pos (by omega)
        rw [en] at hn9 e ⊢
        refine ⟨(err_mk (by omega) ?_ wholeNil).trans rfl, ⟨hn9, trivial⟩, ?_, by simp [nestI, nestIs], by omega, by omega⟩
        · simp [fieldsB, IL.len, h20]; rfl
        · rw [show p + 1 + sizeL low - p = 1 + sizeL low from by omega, ← e, h7]
          simp [layI, layIs]
      · rw [if_neg h20] at h; simp at h
    rw [if_neg h7] at h
    by_cases hnd : 24 ≤ low ∧ needN (numL b p low) ≠ wideB low
    · rw [if_pos hnd] at h; simp at h
    rw [if_neg hnd] at h
    have e := head_seg hm hlw (by omega) (by omega) (fun h => Classical.byContradiction fun h' => hnd ⟨h, h'⟩)
    obtain ⟨n, hn⟩ : ∃ n, n = numL b p low := ⟨_, rfl⟩
    rw [← hn] at h e hn9
    have hes : ∀ r, p + 1 + sizeL low ≤ r → r ≤ b.length → seg b p (r - p) = headB m n ++ seg b (p + 1 + sizeL low) (r - (p + 1 + sizeL low)) := fun r h1 h2 => by
      rw [e]
      have := seg_join (b := b) (p := p) (q := p + 1 + sizeL low) (r := r) (by omega) h1
      rw [this, show p + 1 + sizeL low - p = 1 + sizeL low from by omega]
    have hkj := fun k q' f h => kids_just (b := b) (d := d) (rd := readQ b d) (fun p x q hp h => read_just b d p x q hp h) k (p + 1 + sizeL low) f q' (by omega) h
    by_cases m0 : m = 0
    · rw [if_pos m0] at h
      simp only [Except.ok.injEq, Prod.mk.injEq] at h
      obtain ⟨rfl, rfl⟩ := h
      refine ⟨(err_mk (by omega) rfl wholeNil).trans rfl, ⟨hn9, trivial⟩, ?_, by simp [nestI, nestIs], by omega, by omega⟩
      rw [show p + 1 + sizeL low - p = 1 + sizeL low from by omega, ← e, m0]
      simp [layI, layIs]
    rw [if_neg m0] at h
    by_cases m1 : m = 1
    · rw [if_pos m1] at h
      simp only [Except.ok.injEq, Prod.mk.injEq] at h
      obtain ⟨rfl, rfl⟩ := h
      refine ⟨(err_mk (by omega) rfl wholeNil).trans rfl, ⟨hn9, trivial⟩, ?_, by simp [nestI, nestIs], by omega, by omega⟩
      rw [show p + 1 + sizeL low - p = 1 + sizeL low from by omega, ← e, m1]
      simp [layI, layIs]
    rw [if_neg m1] at h
    by_cases m23 : m = 2 ∨ m = 3
    · rw [if_pos m23] at h
      unfold rowQ at h
      by_cases hs : b.length < p + 1 + sizeL low + n
      · rw [if_pos hs] at h; simp at h
      rw [if_neg hs] at h
      have hsl := seg_length b (p + 1 + sizeL low) n (by omega)
      have hss := hes (p + 1 + sizeL low + n) (by omega) (by omega)
      rw [show p + 1 + sizeL low + n - (p + 1 + sizeL low) = n from by omega] at hss
      by_cases m2 : m = 2
      · rw [if_pos m2] at h
        simp only [Except.ok.injEq, Prod.mk.injEq] at h
        obtain ⟨rfl, rfl⟩ := h
        refine ⟨(err_mk (by omega) rfl wholeNil).trans rfl, ⟨by decide, trivial⟩, ?_, by simp [nestI, nestIs], by omega, by omega⟩
        rw [hss, m2]
        simp [layI, layIs, hsl]
      · rw [if_neg m2] at h
        split at h
        · simp at h
        rename_i hwh
        simp only [Except.ok.injEq, Prod.mk.injEq] at h
        obtain ⟨rfl, rfl⟩ := h
        have hts : (txt (seg b (p + 1 + sizeL low) n)).size = n := by rw [txt_size, hsl]
        refine ⟨(err_mk (by omega) ?_ ?_).trans rfl, ⟨by decide, trivial⟩, ?_, by simp [nestI, nestIs], by omega, by omega⟩
        · rfl
        · rw [sl_txt, hts]; simpa using hwh
        · rw [hss, show m = 3 from by omega]
          simp [layI, layIs, hts, sl_txt]
    rw [if_neg m23] at h
    by_cases m4 : m = 4
    · rw [if_pos m4] at h
      obtain ⟨f, hf, rfl⟩ := withKids_inv h
      obtain ⟨k0, k1, k2, k3, k4, k5, k6⟩ := hkj _ _ _ hf
      refine ⟨(err_mk (by omega) rfl wholeNil).trans k1, ⟨by decide, k2⟩, ?_, by simp only [nestI]; omega, by omega, k6⟩
      rw [hes q k5 k6, ← k3, m4]
      simp [layI, k0]
    rw [if_neg m4] at h
    by_cases m5 : m = 5
    · rw [if_pos m5] at h
      obtain ⟨f, hf, rfl⟩ := withKids_inv h
      obtain ⟨k0, k1, k2, k3, k4, k5, k6⟩ := hkj _ _ _ hf
      refine ⟨(err_mk (by omega) ?_ wholeNil).trans k1, ⟨by decide, k2⟩, ?_, by simp only [nestI]; omega, by omega, k6⟩
      · simp [fieldsB, k0]; rfl
      · rw [hes q k5 k6, ← k3, m5]
        simp [layI, k0]
    rw [if_neg m5] at h
    obtain ⟨f, hf, rfl⟩ := withKids_inv h
    obtain ⟨k0, k1, k2, k3, k4, k5, k6⟩ := hkj _ _ _ hf
    refine ⟨(err_mk (by omega) ?_ wholeNil).trans k1, ⟨hn9, k2⟩, ?_, by simp only [nestI]; omega, by omega, k6⟩
    · simp [fieldsB, k0]; rfl
    · rw [hes q k5 k6, ← k3, show m = 6 from by omega]
      simp [layI]

mutual
/-- An item is not heavier than twice its bytes. -/
theorem wt_lay : ∀ x : I, errI x = 0 → x.wt ≤ 2 * (layI x).length
  | .mk k n bs t f, he => by
    have h2 := wts_lay f (fields_of he).1
    have e1 : ∀ m n, 1 ≤ (headB m n).length := fun m n => by rw [headB_len]; omega
    have hsl := sl_len t
    rcases lay_eq k n bs t f he with ⟨rfl, e, rfl, rfl, rfl⟩ | ⟨rfl, e, rfl, rfl, rfl⟩ | ⟨rfl, e, rfl, rfl, rfl⟩ | ⟨rfl, e, rfl, rfl, rfl, hwh⟩ | ⟨rfl, e, rfl, rfl, rfl⟩ | ⟨rfl, e, rfl, rfl, rfl, hev⟩ | ⟨rfl, e, rfl, rfl, hev⟩ | ⟨rfl, e, rfl, rfl, rfl, hn1, hn2⟩ | ⟨rfl, e, rfl, rfl, rfl⟩ <;> rw [e] <;> simp only [I.wt, IL.wt, List.length_append, List.length_nil, List.length_cons]
    · have := e1 0 n; have : ByteArray.size ⟨#[]⟩ = 0 := rfl; omega
    · have := e1 1 n; have : ByteArray.size ⟨#[]⟩ = 0 := rfl; omega
    · have := e1 2 bs.length; have : ByteArray.size ⟨#[]⟩ = 0 := rfl; omega
    · have := e1 3 t.size; omega
    · have := e1 4 f.len; have : ByteArray.size ⟨#[]⟩ = 0 := rfl; omega
    · have := e1 5 (f.len / 2); have : ByteArray.size ⟨#[]⟩ = 0 := rfl; omega
    · have := e1 6 n; have : ByteArray.size ⟨#[]⟩ = 0 := rfl; omega
    · have := e1 7 n; have : ByteArray.size ⟨#[]⟩ = 0 := rfl; omega
    · have : ByteArray.size ⟨#[]⟩ = 0 := rfl; omega
theorem wts_lay : ∀ f : IL, errIs f = 0 → f.wt ≤ 2 * (layIs f).length
  | .nil, _ => by simp [IL.wt]
  | .cons x r, he => by
    obtain ⟨h1, h2⟩ := errIs_cons he
    have := wt_lay x h1
    have := wts_lay r h2
    simp only [IL.wt, layIs, List.length_append]
    omega
end

/-- Decode takes just an item's bytes. -/
theorem dec_just {b : List UInt8} {dp : Int} {x : I} {q : Nat} (h : decQ b dp = .ok (x, q)) : errI x = 0 ∧ layI x = b ∧ (nestI x : Int) ≤ dp ∧ x.wt ≤ 2 * b.length := by
  unfold decQ at h
  split at h
  · simp at h
  cases hR : readQ b dp.toNat 0 with
  | error e => rw [hR] at h; simp at h
  | ok y =>
    obtain ⟨z, t⟩ := y
    rw [hR] at h
    simp only at h
    split at h
    · simp at h
    simp only [Except.ok.injEq, Prod.mk.injEq] at h
    obtain ⟨rfl, rfl⟩ := h
    obtain ⟨j1, j2, j3, j4, j5, j6⟩ := read_just b _ 0 z t (Nat.zero_le _) hR
    have e : layI z = b := by
      rw [j3, show t - 0 = b.length from by omega]
      simp [seg]
    refine ⟨j1, e, by omega, ?_⟩
    have := wt_lay z j1
    rw [e] at this
    exact this
theorem dec_bad {b : List UInt8} {dp : Int} {x a : Nat} (h : decQ b dp = .error (x, a)) : (1 ≤ x ∧ x ≤ 10) ∧ a ≤ b.length := by
  unfold decQ at h
  split at h
  · simp only [Except.error.injEq, Prod.mk.injEq] at h
    omega
  have hf := readQ_fine b dp.toNat 0 (Nat.zero_le _)
  cases hR : readQ b dp.toNat 0 with
  | error e =>
    rw [hR] at h hf
    simp only [Except.error.injEq] at h
    subst h
    exact ⟨hf.1, hf.2.1⟩
  | ok y =>
    obtain ⟨z, t⟩ := y
    rw [hR] at h hf
    simp only at h
    split at h
    · simp only [Except.error.injEq, Prod.mk.injEq] at h
      have := hf.2
      omega
    · simp at h
theorem at_all (b v : List UInt8) : At (b ++ v) 0 b := ⟨[], v, rfl, rfl⟩
/-- An item's own bytes are read. -/
theorem dec_lay {x : I} (he : errI x = 0) (ho : okI x) (hw : x.wt ≤ 2000) : decQ (layI x) (nestI x : Nat) = .ok (x, (layI x).length) := by
  have hn := nestI_wt x
  unfold decQ
  rw [if_neg (by omega), Int.toNat_natCast]
  have h := read_lay x he ho (by omega) (layI x) 0 (nestI x) (by have := at_all (layI x) []; rwa [List.append_nil] at this) (Nat.le_refl _)
  rw [h]
  simp only [Nat.zero_add]
  rw [if_neg (by omega)]
theorem dec_deep {x : I} (he : errI x = 0) (ho : okI x) (hw : x.wt ≤ 2000) : ∃ a, decQ (layI x) ((nestI x : Int) - 1) = .error (8, a) := by
  have hn := nestI_wt x
  have hp := nest_pos x
  obtain ⟨a, h⟩ := read_deep x he ho (by omega) (layI x) 0 (nestI x - 1) (by have := at_all (layI x) []; rwa [List.append_nil] at this) (by omega)
  refine ⟨a, ?_⟩
  unfold decQ
  rw [if_neg (by omega), show ((nestI x : Int) - 1).toNat = nestI x - 1 from by omega, h]
theorem dec_cut {x : I} (he : errI x = 0) (ho : okI x) (hw : x.wt ≤ 2000) (k : Nat) (hk : k < (layI x).length) : ∃ a, decQ ((layI x).take k) 1000 = .error (2, a) := by
  have hn := nestI_wt x
  obtain ⟨a, h⟩ := read_cutI x he ho (by omega) ((layI x).take k) 0 1000 ⟨[], k, rfl, rfl, hk⟩ (by omega)
  refine ⟨a, ?_⟩
  unfold decQ
  rw [if_neg (by omega), show ((1000 : Int)).toNat = 1000 from rfl, h]
theorem dec_more {x : I} (he : errI x = 0) (ho : okI x) (hw : x.wt ≤ 2000) (y : UInt8) : decQ (layI x ++ [y]) 1000 = .error (7, (layI x).length) := by
  have hn := nestI_wt x
  have h := read_lay x he ho (by omega) (layI x ++ [y]) 0 1000 (at_all (layI x) [y]) (by omega)
  unfold decQ
  rw [if_neg (by omega), show ((1000 : Int)).toNat = 1000 from rfl, h]
  simp only [Nat.zero_add]
  rw [if_pos (by simp)]
theorem lay_pos {x : I} (he : errI x = 0) : 1 ≤ (layI x).length := by
  have := wt_lay x he
  have := I.wt_pos x
  omega

end Go.Proofs.Ytambhapgjonmmaa
