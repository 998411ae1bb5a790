/- The text that a byte 0 ends, plainly; the number of four bytes. What bytes are, plainly: the document, or the first error and its place; what is read is written as those bytes; what is written is read. Bytes of trees, plainly: how many, unlike ones of unlike trees; trees that are alike are one. -/
import Derived.Test.YtkcfkdmffbhljaaMD
import Derived.Test.YtkcfkdmffbhljaaMU
import Derived.Test.YtkcfkdmffbhljaaMN
import Derived.Test.YtkcfkdmffbhljaaMT
import Derived.Test.YtkcfkdmffbhljaaMG
import Derived.Test.YtkcfkdmffbhljaaBoK
import Derived.Test.YtkcfkdmffbhljaaBoG
namespace Go.Proofs.Ytkcfkdmffbhljaa
set_option linter.unusedVariables false
set_option linter.unusedSimpArgs false

/-- The text that a byte 0 ends, the place behind it, the error. -/
def cText (l : List UInt8) (p : Nat) : List UInt8 × Nat × Nat :=
  let z := zeroIn (l.drop p)
  if l.length < p then ([], 0, 1) else if p + z = l.length then ([], 0, 2) else if wholeTo ((l.drop p).take z) = z then ((l.drop p).take z, p + z + 1, 0) else ([], 0, 4)

/-- The number of four bytes, with its sign. -/
def len4 (l : List UInt8) (p : Nat) : Int := if le (seg l p 4) < 2147483648 then (le (seg l p 4) : Int) else (le (seg l p 4) : Int) - 4294967296

theorem txt_nil : txt [] = ByteArray.empty := rfl

end Go.Proofs.Ytkcfkdmffbhljaa

namespace Go.Proofs.Ytkcfkdmffbhljaa
set_option linter.unusedVariables false
set_option linter.unusedSimpArgs false

theorem toList_sl (s : ByteArray) : s.toList = sl s := by rw [ByteArray.toList_eq]; rfl
/-- What is asked of bytes: a document, its elements from a place on, a value. -/
inductive Ask where
  | doc (p z win how : Nat)
  | els (at' last win : Nat)
  | val (k q z win : Nat)
/-- What is told: Kids or a value and the place behind; or the first error and its place. -/
inductive Ans where
  | kids (f : F) (next : Nat)
  | val (t : T) (next : Nat)
  | bad (e at' : Nat)

def nt : ByteArray := ⟨#[]⟩
/-- A text with its length: the text and the place behind, or the error and its place. -/
def textQ (b : List UInt8) (q z : Nat) : Except (Nat × Nat) (List UInt8 × Nat) :=
  if z < q + 4 then .error (2, q) else
  if len4 b q < 1 ∨ (z : Int) - q - 4 < len4 b q then .error (6, q) else
  if bAt b (q + 4 + (len4 b q).toNat - 1) ≠ 0 then .error (3, q + 4 + (len4 b q).toNat - 1) else
  if wholeTo (seg b (q + 4) ((len4 b q).toNat - 1)) ≠ (len4 b q).toNat - 1 then .error (4, q + 4) else .ok (seg b (q + 4) ((len4 b q).toNat - 1), q + 4 + (len4 b q).toNat)
/-- A text that a byte 0 ends. -/
def endQ (b : List UInt8) (q z : Nat) : Except (Nat × Nat) (List UInt8 × Nat) :=
  if (cText (b.take z) q).2.2 ≠ 0 then .error ((cText (b.take z) q).2.2, q) else .ok ((cText (b.take z) q).1, (cText (b.take z) q).2.1)
/-- A Sub, its bytes, the place behind. -/
def binQ (b : List UInt8) (q z : Nat) : Except (Nat × Nat) (Nat × List UInt8 × Nat) :=
  if z < q + 5 then .error (2, q) else
  if len4 b q < 0 ∨ (z : Int) - q - 5 < len4 b q then .error (6, q) else
  if bAt b (q + 4) = 2 then (if len4 b q < 4 ∨ len4 b (q + 5) ≠ len4 b q - 4 then .error (6, q + 5) else .ok (2, seg b (q + 9) ((len4 b q).toNat - 4), q + 5 + (len4 b q).toNat)) else
  .ok (bAt b (q + 4), seg b (q + 5) (len4 b q).toNat, q + 5 + (len4 b q).toNat)
def fixN (k : Nat) : Nat := if k = 1 ∨ k = 9 ∨ k = 17 ∨ k = 18 then 8 else if k = 16 then 4 else if k = 8 then 1 else if k = 19 then 16 else if k = 7 then 12 else 0
/-- A value without Kids. -/
def leafQ (b : List UInt8) (k q z : Nat) : Ans :=
  if z < q + fixN k then .bad 2 q else
  if k = 1 ∨ k = 9 ∨ k = 17 ∨ k = 18 ∨ k = 16 ∨ k = 8 then (if k = 8 ∧ 1 < le (seg b q (fixN k)) then .bad 3 q else .val (.mk k (le (seg b q (fixN k))) 0 0 nt nt 0 [] .nil) (q + fixN k)) else
  if k = 19 then .val (.mk k 0 (le (seg b (q + 8) 8)) (le (seg b q 8)) nt nt 0 [] .nil) (q + 16) else
  if k = 7 then .val (.mk k 0 0 0 nt nt 0 (seg b q 12) .nil) (q + 12) else
  if k = 2 ∨ k = 13 ∨ k = 14 then (match textQ b q z with | .error (e, a) => .bad e a | .ok (s, n) => .val (.mk k 0 0 0 (txt s) nt 0 [] .nil) n) else
  if k = 12 then (match textQ b q z with | .error (e, a) => .bad e a | .ok (s, n) => if z < n + 12 then .bad 2 n else .val (.mk k 0 0 0 (txt s) nt 0 (seg b n 12) .nil) (n + 12)) else
  if k = 11 then (match endQ b q z with | .error (e, a) => .bad e a | .ok (s, n) => match endQ b n z with | .error (e, a) => .bad e a | .ok (m, n2) => .val (.mk k 0 0 0 (txt s) (txt m) 0 [] .nil) n2) else
  if k = 5 then (match binQ b q z with | .error (e, a) => .bad e a | .ok (sub, l, n) => .val (.mk k 0 0 0 nt nt sub l .nil) n) else
  .val (.mk k 0 0 0 nt nt 0 [] .nil) q
/-- A document's head: where its last byte is. -/
def docH (b : List UInt8) (deep p z win how : Nat) : Except (Nat × Nat) Nat :=
  if deep ≤ win then .error (8, p) else
  if z < p + 4 then .error (2, p) else
  if len4 b p < 5 ∨ (z : Int) - p < len4 b p ∨ (how = 2 ∧ (p : Int) + len4 b p ≠ z) then .error (6, p) else
  if how = 1 ∧ (p : Int) + len4 b p < z then .error (7, p + (len4 b p).toNat) else .ok (p + (len4 b p).toNat - 1)
/-- An element's head: its Name, its Kind, where its value is; or the end, or the error. -/
def elsH (b : List UInt8) (at' last : Nat) : Except Ans (ByteArray × Nat × Nat) :=
  if at' = last then .error (if bAt b at' ≠ 0 then .bad 3 at' else .kids .nil (last + 1)) else
  if bAt b at' = 0 then .error (.bad 3 at') else
  if knownK (bAt b at') = false then .error (.bad 5 at') else
  match endQ b (at' + 1) last with
  | .error (e, a) => .error (.bad e a)
  | .ok (s, n) => .ok (txt s, bAt b at', n)
/-- A code's head: the code, where its scope is, and where it ends. -/
def scoH (b : List UInt8) (q z : Nat) : Except (Nat × Nat) (List UInt8 × Nat × Nat) :=
  if z < q + 4 then .error (2, q) else
  if len4 b q < 14 ∨ (z : Int) - q < len4 b q then .error (6, q) else
  match textQ b (q + 4) (q + (len4 b q).toNat) with
  | .error e => .error e
  | .ok (s, n) => .ok (s, n, q + (len4 b q).toNat)
def preA (n : ByteArray) (t : T) : Ans → Ans
  | .kids f e => .kids (.cons n t f) e
  | r => r
def mkA (k : Nat) (s : ByteArray) : Ans → Ans
  | .kids f e => .val (.mk k 0 0 0 s nt 0 [] f) e
  | r => r

/-- What bytes are. -/
inductive Q (b : List UInt8) (deep : Nat) : Ask → Ans → Prop
  | doc_bad {p z win how e a} : docH b deep p z win how = .error (e, a) → Q b deep (.doc p z win how) (.bad e a)
  | doc_go {p z win how last r} : docH b deep p z win how = .ok last → Q b deep (.els (p + 4) last win) r → Q b deep (.doc p z win how) r
  | els_end {at' last win r} : elsH b at' last = .error r → Q b deep (.els at' last win) r
  | els_bad {at' last win n k q e a} : elsH b at' last = .ok (n, k, q) → Q b deep (.val k q last win) (.bad e a) → Q b deep (.els at' last win) (.bad e a)
  | els_go {at' last win n k q t nx r} : elsH b at' last = .ok (n, k, q) → Q b deep (.val k q last win) (.val t nx) → Q b deep (.els nx last win) r → Q b deep (.els at' last win) (preA n t r)
  | val_leaf {k q z win} : k ≠ 3 → k ≠ 4 → k ≠ 15 → Q b deep (.val k q z win) (leafQ b k q z)
  | val_doc {k q z win r} : k = 3 ∨ k = 4 → Q b deep (.doc q z (win + 1) 0) r → Q b deep (.val k q z win) (mkA k nt r)
  | val_bad {q z win e a} : scoH b q z = .error (e, a) → Q b deep (.val 15 q z win) (.bad e a)
  | val_sco {q z win s p zz r} : scoH b q z = .ok (s, p, zz) → Q b deep (.doc p zz (win + 1) 2) r → Q b deep (.val 15 q z win) (mkA 15 (txt s) r)

theorem leafQ_kids (b : List UInt8) (k q z : Nat) (f : F) (e : Nat) : leafQ b k q z ≠ .kids f e := by
  unfold leafQ
  repeat' split
  all_goals simp

/-- It is one thing. -/
theorem Q.one {b : List UInt8} {deep : Nat} {a : Ask} {r s : Ans} (h : Q b deep a r) (g : Q b deep a s) : r = s := by
  induction h generalizing s with
  | doc_bad h1 => cases g with
    | doc_bad h2 => rw [h1] at h2; simp only [Except.error.injEq, Prod.mk.injEq] at h2; rw [h2.1, h2.2]
    | doc_go h2 _ => rw [h1] at h2; simp at h2
  | doc_go h1 _ ih => cases g with
    | doc_bad h2 => rw [h1] at h2; simp at h2
    | doc_go h2 h3 => rw [h1] at h2; simp only [Except.ok.injEq] at h2; subst h2; exact ih h3
  | els_end h1 => cases g with
    | els_end h2 => rw [h1] at h2; simpa using h2
    | els_bad h2 _ => rw [h1] at h2; simp at h2
    | els_go h2 _ _ => rw [h1] at h2; simp at h2
  | els_bad h1 _ ih => cases g with
    | els_end h2 => rw [h1] at h2; simp at h2
    | els_bad h2 h3 => rw [h1] at h2; simp only [Except.ok.injEq, Prod.mk.injEq] at h2; obtain ⟨rfl, rfl, rfl⟩ := h2; exact ih h3
    | els_go h2 h3 _ => rw [h1] at h2; simp only [Except.ok.injEq, Prod.mk.injEq] at h2; obtain ⟨rfl, rfl, rfl⟩ := h2; exact absurd (ih h3) (by simp)
  | els_go h1 _ _ ih ih2 => cases g with
    | els_end h2 => rw [h1] at h2; simp at h2
    | els_bad h2 h3 => rw [h1] at h2; simp only [Except.ok.injEq, Prod.mk.injEq] at h2; obtain ⟨rfl, rfl, rfl⟩ := h2; exact absurd (ih h3) (by simp)
    | els_go h2 h3 h4 =>
      rw [h1] at h2; simp only [Except.ok.injEq, Prod.mk.injEq] at h2; obtain ⟨rfl, rfl, rfl⟩ := h2
      have := ih h3
      simp only [Ans.val.injEq] at this
      obtain ⟨rfl, rfl⟩ := this
      rw [ih2 h4]
  | val_leaf n3 n4 n15 => cases g with
    | val_leaf _ _ _ => rfl
    | val_doc h2 _ => omega
    | val_bad _ => omega
    | val_sco _ _ => omega
  | val_doc h1 _ ih => cases g with
    | val_leaf _ _ _ => omega
    | val_doc h2 h3 => rw [ih h3]
    | val_bad _ => omega
    | val_sco _ _ => omega
  | val_bad h1 => cases g with
    | val_leaf _ _ _ => omega
    | val_doc _ _ => omega
    | val_bad h2 => rw [h1] at h2; simp only [Except.error.injEq, Prod.mk.injEq] at h2; rw [h2.1, h2.2]
    | val_sco h2 _ => rw [h1] at h2; simp at h2
  | val_sco h1 _ ih => cases g with
    | val_leaf _ _ _ => omega
    | val_doc _ _ => omega
    | val_bad h2 => rw [h1] at h2; simp at h2
    | val_sco h2 h3 => rw [h1] at h2; simp only [Except.ok.injEq, Prod.mk.injEq] at h2; obtain ⟨rfl, rfl, rfl⟩ := h2; rw [ih h3]

/-- Where a Q's answers lie. -/
def Bd (b : List UInt8) : Ask → Ans → Prop
  | .val _ q z _, .val _ nx => q ≤ z → z ≤ b.length → q ≤ nx ∧ nx ≤ z
  | .val _ q z _, .bad e a => q ≤ z → z ≤ b.length → q ≤ a ∧ a ≤ z ∧ 2 ≤ e ∧ e ≤ 8
  | .val .., .kids .. => False
  | .els at' last _, .kids _ nx => at' ≤ last → last < b.length → nx = last + 1
  | .els at' last _, .bad e a => at' ≤ last → last < b.length → at' ≤ a ∧ a ≤ last ∧ 2 ≤ e ∧ e ≤ 8
  | .els .., .val .. => False
  | .doc p z _ how, .kids _ nx => p ≤ z → z ≤ b.length → p + 5 ≤ nx ∧ nx ≤ z ∧ (how = 1 ∨ how = 2 → nx = z)
  | .doc p z _ _, .bad e a => p ≤ z → z ≤ b.length → p ≤ a ∧ a ≤ z ∧ 2 ≤ e ∧ e ≤ 8
  | .doc .., .val .. => False

theorem endQ_bd {b : List UInt8} {q z : Nat} (h : q ≤ z) (hz : z ≤ b.length) : (∀ e a, endQ b q z = .error (e, a) → (e = 2 ∨ e = 4) ∧ a = q) ∧ ∀ s n, endQ b q z = .ok (s, n) → q < n ∧ n ≤ z := by
  have hl : (b.take z).length = z := by simp; omega
  have hz2 := zeroIn_le ((b.take z).drop q)
  rw [List.length_drop, hl] at hz2
  constructor
  · intro e a he
    unfold endQ at he
    split at he
    · simp only [Except.error.injEq, Prod.mk.injEq] at he
      obtain ⟨h1, rfl⟩ := he
      refine ⟨?_, rfl⟩
      rw [← h1]
      unfold cText
      simp only [hl]
      rw [if_neg (by omega)]
      split
      · exact .inl rfl
      · split
        · rename_i hne h3 h4
          exfalso
          unfold cText at hne
          simp only [hl] at hne
          rw [if_neg (by omega), if_neg h3, if_pos h4] at hne
          exact hne rfl
        · exact .inr rfl
    · simp at he
  · intro s n he
    unfold endQ at he
    split at he
    · simp at he
    · rename_i h0
      simp only [Except.ok.injEq, Prod.mk.injEq] at he
      obtain ⟨rfl, rfl⟩ := he
      unfold cText at h0 ⊢
      simp only [hl] at h0 ⊢
      rw [if_neg (by omega)] at h0 ⊢
      split at h0
      · simp at h0
      · rename_i h3
        rw [if_neg h3]
        split at h0
        · rename_i h4
          rw [if_pos h4]
          exact ⟨by show q < q + _ + 1; omega, by show q + _ + 1 ≤ z; omega⟩
        · simp at h0
theorem textQ_bd {b : List UInt8} {q z : Nat} (h : q ≤ z) (hz : z ≤ b.length) : (∀ e a, textQ b q z = .error (e, a) → 2 ≤ e ∧ e ≤ 8 ∧ q ≤ a ∧ a ≤ z) ∧ ∀ s n, textQ b q z = .ok (s, n) → q + 5 ≤ n ∧ n ≤ z := by
  constructor
  · intro e a he
    unfold textQ at he
    (repeat' split at he) <;> simp at he <;> omega
  · intro s n he
    unfold textQ at he
    (repeat' split at he) <;> simp at he <;> omega
theorem binQ_bd {b : List UInt8} {q z : Nat} (h : q ≤ z) (hz : z ≤ b.length) : (∀ e a, binQ b q z = .error (e, a) → 2 ≤ e ∧ e ≤ 8 ∧ q ≤ a ∧ a ≤ z) ∧ ∀ s l n, binQ b q z = .ok (s, l, n) → q + 5 ≤ n ∧ n ≤ z := by
  constructor
  · intro e a he
    unfold binQ at he
    (repeat' split at he) <;> simp at he <;> omega
  · intro s l n he
    unfold binQ at he
    (repeat' split at he) <;> simp at he <;> omega
theorem leafQ_bd {b : List UInt8} {k q z win : Nat} : Bd b (.val k q z win) (leafQ b k q z) := by
  by_cases h : q ≤ z
  · by_cases hz : z ≤ b.length
    · have t1 := textQ_bd h hz
      have b1 := binQ_bd h hz
      have e1 := endQ_bd h hz
      unfold leafQ
      have f1 : ∀ k, fixN k ≤ 16 := fun k => by unfold fixN; repeat' split
                                                all_goals omega
      (repeat' split)
      case isTrue => exact fun _ _ => ⟨by omega, h, by omega, by omega⟩
      all_goals first
        | exact fun _ _ => ⟨by omega, by omega, by omega, by omega⟩
        | (have : fixN k = 16 := by rename_i hk; subst hk; rfl
           exact fun _ _ => ⟨by omega, by omega⟩)
        | (have : fixN k = 12 := by rename_i hk; subst hk; rfl
           exact fun _ _ => ⟨by omega, by omega⟩)
        | exact fun _ _ => ⟨by omega, by omega⟩
        | (rename_i hh; have := t1.1 _ _ hh; exact fun _ _ => ⟨by omega, by omega, by omega, by omega⟩)
        | (rename_i hh; have := t1.2 _ _ hh; exact fun _ _ => ⟨by omega, by omega⟩)
        | (rename_i hh _; have := t1.2 _ _ hh; exact fun _ _ => ⟨by omega, by omega, by omega, by omega⟩)
        | (rename_i hh _; have := t1.2 _ _ hh; exact fun _ _ => ⟨by omega, by omega⟩)
        | (rename_i hh; have := e1.1 _ _ hh; exact fun _ _ => ⟨by omega, by omega, by omega, by omega⟩)
        | (rename_i hh; have := b1.1 _ _ hh; exact fun _ _ => ⟨by omega, by omega, by omega, by omega⟩)
        | (rename_i hh; have := b1.2 _ _ _ hh; exact fun _ _ => ⟨by omega, by omega⟩)
        | (rename_i hh _ _ _ hj; have h1 := e1.2 _ _ hh; have h2 := (endQ_bd h1.2 hz).1 _ _ hj; exact fun _ _ => ⟨by omega, by omega, by omega, by omega⟩)
        | (rename_i hh _ _ _ hj; have h1 := e1.2 _ _ hh; have h2 := (endQ_bd h1.2 hz).2 _ _ hj; exact fun _ _ => ⟨by omega, by omega⟩)
    · cases hl : leafQ b k q z with
      | kids f e => exact leafQ_kids _ _ _ _ _ _ hl
      | val t n => exact fun _ x => absurd x hz
      | bad e a => exact fun _ x => absurd x hz
  · cases hl : leafQ b k q z with
    | kids f e => exact leafQ_kids _ _ _ _ _ _ hl
    | val t n => exact fun x _ => absurd x h
    | bad e a => exact fun x _ => absurd x h
theorem docH_bad {b : List UInt8} {deep p z win how e a : Nat} (h : docH b deep p z win how = .error (e, a)) (hp : p ≤ z) : p ≤ a ∧ a ≤ z ∧ 2 ≤ e ∧ e ≤ 8 := by
  unfold docH at h
  (repeat' split at h) <;> simp at h <;> omega
theorem docH_ok {b : List UInt8} {deep p z win how last : Nat} (h : docH b deep p z win how = .ok last) (hz : z ≤ b.length) : win < deep ∧ p + 4 ≤ last ∧ last < z ∧ len4 b p = (last : Int) + 1 - p ∧ (how = 1 ∨ how = 2 → last + 1 = z) := by
  unfold docH at h
  (repeat' split at h) <;> simp at h <;> omega
theorem elsH_bad {b : List UInt8} {at' last : Nat} {r : Ans} (win : Nat) (h : elsH b at' last = .error r) : Bd b (.els at' last win) r := by
  unfold elsH at h
  split at h
  · simp only [Except.error.injEq] at h
    subst h
    split
    · exact fun _ _ => ⟨by omega, by omega, by omega, by omega⟩
    · exact fun _ _ => rfl
  · split at h
    · simp only [Except.error.injEq] at h
      subst h
      exact fun _ _ => ⟨by omega, by omega, by omega, by omega⟩
    · split at h
      · simp only [Except.error.injEq] at h
        subst h
        exact fun _ _ => ⟨by omega, by omega, by omega, by omega⟩
      · split at h
        · rename_i hh
          simp only [Except.error.injEq] at h
          subst h
          intro h1 h2
          have := (endQ_bd (b := b) (q := at' + 1) (z := last) (by omega) (by omega)).1 _ _ hh
          exact ⟨by omega, by omega, by omega, by omega⟩
        · simp at h
theorem elsH_ok {b : List UInt8} {at' last k q : Nat} {n : ByteArray} (h : elsH b at' last = .ok (n, k, q)) : at' ≠ last ∧ bAt b at' ≠ 0 ∧ k = bAt b at' ∧ knownK k = true ∧ endQ b (at' + 1) last = .ok (sl n, q) := by
  unfold elsH at h
  (repeat' split at h) <;> try simp at h
  rename_i h1 h2 h3 _ s m hh
  obtain ⟨rfl, rfl, rfl⟩ := h
  exact ⟨h1, h2, rfl, by simpa using h3, by rw [sl_txt]; exact hh⟩
theorem scoH_bad {b : List UInt8} {q z e a : Nat} (h : scoH b q z = .error (e, a)) (hp : q ≤ z) (hz : z ≤ b.length) : q ≤ a ∧ a ≤ z ∧ 2 ≤ e ∧ e ≤ 8 := by
  unfold scoH at h
  split at h
  · simp at h; omega
  · split at h
    · simp at h; omega
    · split at h
      · rename_i hh
        simp only [Except.error.injEq] at h
        subst h
        have := (textQ_bd (b := b) (q := q + 4) (z := q + (len4 b q).toNat) (by omega) (by omega)).1 _ _ hh
        omega
      · simp at h
theorem scoH_ok {b : List UInt8} {q z n zz : Nat} {s : List UInt8} (h : scoH b q z = .ok (s, n, zz)) (hz : z ≤ b.length) : q + 14 ≤ zz ∧ zz ≤ z ∧ len4 b q = (zz : Int) - q ∧ textQ b (q + 4) zz = .ok (s, n) ∧ q + 9 ≤ n ∧ n ≤ zz := by
  unfold scoH at h
  split at h
  · simp at h
  · split at h
    · simp at h
    · split at h
      · simp at h
      · rename_i hh
        simp only [Except.ok.injEq, Prod.mk.injEq] at h
        obtain ⟨rfl, rfl, rfl⟩ := h
        have := (textQ_bd (b := b) (q := q + 4) (z := q + (len4 b q).toNat) (by omega) (by omega)).2 _ _ hh
        exact ⟨by omega, by omega, by omega, hh, by omega, by omega⟩

theorem Q.bd {b : List UInt8} {deep : Nat} {a : Ask} {r : Ans} (h : Q b deep a r) : Bd b a r := by
  induction h with
  | doc_bad h1 => exact fun hp hz => docH_bad h1 hp
  | @doc_go p z win how last r h1 _ ih =>
    cases r with
    | kids f e => exact fun hp hz => by have h2 := docH_ok h1 hz; have := ih (by omega) (by omega); exact ⟨by omega, by omega, by omega⟩
    | val => exact ih.elim
    | bad e a => exact fun hp hz => by have h2 := docH_ok h1 hz; have := ih (by omega) (by omega); exact ⟨by omega, by omega, by omega⟩
  | els_end h1 => exact elsH_bad _ h1
  | els_bad h1 _ ih =>
    intro x1 x2
    obtain ⟨g1, g2, g3, g4, g5⟩ := elsH_ok h1
    have := (endQ_bd (b := b) (by omega) (by omega)).2 _ _ g5
    have := ih (by omega) (by omega)
    omega
  | @els_go at' last win n k q t nx r h1 _ _ ih ih2 =>
    have key : at' ≤ last → last < b.length → at' ≤ nx ∧ nx ≤ last := by
      intro x1 x2
      obtain ⟨g1, g2, g3, g4, g5⟩ := elsH_ok h1
      have := (endQ_bd (b := b) (by omega) (by omega)).2 _ _ g5
      have := ih (by omega) (by omega)
      omega
    cases r with
    | kids f e => exact fun x1 x2 => ih2 (key x1 x2).2 x2
    | val => exact ih2.elim
    | bad e a => exact fun x1 x2 => by have := key x1 x2; have := ih2 this.2 x2; omega
  | val_leaf => exact leafQ_bd
  | @val_doc k q z win r _ _ ih =>
    cases r with
    | kids f e => exact fun x1 x2 => by have := ih x1 x2; omega
    | val => exact ih.elim
    | bad e a => exact fun x1 x2 => ih x1 x2
  | val_bad h1 => exact fun x1 x2 => scoH_bad h1 x1 x2
  | @val_sco q z win s p zz r h1 _ ih =>
    cases r with
    | kids f e => exact fun x1 x2 => by have h2 := scoH_ok h1 x2; have := ih h2.2.2.2.2.2 (by omega); omega
    | val => exact ih.elim
    | bad e a => exact fun x1 x2 => by have h2 := scoH_ok h1 x2; have := ih h2.2.2.2.2.2 (by omega); omega

/-- With wider limits. -/
theorem Q.wider {b : List UInt8} {deep d2 : Nat} (hd : deep ≤ d2) {a : Ask} {r : Ans} (h : Q b deep a r) (hr : ∀ x, r ≠ .bad 8 x) : Q b d2 a r := by
  induction h with
  | @doc_bad p z win how e a h1 =>
    refine .doc_bad ?_
    rw [← h1]
    unfold docH at h1 ⊢
    split at h1
    · simp only [Except.error.injEq, Prod.mk.injEq] at h1; exact absurd (by rw [h1.1]) (hr a)
    · rename_i hw
      rw [if_neg hw, if_neg (show ¬ d2 ≤ win by omega)]
  | @doc_go p z win how last r h1 _ ih =>
    refine .doc_go (last := last) ?_ (ih hr)
    rw [← h1]
    unfold docH at h1 ⊢
    split at h1
    · simp at h1
    · rename_i hw
      rw [if_neg hw, if_neg (show ¬ d2 ≤ win by omega)]
  | els_end h1 => exact .els_end h1
  | els_bad h1 _ ih => exact .els_bad h1 (ih hr)
  | @els_go at' last win n k q t nx r h1 _ _ ih ih2 => exact .els_go h1 (ih (by simp)) (ih2 (by cases r <;> simp_all [preA]))
  | val_leaf h1 h2 h3 => exact .val_leaf h1 h2 h3
  | @val_doc k q z win r h1 _ ih => exact .val_doc h1 (ih (by cases r <;> simp_all [mkA]))
  | val_bad h1 => exact .val_bad h1
  | @val_sco q z win s p zz r h1 _ ih => exact .val_sco h1 (ih (by cases r <;> simp_all [mkA]))

theorem seg_add (b : List UInt8) (p m k : Nat) : seg b p (m + k) = seg b p m ++ seg b (p + m) k := by
  simp only [seg, List.take_add, List.drop_drop]
theorem seg_one (b : List UInt8) (p : Nat) (h : p < b.length) : seg b p 1 = [UInt8.ofNat (bAt b p)] := by
  unfold seg
  rw [List.drop_eq_getElem_cons h]
  simp only [List.take_succ_cons, List.take_zero, bAt, List.getD, h, List.getElem?_eq_getElem, Option.getD_some, UInt8.ofNat_toNat]
theorem leBytes_le : ∀ l : List UInt8, leBytes l.length (le l) = l
  | [] => rfl
  | x :: r => by
    have hx := x.toNat_lt
    simp only [List.length_cons, leBytes, le]
    rw [show (x.toNat + 256 * le r) / 256 = le r from by omega, leBytes_le r]
    congr 1
    apply UInt8.toNat_inj.1
    simp
theorem seg_le (b : List UInt8) (p n : Nat) (h : p + n ≤ b.length) : seg b p n = leBytes n (le (seg b p n)) := by
  have := leBytes_le (seg b p n)
  rw [seg_length b p n h] at this
  exact this.symm
theorem le_seg_lt (b : List UInt8) (p n : Nat) : le (seg b p n) < 256 ^ n := by
  have := le_lt (seg b p n)
  refine Nat.lt_of_lt_of_le this (Nat.pow_le_pow_right (by omega) ?_)
  unfold seg
  simp
  omega
theorem len4_seg {b : List UInt8} {p n : Nat} (h : p + 4 ≤ b.length) (hn : len4 b p = n) : seg b p 4 = leBytes 4 n := by
  rw [seg_le b p 4 h]
  congr 1
  have := le_seg_lt b p 4
  unfold len4 at hn
  split at hn <;> omega

mutual
def bdT : T → Prop
  | .mk _ bits hi lo _ _ _ _ f => bits < okSize ∧ hi < okSize ∧ lo < okSize ∧ bdF f
def bdF : F → Prop
  | .nil => True
  | .cons _ t r => bdT t ∧ bdF r
end
def okV (t : T) : Prop := ∀ nm p, textOk true (sl nm) = true → checkT t nm p = none
def okF (f : F) : Prop := ∀ i p, checkF f i p = none

theorem sl_nt : sl nt = [] := rfl
theorem text_nil (x : Bool) : textOk x [] = true := by
  have := wholeTo_le []
  have e : wholeTo [] = 0 := by simpa using this
  simp [textOk, e, hasZ, zeroIn]

theorem textQ_just {b : List UInt8} {q z n : Nat} {s : List UInt8} (h : textQ b q z = .ok (s, n)) (hq : q ≤ z) (hz : z ≤ b.length) : seg b q (n - q) = textB (txt s) ∧ textOk false s = true := by
  unfold textQ at h
  (repeat' split at h) <;> simp at h
  rename_i h1 h2 h3 h4
  obtain ⟨rfl, rfl⟩ := h
  obtain ⟨N, hN⟩ : ∃ N : Nat, len4 b q = N + 1 := ⟨(len4 b q).toNat - 1, by omega⟩
  have hNt : (len4 b q).toNat - 1 = N := by omega
  have hb : bAt b (q + 4 + N) = 0 := by
    have : q + 4 + (len4 b q).toNat - 1 = q + 4 + N := by omega
    rw [this] at h3
    omega
  rw [hNt] at h4 ⊢
  have hl := seg_length b (q + 4) N (by omega)
  refine ⟨?_, ?_⟩
  · rw [show q + 4 + (len4 b q).toNat - q = 4 + (N + 1) from by omega, seg_add, seg_add b (q + 4) N 1, len4_seg (n := N + 1) (by omega) (by rw [hN]; rfl), seg_one _ _ (by omega), hb]
    unfold textB
    rw [sl_txt, ← sl_len, sl_txt, hl]
    simp
  · simp only [textOk, Bool.false_and, Bool.not_false, Bool.and_true, hl, beq_iff_eq]
    omega

theorem zero_at : ∀ (l : List UInt8), zeroIn l < l.length → bAt l (zeroIn l) = 0
  | [], h => by simp at h
  | x :: r, h => by
    simp only [zeroIn] at h ⊢
    split
    · rename_i e; subst e; rfl
    · rename_i e
      rw [if_neg e] at h
      have := zero_at r (by simpa using h)
      simpa [bAt] using this
theorem zero_take : ∀ (l : List UInt8), zeroIn (l.take (zeroIn l)) = zeroIn l
  | [] => rfl
  | x :: r => by
    simp only [zeroIn]
    split
    · rename_i e; subst e; rfl
    · rename_i e
      rw [List.take_succ_cons]
      simp only [zeroIn]
      rw [if_neg e, zero_take r]
theorem bAt_drop (l : List UInt8) (p i : Nat) : bAt (l.drop p) i = bAt l (p + i) := by simp [bAt, List.getD]
theorem bAt_take (l : List UInt8) (z i : Nat) (h : i < z) : bAt (l.take z) i = bAt l i := by simp [bAt, List.getD, h]

theorem endQ_just {b : List UInt8} {q z n : Nat} {s : List UInt8} (h : endQ b q z = .ok (s, n)) (hq : q ≤ z) (hz : z ≤ b.length) : seg b q (n - q) = s ++ [0] ∧ textOk true s = true := by
  have hl : (b.take z).length = z := by simp; omega
  have hz2 := zeroIn_le ((b.take z).drop q)
  rw [List.length_drop, hl] at hz2
  obtain ⟨Z, hZ⟩ : ∃ Z, Z = zeroIn ((b.take z).drop q) := ⟨_, rfl⟩
  unfold endQ at h
  split at h
  · simp at h
  · rename_i h0
    simp only [Except.ok.injEq, Prod.mk.injEq] at h
    obtain ⟨rfl, rfl⟩ := h
    unfold cText at h0 ⊢
    simp only [hl, ← hZ] at h0 ⊢
    rw [← hZ] at hz2
    rw [if_neg (by omega)] at h0 ⊢
    split at h0
    · simp at h0
    · rename_i h3
      rw [if_neg h3]
      split at h0
      · rename_i h4
        rw [if_pos h4]
        have e : ((b.take z).drop q).take Z = seg b q Z := by
          unfold seg
          rw [List.drop_take, List.take_take, Nat.min_eq_left (by omega)]
        have hs := seg_length b q Z (by omega)
        have h0 : bAt b (q + Z) = 0 := by
          have := zero_at ((b.take z).drop q) (by rw [List.length_drop, hl, ← hZ]; omega)
          rw [← hZ, bAt_drop, bAt_take _ _ _ (by omega)] at this
          exact this
        refine ⟨?_, ?_⟩
        · show seg b q (q + Z + 1 - q) = _ ++ [0]
          rw [show q + Z + 1 - q = Z + 1 from by omega, seg_add, seg_one _ _ (by omega), h0, e]
          rfl
        · show textOk true (((b.take z).drop q).take Z) = true
          have hz3 : zeroIn (((b.take z).drop q).take Z) = Z := by
            have := zero_take ((b.take z).drop q)
            rw [← hZ] at this
            exact this
          unfold textOk
          have hh : hasZ (((b.take z).drop q).take Z) = false := by
            unfold hasZ
            rw [hz3, e, hs]
            simp
          rw [hh, h4, e, hs]
          simp
      · simp at h0

theorem binQ_just {b : List UInt8} {q z n sub : Nat} {s : List UInt8} (h : binQ b q z = .ok (sub, s, n)) (hq : q ≤ z) (hz : z ≤ b.length) : seg b q (n - q) = binB sub s ∧ sub < 256 := by
  have hbl : bAt b (q + 4) < 256 := UInt8.toNat_lt _
  unfold binQ at h
  split at h
  · simp at h
  split at h
  · simp at h
  rename_i h1 h2
  obtain ⟨N, hN⟩ : ∃ N : Nat, len4 b q = N := ⟨(len4 b q).toNat, by omega⟩
  have hNt : (len4 b q).toNat = N := by omega
  have e1 := len4_seg (b := b) (p := q) (n := N) (by omega) hN
  rw [hNt] at h
  split at h
  · rename_i h3
    split at h
    · simp at h
    · rename_i h4
      simp only [Except.ok.injEq, Prod.mk.injEq] at h
      obtain ⟨rfl, rfl, rfl⟩ := h
      obtain ⟨M, hM⟩ : ∃ M, N = M + 4 := ⟨N - 4, by omega⟩
      have e2 := len4_seg (b := b) (p := q + 5) (n := M) (by omega) (by omega)
      have hl := seg_length b (q + 9) M (by omega)
      subst hM
      refine ⟨?_, by omega⟩
      rw [show q + 5 + (M + 4) - q = 4 + (1 + (4 + M)) from by omega, seg_add, seg_add b (q + 4) 1, seg_add b (q + 4 + 1) 4 M, e1, seg_one _ _ (by omega), h3, e2]
      show _ = binB ((2 : Nat) : Int) (seg b (q + 9) (M + 4 - 4))
      rw [show M + 4 - 4 = M from by omega]
      unfold binB
      rw [hl]
      simp [kindB]
  · rename_i h3
    simp only [Except.ok.injEq, Prod.mk.injEq] at h
    obtain ⟨rfl, rfl, rfl⟩ := h
    have hl := seg_length b (q + 5) N (by omega)
    refine ⟨?_, by omega⟩
    rw [show q + 5 + N - q = 4 + (1 + N) from by omega, seg_add, seg_add b (q + 4) 1, e1, seg_one _ _ (by omega)]
    unfold binB
    rw [hl]
    have : ((bAt b (q + 4) : Nat) : Int) % 256 = (bAt b (q + 4) : Nat) := by omega
    have h5 : (((bAt b (q + 4) : Nat) : Int) == 2) = false := by rw [beq_eq_false_iff_ne]; omega
    simp [kindB, h5, this]

/-- What a value is that was read. -/
structure Just (b : List UInt8) (k q n : Nat) (t : T) : Prop where
  seg : seg b q (n - q) = valB t
  kind : t.kind = k
  ok : okV t
  bd : bdT t

theorem okV_leaf {k : Int} {bits hi lo : Nat} {s m : ByteArray} {sub : Int} {l : List UInt8} (hk : knownK k = true) (hf : fieldsOf k bits hi lo s m sub l.length 0 = true) (hs : textOk (k == 11) (sl s) = true) (hm : textOk (k == 11) (sl m) = true) : okV (.mk k bits hi lo s m sub l .nil) := by
  intro nm p hn
  simp only [checkT, hk, hs, hm, hn, checkF]
  simp [F.len, hf]
theorem le_pow8 (b : List UInt8) (q : Nat) (n : Nat) (hn : n ≤ 8) : le (seg b q n) < okSize := by
  have := le_seg_lt b q n
  have h2 : 256 ^ n ≤ 256 ^ 8 := Nat.pow_le_pow_right (by omega) hn
  unfold okSize
  omega
theorem seg_nil (b : List UInt8) (q : Nat) : seg b q 0 = [] := by simp [seg]
theorem nt_list : nt.toList = [] := by rw [toList_sl, sl_nt]

theorem leafQ_just {b : List UInt8} {k q z n : Nat} {t : T} (h : leafQ b k q z = .val t n) (hq : q ≤ z) (hz : z ≤ b.length) (hk : knownK k = true) (h3 : k ≠ 3) (h4 : k ≠ 4) (h15 : k ≠ 15) : Just b k q n t := by
  have hn := text_nil
  unfold leafQ at h
  split at h
  · simp at h
  rename_i hfx
  split at h
  · rename_i hc
    split at h
    · simp at h
    · rename_i h8
      simp only [Ans.val.injEq] at h
      obtain ⟨rfl, rfl⟩ := h
      have hlt := le_seg_lt b q (fixN k)
      have hle := seg_le b q (fixN k) (by omega)
      have hz0 : okSize = 256 ^ 8 := by decide
      rcases hc with rfl | rfl | rfl | rfl | rfl | rfl
      all_goals
        simp only [fixN] at hlt hle h8 ⊢
        simp at hlt hle h8 ⊢
        refine ⟨?_, rfl, okV_leaf rfl ?_ (hn _) (hn _), ⟨?_, by decide, by decide, trivial⟩⟩
        · rw [show ∀ x, q + x - q = x from fun x => by omega]
          first | (simp [valB]; exact hle) | (simp [valB]; done)
        · simp [fieldsOf, okK, hasBits, hasWide, hasText, hasMore, hasSub, hasBytes, hasKids, nt_list]
          try omega
        · simp [okSize] at *
          try omega
  rename_i hc
  split at h
  · rename_i hc2
    subst hc2
    simp only [Ans.val.injEq] at h
    obtain ⟨rfl, rfl⟩ := h
    have f : fixN 19 = 16 := rfl
    rw [f] at hfx
    refine ⟨?_, rfl, okV_leaf rfl (by simp [fieldsOf, okK, hasBits, hasWide, hasText, hasMore, hasSub, hasBytes, hasKids, nt_list]) (hn _) (hn _), ⟨by decide, le_pow8 _ _ _ (by omega), le_pow8 _ _ _ (by omega), trivial⟩⟩
    rw [show q + 16 - q = 8 + 8 from by omega, seg_add]
    simp [valB]
    rw [← seg_le b q 8 (by omega), ← seg_le b (q + 8) 8 (by omega)]
  rename_i hc2
  split at h
  · rename_i hc3
    subst hc3
    simp only [Ans.val.injEq] at h
    obtain ⟨rfl, rfl⟩ := h
    have f : fixN 7 = 12 := rfl
    rw [f] at hfx
    have hl := seg_length b q 12 (by omega)
    refine ⟨?_, rfl, okV_leaf rfl (by simp [fieldsOf, okK, hasBits, hasWide, hasText, hasMore, hasSub, hasBytes, hasKids, nt_list, hl]) (hn _) (hn _), ⟨by decide, by decide, by decide, trivial⟩⟩
    rw [show q + 12 - q = 12 from by omega]
    simp [valB]
  rename_i hc3
  split at h
  · rename_i hc4
    split at h
    · simp at h
    · rename_i s m hs
      simp only [Ans.val.injEq] at h
      obtain ⟨rfl, rfl⟩ := h
      have hj := textQ_just hs hq hz
      rcases hc4 with rfl | rfl | rfl
      all_goals
        refine ⟨?_, rfl, okV_leaf rfl (by simp [fieldsOf, okK, hasBits, hasWide, hasText, hasMore, hasSub, hasBytes, hasKids, nt_list]) (by rw [sl_txt]; exact hj.2) (hn _), ⟨by decide, by decide, by decide, trivial⟩⟩
        rw [hj.1]
        simp [valB]
  rename_i hc4
  split at h
  · rename_i hc5
    subst hc5
    split at h
    · simp at h
    · rename_i s m hs
      split at h
      · simp at h
      · simp only [Ans.val.injEq] at h
        obtain ⟨rfl, rfl⟩ := h
        have hj := textQ_just hs hq hz
        have hb := (textQ_bd hq hz).2 _ _ hs
        have hl := seg_length b m 12 (by omega)
        refine ⟨?_, rfl, okV_leaf rfl (by simp [fieldsOf, okK, hasBits, hasWide, hasText, hasMore, hasSub, hasBytes, hasKids, nt_list, hl]) (by rw [sl_txt]; exact hj.2) (hn _), ⟨by decide, by decide, by decide, trivial⟩⟩
        rw [show m + 12 - q = (m - q) + 12 from by omega, seg_add, hj.1, show q + (m - q) = m from by omega]
        simp [valB]
  rename_i hc5
  split at h
  · rename_i hc6
    subst hc6
    split at h
    · simp at h
    · rename_i s m hs
      split at h
      · simp at h
      · rename_i s2 m2 hs2
        simp only [Ans.val.injEq] at h
        obtain ⟨rfl, rfl⟩ := h
        have hj := endQ_just hs hq hz
        have hb := (endQ_bd hq hz).2 _ _ hs
        have hj2 := endQ_just hs2 hb.2 hz
        have hb2 := (endQ_bd hb.2 hz).2 _ _ hs2
        refine ⟨?_, rfl, okV_leaf rfl (by simp [fieldsOf, okK, hasBits, hasWide, hasText, hasMore, hasSub, hasBytes, hasKids, nt_list]) (by rw [sl_txt]; exact hj.2) (by rw [sl_txt]; exact hj2.2), ⟨by decide, by decide, by decide, trivial⟩⟩
        rw [show m2 - q = (m - q) + (m2 - m) from by omega, seg_add, hj.1, show q + (m - q) = m from by omega, hj2.1]
        simp [valB, sl_txt]
  rename_i hc6
  split at h
  · rename_i hc7
    subst hc7
    split at h
    · simp at h
    · rename_i sub l m hs
      simp only [Ans.val.injEq] at h
      obtain ⟨rfl, rfl⟩ := h
      have hj := binQ_just hs hq hz
      refine ⟨?_, rfl, okV_leaf rfl (by simp [fieldsOf, okK, hasBits, hasWide, hasText, hasMore, hasSub, hasBytes, hasKids, nt_list]; omega) (hn _) (hn _), ⟨by decide, by decide, by decide, trivial⟩⟩
      rw [hj.1]
      simp [valB]
  · rename_i hc7
    simp only [Ans.val.injEq] at h
    obtain ⟨rfl, rfl⟩ := h
    have hk2 : k = 6 ∨ k = 10 ∨ k = 127 ∨ k = 255 := by
      simp [knownK] at hk
      omega
    rcases hk2 with rfl | rfl | rfl | rfl
    all_goals
      refine ⟨?_, rfl, okV_leaf rfl (by simp [fieldsOf, okK, hasBits, hasWide, hasText, hasMore, hasSub, hasBytes, hasKids, nt_list]) (hn _) (hn _), ⟨by decide, by decide, by decide, trivial⟩⟩
      rw [show q - q = 0 from by omega, seg_nil]
      simp [valB]
def JustA (b : List UInt8) (deep : Nat) : Ask → Ans → Prop
  | .val k q z win, .val t n => q ≤ z → z ≤ b.length → knownK k = true → win < deep → Just b k q n t ∧ win + depT t + 1 ≤ deep
  | .els at' last win, .kids f _ => at' ≤ last → last < b.length → win < deep → seg b at' (last - at') = kidsB f ∧ bAt b last = 0 ∧ okF f ∧ bdF f ∧ win + depF f + 1 ≤ deep
  | .doc p z win _, .kids f n => p ≤ z → z ≤ b.length → seg b p (n - p) = docOf (kidsB f) ∧ okF f ∧ bdF f ∧ win + depF f + 1 ≤ deep
  | _, _ => True

theorem leaf_dep {b : List UInt8} {k q z n : Nat} {t : T} (h : leafQ b k q z = .val t n) (h3 : k ≠ 3) (h4 : k ≠ 4) (h15 : k ≠ 15) : depT t = 0 := by
  have key : ∀ bits hi lo s m sub l, depT (.mk k bits hi lo s m sub l .nil) = 0 := by
    intros
    have : isK k = false := by unfold isK; simp; omega
    simp [depT, this]
  unfold leafQ at h
  (repeat' split at h) <;> first | (simp at h; done) | (simp only [Ans.val.injEq] at h; obtain ⟨rfl, _⟩ := h; exact key ..)

theorem Q.just {b : List UInt8} {deep : Nat} {a : Ask} {r : Ans} (h : Q b deep a r) : JustA b deep a r := by
  induction h with
  | doc_bad h1 => trivial
  | @doc_go p z win how last r h1 hg ih =>
    cases r with
    | kids f e =>
      intro hp hz
      have h2 := docH_ok h1 hz
      have hb := hg.bd (by omega) (by omega)
      subst hb
      obtain ⟨g1, g2, g3, g4, g5⟩ := ih (by omega) (by omega) h2.1
      refine ⟨?_, g3, g4, g5⟩
      have hl : (kidsB f).length = last - (p + 4) := by rw [← g1, seg_length]; omega
      rw [show last + 1 - p = 4 + ((last - (p + 4)) + 1) from by omega, seg_add, seg_add b (p + 4), g1, len4_seg (n := last + 1 - p) (by omega) (by omega), show p + 4 + (last - (p + 4)) = last from by omega, seg_one _ _ (by omega), g2]
      unfold docOf
      rw [hl, show last + 1 - p = last - (p + 4) + 5 from by omega]
      simp
    | val => exact hg.bd.elim
    | bad e a => trivial
  | @els_end at' last win r h1 =>
    cases r with
    | kids f n =>
      unfold elsH at h1
      split at h1
      · rename_i he
        simp only [Except.error.injEq] at h1
        split at h1
        · simp at h1
        · rename_i h0
          simp only [Ans.kids.injEq] at h1
          obtain ⟨rfl, rfl⟩ := h1
          subst he
          exact fun x1 x2 x3 => ⟨by simp [seg_nil, kidsB], by omega, fun _ _ => rfl, trivial, by simp [depF]; omega⟩
      · (repeat' split at h1) <;> simp at h1
    | val => trivial
    | bad => trivial
  | els_bad h1 _ ih => trivial
  | @els_go at' last win n k q t nx r h1 hv hg ih ih2 =>
    cases r with
    | kids f e =>
      intro x1 x2 x3
      obtain ⟨g1, g2, rfl, g4, g5⟩ := elsH_ok h1
      have hb := (endQ_bd (b := b) (by omega) (by omega)).2 _ _ g5
      have hj := endQ_just g5 (by omega) (by omega)
      have hbv := hv.bd (by omega) (by omega)
      obtain ⟨k1, k2⟩ := ih (by omega) (by omega) g4 x3
      obtain ⟨j1, j2, j3, j4, j5⟩ := ih2 (by omega) x2 x3
      refine ⟨?_, j2, ?_, ⟨k1.bd, j4⟩, ?_⟩
      · rw [show last - at' = 1 + ((q - (at' + 1)) + ((nx - q) + (last - nx))) from by omega, seg_add, seg_add b (at' + 1), seg_add b (at' + 1 + (q - (at' + 1))), show at' + 1 + (q - (at' + 1)) = q from by omega, show q + (nx - q) = nx from by omega, seg_one _ _ (by omega), hj.1, k1.seg, j1]
        have hb8 : bAt b at' < 256 := UInt8.toNat_lt _
        have e8 : ((bAt b at' : Nat) : Int) % 256 = (bAt b at' : Nat) := by omega
        simp [kidsB, k1.kind, kindB, e8]
      · intro i p
        simp only [checkF]
        rw [k1.ok n _ hj.2]
        exact j3 _ _
      · simp only [depF]
        omega
    | val => trivial
    | bad => trivial
  | @val_leaf k q z win n3 n4 n15 =>
    cases hl : leafQ b k q z with
    | kids => trivial
    | val t n => exact fun x1 x2 x3 x4 => ⟨leafQ_just hl x1 x2 x3 n3 n4 n15, by rw [leaf_dep hl n3 n4 n15]; omega⟩
    | bad => trivial
  | @val_doc k q z win r hk hg ih =>
    cases r with
    | kids f e =>
      intro x1 x2 x3 x4
      have hb := hg.bd x1 x2
      obtain ⟨g1, g2, g3, g4⟩ := ih x1 x2
      have hn := text_nil
      rcases hk with rfl | rfl
      all_goals
        refine ⟨⟨by rw [g1]; simp [valB], rfl, ?_, ⟨by decide, by decide, by decide, g3⟩⟩, by simp [depT, isK]; omega⟩
        intro nm p hnm
        simp only [checkT, sl_nt, hn, hnm, g2 0 p]
        simp [knownK, fieldsOf, okK, hasBits, hasWide, hasText, hasMore, hasSub, hasBytes, hasKids, nt_list]
    | val => exact hg.bd.elim
    | bad => trivial
  | val_bad h1 => trivial
  | @val_sco q z win s p zz r h1 hg ih =>
    cases r with
    | kids f e =>
      intro x1 x2 x3 x4
      obtain ⟨a1, a2, a3, a4, a5, a6⟩ := scoH_ok h1 x2
      obtain ⟨b1, b2, b3⟩ := hg.bd a6 (by omega)
      have b3 := b3 (.inr rfl)
      subst b3
      obtain ⟨g1, g2, g3, g4⟩ := ih a6 (by omega)
      have hn := text_nil
      have hj := textQ_just a4 (by omega) (by omega)
      refine ⟨⟨?_, rfl, ?_, ⟨by decide, by decide, by decide, g3⟩⟩, by simp [depT, isK]; omega⟩
      · have hl : (textB (txt s) ++ docOf (kidsB f)).length = e - (q + 4) := by
          rw [← hj.1, ← g1, List.length_append, seg_length _ _ _ (by omega), seg_length _ _ _ (by omega)]
          omega
        rw [show e - q = 4 + ((p - (q + 4)) + (e - p)) from by omega, seg_add, seg_add b (q + 4), show q + 4 + (p - (q + 4)) = p from by omega, hj.1, g1, len4_seg (n := e - q) (by omega) (by omega)]
        have : valB (.mk 15 0 0 0 (txt s) nt 0 [] f) = scopeOf (textB (txt s) ++ docOf (kidsB f)) := by simp [valB]
        refine Eq.trans ?_ this.symm
        unfold scopeOf
        rw [hl, show e - q = e - (q + 4) + 4 from by omega]
      · intro nm p hnm
        simp only [checkT, sl_nt, sl_txt, hn, hnm, g2 0 p]
        have h2 := hj.2
        simp [knownK, fieldsOf, okK, hasBits, hasWide, hasText, hasMore, hasSub, hasBytes, hasKids, nt_list, h2]
    | val => exact hg.bd.elim
    | bad => trivial

theorem eq_nt {x : ByteArray} (h : x.toList = []) : x = nt := by rw [toList_sl] at h; rw [← txt_sl x, h]; rfl
theorem seg_split {b : List UInt8} {q m k : Nat} {X Y : List UInt8} (h : seg b q (m + k) = X ++ Y) (hX : X.length = m) (hb : q + m ≤ b.length) : seg b q m = X ∧ seg b (q + m) k = Y := by
  rw [seg_add] at h
  exact List.append_inj h (by rw [seg_length _ _ _ hb, hX])
theorem len4_of {b : List UInt8} {q n : Nat} (h : seg b q 4 = leBytes 4 n) (hn : n < 2147483648) : len4 b q = n := by
  unfold len4
  rw [h, le_leBytes, Nat.mod_eq_of_lt (by omega), if_pos hn]
theorem bAt_of {b : List UInt8} {q : Nat} {x : UInt8} (h : seg b q 1 = [x]) (hq : q < b.length) : bAt b q = x.toNat := by
  rw [seg_one b q hq] at h
  simp only [List.cons.injEq, and_true] at h
  rw [← h]
  have : bAt b q < 256 := UInt8.toNat_lt _
  simp
  omega
theorem textB_sl (s : ByteArray) : textB s = leBytes 4 ((sl s).length + 1) ++ (sl s ++ [0]) := by unfold textB; rw [sl_len, List.append_assoc]
theorem textQ_of {b : List UInt8} {q z : Nat} {s : ByteArray} (h : seg b q (s.size + 5) = textB s) (hz : q + (s.size + 5) ≤ z) (hb : z ≤ b.length) (hl : b.length < 2147483648) (hs : textOk false (sl s) = true) : textQ b q z = .ok (sl s, q + (s.size + 5)) := by
  rw [textB_sl, show s.size + 5 = 4 + (s.size + 1) from by omega] at h
  obtain ⟨h1, h2⟩ := seg_split h (leB_len _ _) (by omega)
  obtain ⟨h3, h4⟩ := seg_split h2 (sl_len s) (by omega)
  have e := len4_of h1 (by rw [sl_len]; omega)
  have e2 := bAt_of h4 (by omega)
  rw [sl_len] at e
  have hn : (len4 b q).toNat = s.size + 1 := by omega
  unfold textQ
  rw [if_neg (by omega), if_neg (by omega), hn, show q + 4 + (s.size + 1) - 1 = q + 4 + s.size from by omega, e2, if_neg (by decide), show s.size + 1 - 1 = s.size from by omega, h3, if_neg (by
    simp [textOk] at hs
    rw [hs, sl_len]
    simp)]
  rw [show q + 4 + (s.size + 1) = q + (s.size + 5) from by omega]
theorem zeroIn_app : ∀ (l : List UInt8) (r : List UInt8), zeroIn l = l.length → zeroIn (l ++ 0 :: r) = l.length
  | [], r, _ => by simp [zeroIn]
  | x :: l, r, h => by
    simp only [zeroIn, List.length_cons] at h
    split at h
    · omega
    · rename_i hx
      simp only [List.cons_append, zeroIn, List.length_cons]
      rw [if_neg hx, zeroIn_app l r (by omega)]
theorem endQ_of {b : List UInt8} {q z : Nat} {s : ByteArray} (h : seg b q (s.size + 1) = sl s ++ [0]) (hz : q + (s.size + 1) ≤ z) (hb : z ≤ b.length) (hs : textOk true (sl s) = true) : endQ b q z = .ok (sl s, q + (s.size + 1)) := by
  have hl : (b.take z).length = z := by simp; omega
  simp [textOk, hasZ] at hs
  have hz0 : zeroIn (sl s) = (sl s).length := by have := zeroIn_le (sl s); omega
  have hd : (b.take z).drop q = sl s ++ 0 :: ((b.take z).drop (q + (s.size + 1))) := by
    rw [← List.take_append_drop (s.size + 1) ((b.take z).drop q), List.drop_drop]
    have : ((b.take z).drop q).take (s.size + 1) = sl s ++ [0] := by
      rw [← h]
      unfold seg
      rw [List.drop_take, List.take_take, Nat.min_eq_left (by omega)]
    rw [this]
    simp
  have hZ : zeroIn ((b.take z).drop q) = s.size := by rw [hd, zeroIn_app _ _ hz0, sl_len]
  have ht : ((b.take z).drop q).take s.size = sl s := by rw [hd, ← sl_len]; simp
  have e : cText (b.take z) q = (sl s, q + s.size + 1, 0) := by
    unfold cText
    simp only [hl, hZ, ht]
    rw [if_neg (by omega), if_neg (by omega), if_pos (by rw [hs.1, sl_len])]
  unfold endQ
  rw [e]
  simp
  omega
theorem binB_len2 (sub : Nat) (l : List UInt8) : (binB sub l).length = (if sub = 2 then 9 else 5) + l.length := by
  unfold binB
  by_cases h : sub = 2
  · subst h; simp [leB_len]; omega
  · have : ((sub : Int) == 2) = false := by rw [beq_eq_false_iff_ne]; omega
    rw [this, if_neg h]; simp [leB_len]; omega
theorem binQ_of {b : List UInt8} {q z sub : Nat} {l : List UInt8} (h : seg b q (binB sub l).length = binB sub l) (hz : q + (binB sub l).length ≤ z) (hb : z ≤ b.length) (hl : b.length < 2147483648) (hs : sub < 256) : binQ b q z = .ok (sub, l, q + (binB sub l).length) := by
  rw [binB_len2] at h hz ⊢
  by_cases h2 : sub = 2
  · subst h2
    have e : binB ((2 : Nat) : Int) l = leBytes 4 (l.length + 4) ++ ([2] ++ (leBytes 4 l.length ++ l)) := by unfold binB; simp [kindB]
    rw [e, if_pos rfl, show 9 + l.length = 4 + (1 + (4 + l.length)) from by omega] at h
    rw [if_pos rfl] at hz ⊢
    obtain ⟨h1, h3⟩ := seg_split h (leB_len _ _) (by omega)
    obtain ⟨h4, h5⟩ := seg_split h3 rfl (by omega)
    obtain ⟨h6, h7⟩ := seg_split h5 (leB_len _ _) (by omega)
    have a1 := len4_of h1 (by omega)
    have a2 := bAt_of h4 (by omega)
    have a3 := len4_of h6 (by omega)
    have hn : (len4 b q).toNat = l.length + 4 := by omega
    unfold binQ
    rw [if_neg (by omega), if_neg (by omega), if_pos (by rw [a2]; rfl), if_neg (by rw [show q + 5 = q + 4 + 1 from by omega, a3, a1]; omega), hn, show l.length + 4 - 4 = l.length from by omega, show q + 9 = q + 4 + 1 + 4 from by omega, h7]
    rw [show q + 5 + (l.length + 4) = q + (9 + l.length) from by omega]
  · have hne : ((sub : Int) == 2) = false := by rw [beq_eq_false_iff_ne]; omega
    have hm : (sub : Int) % 256 = sub := by omega
    have e : binB sub l = leBytes 4 l.length ++ ([UInt8.ofNat sub] ++ l) := by unfold binB; rw [hne]; simp [kindB, hm]
    rw [e, if_neg h2, show 5 + l.length = 4 + (1 + l.length) from by omega] at h
    rw [if_neg h2] at hz ⊢
    obtain ⟨h1, h3⟩ := seg_split h (leB_len _ _) (by omega)
    obtain ⟨h4, h5⟩ := seg_split h3 rfl (by omega)
    have a1 := len4_of h1 (by omega)
    have a2 := bAt_of h4 (by omega)
    have a4 : bAt b (q + 4) = sub := by rw [a2]; simp; omega
    have hn : (len4 b q).toNat = l.length := by omega
    unfold binQ
    rw [if_neg (by omega), if_neg (by omega), if_neg (by omega), hn, a4, show q + 5 = q + 4 + 1 from by omega, h5]
    rw [show q + 4 + 1 + l.length = q + (5 + l.length) from by omega]
theorem known_cases {k : Int} (h : knownK k = true) : k = 1 ∨ k = 2 ∨ k = 3 ∨ k = 4 ∨ k = 5 ∨ k = 6 ∨ k = 7 ∨ k = 8 ∨ k = 9 ∨ k = 10 ∨ k = 11 ∨ k = 12 ∨ k = 13 ∨ k = 14 ∨ k = 15 ∨ k = 16 ∨ k = 17 ∨ k = 18 ∨ k = 19 ∨ k = 127 ∨ k = 255 := by
  simp [knownK] at h
  omega
theorem len_nil {f : F} (h : f.len = 0) : f = .nil := by cases f with
  | nil => rfl
  | cons => simp [F.len] at h
theorem le_of {b : List UInt8} {q n x : Nat} (h : seg b q n = leBytes n x) (hx : x < 256 ^ n) : le (seg b q n) = x := by rw [h, le_leBytes, Nat.mod_eq_of_lt hx]

theorem leafQ_of {k : Int} {bits hi lo : Nat} {s m : ByteArray} {sub : Int} {l : List UInt8} {f : F} {b : List UInt8} {q z : Nat}
    (hk : knownK k = true) (h3 : k ≠ 3) (h4 : k ≠ 4) (h15 : k ≠ 15) (hf : fieldsOf k bits hi lo s m sub l.length f.len = true) (hs : textOk (k == 11) (sl s) = true) (hm : textOk (k == 11) (sl m) = true)
    (hb1 : bits < okSize) (hb2 : hi < okSize) (hb3 : lo < okSize) (h : seg b q (valB (.mk k bits hi lo s m sub l f)).length = valB (.mk k bits hi lo s m sub l f)) (hz : q + (valB (.mk k bits hi lo s m sub l f)).length ≤ z) (hb : z ≤ b.length) (hl : b.length < 2147483648) :
    leafQ b k.toNat q z = .val (.mk k bits hi lo s m sub l f) (q + (valB (.mk k bits hi lo s m sub l f)).length) := by
  have ok8 : okSize = 256 ^ 8 := by decide
  rcases known_cases hk with rfl | rfl | rfl | rfl | rfl | rfl | rfl | rfl | rfl | rfl | rfl | rfl | rfl | rfl | rfl | rfl | rfl | rfl | rfl | rfl | rfl
  case inr.inr.inl => omega
  case inr.inr.inr.inl => omega
  case inr.inr.inr.inr.inr.inr.inr.inr.inr.inr.inr.inr.inr.inr.inl => omega
  all_goals simp [fieldsOf, okK, hasBits, hasWide, hasText, hasMore, hasSub, hasBytes, hasKids] at hf
  all_goals simp only [and_assoc] at hf
  · -- 1
    obtain ⟨rfl, rfl, e1, e2, rfl, rfl, e3⟩ := hf
    obtain rfl := eq_nt e1
    obtain rfl := eq_nt e2
    obtain rfl := len_nil e3
    have hv : valB (.mk 1 bits 0 0 nt nt 0 [] .nil) = leBytes 8 bits := by simp [valB]
    rw [hv, leB_len] at h hz ⊢
    have e := le_of h (by omega)
    have hz' : ¬ z < q + 8 := by omega
    show leafQ b 1 q z = _
    simp [leafQ, fixN, hz', e]
  · -- 2
    obtain ⟨rfl, rfl, rfl, e2, rfl, rfl, e3⟩ := hf
    obtain rfl := eq_nt e2
    obtain rfl := len_nil e3
    have hv : valB (.mk 2 0 0 0 s nt 0 [] .nil) = textB s := by simp [valB]
    rw [hv, textB_len] at h hz ⊢
    have e := textQ_of h hz hb hl hs
    have hz' : ¬ z < q := by omega
    show leafQ b 2 q z = _
    simp [leafQ, fixN, hz', e, txt_sl]
  · -- 5
    obtain ⟨s0, s1, rfl, rfl, rfl, e1, e2, e3⟩ := hf
    obtain rfl := eq_nt e1
    obtain rfl := eq_nt e2
    obtain rfl := len_nil e3
    obtain ⟨u, rfl⟩ : ∃ u : Nat, sub = u := ⟨sub.toNat, by omega⟩
    have hv : valB (.mk 5 0 0 0 nt nt u l .nil) = binB u l := by simp [valB]
    rw [hv] at h hz ⊢
    have e := binQ_of h hz hb hl (by omega)
    have hz' : ¬ z < q := by omega
    show leafQ b 5 q z = _
    simp [leafQ, fixN, hz', e]
  · -- 6
    obtain ⟨rfl, rfl, rfl, e1, e2, rfl, rfl, e3⟩ := hf
    obtain rfl := eq_nt e1
    obtain rfl := eq_nt e2
    obtain rfl := len_nil e3
    have hv : valB (.mk 6 0 0 0 nt nt 0 [] .nil) = [] := by simp [valB]
    rw [hv] at h hz ⊢
    have hz' : ¬ z < q := by simp at hz; omega
    show leafQ b 6 q z = _
    simp [leafQ, fixN, hz']
  · -- 7
    obtain ⟨hl12, rfl, rfl, rfl, e1, e2, rfl, e3⟩ := hf
    obtain rfl := eq_nt e1
    obtain rfl := eq_nt e2
    obtain rfl := len_nil e3
    have hv : valB (.mk 7 0 0 0 nt nt 0 l .nil) = l := by simp [valB]
    rw [hv, hl12] at h hz ⊢
    have hz' : ¬ z < q + 12 := by omega
    show leafQ b 7 q z = _
    simp [leafQ, fixN, hz', h]
  · -- 8
    obtain ⟨h0, rfl, rfl, e1, e2, rfl, rfl, e3⟩ := hf
    obtain rfl := eq_nt e1
    obtain rfl := eq_nt e2
    obtain rfl := len_nil e3
    have hv : valB (.mk 8 bits 0 0 nt nt 0 [] .nil) = leBytes 1 bits := by simp [valB]
    rw [hv, leB_len] at h hz ⊢
    have e := le_of h (by omega)
    have hz' : ¬ z < q + 1 := by omega
    show leafQ b 8 q z = _
    simp [leafQ, fixN, hz', e]
    omega
  · -- 9
    obtain ⟨rfl, rfl, e1, e2, rfl, rfl, e3⟩ := hf
    obtain rfl := eq_nt e1
    obtain rfl := eq_nt e2
    obtain rfl := len_nil e3
    have hv : valB (.mk 9 bits 0 0 nt nt 0 [] .nil) = leBytes 8 bits := by simp [valB]
    rw [hv, leB_len] at h hz ⊢
    have e := le_of h (by omega)
    have hz' : ¬ z < q + 8 := by omega
    show leafQ b 9 q z = _
    simp [leafQ, fixN, hz', e]
  · -- 10
    obtain ⟨rfl, rfl, rfl, e1, e2, rfl, rfl, e3⟩ := hf
    obtain rfl := eq_nt e1
    obtain rfl := eq_nt e2
    obtain rfl := len_nil e3
    have hv : valB (.mk 10 0 0 0 nt nt 0 [] .nil) = [] := by simp [valB]
    rw [hv] at h hz ⊢
    have hz' : ¬ z < q := by simp at hz; omega
    show leafQ b 10 q z = _
    simp [leafQ, fixN, hz']
  · -- 11
    obtain ⟨rfl, rfl, rfl, rfl, rfl, e3⟩ := hf
    obtain rfl := len_nil e3
    have hv : valB (.mk 11 0 0 0 s m 0 [] .nil) = (sl s ++ [0]) ++ (sl m ++ [0]) := by simp [valB]
    have hv2 : ((sl s ++ [0]) ++ (sl m ++ [0])).length = (s.size + 1) + (m.size + 1) := by simp [sl_len]; omega
    rw [hv, hv2] at h hz ⊢
    obtain ⟨g1, g2⟩ := seg_split h (by simp [sl_len]) (by omega)
    have e := endQ_of (z := z) g1 (by omega) hb hs
    have e' := endQ_of (z := z) g2 (by omega) hb hm
    have hz' : ¬ z < q := by omega
    show leafQ b 11 q z = _
    simp [leafQ, fixN, hz', e, e', txt_sl]
    omega
  · -- 12
    obtain ⟨hl12, rfl, rfl, rfl, e2, rfl, e3⟩ := hf
    obtain rfl := eq_nt e2
    obtain rfl := len_nil e3
    have hv : valB (.mk 12 0 0 0 s nt 0 l .nil) = textB s ++ l := by simp [valB]
    have hv2 : (textB s ++ l).length = (s.size + 5) + 12 := by simp [textB_len, hl12]
    rw [hv, hv2] at h hz ⊢
    obtain ⟨g1, g2⟩ := seg_split h (textB_len s) (by omega)
    have e := textQ_of (z := z) g1 (by omega) hb hl hs
    have hz' : ¬ z < q := by omega
    have hz2 : ¬ z < q + (s.size + 5) + 12 := by omega
    show leafQ b 12 q z = _
    simp [leafQ, fixN, hz', e, txt_sl, hz2, g2]
    omega
  · -- 13
    obtain ⟨rfl, rfl, rfl, e2, rfl, rfl, e3⟩ := hf
    obtain rfl := eq_nt e2
    obtain rfl := len_nil e3
    have hv : valB (.mk 13 0 0 0 s nt 0 [] .nil) = textB s := by simp [valB]
    rw [hv, textB_len] at h hz ⊢
    have e := textQ_of h hz hb hl hs
    have hz' : ¬ z < q := by omega
    show leafQ b 13 q z = _
    simp [leafQ, fixN, hz', e, txt_sl]
  · -- 14
    obtain ⟨rfl, rfl, rfl, e2, rfl, rfl, e3⟩ := hf
    obtain rfl := eq_nt e2
    obtain rfl := len_nil e3
    have hv : valB (.mk 14 0 0 0 s nt 0 [] .nil) = textB s := by simp [valB]
    rw [hv, textB_len] at h hz ⊢
    have e := textQ_of h hz hb hl hs
    have hz' : ¬ z < q := by omega
    show leafQ b 14 q z = _
    simp [leafQ, fixN, hz', e, txt_sl]
  · -- 16
    obtain ⟨h0, rfl, rfl, e1, e2, rfl, rfl, e3⟩ := hf
    obtain rfl := eq_nt e1
    obtain rfl := eq_nt e2
    obtain rfl := len_nil e3
    have hv : valB (.mk 16 bits 0 0 nt nt 0 [] .nil) = leBytes 4 bits := by simp [valB]
    rw [hv, leB_len] at h hz ⊢
    have e := le_of h (by omega)
    have hz' : ¬ z < q + 4 := by omega
    show leafQ b 16 q z = _
    simp [leafQ, fixN, hz', e]
  · -- 17
    obtain ⟨rfl, rfl, e1, e2, rfl, rfl, e3⟩ := hf
    obtain rfl := eq_nt e1
    obtain rfl := eq_nt e2
    obtain rfl := len_nil e3
    have hv : valB (.mk 17 bits 0 0 nt nt 0 [] .nil) = leBytes 8 bits := by simp [valB]
    rw [hv, leB_len] at h hz ⊢
    have e := le_of h (by omega)
    have hz' : ¬ z < q + 8 := by omega
    show leafQ b 17 q z = _
    simp [leafQ, fixN, hz', e]
  · -- 18
    obtain ⟨rfl, rfl, e1, e2, rfl, rfl, e3⟩ := hf
    obtain rfl := eq_nt e1
    obtain rfl := eq_nt e2
    obtain rfl := len_nil e3
    have hv : valB (.mk 18 bits 0 0 nt nt 0 [] .nil) = leBytes 8 bits := by simp [valB]
    rw [hv, leB_len] at h hz ⊢
    have e := le_of h (by omega)
    have hz' : ¬ z < q + 8 := by omega
    show leafQ b 18 q z = _
    simp [leafQ, fixN, hz', e]
  · -- 19
    obtain ⟨rfl, e1, e2, rfl, rfl, e3⟩ := hf
    obtain rfl := eq_nt e1
    obtain rfl := eq_nt e2
    obtain rfl := len_nil e3
    have hv : valB (.mk 19 0 hi lo nt nt 0 [] .nil) = leBytes 8 lo ++ leBytes 8 hi := by simp [valB]
    have hv2 : (leBytes 8 lo ++ leBytes 8 hi).length = 8 + 8 := by simp [leB_len]
    rw [hv, hv2] at h hz ⊢
    obtain ⟨g1, g2⟩ := seg_split h (leB_len _ _) (by omega)
    have e := le_of g1 (by omega)
    have e' := le_of g2 (by omega)
    have hz' : ¬ z < q + 16 := by omega
    show leafQ b 19 q z = _
    simp [leafQ, fixN, hz', e, e']
  · -- 127
    obtain ⟨rfl, rfl, rfl, e1, e2, rfl, rfl, e3⟩ := hf
    obtain rfl := eq_nt e1
    obtain rfl := eq_nt e2
    obtain rfl := len_nil e3
    have hv : valB (.mk 127 0 0 0 nt nt 0 [] .nil) = [] := by simp [valB]
    rw [hv] at h hz ⊢
    have hz' : ¬ z < q := by simp at hz; omega
    show leafQ b 127 q z = _
    simp [leafQ, fixN, hz']
  · -- 255
    obtain ⟨rfl, rfl, rfl, e1, e2, rfl, rfl, e3⟩ := hf
    obtain rfl := eq_nt e1
    obtain rfl := eq_nt e2
    obtain rfl := len_nil e3
    have hv : valB (.mk 255 0 0 0 nt nt 0 [] .nil) = [] := by simp [valB]
    rw [hv] at h hz ⊢
    have hz' : ¬ z < q := by simp at hz; omega
    show leafQ b 255 q z = _
    simp [leafQ, fixN, hz']


theorem check_parts {k : Int} {bits hi lo : Nat} {s m : ByteArray} {sub : Int} {l : List UInt8} {f : F} {nm : ByteArray} {p : List Int} (h : checkT (.mk k bits hi lo s m sub l f) nm p = none) :
    knownK k = true ∧ fieldsOf k bits hi lo s m sub l.length f.len = true ∧ textOk (k == 11) (sl s) = true ∧ textOk (k == 11) (sl m) = true ∧ textOk true (sl nm) = true ∧ checkF f 0 p = none := by
  simp only [checkT] at h
  split at h
  · simp at h
  split at h
  · simp at h
  split at h
  · simp at h
  rename_i h1 h2 h3
  simp only [Bool.not_eq_false, Bool.and_eq_true] at h1 h2 h3
  exact ⟨h1, h2, h3.1.1, h3.1.2, h3.2, h⟩
theorem checkF_parts {n : ByteArray} {t : T} {r : F} {i : Nat} {p : List Int} (h : checkF (.cons n t r) i p = none) : checkT t n (p ++ [(i : Int)]) = none ∧ checkF r (i + 1) p = none := by
  simp only [checkF] at h
  split at h
  · simp at h
  · rename_i h1; exact ⟨h1, h⟩
theorem kidsB_pos (n : ByteArray) (t : T) (r : F) : kidsB (.cons n t r) = [kindB t.kind] ++ ((sl n ++ [0]) ++ (valB t ++ kidsB r)) := by simp [kidsB]

def Told (deep need : Nat) (r g : Ans) : Prop := (need ≤ deep → r = g) ∧ (deep < need → ∃ a, r = .bad 8 a)

theorem Q.of_doc {f : F} {b : List UInt8} {deep : Nat}
    (ih : ∀ at' last win, at' + (kidsB f).length = last → seg b at' (kidsB f).length = kidsB f → bAt b last = 0 → last < b.length → win < deep → ∃ r, Q b deep (.els at' last win) r ∧ Told deep (win + depF f + 1) r (.kids f (last + 1)))
    (p z win how : Nat) (h : seg b p (docOf (kidsB f)).length = docOf (kidsB f)) (hz : p + (docOf (kidsB f)).length ≤ z) (hb : z ≤ b.length) (hl : b.length < 2147483648) (hh : how = 0 ∨ z = p + (docOf (kidsB f)).length) :
    ∃ r, Q b deep (.doc p z win how) r ∧ Told deep (win + depF f + 1) r (.kids f (p + (docOf (kidsB f)).length)) := by
  obtain ⟨L, hL⟩ : ∃ L, L = (kidsB f).length := ⟨_, rfl⟩
  rw [docOf_len, ← hL] at h hz hh ⊢
  have h0 : docOf (kidsB f) = leBytes 4 (L + 5) ++ (kidsB f ++ [0]) := by unfold docOf; rw [← hL, List.append_assoc]
  rw [h0, show L + 5 = 4 + (L + 1) from by omega] at h
  obtain ⟨h1, h2⟩ := seg_split h (leB_len _ _) (by omega)
  obtain ⟨h3, h4⟩ := seg_split h2 hL.symm (by omega)
  have e1 := len4_of h1 (by omega)
  have e4 := bAt_of h4 (by omega)
  by_cases hd : deep ≤ win
  · refine ⟨.bad 8 p, .doc_bad (by unfold docH; rw [if_pos hd]), fun x => by omega, fun _ => ⟨p, rfl⟩⟩
  · obtain ⟨r, hr, ht⟩ := ih (p + 4) (p + 4 + L) win (by omega) (by rw [← hL]; exact h3) e4 (by omega) (by omega)
    refine ⟨r, .doc_go (last := p + 4 + L) ?_ hr, ?_⟩
    · unfold docH
      have hn : (len4 b p).toNat = 4 + (L + 1) := by omega
      rw [if_neg hd, if_neg (by omega), if_neg (by omega), if_neg (by omega), hn]
      congr 1
      omega
    · rw [show p + (L + 5) = p + 4 + L + 1 from by omega]
      exact ht
mutual
theorem Q.of_val : ∀ (t : T) (nm : ByteArray) (p : List Int), checkT t nm p = none → bdT t → ∀ (b : List UInt8) (deep q z win : Nat), seg b q (valB t).length = valB t → q + (valB t).length ≤ z → z ≤ b.length → b.length < 2147483648 → win < deep →
    ∃ r, Q b deep (.val t.kind.toNat q z win) r ∧ Told deep (win + depT t + 1) r (.val t (q + (valB t).length))
  | .mk k bits hi lo s m sub l f, nm, p, hc, hbd, b, deep, q, z, win, h, hz, hb, hl, hw => by
    obtain ⟨c1, c2, c3, c4, c5, c6⟩ := check_parts hc
    obtain ⟨d1, d2, d3, d4⟩ := hbd
    have hn0 : ∀ x : Nat, x ≠ 3 → (k = x → k ≠ 3) := fun x hx e => by omega
    by_cases h3 : k = 3 ∨ k = 4
    · have hf : (((((((bits = 0 ∧ hi = 0) ∧ lo = 0) ∧ s.toList = []) ∧ m.toList = []) ∧ sub = 0) ∧ l = [])) := by
        rcases h3 with rfl | rfl <;> simpa [fieldsOf, okK, hasBits, hasWide, hasText, hasMore, hasSub, hasBytes, hasKids] using c2
      simp only [and_assoc] at hf
      obtain ⟨rfl, rfl, rfl, e1, e2, rfl, rfl⟩ := hf
      obtain rfl := eq_nt e1
      obtain rfl := eq_nt e2
      have hv : valB (.mk k 0 0 0 nt nt 0 [] f) = docOf (kidsB f) := by rcases h3 with rfl | rfl <;> simp [valB]
      rw [hv] at h hz ⊢
      obtain ⟨r, hr, ht⟩ := Q.of_doc (fun at' last win g1 g2 g3 g4 g5 => Q.of_kids f 0 p c6 d4 b deep at' last win g1 g2 g3 g4 hl g5) q z (win + 1) 0 h hz hb hl (.inl rfl)
      have hdp : depT (.mk k 0 0 0 nt nt 0 [] f) = depF f + 1 := by rcases h3 with rfl | rfl <;> simp [depT, isK]
      refine ⟨mkA k.toNat nt r, .val_doc (by show k.toNat = 3 ∨ k.toNat = 4; omega) hr, ?_, ?_⟩
      · intro hx
        rw [hdp] at hx
        rw [ht.1 (by omega)]
        rcases h3 with rfl | rfl <;> rfl
      · intro hx
        rw [hdp] at hx
        obtain ⟨a, rfl⟩ := ht.2 (by omega)
        exact ⟨a, rfl⟩
    · by_cases h15 : k = 15
      · subst h15
        have hf : ((((bits = 0 ∧ hi = 0) ∧ lo = 0) ∧ m.toList = []) ∧ sub = 0) ∧ l = [] := by simpa [fieldsOf, okK, hasBits, hasWide, hasText, hasMore, hasSub, hasBytes, hasKids] using c2
        simp only [and_assoc] at hf
        obtain ⟨rfl, rfl, rfl, e2, rfl, rfl⟩ := hf
        obtain rfl := eq_nt e2
        have hv : valB (.mk 15 0 0 0 s nt 0 [] f) = scopeOf (textB s ++ docOf (kidsB f)) := by simp [valB]
        obtain ⟨D, hD⟩ : ∃ D, D = (docOf (kidsB f)).length := ⟨_, rfl⟩
        have hD5 : 5 ≤ D := by rw [hD, docOf_len]; omega
        have hv2 : (scopeOf (textB s ++ docOf (kidsB f))).length = 4 + ((s.size + 5) + D) := by rw [scopeOf_len, List.length_append, textB_len, ← hD]; omega
        have hv3 : scopeOf (textB s ++ docOf (kidsB f)) = leBytes 4 (4 + ((s.size + 5) + D)) ++ (textB s ++ docOf (kidsB f)) := by
          unfold scopeOf
          rw [List.length_append, textB_len, ← hD]
          congr 2
          omega
        rw [hv, hv2] at h hz ⊢
        rw [hv3] at h
        obtain ⟨g1, g2⟩ := seg_split h (leB_len _ _) (by omega)
        obtain ⟨g3, g4⟩ := seg_split g2 (textB_len s) (by omega)
        have a1 := len4_of g1 (by omega)
        have a2 := textQ_of (z := q + (4 + ((s.size + 5) + D))) g3 (by omega) (by omega) hl c3
        have hn : (len4 b q).toNat = 4 + ((s.size + 5) + D) := by omega
        obtain ⟨r, hr, ht⟩ := Q.of_doc (fun at' last win g1 g2 g3 g4 g5 => Q.of_kids f 0 p c6 d4 b deep at' last win g1 g2 g3 g4 hl g5) (q + 4 + (s.size + 5)) (q + (4 + ((s.size + 5) + D))) (win + 1) 2 (by rw [← hD]; exact g4) (by rw [← hD]; omega) (by omega) hl (.inr (by rw [← hD]; omega))
        have hdp : depT (.mk 15 0 0 0 s nt 0 [] f) = depF f + 1 := by simp [depT, isK]
        have hsc : scoH b q z = .ok (sl s, q + 4 + (s.size + 5), q + (4 + ((s.size + 5) + D))) := by
          unfold scoH
          rw [if_neg (by omega), if_neg (by omega), hn, a2]
        refine ⟨mkA 15 (txt (sl s)) r, .val_sco hsc hr, ?_, ?_⟩
        · intro hx
          rw [hdp] at hx
          rw [ht.1 (by omega), txt_sl, ← hD, show q + (4 + (s.size + 5 + D)) = q + 4 + (s.size + 5) + D from by omega]
          rfl
        · intro hx
          rw [hdp] at hx
          obtain ⟨a, rfl⟩ := ht.2 (by omega)
          exact ⟨a, rfl⟩
      · have hk1 : k.toNat ≠ 3 ∧ k.toNat ≠ 4 ∧ k.toNat ≠ 15 := by omega
        have hleaf := leafQ_of (f := f) c1 (by omega) (by omega) h15 c2 c3 c4 d1 d2 d3 h hz hb hl
        have hdp : depT (.mk k bits hi lo s m sub l f) = 0 := by
          have : isK k = false := by unfold isK; simp; omega
          simp [depT, this]
        refine ⟨_, .val_leaf hk1.1 hk1.2.1 hk1.2.2, fun _ => hleaf, fun hx => ?_⟩
        rw [hdp] at hx
        omega
theorem Q.of_kids : ∀ (f : F) (i : Nat) (p : List Int), checkF f i p = none → bdF f → ∀ (b : List UInt8) (deep at' last win : Nat), at' + (kidsB f).length = last → seg b at' (kidsB f).length = kidsB f → bAt b last = 0 → last < b.length → b.length < 2147483648 → win < deep →
    ∃ r, Q b deep (.els at' last win) r ∧ Told deep (win + depF f + 1) r (.kids f (last + 1))
  | .nil, i, p, hc, hbd, b, deep, at', last, win, hle, h, h0, hla, hl, hw => by
    simp only [kidsB, List.length_nil, Nat.add_zero] at hle
    subst hle
    refine ⟨.kids .nil (at' + 1), .els_end ?_, fun _ => rfl, fun hx => by simp only [depF] at hx; omega⟩
    unfold elsH
    rw [if_pos rfl, if_neg (by omega)]
  | .cons n t r, i, p, hc, hbd, b, deep, at', last, win, hle, h, h0, hla, hl, hw => by
    obtain ⟨c1, c2⟩ := checkF_parts hc
    obtain ⟨V, hV⟩ : ∃ V, V = (valB t).length := ⟨_, rfl⟩
    obtain ⟨R, hR⟩ : ∃ R, R = (kidsB r).length := ⟨_, rfl⟩
    have hlen : (kidsB (.cons n t r)).length = 1 + ((n.size + 1) + (V + R)) := by rw [kidsB_pos, hV, hR]; simp [sl_len]; omega
    rw [hlen] at hle h
    rw [kidsB_pos] at h
    obtain ⟨g1, g2⟩ := seg_split h rfl (by omega)
    obtain ⟨g3, g4⟩ := seg_split g2 (by simp [sl_len]) (by omega)
    obtain ⟨g5, g6⟩ := seg_split g4 hV.symm (by omega)
    have a1 := bAt_of g1 (by omega)
    have hk : knownK t.kind = true ∧ textOk true (sl n) = true := by
      obtain ⟨k, bits, hi, lo, s, m, sub, l, f⟩ := t
      have := check_parts c1
      exact ⟨this.1, this.2.2.2.2.1⟩
    have hkb : bAt b at' = t.kind.toNat := by
      rw [a1]
      unfold kindB
      rcases known_cases hk.1 with e | e | e | e | e | e | e | e | e | e | e | e | e | e | e | e | e | e | e | e | e <;> rw [e] <;> rfl
    have hkp : 1 ≤ t.kind := by have := hk.1; simp [knownK] at this; omega
    have a3 := endQ_of (b := b) (q := at' + 1) (z := last) g3 (by omega) (by omega) hk.2
    have hels : elsH b at' last = .ok (n, t.kind.toNat, at' + 1 + (n.size + 1)) := by
      unfold elsH
      rw [if_neg (by omega), if_neg (by omega), hkb, show ((t.kind.toNat : Nat) : Int) = t.kind from by omega, if_neg (by rw [hk.1]; simp), a3]
      simp only [txt_sl]
    obtain ⟨rv, qv, tv⟩ := Q.of_val t n _ c1 hbd.1 b deep (at' + 1 + (n.size + 1)) last win (by rw [← hV]; exact g5) (by rw [← hV]; omega) (by omega) hl hw
    rw [← hV] at tv
    by_cases hd : win + depT t + 1 ≤ deep
    · obtain ⟨rk, qk, tk⟩ := Q.of_kids r (i + 1) p c2 hbd.2 b deep (at' + 1 + (n.size + 1) + V) last win (by rw [← hR]; omega) (by rw [← hR]; exact g6) h0 hla hl hw
      obtain rfl := tv.1 hd
      refine ⟨_, .els_go hels qv qk, ?_, ?_⟩
      · intro hx
        simp only [depF] at hx
        rw [tk.1 (by omega)]
        rfl
      · intro hx
        simp only [depF] at hx
        obtain ⟨a, rfl⟩ := tk.2 (by omega)
        exact ⟨a, rfl⟩
    · obtain ⟨a, rfl⟩ := tv.2 (by omega)
      refine ⟨_, .els_bad hels qv, ?_, fun _ => ⟨a, rfl⟩⟩
      intro hx
      simp only [depF] at hx
      omega
end

end Go.Proofs.Ytkcfkdmffbhljaa

namespace Go.Proofs.Ytkcfkdmffbhljaa
set_option linter.unusedVariables false
set_option linter.unusedSimpArgs false

mutual
theorem val_size : ∀ (t : T) (nm : ByteArray) (p : List Int), checkT t nm p = none → ((valB t).length : Int) = sizeT t
  | .mk k bits hi lo s m sub l f, nm, p, hc => by
    obtain ⟨c1, c2, c3, c4, c5, c6⟩ := check_parts hc
    have hk := kids_size f 0 p c6
    have hd := docOf_len (kidsB f)
    have hs := sl_len s
    have hm := sl_len m
    rcases known_cases c1 with rfl | rfl | rfl | rfl | rfl | rfl | rfl | rfl | rfl | rfl | rfl | rfl | rfl | rfl | rfl | rfl | rfl | rfl | rfl | rfl | rfl
    all_goals
      simp [fieldsOf, okK, hasBits, hasWide, hasText, hasMore, hasSub, hasBytes, hasKids] at c2
      simp [valB, sizeT, ownSize, leB_len, textB_len, docOf_len, scopeOf_len, sl_len]
      try omega
    by_cases h2 : sub = 2
    · subst h2
      simp [binB, leB_len]
      omega
    · have : (sub == 2) = false := by simpa using h2
      rw [this]
      simp [binB, this, leB_len]
      omega
theorem kids_size : ∀ (f : F) (i : Nat) (p : List Int), checkF f i p = none → ((kidsB f).length : Int) = sizeF f
  | .nil, i, p, hc => rfl
  | .cons n t r, i, p, hc => by
    obtain ⟨c1, c2⟩ := checkF_parts hc
    have h1 := val_size t n _ c1
    have h2 := kids_size r (i + 1) p c2
    rw [kidsB_pos]
    simp [sizeF, sl_len]
    omega
end
theorem toList_ext {a b : ByteArray} (h : a.toList = b.toList) : a = b := by
  rw [toList_sl, toList_sl] at h
  rw [← txt_sl a, ← txt_sl b, h]
mutual
theorem same_eq : ∀ (a b : T), sameT a b = true ↔ a = b
  | .mk k b h l t m s y f, .mk k' b' h' l' t' m' s' y' f' => by
    have ih := same_eqF f f'
    simp only [sameT, ownEq, T.kids, Bool.and_eq_true, beq_iff_eq]
    constructor
    · rintro ⟨⟨⟨⟨⟨⟨⟨⟨⟨rfl, rfl⟩, rfl⟩, rfl⟩, ht⟩, hm⟩, rfl⟩, rfl⟩, hl⟩, hf⟩
      rw [toList_ext ht, toList_ext hm, ih.1 ⟨hl, hf⟩]
    · intro e
      simp only [T.mk.injEq] at e
      obtain ⟨rfl, rfl, rfl, rfl, rfl, rfl, rfl, rfl, rfl⟩ := e
      have := ih.2 rfl
      exact ⟨⟨⟨⟨⟨⟨⟨⟨⟨rfl, rfl⟩, rfl⟩, rfl⟩, rfl⟩, rfl⟩, rfl⟩, rfl⟩, this.1⟩, this.2⟩
theorem same_eqF : ∀ (a b : F), (a.len = b.len ∧ sameF a b = true) ↔ a = b
  | .nil, .nil => by simp [sameF]
  | .nil, .cons n t r => by simp [F.len]
  | .cons n t r, .nil => by simp [F.len]
  | .cons n t r, .cons n' t' r' => by
    have h1 := same_eq t t'
    have h2 := same_eqF r r'
    simp only [F.len, sameF, Bool.and_eq_true, beq_iff_eq]
    constructor
    · rintro ⟨hl, ⟨hn, ht⟩, hr⟩
      rw [toList_ext hn, h1.1 ht, h2.1 ⟨by omega, hr⟩]
    · intro e
      simp only [F.cons.injEq] at e
      obtain ⟨rfl, rfl, rfl⟩ := e
      have := h2.2 rfl
      exact ⟨rfl, ⟨rfl, h1.2 rfl⟩, this.2⟩
end


mutual
theorem checkT_pos : ∀ (t : T) (nm : ByteArray) (p q : List Int) (e : Nat), checkT t nm p = some (q, e) → e ≠ 0
  | .mk k bits hi lo text more sub bs f, nm, p, q, e, h => by
    simp only [checkT] at h
    split at h
    · simp at h; omega
    · split at h
      · simp at h; omega
      · split at h
        · simp at h; omega
        · exact checkF_pos f 0 p q e h
theorem checkF_pos : ∀ (f : F) (i : Nat) (p q : List Int) (e : Nat), checkF f i p = some (q, e) → e ≠ 0
  | .nil, i, p, q, e, h => by simp [checkF] at h
  | .cons n t r, i, p, q, e, h => by
    simp only [checkF] at h
    split at h
    · rename_i x hx
      simp only [Option.some.injEq] at h
      subst h
      exact checkT_pos t n _ q e hx
    · exact checkF_pos r _ p q e h
end
theorem enc_ok {t : T} : encE t = 0 ↔ chk t = none ∧ t.kind = 3 := by
  unfold encE
  cases h : chk t with
  | none => simp
  | some x =>
    obtain ⟨q, e⟩ := x
    have := checkT_pos t _ _ q e h
    simp [this]
/-- A document that may be: its own fields. -/
theorem doc_shape {t : T} (h : encE t = 0) : t = .mk 3 0 0 0 nt nt 0 [] t.kids ∧ (∀ i p, i = 0 → p = [] → checkF t.kids i p = none) := by
  obtain ⟨hc, hk⟩ := enc_ok.1 h
  obtain ⟨k, bits, hi, lo, s, m, sub, l, f⟩ := t
  obtain rfl : k = 3 := hk
  obtain ⟨c1, c2, c3, c4, c5, c6⟩ := check_parts hc
  simp [fieldsOf, okK, hasBits, hasWide, hasText, hasMore, hasSub, hasBytes, hasKids] at c2
  simp only [and_assoc] at c2
  obtain ⟨rfl, rfl, rfl, e1, e2, rfl, rfl⟩ := c2
  obtain rfl := eq_nt e1
  obtain rfl := eq_nt e2
  exact ⟨rfl, fun i p hi hp => by subst hi; subst hp; exact c6⟩
theorem seg_all (l : List UInt8) : seg l 0 l.length = l := by simp [seg]
/-- A document's bytes, read. -/
theorem read_doc {t : T} (h : encE t = 0) (hb : bdF t.kids) (deep : Nat) (hl : (docOf (kidsB t.kids)).length < 2147483648) :
    ∃ r, Q (docOf (kidsB t.kids)) deep (.doc 0 (docOf (kidsB t.kids)).length 0 1) r ∧ Told deep (depF t.kids + 1) r (.kids t.kids (docOf (kidsB t.kids)).length) := by
  obtain ⟨hs, hc⟩ := doc_shape h
  obtain ⟨r, hr, ht⟩ := Q.of_doc (f := t.kids) (b := docOf (kidsB t.kids)) (deep := deep) (fun at' last win g1 g2 g3 g4 g5 => Q.of_kids t.kids 0 [] (hc 0 [] rfl rfl) hb _ deep at' last win g1 g2 g3 g4 hl g5) 0 (docOf (kidsB t.kids)).length 0 1 (seg_all _) (by omega) (by omega) hl (.inr (by omega))
  refine ⟨r, hr, ?_⟩
  rw [Nat.zero_add, Nat.zero_add] at ht
  exact ht
theorem enc_apart {a b : T} (ha : encE a = 0) (hb : encE b = 0) (ba : bdF a.kids) (bb : bdF b.kids) (la : (encB a).length < 2147483648) : encB a = encB b ↔ a = b := by
  constructor
  · intro e
    have ea : encB a = docOf (kidsB a.kids) := by unfold encB; rw [if_pos ha]
    have eb : encB b = docOf (kidsB b.kids) := by unfold encB; rw [if_pos hb]
    rw [ea] at la
    rw [ea, eb] at e
    obtain ⟨r, hr, ht⟩ := read_doc ha ba (depF a.kids + depF b.kids + 1) la
    obtain ⟨r', hr', ht'⟩ := read_doc hb bb (depF a.kids + depF b.kids + 1) (by rw [← e]; exact la)
    rw [← e] at hr' ht'
    have h1 := ht.1 (by omega)
    have h2 := ht'.1 (by omega)
    have h3 := hr.one hr'
    rw [h1, h2] at h3
    simp only [Ans.kids.injEq] at h3
    rw [(doc_shape ha).1, (doc_shape hb).1, h3.1]
  · rintro rfl; rfl
/-- What BoutCounts says. -/
theorem enc_counts {t : T} (h : encE t = 0) (hl : (encB t).length < 2147483648) : ((encB t).length : Int) = sizeT t ∧ 5 ≤ (encB t).length ∧ le (seg (encB t) 0 4) = (encB t).length ∧ bAt (encB t) ((encB t).length - 1) = 0 := by
  have ea : encB t = docOf (kidsB t.kids) := by unfold encB; rw [if_pos h]
  obtain ⟨hc, hk⟩ := enc_ok.1 h
  have hs := val_size t _ _ hc
  have hsh := (doc_shape h).1
  have hv : valB t = docOf (kidsB t.kids) := by
    rw [hsh]
    simp [valB, T.kids]
  rw [hv, ← ea] at hs
  have hd := docOf_len (kidsB t.kids)
  rw [← ea] at hd
  refine ⟨hs, by omega, ?_, ?_⟩
  · have : seg (encB t) 0 4 = leBytes 4 (encB t).length := by
      rw [hd, ea]
      unfold docOf seg
      rw [List.drop_zero, List.append_assoc]
      exact List.take_left' (leB_len _ _)
    rw [this, le_leBytes, Nat.mod_eq_of_lt (by omega)]
  · rw [ea, docOf_len]
    unfold docOf bAt
    rw [show (kidsB t.kids).length + 5 - 1 = (leBytes 4 ((kidsB t.kids).length + 5) ++ kidsB t.kids).length + 0 from by rw [List.length_append, leB_len]; omega]
    simp [List.getD]

end Go.Proofs.Ytkcfkdmffbhljaa
