/- Trees of values, and how they lie in memory. -/
import Derived.Test.YtiodjhcjfbnocaaOpen
namespace Go.Proofs.Ytiodjhcjfbnocaa
open Go.ChangeShapes Go.WideShapes Go.ChangeAt Go.RowKit
set_option linter.unusedVariables false
set_option linter.unusedSimpArgs false

mutual
/-- A value of a document. -/
inductive T where
  | mk (k : Int) (bits hi lo : Nat) (text more : ByteArray) (sub : Int) (bs : List UInt8) (kids : F)
/-- Its Kids. -/
inductive F where
  | nil
  | cons (n : ByteArray) (t : T) (r : F)
end

def T.kids : T → F | .mk _ _ _ _ _ _ _ _ f => f
def T.kind : T → Int | .mk k _ _ _ _ _ _ _ _ => k

def F.len : F → Nat
  | .nil => 0
  | .cons _ _ r => r.len + 1

def F.get? : F → Nat → Option (ByteArray × T)
  | .nil, _ => none
  | .cons n t _, 0 => some (n, t)
  | .cons _ _ r, i + 1 => r.get? i

mutual
def T.depth : T → Nat
  | .mk _ _ _ _ _ _ _ _ f => f.depth + 1
def F.depth : F → Nat
  | .nil => 0
  | .cons _ t r => max t.depth r.depth
end

theorem F.get_lt : ∀ (f : F) (i : Nat) (x : ByteArray × T), f.get? i = some x → i < f.len ∧ x.2.depth ≤ f.depth
  | .nil, i, x, h => by simp [F.get?] at h
  | .cons n t r, 0, x, h => by
    simp only [F.get?, Option.some.injEq] at h
    subst h
    simp only [F.len, F.depth]
    exact ⟨by omega, Nat.le_max_left _ _⟩
  | .cons n t r, i + 1, x, h => by
    have := F.get_lt r i x h
    simp only [F.len, F.depth]
    exact ⟨by omega, Nat.le_trans this.2 (Nat.le_max_right _ _)⟩

theorem F.get_some : ∀ (f : F) (i : Nat), i < f.len → ∃ x, f.get? i = some x
  | .nil, i, h => by simp [F.len] at h
  | .cons n t r, 0, h => ⟨(n, t), rfl⟩
  | .cons n t r, i + 1, h => F.get_some r i (by simp only [F.len] at h; omega)

/-- The nine cells of a value. -/
abbrev valCells (k : Int) (bits hi lo : Nat) (text more : ByteArray) (sub : Int) (ab : Option Addr) (nb cb : Nat) (ak : Option Addr) (nk ck : Nat) : Array Value :=
  #[.int .i64 k, .int .u64 (bits : Nat), .int .u64 (hi : Nat), .int .u64 (lo : Nat), .string text, .string more, .int .i64 sub, .slice ab nb cb, .slice ak nk ck]

/-- Bounds of a value's own numbers and texts. -/
def OwnOk (k : Int) (bits hi lo : Nat) (text more : ByteArray) (sub : Int) : Prop :=
  (-9223372036854775808 ≤ k ∧ k ≤ 9223372036854775807) ∧ bits < okSize ∧ hi < okSize ∧ lo < okSize ∧ text.size ≤ 9223372036854775807 ∧ more.size ≤ 9223372036854775807 ∧ (-9223372036854775808 ≤ sub ∧ sub ≤ 9223372036854775807)

/-- A slice's room: none at nil, and as much as it is long. -/
def Roomy (a : Option Addr) (n c : Nat) : Prop := (a = none → c = 0) ∧ n ≤ c

mutual
/-- A value's cells are those of a tree. -/
def RdT (w : World) : T → Array Value → Prop
  | .mk k bits hi lo text more sub bs kids, c => ∃ ab nb cb ak nk ck, c = valCells k bits hi lo text more sub ab nb cb ak nk ck ∧ OwnOk k bits hi lo text more sub ∧ RdB w ab nb bs ∧ kids.len = nk ∧ (nk ≤ 9223372036854775807 ∧ Roomy ak nk ck ∧ Roomy ab nb cb) ∧ RdKs w ak 0 kids
/-- A slice's fields from the i-th on are these. -/
def RdKs (w : World) (a : Option Addr) : Nat → F → Prop
  | _, .nil => True
  | i, .cons n t r => (∃ b o c, a = some ⟨b, o, none⟩ ∧ n.size ≤ 9223372036854775807 ∧ w.cell? ⟨b, o + i * 10, none⟩ = some (.string n) ∧ (∀ j, j < 9 → w.cell? ⟨b, o + i * 10 + (j + 1), none⟩ = c[j]?) ∧ RdT w t c) ∧ RdKs w a (i + 1) r
end

theorem RdT.size {w : World} : ∀ {t : T} {c : Array Value}, RdT w t c → c.size = 9
  | .mk .., c, h => by obtain ⟨_, _, _, _, _, _, rfl, _⟩ := h; rfl

mutual
theorem RdT.keep {w w' : World} (hb : Below w.heap.size w w') : ∀ {t : T} {c : Array Value}, RdT w t c → RdT w' t c
  | .mk k bits hi lo text more sub bs kids, c, h => by
    obtain ⟨ab, nb, cb, ak, nk, ck, h1, h2, h3, h4, h5, h6⟩ := h
    exact ⟨ab, nb, cb, ak, nk, ck, h1, h2, h3.keep hb, h4, h5, RdKs.keep hb h6⟩
theorem RdKs.keep {w w' : World} (hb : Below w.heap.size w w') {a : Option Addr} : ∀ {i : Nat} {f : F}, RdKs w a i f → RdKs w' a i f
  | _, .nil, _ => trivial
  | i, .cons n t r, h => by
    obtain ⟨⟨b, o, c, h1, h2, h3, h4, h5⟩, h6⟩ := h
    have hl := cell_block h3
    refine ⟨⟨b, o, c, h1, h2, ?_, fun j hj => ?_, RdT.keep hb h5⟩, RdKs.keep hb h6⟩
    · rw [hb.cell (p := ⟨b, o + i * 10, none⟩) (by simpa using hl)]; exact h3
    · rw [hb.cell (p := ⟨b, o + i * 10 + (j + 1), none⟩) (by simpa using hl)]; exact h4 j hj
end

/-- The i-th Kid, as it lies. -/
def KidAt (w : World) (a : Option Addr) (i : Nat) (n : ByteArray) (t : T) : Prop :=
  ∃ b o c, a = some ⟨b, o, none⟩ ∧ n.size ≤ 9223372036854775807 ∧ w.cell? ⟨b, o + i * 10, none⟩ = some (.string n) ∧ (∀ j, j < 9 → w.cell? ⟨b, o + i * 10 + (j + 1), none⟩ = c[j]?) ∧ RdT w t c

theorem RdKs.atFrom {w : World} {a : Option Addr} : ∀ {f : F} {i j : Nat} {n : ByteArray} {t : T}, RdKs w a i f → f.get? j = some (n, t) → KidAt w a (i + j) n t
  | .nil, i, j, n, t, h, hj => by simp [F.get?] at hj
  | .cons n' t' r, i, 0, n, t, h, hj => by
    simp only [F.get?, Option.some.injEq, Prod.mk.injEq] at hj
    obtain ⟨rfl, rfl⟩ := hj
    exact h.1
  | .cons n' t' r, i, j + 1, n, t, h, hj => by
    have := RdKs.atFrom (i := i + 1) h.2 hj
    rwa [show i + 1 + j = i + (j + 1) from by omega] at this

theorem RdKs.at {w : World} {a : Option Addr} {f : F} {j : Nat} {n : ByteArray} {t : T} (h : RdKs w a 0 f) (hj : f.get? j = some (n, t)) : KidAt w a j n t := by
  have := RdKs.atFrom h hj
  rwa [Nat.zero_add] at this

theorem RdKs.of {w : World} {a : Option Addr} : ∀ {f : F} {i : Nat}, (∀ j n t, f.get? j = some (n, t) → KidAt w a (i + j) n t) → RdKs w a i f
  | .nil, _, _ => trivial
  | .cons n t r, i, h => ⟨h 0 n t rfl, RdKs.of fun j n' t' hj => by have := h (j + 1) n' t' hj; rwa [show i + (j + 1) = i + 1 + j from by omega] at this⟩

/-- The kid's cells, one by one. -/
theorem KidAt.cells {w : World} {a : Option Addr} {i : Nat} {n : ByteArray} {t : T} (h : KidAt w a i n t) :
    ∃ (b o : Nat) (k : Int) (bits hi lo : Nat) (text more : ByteArray) (sub : Int) (bs : List UInt8) (kids : F) (ab : Option Addr) (nb cb : Nat) (ak : Option Addr) (nk ck : Nat),
      a = some ⟨b, o, none⟩ ∧ t = .mk k bits hi lo text more sub bs kids ∧ n.size ≤ 9223372036854775807 ∧ b < w.heap.size ∧ RdT w t (valCells k bits hi lo text more sub ab nb cb ak nk ck) ∧
      w.cell? ⟨b, o + i * 10, none⟩ = some (.string n) ∧ w.cell? ⟨b, o + i * 10 + 1, none⟩ = some (.int .i64 k) ∧ w.cell? ⟨b, o + i * 10 + 2, none⟩ = some (.int .u64 (bits : Nat)) ∧
      w.cell? ⟨b, o + i * 10 + 3, none⟩ = some (.int .u64 (hi : Nat)) ∧ w.cell? ⟨b, o + i * 10 + 4, none⟩ = some (.int .u64 (lo : Nat)) ∧ w.cell? ⟨b, o + i * 10 + 5, none⟩ = some (.string text) ∧
      w.cell? ⟨b, o + i * 10 + 6, none⟩ = some (.string more) ∧ w.cell? ⟨b, o + i * 10 + 7, none⟩ = some (.int .i64 sub) ∧ w.cell? ⟨b, o + i * 10 + 8, none⟩ = some (.slice ab nb cb) ∧
      w.cell? ⟨b, o + i * 10 + 9, none⟩ = some (.slice ak nk ck) := by
  obtain ⟨b, o, c, h1, h2, h3, h4, h5⟩ := h
  match t, h5 with
  | .mk k bits hi lo text more sub bs kids, h5 =>
    have h5' := h5
    obtain ⟨ab, nb, cb, ak, nk, ck, rfl, _⟩ := h5
    exact ⟨b, o, k, bits, hi, lo, text, more, sub, bs, kids, ab, nb, cb, ak, nk, ck, h1, rfl, h2, by simpa using cell_block h3, h5', h3, h4 0 (by omega), h4 1 (by omega), h4 2 (by omega), h4 3 (by omega), h4 4 (by omega), h4 5 (by omega), h4 6 (by omega), h4 7 (by omega), h4 8 (by omega)⟩

end Go.Proofs.Ytiodjhcjfbnocaa
