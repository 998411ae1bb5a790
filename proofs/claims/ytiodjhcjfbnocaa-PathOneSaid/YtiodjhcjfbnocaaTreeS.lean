/- Trees in memory: in which blocks they lie; rows of Kids of the call's own. -/
import Derived.Test.YtiodjhcjfbnocaaTree
import Derived.Test.YtiodjhcjfbnocaaTreeOpen
import Derived.Test.YtiodjhcjfbnocaaApp
namespace Go.Proofs.Ytiodjhcjfbnocaa
open Go.RowKit
set_option linter.unusedVariables false
set_option linter.unusedSimpArgs false

/-- A slice of bytes that lies in some blocks. -/
def RdBS (S : Nat → Prop) (w : World) (a : Option Addr) (len : Nat) (l : List UInt8) : Prop := RdB w a len l ∧ (0 < len → ∀ p, a = some p → S p.block)

mutual
def RdTS (S : Nat → Prop) (w : World) : T → Array Value → Prop
  | .mk k bits hi lo text more sub bs kids, c => ∃ ab nb cb ak nk ck, c = valCells k bits hi lo text more sub ab nb cb ak nk ck ∧ OwnOk k bits hi lo text more sub ∧ RdBS S w ab nb bs ∧ kids.len = nk ∧ (nk ≤ 9223372036854775807 ∧ Roomy ak nk ck ∧ Roomy ab nb cb) ∧ RdKsS S w ak 0 kids
def RdKsS (S : Nat → Prop) (w : World) (a : Option Addr) : Nat → F → Prop
  | _, .nil => True
  | i, .cons n t r => (∃ b o c, a = some ⟨b, o, none⟩ ∧ S b ∧ n.size ≤ 9223372036854775807 ∧ w.cell? ⟨b, o + i * 10, none⟩ = some (.string n) ∧ (∀ j, j < 9 → w.cell? ⟨b, o + i * 10 + (j + 1), none⟩ = c[j]?) ∧ RdTS S w t c) ∧ RdKsS S w a (i + 1) r
end

mutual
theorem RdTS.rd {S : Nat → Prop} {w : World} : ∀ {t : T} {c : Array Value}, RdTS S w t c → RdT w t c
  | .mk .., c, h => by
    obtain ⟨ab, nb, cb, ak, nk, ck, h1, h2, h3, h4, h5, h6⟩ := h
    exact ⟨ab, nb, cb, ak, nk, ck, h1, h2, h3.1, h4, h5, RdKsS.rd h6⟩
theorem RdKsS.rd {S : Nat → Prop} {w : World} {a : Option Addr} : ∀ {i : Nat} {f : F}, RdKsS S w a i f → RdKs w a i f
  | _, .nil, _ => trivial
  | i, .cons n t r, h => by
    obtain ⟨⟨b, o, c, h1, _, h2, h3, h4, h5⟩, h6⟩ := h
    exact ⟨⟨b, o, c, h1, h2, h3, h4, RdTS.rd h5⟩, RdKsS.rd h6⟩
end

mutual
theorem RdTS.of {w : World} : ∀ {t : T} {c : Array Value}, RdT w t c → RdTS (fun k => k < w.heap.size) w t c
  | .mk .., c, h => by
    obtain ⟨ab, nb, cb, ak, nk, ck, h1, h2, h3, h4, h5, h6⟩ := h
    refine ⟨ab, nb, cb, ak, nk, ck, h1, h2, ⟨h3, fun hn p hp => ?_⟩, h4, h5, RdKsS.of h6⟩
    obtain ⟨b, o, ha, hc⟩ := h3.at 0 hn
    rw [hp] at ha
    obtain rfl := Option.some.inj ha
    have := cell_block hc
    simpa using this
theorem RdKsS.of {w : World} {a : Option Addr} : ∀ {i : Nat} {f : F}, RdKs w a i f → RdKsS (fun k => k < w.heap.size) w a i f
  | _, .nil, _ => trivial
  | i, .cons n t r, h => by
    obtain ⟨⟨b, o, c, h1, h2, h3, h4, h5⟩, h6⟩ := h
    exact ⟨⟨b, o, c, h1, by simpa using cell_block h3, h2, h3, h4, RdTS.of h5⟩, RdKsS.of h6⟩
end

mutual
theorem RdTS.imp {S S' : Nat → Prop} {w : World} (hS : ∀ k, k < w.heap.size → S k → S' k) : ∀ {t : T} {c : Array Value}, RdTS S w t c → RdTS S' w t c
  | .mk .., c, h => by
    obtain ⟨ab, nb, cb, ak, nk, ck, h1, h2, h3, h4, h5, h6⟩ := h
    refine ⟨ab, nb, cb, ak, nk, ck, h1, h2, ⟨h3.1, fun hn p hp => ?_⟩, h4, h5, RdKsS.imp hS h6⟩
    obtain ⟨b, o, ha, hc⟩ := h3.1.at 0 hn
    refine hS _ ?_ (h3.2 hn p hp)
    rw [hp] at ha
    obtain rfl := Option.some.inj ha
    have := cell_block hc
    simpa using this
theorem RdKsS.imp {S S' : Nat → Prop} {w : World} (hS : ∀ k, k < w.heap.size → S k → S' k) {a : Option Addr} : ∀ {i : Nat} {f : F}, RdKsS S w a i f → RdKsS S' w a i f
  | _, .nil, _ => trivial
  | i, .cons n t r, h => by
    obtain ⟨⟨b, o, c, h1, h1', h2, h3, h4, h5⟩, h6⟩ := h
    exact ⟨⟨b, o, c, h1, hS _ (by simpa using cell_block h3) h1', h2, h3, h4, RdTS.imp hS h5⟩, RdKsS.imp hS h6⟩
end

/-- Cells in some blocks stay. -/
def KeepS (S : Nat → Prop) (w w' : World) : Prop := ∀ p v, S p.block → w.cell? p = some v → w'.cell? p = some v

theorem KeepS.below {S : Nat → Prop} {w w' : World} (h : Below w.heap.size w w') : KeepS S w w' := fun p v _ hc => cell_below h hc
theorem KeepS.trans {S : Nat → Prop} {a b c : World} (h : KeepS S a b) (k : KeepS S b c) : KeepS S a c := fun p v hs hc => k p v hs (h p v hs hc)
theorem KeepS.app {S : Nat → Prop} {w w' : World} {v v' : Value} (h : AppF w w' v v') (hS : ∀ k, S k → v.ownBlock ≠ some k) : KeepS S w w' := fun p u hs hc => h.cell hc (hS _ hs)
theorem KeepS.chg {S X : Nat → Prop} {w w' : World} (h : Chg X w w') (hS : ∀ k, S k → ¬ X k) : KeepS S w w' := fun p u hs hc => h.cell (hS _ hs) hc

theorem RdBS.keep {S : Nat → Prop} {w w' : World} (hk : KeepS S w w') {a len l} (h : RdBS S w a len l) : RdBS S w' a len l := by
  refine ⟨⟨h.1.1, h.1.2.1, fun i hi => ?_⟩, h.2⟩
  obtain ⟨b, o, ha, hc⟩ := h.1.at i hi
  exact ⟨b, o, ha, hk ⟨b, o + i, none⟩ _ (h.2 (by omega) ⟨b, o, none⟩ ha) hc⟩

theorem cell_of {w w' : World} {S : Nat → Prop} (hk : KeepS S w w') {p : Addr} {x : Option Value} (hS : S p.block) (h : w.cell? p = x) (hx : x.isSome = true) : w'.cell? p = x := by
  cases x with
  | none => simp at hx
  | some u => exact hk p u hS h

theorem RdTS.size {S : Nat → Prop} {w : World} {t : T} {c : Array Value} (h : RdTS S w t c) : c.size = 9 := RdT.size h.rd

mutual
theorem RdTS.keep {S : Nat → Prop} {w w' : World} (hk : KeepS S w w') : ∀ {t : T} {c : Array Value}, RdTS S w t c → RdTS S w' t c
  | .mk .., c, h => by
    obtain ⟨ab, nb, cb, ak, nk, ck, h1, h2, h3, h4, h5, h6⟩ := h
    exact ⟨ab, nb, cb, ak, nk, ck, h1, h2, h3.keep hk, h4, h5, RdKsS.keep hk h6⟩
theorem RdKsS.keep {S : Nat → Prop} {w w' : World} (hk : KeepS S w w') {a : Option Addr} : ∀ {i : Nat} {f : F}, RdKsS S w a i f → RdKsS S w' a i f
  | _, .nil, _ => trivial
  | i, .cons n t r, h => by
    obtain ⟨⟨b, o, c, h1, h1', h2, h3, h4, h5⟩, h6⟩ := h
    refine ⟨⟨b, o, c, h1, h1', h2, hk _ _ h1' h3, fun j hj => ?_, RdTS.keep hk h5⟩, RdKsS.keep hk h6⟩
    exact cell_of hk (p := ⟨b, o + i * 10 + (j + 1), none⟩) h1' (h4 j hj) (by rw [Array.getElem?_eq_getElem (by rw [h5.size]; exact hj)]; rfl)
end

def F.append : F → F → F
  | .nil, g => g
  | .cons n t r, g => .cons n t (r.append g)

theorem F.append_len : ∀ f g : F, (f.append g).len = f.len + g.len
  | .nil, g => by simp [F.append, F.len]
  | .cons n t r, g => by simp only [F.append, F.len, F.append_len r g]; omega

theorem F.append_nil : ∀ f : F, f.append .nil = f
  | .nil => rfl
  | .cons n t r => by simp only [F.append, F.append_nil r]

theorem F.append_assoc : ∀ f g h : F, (f.append g).append h = f.append (g.append h)
  | .nil, g, h => rfl
  | .cons n t r, g, h => by simp only [F.append, F.append_assoc r g h]

/-- One Kid more. -/
def F.snoc (f : F) (n : ByteArray) (t : T) : F := f.append (.cons n t .nil)
theorem F.snoc_len (f : F) (n : ByteArray) (t : T) : (f.snoc n t).len = f.len + 1 := by unfold F.snoc; rw [F.append_len]; rfl

/-- A field's ten cells. -/
def fcells (n : ByteArray) (c : Array Value) : List Value := .string n :: c.toList

/-- Cells, one behind the other, are those of fields. -/
def KsC (S : Nat → Prop) (w : World) : F → List Value → Prop
  | .nil, xs => xs = []
  | .cons n t r, xs => ∃ c ys, xs = fcells n c ++ ys ∧ RdTS S w t c ∧ n.size ≤ 9223372036854775807 ∧ KsC S w r ys

theorem KsC.length {S : Nat → Prop} {w : World} : ∀ {f : F} {xs : List Value}, KsC S w f xs → xs.length = f.len * 10
  | .nil, xs, h => by have : xs = [] := h; subst this; rfl
  | .cons n t r, xs, h => by
    obtain ⟨c, ys, rfl, h1, _, h2⟩ := h
    have := KsC.length h2
    have hs := h1.size
    simp only [fcells, List.length_append, List.length_cons, Array.length_toList, hs, this, F.len]
    omega

theorem KsC.keep {S : Nat → Prop} {w w' : World} (hk : KeepS S w w') : ∀ {f : F} {xs : List Value}, KsC S w f xs → KsC S w' f xs
  | .nil, xs, h => h
  | .cons n t r, xs, h => by
    obtain ⟨c, ys, rfl, h1, h2, h3⟩ := h
    exact ⟨c, ys, rfl, h1.keep hk, h2, KsC.keep hk h3⟩

theorem KsC.imp {S S' : Nat → Prop} {w : World} (hS : ∀ k, k < w.heap.size → S k → S' k) : ∀ {f : F} {xs : List Value}, KsC S w f xs → KsC S' w f xs
  | .nil, xs, h => h
  | .cons n t r, xs, h => by
    obtain ⟨c, ys, rfl, h1, h2, h3⟩ := h
    exact ⟨c, ys, rfl, h1.imp hS, h2, KsC.imp hS h3⟩

theorem KsC.append {S : Nat → Prop} {w : World} : ∀ {f g : F} {xs ys : List Value}, KsC S w f xs → KsC S w g ys → KsC S w (f.append g) (xs ++ ys)
  | .nil, g, xs, ys, h, k => by have : xs = [] := h; subst this; exact k
  | .cons n t r, g, xs, ys, h, k => by
    obtain ⟨c, zs, rfl, h1, h2, h3⟩ := h
    exact ⟨c, zs ++ ys, by simp, h1, h2, KsC.append h3 k⟩

theorem KsC.one {S : Nat → Prop} {w : World} {n : ByteArray} {t : T} {c : Array Value} (h : RdTS S w t c) (hn : n.size ≤ 9223372036854775807) : KsC S w (.cons n t .nil) (fcells n c) :=
  ⟨c, [], by simp, h, hn, rfl⟩

/-- The cells read as fields. -/
theorem KsC.reads {S S' : Nat → Prop} {w : World} {b o : Nat} (hS : ∀ k, k < w.heap.size → S k → S' k) (hb : S' b) : ∀ {f : F} {xs : List Value} (i : Nat), KsC S w f xs → (∀ j u, xs[j]? = some u → w.cell? ⟨b, o + (i * 10 + j), none⟩ = some u) → RdKsS S' w (some ⟨b, o, none⟩) i f
  | .nil, _, _, _, _ => trivial
  | .cons n t r, xs, i, h, hc => by
    obtain ⟨c, ys, rfl, h1, h2, h3⟩ := h
    have hs := h1.size
    refine ⟨⟨b, o, c, rfl, hb, h2, ?_, fun j hj => ?_, h1.imp hS⟩, KsC.reads hS hb (i + 1) h3 fun j u hu => ?_⟩
    · have := hc 0 (.string n) rfl
      simpa using this
    · have hjc : j < c.size := by omega
      have := hc (j + 1) (c[j]) (by simp [fcells, List.getElem?_append, hs, hj])
      rw [show o + i * 10 + (j + 1) = o + (i * 10 + (j + 1)) from by omega, this, Array.getElem?_eq_getElem hjc]
    · have hl : (fcells n c).length = 10 := by simp [fcells, hs]
      have := hc (10 + j) u (by rw [List.getElem?_append_right (by omega), hl]; simpa using hu)
      rw [show o + ((i + 1) * 10 + j) = o + (i * 10 + (10 + j)) from by omega]
      exact this

/-- A row of Kids of the call's own: it lies in new memory (from B on), what hangs on it in blocks of L, and not in the row's own block. -/
def OwnK (w : World) (B : Nat) (L : Nat → Prop) (v : Value) (f : F) : Prop :=
  ∃ xs S, w.ownsRow B 28 10 v f.len xs ∧ KsC S w f xs ∧ ∀ k, S k → L k ∧ v.ownBlock ≠ some k

theorem OwnK.nil (w : World) (B : Nat) (L : Nat → Prop) : OwnK w B L (.slice none 0 0) .nil := ⟨[], fun _ => False, World.ownsRow_nil _ _ _ _, rfl, fun _ h => h.elim⟩

theorem OwnK.reads {w : World} {B : Nat} {L : Nat → Prop} {v : Value} {f : F} (h : OwnK w B L v f) (hL : ∀ k, B ≤ k → L k) : ∃ a c, v = .slice a f.len c ∧ RdKsS L w a 0 f ∧ Roomy a f.len c ∧ f.len ≤ 9223372036854775807 := by
  obtain ⟨xs, S, ho, hk, hS⟩ := h
  have hlen := hk.length
  rcases ho.2 with ⟨rfl, h0⟩ | ⟨g, cap, cur, rfl, hb, hg, hnc, hcm, hcs, htake⟩
  · have hf : f = .nil := by cases f with
      | nil => rfl
      | cons => simp [F.len] at h0
    subst hf
    exact ⟨none, 0, rfl, trivial, ⟨fun _ => rfl, by simp [F.len]⟩, by simp [F.len]⟩
  · refine ⟨some ⟨g, 0, none⟩, cap, rfl, ?_, ⟨by simp, hnc⟩, by unfold maxLen at hcm; omega⟩
    refine KsC.reads (S := S) (fun k _ h => (hS k h).1) (hL _ hb) 0 hk fun j u hj => ?_
    have hjl : j < xs.length := (List.getElem?_eq_some_iff.1 hj).1
    have := ho.cellAt j (by omega)
    rw [show 0 + (0 * 10 + j) = j by omega, this]
    exact hj

/-- A field that is all zero. -/
def zeroFd : Value := .agg (#[.string ByteArray.empty] ++ valCells 0 0 0 0 ByteArray.empty ByteArray.empty 0 none 0 0 none 0 0)

theorem infoFd : (Try.prog.info? 28).map (fun i => (i.zero, i.size, i.bytes)) = some (some zeroFd, 10, 136) := by kernel_rfl

theorem one_of_cells {S : Nat → Prop} {w : World} : ∀ {f : F} {xs : List Value}, KsC S w f xs → ∀ u ∈ xs, u.oneCell' = true
  | .nil, xs, h, u, hu => by have : xs = [] := h; subst this; simp at hu
  | .cons n t r, xs, h, u, hu => by
    obtain ⟨c, ys, rfl, h1, _, h3⟩ := h
    rw [List.mem_append] at hu
    rcases hu with hu | hu
    · simp only [fcells, List.mem_cons] at hu
      rcases hu with rfl | hu
      · rfl
      · cases t with
        | mk k bits hi lo text more sub bs kids =>
          obtain ⟨ab, nb, cb, ak, nk, ck, rfl, _⟩ := h1
          simp at hu
          rcases hu with rfl | rfl | rfl | rfl | rfl | rfl | rfl | rfl | rfl <;> rfl
    · exact one_of_cells h3 u hu

/-- Fields that came in: their cells. -/
theorem RdKsS.cells {S : Nat → Prop} {w : World} {a : Option Addr} : ∀ {f : F} {i : Nat}, RdKsS S w a i f → ∃ xs, KsC S w f xs ∧ ∀ j u, xs[j]? = some u → ∃ b o, a = some ⟨b, o, none⟩ ∧ w.cell? ⟨b, o + (i * 10 + j), none⟩ = some u
  | .nil, _, _ => ⟨[], rfl, fun j u h => by simp at h⟩
  | .cons n t r, i, h => by
    obtain ⟨⟨b, o, c, h1, h1', h2, h3, h4, h5⟩, h6⟩ := h
    obtain ⟨ys, hy, hc⟩ := RdKsS.cells h6
    have hs := h5.size
    refine ⟨fcells n c ++ ys, ⟨c, ys, rfl, h5, h2, hy⟩, fun j u hj => ?_⟩
    have hl : (fcells n c).length = 10 := by simp [fcells, hs]
    by_cases h10 : j < 10
    · refine ⟨b, o, h1, ?_⟩
      rw [List.getElem?_append_left (by omega)] at hj
      cases j with
      | zero => simp only [fcells, List.getElem?_cons_zero, Option.some.injEq] at hj; subst hj; exact h3
      | succ j =>
        simp only [fcells, List.getElem?_cons_succ, Array.getElem?_toList] at hj
        rw [show o + (i * 10 + (j + 1)) = o + i * 10 + (j + 1) from by omega, h4 j (by omega), hj]
    · obtain ⟨b', o', ha, hcc⟩ := hc (j - 10) u (by rw [List.getElem?_append_right (by omega), hl] at hj; exact hj)
      refine ⟨b', o', ha, ?_⟩
      rw [show o' + (i * 10 + j) = o' + ((i + 1) * 10 + (j - 10)) from by omega]
      exact hcc

/-- Where fields to be appended come from. -/
def SrcK (S : Nat → Prop) (w : World) (sv : Value) (f : F) : Prop := ∃ xs, KsC S w f xs ∧ Src w sv f.len 10 xs

theorem SrcK.of {S : Nat → Prop} {w : World} {a : Option Addr} {c : Nat} {f : F} (h : RdKsS S w a 0 f) (hr : Roomy a f.len c) : SrcK S w (.slice a f.len c) f := by
  obtain ⟨xs, hk, hc⟩ := h.cells
  refine ⟨xs, hk, ?_⟩
  cases a with
  | none =>
    have h0 : f.len = 0 := by have := hr.1 rfl; have := hr.2; omega
    have hf : f = .nil := by cases f with
      | nil => rfl
      | cons => simp [F.len] at h0
    subst hf
    have hx : xs = [] := hk
    subst hx
    exact .inl ⟨by rw [hr.1 rfl]; rfl, rfl, rfl⟩
  | some ad =>
    refine .inr ⟨ad, c, rfl, hk.length, fun j u hj => ?_, one_of_cells hk⟩
    obtain ⟨b, o, ha, hcc⟩ := hc j u hj
    obtain rfl := Option.some.inj ha
    rw [add_at]
    rw [show o + (0 * 10 + j) = o + j by omega] at hcc
    exact hcc

/-- One field, laid in a block of its own. -/
theorem SrcK.one {S : Nat → Prop} {w : World} {g : Nat} {cap : Nat} {n : ByteArray} {t : T} {c : Array Value} (h : RdTS S w t c) (hn : n.size ≤ 9223372036854775807) (hc : ∀ j u, (fcells n c)[j]? = some u → w.cell? ⟨g, j, none⟩ = some u) :
    SrcK S w (.slice (some ⟨g, 0, none⟩) 1 cap) (.cons n t .nil) := by
  have hk := KsC.one (n := n) h hn
  refine ⟨fcells n c, hk, .inr ⟨_, cap, rfl, hk.length, fun j u hj => ?_, one_of_cells hk⟩⟩
  rw [add_at, Nat.zero_add]
  exact hc j u hj

theorem OwnK.app {w w' : World} {B : Nat} {L : Nat → Prop} {v v' : Value} {f g : F} {xs ys : List Value} {S S1 : Nat → Prop} (hk : KsC S w f xs) (hS : ∀ k, S k → L k ∧ v.ownBlock ≠ some k) (hg : KsC S1 w g ys) (hS1 : ∀ k, S1 k → L k ∧ v.ownBlock ≠ some k)
    (ho : w'.ownsRow B 28 10 v' (f.len + g.len) (xs ++ ys)) (ha : AppF w w' v v') : OwnK w' B L v' (f.append g) := by
  have h1 := (hk.imp (S' := fun k => (S k ∨ S1 k) ∧ k < w.heap.size) (fun k hl h => ⟨.inl h, hl⟩)).append (hg.imp (S' := fun k => (S k ∨ S1 k) ∧ k < w.heap.size) (fun k hl h => ⟨.inr h, hl⟩))
  have hno : ∀ k, ((S k ∨ S1 k) ∧ k < w.heap.size) → L k ∧ v.ownBlock ≠ some k := fun k h => by rcases h.1 with h | h; exact hS k h; exact hS1 k h
  refine ⟨_, _, by rw [F.append_len]; exact ho, h1.keep (KeepS.app ha fun k h => (hno k h).2), fun k h => ⟨(hno k h).1, ?_⟩⟩
  exact AppF.far ha (hno k h).2 h.2

theorem wpList_appK {w : World} {ops : Array Oper} {rest : List Oper} {o : Oper} {a : Act} {Q : Exit → Act → World → Prop} (hgd : o.guard = none) (s x : Operand)
    (ho : o.op = .call { callee := .builtin .append, args := #[s, x], argTypes := #[24, 24] })
    {B : Nat} {L : Nat → Prop} {v : Value} {f : F} (hs : a.eval s = v) (hown : OwnK w B L v f) {sv : Value} {g : F} {S1 : Nat → Prop} (hx : a.eval x = sv) (hsrc : SrcK S1 w sv g) (hS1 : ∀ k, S1 k → L k ∧ v.ownBlock ≠ some k)
    (hb : f.len + g.len ≤ 1000000000) (hbase : B ≤ w.heap.size)
    (h : ∀ v' w', OwnK w' B L v' (f.append g) → AppF w w' v v' → wpList Try.prog ops Q rest (a.put o.dst v') w') : wpList Try.prog ops Q (o :: rest) a w := by
  obtain ⟨xs, S, ho', hk, hS⟩ := hown
  obtain ⟨ys, hg, hsr⟩ := hsrc
  exact wpList_app Try.underlying24 infoFd rfl (by omega) hgd s x ho hs ho' hx hsr (by unfold maxLen; omega) (by omega) hbase
    fun v' w' h1 h2 => h v' w' (OwnK.app hk hS hg hS1 h1 h2) h2

theorem step_appK {w : World} {ops : Array Oper} {o : Oper} {a : Act} {K : Act → World → Prop} {Q : Exit → Act → World → Prop} {E : Prop} (hgd : o.guard = none) (s x : Operand)
    (ho : o.op = .call { callee := .builtin .append, args := #[s, x], argTypes := #[24, 24] })
    {B : Nat} {L : Nat → Prop} {v : Value} {f : F} (hs : a.eval s = v) (hown : OwnK w B L v f) {sv : Value} {g : F} {S1 : Nat → Prop} (hx : a.eval x = sv) (hsrc : SrcK S1 w sv g) (hS1 : ∀ k, S1 k → L k ∧ v.ownBlock ≠ some k)
    (hb : f.len + g.len ≤ 1000000000) (hbase : B ≤ w.heap.size)
    (h : ∀ v' w', OwnK w' B L v' (f.append g) → AppF w w' v v' → K (a.put o.dst v') w') : if Region.wanted o (yielded ops a.tmps) = true then Oper.wp Try.prog o a w K Q else E := by
  obtain ⟨xs, S, ho', hk, hS⟩ := hown
  obtain ⟨ys, hg, hsr⟩ := hsrc
  exact step_app Try.underlying24 infoFd rfl (by omega) hgd s x ho hs ho' hx hsr (by unfold maxLen; omega) (by omega) hbase
    fun v' w' h1 h2 => h v' w' (OwnK.app hk hS hg hS1 h1 h2) h2

theorem OwnK.keep {w w' : World} {B : Nat} {L : Nat → Prop} {v : Value} {f : F} (h : OwnK w B L v f) (hb : Below w.heap.size w w') : OwnK w' B L v f := by
  obtain ⟨xs, S, h1, h2, h3⟩ := h
  exact ⟨xs, S, owns_keep h1 hb, h2.keep (KeepS.below hb), h3⟩

theorem OwnK.far {w : World} {B : Nat} {L : Nat → Prop} {v : Value} {f : F} (h : OwnK w B L v f) : ∀ k, v.ownBlock = some k → B ≤ k ∧ k < w.heap.size := by
  obtain ⟨xs, S, h1, _⟩ := h
  exact owns_lt h1

theorem ownK_empty {w : World} {B g : Nat} {L : Nat → Prop} (h : w.heap[g]? = some (.cells #[] 28 (0, 0))) (hB : B ≤ g) : OwnK w B L (.slice (some ⟨g, 0, none⟩) 0 0) .nil :=
  ⟨[], fun _ => False, ⟨rfl, .inr ⟨g, 0, #[], rfl, hB, h, Nat.le_refl _, by unfold maxLen; omega, rfl, rfl⟩⟩, rfl, fun _ h => h.elim⟩

theorem new_cells (w : World) (cs : Array Value) (t : TypeId) (xs : List Value) (hx : xs = cs.toList) (j : Nat) (u : Value) (h : xs[j]? = some u) : (w.alloc (.cells cs t)).cell? ⟨w.heap.size, j, none⟩ = some u := by
  subst hx
  rw [Array.getElem?_toList] at h
  simpa [go_sem] using h

end Go.Proofs.Ytiodjhcjfbnocaa
