/- Items, and how they lie in memory; rows of Items of the call's own. -/
import Derived.Test.YtambhapgjonmmaaOpen
import Derived.Test.YtambhapgjonmmaaApp
namespace Go.Proofs.Ytambhapgjonmmaa
open Go.RowKit
set_option linter.unusedVariables false
set_option linter.unusedSimpArgs false

mutual
/-- An item. -/
inductive I where
  | mk (k : Int) (n : Nat) (bs : List UInt8) (text : ByteArray) (kids : IL)
/-- Its Kids. -/
inductive IL where
  | nil
  | cons (x : I) (r : IL)
end
def I.kids : I → IL | .mk _ _ _ _ f => f
def I.kind : I → Int | .mk k _ _ _ _ => k
def IL.len : IL → Nat
  | .nil => 0
  | .cons _ r => r.len + 1
def IL.get? : IL → Nat → Option I
  | .nil, _ => none
  | .cons x _, 0 => some x
  | .cons _ r, i + 1 => r.get? i
def IL.drop : Nat → IL → IL
  | 0, m => m
  | _ + 1, .nil => .nil
  | k + 1, .cons _ r => r.drop k
def IL.append : IL → IL → IL
  | .nil, g => g
  | .cons x r, g => .cons x (r.append g)
mutual
def I.wt : I → Nat
  | .mk _ _ bs text kids => 2 + text.size + bs.length + kids.wt
def IL.wt : IL → Nat
  | .nil => 0
  | .cons x r => x.wt + r.wt
end
theorem IL.get_some : ∀ (m : IL) (i : Nat), i < m.len → ∃ x, m.get? i = some x
  | .nil, i, h => by simp [IL.len] at h
  | .cons x r, 0, h => ⟨x, rfl⟩
  | .cons x r, i + 1, h => IL.get_some r i (by simp only [IL.len] at h; omega)
theorem IL.drop_get : ∀ (m : IL) (k : Nat) (x : I), m.get? k = some x → m.drop k = .cons x (m.drop (k + 1))
  | .nil, k, x, h => by simp [IL.get?] at h
  | .cons y r, 0, x, h => by
    simp only [IL.get?, Option.some.injEq] at h
    subst h
    simp [IL.drop]
  | .cons y r, k + 1, x, h => IL.drop_get r k x h
theorem IL.drop_len : ∀ (m : IL) (k : Nat), m.len ≤ k → m.drop k = .nil
  | .nil, 0, _ => rfl
  | .nil, k + 1, _ => rfl
  | .cons _ r, 0, h => by simp [IL.len] at h
  | .cons _ r, k + 1, h => IL.drop_len r k (by simp only [IL.len] at h; omega)
theorem IL.append_len : ∀ f g : IL, (f.append g).len = f.len + g.len
  | .nil, g => by simp [IL.append, IL.len]
  | .cons x r, g => by simp only [IL.append, IL.len, IL.append_len r g]; omega
theorem IL.append_nil : ∀ f : IL, f.append .nil = f
  | .nil => rfl
  | .cons x r => by simp only [IL.append, IL.append_nil r]
theorem IL.append_assoc : ∀ f g h : IL, (f.append g).append h = f.append (g.append h)
  | .nil, g, h => rfl
  | .cons x r, g, h => by simp only [IL.append, IL.append_assoc r g h]
theorem I.wt_pos : ∀ x : I, 2 ≤ x.wt
  | .mk .. => by simp only [I.wt]; omega
theorem IL.len_wt : ∀ f : IL, f.len * 2 ≤ f.wt
  | .nil => by simp [IL.len]
  | .cons x r => by have := IL.len_wt r; have := I.wt_pos x; simp only [IL.len, IL.wt]; omega
theorem IL.wt_get : ∀ (f : IL) (i : Nat) (x : I), f.get? i = some x → x.wt ≤ f.wt ∧ (f.drop i).wt = x.wt + (f.drop (i + 1)).wt
  | .nil, i, x, h => by simp [IL.get?] at h
  | .cons y r, 0, x, h => by
    simp only [IL.get?, Option.some.injEq] at h
    subst h
    simp [IL.drop, IL.wt]
  | .cons y r, i + 1, x, h => by
    have := IL.wt_get r i x h
    simp only [IL.wt, IL.drop]
    omega
theorem IL.drop_wt : ∀ (f : IL) (i : Nat), (f.drop i).wt ≤ f.wt
  | .nil, 0 => Nat.le_refl _
  | .nil, i + 1 => Nat.le_refl _
  | .cons y r, 0 => Nat.le_refl _
  | .cons y r, i + 1 => by have := IL.drop_wt r i; simp only [IL.wt, IL.drop]; omega

/-- A slice's room: none at nil, and as much as it is long. -/
def Roomy (a : Option Addr) (n c : Nat) : Prop := (a = none → c = 0) ∧ n ≤ c
/-- The five cells of an item. -/
abbrev itCells (k : Int) (n : Nat) (ab : Option Addr) (nb cb : Nat) (text : ByteArray) (ak : Option Addr) (nk ck : Nat) : Array Value :=
  #[.int .i64 k, .int .u64 (n : Nat), .slice ab nb cb, .string text, .slice ak nk ck]
def ItOk (k : Int) (n : Nat) (text : ByteArray) : Prop := (-9223372036854775808 ≤ k ∧ k ≤ 9223372036854775807) ∧ n < okSize ∧ text.size ≤ 9223372036854775807
/-- A slice of bytes that lies in some blocks. -/
def RdBS (S : Nat → Prop) (w : World) (a : Option Addr) (len : Nat) (l : List UInt8) : Prop := RdB w a len l ∧ (0 < len → ∀ p, a = some p → S p.block)

mutual
/-- An item's cells are those of a tree; what hangs on it lies in blocks of S. -/
def RdIt (S : Nat → Prop) (w : World) : I → Array Value → Prop
  | .mk k n bs text kids, c => ∃ ab nb cb ak nk ck, c = itCells k n ab nb cb text ak nk ck ∧ ItOk k n text ∧ RdBS S w ab nb bs ∧ kids.len = nk ∧ (nk ≤ 9223372036854775807 ∧ Roomy ak nk ck ∧ Roomy ab nb cb) ∧ RdIs S w ak 0 kids
def RdIs (S : Nat → Prop) (w : World) (a : Option Addr) : Nat → IL → Prop
  | _, .nil => True
  | i, .cons x r => (∃ b o c, a = some ⟨b, o, none⟩ ∧ S b ∧ (∀ j, j < 5 → w.cell? ⟨b, o + i * 5 + j, none⟩ = c[j]?) ∧ RdIt S w x c) ∧ RdIs S w a (i + 1) r
end
theorem RdIt.size {S : Nat → Prop} {w : World} : ∀ {x : I} {c : Array Value}, RdIt S w x c → c.size = 5
  | .mk .., c, h => by obtain ⟨_, _, _, _, _, _, rfl, _⟩ := h; rfl
theorem RdIt.cell0 {S : Nat → Prop} {w : World} {b o : Nat} {x : I} {c : Array Value} (h : ∀ j, j < 5 → w.cell? ⟨b, o + j, none⟩ = c[j]?) (hx : RdIt S w x c) : b < w.heap.size := by
  have h0 := h 0 (by omega)
  have hs := hx.size
  rw [Array.getElem?_eq_getElem (by omega)] at h0
  simpa using cell_block h0

mutual
theorem RdIt.imp {S S' : Nat → Prop} {w : World} (hS : ∀ k, k < w.heap.size → S k → S' k) : ∀ {x : I} {c : Array Value}, RdIt S w x c → RdIt S' w x c
  | .mk .., c, h => by
    obtain ⟨ab, nb, cb, ak, nk, ck, h1, h2, h3, h4, h5, h6⟩ := h
    refine ⟨ab, nb, cb, ak, nk, ck, h1, h2, ⟨h3.1, fun hn p hp => ?_⟩, h4, h5, RdIs.imp hS h6⟩
    obtain ⟨b, o, ha, hc⟩ := h3.1.at 0 hn
    refine hS _ ?_ (h3.2 hn p hp)
    rw [hp] at ha
    obtain rfl := Option.some.inj ha
    have := cell_block hc
    simpa using this
theorem RdIs.imp {S S' : Nat → Prop} {w : World} (hS : ∀ k, k < w.heap.size → S k → S' k) {a : Option Addr} : ∀ {i : Nat} {f : IL}, RdIs S w a i f → RdIs S' w a i f
  | _, .nil, _ => trivial
  | i, .cons x r, h => by
    obtain ⟨⟨b, o, c, h1, h1', h4, h5⟩, h6⟩ := h
    exact ⟨⟨b, o, c, h1, hS _ (RdIt.cell0 h4 h5) h1', h4, RdIt.imp hS h5⟩, RdIs.imp hS h6⟩
end

/-- Cells in some blocks stay. -/
def KeepS (S : Nat → Prop) (w w' : World) : Prop := ∀ p v, S p.block → w.cell? p = some v → w'.cell? p = some v
theorem KeepS.below {S : Nat → Prop} {w w' : World} (h : Below w.heap.size w w') : KeepS S w w' := fun p v _ hc => cell_below h hc
theorem KeepS.trans {S : Nat → Prop} {a b c : World} (h : KeepS S a b) (k : KeepS S b c) : KeepS S a c := fun p v hs hc => k p v hs (h p v hs hc)
theorem KeepS.app {S : Nat → Prop} {w w' : World} {v v' : Value} (h : AppF w w' v v') (hS : ∀ k, S k → v.ownBlock ≠ some k) : KeepS S w w' := fun p u hs hc => h.cell hc (hS _ hs)
theorem KeepS.chg {S X : Nat → Prop} {w w' : World} (h : Chg X w w') (hS : ∀ k, S k → ¬ X k) : KeepS S w w' := fun p u hs hc => h.cell (hS _ hs) hc
theorem RdBS.keep {S : Nat → Prop} {w w' : World} (hk : KeepS S w w') {a len l} (h : RdBS S w a len l) : RdBS S w' a len l := by
  refine ⟨⟨h.1.1, h.1.2.1, fun i hi => ?_⟩, h.2⟩
  obtain ⟨b, o, ha, hc⟩ := h.1.at i hi
  exact ⟨b, o, ha, hk ⟨b, o + i, none⟩ _ (h.2 (by omega) ⟨b, o, none⟩ ha) hc⟩
theorem cell_of {w w' : World} {S : Nat → Prop} (hk : KeepS S w w') {p : Addr} {x : Option Value} (hS : S p.block) (h : w.cell? p = x) (hx : x.isSome = true) : w'.cell? p = x := by
  cases x with
  | none => simp at hx
  | some u => exact hk p u hS h

mutual
theorem RdIt.keep {S : Nat → Prop} {w w' : World} (hk : KeepS S w w') : ∀ {x : I} {c : Array Value}, RdIt S w x c → RdIt S w' x c
  | .mk .., c, h => by
    obtain ⟨ab, nb, cb, ak, nk, ck, h1, h2, h3, h4, h5, h6⟩ := h
    exact ⟨ab, nb, cb, ak, nk, ck, h1, h2, h3.keep hk, h4, h5, RdIs.keep hk h6⟩
theorem RdIs.keep {S : Nat → Prop} {w w' : World} (hk : KeepS S w w') {a : Option Addr} : ∀ {i : Nat} {f : IL}, RdIs S w a i f → RdIs S w' a i f
  | _, .nil, _ => trivial
  | i, .cons x r, h => by
    obtain ⟨⟨b, o, c, h1, h1', h4, h5⟩, h6⟩ := h
    refine ⟨⟨b, o, c, h1, h1', fun j hj => ?_, RdIt.keep hk h5⟩, RdIs.keep hk h6⟩
    exact cell_of hk (p := ⟨b, o + i * 5 + j, none⟩) h1' (h4 j hj) (by rw [Array.getElem?_eq_getElem (by rw [h5.size]; exact hj)]; rfl)
end
theorem RdIt.below {S : Nat → Prop} {w w' : World} {x : I} {c : Array Value} (h : RdIt S w x c) (hb : Below w.heap.size w w') : RdIt S w' x c := h.keep (KeepS.below hb)
theorem RdIs.below {S : Nat → Prop} {w w' : World} {a : Option Addr} {i : Nat} {f : IL} (h : RdIs S w a i f) (hb : Below w.heap.size w w') : RdIs S w' a i f := h.keep (KeepS.below hb)

/-- The i-th Kid, as it lies. -/
def KidI (S : Nat → Prop) (w : World) (a : Option Addr) (i : Nat) (x : I) : Prop :=
  ∃ b o c, a = some ⟨b, o, none⟩ ∧ S b ∧ (∀ j, j < 5 → w.cell? ⟨b, o + i * 5 + j, none⟩ = c[j]?) ∧ RdIt S w x c
theorem RdIs.atFrom {S : Nat → Prop} {w : World} {a : Option Addr} : ∀ {f : IL} {i j : Nat} {x : I}, RdIs S w a i f → f.get? j = some x → KidI S w a (i + j) x
  | .nil, i, j, x, h, hj => by simp [IL.get?] at hj
  | .cons y r, i, 0, x, h, hj => by
    simp only [IL.get?, Option.some.injEq] at hj
    subst hj
    exact h.1
  | .cons y r, i, j + 1, x, h, hj => by
    have := RdIs.atFrom (i := i + 1) h.2 hj
    rwa [show i + 1 + j = i + (j + 1) from by omega] at this
theorem RdIs.at {S : Nat → Prop} {w : World} {a : Option Addr} {f : IL} {j : Nat} {x : I} (h : RdIs S w a 0 f) (hj : f.get? j = some x) : KidI S w a j x := by
  have := RdIs.atFrom h hj
  rwa [Nat.zero_add] at this
theorem RdIs.of {S : Nat → Prop} {w : World} {a : Option Addr} : ∀ {f : IL} {i : Nat}, (∀ j x, f.get? j = some x → KidI S w a (i + j) x) → RdIs S w a i f
  | .nil, _, _ => trivial
  | .cons x r, i, h => ⟨h 0 x rfl, RdIs.of fun j x' hj => by have := h (j + 1) x' hj; rwa [show i + (j + 1) = i + 1 + j from by omega] at this⟩
/-- The Kid's cells, one by one. -/
theorem KidI.cells {S : Nat → Prop} {w : World} {a : Option Addr} {i : Nat} {x : I} (h : KidI S w a i x) :
    ∃ (b o : Nat) (k : Int) (n : Nat) (bs : List UInt8) (text : ByteArray) (kids : IL) (ab : Option Addr) (nb cb : Nat) (ak : Option Addr) (nk ck : Nat),
      a = some ⟨b, o, none⟩ ∧ x = .mk k n bs text kids ∧ b < w.heap.size ∧ RdIt S w x (itCells k n ab nb cb text ak nk ck) ∧
      w.cell? ⟨b, o + i * 5, none⟩ = some (.int .i64 k) ∧ w.cell? ⟨b, o + i * 5 + 1, none⟩ = some (.int .u64 (n : Nat)) ∧ w.cell? ⟨b, o + i * 5 + 2, none⟩ = some (.slice ab nb cb) ∧
      w.cell? ⟨b, o + i * 5 + 3, none⟩ = some (.string text) ∧ w.cell? ⟨b, o + i * 5 + 4, none⟩ = some (.slice ak nk ck) := by
  obtain ⟨b, o, c, h1, _, h4, h5⟩ := h
  match x, h5 with
  | .mk k n bs text kids, h5 =>
    have h5' := h5
    obtain ⟨ab, nb, cb, ak, nk, ck, rfl, _⟩ := h5
    exact ⟨b, o, k, n, bs, text, kids, ab, nb, cb, ak, nk, ck, h1, rfl, RdIt.cell0 h4 h5', h5', h4 0 (by omega), h4 1 (by omega), h4 2 (by omega), h4 3 (by omega), h4 4 (by omega)⟩
theorem RdIt.shape {S : Nat → Prop} {w : World} {x : I} {c : Array Value} (h : RdIt S w x c) : ∃ k n ab nb cb text ak nk ck, c = itCells k n ab nb cb text ak nk ck := by
  cases x with
  | mk k n bs text kids =>
    obtain ⟨ab, nb, cb, ak, nk, ck, rfl, _⟩ := h
    exact ⟨_, _, _, _, _, _, _, _, _, rfl⟩

/-- Cells, one behind the other, are those of items. -/
def IsC (S : Nat → Prop) (w : World) : IL → List Value → Prop
  | .nil, xs => xs = []
  | .cons x r, xs => ∃ c ys, xs = Array.toList c ++ ys ∧ RdIt S w x c ∧ IsC S w r ys
theorem IsC.length {S : Nat → Prop} {w : World} : ∀ {f : IL} {xs : List Value}, IsC S w f xs → xs.length = f.len * 5
  | .nil, xs, h => by have : xs = [] := h; subst this; rfl
  | .cons x r, xs, h => by
    obtain ⟨c, ys, rfl, h1, h2⟩ := h
    have := IsC.length h2
    have hs := h1.size
    simp only [List.length_append, Array.length_toList, hs, this, IL.len]
    omega
theorem IsC.keep {S : Nat → Prop} {w w' : World} (hk : KeepS S w w') : ∀ {f : IL} {xs : List Value}, IsC S w f xs → IsC S w' f xs
  | .nil, xs, h => h
  | .cons x r, xs, h => by
    obtain ⟨c, ys, rfl, h1, h3⟩ := h
    exact ⟨c, ys, rfl, h1.keep hk, IsC.keep hk h3⟩
theorem IsC.imp {S S' : Nat → Prop} {w : World} (hS : ∀ k, k < w.heap.size → S k → S' k) : ∀ {f : IL} {xs : List Value}, IsC S w f xs → IsC S' w f xs
  | .nil, xs, h => h
  | .cons x r, xs, h => by
    obtain ⟨c, ys, rfl, h1, h3⟩ := h
    exact ⟨c, ys, rfl, h1.imp hS, IsC.imp hS h3⟩
theorem IsC.append {S : Nat → Prop} {w : World} : ∀ {f g : IL} {xs ys : List Value}, IsC S w f xs → IsC S w g ys → IsC S w (f.append g) (xs ++ ys)
  | .nil, g, xs, ys, h, k => by have : xs = [] := h; subst this; exact k
  | .cons x r, g, xs, ys, h, k => by
    obtain ⟨c, zs, rfl, h1, h3⟩ := h
    exact ⟨c, zs ++ ys, by simp, h1, IsC.append h3 k⟩
theorem IsC.one {S : Nat → Prop} {w : World} {x : I} {c : Array Value} (h : RdIt S w x c) : IsC S w (.cons x .nil) c.toList := ⟨c, [], by simp, h, rfl⟩
theorem IsC.reads {S S' : Nat → Prop} {w : World} {b o : Nat} (hS : ∀ k, k < w.heap.size → S k → S' k) (hb : S' b) : ∀ {f : IL} {xs : List Value} (i : Nat), IsC S w f xs → (∀ j u, xs[j]? = some u → w.cell? ⟨b, o + (i * 5 + j), none⟩ = some u) → RdIs S' w (some ⟨b, o, none⟩) i f
  | .nil, _, _, _, _ => trivial
  | .cons x r, xs, i, h, hc => by
    obtain ⟨c, ys, rfl, h1, h3⟩ := h
    have hs := h1.size
    refine ⟨⟨b, o, c, rfl, hb, fun j hj => ?_, h1.imp hS⟩, IsC.reads hS hb (i + 1) h3 fun j u hu => ?_⟩
    · have hjc : j < c.size := by omega
      have := hc j (c[j]) (by simp [List.getElem?_append, hs, hj])
      rw [show o + i * 5 + j = o + (i * 5 + j) from by omega, this, Array.getElem?_eq_getElem hjc]
    · have hl : c.toList.length = 5 := by simp [hs]
      have := hc (5 + j) u (by rw [List.getElem?_append_right (by omega), hl]; simpa using hu)
      rw [show o + ((i + 1) * 5 + j) = o + (i * 5 + (5 + j)) from by omega]
      exact this

/-- A row of Items of the call's own. -/
def OwnI (w : World) (B : Nat) (L : Nat → Prop) (v : Value) (f : IL) : Prop :=
  ∃ xs S, w.ownsRow B 26 5 v f.len xs ∧ IsC S w f xs ∧ ∀ k, S k → L k ∧ v.ownBlock ≠ some k
theorem OwnI.nil (w : World) (B : Nat) (L : Nat → Prop) : OwnI w B L (.slice none 0 0) .nil := ⟨[], fun _ => False, World.ownsRow_nil _ _ _ _, rfl, fun _ h => h.elim⟩
theorem OwnI.reads {w : World} {B : Nat} {L : Nat → Prop} {v : Value} {f : IL} (h : OwnI w B L v f) (hL : ∀ k, B ≤ k → L k) : ∃ a c, v = .slice a f.len c ∧ RdIs L w a 0 f ∧ Roomy a f.len c ∧ f.len ≤ 9223372036854775807 := by
  obtain ⟨xs, S, ho, hk, hS⟩ := h
  have hlen := hk.length
  rcases ho.2 with ⟨rfl, h0⟩ | ⟨g, cap, cur, rfl, hb, hg, hnc, hcm, hcs, htake⟩
  · have hf : f = .nil := by cases f with
      | nil => rfl
      | cons => simp [IL.len] at h0
    subst hf
    exact ⟨none, 0, rfl, trivial, ⟨fun _ => rfl, by simp [IL.len]⟩, by simp [IL.len]⟩
  · refine ⟨some ⟨g, 0, none⟩, cap, rfl, ?_, ⟨by simp, hnc⟩, by unfold maxLen at hcm; omega⟩
    refine IsC.reads (S := S) (fun k _ h => (hS k h).1) (hL _ hb) 0 hk fun j u hj => ?_
    have hjl : j < xs.length := (List.getElem?_eq_some_iff.1 hj).1
    have := ho.cellAt j (by omega)
    rw [show 0 + (0 * 5 + j) = j by omega, this]
    exact hj
/-- An item that is all zero. -/
def zeroIt : Value := .agg (itCells 0 0 none 0 0 ByteArray.empty none 0 0)
theorem infoIt : (Try.prog.info? 26).map (fun i => (i.zero, i.size, i.bytes)) = some (some zeroIt, 5, 80) := by kernel_rfl
theorem one_of_cells {S : Nat → Prop} {w : World} : ∀ {f : IL} {xs : List Value}, IsC S w f xs → ∀ u ∈ xs, u.oneCell' = true
  | .nil, xs, h, u, hu => by have : xs = [] := h; subst this; simp at hu
  | .cons x r, xs, h, u, hu => by
    obtain ⟨c, ys, rfl, h1, h3⟩ := h
    rw [List.mem_append] at hu
    rcases hu with hu | hu
    · obtain ⟨k, n, ab, nb, cb, text, ak, nk, ck, rfl⟩ := h1.shape
      simp at hu
      rcases hu with rfl | rfl | rfl | rfl | rfl <;> rfl
    · exact one_of_cells h3 u hu
/-- Where Items to be appended come from. -/
def SrcI (S : Nat → Prop) (w : World) (sv : Value) (f : IL) : Prop := ∃ xs, IsC S w f xs ∧ Src w sv f.len 5 xs
/-- One Item, laid in a block of its own. -/
theorem SrcI.one {S : Nat → Prop} {w : World} {g : Nat} {cap : Nat} {x : I} {c : Array Value} (h : RdIt S w x c) (hc : ∀ j u, c.toList[j]? = some u → w.cell? ⟨g, j, none⟩ = some u) :
    SrcI S w (.slice (some ⟨g, 0, none⟩) 1 cap) (.cons x .nil) := by
  have hk := IsC.one h
  refine ⟨c.toList, hk, .inr ⟨_, cap, rfl, hk.length, fun j u hj => ?_, one_of_cells hk⟩⟩
  rw [add_at, Nat.zero_add]
  exact hc j u hj
theorem OwnI.app {w w' : World} {B : Nat} {L : Nat → Prop} {v v' : Value} {f g : IL} {xs ys : List Value} {S S1 : Nat → Prop} (hk : IsC S w f xs) (hS : ∀ k, S k → L k ∧ v.ownBlock ≠ some k) (hg : IsC S1 w g ys) (hS1 : ∀ k, S1 k → L k ∧ v.ownBlock ≠ some k)
    (ho : w'.ownsRow B 26 5 v' (f.len + g.len) (xs ++ ys)) (ha : AppF w w' v v') : OwnI w' B L v' (f.append g) := by
  have h1 := (hk.imp (S' := fun k => (S k ∨ S1 k) ∧ k < w.heap.size) (fun k hl h => ⟨.inl h, hl⟩)).append (hg.imp (S' := fun k => (S k ∨ S1 k) ∧ k < w.heap.size) (fun k hl h => ⟨.inr h, hl⟩))
  have hno : ∀ k, ((S k ∨ S1 k) ∧ k < w.heap.size) → L k ∧ v.ownBlock ≠ some k := fun k h => by rcases h.1 with h | h; exact hS k h; exact hS1 k h
  refine ⟨_, _, by rw [IL.append_len]; exact ho, h1.keep (KeepS.app ha fun k h => (hno k h).2), fun k h => ⟨(hno k h).1, ?_⟩⟩
  exact AppF.far ha (hno k h).2 h.2
theorem wpList_appI {w : World} {ops : Array Oper} {rest : List Oper} {o : Oper} {a : Act} {Q : Exit → Act → World → Prop} (hgd : o.guard = none) (s x : Operand)
    (ho : o.op = .call { callee := .builtin .append, args := #[s, x], argTypes := #[24, 24] })
    {B : Nat} {L : Nat → Prop} {v : Value} {f : IL} (hs : a.eval s = v) (hown : OwnI w B L v f) {sv : Value} {g : IL} {S1 : Nat → Prop} (hx : a.eval x = sv) (hsrc : SrcI S1 w sv g) (hS1 : ∀ k, S1 k → L k ∧ v.ownBlock ≠ some k)
    (hb : f.len + g.len ≤ 1000000000) (hbase : B ≤ w.heap.size)
    (h : ∀ v' w', OwnI w' B L v' (f.append g) → AppF w w' v v' → wpList Try.prog ops Q rest (a.put o.dst v') w') : wpList Try.prog ops Q (o :: rest) a w := by
  obtain ⟨xs, S, ho', hk, hS⟩ := hown
  obtain ⟨ys, hg, hsr⟩ := hsrc
  exact wpList_app Try.underlying24 infoIt rfl (by omega) hgd s x ho hs ho' hx hsr (by unfold maxLen; omega) (by omega) hbase
    fun v' w' h1 h2 => h v' w' (OwnI.app hk hS hg hS1 h1 h2) h2
theorem step_appI {w : World} {ops : Array Oper} {o : Oper} {a : Act} {K : Act → World → Prop} {Q : Exit → Act → World → Prop} {E : Prop} (hgd : o.guard = none) (s x : Operand)
    (ho : o.op = .call { callee := .builtin .append, args := #[s, x], argTypes := #[24, 24] })
    {B : Nat} {L : Nat → Prop} {v : Value} {f : IL} (hs : a.eval s = v) (hown : OwnI w B L v f) {sv : Value} {g : IL} {S1 : Nat → Prop} (hx : a.eval x = sv) (hsrc : SrcI S1 w sv g) (hS1 : ∀ k, S1 k → L k ∧ v.ownBlock ≠ some k)
    (hb : f.len + g.len ≤ 1000000000) (hbase : B ≤ w.heap.size)
    (h : ∀ v' w', OwnI w' B L v' (f.append g) → AppF w w' v v' → K (a.put o.dst v') w') : if Region.wanted o (yielded ops a.tmps) = true then Oper.wp Try.prog o a w K Q else E := by
  obtain ⟨xs, S, ho', hk, hS⟩ := hown
  obtain ⟨ys, hg, hsr⟩ := hsrc
  exact step_app Try.underlying24 infoIt rfl (by omega) hgd s x ho hs ho' hx hsr (by unfold maxLen; omega) (by omega) hbase
    fun v' w' h1 h2 => h v' w' (OwnI.app hk hS hg hS1 h1 h2) h2
theorem OwnI.keep {w w' : World} {B : Nat} {L : Nat → Prop} {v : Value} {f : IL} (h : OwnI w B L v f) (hb : Below w.heap.size w w') : OwnI w' B L v f := by
  obtain ⟨xs, S, h1, h2, h3⟩ := h
  exact ⟨xs, S, owns_keep h1 hb, h2.keep (KeepS.below hb), h3⟩
theorem OwnI.far {w : World} {B : Nat} {L : Nat → Prop} {v : Value} {f : IL} (h : OwnI w B L v f) : ∀ k, v.ownBlock = some k → B ≤ k ∧ k < w.heap.size := by
  obtain ⟨xs, S, h1, _⟩ := h
  exact owns_lt h1
theorem new_cells (w : World) (cs : Array Value) (t : TypeId) (xs : List Value) (hx : xs = cs.toList) (j : Nat) (u : Value) (h : xs[j]? = some u) : (w.alloc (.cells cs t)).cell? ⟨w.heap.size, j, none⟩ = some u := by
  subst hx
  rw [Array.getElem?_toList] at h
  simpa [go_sem] using h

end Go.Proofs.Ytambhapgjonmmaa
