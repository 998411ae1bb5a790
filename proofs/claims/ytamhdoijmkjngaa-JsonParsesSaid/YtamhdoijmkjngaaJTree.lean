/- Trees of JSON, and how they lie in memory; rows of members of the call's own. -/
import Derived.Test.YtamhdoijmkjngaaJsonP
import Derived.Test.YtamhdoijmkjngaaSl
import Derived.Test.YtamhdoijmkjngaaApp
namespace Go.Proofs.Ytamhdoijmkjngaa
open Go.RowKit
set_option linter.unusedVariables false
set_option linter.unusedSimpArgs false

/-- A slice's room: none at nil, and as much as it is long. -/
def RoomJ (a : Option Addr) (n c : Nat) : Prop := (a = none → c = 0) ∧ n ≤ c

/-- The three cells of a value. -/
abbrev jCells (k : Int) (x : ByteArray) (ak : Option Addr) (nk ck : Nat) : Array Value := #[.int .i64 k, .string x, .slice ak nk ck]

mutual
/-- A value's cells are those of a tree; what hangs on it lies in blocks of S. -/
def RdJ (S : Nat → Prop) (w : World) : J → Array Value → Prop
  | .mk k t m, c => ∃ (x : ByteArray) (ak : Option Addr) (nk ck : Nat), c = jCells k x ak nk ck ∧ sl x = t ∧ x.size ≤ 9223372036854775807 ∧ (-9223372036854775808 ≤ k ∧ k ≤ 9223372036854775807) ∧ m.len = nk ∧ (nk ≤ 9223372036854775807 ∧ RoomJ ak nk ck) ∧ RdM S w ak 0 m
def RdM (S : Nat → Prop) (w : World) (a : Option Addr) : Nat → M → Prop
  | _, .nil => True
  | i, .cons n v r => (∃ (b o : Nat) (c : Array Value) (y : ByteArray), a = some ⟨b, o, none⟩ ∧ S b ∧ sl y = n ∧ y.size ≤ 9223372036854775807 ∧ w.cell? ⟨b, o + i * 4, none⟩ = some (.string y) ∧ (∀ j, j < 3 → w.cell? ⟨b, o + i * 4 + (j + 1), none⟩ = c[j]?) ∧ RdJ S w v c) ∧ RdM S w a (i + 1) r
end

theorem RdJ.size {S : Nat → Prop} {w : World} : ∀ {j : J} {c : Array Value}, RdJ S w j c → c.size = 3
  | .mk .., c, h => by obtain ⟨_, _, _, _, rfl, _⟩ := h; rfl

mutual
theorem RdJ.imp {S S' : Nat → Prop} {w : World} (hS : ∀ k, k < w.heap.size → S k → S' k) : ∀ {j : J} {c : Array Value}, RdJ S w j c → RdJ S' w j c
  | .mk .., c, h => by
    obtain ⟨x, ak, nk, ck, h1, h2, h3, h4, h5, h6, h7⟩ := h
    exact ⟨x, ak, nk, ck, h1, h2, h3, h4, h5, h6, RdM.imp hS h7⟩
theorem RdM.imp {S S' : Nat → Prop} {w : World} (hS : ∀ k, k < w.heap.size → S k → S' k) {a : Option Addr} : ∀ {i : Nat} {m : M}, RdM S w a i m → RdM S' w a i m
  | _, .nil, _ => trivial
  | i, .cons n v r, h => by
    obtain ⟨⟨b, o, c, y, h1, h1', h2, h3, h4, h5, h6⟩, h7⟩ := h
    exact ⟨⟨b, o, c, y, h1, hS _ (by simpa using cell_block h4) h1', h2, h3, h4, h5, RdJ.imp hS h6⟩, RdM.imp hS h7⟩
end

/-- Cells in some blocks stay. -/
def KeepS (S : Nat → Prop) (w w' : World) : Prop := ∀ p v, S p.block → w.cell? p = some v → w'.cell? p = some v

theorem KeepS.below {S : Nat → Prop} {w w' : World} (h : Below w.heap.size w w') : KeepS S w w' := fun p v _ hc => cell_below h hc
theorem KeepS.trans {S : Nat → Prop} {a b c : World} (h : KeepS S a b) (k : KeepS S b c) : KeepS S a c := fun p v hs hc => k p v hs (h p v hs hc)
theorem KeepS.app {S : Nat → Prop} {w w' : World} {v v' : Value} (h : AppF w w' v v') (hS : ∀ k, S k → v.ownBlock ≠ some k) : KeepS S w w' := fun p u hs hc => h.cell hc (hS _ hs)
theorem KeepS.chg {S X : Nat → Prop} {w w' : World} (h : Chg X w w') (hS : ∀ k, S k → ¬ X k) : KeepS S w w' := fun p u hs hc => h.cell (hS _ hs) hc

theorem cell_of {w w' : World} {S : Nat → Prop} (hk : KeepS S w w') {p : Addr} {x : Option Value} (hS : S p.block) (h : w.cell? p = x) (hx : x.isSome = true) : w'.cell? p = x := by
  cases x with
  | none => simp at hx
  | some u => exact hk p u hS h

mutual
theorem RdJ.keep {S : Nat → Prop} {w w' : World} (hk : KeepS S w w') : ∀ {j : J} {c : Array Value}, RdJ S w j c → RdJ S w' j c
  | .mk .., c, h => by
    obtain ⟨x, ak, nk, ck, h1, h2, h3, h4, h5, h6, h7⟩ := h
    exact ⟨x, ak, nk, ck, h1, h2, h3, h4, h5, h6, RdM.keep hk h7⟩
theorem RdM.keep {S : Nat → Prop} {w w' : World} (hk : KeepS S w w') {a : Option Addr} : ∀ {i : Nat} {m : M}, RdM S w a i m → RdM S w' a i m
  | _, .nil, _ => trivial
  | i, .cons n v r, h => by
    obtain ⟨⟨b, o, c, y, h1, h1', h2, h3, h4, h5, h6⟩, h7⟩ := h
    refine ⟨⟨b, o, c, y, h1, h1', h2, h3, hk _ _ h1' h4, fun j hj => ?_, RdJ.keep hk h6⟩, RdM.keep hk h7⟩
    exact cell_of hk (p := ⟨b, o + i * 4 + (j + 1), none⟩) h1' (h5 j hj) (by rw [Array.getElem?_eq_getElem (by rw [h6.size]; exact hj)]; rfl)
end

theorem RdJ.below {S : Nat → Prop} {w w' : World} {j : J} {c : Array Value} (h : RdJ S w j c) (hb : Below w.heap.size w w') : RdJ S w' j c := h.keep (KeepS.below hb)
theorem RdM.below {S : Nat → Prop} {w w' : World} {a : Option Addr} {i : Nat} {m : M} (h : RdM S w a i m) (hb : Below w.heap.size w w') : RdM S w' a i m := h.keep (KeepS.below hb)

def M.get? : M → Nat → Option (List UInt8 × J)
  | .nil, _ => none
  | .cons n v _, 0 => some (n, v)
  | .cons _ _ r, i + 1 => r.get? i
def M.drop : Nat → M → M
  | 0, m => m
  | _ + 1, .nil => .nil
  | k + 1, .cons _ _ r => r.drop k
theorem M.get_some : ∀ (m : M) (i : Nat), i < m.len → ∃ x, m.get? i = some x
  | .nil, i, h => by simp [M.len] at h
  | .cons n v r, 0, h => ⟨(n, v), rfl⟩
  | .cons n v r, i + 1, h => M.get_some r i (by simp only [M.len] at h; omega)
theorem M.drop_get : ∀ (m : M) (k : Nat) (n : List UInt8) (v : J), m.get? k = some (n, v) → m.drop k = .cons n v (m.drop (k + 1))
  | .nil, k, n, v, h => by simp [M.get?] at h
  | .cons n' v' r, 0, n, v, h => by
    simp only [M.get?, Option.some.injEq, Prod.mk.injEq] at h
    obtain ⟨rfl, rfl⟩ := h
    simp [M.drop]
  | .cons n' v' r, k + 1, n, v, h => M.drop_get r k n v h
theorem M.drop_len : ∀ (m : M) (k : Nat), m.len ≤ k → m.drop k = .nil
  | .nil, 0, _ => rfl
  | .nil, k + 1, _ => rfl
  | .cons _ _ r, 0, h => by simp [M.len] at h
  | .cons _ _ r, k + 1, h => M.drop_len r k (by simp only [M.len] at h; omega)

/-- The i-th member, as it lies. -/
def KidJ (S : Nat → Prop) (w : World) (a : Option Addr) (i : Nat) (n : List UInt8) (v : J) : Prop :=
  ∃ (b o : Nat) (c : Array Value) (y : ByteArray), a = some ⟨b, o, none⟩ ∧ S b ∧ sl y = n ∧ y.size ≤ 9223372036854775807 ∧ w.cell? ⟨b, o + i * 4, none⟩ = some (.string y) ∧ (∀ j, j < 3 → w.cell? ⟨b, o + i * 4 + (j + 1), none⟩ = c[j]?) ∧ RdJ S w v c

theorem RdM.atFrom {S : Nat → Prop} {w : World} {a : Option Addr} : ∀ {m : M} {i j : Nat} {n : List UInt8} {v : J}, RdM S w a i m → m.get? j = some (n, v) → KidJ S w a (i + j) n v
  | .nil, i, j, n, v, h, hj => by simp [M.get?] at hj
  | .cons n' v' r, i, 0, n, v, h, hj => by
    simp only [M.get?, Option.some.injEq, Prod.mk.injEq] at hj
    obtain ⟨rfl, rfl⟩ := hj
    exact h.1
  | .cons n' v' r, i, j + 1, n, v, h, hj => by
    have := RdM.atFrom (i := i + 1) h.2 hj
    rwa [show i + 1 + j = i + (j + 1) from by omega] at this

theorem RdM.at {S : Nat → Prop} {w : World} {a : Option Addr} {m : M} {j : Nat} {n : List UInt8} {v : J} (h : RdM S w a 0 m) (hj : m.get? j = some (n, v)) : KidJ S w a j n v := by
  have := RdM.atFrom h hj
  rwa [Nat.zero_add] at this

/-- The member's cells, one by one. -/
theorem KidJ.cells {S : Nat → Prop} {w : World} {a : Option Addr} {i : Nat} {n : List UInt8} {v : J} (h : KidJ S w a i n v) :
    ∃ (b o : Nat) (y : ByteArray) (k : Int) (t : List UInt8) (x : ByteArray) (m : M) (ak : Option Addr) (nk ck : Nat),
      a = some ⟨b, o, none⟩ ∧ v = .mk k t m ∧ sl y = n ∧ y.size ≤ 9223372036854775807 ∧ sl x = t ∧ x.size ≤ 9223372036854775807 ∧ m.len = nk ∧ b < w.heap.size ∧ RdJ S w v (jCells k x ak nk ck) ∧
      w.cell? ⟨b, o + i * 4, none⟩ = some (.string y) ∧ w.cell? ⟨b, o + i * 4 + 1, none⟩ = some (.int .i64 k) ∧ w.cell? ⟨b, o + i * 4 + 2, none⟩ = some (.string x) ∧ w.cell? ⟨b, o + i * 4 + 3, none⟩ = some (.slice ak nk ck) := by
  obtain ⟨b, o, c, y, h1, _, h2, h3, h4, h5, h6⟩ := h
  match v, h6 with
  | .mk k t m, h6 =>
    have h6' := h6
    obtain ⟨x, ak, nk, ck, rfl, hx, hxs, _, hl, _⟩ := h6
    exact ⟨b, o, y, k, t, x, m, ak, nk, ck, h1, rfl, h2, h3, hx, hxs, hl, by simpa using cell_block h4, h6', h4, h5 0 (by omega), h5 1 (by omega), h5 2 (by omega)⟩

/-! ### A row of members of the call's own -/
def memCells (y : ByteArray) (c : Array Value) : List Value := .string y :: c.toList

/-- Cells, one behind the other, are those of members. -/
def MsC (S : Nat → Prop) (w : World) : M → List Value → Prop
  | .nil, xs => xs = []
  | .cons n v r, xs => ∃ c y ys, xs = memCells y c ++ ys ∧ sl y = n ∧ y.size ≤ 9223372036854775807 ∧ RdJ S w v c ∧ MsC S w r ys

theorem MsC.length {S : Nat → Prop} {w : World} : ∀ {m : M} {xs : List Value}, MsC S w m xs → xs.length = m.len * 4
  | .nil, xs, h => by have : xs = [] := h; subst this; rfl
  | .cons n v r, xs, h => by
    obtain ⟨c, y, ys, rfl, _, _, h1, h2⟩ := h
    have := MsC.length h2
    have hs := h1.size
    simp only [memCells, List.length_append, List.length_cons, Array.length_toList, hs, this, M.len]
    omega

theorem MsC.keep {S : Nat → Prop} {w w' : World} (hk : KeepS S w w') : ∀ {m : M} {xs : List Value}, MsC S w m xs → MsC S w' m xs
  | .nil, xs, h => h
  | .cons n v r, xs, h => by
    obtain ⟨c, y, ys, rfl, h1, h2, h3, h4⟩ := h
    exact ⟨c, y, ys, rfl, h1, h2, h3.keep hk, MsC.keep hk h4⟩

theorem MsC.imp {S S' : Nat → Prop} {w : World} (hS : ∀ k, k < w.heap.size → S k → S' k) : ∀ {m : M} {xs : List Value}, MsC S w m xs → MsC S' w m xs
  | .nil, xs, h => h
  | .cons n v r, xs, h => by
    obtain ⟨c, y, ys, rfl, h1, h2, h3, h4⟩ := h
    exact ⟨c, y, ys, rfl, h1, h2, h3.imp hS, MsC.imp hS h4⟩

theorem M.append_len : ∀ f g : M, (f.append g).len = f.len + g.len
  | .nil, g => by simp [M.append, M.len]
  | .cons n t r, g => by simp only [M.append, M.len, M.append_len r g]; omega

theorem MsC.append {S : Nat → Prop} {w : World} : ∀ {f g : M} {xs ys : List Value}, MsC S w f xs → MsC S w g ys → MsC S w (f.append g) (xs ++ ys)
  | .nil, g, xs, ys, h, k => by have : xs = [] := h; subst this; exact k
  | .cons n v r, g, xs, ys, h, k => by
    obtain ⟨c, y, zs, rfl, h1, h2, h3, h4⟩ := h
    exact ⟨c, y, zs ++ ys, by simp, h1, h2, h3, MsC.append h4 k⟩

theorem MsC.one {S : Nat → Prop} {w : World} {y : ByteArray} {v : J} {c : Array Value} (h : RdJ S w v c) (hn : y.size ≤ 9223372036854775807) : MsC S w (.cons (sl y) v .nil) (memCells y c) :=
  ⟨c, y, [], by simp, rfl, hn, h, rfl⟩

/-- The cells read as members. -/
theorem MsC.reads {S S' : Nat → Prop} {w : World} {b o : Nat} (hS : ∀ k, k < w.heap.size → S k → S' k) (hb : S' b) : ∀ {m : M} {xs : List Value} (i : Nat), MsC S w m xs → (∀ j u, xs[j]? = some u → w.cell? ⟨b, o + (i * 4 + j), none⟩ = some u) → RdM S' w (some ⟨b, o, none⟩) i m
  | .nil, _, _, _, _ => trivial
  | .cons n v r, xs, i, h, hc => by
    obtain ⟨c, y, ys, rfl, h1, h2, h3, h4⟩ := h
    have hs := h3.size
    refine ⟨⟨b, o, c, y, rfl, hb, h1, h2, ?_, fun j hj => ?_, h3.imp hS⟩, MsC.reads hS hb (i + 1) h4 fun j u hu => ?_⟩
    · have := hc 0 (.string y) rfl
      simpa using this
    · have hjc : j < c.size := by omega
      have := hc (j + 1) (c[j]) (by simp [memCells, List.getElem?_append, hs, hj])
      rw [show o + i * 4 + (j + 1) = o + (i * 4 + (j + 1)) from by omega, this, Array.getElem?_eq_getElem hjc]
    · have hl : (memCells y c).length = 4 := by simp [memCells, hs]
      have := hc (4 + j) u (by rw [List.getElem?_append_right (by omega), hl]; simpa using hu)
      rw [show o + ((i + 1) * 4 + j) = o + (i * 4 + (4 + j)) from by omega]
      exact this

/-- A row of members of the call's own: it lies in new memory (from B on), what hangs on it in blocks of L, and not in the row's own block. -/
def OwnM (w : World) (B : Nat) (L : Nat → Prop) (v : Value) (m : M) : Prop :=
  ∃ xs S, w.ownsRow B 62 4 v m.len xs ∧ MsC S w m xs ∧ ∀ k, S k → L k ∧ v.ownBlock ≠ some k

theorem OwnM.nil (w : World) (B : Nat) (L : Nat → Prop) : OwnM w B L (.slice none 0 0) .nil := ⟨[], fun _ => False, World.ownsRow_nil _ _ _ _, rfl, fun _ h => h.elim⟩

theorem OwnM.reads {w : World} {B : Nat} {L : Nat → Prop} {v : Value} {m : M} (h : OwnM w B L v m) (hL : ∀ k, B ≤ k → L k) : ∃ a c, v = .slice a m.len c ∧ RdM L w a 0 m ∧ RoomJ a m.len c ∧ m.len ≤ 9223372036854775807 := by
  obtain ⟨xs, S, ho, hk, hS⟩ := h
  have hlen := hk.length
  rcases ho.2 with ⟨rfl, h0⟩ | ⟨g, cap, cur, rfl, hb, hg, hnc, hcm, hcs, htake⟩
  · have hf : m = .nil := by cases m with
      | nil => rfl
      | cons => simp [M.len] at h0
    subst hf
    exact ⟨none, 0, rfl, trivial, ⟨fun _ => rfl, by simp [M.len]⟩, by simp [M.len]⟩
  · refine ⟨some ⟨g, 0, none⟩, cap, rfl, ?_, ⟨by simp, hnc⟩, by unfold maxLen at hcm; omega⟩
    refine MsC.reads (S := S) (fun k _ h => (hS k h).1) (hL _ hb) 0 hk fun j u hj => ?_
    have hjl : j < xs.length := (List.getElem?_eq_some_iff.1 hj).1
    have := ho.cellAt j (by omega)
    rw [show 0 + (0 * 4 + j) = j by omega, this]
    exact hj

def zeroMem : Value := .agg (#[.string ByteArray.empty] ++ jCells 0 ByteArray.empty none 0 0)
theorem infoMem : (Try.prog.info? 62).map (fun i => (i.zero, i.size, i.bytes)) = some (some zeroMem, 4, 64) := by kernel_rfl

theorem mem_cells1 {S : Nat → Prop} {w : World} : ∀ {m : M} {xs : List Value}, MsC S w m xs → ∀ u ∈ xs, u.oneCell' = true
  | .nil, xs, h, u, hu => by have : xs = [] := h; subst this; simp at hu
  | .cons n v r, xs, h, u, hu => by
    obtain ⟨c, y, ys, rfl, _, _, h1, h3⟩ := h
    rw [List.mem_append] at hu
    rcases hu with hu | hu
    · simp only [memCells, List.mem_cons] at hu
      rcases hu with rfl | hu
      · rfl
      · cases v with
        | mk k t m =>
          obtain ⟨x, ak, nk, ck, rfl, _⟩ := h1
          simp at hu
          rcases hu with rfl | rfl | rfl <;> rfl
    · exact mem_cells1 h3 u hu

/-- Where members to be appended come from. -/
def SrcM (S : Nat → Prop) (w : World) (sv : Value) (m : M) : Prop := ∃ xs, MsC S w m xs ∧ Src w sv m.len 4 xs

theorem addr_at (b o j : Nat) : (⟨b, o, none⟩ : Addr).add j = ⟨b, o + j, none⟩ := by unfold Addr.add; split <;> simp_all

/-- One member, laid in a block of its own. -/
theorem SrcM.one {S : Nat → Prop} {w : World} {g : Nat} {cap : Nat} {y : ByteArray} {v : J} {c : Array Value} (h : RdJ S w v c) (hn : y.size ≤ 9223372036854775807) (hc : ∀ j u, (memCells y c)[j]? = some u → w.cell? ⟨g, j, none⟩ = some u) :
    SrcM S w (.slice (some ⟨g, 0, none⟩) 1 cap) (.cons (sl y) v .nil) := by
  have hk := MsC.one (y := y) h hn
  refine ⟨memCells y c, hk, .inr ⟨_, cap, rfl, hk.length, fun j u hj => ?_, mem_cells1 hk⟩⟩
  rw [addr_at, Nat.zero_add]
  exact hc j u hj

theorem OwnM.app {w w' : World} {B : Nat} {L : Nat → Prop} {v v' : Value} {f g : M} {xs ys : List Value} {S S1 : Nat → Prop} (hk : MsC S w f xs) (hS : ∀ k, S k → L k ∧ v.ownBlock ≠ some k) (hg : MsC S1 w g ys) (hS1 : ∀ k, S1 k → L k ∧ v.ownBlock ≠ some k)
    (ho : w'.ownsRow B 62 4 v' (f.len + g.len) (xs ++ ys)) (ha : AppF w w' v v') : OwnM w' B L v' (f.append g) := by
  have h1 := (hk.imp (S' := fun k => (S k ∨ S1 k) ∧ k < w.heap.size) (fun k hl h => ⟨.inl h, hl⟩)).append (hg.imp (S' := fun k => (S k ∨ S1 k) ∧ k < w.heap.size) (fun k hl h => ⟨.inr h, hl⟩))
  have hno : ∀ k, ((S k ∨ S1 k) ∧ k < w.heap.size) → L k ∧ v.ownBlock ≠ some k := fun k h => by rcases h.1 with h | h; exact hS k h; exact hS1 k h
  refine ⟨_, _, by rw [M.append_len]; exact ho, h1.keep (KeepS.app ha fun k h => (hno k h).2), fun k h => ⟨(hno k h).1, ?_⟩⟩
  exact AppF.far ha (hno k h).2 h.2

theorem wpList_appM {w : World} {ops : Array Oper} {rest : List Oper} {o : Oper} {a : Act} {Q : Exit → Act → World → Prop} (hgd : o.guard = none) (s x : Operand)
    (ho : o.op = .call { callee := .builtin .append, args := #[s, x], argTypes := #[22, 22] })
    {B : Nat} {L : Nat → Prop} {v : Value} {f : M} (hs : a.eval s = v) (hown : OwnM w B L v f) {sv : Value} {g : M} {S1 : Nat → Prop} (hx : a.eval x = sv) (hsrc : SrcM S1 w sv g) (hS1 : ∀ k, S1 k → L k ∧ v.ownBlock ≠ some k)
    (hb : f.len + g.len ≤ 1000000000) (hbase : B ≤ w.heap.size)
    (h : ∀ v' w', OwnM w' B L v' (f.append g) → AppF w w' v v' → wpList Try.prog ops Q rest (a.put o.dst v') w') : wpList Try.prog ops Q (o :: rest) a w := by
  obtain ⟨xs, S, ho', hk, hS⟩ := hown
  obtain ⟨ys, hg, hsr⟩ := hsrc
  exact wpList_app Try.underlying22 infoMem rfl (by omega) hgd s x ho hs ho' hx hsr (by unfold maxLen; omega) (by omega) hbase
    fun v' w' h1 h2 => h v' w' (OwnM.app hk hS hg hS1 h1 h2) h2

theorem OwnM.far {w : World} {B : Nat} {L : Nat → Prop} {v : Value} {m : M} (h : OwnM w B L v m) : ∀ k, v.ownBlock = some k → B ≤ k ∧ k < w.heap.size := by
  obtain ⟨xs, S, h1, _⟩ := h
  exact owns_lt h1

/-- It stays where nothing of it is changed. -/
theorem OwnM.chg {X : Nat → Prop} {w w' : World} {B : Nat} {L : Nat → Prop} {v : Value} {m : M} (h : OwnM w B L v m) (hc : Chg X w w') (hL : ∀ k, L k → ¬ X k) (hv : ∀ k, v.ownBlock = some k → ¬ X k) : OwnM w' B L v m := by
  obtain ⟨xs, S, h1, h2, h3⟩ := h
  refine ⟨xs, S, ⟨h1.1, ?_⟩, h2.keep (KeepS.chg hc fun k hk => hL k (h3 k hk).1), h3⟩
  rcases h1.2 with h | ⟨g, cap, cur, rfl, hb, hg, r⟩
  · exact .inl h
  · refine .inr ⟨g, cap, cur, rfl, hb, ?_, r⟩
    have hlt : g < w.heap.size := (Array.getElem?_eq_some_iff.1 hg).1
    rw [hc.block g hlt (hv g rfl)]
    exact hg

theorem OwnM.keep {w w' : World} {B : Nat} {L : Nat → Prop} {v : Value} {m : M} (h : OwnM w B L v m) (hb : Below w.heap.size w w') : OwnM w' B L v m := by
  obtain ⟨xs, S, h1, h2, h3⟩ := h
  exact ⟨xs, S, owns_keep h1 hb, h2.keep (KeepS.below hb), h3⟩

end Go.Proofs.Ytamhdoijmkjngaa
