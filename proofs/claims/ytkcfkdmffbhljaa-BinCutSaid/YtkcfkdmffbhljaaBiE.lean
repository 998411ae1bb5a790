/- bin's reader's document: what holds at its labels; the end. -/
import Derived.Test.YtkcfkdmffbhljaaBiC0
import Derived.Test.YtkcfkdmffbhljaaMB
import Derived.Test.YtkcfkdmffbhljaaMU
import Derived.Test.YtkcfkdmffbhljaaMA
namespace Go.Proofs.Ytkcfkdmffbhljaa
open Go.RowKit
set_option linter.unusedVariables false
set_option linter.unusedSimpArgs false

def DFr (a : Act) (u : Nat → Value) : Prop := a = ⟨((List.range 153).map u).toArray, []⟩
theorem DFr.of (A : Array Value) (h : A.size = 153) : DFr ⟨A, []⟩ (fun i => A.getD i undef) := by
  unfold DFr
  congr 1
  apply Array.ext
  · simp [h]
  · intro i h1 h2
    simp [h1]

/-- Kids ahead of an answer. -/
def preF (c : F) : Ans → Ans
  | .kids f e => .kids (c.append f) e
  | r => r
theorem append_nil' : ∀ f : F, f.append .nil = f
  | .nil => rfl
  | .cons n t r => by simp only [F.append, append_nil' r]
theorem append_one : ∀ (f : F) (n : ByteArray) (t : T) (g : F), (f.append (.cons n t .nil)).append g = f.append (.cons n t g)
  | .nil, n, t, g => rfl
  | .cons m u r, n, t, g => by simp only [F.append, append_one r n t g]
theorem preF_nil (r : Ans) : preF .nil r = r := by cases r <;> rfl
theorem preF_one (c : F) (n : ByteArray) (t : T) (r : Ans) : preF (c.append (.cons n t .nil)) r = preF c (preA n t r) := by
  cases r with
  | kids f e => simp only [preF, preA, append_one]
  | val => rfl
  | bad => rfl

/-- A value's cells, of whatever letters. -/
def IsV (cv : Array Value) : Prop := ∃ (k : Int) (bits hi lo : Nat) (text more : ByteArray) (sub : Int) (ab : Option Addr) (nb cb : Nat) (ak : Option Addr) (nk ck : Nat), cv = valCells k bits hi lo text more sub ab nb cb ak nk ck

/-- The state at a label. -/
structure DSt (rb b o n c : Nat) (L : List UInt8) (deep p z win how last g : Nat) (u : Nat → Value) (at' : Nat) (cur : F) (v : Value) (cv : Array Value) (w w' : World) : Prop where
  s0 : u 0 = .pointer (some ⟨rb, 0, none⟩)
  s3 : u 3 = .int .i64 (win : Nat)
  s10 : u 10 = v
  s11 : u 11 = .int .i64 ((last : Int) + 1)
  s12 : u 12 = .pointer (some ⟨g, 0, none⟩)
  s13 : u 13 = .int .i64 (at' : Nat)
  s17 : u 17 = .pointer (some ⟨g + 1, 0, none⟩)
  rd : BRd w' rb b o n c L deep
  fb : FBx w' g 0 0
  bx : BoxV w' (g + 1) cv
  iv : IsV cv
  own : OwnK w' (g + 2) (fun k => g + 2 ≤ k) v cur
  len : cur.len ≤ at'
  lo : p + 4 ≤ at'
  hi : at' ≤ last
  rel : ∀ r, Q L deep (.els at' last win) r → Q L deep (.doc p z win how) (preF cur r)
  below : Below w.heap.size w w'
  rbb : rb < g ∧ b < g
  gs : g + 2 ≤ w'.heap.size
  gw : w.heap.size = g

def DL (l : Nat) : Prop := l = 0 ∨ l = 1

def DJ (rb b o n c : Nat) (L : List UInt8) (deep p z win how last g : Nat) (w : World) : Nat → Act → World → Prop
  | 0, a, w' => ∃ u cur v cv, DFr a u ∧ DSt rb b o n c L deep p z win how last g u last cur v cv w w'
  | _, a, w' => ∃ u at' cur v cv, DFr a u ∧ DSt rb b o n c L deep p z win how last g u at' cur v cv w w'

def dmu (last : Nat) (l : Nat) (a : Act) (_ : World) : Nat := if l = 1 then last - (intOf (a.tmps.getD 13 undef)).toNat + 1 else 0

noncomputable def dcode : Code := match Try.f35.body with | some (.seq _ (.scope c)) => c | _ => .skip
noncomputable def drest (l : Nat) : Code := (findLabel dcode l).getD .skip
/-- What stands behind 'element'. -/
noncomputable def dnext : Code := match drest 1 with | .seq _ x => x | c => c
/-- What stands behind 'last'. -/
noncomputable def dlast : Code := match drest 0 with | .seq _ x => x | c => c
theorem drest_next : drest 1 = .seq .skip dnext := by kernel_rfl
theorem drest_last : drest 0 = .seq .skip dlast := by kernel_rfl

/-- What document answers. -/
def DOut (L : List UInt8) (deep p z win how : Nat) (w : World) (e : Ending) (w' : World) : Prop := ∃ r, Q L deep (.doc p z win how) r ∧ DocOut r w e w'

set_option maxRecDepth 100000 in
set_option maxHeartbeats 2000000 in
theorem dpass0 (rb b o n c : Nat) (L : List UInt8) (deep p z win how last g : Nat) (hln : last < n) (w : World) (a : Act) (w' : World) (hJ : DJ rb b o n c L deep p z win how last g w 0 a w') (J : Nat → Act → World → Prop) :
    dlast.wp Try.prog (JumpTo DL J (bodyPost Try.prog Try.f35 (DOut L deep p z win how w))) a w' := by
  obtain ⟨u, cur, v, cv, rfl, S⟩ := hJ
  have HS := Lib.hid S
  obtain ⟨s0, s3, s10, s11, s12, s13, s17, rd, fb, bx, iv, own, len, lo, hi, rel, below, rbb, gs, gw⟩ := S
  have hL : L.length = n := rd.2.2.1.1
  have hnc : n ≤ c := rd.2.2.2.1
  have hnb : n ≤ 1000000 := rd.2.2.2.2
  have CW := Lib.hid wrong_calls
  have hat := rd.at last hln
  have hcb := bAt_lt L last
  obtain ⟨x, hx⟩ : ∃ x, x = bAt L last := ⟨_, rfl⟩
  rw [← hx] at hat hcb
  obtain ⟨r0, r1, -⟩ := rd
  obtain ⟨z0, z1, z2, q0, q1, q2, hg1⟩ := fb
  simp only [List.range, List.range.loop, List.map_cons, List.map_nil, s0, s3, s10, s11, s12, s13, s17]
  clear bx iv own rel below rbb
  have gs' := gs
  have gw' := gw
  clear gs gw s0 s3 s10 s11 s12 s13 s17
  by_cases h0 : x = 0
  · subst h0
    have HX : Hid (Q L deep (.doc p z win how) (.kids cur (last + 1))) := by
      have := HS.out.rel (.kids .nil (last + 1)) (.els_end (by unfold elsH; rw [if_pos rfl, ← hx]; simp))
      exact Lib.hid (by simpa [preF, append_nil'] using this)
    clear hx
    conv => arg 2; whnf
    go_wp2_with fail
    simp only [JumpTo]
    obtain ⟨a2, c2, e2, hks, hroom, hfl⟩ := HS.out.own.reads (fun k hk => hk)
    subst e2
    refine bodyPost_ret (v := .tuple #[.slice a2 cur.len c2, .int .i64 ((last + 1 : Nat) : Int), fltV 0 0]) (by simp [results, Try.results35, go_sem, *]) rfl ?_
    have key : ∀ W', Chg (fun j => j = g) w' W' → DocOut (.kids cur (last + 1)) w (.returned (.tuple #[.slice a2 cur.len c2, .int .i64 ((last + 1 : Nat) : Int), fltV 0 0])) W' := fun W' hW => by
      refine ⟨⟨a2, c2, rfl, ?_, hroom, hfl⟩, HS.out.below.trans (hW.below HS.out.below.size (fun j e => by have e2 : j = g := e; omega))⟩
      refine (hks.keep (KeepS.chg hW (fun j hj e => by have e2 : j = g := e; have hj2 : g + 2 ≤ j := hj; omega))).imp (fun j _ hj => ?_)
      have hj2 : g + 2 ≤ j := hj
      show w.heap.size ≤ j
      omega
    have hX : (fun j => j = g) g := rfl
    exact ⟨_, HX.out, key _ (by (repeat' (first | exact Chg.refl _ _ | with_reducible refine Chg.drew ?_ | refine Chg.setCell ?_ (fun _ => hX) _)))⟩
  · have HX : Hid (Q L deep (.doc p z win how) (.bad 3 last)) := by
      have := HS.out.rel (.bad 3 last) (.els_end (by unfold elsH; rw [if_pos rfl, if_pos (by rw [← hx]; exact h0)]))
      exact Lib.hid (by simpa [preF] using this)
    have d0 : ((x : Int) != 0) = true := by simpa using h0
    clear hx h0
    conv => arg 2; whnf
    go_wp2_with fail
    refine (CW.out _ _ _).mono ?_
    rintro e w2 ⟨rfl, hb2⟩
    have HF2 := Lib.hid (HS.out.fb.keep hb2)
    have HB2 : Hid (Below w.heap.size w w2) := HS.out.below.trans (hb2.mono HS.out.below.size)
    clear z0 z1 z2 q0 q1 q2 hg1 r0 r1 hat hb2
    obtain ⟨z0, z1, z2, q0, q1, q2, hg1⟩ := HF2.out
    go_wp2_with fail
    simp only [JumpTo]
    refine bodyPost_ret (v := .tuple #[.slice none 0 0, .int .i64 0, fltV 3 last]) (by simp [results, Try.results35, go_sem, *]) rfl ?_
    refine ⟨_, HX.out, rfl, ?_⟩
    have hfin := HB2.out
    (repeat' (first | with_reducible exact hfin | with_reducible refine Below.setCell ?_ (by rw [gw']; exact Nat.le_refl _) _))

end Go.Proofs.Ytkcfkdmffbhljaa
