/- The parser's plain law, cut as the program is: tokens' texts are not long; named, kids. No program in sight. The parser's memory; its next, walked. The parser's wrong, named, walked. The parser's value, walked over a contract of kids. What the loop of the parser's kids carries; its steps, plainly. -/
import Derived.Test.YtamhdoijmkjngaaJsonP
import Derived.Test.YtamhdoijmkjngaaLexO
import Derived.Test.YtamhdoijmkjngaaJTree
import Derived.Deep.RegionHeld3
import Derived.Deep.Cut
namespace Go.Proofs.Ytamhdoijmkjngaa
set_option linter.unusedVariables false
set_option linter.unusedSimpArgs false

theorem lowHalf_len2 (l : List UInt8) (w : Nat) (h : lowHalf l = some w) : 6 ≤ l.length := (lowHalf_len l w h).1

theorem uni_six (l : List UInt8) (n v : Nat) (h : uni l = .inl (n, v)) : 6 ≤ n := by
  unfold uni at h
  split at h
  · simp at h
  · split at h
    · split at h
      · simp only [Sum.inl.injEq, Prod.mk.injEq] at h; omega
      · simp at h
    · simp only [Sum.inl.injEq, Prod.mk.injEq] at h; omega

theorem step_out (l : List UInt8) (n : Nat) (x : List UInt8) (h : strStep l = .go n x) : x.length ≤ n := by
  unfold strStep at h
  split at h
  · simp at h
  · rename_i c r
    split at h
    · simp at h
    · split at h
      · simp at h
      · split at h
        · split at h
          · simp at h
          · split at h
            · split at h
              · simp at h
              · rename_i n' v hu
                simp only [StrStep.go.injEq] at h
                obtain ⟨rfl, rfl⟩ := h
                have h6 := uni_six _ _ _ hu
                have := (putL_len v).2
                omega
            · split at h
              · simp at h
              · simp only [StrStep.go.injEq] at h
                obtain ⟨rfl, rfl⟩ := h
                simp
        · simp only at h
          split at h
          · simp at h
          · simp only [StrStep.go.injEq] at h
            obtain ⟨rfl, rfl⟩ := h
            rw [List.length_take]; omega

theorem strGo_long : ∀ (f : Nat) (l : List UInt8) (p : Nat) (out : List UInt8) (kd a s : Nat) (t : List UInt8), strGo f l p out = .tok kd a s t → t.length ≤ out.length + l.length
  | 0, l, p, out, kd, a, s, t, h => by simp [strGo] at h
  | f + 1, l, p, out, kd, a, s, t, h => by
    rw [strGo] at h
    cases hs : strStep l with
    | stop => rw [hs] at h; simp only [LexR.tok.injEq] at h; rw [← h.2.2.2]; omega
    | bad e' => rw [hs] at h; simp at h
    | go n x =>
      rw [hs] at h
      have h1 := strGo_long f _ _ _ kd a s t h
      have h2 := step_out l n x hs
      have h3 := step_go l n x hs
      rw [List.length_append, List.length_drop] at h1
      omega

theorem tokS_long (l : List UInt8) (kd a s : Nat) (t : List UInt8) (h : tokS l = .tok kd a s t) : t.length ≤ 300 ∨ t.length ≤ l.length := by
  have sgn : ∀ k x y, LexR.tok k x y [] = .tok kd a s t → t.length ≤ 300 ∨ t.length ≤ l.length := by
    intro k x y e
    simp only [LexR.tok.injEq] at e
    obtain ⟨rfl, _, _, rfl⟩ := e
    left; simp
  cases l with
  | nil => exact sgn _ _ _ h
  | cons c r =>
    rw [tokS] at h
    by_cases e : c = 123
    · rw [if_pos e] at h; exact sgn _ _ _ h
    rw [if_neg e] at h
    by_cases e : c = 125
    · rw [if_pos e] at h; exact sgn _ _ _ h
    rw [if_neg e] at h
    by_cases e : c = 91
    · rw [if_pos e] at h; exact sgn _ _ _ h
    rw [if_neg e] at h
    by_cases e : c = 93
    · rw [if_pos e] at h; exact sgn _ _ _ h
    rw [if_neg e] at h
    by_cases e : c = 58
    · rw [if_pos e] at h; exact sgn _ _ _ h
    rw [if_neg e] at h
    by_cases e : c = 44
    · rw [if_pos e] at h; exact sgn _ _ _ h
    rw [if_neg e] at h
    by_cases e : pre [116, 114, 117, 101] (c :: r) = true
    · rw [if_pos e] at h; exact sgn _ _ _ h
    rw [if_neg e] at h
    by_cases e : pre [102, 97, 108, 115, 101] (c :: r) = true
    · rw [if_pos e] at h; exact sgn _ _ _ h
    rw [if_neg e] at h
    by_cases e : pre [110, 117, 108, 108] (c :: r) = true
    · rw [if_pos e] at h; exact sgn _ _ _ h
    rw [if_neg e] at h
    by_cases e : c = 34
    · rw [if_pos e] at h
      have := strGo_long _ _ _ _ _ _ _ _ h
      simp only [List.length_nil, Nat.zero_add] at this
      right; simp only [List.length_cons]; omega
    rw [if_neg e] at h
    by_cases e : c = 45 ∨ isDig c = true
    · rw [if_pos e] at h
      simp only at h
      by_cases h1 : lexeme (List.take (numLen (c :: r)) (c :: r)) = 0
      · rw [if_pos h1] at h; simp at h
      rw [if_neg h1] at h
      by_cases h2 : 300 < numLen (c :: r)
      · rw [if_pos h2] at h; simp at h
      rw [if_neg h2] at h
      injection h with h3 h4 h5 h6
      subst h6
      right
      rw [List.length_take]; omega
    · rw [if_neg e] at h; simp at h

theorem nextAt_long (l : List UInt8) (p kd a s : Nat) (t : List UInt8) (h : nextAt l p = .tok kd a s t) : t.length ≤ 300 + l.length := by
  unfold nextAt nextS at h
  split at h
  · simp at h
  · rw [LexR.shift_shift] at h
    cases ht : tokS (List.drop (blanks (List.drop p l)) (List.drop p l)) with
    | tok kd' a' s' t' =>
      rw [ht] at h
      simp only [LexR.shift, LexR.tok.injEq] at h
      obtain ⟨rfl, _, _, rfl⟩ := h
      have := tokS_long _ _ _ _ _ ht
      rw [List.length_drop, List.length_drop] at this
      omega
    | err e b => rw [ht] at h; simp [LexR.shift] at h

theorem nextAt_tok (l : List UInt8) (p kd a s : Nat) (t : List UInt8) (hp : p ≤ l.length) (h : nextAt l p = .tok kd a s t) : p ≤ s ∧ s ≤ l.length ∧ (kd ≠ 1 → p < s) ∧ a ≤ l.length ∧ 1 ≤ kd ∧ t.length ≤ 300 + l.length := by
  have h1 := nextAt_bd l p hp
  rw [h] at h1
  simp only [NextOk] at h1
  have h2 := nextAt_long l p kd a s t h
  by_cases h3 : kd = 1
  · have := h1.2.2.1 h3
    exact ⟨by omega, by omega, fun h => absurd h3 h, by omega, by omega, h2⟩
  · have := h1.2.2.2.1 h3
    exact ⟨by omega, by omega, fun _ => by omega, by omega, by omega, h2⟩

/-- What `named` tells, its token being at hand. -/
def nmQ (l : List UInt8) (kd a s : Nat) : LexR :=
  if kd = 8 then match nextAt l s with
    | .err e b => .err e b
    | .tok kd1 a1 s1 _ => if kd1 = 6 then nextAt l s1 else .err (wrongT kd1 a1).1 (wrongT kd1 a1).2
  else .err (wrongT kd a).1 (wrongT kd a).2

/-- What `kids` tells, from the place behind its bracket on. -/
def kidsQ (l : List UInt8) (dep f w op s : Nat) : PR M :=
  match nextAt l s with
  | .err e b => .bad e b
  | .tok kd1 a1 s1 t1 => if kd1 = op + 1 then .ok .nil s1 else kidsP l dep f w op .nil kd1 a1 s1 t1

theorem valP_brk (l : List UInt8) (dep f w kd a s : Nat) (t : List UInt8) (hk : kd = 2 ∨ kd = 4) (hd : w < dep) :
    valP l dep (f + 1) w kd a s t = match kidsQ l dep f (w + 1) kd s with | .bad e b => .bad e b | .ok ks p => .ok (.mk (if kd = 2 then 7 else 6) [] ks) p := by
  rw [valP, if_neg (by omega), if_neg (by omega), if_neg (by omega), if_neg (by omega), if_neg (by omega), if_pos hk, if_neg (by omega)]
  unfold kidsQ
  cases nextAt l s with
  | err e b => rfl
  | tok kd1 a1 s1 t1 =>
    simp only
    by_cases h : kd1 = kd + 1
    · rw [if_pos h, if_pos h]
    · rw [if_neg h, if_neg h]
      cases kidsP l dep f (w + 1) kd M.nil kd1 a1 s1 t1 <;> rfl

/-- One round of the Kids. -/
def kidsStep (l : List UInt8) (dep f w op : Nat) (ks : M) (nm : List UInt8) (kd0 a0 s0 : Nat) (t0 : List UInt8) : PR M :=
  match valP l dep f w kd0 a0 s0 t0 with
  | .bad e b => .bad e b
  | .ok v p => match nextAt l p with
    | .err e b => .bad e b
    | .tok kd1 a1 s1 _ =>
      if kd1 = op + 1 then .ok (ks.snoc nm v) s1
      else if kd1 = 7 then match nextAt l s1 with
        | .err e b => .bad e b
        | .tok kd2 a2 s2 t2 => kidsP l dep f w op (ks.snoc nm v) kd2 a2 s2 t2
      else .bad (wrongT kd1 a1).1 (wrongT kd1 a1).2

theorem kidsP_arr (l : List UInt8) (dep f w op : Nat) (ks : M) (kd a s : Nat) (t : List UInt8) (h : op ≠ 2) :
    kidsP l dep (f + 1) w op ks kd a s t = kidsStep l dep f w op ks [] kd a s t := by
  rw [kidsP, if_neg h]; rfl

theorem kidsP_obj (l : List UInt8) (dep f w : Nat) (ks : M) (kd a s : Nat) (t : List UInt8) :
    kidsP l dep (f + 1) w 2 ks kd a s t = match nmQ l kd a s with | .err e b => .bad e b | .tok kd2 a2 s2 t2 => kidsStep l dep f w 2 ks t kd2 a2 s2 t2 := by
  rw [kidsP, if_pos rfl]
  unfold nmQ
  by_cases h8 : kd = 8
  · rw [if_pos h8, if_pos h8]
    cases h1 : nextAt l s with
    | err e b => rfl
    | tok kd1 a1 s1 t1 =>
      simp only
      by_cases h6 : kd1 = 6
      · rw [if_pos h6, if_pos h6]
        cases h2 : nextAt l s1 with
        | err e b => rfl
        | tok kd2 a2 s2 t2 => rfl
      · rw [if_neg h6, if_neg h6]
  · rw [if_neg h8, if_neg h8]

theorem nmQ_tok (l : List UInt8) (kd a s kd2 a2 s2 : Nat) (t2 : List UInt8) (hs : s ≤ l.length) (h : nmQ l kd a s = .tok kd2 a2 s2 t2) : s ≤ s2 ∧ s2 ≤ l.length ∧ a2 ≤ l.length ∧ 1 ≤ kd2 ∧ t2.length ≤ 300 + l.length := by
  unfold nmQ at h
  split at h
  · cases h1 : nextAt l s with
    | err e b => rw [h1] at h; simp at h
    | tok kd1 a1 s1 t1 =>
      rw [h1] at h
      simp only at h
      split at h
      · have e1 := nextAt_tok l s _ _ _ _ hs h1
        have e2 := nextAt_tok l s1 _ _ _ _ e1.2.1 h
        exact ⟨by omega, by omega, by omega, by omega, by omega⟩
      · simp at h
  · simp at h

end Go.Proofs.Ytamhdoijmkjngaa

namespace Go.Proofs.Ytamhdoijmkjngaa
open Go.RowKit
set_option linter.unusedVariables false
set_option linter.unusedSimpArgs false

/-- A parser: its text, its place, how deep it may go. -/
structure PaW (w : World) (pb : Nat) (s : ByteArray) (p dep : Nat) : Prop where
  c0 : w.cell? ⟨pb, 0, none⟩ = some (.string s)
  c1 : w.cell? ⟨pb, 1, none⟩ = some (.int .i64 p)
  c2 : w.cell? ⟨pb, 2, none⟩ = some (.int .i64 dep)
  fz : w.frozen? ⟨pb, 1, none⟩ = false
  lt : pb < w.heap.size

def stopOf : LexR → Nat
  | .tok _ _ s _ => s
  | .err _ _ => 0

/-- Its own block alone, and new ones, have changed. -/
abbrev PChg (pb : Nat) (w w' : World) : Prop := Chg (fun k => k = pb) w w'

theorem PaW.below {w w' : World} {pb : Nat} {s : ByteArray} {p dep : Nat} (h : PaW w pb s p dep) (hb : Below w.heap.size w w') : PaW w' pb s p dep :=
  ⟨cell_below hb h.c0, cell_below hb h.c1, cell_below hb h.c2, by rw [hb.frozen (p := ⟨pb, 1, none⟩) h.lt]; exact h.fz, Nat.lt_of_lt_of_le h.lt hb.size⟩

theorem cell_alloc {w : World} {p : Addr} {v : Value} (h : w.cell? p = some v) (o : Obj) : (w.alloc o).cell? p = some v := by
  have hb := (Below.refl w.heap.size w).alloc (Nat.le_refl _) o
  rw [hb.cell (cell_block h)]
  exact h

theorem cell_setN {w : World} {p q : Addr} {v u : Value} (h : w.cell? p = some v) (hne : q.block ≠ p.block) : (w.setCell q u).cell? p = some v := by
  rw [World.cell?_setCell_far _ _ _ _ hne]; exact h

/-- A token's, an error's new cells. -/
def TokZ (w : World) (g : Nat) : Prop := w.cell? ⟨g, 0, none⟩ = some (.int .i64 0) ∧ w.cell? ⟨g, 1, none⟩ = some (.int .i64 0) ∧ w.cell? ⟨g, 2, none⟩ = some (.int .i64 0) ∧ w.cell? ⟨g, 3, none⟩ = some (.string { data := #[] }) ∧
  w.frozen? ⟨g, 0, none⟩ = false ∧ w.frozen? ⟨g, 1, none⟩ = false ∧ w.frozen? ⟨g, 2, none⟩ = false ∧ w.frozen? ⟨g, 3, none⟩ = false
def ErrZ (w : World) (g : Nat) : Prop := w.cell? ⟨g, 0, none⟩ = some (.int .i64 0) ∧ w.cell? ⟨g, 1, none⟩ = some (.int .i64 0) ∧ w.cell? ⟨g, 2, none⟩ = some (.slice none 0 0) ∧
  w.frozen? ⟨g, 0, none⟩ = false ∧ w.frozen? ⟨g, 1, none⟩ = false ∧ w.frozen? ⟨g, 2, none⟩ = false
theorem TokZ.keep {w w' : World} {g : Nat} (hb : Below w.heap.size w w') (hg : g < w.heap.size) (h : TokZ w g) : TokZ w' g := by
  obtain ⟨h0, h1, h2, h3, f0, f1, f2, f3⟩ := h
  refine ⟨cell_below hb h0, cell_below hb h1, cell_below hb h2, cell_below hb h3, ?_, ?_, ?_, ?_⟩
  all_goals (rw [hb.frozen hg]; assumption)
theorem ErrZ.keep {w w' : World} {g : Nat} (hb : Below w.heap.size w w') (hg : g < w.heap.size) (h : ErrZ w g) : ErrZ w' g := by
  obtain ⟨h0, h1, h2, f0, f1, f2⟩ := h
  refine ⟨cell_below hb h0, cell_below hb h1, cell_below hb h2, ?_, ?_, ?_⟩
  all_goals (rw [hb.frozen hg]; assumption)

theorem after_tok {X w' : World} (hb : Below X.heap.size X w') (g : Nat) : g < X.heap.size → TokZ X g → (TokZ w' g ∧ g < w'.heap.size) := fun hg h => ⟨h.keep hb hg, by have := hb.size; omega⟩
theorem after_err {X w' : World} (hb : Below X.heap.size X w') (g : Nat) : g < X.heap.size → ErrZ X g → (ErrZ w' g ∧ g < w'.heap.size) := fun hg h => ⟨h.keep hb hg, by have := hb.size; omega⟩

theorem cell_dr {w : World} {p : Addr} {v : Value} (h : w.cell? p = some v) : w.drew.cell? p = some v := h

theorem tok_cut {A B C G : Prop} (h : A → B → C) (a : A) (b : B) (k : C → G) : G := k (h a b)

/-- A token's, an error's cells. -/
def TokC (w : World) (g : Nat) : LexR → Prop
  | .tok k a e t => w.cell? ⟨g, 0, none⟩ = some (.int .i64 (k : Nat)) ∧ w.cell? ⟨g, 1, none⟩ = some (.int .i64 (a : Nat)) ∧ w.cell? ⟨g, 2, none⟩ = some (.int .i64 (e : Nat)) ∧ w.cell? ⟨g, 3, none⟩ = some (.string (txt t))
  | .err _ _ => w.cell? ⟨g, 0, none⟩ = some (.int .i64 0) ∧ w.cell? ⟨g, 1, none⟩ = some (.int .i64 0) ∧ w.cell? ⟨g, 2, none⟩ = some (.int .i64 0) ∧ w.cell? ⟨g, 3, none⟩ = some (.string ⟨#[]⟩)
def ErrC (w : World) (g : Nat) : LexR → Prop
  | .tok .. => w.cell? ⟨g, 0, none⟩ = some (.int .i64 0) ∧ w.cell? ⟨g, 1, none⟩ = some (.int .i64 0) ∧ w.cell? ⟨g, 2, none⟩ = some (.slice none 0 0)
  | .err x a => w.cell? ⟨g, 0, none⟩ = some (.int .i64 (x : Nat)) ∧ w.cell? ⟨g, 1, none⟩ = some (.int .i64 (a : Nat)) ∧ w.cell? ⟨g, 2, none⟩ = some (.slice none 0 0)

/-- Behind the lexer's call: the token lies in g4, the error in g5; what else there is. -/
def PNx (w : World) (pb : Nat) (s : ByteArray) (p dep : Nat) (R : LexR) (p4 p5 : Value) (W : World) : Prop :=
  ∃ g4 g5, p4 = .pointer (some ⟨g4, 0, none⟩) ∧ p5 = .pointer (some ⟨g5, 0, none⟩) ∧ TokC W g4 R ∧ ErrC W g5 R ∧ TokZ W w.heap.size ∧ ErrZ W (w.heap.size + 1) ∧ PChg pb w W ∧ PaW W pb s p dep ∧ w.heap.size + 2 ≤ g4 ∧ w.heap.size + 2 ≤ g5

theorem pnx_mk {w W : World} {pb : Nat} {s : ByteArray} {p dep g4 g5 : Nat} {R : LexR} (h : PaW w pb s p dep) (hX : Below w.heap.size w W) (h1 : TokC W g4 R) (h2 : ErrC W g5 R) (h3 : TokZ W w.heap.size) (h4 : ErrZ W (w.heap.size + 1)) (h5 : w.heap.size + 2 ≤ g4) (h6 : w.heap.size + 2 ≤ g5) :
    PNx w pb s p dep R (.pointer (some ⟨g4, 0, none⟩)) (.pointer (some ⟨g5, 0, none⟩)) W := ⟨g4, g5, rfl, rfl, h1, h2, h3, h4, Chg.of_below hX, h.below hX, h5, h6⟩

set_option maxRecDepth 100000 in
set_option maxHeartbeats 8000000 in
theorem pnext_calls (s : ByteArray) (hs : s.size ≤ 1000000) (pb p dep : Nat) (hp : p ≤ s.size) (w : World) (h : PaW w pb s p dep) :
    Calls Try.prog 55 #[.pointer (some ⟨pb, 0, none⟩)] w fun e w' => e = .returned (.tuple #[tokV (nextAt (sl s) p), errV (nextAt (sl s) p)]) ∧ PChg pb w w' ∧ PaW w' pb s (stopOf (nextAt (sl s) p)) dep := by
  have CN := fun W => Lib.hid (next_calls s hs (p : Int) (by omega) W)
  rw [nextI_nat] at CN
  obtain ⟨R, hR⟩ : ∃ R, R = nextAt (sl s) p := ⟨_, rfl⟩
  rw [← hR] at CN ⊢
  clear hR
  have hlt := h.lt
  have hP1 : PaW (lexW w) pb s p dep := h.below (lexW_below w)
  have HP1 := Lib.hid hP1
  have c0 : (lexW w).cell? ⟨pb, 0, none⟩ = some (.string s) := hP1.c0
  have c1 : (lexW w).cell? ⟨pb, 1, none⟩ = some (.int .i64 p) := hP1.c1
  have d0 : (lexW w).drew.cell? ⟨pb, 0, none⟩ = some (.string s) := c0
  have d1 : (lexW w).drew.cell? ⟨pb, 1, none⟩ = some (.int .i64 p) := c1
  unfold lexW at d0 d1
  have D0 := Lib.hid d0
  have D1 := Lib.hid d1
  clear d0 d1
  unfold lexW at c0 c1
  have C2 : Hid ((lexW w).cell? ⟨pb, 2, none⟩ = some (.int .i64 dep)) := Lib.hid hP1.c2
  have hfz := h.fz
  have HP0 := Lib.hid h
  clear h hP1
  cases R with
  | tok k a e t =>
    go_enter Try.func55, Try.ntmps55
    go_upto_region 1 with fail
    go_cut [4, 5] from 6 (fun p4 p5 W => PNx w pb s p dep (.tok k a e t) p4 p5 W)
    case first =>
      go_region_held3 (fun w' => w'.cell? ⟨pb, 0, none⟩ = some (.string s) ∧ w'.cell? ⟨pb, 1, none⟩ = some (.int .i64 p)) (first | with_reducible exact ⟨D0.out, D1.out⟩ | with_reducible exact ⟨q0, q1⟩ | ((with_reducible refine ⟨?_, ?_⟩) <;> (repeat' (first | (with_reducible exact q0) | (with_reducible exact q1) | (with_reducible exact D0.out) | (with_reducible exact D1.out) | (with_reducible exact c0) | (with_reducible exact c1) | (with_reducible apply cell_dr) | (with_reducible apply cell_alloc) | (with_reducible apply cell_setN) | (simp only []; omega)))) | fail) ((go_at_call 26; refine (CN _).out.mono ?_; rintro e w' ⟨rfl, hb⟩; (have hbw : Below w.heap.size w w' := Below.trans (by (repeat' (first | with_reducible exact Below.refl _ _ | with_reducible apply Below.drew | with_reducible refine Below.alloc ?_ (by first | omega | (simp; done) | (simp; omega)) _))) (hb.mono (by first | omega | (simp; done) | (simp; omega)))); (have PW := HP0.out.below hbw); (have q0 := PW.c0); (have q1 := PW.c1); (have q2 := PW.fz); (have hpw := PW.lt); (try (refine tok_cut (after_tok hb (w.heap.size)) ?_ ?_ (fun tz => ?_); (case _ => (first | (simp; done) | (simp; omega))); (case _ => (refine ⟨?_, ?_, ?_, ?_, ?_, ?_, ?_, ?_⟩ <;> (simp [go_sem]; done))); (obtain ⟨⟨_, _, _, _, _, _, _, _⟩, _⟩ := tz))); (try (refine tok_cut (after_err hb (w.heap.size + 1)) ?_ ?_ (fun tz => ?_); (case _ => (first | (simp; done) | (simp; omega))); (case _ => (refine ⟨?_, ?_, ?_, ?_, ?_, ?_⟩ <;> (simp [go_sem]; done))); (obtain ⟨⟨_, _, _, _, _, _⟩, _⟩ := tz))); (try (refine tok_cut (after_tok hb (w.heap.size + 1 + 1)) ?_ ?_ (fun tz => ?_); (case _ => (first | (simp; done) | (simp; omega))); (case _ => (refine ⟨?_, ?_, ?_, ?_, ?_, ?_, ?_, ?_⟩ <;> (simp [go_sem]; done))); (obtain ⟨⟨_, _, _, _, _, _, _, _⟩, _⟩ := tz))); (try (refine tok_cut (after_tok hb (w.heap.size + 1 + 1 + 1)) ?_ ?_ (fun tz => ?_); (case _ => (first | (simp; done) | (simp; omega))); (case _ => (refine ⟨?_, ?_, ?_, ?_, ?_, ?_, ?_, ?_⟩ <;> (simp [go_sem]; done))); (obtain ⟨⟨_, _, _, _, _, _, _, _⟩, _⟩ := tz))); (try (refine tok_cut (after_err hb (w.heap.size + 1 + 1)) ?_ ?_ (fun tz => ?_); (case _ => (first | (simp; done) | (simp; omega))); (case _ => (refine ⟨?_, ?_, ?_, ?_, ?_, ?_⟩ <;> (simp [go_sem]; done))); (obtain ⟨⟨_, _, _, _, _, _⟩, _⟩ := tz))); (try (refine tok_cut (after_err hb (w.heap.size + 1 + 1 + 1)) ?_ ?_ (fun tz => ?_); (case _ => (first | (simp; done) | (simp; omega))); (case _ => (refine ⟨?_, ?_, ?_, ?_, ?_, ?_⟩ <;> (simp [go_sem]; done))); (obtain ⟨⟨_, _, _, _, _, _⟩, _⟩ := tz))); simp only [tokV, errV]))
      all_goals
        go_wp2_with fail
        go_meet
        case rel =>
          refine pnx_mk HP0.out ?_ ?_ ?_ ?_ ?_ ?_ ?_
          · (repeat' (first | with_reducible exact hbw | with_reducible refine Below.setCell ?_ (by first | omega | (simp; done) | (simp; omega)) _ | with_reducible refine Below.alloc ?_ (by first | omega | (simp; done) | (simp; omega)) _))
          · simp [TokC, go_sem, *]
          · simp [ErrC, go_sem, *]
          · simp [TokZ, go_sem, *]
          · simp [ErrZ, go_sem, *]
          · first | omega | (simp; done) | (simp; omega)
          · first | omega | (simp; done) | (simp; omega)
    case rest =>
      obtain ⟨g4, g5, rfl, rfl, tc, ec, tz, ez, hchg, hpw, l4, l5⟩ := hcut
      obtain ⟨t0, t1, t2, t3⟩ := tc
      obtain ⟨e0, e1, e2⟩ := ec
      obtain ⟨z0, z1, z2, z3, y0, y1, y2, y3⟩ := tz
      obtain ⟨x0, x1, x2, v0, v1, v2⟩ := ez
      obtain ⟨a0, a1, a2, a3, a4⟩ := hpw
      have n1 : ¬ g4 = pb := by omega
      have m1 : ¬ pb = g4 := by omega
      have n2 : ¬ g5 = pb := by omega
      have m2 : ¬ pb = g5 := by omega
      have n3 : ¬ pb = w.heap.size := by omega
      have m3 : ¬ w.heap.size = pb := by omega
      have n4 : ¬ pb = w.heap.size + 1 := by omega
      have m4 : ¬ w.heap.size + 1 = pb := by omega
      have n5 : ¬ g4 = w.heap.size := by omega
      have m5 : ¬ w.heap.size = g4 := by omega
      have n6 : ¬ g4 = w.heap.size + 1 := by omega
      have m6 : ¬ w.heap.size + 1 = g4 := by omega
      have n7 : ¬ g5 = w.heap.size := by omega
      have m7 : ¬ w.heap.size = g5 := by omega
      have n8 : ¬ g5 = w.heap.size + 1 := by omega
      have m8 : ¬ w.heap.size + 1 = g5 := by omega
      clear HP1 D0 D1 C2 c0 c1 CN hfz
      go_wp2_with fail
      go_region_held3 (fun W => W.cell? ⟨g4, 0, none⟩ = some (.int .i64 (k : Nat)) ∧ W.cell? ⟨g4, 1, none⟩ = some (.int .i64 (a : Nat)) ∧ W.cell? ⟨g4, 2, none⟩ = some (.int .i64 (e : Nat)) ∧ W.cell? ⟨g4, 3, none⟩ = some (.string (txt t)) ∧ W.cell? ⟨g5, 0, none⟩ = some (.int .i64 0) ∧ W.cell? ⟨g5, 1, none⟩ = some (.int .i64 0) ∧ W.cell? ⟨g5, 2, none⟩ = some (.slice none 0 0)) (go_keep) (fail)
      all_goals
        go_wp2_with fail
        refine bodyPost_ret (v := .tuple #[tokV (.tok k a e t), errV (.tok k a e t)]) (by simp [tokV, errV, results, Try.results55, go_sem, *]) rfl ?_
        refine ⟨rfl, ?_, ?_⟩
        · (repeat' (first | with_reducible exact hchg | with_reducible apply Chg.drew | with_reducible refine Chg.setCell ?_ (fun h => ?_) _))
          all_goals first | rfl | (simp only [] at h; omega)
        · constructor
          · simp [go_sem, *]
          · simp [stopOf, go_sem, *]
          · simp [go_sem, *]
          · simp [go_sem, *]
          · simp; omega
  | err x a =>
    go_enter Try.func55, Try.ntmps55
    go_upto_region 1 with fail
    go_cut [4, 5] from 6 (fun p4 p5 W => PNx w pb s p dep (.err x a) p4 p5 W)
    case first =>
      go_region_held3 (fun w' => w'.cell? ⟨pb, 0, none⟩ = some (.string s) ∧ w'.cell? ⟨pb, 1, none⟩ = some (.int .i64 p)) (first | with_reducible exact ⟨D0.out, D1.out⟩ | with_reducible exact ⟨q0, q1⟩ | ((with_reducible refine ⟨?_, ?_⟩) <;> (repeat' (first | (with_reducible exact q0) | (with_reducible exact q1) | (with_reducible exact D0.out) | (with_reducible exact D1.out) | (with_reducible exact c0) | (with_reducible exact c1) | (with_reducible apply cell_dr) | (with_reducible apply cell_alloc) | (with_reducible apply cell_setN) | (simp only []; omega)))) | fail) ((go_at_call 26; refine (CN _).out.mono ?_; rintro e w' ⟨rfl, hb⟩; (have hbw : Below w.heap.size w w' := Below.trans (by (repeat' (first | with_reducible exact Below.refl _ _ | with_reducible apply Below.drew | with_reducible refine Below.alloc ?_ (by first | omega | (simp; done) | (simp; omega)) _))) (hb.mono (by first | omega | (simp; done) | (simp; omega)))); (have PW := HP0.out.below hbw); (have q0 := PW.c0); (have q1 := PW.c1); (have q2 := PW.fz); (have hpw := PW.lt); (try (refine tok_cut (after_tok hb (w.heap.size)) ?_ ?_ (fun tz => ?_); (case _ => (first | (simp; done) | (simp; omega))); (case _ => (refine ⟨?_, ?_, ?_, ?_, ?_, ?_, ?_, ?_⟩ <;> (simp [go_sem]; done))); (obtain ⟨⟨_, _, _, _, _, _, _, _⟩, _⟩ := tz))); (try (refine tok_cut (after_err hb (w.heap.size + 1)) ?_ ?_ (fun tz => ?_); (case _ => (first | (simp; done) | (simp; omega))); (case _ => (refine ⟨?_, ?_, ?_, ?_, ?_, ?_⟩ <;> (simp [go_sem]; done))); (obtain ⟨⟨_, _, _, _, _, _⟩, _⟩ := tz))); (try (refine tok_cut (after_tok hb (w.heap.size + 1 + 1)) ?_ ?_ (fun tz => ?_); (case _ => (first | (simp; done) | (simp; omega))); (case _ => (refine ⟨?_, ?_, ?_, ?_, ?_, ?_, ?_, ?_⟩ <;> (simp [go_sem]; done))); (obtain ⟨⟨_, _, _, _, _, _, _, _⟩, _⟩ := tz))); (try (refine tok_cut (after_tok hb (w.heap.size + 1 + 1 + 1)) ?_ ?_ (fun tz => ?_); (case _ => (first | (simp; done) | (simp; omega))); (case _ => (refine ⟨?_, ?_, ?_, ?_, ?_, ?_, ?_, ?_⟩ <;> (simp [go_sem]; done))); (obtain ⟨⟨_, _, _, _, _, _, _, _⟩, _⟩ := tz))); (try (refine tok_cut (after_err hb (w.heap.size + 1 + 1)) ?_ ?_ (fun tz => ?_); (case _ => (first | (simp; done) | (simp; omega))); (case _ => (refine ⟨?_, ?_, ?_, ?_, ?_, ?_⟩ <;> (simp [go_sem]; done))); (obtain ⟨⟨_, _, _, _, _, _⟩, _⟩ := tz))); (try (refine tok_cut (after_err hb (w.heap.size + 1 + 1 + 1)) ?_ ?_ (fun tz => ?_); (case _ => (first | (simp; done) | (simp; omega))); (case _ => (refine ⟨?_, ?_, ?_, ?_, ?_, ?_⟩ <;> (simp [go_sem]; done))); (obtain ⟨⟨_, _, _, _, _, _⟩, _⟩ := tz))); simp only [tokV, errV]))
      all_goals
        go_wp2_with fail
        go_meet
        case rel =>
          refine pnx_mk HP0.out ?_ ?_ ?_ ?_ ?_ ?_ ?_
          · (repeat' (first | with_reducible exact hbw | with_reducible refine Below.setCell ?_ (by first | omega | (simp; done) | (simp; omega)) _ | with_reducible refine Below.alloc ?_ (by first | omega | (simp; done) | (simp; omega)) _))
          · simp [TokC, go_sem, *]
          · simp [ErrC, go_sem, *]
          · simp [TokZ, go_sem, *]
          · simp [ErrZ, go_sem, *]
          · first | omega | (simp; done) | (simp; omega)
          · first | omega | (simp; done) | (simp; omega)
    case rest =>
      obtain ⟨g4, g5, rfl, rfl, tc, ec, tz, ez, hchg, hpw, l4, l5⟩ := hcut
      obtain ⟨t0, t1, t2, t3⟩ := tc
      obtain ⟨e0, e1, e2⟩ := ec
      obtain ⟨z0, z1, z2, z3, y0, y1, y2, y3⟩ := tz
      obtain ⟨x0, x1, x2, v0, v1, v2⟩ := ez
      obtain ⟨a0, a1, a2, a3, a4⟩ := hpw
      have n1 : ¬ g4 = pb := by omega
      have m1 : ¬ pb = g4 := by omega
      have n2 : ¬ g5 = pb := by omega
      have m2 : ¬ pb = g5 := by omega
      have n3 : ¬ pb = w.heap.size := by omega
      have m3 : ¬ w.heap.size = pb := by omega
      have n4 : ¬ pb = w.heap.size + 1 := by omega
      have m4 : ¬ w.heap.size + 1 = pb := by omega
      have n5 : ¬ g4 = w.heap.size := by omega
      have m5 : ¬ w.heap.size = g4 := by omega
      have n6 : ¬ g4 = w.heap.size + 1 := by omega
      have m6 : ¬ w.heap.size + 1 = g4 := by omega
      have n7 : ¬ g5 = w.heap.size := by omega
      have m7 : ¬ w.heap.size = g5 := by omega
      have n8 : ¬ g5 = w.heap.size + 1 := by omega
      have m8 : ¬ w.heap.size + 1 = g5 := by omega
      clear HP1 D0 D1 C2 c0 c1 CN hfz
      go_wp2_with fail
      go_region_held3 (fun W => W.cell? ⟨g4, 0, none⟩ = some (.int .i64 0) ∧ W.cell? ⟨g4, 1, none⟩ = some (.int .i64 0) ∧ W.cell? ⟨g4, 2, none⟩ = some (.int .i64 0) ∧ W.cell? ⟨g4, 3, none⟩ = some (.string ⟨#[]⟩) ∧ W.cell? ⟨g5, 0, none⟩ = some (.int .i64 (x : Nat)) ∧ W.cell? ⟨g5, 1, none⟩ = some (.int .i64 (a : Nat)) ∧ W.cell? ⟨g5, 2, none⟩ = some (.slice none 0 0)) (go_keep) (fail)
      all_goals
        go_wp2_with fail
        refine bodyPost_ret (v := .tuple #[tokV (.err x a), errV (.err x a)]) (by simp [tokV, errV, results, Try.results55, go_sem, *]) rfl ?_
        refine ⟨rfl, ?_, ?_⟩
        · (repeat' (first | with_reducible exact hchg | with_reducible apply Chg.drew | with_reducible refine Chg.setCell ?_ (fun h => ?_) _))
          all_goals first | rfl | (simp only [] at h; omega)
        · constructor
          · simp [go_sem, *]
          · simp [stopOf, go_sem, *]
          · simp [go_sem, *]
          · simp [go_sem, *]
          · simp; omega

end Go.Proofs.Ytamhdoijmkjngaa

namespace Go.Proofs.Ytamhdoijmkjngaa
open Go.RowKit
set_option linter.unusedVariables false
set_option linter.unusedSimpArgs false

/-- A box of four, of three cells, none of them frozen. -/
def Box4 (w : World) (g : Nat) (a b c d : Value) : Prop := w.cell? ⟨g, 0, none⟩ = some a ∧ w.cell? ⟨g, 1, none⟩ = some b ∧ w.cell? ⟨g, 2, none⟩ = some c ∧ w.cell? ⟨g, 3, none⟩ = some d ∧
  w.frozen? ⟨g, 0, none⟩ = false ∧ w.frozen? ⟨g, 1, none⟩ = false ∧ w.frozen? ⟨g, 2, none⟩ = false ∧ w.frozen? ⟨g, 3, none⟩ = false
def Box3 (w : World) (g : Nat) (a b c : Value) : Prop := w.cell? ⟨g, 0, none⟩ = some a ∧ w.cell? ⟨g, 1, none⟩ = some b ∧ w.cell? ⟨g, 2, none⟩ = some c ∧
  w.frozen? ⟨g, 0, none⟩ = false ∧ w.frozen? ⟨g, 1, none⟩ = false ∧ w.frozen? ⟨g, 2, none⟩ = false

theorem Chg.frozen {S : Nat → Prop} {a b : World} (h : Chg S a b) {p : Addr} (hp : ¬ S p.block) (hl : p.block < a.heap.size) : b.frozen? p = a.frozen? p := World.frozen?_of_block (w := a) (h.block p.block hl hp)

theorem Box4.chg {S : Nat → Prop} {w w' : World} {g : Nat} {a b c d : Value} (hc : Chg S w w') (hg : ¬ S g) (h : Box4 w g a b c d) : Box4 w' g a b c d := by
  obtain ⟨h0, h1, h2, h3, f0, f1, f2, f3⟩ := h
  have hl : g < w.heap.size := by simpa using cell_block h0
  refine ⟨hc.cell hg h0, hc.cell hg h1, hc.cell hg h2, hc.cell hg h3, ?_, ?_, ?_, ?_⟩
  all_goals (rw [hc.frozen (by exact hg) (by exact hl)]; assumption)
theorem Box3.chg {S : Nat → Prop} {w w' : World} {g : Nat} {a b c : Value} (hc : Chg S w w') (hg : ¬ S g) (h : Box3 w g a b c) : Box3 w' g a b c := by
  obtain ⟨h0, h1, h2, f0, f1, f2⟩ := h
  have hl : g < w.heap.size := by simpa using cell_block h0
  refine ⟨hc.cell hg h0, hc.cell hg h1, hc.cell hg h2, ?_, ?_, ?_⟩
  all_goals (rw [hc.frozen (by exact hg) (by exact hl)]; assumption)

theorem PChg.below {pb : Nat} {a b c : World} (h : PChg pb a b) (hb : Below b.heap.size b c) : PChg pb a c := h.trans (Chg.of_below hb) (fun _ _ h => h)

set_option maxRecDepth 100000 in
set_option maxHeartbeats 1000000 in
theorem jwrong_calls (kd a s : Nat) (t : List UInt8) (w : World) :
    Calls Try.prog 78 #[tokV (.tok kd a s t)] w fun e w' => e = .returned (errV (.err (wrongT kd a).1 (wrongT kd a).2)) ∧ Below w.heap.size w w' := by
  simp only [tokV]
  by_cases h : kd = 1
  · subst h
    go_enter Try.func78, Try.ntmps78
    go_wp2_with fail
    refine bodyPost_ret (v := errV (.err 2 a)) (by simp [errV, results, Try.results78, go_sem]) rfl ?_
    exact ⟨rfl, ((Below.refl _ _).alloc (Nat.le_refl _) _).alloc (by simp) _⟩
  · have h1 : ((kd : Int) == 1) = false := by simp; omega
    have hw : wrongT kd a = (3, a) := by unfold wrongT; rw [if_neg h]
    rw [hw]
    go_enter Try.func78, Try.ntmps78
    go_wp2_with fail
    refine bodyPost_ret (v := errV (.err 3 a)) (by simp [errV, results, Try.results78, go_sem]) rfl ?_
    exact ⟨rfl, ((Below.refl _ _).alloc (Nat.le_refl _) _).alloc (by simp) _⟩

theorem nextAt_err (l : List UInt8) (p x b : Nat) (h : nextAt l p = .err x b) : 1 ≤ x ∧ x ≤ 10 := nextI_err l (p : Int) x b (by rw [nextI_nat]; exact h)

theorem pa_keep {pb : Nat} {w w' : World} {s : ByteArray} {p dep : Nat} (hc : Chg (fun k => k ≠ pb) w w') (h : PaW w pb s p dep) : PaW w' pb s p dep :=
  ⟨hc.cell (by simp) h.c0, hc.cell (by simp) h.c1, hc.cell (by simp) h.c2, by rw [hc.frozen (by simp) h.lt]; exact h.fz, Nat.lt_of_lt_of_le h.lt hc.size⟩

theorem cell_new {w : World} {c : Array Value} {t : TypeId} {n i : Nat} {v : Value} (hn : n = w.heap.size) (hv : c[i]? = some v) : (w.alloc (.cells c t)).cell? ⟨n, i, none⟩ = some v := by
  subst hn
  have : (w.alloc (.cells c t)).cell? ⟨w.heap.size, i, none⟩ = c[i]? := by simp [go_sem]
  rw [this]; exact hv

theorem wrongT_eq (kd a : Nat) : ∃ x, wrongT kd a = (x, a) ∧ 1 ≤ x ∧ x ≤ 3 := by
  unfold wrongT
  split
  · exact ⟨2, rfl, by omega, by omega⟩
  · exact ⟨3, rfl, by omega, by omega⟩

/-- What `named` answers. -/
def NmOut (pb : Nat) (s : ByteArray) (dep : Nat) (w : World) (R : LexR) (e : Ending) (w' : World) : Prop := e = .returned (.tuple #[tokV R, errV R]) ∧ PChg pb w w' ∧ (∀ k a2 e2 t2, R = .tok k a2 e2 t2 → PaW w' pb s e2 dep)

set_option maxRecDepth 100000 in
set_option maxHeartbeats 8000000 in
theorem jnamed_calls (s : ByteArray) (hs : s.size ≤ 1000000) (pb dep kd a q : Nat) (t : List UInt8) (hq : q ≤ s.size) (w : World) (h : PaW w pb s q dep) (R : LexR) (hR : R = nmQ (sl s) kd a q) :
    Calls Try.prog 86 #[.pointer (some ⟨pb, 0, none⟩), tokV (.tok kd a q t)] w (NmOut pb s dep w R) := by
  have hlt := h.lt
  have hW0 : Below w.heap.size w (((w.alloc (.cells #[.int .i64 (kd : Nat), .int .i64 (a : Nat), .int .i64 (q : Nat), .string (txt t)] 33)).alloc (.cells #[.int .i64 0, .int .i64 0, .int .i64 0, .string { data := #[] }] 33)).alloc (.cells #[.int .i64 0, .int .i64 0, .slice none 0 0] 36)) := (((Below.refl _ _).alloc (Nat.le_refl _) _).alloc (by simp) _).alloc (by simp; omega) _
  have HW := Lib.hid hW0
  have HP := Lib.hid (h.below hW0)
  have CN := fun p hp W hP => Lib.hid (pnext_calls s hs pb p dep hp W hP)
  have CW := fun kd a q t W => Lib.hid (jwrong_calls kd a q t W)
  have hn1 := fun kd2 a2 s2 t2 => nextAt_tok (sl s) q kd2 a2 s2 t2 (by rw [sl_len]; exact hq)
  have hne := fun x b => nextAt_err (sl s) q x b
  simp only [tokV]
  unfold nmQ at hR
  clear h hW0
  by_cases h8 : kd = 8
  case neg =>
    obtain ⟨x, hx, _, _⟩ := wrongT_eq kd a
    rw [if_neg h8, hx] at hR
    subst hR
    have b8 : ((kd : Int) != 8) = true := by simp; omega
    have CW1 := fun W => CW kd a q t W
    simp only [hx, tokV, errV] at CW1
    clear CN CW hn1 hne hx
    go_enter Try.func86, Try.ntmps86
    go_wp2_with fail
    refine (CW1 _).out.mono ?_
    rintro e w1 ⟨rfl, hb⟩
    have hchg : PChg pb w w1 := PChg.below (Chg.of_below HW.out) hb
    have hz := hb.size
    obtain ⟨z0, z1, z2, z3, y0, y1, y2, y3⟩ := Box4.chg (S := fun _ => False) (Chg.of_below hb) (fun h => h) (show Box4 _ (w.heap.size + 1) (.int .i64 0) (.int .i64 0) (.int .i64 0) (.string ⟨#[]⟩) by refine ⟨?_, ?_, ?_, ?_, ?_, ?_, ?_, ?_⟩ <;> simp [go_sem])
    obtain ⟨x0, x1, x2, v0, v1, v2⟩ := Box3.chg (S := fun _ => False) (Chg.of_below hb) (fun h => h) (show Box3 _ (w.heap.size + 1 + 1) (.int .i64 0) (.int .i64 0) (.slice none 0 0) by refine ⟨?_, ?_, ?_, ?_, ?_, ?_⟩ <;> simp [go_sem])
    clear hb HP
    go_wp2_with fail
    refine bodyPost_ret (v := .tuple #[tokV (.err x a), errV (.err x a)]) (by simp [tokV, errV, results, Try.results86, go_sem, *]) rfl ?_
    refine ⟨rfl, ?_, fun _ _ _ _ h => by simp at h⟩
    (repeat' (first | with_reducible exact hchg | with_reducible apply Chg.drew | with_reducible refine Chg.alloc ?_ _ | with_reducible refine Chg.setCell ?_ (fun h => ?_) _))
    all_goals first | rfl | (simp only [] at h; omega)
  subst h8
  rw [if_pos rfl] at hR
  have CN1 := fun W hP => CN q hq W hP
  obtain ⟨R1, hR1⟩ : ∃ R1, R1 = nextAt (sl s) q := ⟨_, rfl⟩
  rw [← hR1] at hR CN1 hn1 hne
  clear hR1
  cases R1 with
  | err x b =>
    simp only at hR
    subst hR
    obtain ⟨hx1, hx2⟩ := hne x b rfl
    have b1 : ((x : Int) == 0) = false := by simp; omega
    have b2 : ((x : Int) != 0) = true := by simp; omega
    clear CN CW hn1 hne
    go_enter Try.func86, Try.ntmps86
    go_wp2_with fail
    refine (CN1 _ HP.out).out.mono ?_
    rintro e w1 ⟨rfl, hch, hpw⟩
    have hB3 : Box4 w1 w.heap.size (.int .i64 8) (.int .i64 (a : Nat)) (.int .i64 (q : Nat)) (.string (txt t)) := Box4.chg hch (by omega) (by refine ⟨?_, ?_, ?_, ?_, ?_, ?_, ?_, ?_⟩ <;> simp [go_sem])
    have hB4 : Box4 w1 (w.heap.size + 1) (.int .i64 0) (.int .i64 0) (.int .i64 0) (.string ⟨#[]⟩) := Box4.chg hch (by omega) (by refine ⟨?_, ?_, ?_, ?_, ?_, ?_, ?_, ?_⟩ <;> simp [go_sem])
    have hB5 : Box3 w1 (w.heap.size + 1 + 1) (.int .i64 0) (.int .i64 0) (.slice none 0 0) := Box3.chg hch (by omega) (by refine ⟨?_, ?_, ?_, ?_, ?_, ?_⟩ <;> simp [go_sem])
    have hchg : PChg pb w w1 := (Chg.of_below HW.out).trans hch (fun _ _ h => h)
    have hz : w.heap.size + 3 ≤ w1.heap.size := by have := hch.size; simp at this; omega
    have l0 : w.heap.size < w1.heap.size := by omega
    have l1 : w.heap.size + 1 < w1.heap.size := by omega
    have l2 : w.heap.size + 1 + 1 < w1.heap.size := by omega
    have l3 : pb < w1.heap.size := by omega
    obtain ⟨w0, w2, w3, w4, u0, u1, u2, u3⟩ := hB3
    obtain ⟨z0, z1, z2, z3, y0, y1, y2, y3⟩ := hB4
    obtain ⟨x0, x1, x2, v0, v1, v2⟩ := hB5
    have xx0 : w1.cell? ⟨w.heap.size + 2, 0, none⟩ = some (.int .i64 0) := x0
    have xx1 : w1.cell? ⟨w.heap.size + 2, 1, none⟩ = some (.int .i64 0) := x1
    have xx2 : w1.cell? ⟨w.heap.size + 2, 2, none⟩ = some (.slice none 0 0) := x2
    have ll2 : w.heap.size + 2 < w1.heap.size := l2
    clear hch HP hpw
    have i1 : ¬ w1.heap.size = w.heap.size := by omega
    have i2 : ¬ w1.heap.size = w.heap.size + 1 := by omega
    have i3 : ¬ w1.heap.size = w.heap.size + 1 + 1 := by omega
    have j1 : ¬ w.heap.size = w1.heap.size := by omega
    have j2 : ¬ w.heap.size + 1 = w1.heap.size := by omega
    have j3 : ¬ w.heap.size + 1 + 1 = w1.heap.size := by omega
    simp only [tokV, errV]
    go_wp2_with fail
    go_region_held3 (fun W => W.cell? ⟨w1.heap.size, 0, none⟩ = some (.int .i64 (x : Nat)) ∧ W.cell? ⟨w1.heap.size, 1, none⟩ = some (.int .i64 (b : Nat)) ∧ W.cell? ⟨w1.heap.size, 2, none⟩ = some (.slice none 0 0)) ((with_reducible refine ⟨?_, ?_, ?_⟩) <;> (repeat' (first | (with_reducible apply cell_dr) | (with_reducible refine cell_setN ?_ (by simp only []; omega)) | (with_reducible refine cell_new (by simp) rfl)))) (fail)
    all_goals
      (repeat (first | go_values | go_skip | go_guarded | go_step | go_upon | (go_simp; go_at_K)))
      refine bodyPost_ret (v := .tuple #[tokV (.err x b), errV (.err x b)]) (by simp [tokV, errV, results, Try.results86, go_sem, *]) rfl ?_
      refine ⟨rfl, ?_, fun _ _ _ _ h => by simp at h⟩
      (repeat' (first | with_reducible exact hchg | with_reducible apply Chg.drew | with_reducible refine Chg.alloc ?_ _ | with_reducible refine Chg.setCell ?_ (fun h => ?_) _))
      all_goals first | rfl | (simp only [] at h; omega)
  | tok kd1 a1 q1 t1 =>
    obtain ⟨e1, e2, _, _, _, _⟩ := hn1 kd1 a1 q1 t1 rfl
    rw [sl_len] at e2
    simp only at hR
    by_cases h6 : kd1 = 6
    case neg =>
      obtain ⟨x, hx, _, _⟩ := wrongT_eq kd1 a1
      rw [if_neg h6, hx] at hR
      subst hR
      have b6 : ((kd1 : Int) != 6) = true := by simp; omega
      have CW1 := fun W => CW kd1 a1 q1 t1 W
      simp only [hx, tokV, errV] at CW1
      clear CN CW hn1 hne hx
      go_enter Try.func86, Try.ntmps86
      go_wp2_with fail
      refine (CN1 _ HP.out).out.mono ?_
      rintro e w1 ⟨rfl, hch, hpw⟩
      have hB3 : Box4 w1 w.heap.size (.int .i64 8) (.int .i64 (a : Nat)) (.int .i64 (q : Nat)) (.string (txt t)) := Box4.chg hch (by omega) (by refine ⟨?_, ?_, ?_, ?_, ?_, ?_, ?_, ?_⟩ <;> simp [go_sem])
      have hB4 : Box4 w1 (w.heap.size + 1) (.int .i64 0) (.int .i64 0) (.int .i64 0) (.string ⟨#[]⟩) := Box4.chg hch (by omega) (by refine ⟨?_, ?_, ?_, ?_, ?_, ?_, ?_, ?_⟩ <;> simp [go_sem])
      have hB5 : Box3 w1 (w.heap.size + 1 + 1) (.int .i64 0) (.int .i64 0) (.slice none 0 0) := Box3.chg hch (by omega) (by refine ⟨?_, ?_, ?_, ?_, ?_, ?_⟩ <;> simp [go_sem])
      have hchg : PChg pb w w1 := (Chg.of_below HW.out).trans hch (fun _ _ h => h)
      have hz : w.heap.size + 3 ≤ w1.heap.size := by have := hch.size; simp at this; omega
      have l0 : w.heap.size < w1.heap.size := by omega
      have l1 : w.heap.size + 1 < w1.heap.size := by omega
      have l2 : w.heap.size + 1 + 1 < w1.heap.size := by omega
      have l3 : pb < w1.heap.size := by omega
      obtain ⟨w0, w2, w3, w4, u0, u1, u2, u3⟩ := hB3
      obtain ⟨z0, z1, z2, z3, y0, y1, y2, y3⟩ := hB4
      obtain ⟨x0, x1, x2, v0, v1, v2⟩ := hB5
      have xx0 : w1.cell? ⟨w.heap.size + 2, 0, none⟩ = some (.int .i64 0) := x0
      have xx1 : w1.cell? ⟨w.heap.size + 2, 1, none⟩ = some (.int .i64 0) := x1
      have xx2 : w1.cell? ⟨w.heap.size + 2, 2, none⟩ = some (.slice none 0 0) := x2
      have ll2 : w.heap.size + 2 < w1.heap.size := l2
      clear hch HP hpw
      simp only [tokV, errV]
      go_wp2_with fail
      refine (CW1 _).out.mono ?_
      rintro e w5 ⟨rfl, hb⟩
      have hz5 := hb.size
      obtain ⟨p0, p1, p2, p3, r0, r1, r2, r3⟩ := Box4.chg (S := fun _ => False) (Chg.of_below hb) (fun h => h) (show Box4 _ (w.heap.size + 1) (.int .i64 0) (.int .i64 0) (.int .i64 0) (.string ⟨#[]⟩) by refine ⟨?_, ?_, ?_, ?_, ?_, ?_, ?_, ?_⟩ <;> simp [go_sem, *])
      obtain ⟨f0, f1, f2, g0, g1, g2⟩ := Box3.chg (S := fun _ => False) (Chg.of_below hb) (fun h => h) (show Box3 _ (w.heap.size + 1 + 1) (.int .i64 0) (.int .i64 0) (.slice none 0 0) by refine ⟨?_, ?_, ?_, ?_, ?_, ?_⟩ <;> simp [go_sem, *])
      have hchg5 : PChg pb w w5 := by
        refine PChg.below ?_ hb
        (repeat' (first | with_reducible exact hchg | with_reducible apply Chg.drew | with_reducible refine Chg.alloc ?_ _ | with_reducible refine Chg.setCell ?_ (fun h => ?_) _))
        all_goals first | rfl | (simp only [] at h; omega)
      clear hb
      (repeat (first | go_values | go_skip | go_guarded | go_step | go_upon | (go_simp; go_at_K)))
      refine bodyPost_ret (v := .tuple #[tokV (.err x a1), errV (.err x a1)]) (by simp [tokV, errV, results, Try.results86, go_sem, *]) rfl ?_
      refine ⟨rfl, ?_, fun _ _ _ _ h => by simp at h⟩
      (repeat' (first | with_reducible exact hchg5 | with_reducible apply Chg.drew | with_reducible refine Chg.alloc ?_ _ | with_reducible refine Chg.setCell ?_ (fun h => ?_) _))
      all_goals first | rfl | (simp only [] at h; omega)
    subst h6
    rw [if_pos rfl] at hR
    have CN2 := fun W hP => CN q1 e2 W hP
    rw [← hR] at CN2
    clear CN CW hn1 hne hR
    go_enter Try.func86, Try.ntmps86
    go_wp2_with fail
    refine (CN1 _ HP.out).out.mono ?_
    rintro e w1 ⟨rfl, hch, hpw⟩
    have hB3 : Box4 w1 w.heap.size (.int .i64 8) (.int .i64 (a : Nat)) (.int .i64 (q : Nat)) (.string (txt t)) := Box4.chg hch (by omega) (by refine ⟨?_, ?_, ?_, ?_, ?_, ?_, ?_, ?_⟩ <;> simp [go_sem])
    have hB4 : Box4 w1 (w.heap.size + 1) (.int .i64 0) (.int .i64 0) (.int .i64 0) (.string ⟨#[]⟩) := Box4.chg hch (by omega) (by refine ⟨?_, ?_, ?_, ?_, ?_, ?_, ?_, ?_⟩ <;> simp [go_sem])
    have hB5 : Box3 w1 (w.heap.size + 1 + 1) (.int .i64 0) (.int .i64 0) (.slice none 0 0) := Box3.chg hch (by omega) (by refine ⟨?_, ?_, ?_, ?_, ?_, ?_⟩ <;> simp [go_sem])
    have hchg : PChg pb w w1 := (Chg.of_below HW.out).trans hch (fun _ _ h => h)
    have hz : w.heap.size + 3 ≤ w1.heap.size := by have := hch.size; simp at this; omega
    have l0 : w.heap.size < w1.heap.size := by omega
    have l1 : w.heap.size + 1 < w1.heap.size := by omega
    have l2 : w.heap.size + 1 + 1 < w1.heap.size := by omega
    have l3 : pb < w1.heap.size := by omega
    obtain ⟨w0, w2, w3, w4, u0, u1, u2, u3⟩ := hB3
    obtain ⟨z0, z1, z2, z3, y0, y1, y2, y3⟩ := hB4
    obtain ⟨x0, x1, x2, v0, v1, v2⟩ := hB5
    have xx0 : w1.cell? ⟨w.heap.size + 2, 0, none⟩ = some (.int .i64 0) := x0
    have xx1 : w1.cell? ⟨w.heap.size + 2, 1, none⟩ = some (.int .i64 0) := x1
    have xx2 : w1.cell? ⟨w.heap.size + 2, 2, none⟩ = some (.slice none 0 0) := x2
    have ll2 : w.heap.size + 2 < w1.heap.size := l2
    clear hch HP
    have hR0 : ∃ R0, R0 = R := ⟨_, rfl⟩
    rw [show tokV (.tok 6 a1 q1 t1) = .agg #[.int .i64 6, .int .i64 (a1 : Nat), .int .i64 (q1 : Nat), .string (txt t1)] from rfl, show errV (.tok 6 a1 q1 t1) = .agg #[.int .i64 0, .int .i64 0, .slice none 0 0] from rfl]
    go_wp2_with fail
    refine (CN2 _ (pa_keep (w := w1) ?hP hpw)).out.mono ?_
    case hP =>
      (repeat' (first | with_reducible exact Chg.refl _ _ | with_reducible apply Chg.drew | with_reducible refine Chg.alloc ?_ _ | with_reducible refine Chg.setCell ?_ (fun h => ?_) _))
      all_goals (simp only []; omega)
    rintro e w5 ⟨rfl, hc5, hp5⟩
    obtain ⟨p0, p1, p2, p3, r0, r1, r2, r3⟩ := Box4.chg hc5 (by omega) (show Box4 _ (w.heap.size + 1) (.int .i64 0) (.int .i64 0) (.int .i64 0) (.string ⟨#[]⟩) by refine ⟨?_, ?_, ?_, ?_, ?_, ?_, ?_, ?_⟩ <;> simp [go_sem, *])
    obtain ⟨f0, f1, f2, g0, g1, g2⟩ := Box3.chg hc5 (by omega) (show Box3 _ (w.heap.size + 1 + 1) (.int .i64 0) (.int .i64 0) (.slice none 0 0) by refine ⟨?_, ?_, ?_, ?_, ?_, ?_⟩ <;> simp [go_sem, *])
    have hchg5 : PChg pb w w5 := by
      refine Chg.trans ?_ hc5 (fun _ _ h => h)
      (repeat' (first | with_reducible exact hchg | with_reducible apply Chg.drew | with_reducible refine Chg.alloc ?_ _ | with_reducible refine Chg.setCell ?_ (fun h => ?_) _))
      all_goals first | rfl | (simp only [] at h; omega)
    have hz5 := hp5.lt
    clear hc5
    cases R with
    | err x b =>
      simp only [tokV, errV]
      (repeat (first | go_values | go_skip | go_guarded | go_step | go_upon | (go_simp; go_at_K)))
      refine bodyPost_ret (v := .tuple #[tokV (.err x b), errV (.err x b)]) (by simp [tokV, errV, results, Try.results86, go_sem, *]) rfl ?_
      refine ⟨rfl, ?_, fun _ _ _ _ h => by simp at h⟩
      (repeat' (first | with_reducible exact hchg5 | with_reducible apply Chg.drew | with_reducible refine Chg.alloc ?_ _ | with_reducible refine Chg.setCell ?_ (fun h => ?_) _))
      all_goals first | rfl | (simp only [] at h; omega)
    | tok k4 a4 q4 t4 =>
      simp only [tokV, errV]
      (repeat (first | go_values | go_skip | go_guarded | go_step | go_upon | (go_simp; go_at_K)))
      refine bodyPost_ret (v := .tuple #[tokV (.tok k4 a4 q4 t4), errV (.tok k4 a4 q4 t4)]) (by simp [tokV, errV, results, Try.results86, go_sem, *]) rfl ?_
      refine ⟨rfl, ?_, fun k a2 e2 t2 h => ?_⟩
      case refine_1 =>
        (repeat' (first | with_reducible exact hchg5 | with_reducible apply Chg.drew | with_reducible refine Chg.alloc ?_ _ | with_reducible refine Chg.setCell ?_ (fun h => ?_) _))
        all_goals first | rfl | (simp only [] at h; omega)
      simp only [LexR.tok.injEq] at h
      rw [← h.2.2.1]
      refine pa_keep ?_ hp5
      (repeat' (first | with_reducible exact Chg.refl _ _ | with_reducible apply Chg.drew | with_reducible refine Chg.alloc ?_ _ | with_reducible refine Chg.setCell ?_ (fun h => ?_) _))
      all_goals (simp only []; omega)


end Go.Proofs.Ytamhdoijmkjngaa

namespace Go.Proofs.Ytamhdoijmkjngaa
open Go.RowKit
set_option linter.unusedVariables false
set_option linter.unusedSimpArgs false

/-- What `value` answers. -/
def ValOut (pb : Nat) (s : ByteArray) (dep q : Nat) (w : World) (R : PR J) (e : Ending) (w' : World) : Prop := PChg pb w w' ∧ match R with
  | .bad x b => (1 ≤ x ∧ x ≤ 10) ∧ e = .returned (.tuple #[.agg (jCells 0 ⟨#[]⟩ none 0 0), errV (.err x b)])
  | .ok j n => ∃ c, e = .returned (.tuple #[.agg c, errV (.tok 0 0 0 [])]) ∧ RdJ (fun k => w.heap.size ≤ k) w' j c ∧ PaW w' pb s n dep ∧ q ≤ n ∧ n ≤ s.size
/-- What `kids` answers. -/
def KidsOut (pb : Nat) (s : ByteArray) (dep q : Nat) (w : World) (R : PR M) (e : Ending) (w' : World) : Prop := PChg pb w w' ∧ match R with
  | .bad x b => (1 ≤ x ∧ x ≤ 10) ∧ e = .returned (.tuple #[.slice none 0 0, errV (.err x b)])
  | .ok m n => ∃ ak nk ck, e = .returned (.tuple #[.slice ak nk ck, errV (.tok 0 0 0 [])]) ∧ m.len = nk ∧ (nk ≤ 9223372036854775807 ∧ RoomJ ak nk ck) ∧ RdM (fun k => w.heap.size ≤ k) w' ak 0 m ∧ PaW w' pb s n dep ∧ q ≤ n ∧ n ≤ s.size

def KidsSaid (dep : Nat) (within : Nat) : Prop := ∀ (s : ByteArray), s.size ≤ 1000000 → ∀ (pb op q f : Nat), (op = 2 ∨ op = 4) → q ≤ s.size → 2 * (s.size - q) + 2 ≤ f → ∀ w, PaW w pb s q dep →
  Calls Try.prog 77 #[.pointer (some ⟨pb, 0, none⟩), .int .i64 (op : Nat), .int .i64 (within : Nat)] w (KidsOut pb s dep q w (kidsQ (sl s) dep f within op q))
def ValSaid (dep : Nat) (within : Nat) : Prop := ∀ (s : ByteArray), s.size ≤ 1000000 → ∀ (pb kd a q f : Nat) (t : List UInt8), t.length ≤ 2000000 → q ≤ s.size → 1 ≤ f → (kd = 2 ∨ kd = 4 → 2 * (s.size - q) + 3 ≤ f) → ∀ w, PaW w pb s q dep →
  Calls Try.prog 56 #[.pointer (some ⟨pb, 0, none⟩), tokV (.tok kd a q t), .int .i64 (within : Nat)] w (ValOut pb s dep q w (valP (sl s) dep f within kd a q t))

theorem val_simple {pb : Nat} {s : ByteArray} {dep q : Nat} {w w' : World} {k : Nat} {t : List UInt8} (hk : k ≤ 10) (ht : t.length ≤ 2000000) (hb : Below w.heap.size w w') (hp : PaW w pb s q dep) (hq : q ≤ s.size) :
    ValOut pb s dep q w (.ok (.mk (k : Nat) t .nil) q) (.returned (.tuple #[.agg (jCells (k : Nat) (txt t) none 0 0), errV (.tok 0 0 0 [])])) w' := by
  refine ⟨Chg.of_below hb, _, rfl, ⟨_, none, 0, 0, rfl, sl_txt t, ?_, by omega, rfl, ⟨by omega, fun _ => rfl, by omega⟩, trivial⟩, hp.below hb, Nat.le_refl _, hq⟩
  have : (txt t).size = t.length := by rw [← sl_len, sl_txt]
  omega

theorem val_kids {pb : Nat} {s : ByteArray} {dep q n : Nat} {w w1 w' : World} {k : Int} {m : M} {ak : Option Addr} {nk ck : Nat} (hk1 : 0 ≤ k) (hk2 : k ≤ 100) (hml : m.len = nk) (hnk : nk ≤ 9223372036854775807 ∧ RoomJ ak nk ck) (hrd : RdM (fun k => w.heap.size + 3 ≤ k) w1 ak 0 m)
    (hpw : PaW w1 pb s n dep) (hlt : pb < w.heap.size) (hqn : q ≤ n) (hns : n ≤ s.size) (hX : Chg (fun k => w.heap.size ≤ k ∧ k < w.heap.size + 3) w1 w') (hc : PChg pb w w') :
    ValOut pb s dep q w (.ok (.mk k [] m) n) (.returned (.tuple #[.agg (jCells k ⟨#[]⟩ ak nk ck), errV (.tok 0 0 0 [])])) w' := by
  refine ⟨hc, _, rfl, ⟨_, ak, nk, ck, rfl, rfl, by decide, by omega, hml, hnk, ?_⟩, pa_keep (hX.weaken fun k _ h => by omega) hpw, hqn, hns⟩
  exact (hrd.keep (KeepS.chg hX fun k hk h => by omega)).imp (fun k _ h => by omega)

set_option maxRecDepth 100000 in
set_option maxHeartbeats 8000000 in
theorem jvalue_calls (dep within : Nat) (hdep : dep ≤ 1000) (hK : within < dep → KidsSaid dep (within + 1)) : ValSaid dep within := by
  intro s hs pb kd a q f t ht hq hf1 hf2 w h
  have hlt := h.lt
  obtain ⟨f, rfl⟩ : ∃ g, f = g + 1 := ⟨f - 1, by omega⟩
  have hW0 : Below w.heap.size w (((w.alloc (.cells #[.int .i64 (kd : Nat), .int .i64 (a : Nat), .int .i64 (q : Nat), .string (txt t)] 33)).alloc (.cells #[.int .i64 0, .string { data := #[] }, .slice none 0 0] 24)).alloc (.cells #[.int .i64 0, .int .i64 0, .slice none 0 0] 36)) := (((Below.refl _ _).alloc (Nat.le_refl _) _).alloc (by simp) _).alloc (by simp; omega) _
  have HW := Lib.hid hW0
  have HP0 := Lib.hid h
  have HP := Lib.hid (h.below hW0)
  have HPv := fun v : Value => (h.below (show Below w.heap.size w (((w.alloc (.cells #[v, .int .i64 (a : Nat), .int .i64 (q : Nat), .string (txt t)] 33)).alloc (.cells #[.int .i64 0, .string { data := #[] }, .slice none 0 0] 24)).alloc (.cells #[.int .i64 0, .int .i64 0, .slice none 0 0] 36)) from (((Below.refl _ _).alloc (Nat.le_refl _) _).alloc (by simp) _).alloc (by simp; omega) _))
  have CW := fun kd a q t W => Lib.hid (jwrong_calls kd a q t W)
  obtain ⟨R, hR⟩ : ∃ R, R = valP (sl s) dep (f + 1) within kd a q t := ⟨_, rfl⟩
  rw [← hR]
  have HR : Hid (R = valP (sl s) dep (f + 1) within kd a q t) := Lib.hid hR
  simp only [tokV]
  clear h hW0 hR
  by_cases h12 : kd = 12
  · subst h12
    have HN : Hid (R = .ok (.mk (1 : Nat) [] .nil) q) := by show _ = _; rw [HR.out, valP]; simp
    clear HR CW hK
    go_enter Try.func56, Try.ntmps56
    go_wp2_with fail
    refine bodyPost_ret (v := .tuple #[.agg (jCells (1 : Nat) (txt []) none 0 0), errV (.tok 0 0 0 [])]) (by simp [errV, txt, results, Try.results56, go_sem]) rfl ?_
    rw [HN.out]
    refine val_simple (by omega) (by simp) ?_ HP0.out hq
    exact (((Below.refl w.heap.size w).alloc (Nat.le_refl _) _).alloc (by simp) _).alloc (by simp; omega) _
  by_cases h11 : kd = 11
  · subst h11
    have HN : Hid (R = .ok (.mk (2 : Nat) [] .nil) q) := by show _ = _; rw [HR.out, valP]; simp
    clear HR CW hK
    go_enter Try.func56, Try.ntmps56
    go_wp2_with fail
    refine bodyPost_ret (v := .tuple #[.agg (jCells (2 : Nat) (txt []) none 0 0), errV (.tok 0 0 0 [])]) (by simp [errV, txt, results, Try.results56, go_sem]) rfl ?_
    rw [HN.out]
    refine val_simple (by omega) (by simp) ?_ HP0.out hq
    exact (((Below.refl w.heap.size w).alloc (Nat.le_refl _) _).alloc (by simp) _).alloc (by simp; omega) _
  by_cases h10 : kd = 10
  · subst h10
    have HN : Hid (R = .ok (.mk (3 : Nat) [] .nil) q) := by show _ = _; rw [HR.out, valP]; simp
    clear HR CW hK
    go_enter Try.func56, Try.ntmps56
    go_wp2_with fail
    refine bodyPost_ret (v := .tuple #[.agg (jCells (3 : Nat) (txt []) none 0 0), errV (.tok 0 0 0 [])]) (by simp [errV, txt, results, Try.results56, go_sem]) rfl ?_
    rw [HN.out]
    refine val_simple (by omega) (by simp) ?_ HP0.out hq
    exact (((Below.refl w.heap.size w).alloc (Nat.le_refl _) _).alloc (by simp) _).alloc (by simp; omega) _
  by_cases h9 : kd = 9
  · subst h9
    have HN : Hid (R = .ok (.mk (4 : Nat) t .nil) q) := by show _ = _; rw [HR.out, valP]; simp
    clear HR CW hK
    go_enter Try.func56, Try.ntmps56
    go_wp2_with fail
    refine bodyPost_ret (v := .tuple #[.agg (jCells (4 : Nat) (txt t) none 0 0), errV (.tok 0 0 0 [])]) (by simp [errV, txt, results, Try.results56, go_sem]) rfl ?_
    rw [HN.out]
    refine val_simple (by omega) ht ?_ HP0.out hq
    exact (((Below.refl w.heap.size w).alloc (Nat.le_refl _) _).alloc (by simp) _).alloc (by simp; omega) _
  by_cases h8 : kd = 8
  · subst h8
    have HN : Hid (R = .ok (.mk (5 : Nat) t .nil) q) := by show _ = _; rw [HR.out, valP]; simp
    clear HR CW hK
    go_enter Try.func56, Try.ntmps56
    go_wp2_with fail
    refine bodyPost_ret (v := .tuple #[.agg (jCells (5 : Nat) (txt t) none 0 0), errV (.tok 0 0 0 [])]) (by simp [errV, txt, results, Try.results56, go_sem]) rfl ?_
    rw [HN.out]
    refine val_simple (by omega) ht ?_ HP0.out hq
    exact (((Below.refl w.heap.size w).alloc (Nat.le_refl _) _).alloc (by simp) _).alloc (by simp; omega) _
  have b0 : ((kd : Int) == 12) = false := by simp; omega
  have b1 : ((kd : Int) == 11) = false := by simp; omega
  have b2 : ((kd : Int) == 10) = false := by simp; omega
  have b3 : ((kd : Int) == 9) = false := by simp; omega
  have b4 : ((kd : Int) == 8) = false := by simp; omega
  by_cases hk : kd = 2 ∨ kd = 4
  case neg =>
    have b5 : ((kd : Int) == 2) = false := by simp; omega
    have b6 : ((kd : Int) == 4) = false := by simp; omega
    obtain ⟨x, hx, hx1, hx2⟩ := wrongT_eq kd a
    have HN : Hid (R = .bad x a) := by
      show _ = _
      rw [HR.out, valP, if_neg h12, if_neg h11, if_neg h10, if_neg h9, if_neg h8, if_neg hk, hx]
    have CW1 := fun W => CW kd a q t W
    simp only [hx, tokV, errV] at CW1
    clear HR CW hK hf2
    go_enter Try.func56, Try.ntmps56
    go_wp2_with fail
    refine (CW1 _).out.mono ?_
    rintro e w1 ⟨rfl, hb⟩
    have hchg : PChg pb w w1 := PChg.below (Chg.of_below HW.out) hb
    have hz := hb.size
    obtain ⟨z0, z1, z2, y0, y1, y2⟩ := Box3.chg (S := fun _ => False) (Chg.of_below hb) (fun h => h) (show Box3 _ (w.heap.size + 1) (.int .i64 0) (.string ⟨#[]⟩) (.slice none 0 0) by refine ⟨?_, ?_, ?_, ?_, ?_, ?_⟩ <;> simp [go_sem])
    obtain ⟨x0, x1, x2, v0, v1, v2⟩ := Box3.chg (S := fun _ => False) (Chg.of_below hb) (fun h => h) (show Box3 _ (w.heap.size + 1 + 1) (.int .i64 0) (.int .i64 0) (.slice none 0 0) by refine ⟨?_, ?_, ?_, ?_, ?_, ?_⟩ <;> simp [go_sem])
    clear hb HP HPv
    (repeat (first | go_values | go_skip | go_guarded | go_step | go_upon | (go_simp; go_at_K)))
    refine bodyPost_ret (v := .tuple #[.agg (jCells 0 ⟨#[]⟩ none 0 0), errV (.err x a)]) (by simp [errV, results, Try.results56, go_sem, *]) rfl ?_
    rw [HN.out]
    refine ⟨?_, ⟨hx1, by omega⟩, rfl⟩
    (repeat' (first | with_reducible exact hchg | with_reducible apply Chg.drew | with_reducible refine Chg.alloc ?_ _ | with_reducible refine Chg.setCell ?_ (fun h => ?_) _))
    all_goals first | rfl | (simp only [] at h; omega)
  by_cases hd : dep ≤ within
  case pos =>
    have HN : Hid (R = .bad 8 a) := by
      show _ = _
      rw [HR.out, valP, if_neg h12, if_neg h11, if_neg h10, if_neg h9, if_neg h8, if_pos hk, if_pos hd]
    have g1 : decide ((dep : Int) ≤ within) = true := by simp; omega
    have hDeep := hK
    clear HR CW hK hf2 hDeep
    rcases hk with rfl | rfl
    all_goals
      have HPd2 := (HPv (.int .i64 2)).c2
      have HPd4 := (HPv (.int .i64 4)).c2
      clear HPv
      go_enter Try.func56, Try.ntmps56
      go_wp2_with fail
      go_region_held3 (fun W => W.cell? ⟨w.heap.size, 1, none⟩ = some (.int .i64 (a : Nat))) (first | (simp [go_sem]; done) | go_keep) (fail)
      all_goals
        (repeat (first | go_values | go_skip | go_guarded | go_step | go_upon | (go_simp; go_at_K)))
        refine bodyPost_ret (v := .tuple #[.agg (jCells 0 ⟨#[]⟩ none 0 0), errV (.err 8 a)]) (by simp [errV, results, Try.results56, go_sem, *]) rfl ?_
        rw [HN.out]
        refine ⟨?_, ⟨by omega, by omega⟩, rfl⟩
        (repeat' (first | with_reducible exact (Chg.refl _ _) | with_reducible apply Chg.drew | with_reducible refine Chg.alloc ?_ _ | with_reducible refine Chg.setCell ?_ (fun h => ?_) _))
        all_goals first | rfl | (simp only [] at h; omega)
  have hd1 : within < dep := by omega
  have g1 : decide ((dep : Int) ≤ within) = false := by simp; omega
  have CK0 := hK hd1 s hs pb kd q f hk hq (by have := hf2 hk; omega)
  have HN : Hid (R = match kidsQ (sl s) dep f (within + 1) kd q with | .bad e b => .bad e b | .ok ks p => .ok (.mk (if kd = 2 then 7 else 6) [] ks) p) := by
    show _ = _
    rw [HR.out, valP_brk (sl s) dep f within kd a q t hk hd1]
    try (cases kidsQ (sl s) dep f (within + 1) kd q <;> rfl)
  obtain ⟨RK, hRK⟩ : ∃ RK, RK = kidsQ (sl s) dep f (within + 1) kd q := ⟨_, rfl⟩
  rw [← hRK] at HN CK0
  have CK := fun W hP => Lib.hid (CK0 W hP)
  clear HR CW hK hf2 hRK CK0
  have hwr : IntKind.i64.wrap ((within : Int) + 1) = (within : Int) + 1 := by simp [IntKind.wrap, IntKind.bits, IntKind.signed]; omega
  rw [show ((within + 1 : Nat) : Int) = (within : Int) + 1 from by omega] at CK
  rcases hk with rfl | rfl
  · skip
    have HPd := (HPv (.int .i64 2)).c2
    have HPW := Lib.hid (HPv (.int .i64 2))
    clear HPv HP HW
    cases RK with
    | bad x b =>
      go_enter Try.func56, Try.ntmps56
      go_wp2_with fail
      refine (CK _ HPW.out).out.mono ?_
      rintro e w1 ⟨hch, ⟨hx1, hx2⟩, rfl⟩
      obtain ⟨z0, z1, z2, y0, y1, y2⟩ := Box3.chg hch (by omega) (show Box3 _ (w.heap.size + 1) (.int .i64 0) (.string ⟨#[]⟩) (.slice none 0 0) by refine ⟨?_, ?_, ?_, ?_, ?_, ?_⟩ <;> simp [go_sem])
      obtain ⟨x0, x1, x2, v0, v1, v2⟩ := Box3.chg hch (by omega) (show Box3 _ (w.heap.size + 1 + 1) (.int .i64 0) (.int .i64 0) (.slice none 0 0) by refine ⟨?_, ?_, ?_, ?_, ?_, ?_⟩ <;> simp [go_sem])
      have hz : w.heap.size + 3 ≤ w1.heap.size := by have := hch.size; simp at this; omega
      have l0 : w.heap.size < w1.heap.size := by omega
      have l1 : w.heap.size + 1 < w1.heap.size := by omega
      have l2 : w.heap.size + 1 + 1 < w1.heap.size := by omega
      have l3 : pb < w1.heap.size := by omega
      have hchg : PChg pb w w1 := by
        refine Chg.trans ?_ hch (fun _ _ h => h)
        (repeat' (first | with_reducible exact Chg.refl _ _ | with_reducible refine Chg.alloc ?_ _))
      have b1 : ((x : Int) == 0) = false := by simp; omega
      have b2 : ((x : Int) != 0) = true := by simp; omega
      clear hch HPd HPW CK
      simp only [errV]
      go_wp2_with fail
      go_region_held3 (fun W => W.cell? ⟨w1.heap.size, 0, none⟩ = some (.int .i64 (x : Nat)) ∧ W.cell? ⟨w1.heap.size, 1, none⟩ = some (.int .i64 (b : Nat)) ∧ W.cell? ⟨w1.heap.size, 2, none⟩ = some (.slice none 0 0)) ((with_reducible refine ⟨?_, ?_, ?_⟩) <;> (repeat' (first | (with_reducible apply cell_dr) | (with_reducible refine cell_setN ?_ (by simp only []; omega)) | (with_reducible refine cell_new (by simp) rfl)))) (fail)
      all_goals
        (repeat (first | go_values | go_skip | go_guarded | go_step | go_upon | (go_simp; go_at_K)))
        refine bodyPost_ret (v := .tuple #[.agg (jCells 0 ⟨#[]⟩ none 0 0), errV (.err x b)]) (by simp [errV, results, Try.results56, go_sem, *]) rfl ?_
        rw [HN.out]
        refine ⟨?_, ⟨hx1, hx2⟩, rfl⟩
        (repeat' (first | with_reducible exact hchg | with_reducible apply Chg.drew | with_reducible refine Chg.alloc ?_ _ | with_reducible refine Chg.setCell ?_ (fun h => ?_) _))
        all_goals first | rfl | (simp only [] at h; omega)
    | ok m n =>
      go_enter Try.func56, Try.ntmps56
      go_wp2_with fail
      refine (CK _ HPW.out).out.mono ?_
      rintro e w1 ⟨hch, ak, nk, ck, rfl, hml, hnk, hrd, hpw, hqn, hns⟩
      obtain ⟨c0, c1, c2, c3, d0, d1, d2, d3⟩ := Box4.chg hch (by omega) (show Box4 _ w.heap.size (.int .i64 2) (.int .i64 (a : Nat)) (.int .i64 (q : Nat)) (.string (txt t)) by refine ⟨?_, ?_, ?_, ?_, ?_, ?_, ?_, ?_⟩ <;> simp [go_sem])
      obtain ⟨z0, z1, z2, y0, y1, y2⟩ := Box3.chg hch (by omega) (show Box3 _ (w.heap.size + 1) (.int .i64 0) (.string ⟨#[]⟩) (.slice none 0 0) by refine ⟨?_, ?_, ?_, ?_, ?_, ?_⟩ <;> simp [go_sem])
      obtain ⟨x0, x1, x2, v0, v1, v2⟩ := Box3.chg hch (by omega) (show Box3 _ (w.heap.size + 1 + 1) (.int .i64 0) (.int .i64 0) (.slice none 0 0) by refine ⟨?_, ?_, ?_, ?_, ?_, ?_⟩ <;> simp [go_sem])
      have hz : w.heap.size + 3 ≤ w1.heap.size := by have := hch.size; simp at this; omega
      have l0 : w.heap.size < w1.heap.size := by omega
      have l1 : w.heap.size + 1 < w1.heap.size := by omega
      have l2 : w.heap.size + 1 + 1 < w1.heap.size := by omega
      have l3 : pb < w1.heap.size := by omega
      have hchg : PChg pb w w1 := by
        refine Chg.trans ?_ hch (fun _ _ h => h)
        (repeat' (first | with_reducible exact Chg.refl _ _ | with_reducible refine Chg.alloc ?_ _))
      have HRD := Lib.hid (hrd.imp (S' := fun k => w.heap.size + 3 ≤ k) (fun k _ h => by simp at h; omega))
      have HPW2 := Lib.hid hpw
      clear hch HPd HPW CK hrd hpw
      simp only [errV]
      (repeat (first | go_values | go_skip | go_guarded | go_step | go_upon | (go_simp; go_at_K)))
      refine bodyPost_ret (v := .tuple #[.agg (jCells 7 ⟨#[]⟩ ak nk ck), errV (.tok 0 0 0 [])]) (by simp [errV, results, Try.results56, go_sem, *]) rfl ?_
      rw [HN.out]
      refine val_kids (k := 7) (by omega) (by omega) hml hnk HRD.out HPW2.out hlt hqn hns ?_ ?_
      · (repeat' (first | with_reducible exact Chg.refl _ _ | with_reducible apply Chg.drew | with_reducible refine Chg.alloc ?_ _ | with_reducible refine Chg.setCell ?_ (fun h => ?_) _))
        all_goals (simp only []; omega)
      · skip
        (repeat' (first | with_reducible exact hchg | with_reducible apply Chg.drew | with_reducible refine Chg.alloc ?_ _ | with_reducible refine Chg.setCell ?_ (fun h => ?_) _))
        all_goals first | rfl | (simp only [] at h; omega)
  · skip
    have HPd := (HPv (.int .i64 4)).c2
    have HPW := Lib.hid (HPv (.int .i64 4))
    clear HPv HP HW
    cases RK with
    | bad x b =>
      go_enter Try.func56, Try.ntmps56
      go_wp2_with fail
      refine (CK _ HPW.out).out.mono ?_
      rintro e w1 ⟨hch, ⟨hx1, hx2⟩, rfl⟩
      obtain ⟨z0, z1, z2, y0, y1, y2⟩ := Box3.chg hch (by omega) (show Box3 _ (w.heap.size + 1) (.int .i64 0) (.string ⟨#[]⟩) (.slice none 0 0) by refine ⟨?_, ?_, ?_, ?_, ?_, ?_⟩ <;> simp [go_sem])
      obtain ⟨x0, x1, x2, v0, v1, v2⟩ := Box3.chg hch (by omega) (show Box3 _ (w.heap.size + 1 + 1) (.int .i64 0) (.int .i64 0) (.slice none 0 0) by refine ⟨?_, ?_, ?_, ?_, ?_, ?_⟩ <;> simp [go_sem])
      have hz : w.heap.size + 3 ≤ w1.heap.size := by have := hch.size; simp at this; omega
      have l0 : w.heap.size < w1.heap.size := by omega
      have l1 : w.heap.size + 1 < w1.heap.size := by omega
      have l2 : w.heap.size + 1 + 1 < w1.heap.size := by omega
      have l3 : pb < w1.heap.size := by omega
      have hchg : PChg pb w w1 := by
        refine Chg.trans ?_ hch (fun _ _ h => h)
        (repeat' (first | with_reducible exact Chg.refl _ _ | with_reducible refine Chg.alloc ?_ _))
      have b1 : ((x : Int) == 0) = false := by simp; omega
      have b2 : ((x : Int) != 0) = true := by simp; omega
      clear hch HPd HPW CK
      simp only [errV]
      go_wp2_with fail
      go_region_held3 (fun W => W.cell? ⟨w1.heap.size, 0, none⟩ = some (.int .i64 (x : Nat)) ∧ W.cell? ⟨w1.heap.size, 1, none⟩ = some (.int .i64 (b : Nat)) ∧ W.cell? ⟨w1.heap.size, 2, none⟩ = some (.slice none 0 0)) ((with_reducible refine ⟨?_, ?_, ?_⟩) <;> (repeat' (first | (with_reducible apply cell_dr) | (with_reducible refine cell_setN ?_ (by simp only []; omega)) | (with_reducible refine cell_new (by simp) rfl)))) (fail)
      all_goals
        (repeat (first | go_values | go_skip | go_guarded | go_step | go_upon | (go_simp; go_at_K)))
        refine bodyPost_ret (v := .tuple #[.agg (jCells 0 ⟨#[]⟩ none 0 0), errV (.err x b)]) (by simp [errV, results, Try.results56, go_sem, *]) rfl ?_
        rw [HN.out]
        refine ⟨?_, ⟨hx1, hx2⟩, rfl⟩
        (repeat' (first | with_reducible exact hchg | with_reducible apply Chg.drew | with_reducible refine Chg.alloc ?_ _ | with_reducible refine Chg.setCell ?_ (fun h => ?_) _))
        all_goals first | rfl | (simp only [] at h; omega)
    | ok m n =>
      go_enter Try.func56, Try.ntmps56
      go_wp2_with fail
      refine (CK _ HPW.out).out.mono ?_
      rintro e w1 ⟨hch, ak, nk, ck, rfl, hml, hnk, hrd, hpw, hqn, hns⟩
      obtain ⟨c0, c1, c2, c3, d0, d1, d2, d3⟩ := Box4.chg hch (by omega) (show Box4 _ w.heap.size (.int .i64 4) (.int .i64 (a : Nat)) (.int .i64 (q : Nat)) (.string (txt t)) by refine ⟨?_, ?_, ?_, ?_, ?_, ?_, ?_, ?_⟩ <;> simp [go_sem])
      obtain ⟨z0, z1, z2, y0, y1, y2⟩ := Box3.chg hch (by omega) (show Box3 _ (w.heap.size + 1) (.int .i64 0) (.string ⟨#[]⟩) (.slice none 0 0) by refine ⟨?_, ?_, ?_, ?_, ?_, ?_⟩ <;> simp [go_sem])
      obtain ⟨x0, x1, x2, v0, v1, v2⟩ := Box3.chg hch (by omega) (show Box3 _ (w.heap.size + 1 + 1) (.int .i64 0) (.int .i64 0) (.slice none 0 0) by refine ⟨?_, ?_, ?_, ?_, ?_, ?_⟩ <;> simp [go_sem])
      have hz : w.heap.size + 3 ≤ w1.heap.size := by have := hch.size; simp at this; omega
      have l0 : w.heap.size < w1.heap.size := by omega
      have l1 : w.heap.size + 1 < w1.heap.size := by omega
      have l2 : w.heap.size + 1 + 1 < w1.heap.size := by omega
      have l3 : pb < w1.heap.size := by omega
      have hchg : PChg pb w w1 := by
        refine Chg.trans ?_ hch (fun _ _ h => h)
        (repeat' (first | with_reducible exact Chg.refl _ _ | with_reducible refine Chg.alloc ?_ _))
      have HRD := Lib.hid (hrd.imp (S' := fun k => w.heap.size + 3 ≤ k) (fun k _ h => by simp at h; omega))
      have HPW2 := Lib.hid hpw
      clear hch HPd HPW CK hrd hpw
      simp only [errV]
      (repeat (first | go_values | go_skip | go_guarded | go_step | go_upon | (go_simp; go_at_K)))
      refine bodyPost_ret (v := .tuple #[.agg (jCells 6 ⟨#[]⟩ ak nk ck), errV (.tok 0 0 0 [])]) (by simp [errV, results, Try.results56, go_sem, *]) rfl ?_
      rw [HN.out]
      refine val_kids (k := 6) (by omega) (by omega) hml hnk HRD.out HPW2.out hlt hqn hns ?_ ?_
      · (repeat' (first | with_reducible exact Chg.refl _ _ | with_reducible apply Chg.drew | with_reducible refine Chg.alloc ?_ _ | with_reducible refine Chg.setCell ?_ (fun h => ?_) _))
        all_goals (simp only []; omega)
      · skip
        (repeat' (first | with_reducible exact hchg | with_reducible apply Chg.drew | with_reducible refine Chg.alloc ?_ _ | with_reducible refine Chg.setCell ?_ (fun h => ?_) _))
        all_goals first | rfl | (simp only [] at h; omega)


end Go.Proofs.Ytamhdoijmkjngaa

namespace Go.Proofs.Ytamhdoijmkjngaa
open Go.RowKit
set_option linter.unusedVariables false
set_option linter.unusedSimpArgs false

def BoxT (w : World) (g : Nat) : LexR → Prop
  | .tok k a e t => Box4 w g (.int .i64 (k : Nat)) (.int .i64 (a : Nat)) (.int .i64 (e : Nat)) (.string (txt t))
  | .err _ _ => Box4 w g (.int .i64 0) (.int .i64 0) (.int .i64 0) (.string ⟨#[]⟩)
def BoxE (w : World) (g : Nat) : LexR → Prop
  | .tok .. => Box3 w g (.int .i64 0) (.int .i64 0) (.slice none 0 0)
  | .err x a => Box3 w g (.int .i64 (x : Nat)) (.int .i64 (a : Nat)) (.slice none 0 0)

/-- What is known of the token at hand, or of the error. -/
def KNow (pb : Nat) (s : ByteArray) (dep q op within : Nat) (RES : PR M) (m : M) (wr : World) : LexR → Prop
  | .err x b => 1 ≤ x ∧ x ≤ 10 ∧ RES = .bad x b
  | .tok kd a s1 t => PaW wr pb s s1 dep ∧ q ≤ s1 ∧ s1 ≤ s.size ∧ m.len ≤ s1 ∧ t.length ≤ 2000000 ∧ ∃ f, (2 * (s.size - s1) + 4 ≤ f ∨ (kd = 1 ∧ 2 ≤ f)) ∧ RES = kidsP (sl s) dep f within op m kd a s1 t

def KHead (w : World) (pb : Nat) (s : ByteArray) (dep q op within : Nat) (RES : PR M) (g10 : Nat) (u : Value) (wr : World) : Prop :=
  ∃ (R : LexR) (m : M), BoxT wr g10 R ∧ BoxE wr (g10 + 1) R ∧ Box3 wr w.heap.size (.int .i64 0) (.int .i64 0) (.slice none 0 0) ∧ OwnM wr (g10 + 2) (fun k => g10 + 2 ≤ k) u m ∧ PChg pb w wr ∧ g10 + 2 ≤ wr.heap.size ∧ KNow pb s dep q op within RES m wr R

def kMeas (n pb g : Nat) (w : World) : Nat :=
  match w.cell? ⟨g, 0, none⟩, w.cell? ⟨pb, 1, none⟩ with
  | some (.int _ e), some (.int _ p) => if e = 0 then n + 2 - p.toNat else 0
  | _, _ => 0
theorem kMeas_tok {n pb g : Nat} {w : World} {p : Nat} (h0 : w.cell? ⟨g, 0, none⟩ = some (.int .i64 0)) (h1 : w.cell? ⟨pb, 1, none⟩ = some (.int .i64 (p : Nat))) : kMeas n pb g w = n + 2 - p := by
  unfold kMeas; rw [h0, h1]; simp
theorem kMeas_err {n pb g : Nat} {w : World} {x : Nat} (hx : 1 ≤ x) (h0 : w.cell? ⟨g, 0, none⟩ = some (.int .i64 (x : Nat))) : kMeas n pb g w = 0 := by
  unfold kMeas; rw [h0]
  split
  · rename_i h _; simp only [Option.some.injEq, Value.int.injEq] at h; rw [if_neg (by omega)]
  · rfl

theorem nmQ_err (l : List UInt8) (kd a s x b : Nat) (h : nmQ l kd a s = .err x b) : 1 ≤ x ∧ x ≤ 10 := by
  unfold nmQ at h
  obtain ⟨y, hy, hy1, hy2⟩ := wrongT_eq kd a
  split at h
  · cases h1 : nextAt l s with
    | err e c => rw [h1] at h; simp only [LexR.err.injEq] at h; have := nextAt_err l s e c h1; omega
    | tok kd1 a1 s1 t1 =>
      rw [h1] at h
      simp only at h
      split at h
      · exact nextAt_err l s1 x b h
      · obtain ⟨y, hy, hy1, hy2⟩ := wrongT_eq kd1 a1
        rw [hy] at h; simp only [LexR.err.injEq] at h; omega
  · rw [hy] at h; simp only [LexR.err.injEq] at h; omega

theorem nmQ_kd (l : List UInt8) (kd a s kd2 a2 s2 : Nat) (t2 : List UInt8) (h : nmQ l kd a s = .tok kd2 a2 s2 t2) : kd = 8 := by
  unfold nmQ at h
  split at h
  · assumption
  · simp at h

theorem valP_end (l : List UInt8) (dep f w a s : Nat) (t : List UInt8) (j : J) (p : Nat) (h : PR.ok j p = valP l dep f w 1 a s t) : False := by
  cases f with
  | zero => rw [valP] at h; simp at h
  | succ f => rw [valP] at h; simp at h

theorem step_bad' {l : List UInt8} {dep f w op : Nat} {ks : M} {nm : List UInt8} {kd a s : Nat} {t : List UInt8} {x b : Nat} (h : valP l dep f w kd a s t = .bad x b) : kidsStep l dep f w op ks nm kd a s t = .bad x b := by
  unfold kidsStep; rw [h]
theorem step_err' {l : List UInt8} {dep f w op : Nat} {ks : M} {nm : List UInt8} {kd a s : Nat} {t : List UInt8} {v : J} {p x b : Nat} (h : valP l dep f w kd a s t = .ok v p) (h1 : nextAt l p = .err x b) : kidsStep l dep f w op ks nm kd a s t = .bad x b := by
  unfold kidsStep; rw [h]; simp only; rw [h1]
theorem step_last' {l : List UInt8} {dep f w op : Nat} {ks : M} {nm : List UInt8} {kd a s : Nat} {t : List UInt8} {v : J} {p kd1 a1 s1 : Nat} {t1 : List UInt8} (h : valP l dep f w kd a s t = .ok v p) (h1 : nextAt l p = .tok kd1 a1 s1 t1) (h2 : kd1 = op + 1) : kidsStep l dep f w op ks nm kd a s t = .ok (ks.snoc nm v) s1 := by
  unfold kidsStep; rw [h]; simp only; rw [h1]; simp only; rw [if_pos h2]
theorem step_wrong' {l : List UInt8} {dep f w op : Nat} {ks : M} {nm : List UInt8} {kd a s : Nat} {t : List UInt8} {v : J} {p kd1 a1 s1 : Nat} {t1 : List UInt8} (h : valP l dep f w kd a s t = .ok v p) (h1 : nextAt l p = .tok kd1 a1 s1 t1) (h2 : kd1 ≠ op + 1) (h3 : kd1 ≠ 7) : kidsStep l dep f w op ks nm kd a s t = .bad (wrongT kd1 a1).1 (wrongT kd1 a1).2 := by
  unfold kidsStep; rw [h]; simp only; rw [h1]; simp only; rw [if_neg h2, if_neg h3]
theorem step_go' {l : List UInt8} {dep f w op : Nat} {ks : M} {nm : List UInt8} {kd a s : Nat} {t : List UInt8} {v : J} {p a1 s1 : Nat} {t1 : List UInt8} (h : valP l dep f w kd a s t = .ok v p) (h1 : nextAt l p = .tok 7 a1 s1 t1) (h2 : (7 : Nat) ≠ op + 1) :
    kidsStep l dep f w op ks nm kd a s t = match nextAt l s1 with | .err e b => .bad e b | .tok kd2 a2 s2 t2 => kidsP l dep f w op (ks.snoc nm v) kd2 a2 s2 t2 := by
  unfold kidsStep; rw [h]; simp only; rw [h1]; simp only; rw [if_neg h2, if_pos trivial]; try (cases nextAt l s1 <;> rfl)

theorem OwnM.bound {w : World} {B : Nat} {L : Nat → Prop} {v : Value} {m : M} (h : OwnM w B L v m) : OwnM w B (fun k => L k ∧ k < w.heap.size) v m := by
  obtain ⟨xs, S, h1, h2, h3⟩ := h
  exact ⟨xs, fun k => S k ∧ k < w.heap.size, h1, h2.imp (fun k hl hs => ⟨hs, hl⟩), fun k hk => ⟨⟨(h3 k hk.1).1, hk.2⟩, (h3 k hk.1).2⟩⟩
theorem OwnM.lift {w : World} {B : Nat} {L L' : Nat → Prop} {v : Value} {m : M} (h : OwnM w B L v m) (hL : ∀ k, L k → L' k) : OwnM w B L' v m := by
  obtain ⟨xs, S, h1, h2, h3⟩ := h
  exact ⟨xs, S, h1, h2, fun k hk => ⟨hL k (h3 k hk).1, (h3 k hk).2⟩⟩

theorem Box3.app {w w' : World} {v v' : Value} {g : Nat} {a b c : Value} (h : AppF w w' v v') (hv : v.ownBlock ≠ some g) (hb : Box3 w g a b c) : Box3 w' g a b c := Box3.chg h.chg hv hb
theorem Box4.app {w w' : World} {v v' : Value} {g : Nat} {a b c d : Value} (h : AppF w w' v v') (hv : v.ownBlock ≠ some g) (hb : Box4 w g a b c d) : Box4 w' g a b c d := Box4.chg h.chg hv hb

end Go.Proofs.Ytamhdoijmkjngaa
