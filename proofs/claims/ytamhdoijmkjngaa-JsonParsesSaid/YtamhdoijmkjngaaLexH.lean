/- A text within quotes: what holds at each label; plainly. -/
import Derived.Test.YtamhdoijmkjngaaLexG
import Derived.Test.YtamhdoijmkjngaaJumps
import Derived.Test.YtamhdoijmkjngaaUtf8
import Derived.Test.YtamhdoijmkjngaaApp
import Derived.Lib.AppendStr
import Derived.Laws.IdiomStrings
namespace Go.Proofs.Ytamhdoijmkjngaa
open Go.RowKit
set_option linter.unusedVariables false
set_option linter.unusedSimpArgs false

theorem strGo_step (f : Nat) (l : List UInt8) (q k : Nat) (out : List UInt8) : (strGo (f + 1) l q out).shift k = match strStep l with
    | .stop => .tok 8 k (k + q + 1) out
    | .bad e => .err e (k + if e = 2 then 0 else q)
    | .go n x => (strGo f (l.drop n) (q + n) (out ++ x)).shift k := by
  rw [strGo]
  cases strStep l with
  | stop => simp [LexR.shift, Nat.add_assoc]
  | bad e => rfl
  | go n x => rfl

/-- Where a text stands: so far told. -/
def TRes (s : ByteArray) (fr p : Nat) (out : List UInt8) (R : LexR) : Prop := ∃ f, s.size - p < f ∧ R = (strGo f ((sl s).drop p) (p - fr) out).shift fr

theorem TRes.stop {s : ByteArray} {fr p : Nat} {out R} (h : TRes s fr p out R) (hp : fr < p) (hs : strStep ((sl s).drop p) = .stop) : R = .tok 8 fr (p + 1) out := by
  obtain ⟨f, hf, rfl⟩ := h
  cases f with
  | zero => omega
  | succ f => rw [strGo_step, hs]; simp only; rw [show fr + (p - fr) + 1 = p + 1 by omega]
theorem TRes.bad {s : ByteArray} {fr p : Nat} {out R} (h : TRes s fr p out R) (hp : fr < p) {e : Nat} (he : e ≠ 2) (hs : strStep ((sl s).drop p) = .bad e) : R = .err e p := by
  obtain ⟨f, hf, rfl⟩ := h
  cases f with
  | zero => omega
  | succ f => rw [strGo_step, hs]; simp only; rw [if_neg he, show fr + (p - fr) = p by omega]
theorem TRes.short {s : ByteArray} {fr p : Nat} {out R} (h : TRes s fr p out R) (hs : strStep ((sl s).drop p) = .bad 2) : R = .err 2 fr := by
  obtain ⟨f, hf, rfl⟩ := h
  cases f with
  | zero => omega
  | succ f => rw [strGo_step, hs]; simp
theorem TRes.go {s : ByteArray} {fr p n : Nat} {out x R} (h : TRes s fr p out R) (hp : fr < p) (hps : p ≤ s.size) (hs : strStep ((sl s).drop p) = .go n x) : TRes s fr (p + n) (out ++ x) R := by
  obtain ⟨f, hf, rfl⟩ := h
  have hn := step_go _ _ _ hs
  rw [List.length_drop, sl_len] at hn
  cases f with
  | zero => omega
  | succ f =>
    refine ⟨f, by omega, ?_⟩
    rw [strGo_step, hs]; simp only
    rw [List.drop_drop, show p - fr + n = p + n - fr by omega]

theorem codeP_bd : ∀ k v l, (codeP k v l).1 < (v + 1) * 16 ^ k
  | 0, v, l => by simp [codeP]
  | k + 1, v, [] => by
    simp only [codeP]
    have : 0 < 16 ^ (k + 1) := Nat.pow_pos (by omega)
    exact Nat.lt_of_lt_of_le (Nat.lt_succ_self v) (Nat.le_mul_of_pos_right _ this)
  | k + 1, v, c :: r => by
    rcases Option.eq_none_or_eq_some (hexD c) with h | ⟨d, h⟩
    · simp only [codeP, h]
      have : 0 < 16 ^ (k + 1) := Nat.pow_pos (by omega)
      exact Nat.lt_of_lt_of_le (Nat.lt_succ_self v) (Nat.le_mul_of_pos_right _ this)
    · simp only [codeP, h]
      have h1 := codeP_bd k (v * 16 + d) r
      have h2 := (hex_some h).2.2.2
      have h3 : (v * 16 + d + 1) * 16 ^ k ≤ ((v + 1) * 16) * 16 ^ k := Nat.mul_le_mul_right _ (by omega)
      have h4 : ((v + 1) * 16) * 16 ^ k = (v + 1) * 16 ^ (k + 1) := by rw [Nat.pow_succ, Nat.mul_assoc, Nat.mul_comm 16 (16 ^ k)]
      omega

theorem lowHalf_pre (l : List UInt8) : lowHalf l = if pre [92, 117] l = true then (if (codeP 4 0 (l.drop 2)).2 = 4 ∧ 56320 ≤ (codeP 4 0 (l.drop 2)).1 ∧ (codeP 4 0 (l.drop 2)).1 ≤ 57343 then some (codeP 4 0 (l.drop 2)).1 else none) else none := by
  have no : ∀ l : List UInt8, (∀ r, l ≠ 92 :: 117 :: r) → lowHalf l = none ∧ pre [92, 117] l = false := by
    intro l h
    constructor
    · unfold lowHalf
      split
      · rename_i r; exact absurd rfl (h r)
      · rfl
    · unfold pre
      rw [beq_eq_false_iff_ne]
      intro e
      match l, h, e with
      | [], _, e => simp at e
      | [a], _, e => simp at e
      | a :: b :: r, h, e =>
        simp at e
        exact h r (by rw [e.1, e.2])
  by_cases hx : ∃ r, l = 92 :: 117 :: r
  · obtain ⟨r, rfl⟩ := hx
    have hp : pre [92, 117] (92 :: 117 :: r) = true := by unfold pre; simp
    rw [if_pos hp]
    simp only [lowHalf, List.drop_succ_cons, List.drop_zero]
    rw [hexs_code]
    by_cases h4 : (codeP 4 0 r).2 = 4
    · rw [if_pos h4]; simp only [h4, true_and]
    · simp only [h4, if_false, false_and]
      by_cases h5 : (codeP 4 0 r).2 = r.length
      · rw [if_pos h5]
      · rw [if_neg h5]
  · have := no l (fun r e => hx ⟨r, e⟩)
    rw [this.1, this.2]; simp

/-- A step behind \u: the digits' number and how many there are; what a low half would be. -/
theorem step_uni (r : List UInt8) (v n : Nat) (hv : (codeP 4 0 r).1 = v) (hn : (codeP 4 0 r).2 = n) :
    (n < 4 → n = r.length → strStep (92 :: 117 :: r) = .bad 2) ∧ (n < 4 → n ≠ r.length → strStep (92 :: 117 :: r) = .bad 3) ∧
    (n = 4 → ¬ (55296 ≤ v ∧ v ≤ 57343) → strStep (92 :: 117 :: r) = .go 6 (putL v)) ∧
    (n = 4 → 55296 ≤ v → v ≤ 57343 → (v ≤ 56319 → lowHalf (r.drop 4) = none) → strStep (92 :: 117 :: r) = .bad 4) ∧
    (n = 4 → 55296 ≤ v → v ≤ 56319 → ∀ w, lowHalf (r.drop 4) = some w → strStep (92 :: 117 :: r) = .go 12 (putL (65536 + (v - 55296) * 1024 + (w - 56320)))) := by
  have hh := hexs_code 4 0 r
  rw [hv, hn] at hh
  have key : strStep (92 :: 117 :: r) = match uni (92 :: 117 :: r) with | .inr e => .bad e | .inl (n, v) => .go n (putL v) := by
    simp [strStep]
    rfl
  have d2 : (92 :: 117 :: r : List UInt8).drop 2 = r := rfl
  have d6 : (92 :: 117 :: r : List UInt8).drop 6 = r.drop 4 := rfl
  refine ⟨fun h1 h2 => ?_, fun h1 h2 => ?_, fun h1 h2 => ?_, fun h1 h2 h3 h4 => ?_, fun h1 h2 h3 w hw => ?_⟩
  · rw [key]; unfold uni; rw [d2, hh, if_neg (by omega), if_pos h2]
  · rw [key]; unfold uni; rw [d2, hh, if_neg (by omega), if_neg h2]
  · rw [key]; unfold uni; rw [d2, hh, if_pos h1]; simp only; rw [if_neg h2]
  · rw [key]; unfold uni; rw [d2, hh, if_pos h1]; simp only; rw [if_pos ⟨h2, h3⟩, d6]
    by_cases h5 : v ≤ 56319
    · rw [if_pos h5, h4 h5]
    · rw [if_neg h5]
  · rw [key]; unfold uni; rw [d2, hh, if_pos h1]; simp only; rw [if_pos ⟨h2, by omega⟩, d6, if_pos h3, hw]

/-! ### The labels -/
def TFr (a : Act) (u : Nat → Value) : Prop := a = ⟨((List.range 175).map u).toArray, []⟩
theorem TFr.of (A : Array Value) (h : A.size = 175) : TFr ⟨A, []⟩ (fun i => A.getD i undef) := by
  unfold TFr
  congr 1
  apply Array.ext
  · simp [h]
  · intro i h1 h2
    simp [h1]

structure TSt (s : ByteArray) (fr : Nat) (w : World) (R : LexR) (u : Nat → Value) (p : Nat) (out : List UInt8) (w' : World) : Prop where
  s0 : u 0 = .string s
  s1 : u 1 = .int .i64 fr
  s4 : u 4 = .pointer (some ⟨w.heap.size, 0, none⟩)
  s5 : u 5 = .pointer (some ⟨w.heap.size + 1, 0, none⟩)
  s12 : u 12 = .int .i64 p
  hf : fr < p
  hp : p ≤ s.size
  res : TRes s fr p out R
  own : OwnB w' (w.heap.size + 2) (u 6) out
  len : out.length ≤ p
  below : Below (w.heap.size + 2) (lexW w) w'

def TL (l : Nat) : Prop := l = 0 ∨ l = 1 ∨ l = 2 ∨ l = 3

def TJ (s : ByteArray) (fr : Nat) (w : World) (R : LexR) : Nat → Act → World → Prop
  | 0, a, w' => ∃ u, TFr a u ∧ u 1 = .int .i64 fr ∧ u 4 = .pointer (some ⟨w.heap.size, 0, none⟩) ∧ u 5 = .pointer (some ⟨w.heap.size + 1, 0, none⟩) ∧ R = .err 2 fr ∧ Below (w.heap.size + 2) (lexW w) w'
  | 1, a, w' => ∃ u p out, TFr a u ∧ TSt s fr w R u p out w'
  | 2, a, w' => ∃ u p out, TFr a u ∧ TSt s fr w R u p out w' ∧ p < s.size ∧ (sl s).getD p 0 = 92
  | _, a, w' => ∃ u p out, TFr a u ∧ TSt s fr w R u p out w' ∧ p + 1 < s.size ∧ (sl s).getD p 0 = 92 ∧ (sl s).getD (p + 1) 0 = 117

def tmu (s : ByteArray) (l : Nat) (a : Act) (_ : World) : Nat := if l = 0 then 0 else 4 * (s.size - (intOf (a.tmps.getD 12 undef)).toNat) + (4 - l)

noncomputable def tcode : Code := match Try.f47.body with | some (.seq _ (.scope c)) => c | _ => .skip
noncomputable def trest (l : Nat) : Code := match (findLabel tcode l).getD .skip with | .seq _ x => x | c => c

/-- The way to 'short'. -/
theorem to_short {s : ByteArray} {fr : Nat} {w w' : World} {R : LexR} {m : Nat} {A : Array Value} (hA : A.size = 175) (h1 : A.getD 1 undef = .int .i64 fr) (h4 : A.getD 4 undef = .pointer (some ⟨w.heap.size, 0, none⟩)) (h5 : A.getD 5 undef = .pointer (some ⟨w.heap.size + 1, 0, none⟩))
    (hr : R = .err 2 fr) (hb : Below (w.heap.size + 2) (lexW w) w') (hm : 0 < m) : TL 0 ∧ TJ s fr w R 0 ⟨A, []⟩ w' ∧ tmu s 0 ⟨A, []⟩ w' < m :=
  ⟨.inl rfl, ⟨_, TFr.of A hA, h1, h4, h5, hr, hb⟩, by unfold tmu; simpa using hm⟩

/-- On to the next sign. -/
theorem to_next {s : ByteArray} {fr : Nat} {w w' : World} {R : LexR} {m : Nat} {A : Array Value} {p : Nat} {out : List UInt8} {vb : Value} (hA : A.size = 175) (h0 : A.getD 0 undef = .string s) (h1 : A.getD 1 undef = .int .i64 fr) (h4 : A.getD 4 undef = .pointer (some ⟨w.heap.size, 0, none⟩)) (h5 : A.getD 5 undef = .pointer (some ⟨w.heap.size + 1, 0, none⟩))
    (h6 : A.getD 6 undef = vb) (h12 : A.getD 12 undef = .int .i64 (p : Nat)) (hf : fr < p) (hp : p ≤ s.size) (hr : TRes s fr p out R) (ho : OwnB w' (w.heap.size + 2) vb out) (hl : out.length ≤ p)
    (hb : Below (w.heap.size + 2) (lexW w) w') (hm : 4 * (s.size - p) + 3 < m) : TL 1 ∧ TJ s fr w R 1 ⟨A, []⟩ w' ∧ tmu s 1 ⟨A, []⟩ w' < m := by
  subst h6
  refine ⟨.inr (.inl rfl), ⟨_, p, out, TFr.of A hA, ⟨h0, h1, h4, h5, h12, hf, hp, hr, ho, hl, hb⟩⟩, ?_⟩
  unfold tmu
  rw [if_neg (by omega), h12]
  simpa [intOf] using hm

/-- To what stands behind a backslash. -/
theorem to_back {s : ByteArray} {fr : Nat} {w w' : World} {R : LexR} {m : Nat} {A : Array Value} {p : Nat} {out : List UInt8} {vb : Value} (hA : A.size = 175) (h0 : A.getD 0 undef = .string s) (h1 : A.getD 1 undef = .int .i64 fr) (h4 : A.getD 4 undef = .pointer (some ⟨w.heap.size, 0, none⟩)) (h5 : A.getD 5 undef = .pointer (some ⟨w.heap.size + 1, 0, none⟩))
    (h6 : A.getD 6 undef = vb) (h12 : A.getD 12 undef = .int .i64 (p : Nat)) (hf : fr < p) (hp : p ≤ s.size) (hr : TRes s fr p out R) (ho : OwnB w' (w.heap.size + 2) vb out) (hl : out.length ≤ p)
    (hb : Below (w.heap.size + 2) (lexW w) w') (hlt : p < s.size) (hc : (sl s).getD p 0 = 92) (hm : 4 * (s.size - p) + 2 < m) : TL 2 ∧ TJ s fr w R 2 ⟨A, []⟩ w' ∧ tmu s 2 ⟨A, []⟩ w' < m := by
  subst h6
  refine ⟨.inr (.inr (.inl rfl)), ⟨_, p, out, TFr.of A hA, ⟨h0, h1, h4, h5, h12, hf, hp, hr, ho, hl, hb⟩, hlt, hc⟩, ?_⟩
  unfold tmu
  rw [if_neg (by omega), h12]
  simpa [intOf] using hm

/-- To digits. -/
theorem to_digits {s : ByteArray} {fr : Nat} {w w' : World} {R : LexR} {m : Nat} {A : Array Value} {p : Nat} {out : List UInt8} {vb : Value} (hA : A.size = 175) (h0 : A.getD 0 undef = .string s) (h1 : A.getD 1 undef = .int .i64 fr) (h4 : A.getD 4 undef = .pointer (some ⟨w.heap.size, 0, none⟩)) (h5 : A.getD 5 undef = .pointer (some ⟨w.heap.size + 1, 0, none⟩))
    (h6 : A.getD 6 undef = vb) (h12 : A.getD 12 undef = .int .i64 (p : Nat)) (hf : fr < p) (hp : p ≤ s.size) (hr : TRes s fr p out R) (ho : OwnB w' (w.heap.size + 2) vb out) (hl : out.length ≤ p)
    (hb : Below (w.heap.size + 2) (lexW w) w') (hlt : p + 1 < s.size) (hc : (sl s).getD p 0 = 92) (hc2 : (sl s).getD (p + 1) 0 = 117) (hm : 4 * (s.size - p) + 1 < m) : TL 3 ∧ TJ s fr w R 3 ⟨A, []⟩ w' ∧ tmu s 3 ⟨A, []⟩ w' < m := by
  subst h6
  refine ⟨.inr (.inr (.inr rfl)), ⟨_, p, out, TFr.of A hA, ⟨h0, h1, h4, h5, h12, hf, hp, hr, ho, hl, hb⟩, hlt, hc, hc2⟩, ?_⟩
  unfold tmu
  rw [if_neg (by omega), h12]
  simpa [intOf] using hm

set_option maxRecDepth 100000 in
set_option maxHeartbeats 1000000 in
theorem tpass0 (s : ByteArray) (fr : Nat) (w : World) (R : LexR) (a : Act) (w' : World) (hJ : TJ s fr w R 0 a w') (J : Nat → Act → World → Prop) :
    (trest 0).wp Try.prog (JumpTo TL J (bodyPost Try.prog Try.f47 (LexOut w R))) a w' := by
  obtain ⟨u, rfl, h1, h4, h5, rfl, hb⟩ := hJ
  have HB := Lib.hid hb
  clear hb
  have CW := fun x W => Lib.hid (wrong_calls x fr W)
  simp only [List.range, List.range.loop, List.map_cons, List.map_nil, h1, h4, h5]
  conv => arg 2; whnf
  go_wp2_with fail
  refine (CW _ _).out.mono ?_
  rintro e w1 ⟨rfl, hb1⟩
  have HB1 : Hid (Below (w.heap.size + 2) (lexW w) w1) := HB.out.trans (hb1.mono (by have := HB.out.size; rw [lexW_size] at this; exact this))
  obtain ⟨c0, c1, c2, c3, d0, d1, d2, f0, f1, f2, f3, g0, g1, g2, sz⟩ := lexM_of HB1.out
  clear hb1
  go_wp2_with fail
  simp only [JumpTo]
  refine bodyPost_ret (v := .tuple #[tokV (.err 2 fr), errV (.err 2 fr)]) (by simp [tokV, errV, results, Try.results47, go_sem, c0, c1, c2, c3, d0, d1, d2]) rfl ?_
  exact ⟨rfl, lex_close HB1.out _ _ _ _ _ _ _⟩

end Go.Proofs.Ytamhdoijmkjngaa
