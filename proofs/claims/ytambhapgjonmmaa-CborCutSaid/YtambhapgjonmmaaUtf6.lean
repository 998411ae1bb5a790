/- The program's Rune: what it does at its labels. -/
import Derived.Test.YtambhapgjonmmaaUtf5
import Derived.Test.YtambhapgjonmmaaJumps
import Derived.Laws.BitsAllLaws
namespace Go.Proofs.Ytambhapgjonmmaa
open Go.RowKit
set_option linter.unusedVariables false
set_option linter.unusedSimpArgs false

theorem rrune_calls (a : Option Addr) (len cap p : Nat) (w : World) (l : List UInt8) (h : RdB w a len l) :
    Calls Try.prog 59 #[.slice a len cap, .int .i64 p] w fun e w' => e = .returned (.tuple #[.int .i64 ((runeAt l p).1 : Nat), .int .i64 ((runeAt l p).2 : Nat)]) ∧ w = w' := by
  have hl := h.1
  unfold runeAt
  rw [hl]
  have hb := bAt_lt l p
  by_cases h0 : len ≤ p
  · rw [if_pos h0]; exact rrune_out a len cap p w h.2.1 (.inr (by omega))
  rw [if_neg h0]
  by_cases h1 : bAt l p < 128
  · rw [if_pos h1]; exact rrune_one a len cap p w l h (by omega) h1
  rw [if_neg h1]
  by_cases h2 : bAt l p < 192
  · rw [if_pos h2]; exact rrune_bad a len cap p w l h (by omega) (.inl (by omega))
  rw [if_neg h2]
  by_cases h3 : bAt l p < 224
  · rw [if_pos h3]; exact rrune_2 a len cap p w l h (by omega) (by omega) (by omega)
  rw [if_neg h3]
  by_cases h4 : bAt l p < 240
  · rw [if_pos h4]; exact rrune_3 a len cap p w l h (by omega) (by omega) (by omega)
  rw [if_neg h4]
  by_cases h5 : bAt l p < 248
  · rw [if_pos h5]; exact rrune_4 a len cap p w l h (by omega) (by omega) (by omega)
  rw [if_neg h5]; exact rrune_bad a len cap p w l h (by omega) (.inr (by omega))

theorem and_192f : ∀ x : Fin 256, bits BinOp.and IntKind.u8 ((x : Nat) : Int) 192 = (((x : Nat) / 64 * 64 : Nat) : Int) := by decide +kernel
theorem and_63uf : ∀ x : Fin 256, bits BinOp.and IntKind.u8 ((x : Nat) : Int) 63 = (((x : Nat) % 64 : Nat) : Int) := by decide +kernel
theorem and_31if : ∀ x : Fin 256, bits BinOp.and IntKind.i64 ((x : Nat) : Int) 31 = (((x : Nat) % 32 : Nat) : Int) := by decide +kernel
theorem and_15if : ∀ x : Fin 256, bits BinOp.and IntKind.i64 ((x : Nat) : Int) 15 = (((x : Nat) % 16 : Nat) : Int) := by decide +kernel
theorem and_7if : ∀ x : Fin 256, bits BinOp.and IntKind.i64 ((x : Nat) : Int) 7 = (((x : Nat) % 8 : Nat) : Int) := by decide +kernel
theorem or_64u (r x : Nat) (h : r < 1000000000) (hx : x < 64) : bits BinOp.or IntKind.i64 ((r : Int) * 64) (x : Int) = ((r * 64 + x : Nat) : Int) := by
  rw [bits_join .i64 40 (by decide) (fun n h0 h1 => IntWalk.i64_in _ (by omega)) 6 _ _ (by omega) (by omega) (by omega) (by omega) (by omega) (by omega)]
  omega

def UFr (a : Act) (u : Nat → Value) : Prop := a = ⟨((List.range 96).map u).toArray, []⟩

theorem UFr.of (A : Array Value) (h : A.size = 96) : UFr ⟨A, []⟩ (fun i => A.getD i undef) := by
  unfold UFr
  congr 1
  apply Array.ext
  · simp [h]
  · intro i h1 h2
    simp [h1]

def UL (l : Nat) : Prop := l = 0 ∨ l = 1

/-- The state at 'next'. -/
structure USt (ab : Option Addr) (len cap p : Nat) (l : List UInt8) (u : Nat → Value) (m least k r0 rr : Nat) : Prop where
  s0 : u 0 = .slice ab len cap
  s1 : u 1 = .int .i64 p
  s4 : u 4 = .int .i64 rr
  s7 : u 7 = .int .i64 m
  s8 : u 8 = .int .i64 least
  s9 : u 9 = .int .i64 k
  k1 : 1 ≤ k
  km : k ≤ m + 1
  m3 : m ≤ 3
  hp : p + m < len
  res : runeAt l p = fin (tails l m (p + 1) r0) (m + 1) least
  got : tails l (k - 1) (p + 1) r0 = some rr
  bd : rr < 64 ^ k
  hl : least ≤ 65536

def UJ (ab : Option Addr) (len cap p : Nat) (l : List UInt8) (w : World) : Nat → Act → World → Prop
  | 0, a, w' => ∃ u, UFr a u ∧ runeAt l p = (0, 0) ∧ w = w'
  | _, a, w' => ∃ u m least k r0 rr, UFr a u ∧ USt ab len cap p l u m least k r0 rr ∧ w = w'

def umu (l : Nat) (a : Act) (_ : World) : Nat := if l = 1 then 10 - (intOf (a.tmps.getD 9 undef)).toNat else 0

/-- What Rune answers. -/
def RuneOut (l : List UInt8) (p : Nat) (w : World) (e : Ending) (w' : World) : Prop := e = .returned (.tuple #[.int .i64 ((runeAt l p).1 : Nat), .int .i64 ((runeAt l p).2 : Nat)]) ∧ w = w'

noncomputable def ucode : Code := match Try.f54.body with | some (.seq _ (.seq _ (.scope c))) => c | some (.seq _ (.scope c)) => c | _ => .skip
noncomputable def urest (l : Nat) : Code := (findLabel ucode l).getD .skip
/-- What stands behind 'next'. -/
noncomputable def unext : Code := match urest 1 with | .seq _ x => x | c => c

theorem urest_next : urest 1 = .seq .skip unext := by kernel_rfl

set_option maxRecDepth 100000 in
set_option maxHeartbeats 1000000 in
theorem upass0 (ab : Option Addr) (len cap p : Nat) (l : List UInt8) (w : World) (a : Act) (w' : World) (hJ : UJ ab len cap p l w 0 a w') (J : Nat → Act → World → Prop) :
    (urest 0).wp Try.prog (JumpTo UL J (bodyPost Try.prog Try.f54 (RuneOut l p w))) a w' := by
  obtain ⟨u, rfl, hr, rfl⟩ := hJ
  have HR := Lib.hid hr
  clear hr
  simp only [List.range, List.range.loop, List.map_cons, List.map_nil]
  conv => arg 2; whnf
  go_wp2_with fail
  simp only [JumpTo]
  go_ret2
  exact ⟨by rw [HR.out]; rfl, rfl⟩

end Go.Proofs.Ytambhapgjonmmaa
