/- slices.Clone at bytes. -/
import Derived.Test.YthahhjmgjlkmfaaNum3
import Derived.Test.YthahhjmgjlkmfaaOpen
namespace Go.Proofs.Ythahhjmgjlkmfaa
open Go.RowKit
set_option linter.unusedVariables false
set_option linter.unusedSimpArgs false

theorem clone_nil (w : World) : Calls Try.prog 42 #[.slice none 0 0] w fun e w' => e = .returned (.slice none 0 0) ∧ w = w' := by
  have hn := Lib.run_eql_slice_nil (P := Try.prog)
  go_enter Try.func42, Try.ntmps42
  go_wp2
  go_ret
  exact ⟨rfl, rfl⟩

theorem news_of {w : World} {ad : Addr} {len : Nat} {l : List UInt8} (h : RdB w (some ad) len l) : ∀ j u, (byteCells l)[j]? = some u → w.cell? (ad.add j) = some u := by
  intro j u hj
  have hlt : j < l.length := by
    have := (List.getElem?_eq_some_iff.1 hj).1
    rwa [byteCells_length] at this
  obtain ⟨b, o, ha, hc⟩ := h.at j (by rw [← h.1]; exact hlt)
  simp only [Option.some.injEq] at ha
  subst ha
  have := byteCells_at l j hlt
  rw [List.getD_eq_getElem?_getD, hj] at this
  rw [add_at, hc]
  exact congrArg some this.symm

set_option maxRecDepth 100000 in
set_option maxHeartbeats 1000000 in
theorem clone_some (ad : Addr) (len cap : Nat) (l : List UInt8) (w : World) (h : RdB w (some ad) len l) (hb : len ≤ 140737488355328) :
    Calls Try.prog 42 #[.slice (some ad) len cap] w (BytesPost w l) := by
  obtain ⟨i0, hi, hz0, hz1, hz2⟩ := info_parts infoU8
  have HI := Lib.hid hi
  have H := Lib.hid h
  clear hi h
  have hn := Lib.run_eql_slice_nil (P := Try.prog)
  go_enter Try.func42, Try.ntmps42
  go_wp2_with (at_builtin; refine wpList_append_own _ rfl _ _ 22 rfl w.heap.size 5 i0 (.int .u8 0) 1 1 Try.underlying22 HI.out hz0 hz1 hz2 rfl (by decide) _ 0 [] rfl ?own ad len cap (byteCells l) rfl ?c0 ?c1 ?c2 ?c3 ?c4 ?c5 ?_)
  case own => exact World.ownsRow_lit w #[] 0 (Nat.le_refl _) (by unfold maxLen; omega) rfl
  case c0 => rw [byteCells_length, H.out.1, Nat.mul_one]
  case c1 => exact news_of (H.out.keep ((Below.refl _ _).alloc (Nat.le_refl _) _))
  case c2 => exact byteCells_one l
  case c3 => unfold maxLen; omega
  case c4 => omega
  case c5 => simp
  intro v' w1 hown' hgrow _
  have HO' := Lib.hid hown'
  have HG := Lib.hid hgrow
  clear hown' hgrow
  go_wp2_with fail
  go_ret
  refine ⟨v', rfl, ?_, ?_⟩
  · have := HO'.out
    unfold OwnB
    rw [H.out.1]
    simpa using this
  · exact ((Below.refl w.heap.size w).alloc (Nat.le_refl _) _).grown HG.out (by simp) fun k hk => by simp [Value.ownBlock] at hk; omega

/-- Clone at whatever slice of bytes. -/
theorem clone_calls (a : Option Addr) (len cap : Nat) (l : List UInt8) (w : World) (h : RdB w a len l) (hc : a = none → cap = 0) (hb : len ≤ 140737488355328) :
    Calls Try.prog 42 #[.slice a len cap] w (BytesPost w l) := by
  cases a with
  | some ad => exact clone_some ad len cap l w h hb
  | none =>
    have h0 : len = 0 := by
      rcases Nat.eq_zero_or_pos len with h0 | h0
      · exact h0
      · obtain ⟨b, o, ha, _⟩ := h.at 0 h0
        cases ha
    subst h0
    obtain rfl := hc rfl
    have hl : l = [] := List.eq_nil_of_length_eq_zero h.1
    subst hl
    refine (clone_nil w).mono ?_
    rintro e w' ⟨rfl, rfl⟩
    exact ⟨_, rfl, World.ownsRow_nil _ _ _ _, Below.refl _ _⟩

end Go.Proofs.Ythahhjmgjlkmfaa
