/- The Writer: Lay, Bytes, Len, Raw. -/
import Derived.Test.YthahhjmgjlkmfaaCur5
import Derived.Maps.AppendAt
namespace Go.Proofs.Ythahhjmgjlkmfaa
open Go.RowKit
set_option linter.unusedVariables false
set_option linter.unusedSimpArgs false

/-- A new Writer, answered. -/
def LayPost (w : World) (e : Ending) (w' : World) : Prop :=
  ∃ g, e = .returned (.pointer (some ⟨g, 0, none⟩)) ∧ Wtr w' w.heap.size g (.slice none 0 0) [] ∧ Below w.heap.size w w' ∧ w.heap.size ≤ g

set_option maxRecDepth 100000 in
set_option maxHeartbeats 1000000 in
theorem lay_calls (w : World) : Calls Try.prog 21 #[] w (LayPost w) := by
  go_enter Try.func21, Try.ntmps21
  go_wp2
  go_ret
  exact ⟨w.heap.size, rfl, ⟨by simp [go_sem], by simp [go_sem], World.ownsRow_nil _ _ _ _, by simp [Value.ownBlock]⟩, (Below.refl _ _).alloc (Nat.le_refl _) _, Nat.le_refl _⟩

set_option maxRecDepth 100000 in
set_option maxHeartbeats 1000000 in
theorem wlen_calls (g : Nat) (v : Value) (bs : List UInt8) (w : World) (B : Nat) (h : Wtr w B g v bs) :
    Calls Try.prog 29 #[.pointer (some ⟨g, 0, none⟩)] w fun e w' => e = .returned (.int .i64 bs.length) ∧ w = w' := by
  obtain ⟨h1, h2, h3, h4⟩ := h
  obtain ⟨a, cap, rfl, _⟩ := h3.reads
  clear h2 h3 h4
  generalize bs.length = n at h1
  go_enter Try.func29, Try.ntmps29
  go_wp2
  go_ret
  exact ⟨rfl, rfl⟩

theorem own_nilcap {w : World} {B : Nat} {a : Option Addr} {n cap : Nat} {bs : List UInt8} (h : OwnB w B (.slice a n cap) bs) : a = none → cap = 0 := by
  rintro rfl
  rcases h.2 with ⟨e, _⟩ | ⟨g, cp, cur, e, _⟩
  · simp only [Value.slice.injEq] at e; exact e.2.2
  · simp at e

set_option maxRecDepth 100000 in
set_option maxHeartbeats 1000000 in
theorem wbytes_calls (g : Nat) (v : Value) (bs : List UInt8) (w : World) (B : Nat) (h : Wtr w B g v bs) (hn : bs.length ≤ 1000000000) :
    Calls Try.prog 30 #[.pointer (some ⟨g, 0, none⟩)] w (BytesPost w bs) := by
  obtain ⟨h1, h2, h3, h4⟩ := h
  obtain ⟨a, cap, rfl, hr⟩ := h3.reads
  have C := Lib.hid (clone_calls a _ cap bs w hr (own_nilcap h3) (by omega))
  clear h2 h3 h4 hr
  generalize hl : bs.length = n at h1 C
  clear hl
  go_enter Try.func30, Try.ntmps30
  go_wp2_with fail
  refine C.out.mono ?_
  rintro e w1 ⟨v1, rfl, ho, hb⟩
  have HO := Lib.hid ho
  have HB := Lib.hid hb
  clear ho hb
  go_wp2_with fail
  go_ret
  exact ⟨v1, rfl, HO.out, HB.out⟩

theorem wtr_grow2 {w X w1 : World} {B g : Nat} {v v' : Value} {bs cs : List UInt8} (h : Wtr w B g v bs) (hX : Below w.heap.size w X)
    (hown : OwnB w1 B v' cs) (hg : X.grownBy w1 v.ownBlock) (hat : v'.ownBlock = v.ownBlock ∨ v'.ownBlock = some X.heap.size) :
    WStep w B g v cs (w1.setCell ⟨g, 0, none⟩ v') := by
  have h0 := h
  obtain ⟨h1, h2, h3, h4⟩ := h
  have hlt := cell_block h1
  simp only at hlt
  have hsz := hX.size
  have hne : v'.ownBlock ≠ some g := by
    rcases hat with e | e
    · rw [e]; exact h4
    · rw [e]; intro e'; have := Option.some.inj e'; omega
  obtain ⟨c1, c2⟩ := wtr_far h0 hX hg
  refine ⟨v', ⟨World.cell?_setCell_same _ _ _ c1, by rw [World.frozen?_setCell]; exact c2, ?_, hne⟩, ?_, ?_⟩
  · refine OwnB.chg (S := fun j => j = g) hown (Chg.setCell (S := fun j => j = g) (Chg.refl _ w1) (p := ⟨g, 0, none⟩) (fun _ => rfl) _) ?_
    rintro j hj rfl
    exact hne hj
  · exact Chg.setCell (((Chg.of_below hX).grown hg (fun j hj _ => .inr hj))) (p := ⟨g, 0, none⟩) (fun _ => .inl rfl) _
  · intro j hj
    rcases hat with e | e
    · exact .inl (by rw [← e]; exact hj)
    · rw [e] at hj; have := Option.some.inj hj; exact .inr (by omega)

set_option maxRecDepth 100000 in
set_option maxHeartbeats 1000000 in
theorem wraw_some (g : Nat) (v : Value) (bs l : List UInt8) (w : World) (B : Nat) (h : Wtr w B g v bs) (hB : B ≤ w.heap.size) (hn : bs.length ≤ 1000000000) (ad : Addr) (m c : Nat) (hr : RdB w (some ad) m l) (hm : m ≤ 1000000000) :
    Calls Try.prog 23 #[.pointer (some ⟨g, 0, none⟩), .slice (some ad) m c] w fun e w' => e = .returned (.tuple #[]) ∧ WStep w B g v (bs ++ l) w' := by
  obtain ⟨i0, hi, hz0, hz1, hz2⟩ := info_parts infoU8
  have HI := Lib.hid hi
  have H := Lib.hid h
  have HR := Lib.hid hr
  clear hi hr
  obtain ⟨h1, h2, h3, h4⟩ := h
  have hlt := cell_block h1
  simp only at hlt
  obtain ⟨a, cap, rfl, _⟩ := h3.reads
  clear h3 h4
  go_enter Try.func23, Try.ntmps23
  go_wp2_with (at_builtin; refine wpList_append_own_at _ rfl _ _ _ rfl B 5 i0 (.int .u8 0) 1 1 Try.underlying22 HI.out hz0 hz1 hz2 rfl (by omega) _ bs.length (byteCells bs) rfl ?own ad m c (byteCells l) rfl ?c0 ?c1 ?c2 ?c3 ?c4 ?c5 ?_)
  case own => exact H.out.2.2.1
  case c0 => rw [byteCells_length, HR.out.1, Nat.mul_one]
  case c1 => exact news_of HR.out
  case c2 => exact byteCells_one l
  case c3 => unfold maxLen; omega
  case c4 => omega
  case c5 => exact hB
  intro v' w1 hown hgrow _ hat
  have hown' : OwnB w1 B v' (bs ++ l) := by unfold OwnB; rw [byteCells_append, List.length_append, HR.out.1]; exact hown
  obtain ⟨f1, f2⟩ := wtr_far H.out (Below.refl _ _) hgrow
  have HS := Lib.hid (wtr_grow2 H.out (Below.refl _ _) hown' hgrow hat)
  have hvs : ∃ a' n' c', v' = .slice a' n' c' := by obtain ⟨a', c', e, _⟩ := hown'.reads; exact ⟨a', _, c', e⟩
  clear hown hgrow hat hown'
  obtain ⟨a', n', c', hve⟩ := hvs
  rw [hve] at HS
  rw [hve]
  clear hve
  go_wp2_with fail
  go_end0
  exact ⟨rfl, HS.out⟩

end Go.Proofs.Ythahhjmgjlkmfaa
