/- tree.Check and the reference's Check. -/
import Derived.Test.YtkcfkdmffbhljaaBoU
namespace Go.Proofs.Ytkcfkdmffbhljaa
open Go.RowKit
set_option linter.unusedVariables false
set_option linter.unusedSimpArgs false

/-- What is wrong of a tree. -/
def chk (t : T) : Option (List Int × Nat) := checkT t ⟨#[]⟩ []

def ChkOut (t : T) (w : World) (e : Ending) (w' : World) : Prop := ∃ a n c, e = .returned (.tuple #[.slice a n c, .int .i64 (errN (chk t) : Nat)]) ∧ n = (errP (chk t)).length ∧ n ≤ 9223372036854775807 ∧ RdPS (fun q => w.heap.size ≤ q) w' a (errP (chk t)) ∧ (a = none → c = 0) ∧ Below w.heap.size w w'

theorem no_own (k : Nat) : (Value.slice none 0 0).ownBlock ≠ some k := fun h => nomatch h

set_option maxRecDepth 100000 in
set_option maxHeartbeats 2000000 in
theorem tcheck_calls (t : T) (w : World) (c : Array Value) (h : RdT w t c) (hw : t.wt ≤ 900000) : Calls Try.prog 40 #[.agg c] w (ChkOut t w) := by
  obtain ⟨k, bits, hi, lo, text, more, sub, ab, nb, cb, ak, nk, ck, rfl⟩ := h.shape
  have hb : Below w.heap.size w (w.alloc (.cells (valCells k bits hi lo text more sub ab nb cb ak nk ck) 26)) := (Below.refl _ _).alloc (Nat.le_refl _) _
  have C := Lib.hid (tchk_all t.wt t (Nat.le_refl _) ⟨#[]⟩ (by decide) w _ w.heap.size _ (.slice none 0 0) [] h hb (Nat.le_refl _) hb.size (World.ownsRow_nil _ _ _ _) (by simp; omega))
  have HB := Lib.hid hb
  clear h hw hb
  go_enter Try.func40, Try.ntmps40
  go_wp2_with fail
  refine C.out.mono ?_
  rintro e w1 ⟨a, n, cc, rfl, ho, -, hch⟩
  have HB1 : Hid (Below w.heap.size w w1) := HB.out.trans ((hch.below (Nat.le_refl _) (fun k hk => absurd hk (no_own k))).mono HB.out.size)
  have HF : Hid (∀ q, (Value.slice a n cc).ownBlock = some q → w.heap.size ≤ q) := fun q hq => by
    have := (owns_lt ho q hq).1
    simpa using Nat.le_trans HB.out.size this
  obtain ⟨a2, c2, he, hr, hc, -, hm⟩ := ho.rd
  simp only [Value.slice.injEq] at he
  obtain ⟨rfl, rfl, rfl⟩ := he
  have HR := Lib.hid hr
  obtain ⟨E, hE⟩ : ∃ E, E = errN (checkT t ⟨#[]⟩ []) := ⟨_, rfl⟩
  obtain ⟨n, hn⟩ : ∃ n, n = (errP (checkT t ⟨#[]⟩ [])).length := ⟨_, rfl⟩
  rw [← hE, ← hn]
  rw [← hn] at hm
  have HE := Lib.hid hE
  have HN := Lib.hid hn
  clear ho hch C HB hE hr hn
  go_wp2_with fail
  go_ret2
  exact ⟨a, n, cc, by unfold chk; rw [← HE.out]; rfl, HN.out, hm, HR.out.imp (fun q _ hq => HF.out q hq), hc, HB1.out⟩

set_option maxRecDepth 100000 in
set_option maxHeartbeats 2000000 in
theorem rcheck2_calls (t : T) (w : World) (c : Array Value) (h : RdT w t c) (hw : t.wt ≤ 900000) : Calls Try.prog 29 #[.agg c] w (ChkOut t w) := by
  obtain ⟨k, bits, hi, lo, text, more, sub, ab, nb, cb, ak, nk, ck, rfl⟩ := h.shape
  have hb : Below w.heap.size w (w.alloc (.cells (valCells k bits hi lo text more sub ab nb cb ak nk ck) 26)) := (Below.refl _ _).alloc (Nat.le_refl _) _
  have C := Lib.hid (rchk_all t.wt t (Nat.le_refl _) ⟨#[]⟩ (by decide) (fun _ => False) _ _ none 0 0 [] (h.keep hb) (rdps_nil _ _) rfl (fun _ => rfl) (Nat.le_refl _) (by omega))
  have HB := Lib.hid hb
  clear h hw hb
  go_enter Try.func29, Try.ntmps29
  go_wp2_with fail
  refine C.out.mono ?_
  rintro e w1 ⟨a, n, cc, rfl, hn, hm, hr, hc, hbl⟩
  have HB1 : Hid (Below w.heap.size w w1) := HB.out.trans (hbl.mono HB.out.size)
  have HR := Lib.hid hr
  have HN := Lib.hid hn
  obtain ⟨E, hE⟩ : ∃ E, E = errN (checkT t ⟨#[]⟩ []) := ⟨_, rfl⟩
  rw [← hE]
  have HE := Lib.hid hE
  clear hbl C hE hr hn
  go_wp2_with fail
  go_ret2
  exact ⟨a, n, cc, by unfold chk; rw [← HE.out]; rfl, HN.out, hm, HR.out.imp (fun q _ hq => by rcases hq with hq | hq; exact hq.elim; exact Nat.le_trans HB.out.size hq), hc, HB1.out⟩

end Go.Proofs.Ytkcfkdmffbhljaa
