/- A path and one number more (out of the texts of layer 18). -/
import Derived.Test.YtkcfkdmffbhljaaBoP
namespace Go.Proofs.Ytkcfkdmffbhljaa
open Go.RowKit
set_option linter.unusedVariables false
set_option linter.unusedSimpArgs false

theorem RdPS.at {S : Nat → Prop} {w : World} {a : Option Addr} {l : List Int} (h : RdPS S w a l) (i : Nat) (hi : i < l.length) : ∃ b o, a = some ⟨b, o, none⟩ ∧ w.cell? ⟨b, o + i, none⟩ = some (.int .i64 (iat l i)) := h.1 i hi

theorem ownI_empty {w : World} {B g : Nat} (h : w.heap[g]? = some (.cells #[] 3 (0, 0))) (hB : B ≤ g) : OwnI w B (.slice (some ⟨g, 0, none⟩) 0 0) [] :=
  ⟨rfl, .inr ⟨g, 0, #[], rfl, hB, h, Nat.le_refl _, by unfold maxLen; omega, rfl, rfl⟩⟩

set_option maxRecDepth 100000 in
set_option maxHeartbeats 2000000 in
theorem longer_calls (S : Nat → Prop) (a : Option Addr) (n c : Nat) (p : List Int) (hn : p.length = n) (hc : a = none → c = 0) (hb : n ≤ 1000000) (i : Int) (w : World) (h : RdPS S w a p) :
    Calls Try.prog 68 #[.slice a n c, .int .i64 i] w fun e w' => ∃ v, e = .returned v ∧ OwnI w' w.heap.size v (p ++ [i]) ∧ Below w.heap.size w w' := by
  subst hn
  have HSR := Lib.hid ((h.keep (KeepS.below ((Below.refl _ _).alloc (Nat.le_refl _) (.cells #[] 3)))).src hc)
  have HE : Hid (OwnI (w.alloc (.cells #[] 3)) w.heap.size (.slice (some ⟨w.heap.size, 0, none⟩) 0 0) []) := ownI_empty (heap_alloc_new w _) (Nat.le_refl _)
  clear h hc
  obtain ⟨m, hm⟩ : ∃ m, m = p.length := ⟨_, rfl⟩
  rw [← hm] at HSR hb ⊢
  go_enter Try.func68, Try.ntmps68
  go_wp2_with (at_builtin; refine wpList_appI (v := .slice (some ⟨w.heap.size, 0, none⟩) 0 0) (xs := []) (sv := .slice a m c) (l := p) (B := w.heap.size) (by rfl) _ _ (by rfl) (by rfl) HE.out (by rfl) (by rw [← hm]; exact HSR.out) ?o3 ?o4 ?_)
  case o3 => rw [← hm]; simp; omega
  case o4 => simp
  intro v1 w1 ho1 ha1
  have ho1 : OwnI w1 w.heap.size v1 p := ho1
  have HB1 : Hid (Below w.heap.size w w1) := ha1.below ((Below.refl _ _).alloc (Nat.le_refl _) _) (by simp) (fun k hk => by have := Option.some.inj (show some w.heap.size = some k from hk); omega)
  have HO1 := Lib.hid ho1
  obtain ⟨a1, c1, rfl, -⟩ := ho1.rd
  rw [← hm] at HO1 ⊢
  have HM := Lib.hid hm
  clear ho1 ha1 HSR HE hm
  go_wp2_with (at_builtin; refine wpList_appI (v := .slice a1 m c1) (xs := p) (sv := .slice (some ⟨w1.heap.size, 0, none⟩) 1 1) (l := [i]) (B := w.heap.size) (by rfl) _ _ (by rfl) (by rfl) (owns_keep HO1.out ((Below.refl _ _).alloc (Nat.le_refl _) _)) (by rfl) (src_int _ _ _) ?o5 ?o6 ?_)
  case o5 => rw [← HM.out]; simp; omega
  case o6 => have := HB1.out.size; simp; omega
  intro v2 w2 ho2 ha2
  have HB2 : Hid (Below w.heap.size w w2) := ha2.below (HB1.out.alloc HB1.out.size _) (by have := HB1.out.size; simp; omega) (fun k hk => (owns_lt HO1.out k hk).1)
  have HO2 := Lib.hid ho2
  clear ho2 ha2
  go_wp2_with fail
  go_ret
  exact ⟨_, rfl, HO2.out, HB2.out⟩

/-- longer, in a world above another one. -/
theorem longer_at (S : Nat → Prop) {a : Option Addr} {n c : Nat} {p : List Int} (hn : p.length = n) (hc : a = none → c = 0) (hb : n ≤ 1000000) (i : Int) {wr W : World} (hW : Below wr.heap.size wr W) (h : RdPS S wr a p) :
    Calls Try.prog 68 #[.slice a n c, .int .i64 i] W fun e w' => ∃ a5 c5, e = .returned (.slice a5 (n + 1) c5) ∧ RdPS (fun k => wr.heap.size ≤ k ∧ k < w'.heap.size) w' a5 (p ++ [i]) ∧ (a5 = none → c5 = 0) ∧ n + 1 ≤ c5 ∧ Below wr.heap.size wr w' := by
  refine (longer_calls S a n c p hn hc hb i W (h.keep (KeepS.below hW))).mono ?_
  rintro e w' ⟨v, rfl, ho, hbl⟩
  have hl := fun k hk => owns_lt ho k hk
  obtain ⟨a5, c5, rfl, hr, hc5, hle, -⟩ := ho.rd
  have e1 : (p ++ [i]).length = n + 1 := by simp [hn]
  rw [e1] at hle hr hl ⊢
  exact ⟨a5, c5, rfl, hr.imp fun k _ hk => ⟨Nat.le_trans hW.size (hl k hk).1, (hl k hk).2⟩, hc5, hle, hW.trans (hbl.mono hW.size)⟩

theorem rdps_nil (S : Nat → Prop) (w : World) : RdPS S w none [] := ⟨fun i hi => absurd hi (by simp), fun h => absurd h (by simp)⟩

end Go.Proofs.Ytkcfkdmffbhljaa
