/- jout.Print; the law's awake. -/
import Derived.Test.YtamhdoijmkjngaaJChk
namespace Go.Proofs.Ytamhdoijmkjngaa
open Go.RowKit
set_option linter.unusedVariables false
set_option linter.unusedSimpArgs false

set_option maxRecDepth 100000 in
set_option maxHeartbeats 4000000 in
theorem jprint_calls (j : J) (hw : wtJ j ≤ 80000) (S : Nat → Prop) (w : World) (c : Array Value) (h : RdJ S w j c) :
    Calls Try.prog 20 #[.agg c] w fun e w' => (checkJ j = 0 → e = .returned (.tuple #[.string (txt (printJ j)), .int .i64 0])) ∧ (checkJ j ≠ 0 → e = .returned (.tuple #[.string ⟨#[]⟩, .int .i64 (checkJ j : Nat)])) ∧ Below w.heap.size w w' := by
  have hc0 := h
  have CC := Lib.hid (fun S W c => chk_all (wtJ j) j (Nat.le_refl _) S W c)
  have CL := Lib.hid (fun W B v bs c => lay_all (wtJ j) j (Nat.le_refl _) W B v bs c)
  obtain ⟨q, hq⟩ : ∃ q, q = checkJ j := ⟨_, rfl⟩
  rw [← hq] at CC CL
  have HR := Lib.hid hc0
  have hs3 : ∃ (k : Int) (x : ByteArray) (ak : Option Addr) (nk ck : Nat), c = jCells k x ak nk ck := by
    cases j with
    | mk k t m => obtain ⟨x, ak, nk, ck, rfl, _⟩ := h; exact ⟨k, x, ak, nk, ck, rfl⟩
  obtain ⟨k, x, ak, nk, ck, rfl⟩ := hs3
  have hB1 : Below w.heap.size w (w.alloc (.cells (jCells k x ak nk ck) 24)) := (Below.refl _ _).alloc (Nat.le_refl _) _
  have HB1 := Lib.hid hB1
  have hw2 : wtJ j ≤ 100000 := by omega
  have HQ := Lib.hid hq
  clear h hc0 hB1 hq
  by_cases hq0 : q = 0
  · subst hq0
    go_enter Try.func20, Try.ntmps20
    go_wp2_with fail
    refine (CC.out _ _ _ (HR.out.below HB1.out) hw2).mono ?_
    rintro e w2 ⟨rfl, hb2⟩
    have f0 : w2.cell? ⟨w.heap.size, 0, none⟩ = some (.int .i64 k) := below_cellB hb2 (by simp [go_sem]) (by simp)
    have f1 : w2.cell? ⟨w.heap.size, 1, none⟩ = some (.string x) := below_cellB hb2 (by simp [go_sem]) (by simp)
    have f2 : w2.cell? ⟨w.heap.size, 2, none⟩ = some (.slice ak nk ck) := below_cellB hb2 (by simp [go_sem]) (by simp)
    have HB2 := Lib.hid (HB1.out.trans (hb2.mono (by simp)))
    have HR2 : Hid (RdJ (fun k => k < w2.heap.size) w2 j (jCells k x ak nk ck)) := Lib.hid (((HR.out.below HB1.out).below hb2).imp (fun k hk _ => hk))
    clear hb2
    go_wp2_with fail
    refine (CL.out _ w2.heap.size _ [] _ HR2.out (World.ownsRow_nil _ _ _ _) (Nat.le_refl _) (by simp; omega) (by trivial)).mono ?_
    rintro e w3 ⟨v3, rfl, ho3, hl3⟩
    rw [List.nil_append] at ho3
    obtain ⟨a9, m9, c9, rfl, hcv⟩ := own_text ho3
    have HB3 := Lib.hid (HB2.out.trans ((hl3.below (Below.refl _ _) (Nat.le_refl _) (fun k hk => by simp [Value.ownBlock] at hk)).mono HB2.out.size))
    clear ho3 hl3
    go_wp2_with fail
    go_ret2
    exact ⟨fun _ => rfl, fun h => absurd HQ.out.symm h, HB3.out⟩
  · have d1 : ((q : Int) == 0) = false := by simp; omega
    have d2 : ((q : Int) != 0) = true := by simp; omega
    go_enter Try.func20, Try.ntmps20
    go_wp2_with fail
    refine (CC.out _ _ _ (HR.out.below HB1.out) hw2).mono ?_
    rintro e w2 ⟨rfl, hb2⟩
    have HB2 := Lib.hid (HB1.out.trans (hb2.mono (by simp)))
    clear hb2
    go_wp2_with fail
    go_ret2
    exact ⟨fun h => absurd (HQ.out.trans h) hq0, fun _ => by rw [← HQ.out]; rfl, HB2.out⟩

/-- The tree that the statements' own look prints. -/
def awJ : J := .mk 6 [] (.cons [] (.mk 1 [] .nil) (.cons [] (.mk 4 [49] .nil) .nil))

theorem aw_rd (w : World) : RdJ (fun _ => True) (w.alloc (.cells #[.string { data := #[] }, .int .i64 1, .string { data := #[] }, .slice none 0 0, .string { data := #[] }, .int .i64 4, .string { data := #[49] }, .slice none 0 0] 62)) awJ (jCells 6 { data := #[] } (some ⟨w.heap.size, 0, none⟩) 2 2) := by
  refine ⟨⟨#[]⟩, _, 2, 2, rfl, rfl, by decide, by omega, rfl, ⟨by omega, by simp, by omega⟩, ⟨w.heap.size, 0, jCells 1 ⟨#[]⟩ none 0 0, ⟨#[]⟩, rfl, trivial, rfl, by decide, by simp [go_sem], ?_, ?_⟩, ⟨w.heap.size, 0, jCells 4 ⟨#[49]⟩ none 0 0, ⟨#[]⟩, rfl, trivial, rfl, by decide, by simp [go_sem], ?_, ?_⟩, trivial⟩
  · intro j hj
    match j, hj with
    | 0, _ | 1, _ | 2, _ => simp [go_sem]
  · exact ⟨⟨#[]⟩, none, 0, 0, rfl, rfl, by decide, by omega, rfl, ⟨by omega, fun _ => rfl, by omega⟩, trivial⟩
  · intro j hj
    match j, hj with
    | 0, _ | 1, _ | 2, _ => simp [go_sem]
  · exact ⟨⟨#[49]⟩, none, 0, 0, rfl, rfl, by decide, by omega, rfl, ⟨by omega, fun _ => rfl, by omega⟩, trivial⟩

set_option maxRecDepth 100000 in
set_option maxHeartbeats 2000000 in
theorem awake24 (w : World) : Calls Try.prog 18 #[] w fun e w' => e = .returned (.bool true) ∧ Below w.heap.size w w' := by
  have hck : checkJ awJ = 0 := by decide +kernel
  have hpr : printJ awJ = [91, 110, 117, 108, 108, 44, 49, 93] := by decide +kernel
  have C := Lib.hid ((jprint_calls awJ (by decide) _ _ _ (aw_rd w)).mono (by rintro e w' ⟨h1, _, h3⟩; exact (show e = .returned (.tuple #[.string (txt [91, 110, 117, 108, 108, 44, 49, 93]), .int .i64 0]) ∧ Below _ _ w' from ⟨by rw [h1 hck, hpr], h3⟩)))
  have ht := toList_txt [91, 110, 117, 108, 108, 44, 49, 93]
  clear hck hpr
  go_enter Try.func18, Try.ntmps18
  go_wp2_with fail
  refine C.out.mono ?_
  rintro e w1 ⟨rfl, hb1⟩
  have HB1 := Lib.hid (((Below.refl w.heap.size w).alloc (Nat.le_refl _) _).trans (hb1.mono (by simp)))
  clear hb1
  go_wp2_with fail
  go_ret
  exact ⟨rfl, HB1.out⟩

end Go.Proofs.Ytamhdoijmkjngaa
