/- path.All; the statements' own look (awake). -/
import Derived.Test.YtiodjhcjfbnocaaPaF
import Derived.Test.YtiodjhcjfbnocaaPaS2
import Derived.Deep.RegionHeld3
namespace Go.Proofs.Ytiodjhcjfbnocaa
open Go.RowKit
set_option linter.unusedVariables false
set_option linter.unusedSimpArgs false

theorem all_all : ∀ d, AllSaid d
  | 0 => fun t hd => by cases t; simp only [T.wt] at hd; omega
  | d + 1 => all_step d (all_all d)

theorem nil_own (k : Nat) : (Value.slice none 0 0).ownBlock ≠ some k := fun h => nomatch h

set_option maxRecDepth 100000 in
set_option maxHeartbeats 2000000 in
theorem all_calls (t : T) (w : World) (c : Array Value) (h : RdT w t c) (hw : t.wt ≤ 90000) :
    Calls Try.prog 14 #[.agg c] w fun e w' => ∃ v, e = .returned v ∧ OwnR w' w.heap.size (fun k => w.heap.size ≤ k) v (allT t []) ∧ Below w.heap.size w w' := by
  have HA := Lib.hid (all_all t.wt t (Nat.le_refl _))
  have HR := Lib.hid h
  have hwt := hw
  obtain ⟨k, bits, hi, lo, text, more, sub, bs, kids⟩ := t
  obtain ⟨ab, nb, cb, ak, nk, ck, rfl, -⟩ := h
  go_enter Try.func14, Try.ntmps14
  go_wp2_with fail
  have hB1 : Below w.heap.size w (w.alloc (.cells (valCells k bits hi lo text more sub ab nb cb ak nk ck) 26)) := (Below.refl _ _).alloc (Nat.le_refl _) _
  have C := HA.out _ _ _ (valCells k bits hi lo text more sub ab nb cb ak nk ck) (fun k => w.heap.size ≤ k) (.slice none 0 0) (.slice none 0 0) [] [] (HR.out.keep hB1) (Below.refl _ _) (Nat.le_refl _) (Nat.le_refl _) (OwnR.nil _ _ _) (World.ownsRow_nil _ _ _ _) (fun k hk => absurd hk (nil_own k)) (fun k hk => nil_own k) (fun k hk => by simp at hk; omega) (by simp; omega) (by simp; omega)
  refine C.mono ?_
  rintro e w' ⟨v, rfl, ho, -, hch, -⟩
  have HB : Hid (Below w.heap.size w w') := hB1.trans ((hch.below (Nat.le_refl _) (fun k hk => by rcases hk with h | h <;> exact absurd h (nil_own k))).mono (by simp))
  have HO : Hid (OwnR w' w.heap.size (fun k => w.heap.size ≤ k) v ([] ++ allT (.mk k bits hi lo text more sub bs kids) [])) := by
    obtain ⟨xs, S, h1, h2, h3⟩ := ho
    exact ⟨xs, S, ⟨h1.1, h1.2.imp id fun ⟨g, cap, cur, a, b, r⟩ => ⟨g, cap, cur, a, by simp at b; omega, r⟩⟩, h2, h3⟩
  clear ho hch C hB1 HA
  go_wp2_with fail
  go_ret
  exact ⟨_, rfl, HO.out, HB.out⟩

def oneT : T := .mk 16 1 0 0 ⟨#[]⟩ ⟨#[]⟩ 0 [] .nil
def inT : T := .mk 3 0 0 0 ⟨#[]⟩ ⟨#[]⟩ 0 [] (.cons ⟨#[98]⟩ oneT .nil)
def outT : T := .mk 3 0 0 0 ⟨#[]⟩ ⟨#[]⟩ 0 [] (.cons ⟨#[97]⟩ inT .nil)
theorem aw18a : (goT outT [0, 0]).isSome = true := by kernel_rfl
theorem aw18b : sameT (goX outT [0, 0]) oneT = true := by kernel_rfl
theorem aw18c : (allT outT []).length = 3 := by kernel_rfl
theorem aw18d : outT.wt ≤ 90000 := by decide +kernel
theorem aw18e : (goX outT [0, 0]).wt ≤ 90000 := by decide +kernel

theorem oneT_rd (w : World) : RdT w oneT (valCells 16 1 0 0 ⟨#[]⟩ ⟨#[]⟩ 0 none 0 0 none 0 0) :=
  ⟨none, 0, 0, none, 0, 0, rfl, ⟨by omega, by unfold okSize; omega, by unfold okSize; omega, by unfold okSize; omega, by decide, by decide, by omega⟩, .nil _ _, rfl, ⟨by omega, ⟨fun _ => rfl, by omega⟩, fun _ => rfl, by omega⟩, trivial⟩

theorem doc_rd {w : World} {g : Nat} {n : ByteArray} {t : T} {c : Array Value} (hn : n.size ≤ 1000) (h : RdT w t c) (h0 : w.cell? ⟨g, 0, none⟩ = some (.string n)) (hc : ∀ j, j < 9 → w.cell? ⟨g, j + 1, none⟩ = c[j]?) :
    RdT w (.mk 3 0 0 0 ⟨#[]⟩ ⟨#[]⟩ 0 [] (.cons n t .nil)) (valCells 3 0 0 0 ⟨#[]⟩ ⟨#[]⟩ 0 none 0 0 (some ⟨g, 0, none⟩) 1 1) := by
  refine ⟨none, 0, 0, some ⟨g, 0, none⟩, 1, 1, rfl, ⟨by omega, by unfold okSize; omega, by unfold okSize; omega, by unfold okSize; omega, by decide, by decide, by omega⟩, .nil _ _, rfl, ⟨by omega, ⟨fun e => by simp at e, by omega⟩, fun _ => rfl, by omega⟩, ?_⟩
  refine ⟨⟨g, 0, c, rfl, by omega, by simpa using h0, fun j hj => ?_, h⟩, trivial⟩
  have := hc j hj
  simpa using this

set_option maxRecDepth 100000 in
set_option maxHeartbeats 4000000 in
theorem awake18 (w : World) : Calls Try.prog 13 #[] w fun e w' => e = .returned (.bool true) ∧ Below w.heap.size w w' := by
  go_enter Try.func13, Try.ntmps13
  go_wp2_with fail
  obtain ⟨W6, hW6⟩ : ∃ W, W = ((((((w.alloc (.cells #[.int .i64 16, .int .u64 1, .int .u64 0, .int .u64 0, .string ⟨#[]⟩, .string ⟨#[]⟩, .int .i64 0, .slice none 0 0, .slice none 0 0] 26)).alloc (.cells #[.string ⟨#[98]⟩, .int .i64 16, .int .u64 1, .int .u64 0, .int .u64 0, .string ⟨#[]⟩, .string ⟨#[]⟩, .int .i64 0, .slice none 0 0, .slice none 0 0] 28)).alloc (.cells #[.int .i64 3, .int .u64 0, .int .u64 0, .int .u64 0, .string ⟨#[]⟩, .string ⟨#[]⟩, .int .i64 0, .slice none 0 0, .slice (some ⟨w.heap.size + 1, 0, none⟩) 1 1] 26)).alloc (.cells #[.string ⟨#[97]⟩, .int .i64 3, .int .u64 0, .int .u64 0, .int .u64 0, .string ⟨#[]⟩, .string ⟨#[]⟩, .int .i64 0, .slice none 0 0, .slice (some ⟨w.heap.size + 1, 0, none⟩) 1 1] 28)).alloc (.cells #[.int .i64 3, .int .u64 0, .int .u64 0, .int .u64 0, .string ⟨#[]⟩, .string ⟨#[]⟩, .int .i64 0, .slice none 0 0, .slice (some ⟨w.heap.size + 1 + 1 + 1, 0, none⟩) 1 1] 26)).alloc (.cells #[.int .i64 0, .int .i64 0] 3)) := ⟨_, rfl⟩
  rw [← hW6]
  have p0 : W6.cell? ⟨w.heap.size, 0, none⟩ = some (.int .i64 16) := by rw [hW6]; simp [go_sem]
  have q0 : W6.cell? ⟨w.heap.size + 1 + 1 + 1 + 1, 0, none⟩ = some (.int .i64 3) := by rw [hW6]; simp [go_sem]
  have p1 : W6.cell? ⟨w.heap.size, 1, none⟩ = some (.int .u64 1) := by rw [hW6]; simp [go_sem]
  have q1 : W6.cell? ⟨w.heap.size + 1 + 1 + 1 + 1, 1, none⟩ = some (.int .u64 0) := by rw [hW6]; simp [go_sem]
  have p2 : W6.cell? ⟨w.heap.size, 2, none⟩ = some (.int .u64 0) := by rw [hW6]; simp [go_sem]
  have q2 : W6.cell? ⟨w.heap.size + 1 + 1 + 1 + 1, 2, none⟩ = some (.int .u64 0) := by rw [hW6]; simp [go_sem]
  have p3 : W6.cell? ⟨w.heap.size, 3, none⟩ = some (.int .u64 0) := by rw [hW6]; simp [go_sem]
  have q3 : W6.cell? ⟨w.heap.size + 1 + 1 + 1 + 1, 3, none⟩ = some (.int .u64 0) := by rw [hW6]; simp [go_sem]
  have p4 : W6.cell? ⟨w.heap.size, 4, none⟩ = some (.string ⟨#[]⟩) := by rw [hW6]; simp [go_sem]
  have q4 : W6.cell? ⟨w.heap.size + 1 + 1 + 1 + 1, 4, none⟩ = some (.string ⟨#[]⟩) := by rw [hW6]; simp [go_sem]
  have p5 : W6.cell? ⟨w.heap.size, 5, none⟩ = some (.string ⟨#[]⟩) := by rw [hW6]; simp [go_sem]
  have q5 : W6.cell? ⟨w.heap.size + 1 + 1 + 1 + 1, 5, none⟩ = some (.string ⟨#[]⟩) := by rw [hW6]; simp [go_sem]
  have p6 : W6.cell? ⟨w.heap.size, 6, none⟩ = some (.int .i64 0) := by rw [hW6]; simp [go_sem]
  have q6 : W6.cell? ⟨w.heap.size + 1 + 1 + 1 + 1, 6, none⟩ = some (.int .i64 0) := by rw [hW6]; simp [go_sem]
  have p7 : W6.cell? ⟨w.heap.size, 7, none⟩ = some (.slice none 0 0) := by rw [hW6]; simp [go_sem]
  have q7 : W6.cell? ⟨w.heap.size + 1 + 1 + 1 + 1, 7, none⟩ = some (.slice none 0 0) := by rw [hW6]; simp [go_sem]
  have p8 : W6.cell? ⟨w.heap.size, 8, none⟩ = some (.slice none 0 0) := by rw [hW6]; simp [go_sem]
  have q8 : W6.cell? ⟨w.heap.size + 1 + 1 + 1 + 1, 8, none⟩ = some (.slice (some ⟨w.heap.size + 1 + 1 + 1, 0, none⟩) 1 1) := by rw [hW6]; simp [go_sem]
  have hz6 : W6.heap.size = w.heap.size + 6 := by rw [hW6]; simp
  have hb6 : Below w.heap.size w W6 := by
    rw [hW6]
    exact ((((((Below.refl _ _).alloc (Nat.le_refl _) _).alloc (by simp) _).alloc (by simp; try omega) _).alloc (by simp; try omega) _).alloc (by simp; try omega) _).alloc (by simp; try omega) _
  have hr : RdT W6 outT (valCells 3 0 0 0 ⟨#[]⟩ ⟨#[]⟩ 0 none 0 0 (some ⟨w.heap.size + 1 + 1 + 1, 0, none⟩) 1 1) := by
    rw [hW6]
    refine doc_rd (g := w.heap.size + 1 + 1 + 1) (by decide) (doc_rd (g := w.heap.size + 1) (by decide) (oneT_rd _) (by simp [go_sem]) (by intro j hj; have h9 : j = 0 ∨ j = 1 ∨ j = 2 ∨ j = 3 ∨ j = 4 ∨ j = 5 ∨ j = 6 ∨ j = 7 ∨ j = 8 := (by omega); rcases h9 with rfl | rfl | rfl | rfl | rfl | rfl | rfl | rfl | rfl <;> simp [go_sem])) (by simp [go_sem]) (by intro j hj; have h9 : j = 0 ∨ j = 1 ∨ j = 2 ∨ j = 3 ∨ j = 4 ∨ j = 5 ∨ j = 6 ∨ j = 7 ∨ j = 8 := (by omega); rcases h9 with rfl | rfl | rfl | rfl | rfl | rfl | rfl | rfl | rfl <;> simp [go_sem])
  have hp : RdPS (fun _ => True) W6 (some ⟨w.heap.size + 1 + 1 + 1 + 1 + 1, 0, none⟩) [0, 0] := by
    refine ⟨fun i hi => ⟨_, _, rfl, ?_⟩, fun _ _ _ => trivial⟩
    have h2 : i = 0 ∨ i = 1 := by simp at hi; omega
    rw [hW6]
    rcases h2 with rfl | rfl <;> simp [go_sem, iat]
  have HR := Lib.hid hr
  have HB6 := Lib.hid hb6
  refine (get_calls outT W6 _ HR.out _ [0, 0] 2 2 (fun _ => True) hp rfl (by omega) aw18d).mono ?_
  clear hp hb6 hr hW6
  rintro e w1 ⟨c1, rfl, hx, hb⟩
  rw [aw18a]
  have hx2 := hx.rd
  obtain ⟨k3, bits3, hi3, lo3, text3, more3, sub3, ab3, nb3, cb3, ak3, nk3, ck3, rfl⟩ : ∃ k bits hi lo text more sub ab nb cb ak nk ck, c1 = valCells k bits hi lo text more sub ab nb cb ak nk ck := by
    generalize goX outT [0, 0] = x at hx2
    cases x
    obtain ⟨ab, nb, cb, ak, nk, ck, rfl, _⟩ := hx2
    exact ⟨_, _, _, _, _, _, _, _, _, _, _, _, _, rfl⟩
  have p0 := cell_below hb p0
  have q0 := cell_below hb q0
  have p1 := cell_below hb p1
  have q1 := cell_below hb q1
  have p2 := cell_below hb p2
  have q2 := cell_below hb q2
  have p3 := cell_below hb p3
  have q3 := cell_below hb q3
  have p4 := cell_below hb p4
  have q4 := cell_below hb q4
  have p5 := cell_below hb p5
  have q5 := cell_below hb q5
  have p6 := cell_below hb p6
  have q6 := cell_below hb q6
  have p7 := cell_below hb p7
  have q7 := cell_below hb q7
  have p8 := cell_below hb p8
  have q8 := cell_below hb q8
  have hz1 : w.heap.size + 6 ≤ w1.heap.size := by have := hb.size; omega
  have HR1 := Lib.hid (HR.out.keep (hb.mono (by omega)))
  have HX := Lib.hid hx2
  have HB := Lib.hid (HB6.out.trans (hb.mono (by omega)))
  have l0 : w.heap.size < w1.heap.size := by omega
  have l4 : w.heap.size + 1 + 1 + 1 + 1 < w1.heap.size := by omega
  clear hb hx hx2 hz6 HR HB6
  have hb1 : Below w1.heap.size w1 (w1.alloc (.cells (valCells k3 bits3 hi3 lo3 text3 more3 sub3 ab3 nb3 cb3 ak3 nk3 ck3) 26)) := (Below.refl _ _).alloc (Nat.le_refl _) _
  have hb1' : Below w1.heap.size w1 (w1.alloc (.cells (valCells k3 bits3 hi3 lo3 text3 more3 sub3 ab3 nb3 cb3 ak3 nk3 ck3) 26)) := hb1
  have HB1 := Lib.hid hb1
  clear hb1 hb1'
  have CS := Lib.hid (fun W h1 h2 => tsame_all (goX outT [0, 0]).wt (goX outT [0, 0]) oneT (Nat.le_refl _) W (valCells k3 bits3 hi3 lo3 text3 more3 sub3 ab3 nb3 cb3 ak3 nk3 ck3) (valCells 16 1 0 0 ⟨#[]⟩ ⟨#[]⟩ 0 none 0 0 none 0 0) h1 h2)
  rw [aw18b] at CS
  go_wp2_with fail
  refine (CS.out _ (HX.out.keep HB1.out) (oneT_rd _)).mono ?_
  rintro e w2 ⟨rfl, hb2⟩
  have hb1 := HB1.out
  have q0 := cell_below hb2 (cell_below hb1 q0)
  have q1 := cell_below hb2 (cell_below hb1 q1)
  have q2 := cell_below hb2 (cell_below hb1 q2)
  have q3 := cell_below hb2 (cell_below hb1 q3)
  have q4 := cell_below hb2 (cell_below hb1 q4)
  have q5 := cell_below hb2 (cell_below hb1 q5)
  have q6 := cell_below hb2 (cell_below hb1 q6)
  have q7 := cell_below hb2 (cell_below hb1 q7)
  have q8 := cell_below hb2 (cell_below hb1 q8)
  have HR2 := Lib.hid ((HR1.out.keep hb1).keep hb2)
  have HB2 := Lib.hid ((HB.out.trans (hb1.mono HB.out.size)).trans (hb2.mono (Nat.le_trans HB.out.size hb1.size)))
  clear hb1 hb2 CS HR1 p0 p1 p2 p3 p4 p5 p6 p7 p8
  go_wp2_with fail
  refine (all_calls outT _ _ HR2.out aw18d).mono ?_
  rintro e w3 ⟨v3, rfl, ho, hb3⟩
  obtain ⟨-, a4, c4, -, hv, -⟩ := ho.reads
  rw [aw18c] at hv
  subst hv
  have HB3 := Lib.hid (HB2.out.trans (hb3.mono HB2.out.size))
  clear ho hb3 HR2
  go_wp2_with fail
  go_ret
  exact ⟨rfl, HB3.out⟩

end Go.Proofs.Ytiodjhcjfbnocaa
