/- May limits be: by the program, by the reference. -/
import Derived.Test.YtkcfkdmffbhljaaMT
namespace Go.Proofs.Ytkcfkdmffbhljaa
open Go.RowKit
set_option linter.unusedVariables false
set_option linter.unusedSimpArgs false

/-- Three limits, as they lie. -/
abbrev limCells (d s o : Int) : Array Value := #[.int .i64 d, .int .i64 s, .int .i64 o]

def mayS (d s o : Int) : Bool := decide (1 ≤ d ∧ d ≤ 200 ∧ 5 ≤ s ∧ s ≤ 16777216 ∧ 0 ≤ o ∧ o ≤ 67108864)

set_option maxRecDepth 100000 in
set_option maxHeartbeats 1000000 in
theorem may_calls (d s o : Int) (w : World) : Calls Try.prog 34 #[.agg (limCells d s o)] w fun e w' => e = .returned (.bool (mayS d s o)) ∧ Below w.heap.size w w' := by
  by_cases h0 : 1 ≤ d
  case neg =>
    have HE : Hid (mayS d s o = false) := by show mayS d s o = false; unfold mayS; simp only [decide_eq_false_iff_not]; omega
    have g0 : decide (1 ≤ d) = false := by simpa using h0
    clear h0
    go_enter Try.func34, Try.ntmps34
    go_wp2_with fail
    go_ret
    exact ⟨by rw [HE.out]; rfl, (Below.refl _ _).alloc (Nat.le_refl _) _⟩
  by_cases h1 : d ≤ 200
  case neg =>
    have HE : Hid (mayS d s o = false) := by show mayS d s o = false; unfold mayS; simp only [decide_eq_false_iff_not]; omega
    have g0 : decide (1 ≤ d) = true := by simpa using h0
    have g1 : decide (d ≤ 200) = false := by simpa using h1
    clear h0 h1
    go_enter Try.func34, Try.ntmps34
    go_wp2_with fail
    go_ret
    exact ⟨by rw [HE.out]; rfl, (Below.refl _ _).alloc (Nat.le_refl _) _⟩
  by_cases h2 : 5 ≤ s
  case neg =>
    have HE : Hid (mayS d s o = false) := by show mayS d s o = false; unfold mayS; simp only [decide_eq_false_iff_not]; omega
    have g0 : decide (1 ≤ d) = true := by simpa using h0
    have g1 : decide (d ≤ 200) = true := by simpa using h1
    have g2 : decide (5 ≤ s) = false := by simpa using h2
    clear h0 h1 h2
    go_enter Try.func34, Try.ntmps34
    go_wp2_with fail
    go_ret
    exact ⟨by rw [HE.out]; rfl, (Below.refl _ _).alloc (Nat.le_refl _) _⟩
  by_cases h3 : s ≤ 16777216
  case neg =>
    have HE : Hid (mayS d s o = false) := by show mayS d s o = false; unfold mayS; simp only [decide_eq_false_iff_not]; omega
    have g0 : decide (1 ≤ d) = true := by simpa using h0
    have g1 : decide (d ≤ 200) = true := by simpa using h1
    have g2 : decide (5 ≤ s) = true := by simpa using h2
    have g3 : decide (s ≤ 16777216) = false := by simpa using h3
    clear h0 h1 h2 h3
    go_enter Try.func34, Try.ntmps34
    go_wp2_with fail
    go_ret
    exact ⟨by rw [HE.out]; rfl, (Below.refl _ _).alloc (Nat.le_refl _) _⟩
  by_cases h4 : 0 ≤ o
  case neg =>
    have HE : Hid (mayS d s o = false) := by show mayS d s o = false; unfold mayS; simp only [decide_eq_false_iff_not]; omega
    have g0 : decide (1 ≤ d) = true := by simpa using h0
    have g1 : decide (d ≤ 200) = true := by simpa using h1
    have g2 : decide (5 ≤ s) = true := by simpa using h2
    have g3 : decide (s ≤ 16777216) = true := by simpa using h3
    have g4 : decide (0 ≤ o) = false := by simpa using h4
    clear h0 h1 h2 h3 h4
    go_enter Try.func34, Try.ntmps34
    go_wp2_with fail
    go_ret
    exact ⟨by rw [HE.out]; rfl, (Below.refl _ _).alloc (Nat.le_refl _) _⟩
  by_cases h5 : o ≤ 67108864
  case neg =>
    have HE : Hid (mayS d s o = false) := by show mayS d s o = false; unfold mayS; simp only [decide_eq_false_iff_not]; omega
    have g0 : decide (1 ≤ d) = true := by simpa using h0
    have g1 : decide (d ≤ 200) = true := by simpa using h1
    have g2 : decide (5 ≤ s) = true := by simpa using h2
    have g3 : decide (s ≤ 16777216) = true := by simpa using h3
    have g4 : decide (0 ≤ o) = true := by simpa using h4
    have g5 : decide (o ≤ 67108864) = false := by simpa using h5
    clear h0 h1 h2 h3 h4 h5
    go_enter Try.func34, Try.ntmps34
    go_wp2_with fail
    go_ret
    exact ⟨by rw [HE.out]; rfl, (Below.refl _ _).alloc (Nat.le_refl _) _⟩
  have HE : Hid (mayS d s o = true) := by show mayS d s o = true; unfold mayS; simp only [decide_eq_true_eq]; omega
  have g0 : decide (1 ≤ d) = true := by simpa using h0
  have g1 : decide (d ≤ 200) = true := by simpa using h1
  have g2 : decide (5 ≤ s) = true := by simpa using h2
  have g3 : decide (s ≤ 16777216) = true := by simpa using h3
  have g4 : decide (0 ≤ o) = true := by simpa using h4
  have g5 : decide (o ≤ 67108864) = true := by simpa using h5
  clear h0 h1 h2 h3 h4 h5
  go_enter Try.func34, Try.ntmps34
  go_wp2_with fail
  go_ret
  exact ⟨by rw [HE.out]; rfl, (Below.refl _ _).alloc (Nat.le_refl _) _⟩

set_option maxRecDepth 100000 in
set_option maxHeartbeats 1000000 in
theorem rmay_calls (d s o : Int) (w : World) : Calls Try.prog 23 #[.agg (limCells d s o)] w fun e w' => e = .returned (.bool (mayS d s o)) ∧ Below w.heap.size w w' := by
  by_cases h0 : 1 ≤ d
  case neg =>
    have HE : Hid (mayS d s o = false) := by show mayS d s o = false; unfold mayS; simp only [decide_eq_false_iff_not]; omega
    have g0 : decide (1 ≤ d) = false := by simpa using h0
    clear h0
    go_enter Try.func23, Try.ntmps23
    go_wp2_with fail
    go_ret
    exact ⟨by rw [HE.out]; rfl, (Below.refl _ _).alloc (Nat.le_refl _) _⟩
  by_cases h1 : d ≤ 200
  case neg =>
    have HE : Hid (mayS d s o = false) := by show mayS d s o = false; unfold mayS; simp only [decide_eq_false_iff_not]; omega
    have g0 : decide (1 ≤ d) = true := by simpa using h0
    have g1 : decide (d ≤ 200) = false := by simpa using h1
    clear h0 h1
    go_enter Try.func23, Try.ntmps23
    go_wp2_with fail
    go_ret
    exact ⟨by rw [HE.out]; rfl, (Below.refl _ _).alloc (Nat.le_refl _) _⟩
  by_cases h2 : 5 ≤ s
  case neg =>
    have HE : Hid (mayS d s o = false) := by show mayS d s o = false; unfold mayS; simp only [decide_eq_false_iff_not]; omega
    have g0 : decide (1 ≤ d) = true := by simpa using h0
    have g1 : decide (d ≤ 200) = true := by simpa using h1
    have g2 : decide (5 ≤ s) = false := by simpa using h2
    clear h0 h1 h2
    go_enter Try.func23, Try.ntmps23
    go_wp2_with fail
    go_ret
    exact ⟨by rw [HE.out]; rfl, (Below.refl _ _).alloc (Nat.le_refl _) _⟩
  by_cases h3 : s ≤ 16777216
  case neg =>
    have HE : Hid (mayS d s o = false) := by show mayS d s o = false; unfold mayS; simp only [decide_eq_false_iff_not]; omega
    have g0 : decide (1 ≤ d) = true := by simpa using h0
    have g1 : decide (d ≤ 200) = true := by simpa using h1
    have g2 : decide (5 ≤ s) = true := by simpa using h2
    have g3 : decide (s ≤ 16777216) = false := by simpa using h3
    clear h0 h1 h2 h3
    go_enter Try.func23, Try.ntmps23
    go_wp2_with fail
    go_ret
    exact ⟨by rw [HE.out]; rfl, (Below.refl _ _).alloc (Nat.le_refl _) _⟩
  by_cases h4 : 0 ≤ o
  case neg =>
    have HE : Hid (mayS d s o = false) := by show mayS d s o = false; unfold mayS; simp only [decide_eq_false_iff_not]; omega
    have g0 : decide (1 ≤ d) = true := by simpa using h0
    have g1 : decide (d ≤ 200) = true := by simpa using h1
    have g2 : decide (5 ≤ s) = true := by simpa using h2
    have g3 : decide (s ≤ 16777216) = true := by simpa using h3
    have g4 : decide (0 ≤ o) = false := by simpa using h4
    clear h0 h1 h2 h3 h4
    go_enter Try.func23, Try.ntmps23
    go_wp2_with fail
    go_ret
    exact ⟨by rw [HE.out]; rfl, (Below.refl _ _).alloc (Nat.le_refl _) _⟩
  by_cases h5 : o ≤ 67108864
  case neg =>
    have HE : Hid (mayS d s o = false) := by show mayS d s o = false; unfold mayS; simp only [decide_eq_false_iff_not]; omega
    have g0 : decide (1 ≤ d) = true := by simpa using h0
    have g1 : decide (d ≤ 200) = true := by simpa using h1
    have g2 : decide (5 ≤ s) = true := by simpa using h2
    have g3 : decide (s ≤ 16777216) = true := by simpa using h3
    have g4 : decide (0 ≤ o) = true := by simpa using h4
    have g5 : decide (o ≤ 67108864) = false := by simpa using h5
    clear h0 h1 h2 h3 h4 h5
    go_enter Try.func23, Try.ntmps23
    go_wp2_with fail
    go_ret
    exact ⟨by rw [HE.out]; rfl, (Below.refl _ _).alloc (Nat.le_refl _) _⟩
  have HE : Hid (mayS d s o = true) := by show mayS d s o = true; unfold mayS; simp only [decide_eq_true_eq]; omega
  have g0 : decide (1 ≤ d) = true := by simpa using h0
  have g1 : decide (d ≤ 200) = true := by simpa using h1
  have g2 : decide (5 ≤ s) = true := by simpa using h2
  have g3 : decide (s ≤ 16777216) = true := by simpa using h3
  have g4 : decide (0 ≤ o) = true := by simpa using h4
  have g5 : decide (o ≤ 67108864) = true := by simpa using h5
  clear h0 h1 h2 h3 h4 h5
  go_enter Try.func23, Try.ntmps23
  go_wp2_with fail
  go_ret
  exact ⟨by rw [HE.out]; rfl, (Below.refl _ _).alloc (Nat.le_refl _) _⟩

end Go.Proofs.Ytkcfkdmffbhljaa
