/- LexNext: the walk. -/
import Derived.Test.YtamhdoijmkjngaaLexO
import Derived.Test.YtamhdoijmkjngaaJM5
import Derived.Test.YtamhdoijmkjngaaSame
namespace Go.Proofs.Ytamhdoijmkjngaa
open Go.RowKit
set_option linter.unusedVariables false
set_option linter.unusedSimpArgs false

set_option maxRecDepth 100000 in
set_option maxHeartbeats 8000000 in
theorem LexNext_walk (w : World) (s : ByteArray) (hs9 : s.size ≤ 9223372036854775807) (p : Int) (hp9 : -9223372036854775808 ≤ p ∧ p ≤ 9223372036854775807) :
    Calls Try.prog 5 #[.string s, .int .i64 p] w fun e w' => e = .returned (.bool true) ∧ Below w.heap.size w w' := by
  have CA := fun W => Lib.hid (awake22 W)
  by_cases h3 : 1000 < s.size
  · have d3 : decide ((1000 : Int) < (s.size : Int)) = true := by simp; omega
    go_enter Try.func5, Try.ntmps5
    go_wp2_with fail
    refine (CA _).out.mono ?_
    rintro e w1 ⟨rfl, hb1⟩
    go_wp2_with fail
    go_ret
    exact ⟨rfl, hb1⟩
  have d3 : decide ((1000 : Int) < (s.size : Int)) = false := by simp; omega
  have C1 := fun W => Lib.hid (next_calls s (by omega) p hp9 W)
  have C2 := fun W => Lib.hid (rnext_calls s (by omega) p hp9 W)
  obtain ⟨R, hR⟩ : ∃ R, R = nextI (sl s) p := ⟨_, rfl⟩
  rw [← hR] at C1 C2
  obtain ⟨k, a, z, x, hV⟩ := tokV_agg R
  obtain ⟨ke, ka, hE⟩ := errV_agg R
  unfold LexOut at C1 C2
  rw [hV, hE] at C1 C2
  clear hR hV hE h3
  go_enter Try.func5, Try.ntmps5
  go_wp2_with fail
  refine (CA _).out.mono ?_
  rintro e w1 ⟨rfl, hb1⟩
  have HB1 := Lib.hid hb1
  have hs1 := hb1.size
  clear hb1
  go_wp2_with fail
  refine (C1 _).out.mono ?_
  rintro e w2 ⟨rfl, hb2⟩
  have HB2 := Lib.hid (HB1.out.trans (hb2.mono hs1))
  have hs2 := HB2.out.size
  clear hb2
  go_wp2_with fail
  refine (C2 _).out.mono ?_
  rintro e w3 ⟨rfl, hb3⟩
  have t0 : w3.cell? ⟨w2.heap.size, 0, none⟩ = some (.int .i64 k) := by rw [hb3.cell (p := ⟨w2.heap.size, 0, none⟩) (by first | (simp; done) | (simp; omega))]; simp [go_sem]
  have t1 : w3.cell? ⟨w2.heap.size, 1, none⟩ = some (.int .i64 a) := by rw [hb3.cell (p := ⟨w2.heap.size, 1, none⟩) (by first | (simp; done) | (simp; omega))]; simp [go_sem]
  have t2 : w3.cell? ⟨w2.heap.size, 2, none⟩ = some (.int .i64 z) := by rw [hb3.cell (p := ⟨w2.heap.size, 2, none⟩) (by first | (simp; done) | (simp; omega))]; simp [go_sem]
  have t3 : w3.cell? ⟨w2.heap.size, 3, none⟩ = some (.string x) := by rw [hb3.cell (p := ⟨w2.heap.size, 3, none⟩) (by first | (simp; done) | (simp; omega))]; simp [go_sem]
  have u0 : w3.cell? ⟨w2.heap.size + 1, 0, none⟩ = some (.int .i64 ke) := by rw [hb3.cell (p := ⟨w2.heap.size + 1, 0, none⟩) (by first | (simp; done) | (simp; omega))]; simp [go_sem]
  have u1 : w3.cell? ⟨w2.heap.size + 1, 1, none⟩ = some (.int .i64 ka) := by rw [hb3.cell (p := ⟨w2.heap.size + 1, 1, none⟩) (by first | (simp; done) | (simp; omega))]; simp [go_sem]
  have u2 : w3.cell? ⟨w2.heap.size + 1, 2, none⟩ = some (.slice none 0 0) := by rw [hb3.cell (p := ⟨w2.heap.size + 1, 2, none⟩) (by first | (simp; done) | (simp; omega))]; simp [go_sem]
  have hs3 : w2.heap.size + 2 ≤ w3.heap.size := by have := hb3.size; simpa using this
  have l1 : w2.heap.size < w3.heap.size := by omega
  have l2 : w2.heap.size + 1 < w3.heap.size := by omega
  have l3 : w2.heap.size < w3.heap.size + 1 := by omega
  have l4 : w2.heap.size + 1 < w3.heap.size + 1 := by omega
  have HB3 : Hid (Below w.heap.size w w3) := ((HB2.out.alloc hs2 _).alloc (by simp; omega) _).trans (hb3.mono (by simp; omega))
  clear hb3
  go_wp2_with fail
  refine (same_fault _ _ _).mono ?_
  rintro e w7 ⟨rfl, hb7⟩
  have x0 : w7.cell? ⟨w2.heap.size, 0, none⟩ = some (.int .i64 k) := by rw [hb7.cell (p := ⟨w2.heap.size, 0, none⟩) (by first | (simp; done) | (simp; omega))]; simp [go_sem, t0, l1, l3]
  have x1 : w7.cell? ⟨w2.heap.size, 1, none⟩ = some (.int .i64 a) := by rw [hb7.cell (p := ⟨w2.heap.size, 1, none⟩) (by first | (simp; done) | (simp; omega))]; simp [go_sem, t1, l1, l3]
  have x2 : w7.cell? ⟨w2.heap.size, 2, none⟩ = some (.int .i64 z) := by rw [hb7.cell (p := ⟨w2.heap.size, 2, none⟩) (by first | (simp; done) | (simp; omega))]; simp [go_sem, t2, l1, l3]
  have x3 : w7.cell? ⟨w2.heap.size, 3, none⟩ = some (.string x) := by rw [hb7.cell (p := ⟨w2.heap.size, 3, none⟩) (by first | (simp; done) | (simp; omega))]; simp [go_sem, t3, l1, l3]
  have y0 : w7.cell? ⟨w3.heap.size, 0, none⟩ = some (.int .i64 k) := by rw [hb7.cell (p := ⟨w3.heap.size, 0, none⟩) (by first | (simp; done) | (simp; omega))]; simp [go_sem]
  have y1 : w7.cell? ⟨w3.heap.size, 1, none⟩ = some (.int .i64 a) := by rw [hb7.cell (p := ⟨w3.heap.size, 1, none⟩) (by first | (simp; done) | (simp; omega))]; simp [go_sem]
  have y2 : w7.cell? ⟨w3.heap.size, 2, none⟩ = some (.int .i64 z) := by rw [hb7.cell (p := ⟨w3.heap.size, 2, none⟩) (by first | (simp; done) | (simp; omega))]; simp [go_sem]
  have y3 : w7.cell? ⟨w3.heap.size, 3, none⟩ = some (.string x) := by rw [hb7.cell (p := ⟨w3.heap.size, 3, none⟩) (by first | (simp; done) | (simp; omega))]; simp [go_sem]
  have HB7 : Hid (Below w.heap.size w w7) := ((HB3.out.alloc (by omega) _).alloc (by simp; omega) _).trans (hb7.mono (by simp; omega))
  clear hb7
  go_wp2_with fail
  go_ret
  exact ⟨by simp, HB7.out⟩

end Go.Proofs.Ytamhdoijmkjngaa
