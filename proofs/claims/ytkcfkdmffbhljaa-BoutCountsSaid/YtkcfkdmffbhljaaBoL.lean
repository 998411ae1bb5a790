/- The reference's kinds, Name and has. -/
import Derived.Test.YtkcfkdmffbhljaaBoN
import Derived.Test.YtkcfkdmffbhljaaBoF
namespace Go.Proofs.Ytkcfkdmffbhljaa
open Go.RowKit
set_option linter.unusedVariables false
set_option linter.unusedSimpArgs false

def kdCells : Array Value := #[.int .i64 1, .int .i64 2, .int .i64 3, .int .i64 4, .int .i64 5, .int .i64 6, .int .i64 7, .int .i64 8, .int .i64 9, .int .i64 10, .int .i64 11, .int .i64 12, .int .i64 13, .int .i64 14, .int .i64 15, .int .i64 16, .int .i64 17, .int .i64 18, .int .i64 19, .int .i64 127, .int .i64 255]
def rnCells : Array Value := #[.string ⟨#[100, 111, 117, 98, 108, 101]⟩, .string ⟨#[115, 116, 114, 105, 110, 103]⟩, .string ⟨#[100, 111, 99, 117, 109, 101, 110, 116]⟩, .string ⟨#[97, 114, 114, 97, 121]⟩, .string ⟨#[98, 105, 110, 97, 114, 121]⟩, .string ⟨#[117, 110, 100, 101, 102, 105, 110, 101, 100]⟩, .string ⟨#[111, 98, 106, 101, 99, 116, 105, 100]⟩, .string ⟨#[98, 111, 111, 108]⟩, .string ⟨#[100, 97, 116, 101]⟩, .string ⟨#[110, 117, 108, 108]⟩, .string ⟨#[114, 101, 103, 101, 120]⟩, .string ⟨#[112, 111, 105, 110, 116, 101, 114]⟩, .string ⟨#[99, 111, 100, 101]⟩, .string ⟨#[115, 121, 109, 98, 111, 108]⟩, .string ⟨#[115, 99, 111, 112, 101, 100]⟩, .string ⟨#[105, 110, 116, 51, 50]⟩, .string ⟨#[116, 105, 109, 101, 115, 116, 97, 109, 112]⟩, .string ⟨#[105, 110, 116, 54, 52]⟩, .string ⟨#[100, 101, 99, 105, 109, 97, 108]⟩, .string ⟨#[109, 97, 120, 107, 101, 121]⟩, .string ⟨#[109, 105, 110, 107, 101, 121]⟩]
def kdL : List Int := [1, 2, 3, 4, 5, 6, 7, 8, 9, 10, 11, 12, 13, 14, 15, 16, 17, 18, 19, 127, 255]
def kdAt (j : Nat) : Int := kdL.getD j 0
def rnS (n : Nat) : ByteArray := match rnCells[n]? with | some (.string s) => s | _ => ⟨#[]⟩
theorem kd_at (n : Nat) (h : n < 21) : kdCells[n]? = some (.int .i64 (kdAt n)) ∧ rnCells[n]? = some (.string (rnS n)) ∧ noTxt (rnS n) = false ∧ knownK (kdAt n) = true := by
  have : n = 0 ∨ n = 1 ∨ n = 2 ∨ n = 3 ∨ n = 4 ∨ n = 5 ∨ n = 6 ∨ n = 7 ∨ n = 8 ∨ n = 9 ∨ n = 10 ∨ n = 11 ∨ n = 12 ∨ n = 13 ∨ n = 14 ∨ n = 15 ∨ n = 16 ∨ n = 17 ∨ n = 18 ∨ n = 19 ∨ n = 20 := by omega
  rcases this with rfl | rfl | rfl | rfl | rfl | rfl | rfl | rfl | rfl | rfl | rfl | rfl | rfl | rfl | rfl | rfl | rfl | rfl | rfl | rfl | rfl <;> exact ⟨rfl, rfl, by kernel_rfl, by decide⟩
theorem kd_none (k : Int) (h : ∀ m, m < 21 → kdAt m ≠ k) : knownK k = false := by
  have h0 : 1 ≠ k := h 0 (by omega)
  have h1 : 2 ≠ k := h 1 (by omega)
  have h2 : 3 ≠ k := h 2 (by omega)
  have h3 : 4 ≠ k := h 3 (by omega)
  have h4 : 5 ≠ k := h 4 (by omega)
  have h5 : 6 ≠ k := h 5 (by omega)
  have h6 : 7 ≠ k := h 6 (by omega)
  have h7 : 8 ≠ k := h 7 (by omega)
  have h8 : 9 ≠ k := h 8 (by omega)
  have h9 : 10 ≠ k := h 9 (by omega)
  have h10 : 11 ≠ k := h 10 (by omega)
  have h11 : 12 ≠ k := h 11 (by omega)
  have h12 : 13 ≠ k := h 12 (by omega)
  have h13 : 14 ≠ k := h 13 (by omega)
  have h14 : 15 ≠ k := h 14 (by omega)
  have h15 : 16 ≠ k := h 15 (by omega)
  have h16 : 17 ≠ k := h 16 (by omega)
  have h17 : 18 ≠ k := h 17 (by omega)
  have h18 : 19 ≠ k := h 18 (by omega)
  have h19 : 127 ≠ k := h 19 (by omega)
  have h20 : 255 ≠ k := h 20 (by omega)
  simp [knownK]
  omega

set_option maxRecDepth 100000 in
theorem kinds_calls (w : World) : Calls Try.prog 96 #[] w fun e w' => e = .returned (.slice (some ⟨w.heap.size, 0, none⟩) 21 21) ∧ w' = w.alloc (.cells kdCells 3) := by
  go_enter Try.func96, Try.ntmps96
  go_upto_region 1 with fail
  refine wp_region_lit ?_
  refine wpList_plain rfl (fun K hK => ?_)
  refine wp_val (v := .slice (some ⟨w.heap.size, 0, none⟩) 21 21) (w' := w.alloc (.cells kdCells 3)) (by kernel_rfl) (hK _ _ ?_)
  clear hK
  obtain ⟨W, hW⟩ : ∃ W, W = w.alloc (.cells kdCells 3) := ⟨_, rfl⟩
  rw [← hW]
  have HW := Lib.hid hW
  clear hW
  go_wp2_with fail
  go_ret
  exact ⟨rfl, HW.out⟩

def RnRel (w1 : World) (k : Int) (i : Value) (wr : World) : Prop := ∃ j : Nat, i = .int .i64 j ∧ j ≤ 21 ∧ Hid (∀ m, m < j → kdAt m ≠ k) ∧ wr = w1

set_option maxRecDepth 100000 in
set_option maxHeartbeats 4000000 in
theorem rname_calls (k : Int) (w : World) :
    Calls Try.prog 80 #[.int .i64 k] w fun e w' => ∃ s, e = .returned (.string s) ∧ noTxt s = !knownK k ∧ Below w.heap.size w w' := by
  have CK := Lib.hid (fun W => kinds_calls W)
  go_enter Try.func80, Try.ntmps80
  go_upto_region 1 with fail
  refine wp_region_lit ?_
  refine wpList_plain rfl (fun K hK => ?_)
  refine wp_val (v := .slice (some ⟨w.heap.size, 0, none⟩) 21 21) (w' := w.alloc (.cells rnCells 9)) (by kernel_rfl) (hK _ _ ?_)
  clear hK
  obtain ⟨W, hW⟩ : ∃ W, W = w.alloc (.cells rnCells 9) := ⟨_, rfl⟩
  have hb : Below w.heap.size w W := by rw [hW]; exact (Below.refl _ _).alloc (Nat.le_refl _) _
  have hn : Hid (∀ n, n < 21 → W.cell? ⟨w.heap.size, n, none⟩ = some (.string (rnS n))) := by
    show ∀ n, _
    intro n h
    rw [hW, new_cell]
    exact (kd_at n h).2.1
  have hsz : w.heap.size < W.heap.size := by rw [hW]; simp
  rw [← hW]
  clear hW
  go_wp2_with fail
  refine (CK.out W).mono ?_
  rintro e w1 ⟨rfl, hw1⟩
  have hb1 : Below W.heap.size W w1 := by rw [hw1]; exact (Below.refl _ _).alloc (Nat.le_refl _) _
  have HB : Hid (Below w.heap.size w w1) := hb.trans (hb1.mono hb.size)
  have HN : Hid (∀ n, n < 21 → w1.cell? ⟨w.heap.size, n, none⟩ = some (.string (rnS n))) := fun n h => cell_below hb1 (hn.out n h)
  have HK : Hid (∀ n, n < 21 → w1.cell? ⟨W.heap.size, n, none⟩ = some (.int .i64 (kdAt n))) := by
    show ∀ n, _
    intro n h
    rw [hw1, new_cell]
    exact (kd_at n h).1
  clear hw1 hb hb1 hn
  go_wp2_with fail
  go_loopw [5] (fun i wr => RnRel w1 k i wr) (fun i _ => 21 - (intOf i).toNat)
  case atStart => exact ⟨0, rfl, by omega, fun m hm => absurd hm (Nat.not_lt_zero m), rfl⟩
  case round =>
    obtain ⟨j, rfl, hj, hm, rfl⟩ := hrel
    by_cases hlt : j < 21
    · have c1 := HK.out j hlt
      have c2 := HN.out j hlt
      obtain ⟨-, -, hs, hk⟩ := kd_at j hlt
      have hj0 : (0 : Int) ≤ (j : Int) := by omega
      have hj1 : (j : Int) < 21 := by omega
      obtain ⟨x, hx⟩ : ∃ x, x = kdAt j := ⟨_, rfl⟩
      rw [← hx] at c1 hk
      have HX := Lib.hid hx
      clear hx
      by_cases he : x = k
      · have e1 : (x == k) = true := by simpa using he
        have HS : Hid (noTxt (rnS j) = !knownK k) := by show _ = _; rw [hs, ← he, hk]; rfl
        generalize rnS j = s at c2 HS
        clear he hs hk
        go_wp2_with fail
        go_ret
        exact ⟨_, rfl, HS.out, HB.out⟩
      · have e1 : (x == k) = false := by simpa using he
        have HM : Hid (∀ m, m < j + 1 → kdAt m ≠ k) := by
          show ∀ m, _
          intro m h1
          by_cases h2 : m = j
          · subst h2; rw [← HX.out]; exact he
          · exact hm.out m (by omega)
        clear he hs hk c2
        go_wp2_with fail
        go_roundw
        case rel => exact ⟨j + 1, by simp, by omega, HM, rfl⟩
        case measure => simp [intOf]; omega
    · have HS : Hid (knownK k = false) := kd_none k (fun m h => hm.out m (by omega))
      have hd : decide ((j : Int) < 21) = false := by simp; omega
      go_wp2_with fail
      go_ret
      exact ⟨_, rfl, by rw [HS.out]; kernel_rfl, HB.out⟩

def hasV (k : Int) : Array Value := #[.bool (hasBits k), .bool (hasWide k), .bool (hasText k), .bool (hasMore k), .bool (hasSub k), .bool (hasBytes k), .bool (hasKids k)]

set_option maxRecDepth 100000 in
set_option maxHeartbeats 8000000 in
theorem has_calls (k : Int) (w : World) :
    Calls Try.prog 89 #[.int .i64 k] w fun e w' => e = .returned (.tuple (hasV k)) ∧ w = w' := by
  by_cases h1 : k = 1
  · subst h1
    go_enter Try.func89, Try.ntmps89
    go_wp2_with fail
    refine bodyPost_ret (v := .tuple #[.bool true, .bool false, .bool false, .bool false, .bool false, .bool false, .bool false]) (by simp [results, Try.results89, go_sem]) rfl ?_
    exact ⟨rfl, rfl⟩
  by_cases h9 : k = 9
  · subst h9
    go_enter Try.func89, Try.ntmps89
    go_wp2_with fail
    refine bodyPost_ret (v := .tuple #[.bool true, .bool false, .bool false, .bool false, .bool false, .bool false, .bool false]) (by simp [results, Try.results89, go_sem]) rfl ?_
    exact ⟨rfl, rfl⟩
  by_cases h17 : k = 17
  · subst h17
    go_enter Try.func89, Try.ntmps89
    go_wp2_with fail
    refine bodyPost_ret (v := .tuple #[.bool true, .bool false, .bool false, .bool false, .bool false, .bool false, .bool false]) (by simp [results, Try.results89, go_sem]) rfl ?_
    exact ⟨rfl, rfl⟩
  by_cases h18 : k = 18
  · subst h18
    go_enter Try.func89, Try.ntmps89
    go_wp2_with fail
    refine bodyPost_ret (v := .tuple #[.bool true, .bool false, .bool false, .bool false, .bool false, .bool false, .bool false]) (by simp [results, Try.results89, go_sem]) rfl ?_
    exact ⟨rfl, rfl⟩
  by_cases h16 : k = 16
  · subst h16
    go_enter Try.func89, Try.ntmps89
    go_wp2_with fail
    refine bodyPost_ret (v := .tuple #[.bool true, .bool false, .bool false, .bool false, .bool false, .bool false, .bool false]) (by simp [results, Try.results89, go_sem]) rfl ?_
    exact ⟨rfl, rfl⟩
  by_cases h8 : k = 8
  · subst h8
    go_enter Try.func89, Try.ntmps89
    go_wp2_with fail
    refine bodyPost_ret (v := .tuple #[.bool true, .bool false, .bool false, .bool false, .bool false, .bool false, .bool false]) (by simp [results, Try.results89, go_sem]) rfl ?_
    exact ⟨rfl, rfl⟩
  by_cases h19 : k = 19
  · subst h19
    go_enter Try.func89, Try.ntmps89
    go_wp2_with fail
    refine bodyPost_ret (v := .tuple #[.bool false, .bool true, .bool false, .bool false, .bool false, .bool false, .bool false]) (by simp [results, Try.results89, go_sem]) rfl ?_
    exact ⟨rfl, rfl⟩
  by_cases h2 : k = 2
  · subst h2
    go_enter Try.func89, Try.ntmps89
    go_wp2_with fail
    refine bodyPost_ret (v := .tuple #[.bool false, .bool false, .bool true, .bool false, .bool false, .bool false, .bool false]) (by simp [results, Try.results89, go_sem]) rfl ?_
    exact ⟨rfl, rfl⟩
  by_cases h13 : k = 13
  · subst h13
    go_enter Try.func89, Try.ntmps89
    go_wp2_with fail
    refine bodyPost_ret (v := .tuple #[.bool false, .bool false, .bool true, .bool false, .bool false, .bool false, .bool false]) (by simp [results, Try.results89, go_sem]) rfl ?_
    exact ⟨rfl, rfl⟩
  by_cases h14 : k = 14
  · subst h14
    go_enter Try.func89, Try.ntmps89
    go_wp2_with fail
    refine bodyPost_ret (v := .tuple #[.bool false, .bool false, .bool true, .bool false, .bool false, .bool false, .bool false]) (by simp [results, Try.results89, go_sem]) rfl ?_
    exact ⟨rfl, rfl⟩
  by_cases h11 : k = 11
  · subst h11
    go_enter Try.func89, Try.ntmps89
    go_wp2_with fail
    refine bodyPost_ret (v := .tuple #[.bool false, .bool false, .bool true, .bool true, .bool false, .bool false, .bool false]) (by simp [results, Try.results89, go_sem]) rfl ?_
    exact ⟨rfl, rfl⟩
  by_cases h5 : k = 5
  · subst h5
    go_enter Try.func89, Try.ntmps89
    go_wp2_with fail
    refine bodyPost_ret (v := .tuple #[.bool false, .bool false, .bool false, .bool false, .bool true, .bool true, .bool false]) (by simp [results, Try.results89, go_sem]) rfl ?_
    exact ⟨rfl, rfl⟩
  by_cases h7 : k = 7
  · subst h7
    go_enter Try.func89, Try.ntmps89
    go_wp2_with fail
    refine bodyPost_ret (v := .tuple #[.bool false, .bool false, .bool false, .bool false, .bool false, .bool true, .bool false]) (by simp [results, Try.results89, go_sem]) rfl ?_
    exact ⟨rfl, rfl⟩
  by_cases h12 : k = 12
  · subst h12
    go_enter Try.func89, Try.ntmps89
    go_wp2_with fail
    refine bodyPost_ret (v := .tuple #[.bool false, .bool false, .bool true, .bool false, .bool false, .bool true, .bool false]) (by simp [results, Try.results89, go_sem]) rfl ?_
    exact ⟨rfl, rfl⟩
  by_cases h3 : k = 3
  · subst h3
    go_enter Try.func89, Try.ntmps89
    go_wp2_with fail
    refine bodyPost_ret (v := .tuple #[.bool false, .bool false, .bool false, .bool false, .bool false, .bool false, .bool true]) (by simp [results, Try.results89, go_sem]) rfl ?_
    exact ⟨rfl, rfl⟩
  by_cases h4 : k = 4
  · subst h4
    go_enter Try.func89, Try.ntmps89
    go_wp2_with fail
    refine bodyPost_ret (v := .tuple #[.bool false, .bool false, .bool false, .bool false, .bool false, .bool false, .bool true]) (by simp [results, Try.results89, go_sem]) rfl ?_
    exact ⟨rfl, rfl⟩
  by_cases h15 : k = 15
  · subst h15
    go_enter Try.func89, Try.ntmps89
    go_wp2_with fail
    refine bodyPost_ret (v := .tuple #[.bool false, .bool false, .bool true, .bool false, .bool false, .bool false, .bool true]) (by simp [results, Try.results89, go_sem]) rfl ?_
    exact ⟨rfl, rfl⟩
  have n1 : (k == 1) = false := by simpa using h1
  have n9 : (k == 9) = false := by simpa using h9
  have n17 : (k == 17) = false := by simpa using h17
  have n18 : (k == 18) = false := by simpa using h18
  have n16 : (k == 16) = false := by simpa using h16
  have n8 : (k == 8) = false := by simpa using h8
  have n19 : (k == 19) = false := by simpa using h19
  have n2 : (k == 2) = false := by simpa using h2
  have n13 : (k == 13) = false := by simpa using h13
  have n14 : (k == 14) = false := by simpa using h14
  have n11 : (k == 11) = false := by simpa using h11
  have n5 : (k == 5) = false := by simpa using h5
  have n7 : (k == 7) = false := by simpa using h7
  have n12 : (k == 12) = false := by simpa using h12
  have n3 : (k == 3) = false := by simpa using h3
  have n4 : (k == 4) = false := by simpa using h4
  have n15 : (k == 15) = false := by simpa using h15
  have hv : hasV k = #[.bool false, .bool false, .bool false, .bool false, .bool false, .bool false, .bool false] := by simp [hasV, hasBits, hasWide, hasText, hasMore, hasSub, hasBytes, hasKids, n1, n9, n17, n18, n16, n8, n19, n2, n13, n14, n11, n5, n7, n12, n3, n4, n15]
  rw [hv]
  clear hv
  go_enter Try.func89, Try.ntmps89
  go_wp2_with fail
  refine bodyPost_ret (v := .tuple #[.bool false, .bool false, .bool false, .bool false, .bool false, .bool false, .bool false]) (by simp [results, Try.results89, go_sem]) rfl ?_
  exact ⟨rfl, rfl⟩

end Go.Proofs.Ytkcfkdmffbhljaa
