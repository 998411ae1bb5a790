/- cbor: has an item what its Kind has, and nothing else? -/
import Derived.Test.YtambhapgjonmmaaCbM0
import Derived.Deep.CutRange
namespace Go.Proofs.Ytambhapgjonmmaa
open Go.RowKit
set_option linter.unusedVariables false
set_option linter.unusedSimpArgs false

theorem toList_sl (s : ByteArray) : s.toList = sl s := by rw [ByteArray.toList_eq]; rfl
theorem no_txt (t : ByteArray) : (t.toList == []) = (t.size == 0) := by
  rw [toList_sl, ← sl_len]
  cases sl t <;> simp

set_option maxRecDepth 100000 in
set_option maxHeartbeats 4000000 in
theorem fields_1 (n : Nat) (ab : Option Addr) (nb cb : Nat) (text : ByteArray) (ak : Option Addr) (nk ck : Nat) (hb9 : nb ≤ 9223372036854775807) (hk9 : nk ≤ 9223372036854775807) (w : World) :
    Calls Try.prog 26 #[.agg (itCells 1 n ab nb cb text ak nk ck)] w fun e w' => e = .returned (.bool (fieldsB 1 n nb text.size nk)) ∧ Below w.heap.size w w' := by
  have HB : Hid (Below w.heap.size w (w.alloc (.cells #[.int .i64 1, .int .u64 (n : Nat), .slice ab nb cb, .string text, .slice ak nk ck] 26))) := (Below.refl _ _).alloc (Nat.le_refl _) _
  have hnt : ((⟨#[]⟩ : ByteArray).toList == []) = true := by rw [no_txt]; rfl
  have htx := no_txt text
  obtain ⟨tl, htl⟩ : ∃ q, q = text.size := ⟨_, rfl⟩
  rw [← htl] at htx ⊢
  clear htl
  by_cases h0 : nb = 0
  case neg =>
    have x5 : ((nb : Int) == 0) = false := by simp; omega
    have HE : Hid (fieldsB 1 n nb tl nk = false) := by show _ = _; unfold fieldsB; simp [h0]
    go_enter Try.func26, Try.ntmps26
    go_wp2_with fail
    go_ret
    exact ⟨by rw [HE.out]; rfl, by (repeat' (first | with_reducible exact HB.out | with_reducible refine Below.setCell ?_ (Nat.le_refl _) _ | exact (Below.refl _ _).alloc (Nat.le_refl _) _))⟩
  by_cases h1 : tl = 0
  case neg =>
    have x3 : (text.toList == []) = false := by rw [htx]; simpa using h1
    have HE : Hid (fieldsB 1 n nb tl nk = false) := by show _ = _; unfold fieldsB; simp [h0, h1]
    go_enter Try.func26, Try.ntmps26
    go_wp2_with fail
    go_ret
    exact ⟨by rw [HE.out]; rfl, by (repeat' (first | with_reducible exact HB.out | with_reducible refine Below.setCell ?_ (Nat.le_refl _) _ | exact (Below.refl _ _).alloc (Nat.le_refl _) _))⟩
  have x3 : (text.toList == []) = true := by rw [htx]; simpa using h1
  by_cases h2 : nk = 0
  case neg =>
    have x6 : ((nk : Int) == 0) = false := by simp; omega
    have HE : Hid (fieldsB 1 n nb tl nk = false) := by show _ = _; unfold fieldsB; simp [h0, h1, h2]
    go_enter Try.func26, Try.ntmps26
    go_wp2_with fail
    go_ret
    exact ⟨by rw [HE.out]; rfl, by (repeat' (first | with_reducible exact HB.out | with_reducible refine Below.setCell ?_ (Nat.le_refl _) _ | exact (Below.refl _ _).alloc (Nat.le_refl _) _))⟩
  have HE : Hid (fieldsB 1 n nb tl nk = true) := by show _ = _; unfold fieldsB; simp [h0, h1, h2]
  go_enter Try.func26, Try.ntmps26
  go_wp2_with fail
  go_ret
  exact ⟨by rw [HE.out]; rfl, by (repeat' (first | with_reducible exact HB.out | with_reducible refine Below.setCell ?_ (Nat.le_refl _) _ | exact (Below.refl _ _).alloc (Nat.le_refl _) _))⟩

set_option maxRecDepth 100000 in
set_option maxHeartbeats 4000000 in
theorem fields_2 (n : Nat) (ab : Option Addr) (nb cb : Nat) (text : ByteArray) (ak : Option Addr) (nk ck : Nat) (hb9 : nb ≤ 9223372036854775807) (hk9 : nk ≤ 9223372036854775807) (w : World) :
    Calls Try.prog 26 #[.agg (itCells 2 n ab nb cb text ak nk ck)] w fun e w' => e = .returned (.bool (fieldsB 2 n nb text.size nk)) ∧ Below w.heap.size w w' := by
  have HB : Hid (Below w.heap.size w (w.alloc (.cells #[.int .i64 2, .int .u64 (n : Nat), .slice ab nb cb, .string text, .slice ak nk ck] 26))) := (Below.refl _ _).alloc (Nat.le_refl _) _
  have hnt : ((⟨#[]⟩ : ByteArray).toList == []) = true := by rw [no_txt]; rfl
  have htx := no_txt text
  obtain ⟨tl, htl⟩ : ∃ q, q = text.size := ⟨_, rfl⟩
  rw [← htl] at htx ⊢
  clear htl
  by_cases h0 : nb = 0
  case neg =>
    have x5 : ((nb : Int) == 0) = false := by simp; omega
    have HE : Hid (fieldsB 2 n nb tl nk = false) := by show _ = _; unfold fieldsB; simp [h0]
    go_enter Try.func26, Try.ntmps26
    go_wp2_with fail
    go_ret
    exact ⟨by rw [HE.out]; rfl, by (repeat' (first | with_reducible exact HB.out | with_reducible refine Below.setCell ?_ (Nat.le_refl _) _ | exact (Below.refl _ _).alloc (Nat.le_refl _) _))⟩
  by_cases h1 : tl = 0
  case neg =>
    have x3 : (text.toList == []) = false := by rw [htx]; simpa using h1
    have HE : Hid (fieldsB 2 n nb tl nk = false) := by show _ = _; unfold fieldsB; simp [h0, h1]
    go_enter Try.func26, Try.ntmps26
    go_wp2_with fail
    go_ret
    exact ⟨by rw [HE.out]; rfl, by (repeat' (first | with_reducible exact HB.out | with_reducible refine Below.setCell ?_ (Nat.le_refl _) _ | exact (Below.refl _ _).alloc (Nat.le_refl _) _))⟩
  have x3 : (text.toList == []) = true := by rw [htx]; simpa using h1
  by_cases h2 : nk = 0
  case neg =>
    have x6 : ((nk : Int) == 0) = false := by simp; omega
    have HE : Hid (fieldsB 2 n nb tl nk = false) := by show _ = _; unfold fieldsB; simp [h0, h1, h2]
    go_enter Try.func26, Try.ntmps26
    go_wp2_with fail
    go_ret
    exact ⟨by rw [HE.out]; rfl, by (repeat' (first | with_reducible exact HB.out | with_reducible refine Below.setCell ?_ (Nat.le_refl _) _ | exact (Below.refl _ _).alloc (Nat.le_refl _) _))⟩
  have HE : Hid (fieldsB 2 n nb tl nk = true) := by show _ = _; unfold fieldsB; simp [h0, h1, h2]
  go_enter Try.func26, Try.ntmps26
  go_wp2_with fail
  go_ret
  exact ⟨by rw [HE.out]; rfl, by (repeat' (first | with_reducible exact HB.out | with_reducible refine Below.setCell ?_ (Nat.le_refl _) _ | exact (Below.refl _ _).alloc (Nat.le_refl _) _))⟩

set_option maxRecDepth 100000 in
set_option maxHeartbeats 4000000 in
theorem fields_3 (n : Nat) (ab : Option Addr) (nb cb : Nat) (text : ByteArray) (ak : Option Addr) (nk ck : Nat) (hb9 : nb ≤ 9223372036854775807) (hk9 : nk ≤ 9223372036854775807) (w : World) :
    Calls Try.prog 26 #[.agg (itCells 3 n ab nb cb text ak nk ck)] w fun e w' => e = .returned (.bool (fieldsB 3 n nb text.size nk)) ∧ Below w.heap.size w w' := by
  have HB : Hid (Below w.heap.size w (w.alloc (.cells #[.int .i64 3, .int .u64 (n : Nat), .slice ab nb cb, .string text, .slice ak nk ck] 26))) := (Below.refl _ _).alloc (Nat.le_refl _) _
  have hnt : ((⟨#[]⟩ : ByteArray).toList == []) = true := by rw [no_txt]; rfl
  have htx := no_txt text
  obtain ⟨tl, htl⟩ : ∃ q, q = text.size := ⟨_, rfl⟩
  rw [← htl] at htx ⊢
  clear htl
  by_cases h0 : n = 0
  case neg =>
    have x4 : ((n : Int) == 0) = false := by simp; omega
    have HE : Hid (fieldsB 3 n nb tl nk = false) := by show _ = _; unfold fieldsB; simp [h0]
    go_enter Try.func26, Try.ntmps26
    go_wp2_with fail
    go_ret
    exact ⟨by rw [HE.out]; rfl, by (repeat' (first | with_reducible exact HB.out | with_reducible refine Below.setCell ?_ (Nat.le_refl _) _ | exact (Below.refl _ _).alloc (Nat.le_refl _) _))⟩
  by_cases h1 : tl = 0
  case neg =>
    have x3 : (text.toList == []) = false := by rw [htx]; simpa using h1
    have HE : Hid (fieldsB 3 n nb tl nk = false) := by show _ = _; unfold fieldsB; simp [h0, h1]
    go_enter Try.func26, Try.ntmps26
    go_wp2_with fail
    go_ret
    exact ⟨by rw [HE.out]; rfl, by (repeat' (first | with_reducible exact HB.out | with_reducible refine Below.setCell ?_ (Nat.le_refl _) _ | exact (Below.refl _ _).alloc (Nat.le_refl _) _))⟩
  have x3 : (text.toList == []) = true := by rw [htx]; simpa using h1
  by_cases h2 : nk = 0
  case neg =>
    have x6 : ((nk : Int) == 0) = false := by simp; omega
    have HE : Hid (fieldsB 3 n nb tl nk = false) := by show _ = _; unfold fieldsB; simp [h0, h1, h2]
    go_enter Try.func26, Try.ntmps26
    go_wp2_with fail
    go_ret
    exact ⟨by rw [HE.out]; rfl, by (repeat' (first | with_reducible exact HB.out | with_reducible refine Below.setCell ?_ (Nat.le_refl _) _ | exact (Below.refl _ _).alloc (Nat.le_refl _) _))⟩
  have HE : Hid (fieldsB 3 n nb tl nk = true) := by show _ = _; unfold fieldsB; simp [h0, h1, h2]
  go_enter Try.func26, Try.ntmps26
  go_wp2_with fail
  go_ret
  exact ⟨by rw [HE.out]; rfl, by (repeat' (first | with_reducible exact HB.out | with_reducible refine Below.setCell ?_ (Nat.le_refl _) _ | exact (Below.refl _ _).alloc (Nat.le_refl _) _))⟩

set_option maxRecDepth 100000 in
set_option maxHeartbeats 4000000 in
theorem fields_4 (n : Nat) (ab : Option Addr) (nb cb : Nat) (text : ByteArray) (ak : Option Addr) (nk ck : Nat) (hb9 : nb ≤ 9223372036854775807) (hk9 : nk ≤ 9223372036854775807) (w : World) :
    Calls Try.prog 26 #[.agg (itCells 4 n ab nb cb text ak nk ck)] w fun e w' => e = .returned (.bool (fieldsB 4 n nb text.size nk)) ∧ Below w.heap.size w w' := by
  have HB : Hid (Below w.heap.size w (w.alloc (.cells #[.int .i64 4, .int .u64 (n : Nat), .slice ab nb cb, .string text, .slice ak nk ck] 26))) := (Below.refl _ _).alloc (Nat.le_refl _) _
  have hnt : ((⟨#[]⟩ : ByteArray).toList == []) = true := by rw [no_txt]; rfl
  have htx := no_txt text
  obtain ⟨tl, htl⟩ : ∃ q, q = text.size := ⟨_, rfl⟩
  rw [← htl] at htx ⊢
  clear htl
  by_cases h0 : n = 0
  case neg =>
    have x4 : ((n : Int) == 0) = false := by simp; omega
    have HE : Hid (fieldsB 4 n nb tl nk = false) := by show _ = _; unfold fieldsB; simp [h0]
    go_enter Try.func26, Try.ntmps26
    go_wp2_with fail
    go_ret
    exact ⟨by rw [HE.out]; rfl, by (repeat' (first | with_reducible exact HB.out | with_reducible refine Below.setCell ?_ (Nat.le_refl _) _ | exact (Below.refl _ _).alloc (Nat.le_refl _) _))⟩
  by_cases h1 : nb = 0
  case neg =>
    have x5 : ((nb : Int) == 0) = false := by simp; omega
    have HE : Hid (fieldsB 4 n nb tl nk = false) := by show _ = _; unfold fieldsB; simp [h0, h1]
    go_enter Try.func26, Try.ntmps26
    go_wp2_with fail
    go_ret
    exact ⟨by rw [HE.out]; rfl, by (repeat' (first | with_reducible exact HB.out | with_reducible refine Below.setCell ?_ (Nat.le_refl _) _ | exact (Below.refl _ _).alloc (Nat.le_refl _) _))⟩
  by_cases h2 : nk = 0
  case neg =>
    have x6 : ((nk : Int) == 0) = false := by simp; omega
    have HE : Hid (fieldsB 4 n nb tl nk = false) := by show _ = _; unfold fieldsB; simp [h0, h1, h2]
    go_enter Try.func26, Try.ntmps26
    go_wp2_with fail
    go_ret
    exact ⟨by rw [HE.out]; rfl, by (repeat' (first | with_reducible exact HB.out | with_reducible refine Below.setCell ?_ (Nat.le_refl _) _ | exact (Below.refl _ _).alloc (Nat.le_refl _) _))⟩
  have HE : Hid (fieldsB 4 n nb tl nk = true) := by show _ = _; unfold fieldsB; simp [h0, h1, h2]
  go_enter Try.func26, Try.ntmps26
  go_wp2_with fail
  go_ret
  exact ⟨by rw [HE.out]; rfl, by (repeat' (first | with_reducible exact HB.out | with_reducible refine Below.setCell ?_ (Nat.le_refl _) _ | exact (Below.refl _ _).alloc (Nat.le_refl _) _))⟩

set_option maxRecDepth 100000 in
set_option maxHeartbeats 4000000 in
theorem fields_5 (n : Nat) (ab : Option Addr) (nb cb : Nat) (text : ByteArray) (ak : Option Addr) (nk ck : Nat) (hb9 : nb ≤ 9223372036854775807) (hk9 : nk ≤ 9223372036854775807) (w : World) :
    Calls Try.prog 26 #[.agg (itCells 5 n ab nb cb text ak nk ck)] w fun e w' => e = .returned (.bool (fieldsB 5 n nb text.size nk)) ∧ Below w.heap.size w w' := by
  have HB : Hid (Below w.heap.size w (w.alloc (.cells #[.int .i64 5, .int .u64 (n : Nat), .slice ab nb cb, .string text, .slice ak nk ck] 26))) := (Below.refl _ _).alloc (Nat.le_refl _) _
  have hnt : ((⟨#[]⟩ : ByteArray).toList == []) = true := by rw [no_txt]; rfl
  have htx := no_txt text
  obtain ⟨tl, htl⟩ : ∃ q, q = text.size := ⟨_, rfl⟩
  rw [← htl] at htx ⊢
  clear htl
  by_cases h0 : n = 0
  case neg =>
    have x4 : ((n : Int) == 0) = false := by simp; omega
    have HE : Hid (fieldsB 5 n nb tl nk = false) := by show _ = _; unfold fieldsB; simp [h0]
    go_enter Try.func26, Try.ntmps26
    go_wp2_with fail
    go_ret
    exact ⟨by rw [HE.out]; rfl, by (repeat' (first | with_reducible exact HB.out | with_reducible refine Below.setCell ?_ (Nat.le_refl _) _ | exact (Below.refl _ _).alloc (Nat.le_refl _) _))⟩
  by_cases h1 : nb = 0
  case neg =>
    have x5 : ((nb : Int) == 0) = false := by simp; omega
    have HE : Hid (fieldsB 5 n nb tl nk = false) := by show _ = _; unfold fieldsB; simp [h0, h1]
    go_enter Try.func26, Try.ntmps26
    go_wp2_with fail
    go_ret
    exact ⟨by rw [HE.out]; rfl, by (repeat' (first | with_reducible exact HB.out | with_reducible refine Below.setCell ?_ (Nat.le_refl _) _ | exact (Below.refl _ _).alloc (Nat.le_refl _) _))⟩
  by_cases h2 : tl = 0
  case neg =>
    have x3 : (text.toList == []) = false := by rw [htx]; simpa using h2
    have HE : Hid (fieldsB 5 n nb tl nk = false) := by show _ = _; unfold fieldsB; simp [h0, h1, h2]
    go_enter Try.func26, Try.ntmps26
    go_wp2_with fail
    go_ret
    exact ⟨by rw [HE.out]; rfl, by (repeat' (first | with_reducible exact HB.out | with_reducible refine Below.setCell ?_ (Nat.le_refl _) _ | exact (Below.refl _ _).alloc (Nat.le_refl _) _))⟩
  have x3 : (text.toList == []) = true := by rw [htx]; simpa using h2
  have HE : Hid (fieldsB 5 n nb tl nk = true) := by show _ = _; unfold fieldsB; simp [h0, h1, h2]
  go_enter Try.func26, Try.ntmps26
  go_wp2_with fail
  go_ret
  exact ⟨by rw [HE.out]; rfl, by (repeat' (first | with_reducible exact HB.out | with_reducible refine Below.setCell ?_ (Nat.le_refl _) _ | exact (Below.refl _ _).alloc (Nat.le_refl _) _))⟩

set_option maxRecDepth 100000 in
set_option maxHeartbeats 4000000 in
theorem fields_6 (n : Nat) (ab : Option Addr) (nb cb : Nat) (text : ByteArray) (ak : Option Addr) (nk ck : Nat) (hb9 : nb ≤ 9223372036854775807) (hk9 : nk ≤ 9223372036854775807) (w : World) :
    Calls Try.prog 26 #[.agg (itCells 6 n ab nb cb text ak nk ck)] w fun e w' => e = .returned (.bool (fieldsB 6 n nb text.size nk)) ∧ Below w.heap.size w w' := by
  have HB : Hid (Below w.heap.size w (w.alloc (.cells #[.int .i64 6, .int .u64 (n : Nat), .slice ab nb cb, .string text, .slice ak nk ck] 26))) := (Below.refl _ _).alloc (Nat.le_refl _) _
  have hnt : ((⟨#[]⟩ : ByteArray).toList == []) = true := by rw [no_txt]; rfl
  have htx := no_txt text
  obtain ⟨tl, htl⟩ : ∃ q, q = text.size := ⟨_, rfl⟩
  rw [← htl] at htx ⊢
  clear htl
  have ct : (nk : Int).tmod 2 = ((nk % 2 : Nat) : Int) := by rw [Int.tmod_eq_emod_of_nonneg (by omega)]; omega
  obtain ⟨r2, hr2⟩ : ∃ q, q = nk % 2 := ⟨_, rfl⟩
  rw [← hr2] at ct
  have HR2 := Lib.hid hr2
  clear hr2
  by_cases h0 : r2 = 0
  case neg =>
    have h0m : nk % 2 ≠ 0 := by rw [← HR2.out]; exact h0
    have HE : Hid (fieldsB 6 n nb tl nk = false) := by show _ = _; unfold fieldsB; simp [h0m]
    go_enter Try.func26, Try.ntmps26
    go_wp2_with fail
    go_ret
    exact ⟨by rw [HE.out]; rfl, by (repeat' (first | with_reducible exact HB.out | with_reducible refine Below.setCell ?_ (Nat.le_refl _) _ | exact (Below.refl _ _).alloc (Nat.le_refl _) _))⟩
  have h0m : nk % 2 = 0 := by rw [← HR2.out]; exact h0
  by_cases h1 : n = 0
  case neg =>
    have x4 : ((n : Int) == 0) = false := by simp; omega
    have HE : Hid (fieldsB 6 n nb tl nk = false) := by show _ = _; unfold fieldsB; simp [h0m, h1]
    go_enter Try.func26, Try.ntmps26
    go_wp2_with fail
    go_ret
    exact ⟨by rw [HE.out]; rfl, by (repeat' (first | with_reducible exact HB.out | with_reducible refine Below.setCell ?_ (Nat.le_refl _) _ | exact (Below.refl _ _).alloc (Nat.le_refl _) _))⟩
  by_cases h2 : nb = 0
  case neg =>
    have x5 : ((nb : Int) == 0) = false := by simp; omega
    have HE : Hid (fieldsB 6 n nb tl nk = false) := by show _ = _; unfold fieldsB; simp [h0m, h1, h2]
    go_enter Try.func26, Try.ntmps26
    go_wp2_with fail
    go_ret
    exact ⟨by rw [HE.out]; rfl, by (repeat' (first | with_reducible exact HB.out | with_reducible refine Below.setCell ?_ (Nat.le_refl _) _ | exact (Below.refl _ _).alloc (Nat.le_refl _) _))⟩
  by_cases h3 : tl = 0
  case neg =>
    have x3 : (text.toList == []) = false := by rw [htx]; simpa using h3
    have HE : Hid (fieldsB 6 n nb tl nk = false) := by show _ = _; unfold fieldsB; simp [h0m, h1, h2, h3]
    go_enter Try.func26, Try.ntmps26
    go_wp2_with fail
    go_ret
    exact ⟨by rw [HE.out]; rfl, by (repeat' (first | with_reducible exact HB.out | with_reducible refine Below.setCell ?_ (Nat.le_refl _) _ | exact (Below.refl _ _).alloc (Nat.le_refl _) _))⟩
  have x3 : (text.toList == []) = true := by rw [htx]; simpa using h3
  have HE : Hid (fieldsB 6 n nb tl nk = true) := by show _ = _; unfold fieldsB; simp [h0m, h1, h2, h3]
  go_enter Try.func26, Try.ntmps26
  go_wp2_with fail
  go_ret
  exact ⟨by rw [HE.out]; rfl, by (repeat' (first | with_reducible exact HB.out | with_reducible refine Below.setCell ?_ (Nat.le_refl _) _ | exact (Below.refl _ _).alloc (Nat.le_refl _) _))⟩

set_option maxRecDepth 100000 in
set_option maxHeartbeats 4000000 in
theorem fields_7 (n : Nat) (ab : Option Addr) (nb cb : Nat) (text : ByteArray) (ak : Option Addr) (nk ck : Nat) (hb9 : nb ≤ 9223372036854775807) (hk9 : nk ≤ 9223372036854775807) (w : World) :
    Calls Try.prog 26 #[.agg (itCells 7 n ab nb cb text ak nk ck)] w fun e w' => e = .returned (.bool (fieldsB 7 n nb text.size nk)) ∧ Below w.heap.size w w' := by
  have HB : Hid (Below w.heap.size w (w.alloc (.cells #[.int .i64 7, .int .u64 (n : Nat), .slice ab nb cb, .string text, .slice ak nk ck] 26))) := (Below.refl _ _).alloc (Nat.le_refl _) _
  have hnt : ((⟨#[]⟩ : ByteArray).toList == []) = true := by rw [no_txt]; rfl
  have htx := no_txt text
  obtain ⟨tl, htl⟩ : ∃ q, q = text.size := ⟨_, rfl⟩
  rw [← htl] at htx ⊢
  clear htl
  by_cases h0 : nk = 1
  case neg =>
    have x7 : ((nk : Int) == 1) = false := by simp; omega
    have HE : Hid (fieldsB 7 n nb tl nk = false) := by show _ = _; unfold fieldsB; simp [h0]
    go_enter Try.func26, Try.ntmps26
    go_wp2_with fail
    go_ret
    exact ⟨by rw [HE.out]; rfl, by (repeat' (first | with_reducible exact HB.out | with_reducible refine Below.setCell ?_ (Nat.le_refl _) _ | exact (Below.refl _ _).alloc (Nat.le_refl _) _))⟩
  by_cases h1 : nb = 0
  case neg =>
    have x5 : ((nb : Int) == 0) = false := by simp; omega
    have HE : Hid (fieldsB 7 n nb tl nk = false) := by show _ = _; unfold fieldsB; simp [h0, h1]
    go_enter Try.func26, Try.ntmps26
    go_wp2_with fail
    go_ret
    exact ⟨by rw [HE.out]; rfl, by (repeat' (first | with_reducible exact HB.out | with_reducible refine Below.setCell ?_ (Nat.le_refl _) _ | exact (Below.refl _ _).alloc (Nat.le_refl _) _))⟩
  by_cases h2 : tl = 0
  case neg =>
    have x3 : (text.toList == []) = false := by rw [htx]; simpa using h2
    have HE : Hid (fieldsB 7 n nb tl nk = false) := by show _ = _; unfold fieldsB; simp [h0, h1, h2]
    go_enter Try.func26, Try.ntmps26
    go_wp2_with fail
    go_ret
    exact ⟨by rw [HE.out]; rfl, by (repeat' (first | with_reducible exact HB.out | with_reducible refine Below.setCell ?_ (Nat.le_refl _) _ | exact (Below.refl _ _).alloc (Nat.le_refl _) _))⟩
  have x3 : (text.toList == []) = true := by rw [htx]; simpa using h2
  have HE : Hid (fieldsB 7 n nb tl nk = true) := by show _ = _; unfold fieldsB; simp [h0, h1, h2]
  go_enter Try.func26, Try.ntmps26
  go_wp2_with fail
  go_ret
  exact ⟨by rw [HE.out]; rfl, by (repeat' (first | with_reducible exact HB.out | with_reducible refine Below.setCell ?_ (Nat.le_refl _) _ | exact (Below.refl _ _).alloc (Nat.le_refl _) _))⟩

set_option maxRecDepth 100000 in
set_option maxHeartbeats 4000000 in
theorem fields_8 (n : Nat) (ab : Option Addr) (nb cb : Nat) (text : ByteArray) (ak : Option Addr) (nk ck : Nat) (hb9 : nb ≤ 9223372036854775807) (hk9 : nk ≤ 9223372036854775807) (w : World) :
    Calls Try.prog 26 #[.agg (itCells 8 n ab nb cb text ak nk ck)] w fun e w' => e = .returned (.bool (fieldsB 8 n nb text.size nk)) ∧ Below w.heap.size w w' := by
  have HB : Hid (Below w.heap.size w (w.alloc (.cells #[.int .i64 8, .int .u64 (n : Nat), .slice ab nb cb, .string text, .slice ak nk ck] 26))) := (Below.refl _ _).alloc (Nat.le_refl _) _
  have hnt : ((⟨#[]⟩ : ByteArray).toList == []) = true := by rw [no_txt]; rfl
  have htx := no_txt text
  obtain ⟨tl, htl⟩ : ∃ q, q = text.size := ⟨_, rfl⟩
  rw [← htl] at htx ⊢
  clear htl
  by_cases h0 : 20 ≤ n
  case neg =>
    have x1 : decide ((20 : Int) ≤ (n : Int)) = false := by simp; omega
    have HE : Hid (fieldsB 8 n nb tl nk = false) := by show _ = _; unfold fieldsB; simp [h0]; try omega
    go_enter Try.func26, Try.ntmps26
    go_wp2_with fail
    go_ret
    exact ⟨by rw [HE.out]; rfl, by (repeat' (first | with_reducible exact HB.out | with_reducible refine Below.setCell ?_ (Nat.le_refl _) _ | exact (Below.refl _ _).alloc (Nat.le_refl _) _))⟩
  have x1 : decide ((20 : Int) ≤ (n : Int)) = true := by simp; omega
  by_cases h1 : n ≤ 23
  case neg =>
    have x2 : decide ((n : Int) ≤ 23) = false := by simp; omega
    have HE : Hid (fieldsB 8 n nb tl nk = false) := by show _ = _; unfold fieldsB; simp [h0, h1]; try omega
    go_enter Try.func26, Try.ntmps26
    go_wp2_with fail
    go_ret
    exact ⟨by rw [HE.out]; rfl, by (repeat' (first | with_reducible exact HB.out | with_reducible refine Below.setCell ?_ (Nat.le_refl _) _ | exact (Below.refl _ _).alloc (Nat.le_refl _) _))⟩
  have x2 : decide ((n : Int) ≤ 23) = true := by simp; omega
  by_cases h2 : nb = 0
  case neg =>
    have x5 : ((nb : Int) == 0) = false := by simp; omega
    have HE : Hid (fieldsB 8 n nb tl nk = false) := by show _ = _; unfold fieldsB; simp [h0, h1, h2]; try omega
    go_enter Try.func26, Try.ntmps26
    go_wp2_with fail
    go_ret
    exact ⟨by rw [HE.out]; rfl, by (repeat' (first | with_reducible exact HB.out | with_reducible refine Below.setCell ?_ (Nat.le_refl _) _ | exact (Below.refl _ _).alloc (Nat.le_refl _) _))⟩
  by_cases h3 : tl = 0
  case neg =>
    have x3 : (text.toList == []) = false := by rw [htx]; simpa using h3
    have HE : Hid (fieldsB 8 n nb tl nk = false) := by show _ = _; unfold fieldsB; simp [h0, h1, h2, h3]; try omega
    go_enter Try.func26, Try.ntmps26
    go_wp2_with fail
    go_ret
    exact ⟨by rw [HE.out]; rfl, by (repeat' (first | with_reducible exact HB.out | with_reducible refine Below.setCell ?_ (Nat.le_refl _) _ | exact (Below.refl _ _).alloc (Nat.le_refl _) _))⟩
  have x3 : (text.toList == []) = true := by rw [htx]; simpa using h3
  by_cases h4 : nk = 0
  case neg =>
    have x6 : ((nk : Int) == 0) = false := by simp; omega
    have HE : Hid (fieldsB 8 n nb tl nk = false) := by show _ = _; unfold fieldsB; simp [h0, h1, h2, h3, h4]; try omega
    go_enter Try.func26, Try.ntmps26
    go_wp2_with fail
    go_ret
    exact ⟨by rw [HE.out]; rfl, by (repeat' (first | with_reducible exact HB.out | with_reducible refine Below.setCell ?_ (Nat.le_refl _) _ | exact (Below.refl _ _).alloc (Nat.le_refl _) _))⟩
  have HE : Hid (fieldsB 8 n nb tl nk = true) := by show _ = _; unfold fieldsB; simp [h0, h1, h2, h3, h4]
  go_enter Try.func26, Try.ntmps26
  go_wp2_with fail
  go_ret
  exact ⟨by rw [HE.out]; rfl, by (repeat' (first | with_reducible exact HB.out | with_reducible refine Below.setCell ?_ (Nat.le_refl _) _ | exact (Below.refl _ _).alloc (Nat.le_refl _) _))⟩

set_option maxRecDepth 100000 in
set_option maxHeartbeats 4000000 in
theorem fields_9 (n : Nat) (ab : Option Addr) (nb cb : Nat) (text : ByteArray) (ak : Option Addr) (nk ck : Nat) (hb9 : nb ≤ 9223372036854775807) (hk9 : nk ≤ 9223372036854775807) (w : World) :
    Calls Try.prog 26 #[.agg (itCells 9 n ab nb cb text ak nk ck)] w fun e w' => e = .returned (.bool (fieldsB 9 n nb text.size nk)) ∧ Below w.heap.size w w' := by
  have HB : Hid (Below w.heap.size w (w.alloc (.cells #[.int .i64 9, .int .u64 (n : Nat), .slice ab nb cb, .string text, .slice ak nk ck] 26))) := (Below.refl _ _).alloc (Nat.le_refl _) _
  have hnt : ((⟨#[]⟩ : ByteArray).toList == []) = true := by rw [no_txt]; rfl
  have htx := no_txt text
  obtain ⟨tl, htl⟩ : ∃ q, q = text.size := ⟨_, rfl⟩
  rw [← htl] at htx ⊢
  clear htl
  by_cases h0 : nb = 0
  case neg =>
    have x5 : ((nb : Int) == 0) = false := by simp; omega
    have HE : Hid (fieldsB 9 n nb tl nk = false) := by show _ = _; unfold fieldsB; simp [h0]
    go_enter Try.func26, Try.ntmps26
    go_wp2_with fail
    go_ret
    exact ⟨by rw [HE.out]; rfl, by (repeat' (first | with_reducible exact HB.out | with_reducible refine Below.setCell ?_ (Nat.le_refl _) _ | exact (Below.refl _ _).alloc (Nat.le_refl _) _))⟩
  by_cases h1 : tl = 0
  case neg =>
    have x3 : (text.toList == []) = false := by rw [htx]; simpa using h1
    have HE : Hid (fieldsB 9 n nb tl nk = false) := by show _ = _; unfold fieldsB; simp [h0, h1]
    go_enter Try.func26, Try.ntmps26
    go_wp2_with fail
    go_ret
    exact ⟨by rw [HE.out]; rfl, by (repeat' (first | with_reducible exact HB.out | with_reducible refine Below.setCell ?_ (Nat.le_refl _) _ | exact (Below.refl _ _).alloc (Nat.le_refl _) _))⟩
  have x3 : (text.toList == []) = true := by rw [htx]; simpa using h1
  by_cases h2 : nk = 0
  case neg =>
    have x6 : ((nk : Int) == 0) = false := by simp; omega
    have HE : Hid (fieldsB 9 n nb tl nk = false) := by show _ = _; unfold fieldsB; simp [h0, h1, h2]
    go_enter Try.func26, Try.ntmps26
    go_wp2_with fail
    go_ret
    exact ⟨by rw [HE.out]; rfl, by (repeat' (first | with_reducible exact HB.out | with_reducible refine Below.setCell ?_ (Nat.le_refl _) _ | exact (Below.refl _ _).alloc (Nat.le_refl _) _))⟩
  have HE : Hid (fieldsB 9 n nb tl nk = true) := by show _ = _; unfold fieldsB; simp [h0, h1, h2]
  go_enter Try.func26, Try.ntmps26
  go_wp2_with fail
  go_ret
  exact ⟨by rw [HE.out]; rfl, by (repeat' (first | with_reducible exact HB.out | with_reducible refine Below.setCell ?_ (Nat.le_refl _) _ | exact (Below.refl _ _).alloc (Nat.le_refl _) _))⟩

theorem fields_calls (k : Int) (hk : 1 ≤ k ∧ k ≤ 9) (n : Nat) (ab : Option Addr) (nb cb : Nat) (text : ByteArray) (ak : Option Addr) (nk ck : Nat) (hb9 : nb ≤ 9223372036854775807) (hk9 : nk ≤ 9223372036854775807) (w : World) :
    Calls Try.prog 26 #[.agg (itCells k n ab nb cb text ak nk ck)] w fun e w' => e = .returned (.bool (fieldsB k n nb text.size nk)) ∧ Below w.heap.size w w' := by
  have : k = 1 ∨ k = 2 ∨ k = 3 ∨ k = 4 ∨ k = 5 ∨ k = 6 ∨ k = 7 ∨ k = 8 ∨ k = 9 := by omega
  rcases this with rfl | rfl | rfl | rfl | rfl | rfl | rfl | rfl | rfl
  · exact fields_1 n ab nb cb text ak nk ck hb9 hk9 w
  · exact fields_2 n ab nb cb text ak nk ck hb9 hk9 w
  · exact fields_3 n ab nb cb text ak nk ck hb9 hk9 w
  · exact fields_4 n ab nb cb text ak nk ck hb9 hk9 w
  · exact fields_5 n ab nb cb text ak nk ck hb9 hk9 w
  · exact fields_6 n ab nb cb text ak nk ck hb9 hk9 w
  · exact fields_7 n ab nb cb text ak nk ck hb9 hk9 w
  · exact fields_8 n ab nb cb text ak nk ck hb9 hk9 w
  · exact fields_9 n ab nb cb text ak nk ck hb9 hk9 w

end Go.Proofs.Ytambhapgjonmmaa
