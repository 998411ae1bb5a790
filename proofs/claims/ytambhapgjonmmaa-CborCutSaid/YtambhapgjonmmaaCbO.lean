/- The reference's own: what is wrong of an item itself. -/
import Derived.Test.YtambhapgjonmmaaCbF
import Derived.Test.YtambhapgjonmmaaUtf9
namespace Go.Proofs.Ytambhapgjonmmaa
open Go.RowKit
set_option linter.unusedVariables false
set_option linter.unusedSimpArgs false

set_option maxRecDepth 100000 in
set_option maxHeartbeats 2000000 in
theorem rwhole_calls (s : ByteArray) (hs : s.size ≤ 1048576) (w : World) :
    Calls Try.prog 45 #[.string s] w fun e w' => e = .returned (.bool (wholeTo (sl s) == s.size)) ∧ Below w.heap.size w w' := by
  obtain ⟨cap3, w3, hrun, hb3, hs3, hr3, hz1, hz2⟩ := conv_bytes w s hs
  have C := Lib.hid (rcheck_calls _ _ cap3 w3 _ hr3)
  have HB := Lib.hid hb3
  generalize (wholeTo (sl s) == s.size) = b at C
  generalize wholeTo (sl s) = n at C
  clear hr3 hz1 hz2 hb3
  go_enter Try.func45, Try.ntmps45
  go_wp2_with fail
  refine C.out.mono ?_
  rintro e w4 ⟨rfl, rfl⟩
  go_wp2_with fail
  go_ret
  exact ⟨rfl, HB.out⟩

/-- An item's own error. -/
def ownE (k : Int) (n bl : Nat) (t : ByteArray) (kl : Nat) : Nat := if k < 1 ∨ 9 < k then 5 else if fieldsB k n bl t.size kl = false then 1 else if (wholeTo (sl t) == t.size) = false then 4 else 0

set_option maxRecDepth 100000 in
set_option maxHeartbeats 4000000 in
theorem own_1 (n : Nat) (ab : Option Addr) (nb cb : Nat) (text : ByteArray) (ht9 : text.size ≤ 1048576) (ak : Option Addr) (nk ck : Nat) (hb9 : nb ≤ 9223372036854775807) (hk9 : nk ≤ 9223372036854775807) (w : World) :
    Calls Try.prog 28 #[.agg (itCells 1 n ab nb cb text ak nk ck)] w fun e w' => e = .returned (.int .i64 (ownE 1 n nb text nk : Nat)) ∧ Below w.heap.size w w' := by
  have HB : Hid (Below w.heap.size w (w.alloc (.cells #[.int .i64 1, .int .u64 (n : Nat), .slice ab nb cb, .string text, .slice ak nk ck] 26))) := (Below.refl _ _).alloc (Nat.le_refl _) _
  have CW := Lib.hid (rwhole_calls text ht9)
  have hnt : ((⟨#[]⟩ : ByteArray).toList == []) = true := by rw [no_txt]; rfl
  have htx := no_txt text
  obtain ⟨tl, htl⟩ : ∃ q, q = text.size := ⟨_, rfl⟩
  have HTL : Hid (tl = text.size) := htl
  rw [← htl] at htx
  clear htl ht9
  by_cases h0 : nb = 0
  case neg =>
    have x5 : decide ((0 : Int) < (nb : Int)) = true := by simp; omega
    have x5n : 0 < nb := by omega
    have HE : Hid (ownE 1 n nb text nk = 1) := by show _ = _; unfold ownE; rw [if_neg (by omega), ← HTL.out]; rw [if_pos (by unfold fieldsB; simp [h0])]
    go_enter Try.func28, Try.ntmps28
    go_wp2_with fail
    go_ret
    exact ⟨by rw [HE.out]; rfl, by first | with_reducible exact HB.out | exact (Below.refl _ _).alloc (Nat.le_refl _) _⟩
  by_cases h1 : tl = 0
  case neg =>
    have x3 : (text.toList == []) = false := by rw [htx]; simpa using h1
    have x3n : (text.toList != []) = true := by unfold bne; rw [x3]; rfl
    clear htx
    have HE : Hid (ownE 1 n nb text nk = 1) := by show _ = _; unfold ownE; rw [if_neg (by omega), ← HTL.out]; rw [if_pos (by unfold fieldsB; simp [h0, h1])]
    go_enter Try.func28, Try.ntmps28
    go_wp2_with fail
    go_ret
    exact ⟨by rw [HE.out]; rfl, by first | with_reducible exact HB.out | exact (Below.refl _ _).alloc (Nat.le_refl _) _⟩
  have x3 : (text.toList == []) = true := by rw [htx]; simpa using h1
  have x3n : (text.toList != []) = false := by unfold bne; rw [x3]; rfl
  clear htx
  by_cases h2 : nk = 0
  case neg =>
    have x6 : decide ((0 : Int) < (nk : Int)) = true := by simp; omega
    have x6n : 0 < nk := by omega
    have HE : Hid (ownE 1 n nb text nk = 1) := by show _ = _; unfold ownE; rw [if_neg (by omega), ← HTL.out]; rw [if_pos (by unfold fieldsB; simp [h0, h1, h2])]
    go_enter Try.func28, Try.ntmps28
    go_wp2_with fail
    go_ret
    exact ⟨by rw [HE.out]; rfl, by first | with_reducible exact HB.out | exact (Below.refl _ _).alloc (Nat.le_refl _) _⟩
  have HE : Hid (ownE 1 n nb text nk = if (wholeTo (sl text) == text.size) = false then 4 else 0) := by
    show _ = _
    unfold ownE
    rw [if_neg (by omega), if_neg]
    rw [← HTL.out]
    unfold fieldsB; simp [h0, h1, h2]
  generalize (wholeTo (sl text) == text.size) = b at CW HE
  go_enter Try.func28, Try.ntmps28
  go_wp2_with fail
  refine (CW.out _).mono ?_
  rintro e w1 ⟨rfl, hb1⟩
  have HB1 : Hid (Below w.heap.size w w1) := ((Below.refl w.heap.size w).alloc (Nat.le_refl _) _).trans (hb1.mono (by simp))
  clear hb1 CW
  cases b
  all_goals
    go_wp2_with fail
    go_ret
    exact ⟨by rw [HE.out]; rfl, HB1.out⟩

set_option maxRecDepth 100000 in
set_option maxHeartbeats 4000000 in
theorem own_2 (n : Nat) (ab : Option Addr) (nb cb : Nat) (text : ByteArray) (ht9 : text.size ≤ 1048576) (ak : Option Addr) (nk ck : Nat) (hb9 : nb ≤ 9223372036854775807) (hk9 : nk ≤ 9223372036854775807) (w : World) :
    Calls Try.prog 28 #[.agg (itCells 2 n ab nb cb text ak nk ck)] w fun e w' => e = .returned (.int .i64 (ownE 2 n nb text nk : Nat)) ∧ Below w.heap.size w w' := by
  have HB : Hid (Below w.heap.size w (w.alloc (.cells #[.int .i64 2, .int .u64 (n : Nat), .slice ab nb cb, .string text, .slice ak nk ck] 26))) := (Below.refl _ _).alloc (Nat.le_refl _) _
  have CW := Lib.hid (rwhole_calls text ht9)
  have hnt : ((⟨#[]⟩ : ByteArray).toList == []) = true := by rw [no_txt]; rfl
  have htx := no_txt text
  obtain ⟨tl, htl⟩ : ∃ q, q = text.size := ⟨_, rfl⟩
  have HTL : Hid (tl = text.size) := htl
  rw [← htl] at htx
  clear htl ht9
  by_cases h0 : nb = 0
  case neg =>
    have x5 : decide ((0 : Int) < (nb : Int)) = true := by simp; omega
    have x5n : 0 < nb := by omega
    have HE : Hid (ownE 2 n nb text nk = 1) := by show _ = _; unfold ownE; rw [if_neg (by omega), ← HTL.out]; rw [if_pos (by unfold fieldsB; simp [h0])]
    go_enter Try.func28, Try.ntmps28
    go_wp2_with fail
    go_ret
    exact ⟨by rw [HE.out]; rfl, by first | with_reducible exact HB.out | exact (Below.refl _ _).alloc (Nat.le_refl _) _⟩
  by_cases h1 : tl = 0
  case neg =>
    have x3 : (text.toList == []) = false := by rw [htx]; simpa using h1
    have x3n : (text.toList != []) = true := by unfold bne; rw [x3]; rfl
    clear htx
    have HE : Hid (ownE 2 n nb text nk = 1) := by show _ = _; unfold ownE; rw [if_neg (by omega), ← HTL.out]; rw [if_pos (by unfold fieldsB; simp [h0, h1])]
    go_enter Try.func28, Try.ntmps28
    go_wp2_with fail
    go_ret
    exact ⟨by rw [HE.out]; rfl, by first | with_reducible exact HB.out | exact (Below.refl _ _).alloc (Nat.le_refl _) _⟩
  have x3 : (text.toList == []) = true := by rw [htx]; simpa using h1
  have x3n : (text.toList != []) = false := by unfold bne; rw [x3]; rfl
  clear htx
  by_cases h2 : nk = 0
  case neg =>
    have x6 : decide ((0 : Int) < (nk : Int)) = true := by simp; omega
    have x6n : 0 < nk := by omega
    have HE : Hid (ownE 2 n nb text nk = 1) := by show _ = _; unfold ownE; rw [if_neg (by omega), ← HTL.out]; rw [if_pos (by unfold fieldsB; simp [h0, h1, h2])]
    go_enter Try.func28, Try.ntmps28
    go_wp2_with fail
    go_ret
    exact ⟨by rw [HE.out]; rfl, by first | with_reducible exact HB.out | exact (Below.refl _ _).alloc (Nat.le_refl _) _⟩
  have HE : Hid (ownE 2 n nb text nk = if (wholeTo (sl text) == text.size) = false then 4 else 0) := by
    show _ = _
    unfold ownE
    rw [if_neg (by omega), if_neg]
    rw [← HTL.out]
    unfold fieldsB; simp [h0, h1, h2]
  generalize (wholeTo (sl text) == text.size) = b at CW HE
  go_enter Try.func28, Try.ntmps28
  go_wp2_with fail
  refine (CW.out _).mono ?_
  rintro e w1 ⟨rfl, hb1⟩
  have HB1 : Hid (Below w.heap.size w w1) := ((Below.refl w.heap.size w).alloc (Nat.le_refl _) _).trans (hb1.mono (by simp))
  clear hb1 CW
  cases b
  all_goals
    go_wp2_with fail
    go_ret
    exact ⟨by rw [HE.out]; rfl, HB1.out⟩

set_option maxRecDepth 100000 in
set_option maxHeartbeats 4000000 in
theorem own_3 (n : Nat) (ab : Option Addr) (nb cb : Nat) (text : ByteArray) (ht9 : text.size ≤ 1048576) (ak : Option Addr) (nk ck : Nat) (hb9 : nb ≤ 9223372036854775807) (hk9 : nk ≤ 9223372036854775807) (w : World) :
    Calls Try.prog 28 #[.agg (itCells 3 n ab nb cb text ak nk ck)] w fun e w' => e = .returned (.int .i64 (ownE 3 n nb text nk : Nat)) ∧ Below w.heap.size w w' := by
  have HB : Hid (Below w.heap.size w (w.alloc (.cells #[.int .i64 3, .int .u64 (n : Nat), .slice ab nb cb, .string text, .slice ak nk ck] 26))) := (Below.refl _ _).alloc (Nat.le_refl _) _
  have CW := Lib.hid (rwhole_calls text ht9)
  have hnt : ((⟨#[]⟩ : ByteArray).toList == []) = true := by rw [no_txt]; rfl
  have htx := no_txt text
  obtain ⟨tl, htl⟩ : ∃ q, q = text.size := ⟨_, rfl⟩
  have HTL : Hid (tl = text.size) := htl
  rw [← htl] at htx
  clear htl ht9
  by_cases h0 : n = 0
  case neg =>
    have x4 : ((n : Int) != 0) = true := by simp; omega
    have HE : Hid (ownE 3 n nb text nk = 1) := by show _ = _; unfold ownE; rw [if_neg (by omega), ← HTL.out]; rw [if_pos (by unfold fieldsB; simp [h0])]
    go_enter Try.func28, Try.ntmps28
    go_wp2_with fail
    go_ret
    exact ⟨by rw [HE.out]; rfl, by first | with_reducible exact HB.out | exact (Below.refl _ _).alloc (Nat.le_refl _) _⟩
  by_cases h1 : tl = 0
  case neg =>
    have x3 : (text.toList == []) = false := by rw [htx]; simpa using h1
    have x3n : (text.toList != []) = true := by unfold bne; rw [x3]; rfl
    clear htx
    have HE : Hid (ownE 3 n nb text nk = 1) := by show _ = _; unfold ownE; rw [if_neg (by omega), ← HTL.out]; rw [if_pos (by unfold fieldsB; simp [h0, h1])]
    go_enter Try.func28, Try.ntmps28
    go_wp2_with fail
    go_ret
    exact ⟨by rw [HE.out]; rfl, by first | with_reducible exact HB.out | exact (Below.refl _ _).alloc (Nat.le_refl _) _⟩
  have x3 : (text.toList == []) = true := by rw [htx]; simpa using h1
  have x3n : (text.toList != []) = false := by unfold bne; rw [x3]; rfl
  clear htx
  by_cases h2 : nk = 0
  case neg =>
    have x6 : decide ((0 : Int) < (nk : Int)) = true := by simp; omega
    have x6n : 0 < nk := by omega
    have HE : Hid (ownE 3 n nb text nk = 1) := by show _ = _; unfold ownE; rw [if_neg (by omega), ← HTL.out]; rw [if_pos (by unfold fieldsB; simp [h0, h1, h2])]
    go_enter Try.func28, Try.ntmps28
    go_wp2_with fail
    go_ret
    exact ⟨by rw [HE.out]; rfl, by first | with_reducible exact HB.out | exact (Below.refl _ _).alloc (Nat.le_refl _) _⟩
  have HE : Hid (ownE 3 n nb text nk = if (wholeTo (sl text) == text.size) = false then 4 else 0) := by
    show _ = _
    unfold ownE
    rw [if_neg (by omega), if_neg]
    rw [← HTL.out]
    unfold fieldsB; simp [h0, h1, h2]
  generalize (wholeTo (sl text) == text.size) = b at CW HE
  go_enter Try.func28, Try.ntmps28
  go_wp2_with fail
  refine (CW.out _).mono ?_
  rintro e w1 ⟨rfl, hb1⟩
  have HB1 : Hid (Below w.heap.size w w1) := ((Below.refl w.heap.size w).alloc (Nat.le_refl _) _).trans (hb1.mono (by simp))
  clear hb1 CW
  cases b
  all_goals
    go_wp2_with fail
    go_ret
    exact ⟨by rw [HE.out]; rfl, HB1.out⟩

set_option maxRecDepth 100000 in
set_option maxHeartbeats 4000000 in
theorem own_4 (n : Nat) (ab : Option Addr) (nb cb : Nat) (text : ByteArray) (ht9 : text.size ≤ 1048576) (ak : Option Addr) (nk ck : Nat) (hb9 : nb ≤ 9223372036854775807) (hk9 : nk ≤ 9223372036854775807) (w : World) :
    Calls Try.prog 28 #[.agg (itCells 4 n ab nb cb text ak nk ck)] w fun e w' => e = .returned (.int .i64 (ownE 4 n nb text nk : Nat)) ∧ Below w.heap.size w w' := by
  have HB : Hid (Below w.heap.size w (w.alloc (.cells #[.int .i64 4, .int .u64 (n : Nat), .slice ab nb cb, .string text, .slice ak nk ck] 26))) := (Below.refl _ _).alloc (Nat.le_refl _) _
  have CW := Lib.hid (rwhole_calls text ht9)
  have hnt : ((⟨#[]⟩ : ByteArray).toList == []) = true := by rw [no_txt]; rfl
  have htx := no_txt text
  obtain ⟨tl, htl⟩ : ∃ q, q = text.size := ⟨_, rfl⟩
  have HTL : Hid (tl = text.size) := htl
  rw [← htl] at htx
  clear htl ht9
  clear htx
  by_cases h0 : n = 0
  case neg =>
    have x4 : ((n : Int) != 0) = true := by simp; omega
    have HE : Hid (ownE 4 n nb text nk = 1) := by show _ = _; unfold ownE; rw [if_neg (by omega), ← HTL.out]; rw [if_pos (by unfold fieldsB; simp [h0])]
    go_enter Try.func28, Try.ntmps28
    go_wp2_with fail
    go_ret
    exact ⟨by rw [HE.out]; rfl, by first | with_reducible exact HB.out | exact (Below.refl _ _).alloc (Nat.le_refl _) _⟩
  by_cases h1 : nb = 0
  case neg =>
    have x5 : decide ((0 : Int) < (nb : Int)) = true := by simp; omega
    have x5n : 0 < nb := by omega
    have HE : Hid (ownE 4 n nb text nk = 1) := by show _ = _; unfold ownE; rw [if_neg (by omega), ← HTL.out]; rw [if_pos (by unfold fieldsB; simp [h0, h1])]
    go_enter Try.func28, Try.ntmps28
    go_wp2_with fail
    go_ret
    exact ⟨by rw [HE.out]; rfl, by first | with_reducible exact HB.out | exact (Below.refl _ _).alloc (Nat.le_refl _) _⟩
  by_cases h2 : nk = 0
  case neg =>
    have x6 : decide ((0 : Int) < (nk : Int)) = true := by simp; omega
    have x6n : 0 < nk := by omega
    have HE : Hid (ownE 4 n nb text nk = 1) := by show _ = _; unfold ownE; rw [if_neg (by omega), ← HTL.out]; rw [if_pos (by unfold fieldsB; simp [h0, h1, h2])]
    go_enter Try.func28, Try.ntmps28
    go_wp2_with fail
    go_ret
    exact ⟨by rw [HE.out]; rfl, by first | with_reducible exact HB.out | exact (Below.refl _ _).alloc (Nat.le_refl _) _⟩
  have HE : Hid (ownE 4 n nb text nk = if (wholeTo (sl text) == text.size) = false then 4 else 0) := by
    show _ = _
    unfold ownE
    rw [if_neg (by omega), if_neg]
    rw [← HTL.out]
    unfold fieldsB; simp [h0, h1, h2]
  generalize (wholeTo (sl text) == text.size) = b at CW HE
  go_enter Try.func28, Try.ntmps28
  go_wp2_with fail
  refine (CW.out _).mono ?_
  rintro e w1 ⟨rfl, hb1⟩
  have HB1 : Hid (Below w.heap.size w w1) := ((Below.refl w.heap.size w).alloc (Nat.le_refl _) _).trans (hb1.mono (by simp))
  clear hb1 CW
  cases b
  all_goals
    go_wp2_with fail
    go_ret
    exact ⟨by rw [HE.out]; rfl, HB1.out⟩

set_option maxRecDepth 100000 in
set_option maxHeartbeats 4000000 in
theorem own_5 (n : Nat) (ab : Option Addr) (nb cb : Nat) (text : ByteArray) (ht9 : text.size ≤ 1048576) (ak : Option Addr) (nk ck : Nat) (hb9 : nb ≤ 9223372036854775807) (hk9 : nk ≤ 9223372036854775807) (w : World) :
    Calls Try.prog 28 #[.agg (itCells 5 n ab nb cb text ak nk ck)] w fun e w' => e = .returned (.int .i64 (ownE 5 n nb text nk : Nat)) ∧ Below w.heap.size w w' := by
  have HB : Hid (Below w.heap.size w (w.alloc (.cells #[.int .i64 5, .int .u64 (n : Nat), .slice ab nb cb, .string text, .slice ak nk ck] 26))) := (Below.refl _ _).alloc (Nat.le_refl _) _
  have CW := Lib.hid (rwhole_calls text ht9)
  have hnt : ((⟨#[]⟩ : ByteArray).toList == []) = true := by rw [no_txt]; rfl
  have htx := no_txt text
  obtain ⟨tl, htl⟩ : ∃ q, q = text.size := ⟨_, rfl⟩
  have HTL : Hid (tl = text.size) := htl
  rw [← htl] at htx
  clear htl ht9
  by_cases h0 : n = 0
  case neg =>
    have x4 : ((n : Int) != 0) = true := by simp; omega
    have HE : Hid (ownE 5 n nb text nk = 1) := by show _ = _; unfold ownE; rw [if_neg (by omega), ← HTL.out]; rw [if_pos (by unfold fieldsB; simp [h0])]
    go_enter Try.func28, Try.ntmps28
    go_wp2_with fail
    go_ret
    exact ⟨by rw [HE.out]; rfl, by first | with_reducible exact HB.out | exact (Below.refl _ _).alloc (Nat.le_refl _) _⟩
  by_cases h1 : nb = 0
  case neg =>
    have x5 : decide ((0 : Int) < (nb : Int)) = true := by simp; omega
    have x5n : 0 < nb := by omega
    have HE : Hid (ownE 5 n nb text nk = 1) := by show _ = _; unfold ownE; rw [if_neg (by omega), ← HTL.out]; rw [if_pos (by unfold fieldsB; simp [h0, h1])]
    go_enter Try.func28, Try.ntmps28
    go_wp2_with fail
    go_ret
    exact ⟨by rw [HE.out]; rfl, by first | with_reducible exact HB.out | exact (Below.refl _ _).alloc (Nat.le_refl _) _⟩
  by_cases h2 : tl = 0
  case neg =>
    have x3 : (text.toList == []) = false := by rw [htx]; simpa using h2
    have x3n : (text.toList != []) = true := by unfold bne; rw [x3]; rfl
    clear htx
    have HE : Hid (ownE 5 n nb text nk = 1) := by show _ = _; unfold ownE; rw [if_neg (by omega), ← HTL.out]; rw [if_pos (by unfold fieldsB; simp [h0, h1, h2])]
    go_enter Try.func28, Try.ntmps28
    go_wp2_with fail
    go_ret
    exact ⟨by rw [HE.out]; rfl, by first | with_reducible exact HB.out | exact (Below.refl _ _).alloc (Nat.le_refl _) _⟩
  have x3 : (text.toList == []) = true := by rw [htx]; simpa using h2
  have x3n : (text.toList != []) = false := by unfold bne; rw [x3]; rfl
  clear htx
  have HE : Hid (ownE 5 n nb text nk = if (wholeTo (sl text) == text.size) = false then 4 else 0) := by
    show _ = _
    unfold ownE
    rw [if_neg (by omega), if_neg]
    rw [← HTL.out]
    unfold fieldsB; simp [h0, h1, h2]
  generalize (wholeTo (sl text) == text.size) = b at CW HE
  go_enter Try.func28, Try.ntmps28
  go_wp2_with fail
  refine (CW.out _).mono ?_
  rintro e w1 ⟨rfl, hb1⟩
  have HB1 : Hid (Below w.heap.size w w1) := ((Below.refl w.heap.size w).alloc (Nat.le_refl _) _).trans (hb1.mono (by simp))
  clear hb1 CW
  cases b
  all_goals
    go_wp2_with fail
    go_ret
    exact ⟨by rw [HE.out]; rfl, HB1.out⟩

set_option maxRecDepth 100000 in
set_option maxHeartbeats 4000000 in
theorem own_6 (n : Nat) (ab : Option Addr) (nb cb : Nat) (text : ByteArray) (ht9 : text.size ≤ 1048576) (ak : Option Addr) (nk ck : Nat) (hb9 : nb ≤ 9223372036854775807) (hk9 : nk ≤ 9223372036854775807) (w : World) :
    Calls Try.prog 28 #[.agg (itCells 6 n ab nb cb text ak nk ck)] w fun e w' => e = .returned (.int .i64 (ownE 6 n nb text nk : Nat)) ∧ Below w.heap.size w w' := by
  have HB : Hid (Below w.heap.size w (w.alloc (.cells #[.int .i64 6, .int .u64 (n : Nat), .slice ab nb cb, .string text, .slice ak nk ck] 26))) := (Below.refl _ _).alloc (Nat.le_refl _) _
  have CW := Lib.hid (rwhole_calls text ht9)
  have hnt : ((⟨#[]⟩ : ByteArray).toList == []) = true := by rw [no_txt]; rfl
  have htx := no_txt text
  obtain ⟨tl, htl⟩ : ∃ q, q = text.size := ⟨_, rfl⟩
  have HTL : Hid (tl = text.size) := htl
  rw [← htl] at htx
  clear htl ht9
  have ct : (nk : Int).tmod 2 = ((nk % 2 : Nat) : Int) := by rw [Int.tmod_eq_emod_of_nonneg (by omega)]; omega
  obtain ⟨r2, hr2⟩ : ∃ q, q = nk % 2 := ⟨_, rfl⟩
  rw [← hr2] at ct
  have HR2 := Lib.hid hr2
  clear hr2
  by_cases h0 : n = 0
  case neg =>
    have x4 : ((n : Int) != 0) = true := by simp; omega
    have HE : Hid (ownE 6 n nb text nk = 1) := by show _ = _; unfold ownE; rw [if_neg (by omega), ← HTL.out]; rw [if_pos (by unfold fieldsB; simp [h0])]
    go_enter Try.func28, Try.ntmps28
    go_wp2_with fail
    go_ret
    exact ⟨by rw [HE.out]; rfl, by first | with_reducible exact HB.out | exact (Below.refl _ _).alloc (Nat.le_refl _) _⟩
  by_cases h1 : nb = 0
  case neg =>
    have x5 : decide ((0 : Int) < (nb : Int)) = true := by simp; omega
    have x5n : 0 < nb := by omega
    have HE : Hid (ownE 6 n nb text nk = 1) := by show _ = _; unfold ownE; rw [if_neg (by omega), ← HTL.out]; rw [if_pos (by unfold fieldsB; simp [h0, h1])]
    go_enter Try.func28, Try.ntmps28
    go_wp2_with fail
    go_ret
    exact ⟨by rw [HE.out]; rfl, by first | with_reducible exact HB.out | exact (Below.refl _ _).alloc (Nat.le_refl _) _⟩
  by_cases h2 : tl = 0
  case neg =>
    have x3 : (text.toList == []) = false := by rw [htx]; simpa using h2
    have x3n : (text.toList != []) = true := by unfold bne; rw [x3]; rfl
    clear htx
    have HE : Hid (ownE 6 n nb text nk = 1) := by show _ = _; unfold ownE; rw [if_neg (by omega), ← HTL.out]; rw [if_pos (by unfold fieldsB; simp [h0, h1, h2])]
    go_enter Try.func28, Try.ntmps28
    go_wp2_with fail
    go_ret
    exact ⟨by rw [HE.out]; rfl, by first | with_reducible exact HB.out | exact (Below.refl _ _).alloc (Nat.le_refl _) _⟩
  have x3 : (text.toList == []) = true := by rw [htx]; simpa using h2
  have x3n : (text.toList != []) = false := by unfold bne; rw [x3]; rfl
  clear htx
  by_cases h3 : r2 = 0
  case neg =>
    have h3m : nk % 2 ≠ 0 := by rw [← HR2.out]; exact h3
    have x7 : ((r2 : Int) != 0) = true := by simp; omega
    have HE : Hid (ownE 6 n nb text nk = 1) := by show _ = _; unfold ownE; rw [if_neg (by omega), ← HTL.out]; rw [if_pos (by unfold fieldsB; simp [h0, h1, h2, h3m])]
    go_enter Try.func28, Try.ntmps28
    go_wp2_with fail
    go_ret
    exact ⟨by rw [HE.out]; rfl, by first | with_reducible exact HB.out | exact (Below.refl _ _).alloc (Nat.le_refl _) _⟩
  have h3m : nk % 2 = 0 := by rw [← HR2.out]; exact h3
  have HE : Hid (ownE 6 n nb text nk = if (wholeTo (sl text) == text.size) = false then 4 else 0) := by
    show _ = _
    unfold ownE
    rw [if_neg (by omega), if_neg]
    rw [← HTL.out]
    unfold fieldsB; simp [h0, h1, h2, h3m]
  generalize (wholeTo (sl text) == text.size) = b at CW HE
  go_enter Try.func28, Try.ntmps28
  go_wp2_with fail
  refine (CW.out _).mono ?_
  rintro e w1 ⟨rfl, hb1⟩
  have HB1 : Hid (Below w.heap.size w w1) := ((Below.refl w.heap.size w).alloc (Nat.le_refl _) _).trans (hb1.mono (by simp))
  clear hb1 CW
  cases b
  all_goals
    go_wp2_with fail
    go_ret
    exact ⟨by rw [HE.out]; rfl, HB1.out⟩

set_option maxRecDepth 100000 in
set_option maxHeartbeats 4000000 in
theorem own_7 (n : Nat) (ab : Option Addr) (nb cb : Nat) (text : ByteArray) (ht9 : text.size ≤ 1048576) (ak : Option Addr) (nk ck : Nat) (hb9 : nb ≤ 9223372036854775807) (hk9 : nk ≤ 9223372036854775807) (w : World) :
    Calls Try.prog 28 #[.agg (itCells 7 n ab nb cb text ak nk ck)] w fun e w' => e = .returned (.int .i64 (ownE 7 n nb text nk : Nat)) ∧ Below w.heap.size w w' := by
  have HB : Hid (Below w.heap.size w (w.alloc (.cells #[.int .i64 7, .int .u64 (n : Nat), .slice ab nb cb, .string text, .slice ak nk ck] 26))) := (Below.refl _ _).alloc (Nat.le_refl _) _
  have CW := Lib.hid (rwhole_calls text ht9)
  have hnt : ((⟨#[]⟩ : ByteArray).toList == []) = true := by rw [no_txt]; rfl
  have htx := no_txt text
  obtain ⟨tl, htl⟩ : ∃ q, q = text.size := ⟨_, rfl⟩
  have HTL : Hid (tl = text.size) := htl
  rw [← htl] at htx
  clear htl ht9
  by_cases h0 : nb = 0
  case neg =>
    have x5 : decide ((0 : Int) < (nb : Int)) = true := by simp; omega
    have x5n : 0 < nb := by omega
    have HE : Hid (ownE 7 n nb text nk = 1) := by show _ = _; unfold ownE; rw [if_neg (by omega), ← HTL.out]; rw [if_pos (by unfold fieldsB; simp [h0])]
    go_enter Try.func28, Try.ntmps28
    go_wp2_with fail
    go_ret
    exact ⟨by rw [HE.out]; rfl, by first | with_reducible exact HB.out | exact (Below.refl _ _).alloc (Nat.le_refl _) _⟩
  by_cases h1 : tl = 0
  case neg =>
    have x3 : (text.toList == []) = false := by rw [htx]; simpa using h1
    have x3n : (text.toList != []) = true := by unfold bne; rw [x3]; rfl
    clear htx
    have HE : Hid (ownE 7 n nb text nk = 1) := by show _ = _; unfold ownE; rw [if_neg (by omega), ← HTL.out]; rw [if_pos (by unfold fieldsB; simp [h0, h1])]
    go_enter Try.func28, Try.ntmps28
    go_wp2_with fail
    go_ret
    exact ⟨by rw [HE.out]; rfl, by first | with_reducible exact HB.out | exact (Below.refl _ _).alloc (Nat.le_refl _) _⟩
  have x3 : (text.toList == []) = true := by rw [htx]; simpa using h1
  have x3n : (text.toList != []) = false := by unfold bne; rw [x3]; rfl
  clear htx
  by_cases h2 : nk = 1
  case neg =>
    have x7 : ((nk : Int) != 1) = true := by simp; omega
    have HE : Hid (ownE 7 n nb text nk = 1) := by show _ = _; unfold ownE; rw [if_neg (by omega), ← HTL.out]; rw [if_pos (by unfold fieldsB; simp [h0, h1, h2])]
    go_enter Try.func28, Try.ntmps28
    go_wp2_with fail
    go_ret
    exact ⟨by rw [HE.out]; rfl, by first | with_reducible exact HB.out | exact (Below.refl _ _).alloc (Nat.le_refl _) _⟩
  have HE : Hid (ownE 7 n nb text nk = if (wholeTo (sl text) == text.size) = false then 4 else 0) := by
    show _ = _
    unfold ownE
    rw [if_neg (by omega), if_neg]
    rw [← HTL.out]
    unfold fieldsB; simp [h0, h1, h2]
  generalize (wholeTo (sl text) == text.size) = b at CW HE
  go_enter Try.func28, Try.ntmps28
  go_wp2_with fail
  refine (CW.out _).mono ?_
  rintro e w1 ⟨rfl, hb1⟩
  have HB1 : Hid (Below w.heap.size w w1) := ((Below.refl w.heap.size w).alloc (Nat.le_refl _) _).trans (hb1.mono (by simp))
  clear hb1 CW
  cases b
  all_goals
    go_wp2_with fail
    go_ret
    exact ⟨by rw [HE.out]; rfl, HB1.out⟩

set_option maxRecDepth 100000 in
set_option maxHeartbeats 4000000 in
theorem own_8 (n : Nat) (ab : Option Addr) (nb cb : Nat) (text : ByteArray) (ht9 : text.size ≤ 1048576) (ak : Option Addr) (nk ck : Nat) (hb9 : nb ≤ 9223372036854775807) (hk9 : nk ≤ 9223372036854775807) (w : World) :
    Calls Try.prog 28 #[.agg (itCells 8 n ab nb cb text ak nk ck)] w fun e w' => e = .returned (.int .i64 (ownE 8 n nb text nk : Nat)) ∧ Below w.heap.size w w' := by
  have HB : Hid (Below w.heap.size w (w.alloc (.cells #[.int .i64 8, .int .u64 (n : Nat), .slice ab nb cb, .string text, .slice ak nk ck] 26))) := (Below.refl _ _).alloc (Nat.le_refl _) _
  have CW := Lib.hid (rwhole_calls text ht9)
  have hnt : ((⟨#[]⟩ : ByteArray).toList == []) = true := by rw [no_txt]; rfl
  have htx := no_txt text
  obtain ⟨tl, htl⟩ : ∃ q, q = text.size := ⟨_, rfl⟩
  have HTL : Hid (tl = text.size) := htl
  rw [← htl] at htx
  clear htl ht9
  by_cases h0 : nb = 0
  case neg =>
    have x5 : decide ((0 : Int) < (nb : Int)) = true := by simp; omega
    have x5n : 0 < nb := by omega
    have HE : Hid (ownE 8 n nb text nk = 1) := by show _ = _; unfold ownE; rw [if_neg (by omega), ← HTL.out]; rw [if_pos (by unfold fieldsB; simp [h0]; try omega)]
    go_enter Try.func28, Try.ntmps28
    go_wp2_with fail
    go_ret
    exact ⟨by rw [HE.out]; rfl, by first | with_reducible exact HB.out | exact (Below.refl _ _).alloc (Nat.le_refl _) _⟩
  by_cases h1 : tl = 0
  case neg =>
    have x3 : (text.toList == []) = false := by rw [htx]; simpa using h1
    have x3n : (text.toList != []) = true := by unfold bne; rw [x3]; rfl
    clear htx
    have HE : Hid (ownE 8 n nb text nk = 1) := by show _ = _; unfold ownE; rw [if_neg (by omega), ← HTL.out]; rw [if_pos (by unfold fieldsB; simp [h0, h1]; try omega)]
    go_enter Try.func28, Try.ntmps28
    go_wp2_with fail
    go_ret
    exact ⟨by rw [HE.out]; rfl, by first | with_reducible exact HB.out | exact (Below.refl _ _).alloc (Nat.le_refl _) _⟩
  have x3 : (text.toList == []) = true := by rw [htx]; simpa using h1
  have x3n : (text.toList != []) = false := by unfold bne; rw [x3]; rfl
  clear htx
  by_cases h2 : nk = 0
  case neg =>
    have x6 : decide ((0 : Int) < (nk : Int)) = true := by simp; omega
    have x6n : 0 < nk := by omega
    have HE : Hid (ownE 8 n nb text nk = 1) := by show _ = _; unfold ownE; rw [if_neg (by omega), ← HTL.out]; rw [if_pos (by unfold fieldsB; simp [h0, h1, h2]; try omega)]
    go_enter Try.func28, Try.ntmps28
    go_wp2_with fail
    go_ret
    exact ⟨by rw [HE.out]; rfl, by first | with_reducible exact HB.out | exact (Below.refl _ _).alloc (Nat.le_refl _) _⟩
  by_cases h3 : 20 ≤ n
  case neg =>
    have x1 : decide ((n : Int) < 20) = true := by simp; omega
    have x1n : n < 20 := by omega
    have HE : Hid (ownE 8 n nb text nk = 1) := by show _ = _; unfold ownE; rw [if_neg (by omega), ← HTL.out]; rw [if_pos (by unfold fieldsB; simp [h0, h1, h2, h3]; try omega)]
    go_enter Try.func28, Try.ntmps28
    go_wp2_with fail
    go_ret
    exact ⟨by rw [HE.out]; rfl, by first | with_reducible exact HB.out | exact (Below.refl _ _).alloc (Nat.le_refl _) _⟩
  have x1 : decide ((n : Int) < 20) = false := by simp; omega
  have x1n : decide (n < 20) = false := by simp; omega
  by_cases h4 : n ≤ 23
  case neg =>
    have x2 : decide ((23 : Int) < (n : Int)) = true := by simp; omega
    have x2n : 23 < n := by omega
    have HE : Hid (ownE 8 n nb text nk = 1) := by show _ = _; unfold ownE; rw [if_neg (by omega), ← HTL.out]; rw [if_pos (by unfold fieldsB; simp [h0, h1, h2, h3, h4]; try omega)]
    go_enter Try.func28, Try.ntmps28
    go_wp2_with fail
    go_ret
    exact ⟨by rw [HE.out]; rfl, by first | with_reducible exact HB.out | exact (Below.refl _ _).alloc (Nat.le_refl _) _⟩
  have x2 : decide ((23 : Int) < (n : Int)) = false := by simp; omega
  have x2n : decide (23 < n) = false := by simp; omega
  have HE : Hid (ownE 8 n nb text nk = if (wholeTo (sl text) == text.size) = false then 4 else 0) := by
    show _ = _
    unfold ownE
    rw [if_neg (by omega), if_neg]
    rw [← HTL.out]
    unfold fieldsB; simp [h0, h1, h2, h3, h4]
  generalize (wholeTo (sl text) == text.size) = b at CW HE
  go_enter Try.func28, Try.ntmps28
  go_wp2_with fail
  refine (CW.out _).mono ?_
  rintro e w1 ⟨rfl, hb1⟩
  have HB1 : Hid (Below w.heap.size w w1) := ((Below.refl w.heap.size w).alloc (Nat.le_refl _) _).trans (hb1.mono (by simp))
  clear hb1 CW
  cases b
  all_goals
    go_wp2_with fail
    go_ret
    exact ⟨by rw [HE.out]; rfl, HB1.out⟩

set_option maxRecDepth 100000 in
set_option maxHeartbeats 4000000 in
theorem own_9 (n : Nat) (ab : Option Addr) (nb cb : Nat) (text : ByteArray) (ht9 : text.size ≤ 1048576) (ak : Option Addr) (nk ck : Nat) (hb9 : nb ≤ 9223372036854775807) (hk9 : nk ≤ 9223372036854775807) (w : World) :
    Calls Try.prog 28 #[.agg (itCells 9 n ab nb cb text ak nk ck)] w fun e w' => e = .returned (.int .i64 (ownE 9 n nb text nk : Nat)) ∧ Below w.heap.size w w' := by
  have HB : Hid (Below w.heap.size w (w.alloc (.cells #[.int .i64 9, .int .u64 (n : Nat), .slice ab nb cb, .string text, .slice ak nk ck] 26))) := (Below.refl _ _).alloc (Nat.le_refl _) _
  have CW := Lib.hid (rwhole_calls text ht9)
  have hnt : ((⟨#[]⟩ : ByteArray).toList == []) = true := by rw [no_txt]; rfl
  have htx := no_txt text
  obtain ⟨tl, htl⟩ : ∃ q, q = text.size := ⟨_, rfl⟩
  have HTL : Hid (tl = text.size) := htl
  rw [← htl] at htx
  clear htl ht9
  by_cases h0 : nb = 0
  case neg =>
    have x5 : decide ((0 : Int) < (nb : Int)) = true := by simp; omega
    have x5n : 0 < nb := by omega
    have HE : Hid (ownE 9 n nb text nk = 1) := by show _ = _; unfold ownE; rw [if_neg (by omega), ← HTL.out]; rw [if_pos (by unfold fieldsB; simp [h0])]
    go_enter Try.func28, Try.ntmps28
    go_wp2_with fail
    go_ret
    exact ⟨by rw [HE.out]; rfl, by first | with_reducible exact HB.out | exact (Below.refl _ _).alloc (Nat.le_refl _) _⟩
  by_cases h1 : tl = 0
  case neg =>
    have x3 : (text.toList == []) = false := by rw [htx]; simpa using h1
    have x3n : (text.toList != []) = true := by unfold bne; rw [x3]; rfl
    clear htx
    have HE : Hid (ownE 9 n nb text nk = 1) := by show _ = _; unfold ownE; rw [if_neg (by omega), ← HTL.out]; rw [if_pos (by unfold fieldsB; simp [h0, h1])]
    go_enter Try.func28, Try.ntmps28
    go_wp2_with fail
    go_ret
    exact ⟨by rw [HE.out]; rfl, by first | with_reducible exact HB.out | exact (Below.refl _ _).alloc (Nat.le_refl _) _⟩
  have x3 : (text.toList == []) = true := by rw [htx]; simpa using h1
  have x3n : (text.toList != []) = false := by unfold bne; rw [x3]; rfl
  clear htx
  by_cases h2 : nk = 0
  case neg =>
    have x6 : decide ((0 : Int) < (nk : Int)) = true := by simp; omega
    have x6n : 0 < nk := by omega
    have HE : Hid (ownE 9 n nb text nk = 1) := by show _ = _; unfold ownE; rw [if_neg (by omega), ← HTL.out]; rw [if_pos (by unfold fieldsB; simp [h0, h1, h2])]
    go_enter Try.func28, Try.ntmps28
    go_wp2_with fail
    go_ret
    exact ⟨by rw [HE.out]; rfl, by first | with_reducible exact HB.out | exact (Below.refl _ _).alloc (Nat.le_refl _) _⟩
  have HE : Hid (ownE 9 n nb text nk = if (wholeTo (sl text) == text.size) = false then 4 else 0) := by
    show _ = _
    unfold ownE
    rw [if_neg (by omega), if_neg]
    rw [← HTL.out]
    unfold fieldsB; simp [h0, h1, h2]
  generalize (wholeTo (sl text) == text.size) = b at CW HE
  go_enter Try.func28, Try.ntmps28
  go_wp2_with fail
  refine (CW.out _).mono ?_
  rintro e w1 ⟨rfl, hb1⟩
  have HB1 : Hid (Below w.heap.size w w1) := ((Below.refl w.heap.size w).alloc (Nat.le_refl _) _).trans (hb1.mono (by simp))
  clear hb1 CW
  cases b
  all_goals
    go_wp2_with fail
    go_ret
    exact ⟨by rw [HE.out]; rfl, HB1.out⟩

set_option maxRecDepth 100000 in
set_option maxHeartbeats 4000000 in
theorem own_out (k : Int) (hk : k < 1 ∨ 9 < k) (n : Nat) (ab : Option Addr) (nb cb : Nat) (text : ByteArray) (ak : Option Addr) (nk ck : Nat) (w : World) :
    Calls Try.prog 28 #[.agg (itCells k n ab nb cb text ak nk ck)] w fun e w' => e = .returned (.int .i64 (ownE k n nb text nk : Nat)) ∧ Below w.heap.size w w' := by
  have HB : Hid (Below w.heap.size w (w.alloc (.cells #[.int .i64 k, .int .u64 (n : Nat), .slice ab nb cb, .string text, .slice ak nk ck] 26))) := (Below.refl _ _).alloc (Nat.le_refl _) _
  have HE : Hid (ownE k n nb text nk = 5) := by show _ = _; unfold ownE; rw [if_pos hk]
  have a3 : (k != 3) = true := by simp; omega
  have a4 : (k != 4) = true := by simp; omega
  have a5 : (k != 5) = true := by simp; omega
  have a6 : (k != 6) = true := by simp; omega
  by_cases h1 : k < 1
  · have d1 : decide (k < 1) = true := by simpa using h1
    clear hk
    go_enter Try.func28, Try.ntmps28
    go_wp2_with fail
    go_ret
    exact ⟨by rw [HE.out]; rfl, HB.out⟩
  · have d1 : decide (k < 1) = false := by simpa using h1
    have d2 : decide (9 < k) = true := by simp; omega
    clear hk
    go_enter Try.func28, Try.ntmps28
    go_wp2_with fail
    go_ret
    exact ⟨by rw [HE.out]; rfl, HB.out⟩

theorem own_calls (k : Int) (n : Nat) (ab : Option Addr) (nb cb : Nat) (text : ByteArray) (ht9 : text.size ≤ 1048576) (ak : Option Addr) (nk ck : Nat) (hb9 : nb ≤ 9223372036854775807) (hk9 : nk ≤ 9223372036854775807) (w : World) :
    Calls Try.prog 28 #[.agg (itCells k n ab nb cb text ak nk ck)] w fun e w' => e = .returned (.int .i64 (ownE k n nb text nk : Nat)) ∧ Below w.heap.size w w' := by
  by_cases hk : k < 1 ∨ 9 < k
  · exact own_out k hk n ab nb cb text ak nk ck w
  have : k = 1 ∨ k = 2 ∨ k = 3 ∨ k = 4 ∨ k = 5 ∨ k = 6 ∨ k = 7 ∨ k = 8 ∨ k = 9 := by omega
  rcases this with rfl | rfl | rfl | rfl | rfl | rfl | rfl | rfl | rfl
  · exact own_1 n ab nb cb text ht9 ak nk ck hb9 hk9 w
  · exact own_2 n ab nb cb text ht9 ak nk ck hb9 hk9 w
  · exact own_3 n ab nb cb text ht9 ak nk ck hb9 hk9 w
  · exact own_4 n ab nb cb text ht9 ak nk ck hb9 hk9 w
  · exact own_5 n ab nb cb text ht9 ak nk ck hb9 hk9 w
  · exact own_6 n ab nb cb text ht9 ak nk ck hb9 hk9 w
  · exact own_7 n ab nb cb text ht9 ak nk ck hb9 hk9 w
  · exact own_8 n ab nb cb text ht9 ak nk ck hb9 hk9 w
  · exact own_9 n ab nb cb text ht9 ak nk ck hb9 hk9 w

end Go.Proofs.Ytambhapgjonmmaa
