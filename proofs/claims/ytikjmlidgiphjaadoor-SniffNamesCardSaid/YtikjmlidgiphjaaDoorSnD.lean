/- The formats' names; the law's awake (chapter 32). -/
import Derived.Test.YtikjmlidgiphjaaDoorSnB
namespace Go.Proofs.YtikjmlidgiphjaaDoor
open Go.RowKit
set_option linter.unusedVariables false
set_option linter.unusedSimpArgs false

/-- A format's name. -/
def nameN (k : Int) : ByteArray := if k = 1 then ⟨#[98, 115, 111, 110]⟩ else if k = 2 then ⟨#[99, 97, 110, 111, 110, 105, 99, 97, 108]⟩ else if k = 3 then ⟨#[114, 101, 108, 97, 120, 101, 100]⟩ else if k = 4 then ⟨#[99, 98, 111, 114]⟩ else if k = 5 then ⟨#[109, 115, 103, 112, 97, 99, 107]⟩ else ⟨#[]⟩

set_option maxRecDepth 100000 in
set_option maxHeartbeats 4000000 in
theorem name_calls (k : Int) (w : World) : Calls Tryd.prog 10 #[.int .i64 k] w fun e w' => e = .returned (.string (nameN k)) ∧ w = w' := by
  by_cases h1 : k = 1
  · subst h1
    go_enter Tryd.func10, Tryd.ntmps10
    go_wp2_with fail
    go_ret
    exact ⟨rfl, rfl⟩
  by_cases h2 : k = 2
  · subst h2
    go_enter Tryd.func10, Tryd.ntmps10
    go_wp2_with fail
    go_ret
    exact ⟨rfl, rfl⟩
  by_cases h3 : k = 3
  · subst h3
    go_enter Tryd.func10, Tryd.ntmps10
    go_wp2_with fail
    go_ret
    exact ⟨rfl, rfl⟩
  by_cases h4 : k = 4
  · subst h4
    go_enter Tryd.func10, Tryd.ntmps10
    go_wp2_with fail
    go_ret
    exact ⟨rfl, rfl⟩
  by_cases h5 : k = 5
  · subst h5
    go_enter Tryd.func10, Tryd.ntmps10
    go_wp2_with fail
    go_ret
    exact ⟨rfl, rfl⟩
  have HN : Hid (nameN k = ⟨#[]⟩) := by show _ = _; unfold nameN; rw [if_neg h1, if_neg h2, if_neg h3, if_neg h4, if_neg h5]
  have b1 : (k == 1) = false := by simpa using h1
  have b2 : (k == 2) = false := by simpa using h2
  have b3 : (k == 3) = false := by simpa using h3
  have b4 : (k == 4) = false := by simpa using h4
  have b5 : (k == 5) = false := by simpa using h5
  clear h1 h2 h3 h4 h5
  go_enter Tryd.func10, Tryd.ntmps10
  go_wp2_with fail
  go_ret
  exact ⟨by rw [HN.out]; rfl, rfl⟩

set_option maxRecDepth 100000 in
set_option maxHeartbeats 4000000 in
theorem rname_calls (k : Int) (hk : -9223372036854775808 ≤ k ∧ k ≤ 9223372036854775807) (w : World) : Calls Tryd.prog 8 #[.int .i64 k] w fun e w' => e = .returned (.string (nameN k)) ∧ Below w.heap.size w w' := by
  have HB : Hid (∀ ob, Below w.heap.size w (w.alloc ob)) := Lib.hid (fun ob => (Below.refl _ _).alloc (Nat.le_refl _) ob)
  by_cases h0 : k < 0
  · have HN : Hid (nameN k = ⟨#[]⟩) := by show _ = _; unfold nameN; rw [if_neg (by omega), if_neg (by omega), if_neg (by omega), if_neg (by omega), if_neg (by omega)]
    have d0 : decide (k < 0) = true := by simpa using h0
    clear h0
    go_enter Tryd.func8, Tryd.ntmps8
    go_wp2_with fail
    go_ret
    exact ⟨by rw [HN.out]; rfl, HB.out _⟩
  by_cases h6 : 6 ≤ k
  · have HN : Hid (nameN k = ⟨#[]⟩) := by show _ = _; unfold nameN; rw [if_neg (by omega), if_neg (by omega), if_neg (by omega), if_neg (by omega), if_neg (by omega)]
    have d0 : decide (k < 0) = false := by simpa using h0
    have d6 : decide (6 ≤ k) = true := by simpa using h6
    clear h0 h6
    go_enter Tryd.func8, Tryd.ntmps8
    go_wp2_with fail
    go_ret
    exact ⟨by rw [HN.out]; rfl, HB.out _⟩
  have : k = 0 ∨ k = 1 ∨ k = 2 ∨ k = 3 ∨ k = 4 ∨ k = 5 := by omega
  clear h0 h6 hk
  rcases this with rfl | rfl | rfl | rfl | rfl | rfl
  all_goals
    go_enter Tryd.func8, Tryd.ntmps8
    go_wp2_with fail
    go_ret
    exact ⟨rfl, HB.out _⟩

/-- The format of a name; 0: none. -/
def formN (s : ByteArray) : Nat := if nameN 1 = s then 1 else if nameN 2 = s then 2 else if nameN 3 = s then 3 else if nameN 4 = s then 4 else if nameN 5 = s then 5 else 0
theorem tl_beq (x y : ByteArray) : (x.toList == y.toList) = decide (x = y) := by
  rw [ByteArray.toList_eq, ByteArray.toList_eq, Bool.eq_iff_iff]
  simp only [beq_iff_eq, decide_eq_true_eq]
  constructor
  · intro h
    obtain ⟨⟨a⟩⟩ := x
    obtain ⟨⟨b⟩⟩ := y
    have : a = b := h
    rw [this]
  · intro h; rw [h]
theorem name_ne (i j : Int) (hi : 1 ≤ i ∧ i ≤ 5) (hj : 1 ≤ j ∧ j ≤ 5) (h : nameN i = nameN j) : i = j := by
  have h1 : i = 1 ∨ i = 2 ∨ i = 3 ∨ i = 4 ∨ i = 5 := by omega
  have h2 : j = 1 ∨ j = 2 ∨ j = 3 ∨ j = 4 ∨ j = 5 := by omega
  rcases h1 with rfl | rfl | rfl | rfl | rfl <;> rcases h2 with rfl | rfl | rfl | rfl | rfl <;> first | rfl | exact absurd h (by decide)
/-- A name's format is the one. -/
theorem form_is (s : ByteArray) (i : Nat) (hi : 1 ≤ i ∧ i ≤ 5) (h : nameN i = s) : formN s = i := by
  subst h
  have : i = 1 ∨ i = 2 ∨ i = 3 ∨ i = 4 ∨ i = 5 := by omega
  rcases this with rfl | rfl | rfl | rfl | rfl <;> decide
theorem form_none (s : ByteArray) (h : ∀ i : Nat, 1 ≤ i → i ≤ 5 → ¬ nameN i = s) : formN s = 0 := by
  have h1 : ¬ nameN 1 = s := h 1 (by omega) (by omega)
  have h2 : ¬ nameN 2 = s := h 2 (by omega) (by omega)
  have h3 : ¬ nameN 3 = s := h 3 (by omega) (by omega)
  have h4 : ¬ nameN 4 = s := h 4 (by omega) (by omega)
  have h5 : ¬ nameN 5 = s := h 5 (by omega) (by omega)
  unfold formN
  rw [if_neg h1, if_neg h2, if_neg h3, if_neg h4, if_neg h5]

set_option maxRecDepth 100000 in
set_option maxHeartbeats 4000000 in
theorem format_calls (s : ByteArray) (w : World) : Calls Tryd.prog 9 #[.string s] w fun e w' => e = .returned (.tuple #[.int .i64 (formN s : Nat), .bool (decide (0 < formN s))]) ∧ w = w' := by
  have CN := Lib.hid name_calls
  obtain ⟨R, hR⟩ : ∃ R, R = formN s := ⟨_, rfl⟩
  rw [← hR]
  go_enter Tryd.func9, Tryd.ntmps9
  go_wp2_with fail
  go_loopw [4] (fun i wr => ∃ j : Nat, 1 ≤ j ∧ j ≤ 6 ∧ i = .int .i64 (j : Nat) ∧ Hid (∀ i : Nat, 1 ≤ i → i < j → ¬ nameN i = s) ∧ wr = w) (fun i _ => 6 - (intOf i).toNat)
  case atStart => exact ⟨1, by omega, by omega, rfl, Lib.hid (fun i h1 h2 => by omega), rfl⟩
  case round =>
    obtain ⟨j, hj1, hj6, rfl, hno, rfl⟩ := hrel
    by_cases h6 : j = 6
    · subst h6
      have HF : Hid (R = 0) := by show _ = _; rw [hR]; exact form_none s (fun i h1 h5 => hno.out i h1 (by omega))
      clear hR hno CN hj1 hj6
      go_wp2_with fail
      go_ret2
      exact ⟨by rw [HF.out]; rfl, rfl⟩
    have d5 : decide ((j : Int) ≤ 5) = true := by simp; omega
    have d5n : decide (j ≤ 5) = true := by simp; omega
    go_wp2_with fail
    refine (CN.out _ _).mono ?_
    rintro e w1 ⟨rfl, rfl⟩
    by_cases hs : nameN j = s
    · have HF : Hid (R = j) := by show _ = _; rw [hR]; exact form_is s j ⟨hj1, by omega⟩ hs
      have hb : ((nameN (j : Int)).toList == s.toList) = true := by rw [tl_beq]; simpa using hs
      generalize nameN (j : Int) = nm at hb
      have hp : decide (0 < j) = true := by simp; omega
      clear hR hno CN hs hj6 h6
      go_wp2_with fail
      go_ret2
      exact ⟨by rw [HF.out, hp]; rfl, rfl⟩
    · have hb : ((nameN (j : Int)).toList == s.toList) = false := by rw [tl_beq]; simpa using hs
      have wj : IntKind.i64.wrap ((j : Int) + 1) = ((j + 1 : Nat) : Int) := (IntWalk.i64_in _ (by omega)).trans (by omega)
      obtain ⟨j2, hj2⟩ : ∃ x, x = j + 1 := ⟨_, rfl⟩
      rw [← hj2] at wj
      have HJ : Hid (j < j2 ∧ 1 ≤ j2 ∧ j2 ≤ 6) := by show _ ∧ _; omega
      have HNO : Hid (∀ i : Nat, 1 ≤ i → i < j2 → ¬ nameN i = s) := by
        show ∀ i : Nat, _
        intro i h1 h2
        by_cases e : i = j
        · rw [e]; exact hs
        · exact hno.out i h1 (by omega)
      generalize nameN (j : Int) = nm at hb
      clear hR hno CN hs hj6 h6 hj2
      go_wp2_with fail
      go_roundw
      case rel => exact ⟨j2, HJ.out.2.1, HJ.out.2.2, rfl, HNO, trivial⟩
      case measure => have := HJ.out; simp only [intOf]; omega

theorem rd_new {w : World} {g n : Nat} {l : List UInt8} {t : TypeId} {fr : Nat × Nat} {C : Array Value} (hg : g = w.heap.size) (hn : l.length = n) (hm : n ≤ 1000000) (hC : ∀ i, i < n → C[i]? = some (.int .u8 (bAt l i : Nat))) : RdB (w.alloc (.cells C t fr)) (some ⟨g, 0, none⟩) n l := by
  refine ⟨hn, by omega, fun i hi => ⟨g, 0, rfl, ?_⟩⟩
  rw [hg, Nat.zero_add, World.cell?_alloc_mark]
  exact hC i hi
set_option maxRecDepth 100000 in
set_option maxHeartbeats 8000000 in
theorem awake32 (w : World) : Calls Tryd.prog 5 #[] w fun e w' => e = .returned (.bool true) ∧ Below w.heap.size w w' := by
  have kc := fun (w : World) (C : Array Value) (n c : Nat) => Lib.run_convert_bytes_const (P := Tryd.prog) w 22 5 C n c Tryd.underlying22 Tryd.underlying5
  have C1 : Hid (∀ W, RdB W (some ⟨w.heap.size, 0, none⟩) 5 [5, 0, 0, 0, 0] → Calls Tryd.prog 6 #[.slice (some ⟨w.heap.size, 0, none⟩) 5 5] W fun e w' => e = .returned (.int .i64 1) ∧ Below W.heap.size W w') := Lib.hid (fun W hW => guess_calls _ 5 5 [5, 0, 0, 0, 0] W hW (by omega) (by omega) (by omega))
  have C2 : Hid (∀ W g, RdB W (some ⟨g, 0, none⟩) 2 [32, 123] → Calls Tryd.prog 6 #[.slice (some ⟨g, 0, none⟩) 2 2] W fun e w' => e = .returned (.int .i64 2) ∧ Below W.heap.size W w') := Lib.hid (fun W g hW => guess_calls _ 2 2 [32, 123] W hW (by omega) (by omega) (by omega))
  have CN := Lib.hid (name_calls 5)
  have hnm : ((nameN 5).toList == [109, 115, 103, 112, 97, 99, 107]) = true := by rw [ByteArray.toList_eq]; decide
  generalize nameN 5 = nm at CN hnm
  have hr1 : RdB (w.alloc (.cells #[.int .u8 5, .int .u8 0, .int .u8 0, .int .u8 0, .int .u8 0] 5)) (some ⟨w.heap.size, 0, none⟩) 5 [5, 0, 0, 0, 0] := rd_new rfl rfl (by omega) (fun i hi => by
    have : i = 0 ∨ i = 1 ∨ i = 2 ∨ i = 3 ∨ i = 4 := by omega
    rcases this with rfl | rfl | rfl | rfl | rfl <;> rfl)
  have HR1 := Lib.hid hr1
  clear hr1
  go_enter Tryd.func5, Tryd.ntmps5
  go_wp2_with fail
  refine (C1.out _ HR1.out).mono ?_
  rintro e w1 ⟨rfl, hb1⟩
  have HB1 : Hid (Below w.heap.size w w1) := ((Below.refl w.heap.size w).alloc (Nat.le_refl _) _).trans (hb1.mono (by simp))
  clear hb1
  obtain ⟨gb, hgb⟩ : ∃ g, g = w1.heap.size := ⟨_, rfl⟩
  have HGB := Lib.hid hgb
  have hr2 : RdB (w1.alloc (.cells #[.int .u8 32, .int .u8 123] 5 (2, 3))) (some ⟨gb, 0, none⟩) 2 [32, 123] := rd_new hgb rfl (by omega) (fun i hi => by
    have : i = 0 ∨ i = 1 := by omega
    rcases this with rfl | rfl <;> rfl)
  obtain ⟨w2, hw2⟩ : ∃ W, W = w1.alloc (.cells #[.int .u8 32, .int .u8 123] 5 (2, 3)) := ⟨_, rfl⟩
  rw [← hw2] at hr2
  have HR2 := Lib.hid hr2
  have HB2 : Hid (Below w.heap.size w w2) := by show Below _ _ _; rw [hw2]; exact HB1.out.alloc HB1.out.size _
  have HW2 := Lib.hid hw2
  clear hr2 hw2 hgb
  go_wp2_with fail
  rw [← HGB.out, ← HW2.out]
  refine (C2.out _ gb HR2.out).mono ?_
  rintro e w3 ⟨rfl, hb3⟩
  have HB3 : Hid (Below w.heap.size w w3) := HB2.out.trans (hb3.mono HB2.out.size)
  clear hb3
  go_wp2_with fail
  refine (CN.out _).mono ?_
  rintro e w4 ⟨rfl, rfl⟩
  go_wp2_with fail
  go_ret
  exact ⟨rfl, HB3.out⟩

end Go.Proofs.YtikjmlidgiphjaaDoor
