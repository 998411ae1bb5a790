/- lex.plain and lex.number, walked. -/
import Derived.Test.YtamhdoijmkjngaaLexE
namespace Go.Proofs.Ytamhdoijmkjngaa
open Go.RowKit
set_option linter.unusedVariables false
set_option linter.unusedSimpArgs false

/-- The first word that stands ahead: its kind, its length. -/
def plainL : List (Nat × List UInt8) → List UInt8 → Nat × Nat
  | [], _ => (0, 0)
  | (k, w) :: r, l => if pre w l = true then (k, w.length) else plainL r l
def words : List (Nat × List UInt8) := [(2, [123]), (3, [125]), (4, [91]), (5, [93]), (6, [58]), (7, [44]), (10, [116, 114, 117, 101]), (11, [102, 97, 108, 115, 101]), (12, [110, 117, 108, 108])]
def plainN (l : List UInt8) : Nat × Nat := plainL words l

set_option maxRecDepth 100000 in
set_option maxHeartbeats 4000000 in
theorem plain_calls (s : ByteArray) (hs : s.size ≤ 1000000) (w : World) :
    Calls Try.prog 46 #[.string s] w fun e w' => e = .returned (.tuple #[.int .i64 (((plainN (sl s)).1 : Nat) : Int), .int .i64 (((plainN (sl s)).2 : Nat) : Int)]) ∧ w = w' := by
  obtain ⟨R, hR⟩ : ∃ R, R = plainN (sl s) := ⟨_, rfl⟩
  rw [← hR]
  have HR := Lib.hid hR
  clear hR
  have i0 : ∀ w, (Instr.index 92 (.agg #[.string { data := #[123] }, .string { data := #[125] }, .string { data := #[91] }, .string { data := #[93] }, .string { data := #[58] }, .string { data := #[44] }]) (.int .i64 0)).run Try.prog w = .ok (.string { data := #[123] }) w := fun _ => by kernel_rfl
  have i1 : ∀ w, (Instr.index 92 (.agg #[.string { data := #[123] }, .string { data := #[125] }, .string { data := #[91] }, .string { data := #[93] }, .string { data := #[58] }, .string { data := #[44] }]) (.int .i64 1)).run Try.prog w = .ok (.string { data := #[125] }) w := fun _ => by kernel_rfl
  have i2 : ∀ w, (Instr.index 92 (.agg #[.string { data := #[123] }, .string { data := #[125] }, .string { data := #[91] }, .string { data := #[93] }, .string { data := #[58] }, .string { data := #[44] }]) (.int .i64 2)).run Try.prog w = .ok (.string { data := #[91] }) w := fun _ => by kernel_rfl
  have i3 : ∀ w, (Instr.index 92 (.agg #[.string { data := #[123] }, .string { data := #[125] }, .string { data := #[91] }, .string { data := #[93] }, .string { data := #[58] }, .string { data := #[44] }]) (.int .i64 3)).run Try.prog w = .ok (.string { data := #[93] }) w := fun _ => by kernel_rfl
  have i4 : ∀ w, (Instr.index 92 (.agg #[.string { data := #[123] }, .string { data := #[125] }, .string { data := #[91] }, .string { data := #[93] }, .string { data := #[58] }, .string { data := #[44] }]) (.int .i64 4)).run Try.prog w = .ok (.string { data := #[58] }) w := fun _ => by kernel_rfl
  have i5 : ∀ w, (Instr.index 92 (.agg #[.string { data := #[123] }, .string { data := #[125] }, .string { data := #[91] }, .string { data := #[93] }, .string { data := #[58] }, .string { data := #[44] }]) (.int .i64 5)).run Try.prog w = .ok (.string { data := #[44] }) w := fun _ => by kernel_rfl
  have j0 : ∀ w, (Instr.index 93 (.agg #[.string { data := #[116, 114, 117, 101] }, .string { data := #[102, 97, 108, 115, 101] }, .string { data := #[110, 117, 108, 108] }]) (.int .i64 0)).run Try.prog w = .ok (.string { data := #[116, 114, 117, 101] }) w := fun _ => by kernel_rfl
  have j1 : ∀ w, (Instr.index 93 (.agg #[.string { data := #[116, 114, 117, 101] }, .string { data := #[102, 97, 108, 115, 101] }, .string { data := #[110, 117, 108, 108] }]) (.int .i64 1)).run Try.prog w = .ok (.string { data := #[102, 97, 108, 115, 101] }) w := fun _ => by kernel_rfl
  have j2 : ∀ w, (Instr.index 93 (.agg #[.string { data := #[116, 114, 117, 101] }, .string { data := #[102, 97, 108, 115, 101] }, .string { data := #[110, 117, 108, 108] }]) (.int .i64 2)).run Try.prog w = .ok (.string { data := #[110, 117, 108, 108] }) w := fun _ => by kernel_rfl
  go_enter Try.func46, Try.ntmps46
  go_wp2_with fail
  go_loop [4, 5, 9] (fun _ _ x => ∃ i : Nat, x = .int .i64 i ∧ i ≤ 6 ∧ Hid (R = plainL (words.drop i) (sl s))) (fun _ _ x => 6 - (intOf x).toNat)
  case atStart => exact ⟨0, rfl, by omega, HR⟩
  case round =>
    obtain ⟨i, rfl, hi, hz⟩ := hrel
    have hcase : i = 0 ∨ i = 1 ∨ i = 2 ∨ i = 3 ∨ i = 4 ∨ i = 5 ∨ i = 6 := by omega
    rcases hcase with rfl | rfl | rfl | rfl | rfl | rfl | rfl
    · rcases Bool.eq_false_or_eq_true (pre [123] (sl s)) with hb | hb
      · have C := Lib.hid (hasp_calls s ⟨#[123]⟩ true hb w)
        have HN : Hid (R = (2, 1)) := by
          have := hz.out
          simp only [words, List.drop_succ_cons, List.drop_zero, plainL, hb, if_true] at this
          exact this
        clear hb
        go_wp2_with fail
        refine C.out.mono ?_
        rintro e w' ⟨rfl, rfl⟩
        go_wp2_with fail
        go_ret2
        exact ⟨by rw [HN.out]; rfl, rfl⟩
      · have C := Lib.hid (hasp_calls s ⟨#[123]⟩ false hb w)
        have HN : Hid (R = plainL (words.drop (0 + 1)) (sl s)) := by
          have := hz.out
          simp only [words, List.drop_succ_cons, List.drop_zero, plainL, hb, Bool.false_eq_true, if_false] at this
          exact this
        clear hb
        go_wp2_with fail
        refine C.out.mono ?_
        rintro e w' ⟨rfl, rfl⟩
        go_wp2_with fail
        go_round
        case rel => exact ⟨1, rfl, by omega, HN⟩
        case measure => simp [intOf]
    · rcases Bool.eq_false_or_eq_true (pre [125] (sl s)) with hb | hb
      · have C := Lib.hid (hasp_calls s ⟨#[125]⟩ true hb w)
        have HN : Hid (R = (3, 1)) := by
          have := hz.out
          simp only [words, List.drop_succ_cons, List.drop_zero, plainL, hb, if_true] at this
          exact this
        clear hb
        go_wp2_with fail
        refine C.out.mono ?_
        rintro e w' ⟨rfl, rfl⟩
        go_wp2_with fail
        go_ret2
        exact ⟨by rw [HN.out]; rfl, rfl⟩
      · have C := Lib.hid (hasp_calls s ⟨#[125]⟩ false hb w)
        have HN : Hid (R = plainL (words.drop (1 + 1)) (sl s)) := by
          have := hz.out
          simp only [words, List.drop_succ_cons, List.drop_zero, plainL, hb, Bool.false_eq_true, if_false] at this
          exact this
        clear hb
        go_wp2_with fail
        refine C.out.mono ?_
        rintro e w' ⟨rfl, rfl⟩
        go_wp2_with fail
        go_round
        case rel => exact ⟨2, rfl, by omega, HN⟩
        case measure => simp [intOf]
    · rcases Bool.eq_false_or_eq_true (pre [91] (sl s)) with hb | hb
      · have C := Lib.hid (hasp_calls s ⟨#[91]⟩ true hb w)
        have HN : Hid (R = (4, 1)) := by
          have := hz.out
          simp only [words, List.drop_succ_cons, List.drop_zero, plainL, hb, if_true] at this
          exact this
        clear hb
        go_wp2_with fail
        refine C.out.mono ?_
        rintro e w' ⟨rfl, rfl⟩
        go_wp2_with fail
        go_ret2
        exact ⟨by rw [HN.out]; rfl, rfl⟩
      · have C := Lib.hid (hasp_calls s ⟨#[91]⟩ false hb w)
        have HN : Hid (R = plainL (words.drop (2 + 1)) (sl s)) := by
          have := hz.out
          simp only [words, List.drop_succ_cons, List.drop_zero, plainL, hb, Bool.false_eq_true, if_false] at this
          exact this
        clear hb
        go_wp2_with fail
        refine C.out.mono ?_
        rintro e w' ⟨rfl, rfl⟩
        go_wp2_with fail
        go_round
        case rel => exact ⟨3, rfl, by omega, HN⟩
        case measure => simp [intOf]
    · rcases Bool.eq_false_or_eq_true (pre [93] (sl s)) with hb | hb
      · have C := Lib.hid (hasp_calls s ⟨#[93]⟩ true hb w)
        have HN : Hid (R = (5, 1)) := by
          have := hz.out
          simp only [words, List.drop_succ_cons, List.drop_zero, plainL, hb, if_true] at this
          exact this
        clear hb
        go_wp2_with fail
        refine C.out.mono ?_
        rintro e w' ⟨rfl, rfl⟩
        go_wp2_with fail
        go_ret2
        exact ⟨by rw [HN.out]; rfl, rfl⟩
      · have C := Lib.hid (hasp_calls s ⟨#[93]⟩ false hb w)
        have HN : Hid (R = plainL (words.drop (3 + 1)) (sl s)) := by
          have := hz.out
          simp only [words, List.drop_succ_cons, List.drop_zero, plainL, hb, Bool.false_eq_true, if_false] at this
          exact this
        clear hb
        go_wp2_with fail
        refine C.out.mono ?_
        rintro e w' ⟨rfl, rfl⟩
        go_wp2_with fail
        go_round
        case rel => exact ⟨4, rfl, by omega, HN⟩
        case measure => simp [intOf]
    · rcases Bool.eq_false_or_eq_true (pre [58] (sl s)) with hb | hb
      · have C := Lib.hid (hasp_calls s ⟨#[58]⟩ true hb w)
        have HN : Hid (R = (6, 1)) := by
          have := hz.out
          simp only [words, List.drop_succ_cons, List.drop_zero, plainL, hb, if_true] at this
          exact this
        clear hb
        go_wp2_with fail
        refine C.out.mono ?_
        rintro e w' ⟨rfl, rfl⟩
        go_wp2_with fail
        go_ret2
        exact ⟨by rw [HN.out]; rfl, rfl⟩
      · have C := Lib.hid (hasp_calls s ⟨#[58]⟩ false hb w)
        have HN : Hid (R = plainL (words.drop (4 + 1)) (sl s)) := by
          have := hz.out
          simp only [words, List.drop_succ_cons, List.drop_zero, plainL, hb, Bool.false_eq_true, if_false] at this
          exact this
        clear hb
        go_wp2_with fail
        refine C.out.mono ?_
        rintro e w' ⟨rfl, rfl⟩
        go_wp2_with fail
        go_round
        case rel => exact ⟨5, rfl, by omega, HN⟩
        case measure => simp [intOf]
    · rcases Bool.eq_false_or_eq_true (pre [44] (sl s)) with hb | hb
      · have C := Lib.hid (hasp_calls s ⟨#[44]⟩ true hb w)
        have HN : Hid (R = (7, 1)) := by
          have := hz.out
          simp only [words, List.drop_succ_cons, List.drop_zero, plainL, hb, if_true] at this
          exact this
        clear hb
        go_wp2_with fail
        refine C.out.mono ?_
        rintro e w' ⟨rfl, rfl⟩
        go_wp2_with fail
        go_ret2
        exact ⟨by rw [HN.out]; rfl, rfl⟩
      · have C := Lib.hid (hasp_calls s ⟨#[44]⟩ false hb w)
        have HN : Hid (R = plainL (words.drop (5 + 1)) (sl s)) := by
          have := hz.out
          simp only [words, List.drop_succ_cons, List.drop_zero, plainL, hb, Bool.false_eq_true, if_false] at this
          exact this
        clear hb
        go_wp2_with fail
        refine C.out.mono ?_
        rintro e w' ⟨rfl, rfl⟩
        go_wp2_with fail
        go_round
        case rel => exact ⟨6, rfl, by omega, HN⟩
        case measure => simp [intOf]
    · go_wp2_with fail
      go_loop [6, 7, 20] (fun _ _ x => ∃ i : Nat, x = .int .i64 i ∧ i ≤ 3 ∧ Hid (R = plainL (words.drop (6 + i)) (sl s))) (fun _ _ x => 3 - (intOf x).toNat)
      case atStart => exact ⟨0, rfl, by omega, hz⟩
      case round =>
        obtain ⟨i, rfl, hi, hz⟩ := hrel
        have hcase : i = 0 ∨ i = 1 ∨ i = 2 ∨ i = 3 := by omega
        rcases hcase with rfl | rfl | rfl | rfl
        · rcases Bool.eq_false_or_eq_true (pre [116, 114, 117, 101] (sl s)) with hb | hb
          · have C := Lib.hid (hasp_calls s ⟨#[116, 114, 117, 101]⟩ true hb w)
            have HN : Hid (R = (10, 4)) := by
              have := hz.out
              simp only [words, List.drop_succ_cons, List.drop_zero, plainL, hb, if_true] at this
              exact this
            clear hb
            go_wp2_with fail
            refine C.out.mono ?_
            rintro e w' ⟨rfl, rfl⟩
            go_wp2_with fail
            go_ret2
            exact ⟨by rw [HN.out]; rfl, rfl⟩
          · have C := Lib.hid (hasp_calls s ⟨#[116, 114, 117, 101]⟩ false hb w)
            have HN : Hid (R = plainL (words.drop (6 + 1)) (sl s)) := by
              have := hz.out
              simp only [words, List.drop_succ_cons, List.drop_zero, plainL, hb, Bool.false_eq_true, if_false] at this
              exact this
            clear hb
            go_wp2_with fail
            refine C.out.mono ?_
            rintro e w' ⟨rfl, rfl⟩
            go_wp2_with fail
            go_round
            case rel => exact ⟨1, rfl, by omega, HN⟩
            case measure => simp [intOf]
        · rcases Bool.eq_false_or_eq_true (pre [102, 97, 108, 115, 101] (sl s)) with hb | hb
          · have C := Lib.hid (hasp_calls s ⟨#[102, 97, 108, 115, 101]⟩ true hb w)
            have HN : Hid (R = (11, 5)) := by
              have := hz.out
              simp only [words, List.drop_succ_cons, List.drop_zero, plainL, hb, if_true] at this
              exact this
            clear hb
            go_wp2_with fail
            refine C.out.mono ?_
            rintro e w' ⟨rfl, rfl⟩
            go_wp2_with fail
            go_ret2
            exact ⟨by rw [HN.out]; rfl, rfl⟩
          · have C := Lib.hid (hasp_calls s ⟨#[102, 97, 108, 115, 101]⟩ false hb w)
            have HN : Hid (R = plainL (words.drop (7 + 1)) (sl s)) := by
              have := hz.out
              simp only [words, List.drop_succ_cons, List.drop_zero, plainL, hb, Bool.false_eq_true, if_false] at this
              exact this
            clear hb
            go_wp2_with fail
            refine C.out.mono ?_
            rintro e w' ⟨rfl, rfl⟩
            go_wp2_with fail
            go_round
            case rel => exact ⟨2, rfl, by omega, HN⟩
            case measure => simp [intOf]
        · rcases Bool.eq_false_or_eq_true (pre [110, 117, 108, 108] (sl s)) with hb | hb
          · have C := Lib.hid (hasp_calls s ⟨#[110, 117, 108, 108]⟩ true hb w)
            have HN : Hid (R = (12, 4)) := by
              have := hz.out
              simp only [words, List.drop_succ_cons, List.drop_zero, plainL, hb, if_true] at this
              exact this
            clear hb
            go_wp2_with fail
            refine C.out.mono ?_
            rintro e w' ⟨rfl, rfl⟩
            go_wp2_with fail
            go_ret2
            exact ⟨by rw [HN.out]; rfl, rfl⟩
          · have C := Lib.hid (hasp_calls s ⟨#[110, 117, 108, 108]⟩ false hb w)
            have HN : Hid (R = plainL (words.drop (8 + 1)) (sl s)) := by
              have := hz.out
              simp only [words, List.drop_succ_cons, List.drop_zero, plainL, hb, Bool.false_eq_true, if_false] at this
              exact this
            clear hb
            go_wp2_with fail
            refine C.out.mono ?_
            rintro e w' ⟨rfl, rfl⟩
            go_wp2_with fail
            go_round
            case rel => exact ⟨3, rfl, by omega, HN⟩
            case measure => simp [intOf]
        · have HN : Hid (R = (0, 0)) := hz
          go_wp2_with fail
          go_ret2
          exact ⟨by rw [HN.out]; rfl, rfl⟩

end Go.Proofs.Ytamhdoijmkjngaa
