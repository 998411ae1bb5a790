/- LexBlanks: the walk. -/
import Derived.Test.YtamhdoijmkjngaaLexO
namespace Go.Proofs.Ytamhdoijmkjngaa
open Go.RowKit
set_option linter.unusedVariables false
set_option linter.unusedSimpArgs false

theorem and_3u : ∀ y : Fin 256, bits BinOp.and IntKind.u8 ((y : Nat) : Int) 3 = (((y : Nat) % 4 : Nat) : Int) := by decide +kernel

def BlanksOnly (b : ByteArray) : Prop := ∀ c ∈ sl b, blank c = true

theorem blanks_add {b : ByteArray} (h : BlanksOnly b) (m : Nat) (hm : m < 4) : BlanksOnly (b ++ (ByteArray.mk #[32, 9, 13, 10]).extract m (m + 1)) ∧ (b ++ (ByteArray.mk #[32, 9, 13, 10]).extract m (m + 1)).size = b.size + 1 := by
  have e : sl (b ++ (ByteArray.mk #[32, 9, 13, 10]).extract m (m + 1)) = sl b ++ sl ((ByteArray.mk #[32, 9, 13, 10]).extract m (m + 1)) := by
    unfold sl; simp
  have k : ∃ c, sl ((ByteArray.mk #[32, 9, 13, 10]).extract m (m + 1)) = [c] ∧ blank c = true := by
    have : m = 0 ∨ m = 1 ∨ m = 2 ∨ m = 3 := by omega
    rcases this with rfl | rfl | rfl | rfl
    · exact ⟨32, by decide, by decide⟩
    · exact ⟨9, by decide, by decide⟩
    · exact ⟨13, by decide, by decide⟩
    · exact ⟨10, by decide, by decide⟩
  obtain ⟨c, hc, hb⟩ := k
  refine ⟨?_, ?_⟩
  · intro x hx
    rw [e, hc] at hx
    rcases List.mem_append.1 hx with hx | hx
    · exact h x hx
    · simp at hx; rw [hx]; exact hb
  · rw [← sl_len, e, hc, List.length_append, sl_len]; rfl

theorem nextI_zero (l : List UInt8) : nextI l 0 = nextS l := by
  have h := nextI_nat l 0
  rw [Int.natCast_zero] at h
  rw [h]
  unfold nextAt
  rw [if_neg (by omega), List.drop_zero]
  cases nextS l <;> simp [LexR.shift]

theorem lex_keep {w2 w3 : World} {c0 c1 c2 c3 d0 d1 d2 : Value} {T F : TypeId} (hb : Below ((w2.alloc (.cells #[c0, c1, c2, c3] T)).alloc (.cells #[d0, d1, d2] F)).heap.size ((w2.alloc (.cells #[c0, c1, c2, c3] T)).alloc (.cells #[d0, d1, d2] F)) w3) :
    w3.cell? ⟨w2.heap.size, 0, none⟩ = some c0 ∧ w3.cell? ⟨w2.heap.size, 1, none⟩ = some c1 ∧ w3.cell? ⟨w2.heap.size, 2, none⟩ = some c2 ∧ w3.cell? ⟨w2.heap.size, 3, none⟩ = some c3 ∧
    w3.cell? ⟨w2.heap.size + 1, 0, none⟩ = some d0 ∧ w3.cell? ⟨w2.heap.size + 1, 1, none⟩ = some d1 ∧ w3.cell? ⟨w2.heap.size + 1, 2, none⟩ = some d2 ∧ w2.heap.size + 2 ≤ w3.heap.size := by
  refine ⟨?_, ?_, ?_, ?_, ?_, ?_, ?_, ?_⟩
  · rw [hb.cell (p := ⟨w2.heap.size, 0, none⟩) (by simp; omega)]; simp [go_sem]
  · rw [hb.cell (p := ⟨w2.heap.size, 1, none⟩) (by simp; omega)]; simp [go_sem]
  · rw [hb.cell (p := ⟨w2.heap.size, 2, none⟩) (by simp; omega)]; simp [go_sem]
  · rw [hb.cell (p := ⟨w2.heap.size, 3, none⟩) (by simp; omega)]; simp [go_sem]
  · rw [hb.cell (p := ⟨w2.heap.size + 1, 0, none⟩) (by simp)]; simp [go_sem]
  · rw [hb.cell (p := ⟨w2.heap.size + 1, 1, none⟩) (by simp)]; simp [go_sem]
  · rw [hb.cell (p := ⟨w2.heap.size + 1, 2, none⟩) (by simp)]; simp [go_sem]
  · have := hb.size; simp at this; exact this

theorem cell_two {w : World} {p : Addr} {v : Value} (h : w.cell? p = some v) (o1 o2 : Obj) : ((w.alloc o1).alloc o2).cell? p = some v := by
  have hb := ((Below.refl w.heap.size w).alloc (Nat.le_refl _) o1).alloc (by simp) o2
  rw [hb.cell (cell_block h)]
  exact h

theorem lex_keep_below {w w2 w3 : World} {o1 o2 : Obj} (h : Below w.heap.size w w2) (hb : Below ((w2.alloc o1).alloc o2).heap.size ((w2.alloc o1).alloc o2) w3) : Below w.heap.size w w3 :=
  ((h.alloc h.size _).alloc (by have := h.size; simp; omega) _).trans (hb.mono (by have := h.size; simp; omega))

set_option maxRecDepth 100000 in
set_option maxHeartbeats 8000000 in
theorem LexBlanks_walk (w : World) (s : ByteArray) (hs9 : s.size ≤ 9223372036854775807) (a : Option Addr) (len cap : Nat) (l : List UInt8) (h : RdB w a len l) :
    Calls Try.prog 8 #[.string s, .slice a len cap] w fun e w' => e = .returned (.bool true) ∧ Below w.heap.size w w' := by
  have CA := fun W => Lib.hid (awake22 W)
  have hm := h.2.1
  have H := Lib.hid h
  clear h
  by_cases h3 : 300 < s.size
  · have d3 : decide ((300 : Int) < (s.size : Int)) = true := by simp; omega
    go_enter Try.func8, Try.ntmps8
    go_wp2_with fail
    refine (CA _).out.mono ?_
    rintro e w1 ⟨rfl, hb1⟩
    go_wp2_with fail
    go_ret
    exact ⟨rfl, hb1⟩
  have d3 : decide ((300 : Int) < (s.size : Int)) = false := by simp; omega
  by_cases h4 : 50 < len
  · have d4 : decide ((50 : Int) < (len : Int)) = true := by simp; omega
    go_enter Try.func8, Try.ntmps8
    go_wp2_with fail
    refine (CA _).out.mono ?_
    rintro e w1 ⟨rfl, hb1⟩
    go_wp2_with fail
    go_ret
    exact ⟨rfl, hb1⟩
  have d4 : decide ((50 : Int) < (len : Int)) = false := by simp; omega
  have hs : s.size ≤ 300 := by omega
  have hl5 : len ≤ 50 := by omega
  go_enter Try.func8, Try.ntmps8
  go_wp2_with fail
  refine (CA _).out.mono ?_
  rintro e w1 ⟨rfl, hb1⟩
  have HB1 := Lib.hid hb1
  clear hb1
  go_wp2_with fail
  go_loopw [5, 7] (fun x y wr => ∃ b : ByteArray, x = .string b ∧ y = .int .i64 b.size ∧ b.size ≤ len ∧ Hid (BlanksOnly b) ∧ Hid (Below w.heap.size w wr)) (fun _ y _ => len - (intOf y).toNat)
  case atStart => exact ⟨⟨#[]⟩, rfl, rfl, Nat.zero_le _, Lib.hid (fun c hc => by simp [sl] at hc), HB1⟩
  case round =>
    obtain ⟨b, rfl, rfl, hbl, HK, HB⟩ := hrel
    by_cases hlt : b.size < len
    · obtain ⟨b0, o0, rfl, hc⟩ := (H.out.keep HB.out).at b.size hlt
      have hy := bAt_lt l b.size
      generalize bAt l b.size = y at hc hy
      have qa := and_3u ⟨y, hy⟩
      simp only at qa
      have hm4 : y % 4 < 4 := Nat.mod_lt _ (by omega)
      generalize y % 4 = m at qa hm4
      have ADD := Lib.hid (blanks_add HK.out m hm4)
      have hm4' : m = 0 ∨ m = 1 ∨ m = 2 ∨ m = 3 := by omega
      rcases hm4' with rfl | rfl | rfl | rfl
      all_goals
        go_wp2_with fail
        go_quiet (fail)
        go_wp2_with fail
        go_roundw
        case rel => exact ⟨_, rfl, by rw [ADD.out.2]; simp, by rw [ADD.out.2]; omega, Lib.hid ADD.out.1, Lib.hid (HB.out.trans (below_drewN _ _ _))⟩
        case measure => simp [intOf]; omega
    · have CN := fun W => Lib.hid (next_calls s (by omega) 0 (by omega) W)
      have CB := fun W => Lib.hid (next_calls (b ++ s) (by rw [ByteArray.size_append]; omega) 0 (by omega) W)
      have e2 : sl (b ++ s) = sl b ++ sl s := by unfold sl; simp
      have hbd := nextAt_bd (sl s) 0 (by omega)
      have hz := nextI_nat (sl s) 0
      rw [Int.natCast_zero, nextI_zero] at hz
      rw [← hz, sl_len] at hbd
      have hnx := next_blanks (sl b) (sl s) HK.out
      rw [nextI_zero] at CN
      rw [nextI_zero, e2, hnx, sl_len] at CB
      have herr := nextI_err (sl s) 0
      rw [nextI_zero] at herr
      obtain ⟨R, hR⟩ : ∃ R, nextS (sl s) = R := ⟨_, rfl⟩
      rw [hR] at CN CB hbd herr
      clear hR hz hnx e2
      have hb50 : b.size ≤ 50 := by omega
      cases R with
      | err x a' =>
        simp only [NextOk] at hbd
        obtain ⟨b1, b2⟩ := hbd
        have hx := herr x a' rfl
        have e1 : ((x : Int) != 0) = true := by simp; omega
        have e1' : ((x : Int) == 0) = false := by simp; omega
        simp only [LexR.shift] at CB
        obtain ⟨A, hA⟩ : ∃ A : Nat, A = b.size + a' := ⟨_, rfl⟩
        rw [← hA] at CB
        have e3 : ((A : Int) != (a' : Int) + b.size) = false := by simp; omega
        clear herr hx hA
        go_wp2_with fail
        refine (CN _).out.mono ?_
        rintro e w2 ⟨rfl, hb2⟩
        have HB2 := Lib.hid (HB.out.trans (hb2.mono HB.out.size))
        clear hb2
        simp only [tokV, errV]
        go_wp2_with fail
        refine (CB _).out.mono ?_
        rintro e w3 ⟨rfl, hb3⟩
        have HB3 := Lib.hid (lex_keep_below HB2.out hb3)
        obtain ⟨k0, k1, k2, k3, k4, k5, k6, k7⟩ := lex_keep hb3
        have j0 := cell_two k0
        have j1 := cell_two k1
        have j2 := cell_two k2
        have j3 := cell_two k3
        have j4 := cell_two k4
        have j5 := cell_two k5
        have j6 := cell_two k6
        clear hb3 k0 k1 k2 k3 k4 k5 k6
        simp only [tokV, errV]
        go_wp2_with fail
        go_ret
        exact ⟨rfl, (HB3.out.alloc (HB3.out.size) _).alloc (by have := HB3.out.size; simp; omega) _⟩
      | tok k a' e t =>
        simp only [NextOk] at hbd
        obtain ⟨b1, b2, b3, b4, b5⟩ := hbd
        have ha9 : a' ≤ 300 := by
          by_cases hk : k = 1
          · have := b3 hk; omega
          · have := b4 hk; omega
        simp only [LexR.shift] at CB
        obtain ⟨A, hA⟩ : ∃ A : Nat, A = b.size + a' := ⟨_, rfl⟩
        obtain ⟨E, hE⟩ : ∃ E : Nat, E = b.size + e := ⟨_, rfl⟩
        rw [← hA, ← hE] at CB
        have e3 : ((A : Int) == (a' : Int) + b.size) = true := by simp; omega
        have e4 : ((E : Int) == (e : Int) + b.size) = true := by simp; omega
        clear herr hA hE b3 b4
        go_wp2_with fail
        refine (CN _).out.mono ?_
        rintro e w2 ⟨rfl, hb2⟩
        have HB2 := Lib.hid (HB.out.trans (hb2.mono HB.out.size))
        clear hb2
        simp only [tokV, errV]
        go_wp2_with fail
        refine (CB _).out.mono ?_
        rintro e w3 ⟨rfl, hb3⟩
        have HB3 := Lib.hid (lex_keep_below HB2.out hb3)
        obtain ⟨k0, k1, k2, k3, k4, k5, k6, k7⟩ := lex_keep hb3
        have j0 := cell_two k0
        have j1 := cell_two k1
        have j2 := cell_two k2
        have j3 := cell_two k3
        have j4 := cell_two k4
        have j5 := cell_two k5
        have j6 := cell_two k6
        clear hb3 k0 k1 k2 k3 k4 k5 k6
        simp only [tokV, errV]
        go_wp2_with fail
        go_ret
        exact ⟨rfl, (HB3.out.alloc (HB3.out.size) _).alloc (by have := HB3.out.size; simp; omega) _⟩

end Go.Proofs.Ytamhdoijmkjngaa
