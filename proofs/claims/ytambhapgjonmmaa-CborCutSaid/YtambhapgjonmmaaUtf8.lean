/- The program's Rune: its contract. -/
import Derived.Test.YtambhapgjonmmaaUtf7
namespace Go.Proofs.Ytambhapgjonmmaa
open Go.RowKit
set_option linter.unusedVariables false
set_option linter.unusedSimpArgs false

theorem wp_code_eq {P : Program} {c c' : Code} {Q : Exit → Act → World → Prop} {a : Act} {w : World} (h : c = c') (hw : c'.wp P Q a w) : c.wp P Q a w := h ▸ hw

theorem ujump_weaken {ab : Option Addr} {len cap p : Nat} {l : List UInt8} {w w' : World} {a : Act} {Q : Exit → Act → World → Prop} : ∀ (e : Exit) (a' : Act) (w'' : World),
    JumpTo UL (fun l' a' w'' => UJ ab len cap p l w l' a' w'' ∧ umu l' a' w'' < umu 1 a w') Q e a' w'' → JumpTo UL (UJ ab len cap p l w) Q e a' w'' := by
  intro e a' w'' h
  cases e <;> first | exact h | exact ⟨h.1, h.2.1⟩

set_option maxRecDepth 100000 in
set_option maxHeartbeats 2000000 in
theorem rune_calls (ab : Option Addr) (len cap p : Nat) (w : World) (l : List UInt8) (h : RdB w ab len l) :
    Calls Try.prog 54 #[.slice ab len cap, .int .i64 p] w (RuneOut l p w) := by
  have hm := h.2.1
  have H := Lib.hid h
  have hlen := h.1
  have HL := Lib.hid hlen
  clear hlen
  go_enter Try.func54, Try.ntmps54
  go_wp2_with fail
  refine wp_scope_many UL urest (UJ ab len cap p l w) umu (fun l hl => by rcases hl with rfl | rfl <;> rfl) ?first (fun l' a w' hl hJ => by
    rcases hl with rfl | rfl
    · exact upass0 ab len cap p l w a w' hJ _
    · rw [urest_next]; exact wp_seq (wp_skip (upass1 ab len cap p l w H.out a w' hJ)))
  case first =>
    have hr : runeAt l p = runeAt l p := rfl
    conv at hr => rhs; unfold runeAt
    by_cases h0 : len ≤ p
    · rw [if_pos (by rw [HL.out]; exact h0)] at hr
      have HR := Lib.hid hr
      have d0 : decide ((p : Int) < 0) = false := by simp
      have d1 : decide ((len : Int) ≤ (p : Int)) = true := by simp; omega
      clear hr h
      go_wp2_with fail
      go_step3
      exact ⟨.inl rfl, _, UFr.of _ rfl, HR.out, rfl⟩
    · rw [if_neg (by rw [HL.out]; exact h0)] at hr
      obtain ⟨b, o, rfl, hcc⟩ := h.at p (by omega)
      have hcb := bAt_lt l p
      generalize hc : bAt l p = c at hcc hcb hr
      clear h hc
      have d0 : decide ((p : Int) < 0) = false := by simp
      have d1 : decide ((len : Int) ≤ (p : Int)) = false := by simp; omega
      by_cases h1 : c < 128
      · rw [if_pos h1] at hr
        have HR := Lib.hid hr
        clear hr
        go_wp2_with fail
        simp only [JumpTo]
        go_ret2
        exact ⟨by rw [HR.out]; rfl, rfl⟩
      rw [if_neg h1] at hr
      by_cases h2 : c < 192
      · rw [if_pos h2] at hr
        have HR := Lib.hid hr
        clear hr
        go_wp2_with fail
        go_step3
        exact ⟨.inl rfl, _, UFr.of _ rfl, HR.out, rfl⟩
      rw [if_neg h2] at hr
      have q0 : IntKind.i64.wrap ((len : Int) - (p : Int)) = (len : Int) - (p : Int) := IntWalk.i64_in _ (by omega)
      have q1 : IntKind.i64.wrap ((len : Int) - (p : Int) - 1) = (len : Int) - (p : Int) - 1 := IntWalk.i64_in _ (by omega)
      by_cases h3 : c < 224
      · rw [if_pos h3] at hr
        unfold more at hr
        rw [HL.out] at hr
        have qa : bits BinOp.and IntKind.i64 (c : Int) 31 = ((c % 32 : Nat) : Int) := and_31if ⟨c, hcb⟩
        obtain ⟨r0, hr0⟩ : ∃ r : Nat, r = c - 192 := ⟨_, rfl⟩
        rw [show c % 32 = r0 by omega] at qa
        rw [← hr0] at hr
        have hrb : r0 < 64 := by omega
        clear hr0
        by_cases hs : len < p + 2
        · rw [if_pos hs] at hr
          have HR := Lib.hid hr
          have d2 : decide ((len : Int) - (p : Int) - 1 < 1) = true := by simp; omega
          clear hr
          go_wp2_with fail
          go_step3
          exact ⟨.inl rfl, _, UFr.of _ rfl, HR.out, rfl⟩
        · rw [if_neg hs] at hr
          have HR := Lib.hid hr
          have d2 : decide ((len : Int) - (p : Int) - 1 < 1) = false := by simp; omega
          clear hr
          go_wp2_with fail
          rename_i K hK
          go_step3
          refine hK _ _ (wp_code_eq (c' := unext) (by kernel_rfl) (Code.wp_mono ujump_weaken (upass1 _ len cap p l w H.out _ _ ?_)))
          exact ⟨_, 1, 128, 1, r0, r0, UFr.of _ rfl, ⟨rfl, rfl, rfl, rfl, rfl, rfl, by omega, by omega, by omega, by omega, HR.out, rfl, by omega, by omega⟩, rfl⟩
      rw [if_neg h3] at hr
      by_cases h4 : c < 240
      · rw [if_pos h4] at hr
        unfold more at hr
        rw [HL.out] at hr
        have qa : bits BinOp.and IntKind.i64 (c : Int) 15 = ((c % 16 : Nat) : Int) := and_15if ⟨c, hcb⟩
        obtain ⟨r0, hr0⟩ : ∃ r : Nat, r = c - 224 := ⟨_, rfl⟩
        rw [show c % 16 = r0 by omega] at qa
        rw [← hr0] at hr
        have hrb : r0 < 64 := by omega
        clear hr0
        by_cases hs : len < p + 3
        · rw [if_pos hs] at hr
          have HR := Lib.hid hr
          have d2 : decide ((len : Int) - (p : Int) - 1 < 2) = true := by simp; omega
          clear hr
          go_wp2_with fail
          go_step3
          exact ⟨.inl rfl, _, UFr.of _ rfl, HR.out, rfl⟩
        · rw [if_neg hs] at hr
          have HR := Lib.hid hr
          have d2 : decide ((len : Int) - (p : Int) - 1 < 2) = false := by simp; omega
          clear hr
          go_wp2_with fail
          rename_i K hK
          go_step3
          refine hK _ _ (wp_code_eq (c' := unext) (by kernel_rfl) (Code.wp_mono ujump_weaken (upass1 _ len cap p l w H.out _ _ ?_)))
          exact ⟨_, 2, 2048, 1, r0, r0, UFr.of _ rfl, ⟨rfl, rfl, rfl, rfl, rfl, rfl, by omega, by omega, by omega, by omega, HR.out, rfl, by omega, by omega⟩, rfl⟩
      rw [if_neg h4] at hr
      by_cases h5 : c < 248
      · rw [if_pos h5] at hr
        unfold more at hr
        rw [HL.out] at hr
        have qa : bits BinOp.and IntKind.i64 (c : Int) 7 = ((c % 8 : Nat) : Int) := and_7if ⟨c, hcb⟩
        obtain ⟨r0, hr0⟩ : ∃ r : Nat, r = c - 240 := ⟨_, rfl⟩
        rw [show c % 8 = r0 by omega] at qa
        rw [← hr0] at hr
        have hrb : r0 < 64 := by omega
        clear hr0
        by_cases hs : len < p + 4
        · rw [if_pos hs] at hr
          have HR := Lib.hid hr
          have d2 : decide ((len : Int) - (p : Int) - 1 < 3) = true := by simp; omega
          clear hr
          go_wp2_with fail
          go_step3
          exact ⟨.inl rfl, _, UFr.of _ rfl, HR.out, rfl⟩
        · rw [if_neg hs] at hr
          have HR := Lib.hid hr
          have d2 : decide ((len : Int) - (p : Int) - 1 < 3) = false := by simp; omega
          clear hr
          go_wp2_with fail
          rename_i K hK
          go_step3
          refine hK _ _ (wp_code_eq (c' := unext) (by kernel_rfl) (Code.wp_mono ujump_weaken (upass1 _ len cap p l w H.out _ _ ?_)))
          exact ⟨_, 3, 65536, 1, r0, r0, UFr.of _ rfl, ⟨rfl, rfl, rfl, rfl, rfl, rfl, by omega, by omega, by omega, by omega, HR.out, rfl, by omega, by omega⟩, rfl⟩
      rw [if_neg h5] at hr
      have HR := Lib.hid hr
      clear hr
      go_wp2_with fail
      go_step3
      exact ⟨.inl rfl, _, UFr.of _ rfl, HR.out, rfl⟩

set_option maxRecDepth 100000 in
set_option maxHeartbeats 1000000 in
theorem rune_neg (ab : Option Addr) (len cap : Nat) (p : Int) (w : World) (hm : len ≤ 9223372036854775807) (hp : p < 0) :
    Calls Try.prog 54 #[.slice ab len cap, .int .i64 p] w fun e w' => e = .returned (.tuple #[.int .i64 0, .int .i64 0]) ∧ w = w' := by
  go_enter Try.func54, Try.ntmps54
  go_wp2_with fail
  refine wp_scope_many UL urest (fun l' a w' => l' = 0 ∧ ∃ u, UFr a u ∧ w = w') umu (fun l hl => by rcases hl with rfl | rfl <;> rfl) ?first (fun l' a w' hl hJ => by
    obtain ⟨rfl, u, rfl, rfl⟩ := hJ
    simp only [List.range, List.range.loop, List.map_cons, List.map_nil]
    conv => arg 2; whnf
    go_wp2_with fail
    simp only [JumpTo]
    go_ret2
    exact ⟨rfl, rfl⟩)
  case first =>
    have d0 : decide (p < 0) = true := by simp; omega
    go_wp2_with fail
    go_step3
    exact ⟨.inl rfl, rfl, _, UFr.of _ rfl, rfl⟩

end Go.Proofs.Ytambhapgjonmmaa
