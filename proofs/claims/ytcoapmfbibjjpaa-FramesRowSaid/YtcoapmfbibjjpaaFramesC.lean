/- FramesRow: the walk. -/
import Derived.Test.YtcoapmfbibjjpaaFramesB
namespace Go.Proofs.Ytcoapmfbibjjpaa
open Go.RowKit
set_option linter.unusedVariables false

/-- Frames from a place on, without a gap, and what stands behind them. -/
def Chain (l : List UInt8) (most : Int) (z : Int × Nat) : Nat → List (Nat × Nat) → Prop
  | p, [] => (z.1 = 0 ∧ p = l.length ∧ z.2 = 0) ∨ (z.1 ≠ 0 ∧ z.2 = p ∧ p < l.length)
  | p, s :: r => s.1 = p ∧ p + 4 ≤ l.length ∧ (∃ m, le (seg l p 4) = m ∧ s.2 = p + m ∧ 5 ≤ m ∧ p + m ≤ l.length ∧ (m : Int) ≤ most) ∧ Chain l most z s.2 r

theorem cutF_chain (l : List UInt8) (most : Int) : ∀ f p, l.length - p < f → p ≤ l.length → Chain l most (cutF l most f p).2 p (cutF l most f p).1 := by
  intro f
  induction f with
  | zero => intro p h; omega
  | succ f ih =>
    intro p h hp
    simp only [cutF]
    by_cases hlt : p < l.length
    · rw [if_pos hlt]
      by_cases he : frmErr l most p = 0
      · rw [if_pos he]
        have k := frm_ok he
        refine ⟨rfl, k.1, ⟨(len4 l p).toNat, ?_, rfl, by omega, by omega, by omega⟩, ih _ (by omega) (by omega)⟩
        have := le_lt (seg l p 4)
        rw [seg_length l p 4 k.1] at this
        have k2 := k.2.1
        unfold len4 at k2 ⊢
        split at k2
        · rename_i h; rw [if_pos h]; omega
        · omega
      · rw [if_neg he]
        exact .inr ⟨he, rfl, hlt⟩
    · rw [if_neg hlt]
      exact .inl ⟨rfl, by omega, rfl⟩

set_option maxRecDepth 100000 in
set_option maxHeartbeats 2000000 in
theorem FramesRow_walk (w : World) (a : Option Addr) (len cap : Nat) (l : List UInt8) (h : RdB w a len l) (most : Int) (hp : (Lit.int .i64 most).wf = true) :
    Calls Try.prog 5 #[.slice a len cap, .int .i64 most] w fun e w' => e = .returned (.bool true) ∧ Below w.heap.size w w' := by
  have H := Lib.hid h
  have hm := h.2.1
  have hll := h.1
  clear h hp
  by_cases hl : 3000 < len
  · clear hll
    go_enter Try.func5, Try.ntmps5
    go_wp2_with (go_at_call 15; refine (awake34 _).mono ?_; rintro e w1 ⟨rfl, hb⟩)
    go_ret
    exact ⟨rfl, hb⟩
  · have hch := cutF_chain l most (l.length + 1) 0 (by omega) (by omega)
    obtain ⟨R, hR⟩ : ∃ R, R = cutAll l most := ⟨_, rfl⟩
    change Chain l most (cutAll l most).2 0 (cutAll l most).1 at hch
    rw [← hR] at hch
    obtain ⟨xs, er, pl⟩ := R
    have HR := Lib.hid hR
    have HL := Lib.hid hll
    have HCH := Lib.hid hch
    clear hR hll hch
    go_enter Try.func5, Try.ntmps5
    go_wp2_with fail
    refine (awake34 _).mono ?_
    rintro e w1 ⟨rfl, hb⟩
    have HB := Lib.hid hb
    clear hb
    go_wp2_with fail
    refine ((cut_calls a len cap most _ l (H.out.keep HB.out) (by omega)).mono fun _ _ h => h.reads).mono ?_
    rw [← HR.out]
    rintro e w2 ⟨a1, cap1, rfl, hm1, hs1, hb1⟩
    have HS1 := Lib.hid (hs1.alloc (.cells #[.int .i64 er, .int .i64 pl, .slice none 0 0] 31))
    have HBX := Lib.hid ((below_of _ _ hb1 HB.out HB.out.size).alloc (Nat.le_trans HB.out.size hb1.size) (.cells #[.int .i64 er, .int .i64 pl, .slice none 0 0] 31))
    clear hs1 hb1
    simp only at hm1 HS1
    go_wp2_with fail
    go_loop [7, 8] (fun q i => ∃ k p : Nat, k ≤ xs.length ∧ i = .int .i64 k ∧ q = .int .i64 p ∧ Chain l most (er, pl) p (xs.drop k)) (fun _ i => xs.length - (intOf i).toNat)
    case atStart => exact ⟨0, 0, by omega, rfl, rfl, HCH.out⟩
    case round =>
      obtain ⟨k, p, hk, rfl, rfl, hc⟩ := hrel
      by_cases hlt : k < xs.length
      · obtain ⟨b1, o1, rfl, d1, d1'⟩ := HS1.out k hlt
        rw [drop_getD xs (0, 0) k hlt] at hc
        obtain ⟨e1, e2, ⟨m, e3, e4, e5, e6, e7⟩, hc'⟩ := hc
        rw [e1] at d1
        rw [e4] at d1'
        have e : ((p + m : Nat) : Int) = (p : Int) + m := by omega
        have d1'' : (w2.alloc (.cells #[.int .i64 er, .int .i64 pl, .slice none 0 0] 31)).cell? ⟨b1, o1 + k * 2 + 1, none⟩ = some (.int .i64 ((p : Int) + m)) := by rw [Nat.add_assoc, ← e]; exact d1'
        clear d1' e
        have c := Lib.hid (low_yes (w := w2.alloc (.cells #[.int .i64 er, .int .i64 pl, .slice none 0 0] 31)) a len cap p 4 l (H.out.keep HBX.out) (by rw [← HL.out]; omega) (by omega) (by omega))
        rw [e3] at c
        rw [e4] at hc'
        have HC := Lib.hid hc'
        rw [HL.out] at e2 e6
        clear hc' e1 e3 e4
        go_wp2_with (go_at_call 21; refine c.out.mono ?_; rintro e w4 ⟨rfl, rfl⟩)
        go_round
        case rel => exact ⟨k + 1, p + m, by omega, by simp, by simp, HC.out⟩
        case measure => simp [intOf]; omega
      · have hd : xs.drop k = [] := List.drop_of_length_le (by omega)
        rw [hd] at hc
        rcases hc with ⟨h1, h2, h3⟩ | ⟨h1, h2, h3⟩
        · simp only at h1 h3
          rw [HL.out] at h2
          subst h1 h3
          have hp : p = len := h2
          subst hp
          clear h2 hd
          have hb : ((p : Int) == p) = true := by simp
          go_wp2
          go_ret
          exact ⟨rfl, HBX.out⟩
        · simp only at h1 h2
          rw [HL.out] at h3
          subst h2
          clear hd
          have he : (er != 0) = true := by simp [h1]
          have hb : ((pl : Int) == pl) = true := by simp
          clear h1
          go_wp2
          go_ret
          exact ⟨rfl, HBX.out⟩
end Go.Proofs.Ytcoapmfbibjjpaa
