/- The program's Bytes: its contract. -/
import Derived.Test.YtolmeimipchndaaBaseB
namespace Go.Proofs.Ytolmeimipchndaa
open Go.RowKit
set_option linter.unusedVariables false
set_option linter.unusedSimpArgs false

theorem wp_code_eq {P : Program} {c c' : Code} {Q : Exit → Act → World → Prop} {a : Act} {w : World} (h : c = c') (hw : c'.wp P Q a w) : c.wp P Q a w := h ▸ hw

theorem brest_next : brest 1 = .seq .skip bnext := by kernel_rfl

theorem jump_weaken {s : ByteArray} {w w' : World} {a : Act} {Q : Exit → Act → World → Prop} : ∀ (e : Exit) (a' : Act) (w'' : World),
    JumpTo BL (fun l' a' w'' => BJ s w l' a' w'' ∧ bmu s l' a' w'' < bmu s 1 a w') Q e a' w'' → JumpTo BL (BJ s w) Q e a' w'' := by
  intro e a' w'' h
  cases e <;> first | exact h | exact ⟨h.1, h.2.1⟩

set_option maxRecDepth 100000 in
set_option maxHeartbeats 1000000 in
theorem bytes_out (s : ByteArray) (hs : s.size ≤ 1000000) (w : World) : Calls Try.prog 24 #[.string s] w (BytesOut w s) := by
  go_enter Try.func24, Try.ntmps24
  go_wp2_with fail
  refine wp_scope_many BL brest (BJ s w) (bmu s) (fun l hl => by rcases hl with rfl | rfl | rfl <;> rfl) ?first (fun l a w' hl hJ => by
    rcases hl with rfl | rfl | rfl
    · exact bpass0 s w a w' hJ _
    · rw [brest_next]; exact wp_seq (wp_skip (bpass1 s hs w a w' hJ))
    · exact bpass2 s hs w a w' hJ)
  case first =>
    by_cases h4 : s.size % 4 = 0
    · have d4 : (((s.size : Int) % 4) != 0) = false := by simp; omega
      go_wp2_with fail
      rename_i K hK
      go_step3
      refine hK _ _ (wp_code_eq (c' := bnext) (by kernel_rfl) (Code.wp_mono jump_weaken (bpass1 s hs w _ _ ?_)))
      refine ⟨_, 0, 0, 0, [], BFr.of _ rfl, ?_⟩
      refine ⟨rfl, rfl, rfl, rfl, by omega, by omega, by omega, by omega, ?_, World.ownsRow_nil _ _ _ _, by simp, Below.refl _ _⟩
      unfold Res
      rw [if_pos h4]
      rfl
    · have d4 : (((s.size : Int) % 4) != 0) = true := by simp; omega
      go_wp2_with fail
      go_step3
      exact ⟨.inl rfl, _, BFr.of _ rfl, rfl, by unfold Res; rw [if_neg h4], Below.refl _ _⟩

/-- A text that is the signs of bytes. -/
theorem res_law (s : ByteArray) (t : List UInt8) : Res s = some t ↔ b64 t = sl s := by
  unfold Res
  by_cases h4 : s.size % 4 = 0
  · rw [if_pos h4]
    have := rd_law (s.size / 4) (sl s) (by rw [sl_len]; omega) [] t
    rw [this]
    constructor
    · rintro ⟨u, rfl, h⟩; simpa using h
    · intro h; exact ⟨t, by simp, h⟩
  · rw [if_neg h4]
    constructor
    · intro h; simp at h
    · intro h
      have := congrArg List.length h
      rw [b64_len, sl_len] at this
      omega

/-- What Bytes answers to such a text. -/
def BytesYes (w : World) (t : List UInt8) (e : Ending) (w' : World) : Prop :=
  ∃ v, e = .returned (.tuple #[v, .bool true]) ∧ OwnB w' w.heap.size v t ∧ Below w.heap.size w w'
/-- .. and to another. -/
def BytesNo (w : World) (e : Ending) (w' : World) : Prop :=
  ∃ v, e = .returned (.tuple #[v, .bool false]) ∧ OwnB w' w.heap.size v [] ∧ Below w.heap.size w w'

theorem bytes_yes (s : ByteArray) (hs : s.size ≤ 1000000) (t : List UInt8) (h : b64 t = sl s) (w : World) : Calls Try.prog 24 #[.string s] w (BytesYes w t) := by
  refine (bytes_out s hs w).mono ?_
  rintro e w' ⟨v, ok, bs, rfl, ho, hb, h1, h2⟩
  have hr := (res_law s t).2 h
  cases ok with
  | true =>
    have := h1 rfl
    rw [hr] at this
    have := Option.some.inj this
    subst this
    exact ⟨v, rfl, ho, hb⟩
  | false =>
    have := (h2 rfl).1
    rw [hr] at this
    simp at this

theorem bytes_no (s : ByteArray) (hs : s.size ≤ 1000000) (h : ∀ t, b64 t ≠ sl s) (w : World) : Calls Try.prog 24 #[.string s] w (BytesNo w) := by
  refine (bytes_out s hs w).mono ?_
  rintro e w' ⟨v, ok, bs, rfl, ho, hb, h1, h2⟩
  cases ok with
  | true => exact absurd ((res_law s bs).1 (h1 rfl)) (h bs)
  | false =>
    obtain ⟨_, rfl⟩ := h2 rfl
    exact ⟨v, rfl, ho, hb⟩

end Go.Proofs.Ytolmeimipchndaa
