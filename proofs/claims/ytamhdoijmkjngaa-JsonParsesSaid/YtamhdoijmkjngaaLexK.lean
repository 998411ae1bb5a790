/- A text within quotes, walked; the next token, walked. -/
import Derived.Test.YtamhdoijmkjngaaLexJ
namespace Go.Proofs.Ytamhdoijmkjngaa
open Go.RowKit
set_option linter.unusedVariables false
set_option linter.unusedSimpArgs false

theorem trest_seq0 : (findLabel tcode 0).getD .skip = .seq .skip (trest 0) := by kernel_rfl
theorem trest_seq1 : (findLabel tcode 1).getD .skip = .seq .skip (trest 1) := by kernel_rfl
theorem trest_seq2 : (findLabel tcode 2).getD .skip = .seq .skip (trest 2) := by kernel_rfl
theorem trest_seq3 : (findLabel tcode 3).getD .skip = .seq .skip (trest 3) := by kernel_rfl

theorem tjump_weaken {s : ByteArray} {fr : Nat} {w w' : World} {R : LexR} {l : Nat} {a : Act} {Q : Exit → Act → World → Prop} : ∀ (e : Exit) (a' : Act) (w'' : World),
    JumpTo TL (fun l' a' w'' => TJ s fr w R l' a' w'' ∧ tmu s l' a' w'' < tmu s l a w') Q e a' w'' → JumpTo TL (TJ s fr w R) Q e a' w'' := by
  intro e a' w'' h
  cases e <;> first | exact h | exact ⟨h.1, h.2.1⟩

/-- What a text that begins at a place is. -/
def textR (l : List UInt8) : LexR := strGo (l.length + 1) (l.drop 1) 1 []

set_option maxRecDepth 100000 in
set_option maxHeartbeats 2000000 in
theorem text_calls (s : ByteArray) (hs : s.size ≤ 1000000) (fr : Nat) (hf : fr < s.size) (w : World) :
    Calls Try.prog 47 #[.string s, .int .i64 fr] w (LexOut w ((textR ((sl s).drop fr)).shift fr)) := by
  obtain ⟨R, hR⟩ : ∃ R, R = (textR ((sl s).drop fr)).shift fr := ⟨_, rfl⟩
  rw [← hR]
  have HT : Hid (TRes s fr (fr + 1) [] R) := by
    refine Lib.hid ⟨((sl s).drop fr).length + 1, by rw [List.length_drop, sl_len]; omega, ?_⟩
    rw [hR]
    unfold textR
    rw [List.drop_drop, show fr + 1 - fr = 1 by omega]
  clear hR
  go_enter Try.func47, Try.ntmps47
  go_wp2_with fail
  refine wp_scope_many TL (fun l => (findLabel tcode l).getD .skip) (TJ s fr w R) (tmu s) (fun l hl => by rcases hl with rfl | rfl | rfl | rfl <;> rfl) ?first (fun l a w' hl hJ => by
    rcases hl with rfl | rfl | rfl | rfl
    · show ((findLabel tcode 0).getD .skip).wp Try.prog _ _ _
      rw [trest_seq0]; exact wp_seq (wp_skip (tpass0 s fr w R a w' hJ _))
    · show ((findLabel tcode 1).getD .skip).wp Try.prog _ _ _
      rw [trest_seq1]; exact wp_seq (wp_skip (tpass1 s hs fr w R a w' hJ))
    · show ((findLabel tcode 2).getD .skip).wp Try.prog _ _ _
      rw [trest_seq2]; exact wp_seq (wp_skip (tpass2 s hs fr w R a w' hJ))
    · show ((findLabel tcode 3).getD .skip).wp Try.prog _ _ _
      rw [trest_seq3]; exact wp_seq (wp_skip (tpass3 s hs fr w R a w' hJ)))
  case first =>
    go_wp2_with fail
    rename_i K hK
    go_step3
    refine hK _ _ (wp_code_eq (c' := trest 1) (by kernel_rfl) (Code.wp_mono tjump_weaken (tpass1 s hs fr w R _ _ ?_)))
    exact ⟨_, fr + 1, [], TFr.of _ rfl, ⟨rfl, rfl, rfl, rfl, rfl, by omega, by omega, HT.out, World.ownsRow_nil _ _ _ _, by simp, Below.refl _ _⟩⟩
end Go.Proofs.Ytamhdoijmkjngaa
