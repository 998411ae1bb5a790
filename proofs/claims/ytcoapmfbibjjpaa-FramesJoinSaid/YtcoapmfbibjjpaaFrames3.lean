/- The reference's Cut. -/
import Derived.Test.YtcoapmfbibjjpaaFrames2
import Derived.Test.YtcoapmfbibjjpaaFrLib
namespace Go.Proofs.Ytcoapmfbibjjpaa
open Go.RowKit
set_option linter.unusedVariables false
set_option linter.unusedSimpArgs false

set_option maxRecDepth 100000 in
set_option maxHeartbeats 1000000 in
theorem rcut_calls (a : Option Addr) (len cap : Nat) (most : Int) (w : World) (l : List UInt8) (h : RdB w a len l) (hb : len ≤ 1000000) :
    Calls Try.prog 19 #[.slice a len cap, .int .i64 most] w (CutPost w (cutAll l most)) := by
  obtain ⟨i0, hi, hz0, hz1, hz2⟩ := info_parts infoSpan
  have HI := Lib.hid hi
  have H := Lib.hid h
  clear h hi
  go_enter Try.func19, Try.ntmps19
  go_wp2
  go_loopw [6, 7] (fun v i wr => CutRel w (.cells #[.int .i64 0, .int .i64 0, .slice none 0 0] 31) l most v i wr) (fun _ i _ => len - (intOf i).toNat)
  case atStart => exact ⟨[], 0, .zero _ _, rfl, World.ownsRow_nil _ _ _ _, Below.refl _ _⟩
  case round =>
    obtain ⟨acc, p, hct, rfl, hown, hbl⟩ := hrel
    have hs0 : w.heap.size < wr.heap.size := by have := hbl.size; simp at this; omega
    have f0 : wr.cell? ⟨w.heap.size, 0, none⟩ = some (.int .i64 0) := by rw [hbl.cell (p := ⟨w.heap.size, 0, none⟩) (by simp)]; simp [go_sem]
    have f1 : wr.cell? ⟨w.heap.size, 1, none⟩ = some (.int .i64 0) := by rw [hbl.cell (p := ⟨w.heap.size, 1, none⟩) (by simp)]; simp [go_sem]
    have f2 : wr.cell? ⟨w.heap.size, 2, none⟩ = some (.slice none 0 0) := by rw [hbl.cell (p := ⟨w.heap.size, 2, none⟩) (by simp)]; simp [go_sem]
    have g0 : wr.frozen? ⟨w.heap.size, 0, none⟩ = false := by rw [hbl.frozen (p := ⟨w.heap.size, 0, none⟩) (by simp)]; simp [go_sem]
    have g1 : wr.frozen? ⟨w.heap.size, 1, none⟩ = false := by rw [hbl.frozen (p := ⟨w.heap.size, 1, none⟩) (by simp)]; simp [go_sem]
    have g2 : wr.frozen? ⟨w.heap.size, 2, none⟩ = false := by rw [hbl.frozen (p := ⟨w.heap.size, 2, none⟩) (by simp)]; simp [go_sem]
    have HL : Hid (l.length = len) := H.out.1
    have hR : RdB wr a len l := (H.out.keep (((Below.refl w.heap.size w).alloc (Nat.le_refl _) _).trans (hbl.mono (by omega))))
    have HR := Lib.hid hR
    have HO := Lib.hid hown
    have HB := Lib.hid hbl
    have HC := Lib.hid hct
    clear hR hown hbl hct
    by_cases hlt : p < len
    · by_cases h4 : p + 4 ≤ len
      · have hlb := len4_bd l p (by rw [HL.out]; exact h4)
        have c := Lib.hid (rlength_yes a len cap p wr l HR.out h4)
        generalize hn : len4 l p = n at hlb c
        have HN := Lib.hid hn
        clear hn
        have HD : Hid (∀ e, frmErr l most p = e → e ≠ 0 → cutAll l most = (acc, e, p)) := fun e h1 h2 => by rw [← h1]; exact HC.out.err (by rw [HL.out]; exact hlt) (by rw [h1]; exact h2)
        have hF : Hid (frmErr l most p = if n < 5 then 6 else if most < n then 9 else if (len : Int) - p < n then 2 else 0) := by
          show frmErr l most p = _
          unfold frmErr
          rw [if_pos (by rw [HL.out]; exact h4), HN.out, HL.out]
        by_cases h5 : n < 5
        · have hF' := Lib.hid (HD.out 6 (by rw [hF.out, if_pos h5]) (by decide))
          go_wp2_with (go_at_call 17; refine c.out.mono ?_; rintro e w1 ⟨rfl, rfl⟩)
          refine bodyPost_ret (v := .tuple #[u6, .agg #[.int .i64 6, .int .i64 p, .slice none 0 0]]) (by simp [results, Try.results19, go_sem, f0, f1, f2]) rfl ?_
          exact cut_close (n := 0) hF'.out HO.out HB.out
        · by_cases h6 : most < n
          · have hF' := Lib.hid (HD.out 9 (by rw [hF.out, if_neg h5, if_pos h6]) (by decide))
            go_wp2_with (go_at_call 17; refine c.out.mono ?_; rintro e w1 ⟨rfl, rfl⟩)
            refine bodyPost_ret (v := .tuple #[u6, .agg #[.int .i64 9, .int .i64 p, .slice none 0 0]]) (by simp [results, Try.results19, go_sem, f0, f1, f2]) rfl ?_
            exact cut_close (n := 0) hF'.out HO.out HB.out
          · by_cases h7 : (len : Int) - p < n
            · have hF' := Lib.hid (HD.out 2 (by rw [hF.out, if_neg h5, if_neg h6, if_pos h7]) (by decide))
              go_wp2_with (go_at_call 17; refine c.out.mono ?_; rintro e w1 ⟨rfl, rfl⟩)
              refine bodyPost_ret (v := .tuple #[u6, .agg #[.int .i64 2, .int .i64 p, .slice none 0 0]]) (by simp [results, Try.results19, go_sem, f0, f1, f2]) rfl ?_
              exact cut_close (n := 0) hF'.out HO.out HB.out
            · obtain ⟨m, rfl⟩ : ∃ m : Nat, n = m := ⟨n.toNat, by omega⟩
              have HS : Hid (CutTo l most (acc ++ [(p, p + m)]) (p + m)) := by
                have := HC.out.step (by rw [HL.out]; exact hlt) (by rw [hF.out, if_neg h5, if_neg h6, if_neg h7])
                rw [HN.out] at this
                exact this
              have hz : acc.length ≤ 1000000 := by have := HC.out.2.1; omega
              go_wp2_with (first | (go_at_call 17; refine c.out.mono ?_; rintro e w1 ⟨rfl, rfl⟩) | (at_builtin; refine wpList_append_own _ rfl _ _ 27 rfl (w.heap.size + 1) 36 i0 (.agg #[.int .i64 0, .int .i64 0]) 2 16 Try.underlying27 HI.out hz0 hz1 hz2 rfl (by decide) _ acc.length (spanCells acc) rfl (by exact HO.out.alloc _) ⟨wr.heap.size, 0, none⟩ 1 1 [.int .i64 p, .int .i64 ((p : Int) + m)] rfl rfl (fun j u hu => cell_two_new wr _ _ _ j u hu) ?c2 ?c3 ?c4 ?c5 ?_))
              case c2 => simp [Value.oneCell']
              case c3 => unfold maxLen; omega
              case c4 => omega
              case c5 => simp; omega
              intro v' w1 hown' hgrow _
              have HO' := Lib.hid hown'
              have HG := Lib.hid hgrow
              clear hown' hgrow
              go_wp2
              go_roundw
              case rel => exact cut_next (wr := wr) (k := 0) HS.out HO'.out HB.out HG.out HO.out (by omega)
              case measure => simp [intOf]; omega
      · have hF' := Lib.hid (HC.out.err (by rw [HL.out]; exact hlt) (by unfold frmErr; rw [if_neg (by rw [HL.out]; exact h4)]; decide))
        have hE : Hid (frmErr l most p = 2) := by show frmErr l most p = 2; unfold frmErr; rw [if_neg (by rw [HL.out]; exact h4)]
        have c := Lib.hid (rlength_no a len cap p wr (by omega) (Or.inr (by omega)) (by omega))
        go_wp2_with (go_at_call 17; refine c.out.mono ?_; rintro e w1 ⟨rfl, rfl⟩)
        refine bodyPost_ret (v := .tuple #[u6, .agg #[.int .i64 2, .int .i64 p, .slice none 0 0]]) (by simp [results, Try.results19, go_sem, f0, f1, f2]) rfl ?_
        exact cut_close (n := 0) (hE.out ▸ hF'.out) HO.out HB.out
    · have hF' := Lib.hid (HC.out.fin (by rw [HL.out]; exact hlt))
      go_wp2
      refine bodyPost_ret (v := .tuple #[u6, .agg #[.int .i64 0, .int .i64 0, .slice none 0 0]]) (by simp [results, Try.results19, go_sem, f0, f1, f2]) rfl ?_
      exact cut_close (n := 0) hF'.out HO.out HB.out
/-- A list of spans, read. -/
def RdSp (w : World) (a : Option Addr) (xs : List (Nat × Nat)) : Prop :=
  ∀ i, i < xs.length → ∃ b o, a = some ⟨b, o, none⟩ ∧ w.cell? ⟨b, o + i * 2, none⟩ = some (.int .i64 ((xs.getD i (0, 0)).1 : Nat)) ∧ w.cell? ⟨b, o + (i * 2 + 1), none⟩ = some (.int .i64 ((xs.getD i (0, 0)).2 : Nat))

theorem RdSp.keep {w w' : World} {a xs} (h : RdSp w a xs) (hb : Below w.heap.size w w') : RdSp w' a xs := by
  intro i hi
  obtain ⟨b, o, ha, h1, h2⟩ := h i hi
  have q1 := cell_block h1
  have q2 := cell_block h2
  exact ⟨b, o, ha, by rw [hb.cell (p := ⟨b, o + i * 2, none⟩) (by simpa using q1)]; exact h1, by rw [hb.cell (p := ⟨b, o + (i * 2 + 1), none⟩) (by simpa using q2)]; exact h2⟩

theorem spanCells_at (xs : List (Nat × Nat)) : ∀ i, i < xs.length → (spanCells xs).getD (i * 2) undef = .int .i64 ((xs.getD i (0, 0)).1 : Nat) ∧ (spanCells xs).getD (i * 2 + 1) undef = .int .i64 ((xs.getD i (0, 0)).2 : Nat) := by
  induction xs with
  | nil => intro i hi; simp at hi
  | cons x r ih =>
    intro i hi
    have e : spanCells (x :: r) = .int .i64 (x.1 : Nat) :: .int .i64 (x.2 : Nat) :: spanCells r := by simp [spanCells]
    rw [e]
    cases i with
    | zero => simp
    | succ i =>
      have := ih i (by simpa using hi)
      rw [show (i + 1) * 2 = i * 2 + 1 + 1 from by omega]
      simpa using this

/-- What Cut answers, as the statements read it. -/
def CutReads (w : World) (r : List (Nat × Nat) × Int × Nat) (e : Ending) (w' : World) : Prop :=
  ∃ a cap, e = .returned (.tuple #[.slice a r.1.length cap, .agg #[.int .i64 r.2.1, .int .i64 (r.2.2 : Nat), .slice none 0 0]]) ∧ r.1.length ≤ 9223372036854775807 ∧ RdSp w' a r.1 ∧ Below w.heap.size w w'

theorem CutPost.reads {w w' : World} {r e} (h : CutPost w r e w') : CutReads w r e w' := by
  obtain ⟨v, he, ho, hb⟩ := h
  obtain ⟨a, cap, rfl, hm, hg⟩ := owns_reads ho
  refine ⟨a, cap, he, hm, fun i hi => ?_, hb⟩
  obtain ⟨b, o, ha, hc⟩ := hg i hi
  have q := spanCells_at r.1 i hi
  exact ⟨b, o, ha, by rw [← q.1]; exact hc 0 (by omega), by rw [← q.2]; exact hc 1 (by omega)⟩

end Go.Proofs.Ytcoapmfbibjjpaa
