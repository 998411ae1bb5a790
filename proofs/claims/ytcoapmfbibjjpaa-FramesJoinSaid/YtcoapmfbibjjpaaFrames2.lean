/- Cut: the frames of a stream: the program's and the reference's loop tell the same list. -/
import Derived.Test.YtcoapmfbibjjpaaFrames1
namespace Go.Proofs.Ytcoapmfbibjjpaa
open Go.RowKit
set_option linter.unusedVariables false
set_option linter.unusedSimpArgs false

/-- What is wrong with the frame at a place: 0: nothing. -/
def frmErr (l : List UInt8) (most : Int) (p : Nat) : Int :=
  if p + 4 ≤ l.length then (if len4 l p < 5 then 6 else if most < len4 l p then 9 else if (l.length : Int) - p < len4 l p then 2 else 0) else 2

def cutF (l : List UInt8) (most : Int) : Nat → Nat → List (Nat × Nat) × Int × Nat
  | 0, _ => ([], 0, 0)
  | f + 1, p =>
    if p < l.length then
      if frmErr l most p = 0 then ((p, p + (len4 l p).toNat) :: (cutF l most f (p + (len4 l p).toNat)).1, (cutF l most f (p + (len4 l p).toNat)).2)
      else ([], frmErr l most p, p)
    else ([], 0, 0)

def cutAll (l : List UInt8) (most : Int) : List (Nat × Nat) × Int × Nat := cutF l most (l.length + 1) 0

/-- So many frames have been told, and so far one has come. -/
def CutTo (l : List UInt8) (most : Int) (acc : List (Nat × Nat)) (p : Nat) : Prop :=
  p ≤ l.length ∧ acc.length * 5 ≤ p ∧ ∃ f, l.length - p < f ∧ cutAll l most = (acc ++ (cutF l most f p).1, (cutF l most f p).2)

theorem CutTo.zero (l most) : CutTo l most [] 0 := ⟨by omega, by simp, l.length + 1, by omega, by simp [cutAll]⟩

theorem frm_ok {l most p} (h : frmErr l most p = 0) : p + 4 ≤ l.length ∧ 5 ≤ len4 l p ∧ len4 l p ≤ most ∧ len4 l p ≤ (l.length : Int) - p := by
  unfold frmErr at h
  split at h
  · split at h
    · omega
    · split at h
      · omega
      · split at h
        · omega
        · omega
  · omega

theorem CutTo.step {l most acc p} (h : CutTo l most acc p) (hp : p < l.length) (he : frmErr l most p = 0) :
    CutTo l most (acc ++ [(p, p + (len4 l p).toNat)]) (p + (len4 l p).toNat) := by
  obtain ⟨h1, h2, f, hf, hc⟩ := h
  have k := frm_ok he
  cases f with
  | zero => omega
  | succ f =>
    refine ⟨by omega, by simp; omega, f, by omega, ?_⟩
    rw [hc]
    simp only [cutF, if_pos hp, if_pos he, List.append_assoc, List.singleton_append]

theorem CutTo.err {l most acc p} (h : CutTo l most acc p) (hp : p < l.length) (he : frmErr l most p ≠ 0) : cutAll l most = (acc, frmErr l most p, p) := by
  obtain ⟨h1, h2, f, hf, hc⟩ := h
  cases f with
  | zero => omega
  | succ f => rw [hc]; simp only [cutF, if_pos hp, if_neg he, List.append_nil]

theorem CutTo.fin {l most acc p} (h : CutTo l most acc p) (hp : ¬ p < l.length) : cutAll l most = (acc, 0, 0) := by
  obtain ⟨h1, h2, f, hf, hc⟩ := h
  cases f with
  | zero => omega
  | succ f => rw [hc]; simp only [cutF, if_neg hp, List.append_nil]

def spanCells (xs : List (Nat × Nat)) : List Value := xs.flatMap fun s => [.int .i64 (s.1 : Nat), .int .i64 (s.2 : Nat)]

/-- What Cut answers. -/
def CutPost (w : World) (r : List (Nat × Nat) × Int × Nat) (e : Ending) (w' : World) : Prop :=
  ∃ v, e = .returned (.tuple #[v, .agg #[.int .i64 r.2.1, .int .i64 (r.2.2 : Nat), .slice none 0 0]]) ∧ w'.ownsRow w.heap.size 36 2 v r.1.length (spanCells r.1) ∧ Below w.heap.size w w'

theorem infoSpan : (Try.prog.info? 36).map (fun i => (i.zero, i.size, i.bytes)) = some (some (.agg #[.int .i64 0, .int .i64 0]), 2, 16) := by kernel_rfl

theorem cut_close {w wr : World} {o : Obj} {l : List UInt8} {most : Int} {acc : List (Nat × Nat)} {er : Int} {p n : Nat} {u : Value} {x y z : Value}
    (h : cutAll l most = (acc, er, p)) (HO : wr.ownsRow (w.heap.size + 1) 36 2 u acc.length (spanCells acc)) (HB : Below (w.heap.size + 1) (w.alloc o) wr) :
    CutPost w (cutAll l most) (.returned (.tuple #[u, .agg #[.int .i64 er, .int .i64 p, .slice none 0 0]]))
      (((((wr.drewN n).setCell ⟨w.heap.size, 0, none⟩ x).setCell ⟨w.heap.size, 1, none⟩ y).setCell ⟨w.heap.size, 2, none⟩ z)) := by
  rw [h]
  refine ⟨u, rfl, ?_, ?_⟩
  · exact ownsRow_weaken (ownsRow_setCell_below (ownsRow_setCell_below (ownsRow_setCell_below (ownsRow_drewN HO) (by simp) _) (by simp) _) (by simp) _) (by omega)
  · exact ((((((Below.refl w.heap.size w).alloc (Nat.le_refl _) o).trans (HB.mono (by omega))).trans (below_drewN _ n _)).setCell (by simp) _).setCell (by simp) _).setCell (by simp) _

theorem spanCells_snoc (acc : List (Nat × Nat)) (p q : Nat) : spanCells (acc ++ [(p, q)]) = spanCells acc ++ [.int .i64 (p : Nat), .int .i64 (q : Nat)] := by simp [spanCells]

/-- What stands at the head of each round. -/
def CutRel (w : World) (o : Obj) (l : List UInt8) (most : Int) (v i : Value) (wr : World) : Prop :=
  ∃ (acc : List (Nat × Nat)) (p : Nat), CutTo l most acc p ∧ i = .int .i64 p ∧ wr.ownsRow (w.heap.size + 1) 36 2 v acc.length (spanCells acc) ∧ Below (w.heap.size + 1) (w.alloc o) wr

theorem cut_next {w wr w1 : World} {k : Nat} {oo : Obj} {o : Obj} {l : List UInt8} {most : Int} {acc : List (Nat × Nat)} {p m : Nat} {v v' : Value}
    (hs : CutTo l most (acc ++ [(p, p + m)]) (p + m)) (ho' : w1.ownsRow (w.heap.size + 1) 36 2 v' (acc.length + 1) (spanCells acc ++ [.int .i64 p, .int .i64 ((p : Int) + m)]))
    (hb0 : Below (w.heap.size + 1) (w.alloc o) wr) (hg : ((wr.drewN k).alloc oo).grownBy w1 v.ownBlock) (ho0 : wr.ownsRow (w.heap.size + 1) 36 2 v acc.length (spanCells acc)) (hsz : w.heap.size < wr.heap.size) :
    CutRel w o l most v' (.int .i64 ((p : Int) + m)) w1 := by
  have ho : ((wr.drewN k).alloc oo).ownsRow (w.heap.size + 1) 36 2 v acc.length (spanCells acc) := World.ownsRow.alloc (ownsRow_drewN ho0) oo
  have hb : Below (w.heap.size + 1) (w.alloc o) ((wr.drewN k).alloc oo) := (Below_drewN hb0).alloc (by simp; omega) oo
  have e : ((wr.drewN k).alloc oo).heap.size = wr.heap.size + 1 := by show (wr.heap.push oo).size = _; simp
  refine ⟨acc ++ [(p, p + m)], p + m, hs, by simp, ?_, hb.grown hg (by omega) fun k hk => (ho.lt k hk).1⟩
  rw [spanCells_snoc, List.length_append, List.length_singleton]
  rw [show ((p + m : Nat) : Int) = (p : Int) + m from by omega]
  exact ho'

set_option maxRecDepth 100000 in
set_option maxHeartbeats 1000000 in
theorem cut_calls (a : Option Addr) (len cap : Nat) (most : Int) (w : World) (l : List UInt8) (h : RdB w a len l) (hb : len ≤ 1000000) :
    Calls Try.prog 18 #[.slice a len cap, .int .i64 most] w (CutPost w (cutAll l most)) := by
  obtain ⟨i0, hi, hz0, hz1, hz2⟩ := info_parts infoSpan
  have HI := Lib.hid hi
  have H := Lib.hid h
  clear h hi
  go_enter Try.func18, Try.ntmps18
  go_wp2
  go_loopw [6, 7] (fun v i wr => CutRel w (.cells #[.int .i64 0, .int .i64 0, .slice none 0 0] 31) l most v i wr) (fun _ i _ => len - (intOf i).toNat)
  case atStart => exact ⟨[], 0, .zero _ _, rfl, World.ownsRow_nil _ _ _ _, Below.refl _ _⟩
  case round =>
    obtain ⟨acc, p, hct, rfl, hown, hbl⟩ := hrel
    have hs0 : w.heap.size < wr.heap.size := by have := hbl.size; simp at this; omega
    have f0 : wr.cell? ⟨w.heap.size, 0, none⟩ = some (.int .i64 0) := by rw [hbl.cell (p := ⟨w.heap.size, 0, none⟩) (by simp)]; simp [go_sem]
    have f1 : wr.cell? ⟨w.heap.size, 1, none⟩ = some (.int .i64 0) := by rw [hbl.cell (p := ⟨w.heap.size, 1, none⟩) (by simp)]; simp [go_sem]
    have f2 : wr.cell? ⟨w.heap.size, 2, none⟩ = some (.slice none 0 0) := by rw [hbl.cell (p := ⟨w.heap.size, 2, none⟩) (by simp)]; simp [go_sem]
    have g0 : wr.frozen? ⟨w.heap.size, 0, none⟩ = false := by rw [hbl.frozen (p := ⟨w.heap.size, 0, none⟩) (by simp)]; simp [go_sem]
    have g1 : wr.frozen? ⟨w.heap.size, 1, none⟩ = false := by rw [hbl.frozen (p := ⟨w.heap.size, 1, none⟩) (by simp)]; simp [go_sem]
    have g2 : wr.frozen? ⟨w.heap.size, 2, none⟩ = false := by rw [hbl.frozen (p := ⟨w.heap.size, 2, none⟩) (by simp)]; simp [go_sem]
    have HL : Hid (l.length = len) := H.out.1
    have hR : RdB wr a len l := (H.out.keep (((Below.refl w.heap.size w).alloc (Nat.le_refl _) _).trans (hbl.mono (by omega))))
    have HR := Lib.hid hR
    have HO := Lib.hid hown
    have HB := Lib.hid hbl
    have HC := Lib.hid hct
    clear hR hown hbl hct
    by_cases hlt : p < len
    · by_cases h4 : p + 4 ≤ len
      · have hlb := len4_bd l p (by rw [HL.out]; exact h4)
        have c := Lib.hid (length_yes a len cap p wr l HR.out h4)
        generalize hn : len4 l p = n at hlb c
        have HN := Lib.hid hn
        clear hn
        have HD : Hid (∀ e, frmErr l most p = e → e ≠ 0 → cutAll l most = (acc, e, p)) := fun e h1 h2 => by rw [← h1]; exact HC.out.err (by rw [HL.out]; exact hlt) (by rw [h1]; exact h2)
        have hF : Hid (frmErr l most p = if n < 5 then 6 else if most < n then 9 else if (len : Int) - p < n then 2 else 0) := by
          show frmErr l most p = _
          unfold frmErr
          rw [if_pos (by rw [HL.out]; exact h4), HN.out, HL.out]
        by_cases h5 : n < 5
        · have hF' := Lib.hid (HD.out 6 (by rw [hF.out, if_pos h5]) (by decide))
          go_wp2_with (go_at_call 16; refine c.out.mono ?_; rintro e w1 ⟨rfl, nd, rfl⟩)
          refine bodyPost_ret (v := .tuple #[u6, .agg #[.int .i64 6, .int .i64 p, .slice none 0 0]]) (by simp [results, Try.results18, go_sem, f0, f1, f2]) rfl ?_
          exact cut_close hF'.out HO.out HB.out
        · by_cases h6 : most < n
          · have hF' := Lib.hid (HD.out 9 (by rw [hF.out, if_neg h5, if_pos h6]) (by decide))
            go_wp2_with (go_at_call 16; refine c.out.mono ?_; rintro e w1 ⟨rfl, nd, rfl⟩)
            refine bodyPost_ret (v := .tuple #[u6, .agg #[.int .i64 9, .int .i64 p, .slice none 0 0]]) (by simp [results, Try.results18, go_sem, f0, f1, f2]) rfl ?_
            exact cut_close hF'.out HO.out HB.out
          · by_cases h7 : (len : Int) - p < n
            · have hF' := Lib.hid (HD.out 2 (by rw [hF.out, if_neg h5, if_neg h6, if_pos h7]) (by decide))
              go_wp2_with (go_at_call 16; refine c.out.mono ?_; rintro e w1 ⟨rfl, nd, rfl⟩)
              refine bodyPost_ret (v := .tuple #[u6, .agg #[.int .i64 2, .int .i64 p, .slice none 0 0]]) (by simp [results, Try.results18, go_sem, f0, f1, f2]) rfl ?_
              exact cut_close hF'.out HO.out HB.out
            · obtain ⟨m, rfl⟩ : ∃ m : Nat, n = m := ⟨n.toNat, by omega⟩
              have HS : Hid (CutTo l most (acc ++ [(p, p + m)]) (p + m)) := by
                have := HC.out.step (by rw [HL.out]; exact hlt) (by rw [hF.out, if_neg h5, if_neg h6, if_neg h7])
                rw [HN.out] at this
                exact this
              have hz : acc.length ≤ 1000000 := by have := HC.out.2.1; omega
              go_wp2_with (first | (go_at_call 16; refine c.out.mono ?_; rintro e w1 ⟨rfl, nd, rfl⟩) | (at_builtin; refine wpList_append_own _ rfl _ _ 27 rfl (w.heap.size + 1) 36 i0 (.agg #[.int .i64 0, .int .i64 0]) 2 16 Try.underlying27 HI.out hz0 hz1 hz2 rfl (by decide) _ acc.length (spanCells acc) rfl (by exact HO.out.alloc _) ⟨wr.heap.size, 0, none⟩ 1 1 [.int .i64 p, .int .i64 ((p : Int) + m)] rfl rfl (fun j u hu => cell_two_new wr _ _ _ j u hu) ?c2 ?c3 ?c4 ?c5 ?_))
              case c2 => simp [Value.oneCell']
              case c3 => unfold maxLen; omega
              case c4 => omega
              case c5 => simp; omega
              intro v' w1 hown' hgrow _
              have HO' := Lib.hid hown'
              have HG := Lib.hid hgrow
              clear hown' hgrow
              go_wp2
              go_roundw
              case rel => exact cut_next (wr := wr) HS.out HO'.out HB.out HG.out HO.out (by omega)
              case measure => simp [intOf]; omega
      · have hF' := Lib.hid (HC.out.err (by rw [HL.out]; exact hlt) (by unfold frmErr; rw [if_neg (by rw [HL.out]; exact h4)]; decide))
        have hE : Hid (frmErr l most p = 2) := by show frmErr l most p = 2; unfold frmErr; rw [if_neg (by rw [HL.out]; exact h4)]
        have c := Lib.hid (length_no a len cap p wr (by omega) (Or.inr (by omega)) (by omega))
        go_wp2_with (go_at_call 16; refine c.out.mono ?_; rintro e w1 ⟨rfl, rfl⟩)
        refine bodyPost_ret (v := .tuple #[u6, .agg #[.int .i64 2, .int .i64 p, .slice none 0 0]]) (by simp [results, Try.results18, go_sem, f0, f1, f2]) rfl ?_
        exact cut_close (n := 0) (hE.out ▸ hF'.out) HO.out HB.out
    · have hF' := Lib.hid (HC.out.fin (by rw [HL.out]; exact hlt))
      go_wp2
      refine bodyPost_ret (v := .tuple #[u6, .agg #[.int .i64 0, .int .i64 0, .slice none 0 0]]) (by simp [results, Try.results18, go_sem, f0, f1, f2]) rfl ?_
      exact cut_close (n := 0) hF'.out HO.out HB.out
end Go.Proofs.Ytcoapmfbibjjpaa
