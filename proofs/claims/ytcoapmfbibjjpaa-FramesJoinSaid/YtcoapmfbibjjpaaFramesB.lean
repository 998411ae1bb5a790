/- FramesCuts: the walk. -/
import Derived.Test.YtcoapmfbibjjpaaFramesA
import Derived.Test.YtcoapmfbibjjpaaSame
namespace Go.Proofs.Ytcoapmfbibjjpaa
open Go.RowKit
set_option linter.unusedVariables false
set_option linter.unusedSimpArgs false

theorem below_of (w w' : World) (h : Below w.heap.size w w') {B : Nat} {a : World} (ha : Below B a w) (hB : B ≤ w.heap.size) : Below B a w' := ha.trans (h.mono hB)

theorem fault_cells {w w' : World} {x y z : Value} {t : Nat} (hb : Below (w.alloc (.cells #[x, y, z] t)).heap.size (w.alloc (.cells #[x, y, z] t)) w') :
    w'.cell? ⟨w.heap.size, 0, none⟩ = some x ∧ w'.cell? ⟨w.heap.size, 1, none⟩ = some y ∧ w'.cell? ⟨w.heap.size, 2, none⟩ = some z ∧ w.heap.size < w'.heap.size := by
  refine ⟨?_, ?_, ?_, ?_⟩
  · rw [hb.cell (p := ⟨w.heap.size, 0, none⟩) (by simp)]; simp [go_sem]
  · rw [hb.cell (p := ⟨w.heap.size, 1, none⟩) (by simp)]; simp [go_sem]
  · rw [hb.cell (p := ⟨w.heap.size, 2, none⟩) (by simp)]; simp [go_sem]
  · have := hb.size; simp at this; omega

theorem RdSp.alloc {w : World} {a xs} (h : RdSp w a xs) (o : Obj) : RdSp (w.alloc o) a xs := h.keep ((Below.refl _ _).alloc (Nat.le_refl _) _)

set_option maxRecDepth 100000 in
set_option maxHeartbeats 2000000 in
theorem FramesCuts_walk (w : World) (a : Option Addr) (len cap : Nat) (l : List UInt8) (h : RdB w a len l) (most : Int) (hp : (Lit.int .i64 most).wf = true) :
    Calls Try.prog 4 #[.slice a len cap, .int .i64 most] w fun e w' => e = .returned (.bool true) ∧ Below w.heap.size w w' := by
  have H := Lib.hid h
  have hm := h.2.1
  clear h hp
  by_cases hl : 3000 < len
  · go_enter Try.func4, Try.ntmps4
    go_wp2_with (go_at_call 15; refine (awake34 _).mono ?_; rintro e w1 ⟨rfl, hb⟩)
    go_ret
    exact ⟨rfl, hb⟩
  · obtain ⟨R, hR⟩ : ∃ R, R = cutAll l most := ⟨_, rfl⟩
    obtain ⟨xs, er, pl⟩ := R
    have HR := Lib.hid hR
    clear hR
    go_enter Try.func4, Try.ntmps4
    go_wp2_with fail
    refine (awake34 _).mono ?_
    rintro e w1 ⟨rfl, hb⟩
    have HB := Lib.hid hb
    clear hb
    go_wp2_with fail
    refine ((cut_calls a len cap most _ l (H.out.keep HB.out) (by omega)).mono fun _ _ h => h.reads).mono ?_
    rw [← HR.out]
    rintro e w2 ⟨a1, cap1, rfl, hm1, hs1, hb1⟩
    have HS1 := Lib.hid hs1
    have HB1 := Lib.hid hb1
    clear hs1 hb1
    simp only at hm1
    go_wp2_with fail
    have HBX := Lib.hid ((below_of _ _ HB1.out HB.out HB.out.size).alloc (Nat.le_trans HB.out.size HB1.out.size) (.cells #[.int .i64 er, .int .i64 pl, .slice none 0 0] 31))
    refine ((rcut_calls a len cap most _ l (H.out.keep HBX.out) (by omega)).mono fun _ _ h => h.reads).mono ?_
    rw [← HR.out]
    rintro e w3 ⟨a2, cap2, rfl, hm2, hs2, hb2⟩
    have HS2 := Lib.hid hs2
    have HB2 := Lib.hid hb2
    have HS1' := Lib.hid ((HS1.out.alloc _).keep hb2)
    obtain ⟨f0, f1, f2, f3⟩ := fault_cells hb2
    clear hs2 hb2 hm2
    simp only at HS2 HS1'
    go_wp2_with (go_at_call 20; refine (same_fault _ _ _).mono ?_; rintro e w4 ⟨rfl, hb4⟩)
    have HS1'' := Lib.hid ((HS1'.out.alloc _).keep hb4)
    have HS2'' := Lib.hid ((HS2.out.alloc _).keep hb4)
    have hfin : Hid (Below w.heap.size w w4) := below_of _ _ hb4 ((below_of _ _ HB2.out HBX.out (by have := HBX.out.size; omega)).alloc (by have := (below_of _ _ HB2.out HBX.out (by have := HBX.out.size; omega)).size; omega) _) (by have := (below_of _ _ HB2.out HBX.out (by have := HBX.out.size; omega)).size; simp; omega)
    clear hb4
    go_loopw [9] (fun i wr => ∃ k : Nat, k ≤ xs.length ∧ i = .int .i64 k ∧ ∃ n, wr = w4.drewN n) (fun i _ => xs.length - (intOf i).toNat)
    case atStart => exact ⟨0, by omega, rfl, 0, rfl⟩
    case round =>
      obtain ⟨k, hk, rfl, nd, rfl⟩ := hrel
      by_cases hlt : k < xs.length
      · obtain ⟨b1, o1, rfl, d1, d1'⟩ := HS1''.out k hlt
        obtain ⟨b2, o2, rfl, d2, d2'⟩ := HS2''.out k hlt
        generalize (xs.getD k (0, 0)).1 = x at d1 d2
        generalize (xs.getD k (0, 0)).2 = y at d1' d2'
        have d1'' : w4.cell? ⟨b1, o1 + k * 2 + 1, none⟩ = some (.int .i64 y) := by rw [Nat.add_assoc]; exact d1'
        have d2'' : w4.cell? ⟨b2, o2 + k * 2 + 1, none⟩ = some (.int .i64 y) := by rw [Nat.add_assoc]; exact d2'
        go_wp2
        go_quiet (fail)
        go_wp2
        go_roundw
        case rel => exact ⟨k + 1, by omega, by simp, by first | exact ⟨_, rfl⟩ | exact drew_more⟩
        case measure => simp [intOf]; omega
      · go_wp2
        go_ret
        exact ⟨rfl, Below_drewN hfin.out⟩
end Go.Proofs.Ytcoapmfbibjjpaa
