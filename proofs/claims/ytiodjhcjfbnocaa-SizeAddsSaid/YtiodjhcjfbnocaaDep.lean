/- How deep a tree is: by the program, by the reference. -/
import Derived.Test.YtiodjhcjfbnocaaWt
import Derived.Test.YtiodjhcjfbnocaaBook2
namespace Go.Proofs.Ytiodjhcjfbnocaa
open Go.RowKit
set_option linter.unusedVariables false
set_option linter.unusedSimpArgs false

/-- Has a Kind Kids? -/
def isK (k : Int) : Bool := k == 3 || k == 4 || k == 15

mutual
def depT : T → Nat
  | .mk k _ _ _ _ _ _ _ kids => bif isK k then depF kids + 1 else 0
def depF : F → Nat
  | .nil => 0
  | .cons _ t r => max (depT t) (depF r)
end

mutual
theorem depT_wt : ∀ t : T, depT t + 1 ≤ t.wt
  | .mk k _ _ _ _ _ _ _ kids => by
    have := depF_wt kids
    simp only [depT, T.wt]
    cases isK k <;> simp <;> omega
theorem depF_wt : ∀ f : F, depF f ≤ f.wt
  | .nil => by simp [depF]
  | .cons n t r => by
    have h1 := depT_wt t
    have h2 := depF_wt r
    simp only [depF, F.wt]
    omega
end

theorem depF_get (f : F) (i : Nat) (n : ByteArray) (t : T) (h : f.get? i = some (n, t)) : depF (f.drop i) = max (depT t) (depF (f.drop (i + 1))) := by
  rw [F.drop_get f i n t h]; rfl

/-- What stands at the head of each round. -/
def DepRel (B : Nat) (W : World) (kids : F) (nk : Nat) (q i : Value) (wr : World) : Prop :=
  ∃ (j s : Nat), j ≤ nk ∧ i = .int .i64 j ∧ q = .int .i64 s ∧ s ≤ 1000000000 ∧ max s (depF (kids.drop j)) = depF kids ∧ Below B W wr

/-- What Depth answers for trees of a weight. -/
def DepSaid (g : Nat) (d : Nat) : Prop := ∀ (t : T), t.wt ≤ d → ∀ (w : World) (c : Array Value), RdT w t c → Calls Try.prog g #[.agg c] w fun e w' => e = .returned (.int .i64 (depT t : Nat)) ∧ Below w.heap.size w w'

set_option maxRecDepth 100000 in
set_option maxHeartbeats 1000000 in
theorem kids_calls (k : Int) (w : World) : Calls Try.prog 42 #[.int .i64 k] w fun e w' => e = .returned (.bool (isK k)) ∧ w = w' := by
  by_cases h1 : k = 3
  · subst h1
    go_enter Try.func42, Try.ntmps42
    go_wp2_with fail
    go_ret
    exact ⟨rfl, rfl⟩
  by_cases h2 : k = 4
  · subst h2
    go_enter Try.func42, Try.ntmps42
    go_wp2_with fail
    go_ret
    exact ⟨rfl, rfl⟩
  by_cases h3 : k = 15
  · subst h3
    go_enter Try.func42, Try.ntmps42
    go_wp2_with fail
    go_ret
    exact ⟨rfl, rfl⟩
  have n1 : (k == 3) = false := by simp; omega
  have n2 : (k == 4) = false := by simp; omega
  have n3 : (k == 15) = false := by simp; omega
  have HI : Hid (isK k = false) := by show isK k = false; unfold isK; rw [n1, n2, n3]; rfl
  clear h1 h2 h3
  go_enter Try.func42, Try.ntmps42
  go_wp2_with fail
  go_ret
  exact ⟨by rw [HI.out]; rfl, rfl⟩

set_option maxRecDepth 100000 in
set_option maxHeartbeats 4000000 in
theorem dep_step (d : Nat) (hd : d ≤ 1000000000) (hof : DepSaid 41 d) : DepSaid 41 (d + 1) := by
  intro t ht w c h
  obtain ⟨k, bits, hi, lo, text, more, sub, bs, kids⟩ := t
  obtain ⟨ab, nb, cb, ak, nk, ck, rfl, hok, hrb, hkl, hnk, hks⟩ := h
  have hkd : kids.wt ≤ d := by simp only [T.wt] at ht; omega
  have hkb := depF_wt kids
  have HO := Lib.hid hof
  have HKS := Lib.hid hks
  have HL := Lib.hid hkl
  have HF : Hid (depT (.mk k bits hi lo text more sub bs kids) = bif isK k then depF kids + 1 else 0) := by
    show depT _ = _
    simp only [depT]
  clear hof hok hrb hkl hks ht
  generalize depT (.mk k bits hi lo text more sub bs kids) = r at HF
  by_cases h3 : k = 3 ∨ k = 4 ∨ k = 15
  · have HT : Hid (r = depF kids + 1) := by
      show _ = _
      rw [HF.out]; rcases h3 with rfl | rfl | rfl <;> rfl
    clear HF
    rcases h3 with rfl | rfl | rfl
    all_goals
      go_enter Try.func41, Try.ntmps41
      go_wp2_with fail
      go_loopw [3, 22] (fun q i wr => DepRel (w.heap.size + 1) (w.alloc (.cells (valCells _ bits hi lo text more sub ab nb cb ak nk ck) 26)) kids nk q i wr) (fun _ i _ => nk - (intOf i).toNat)
      case atStart => exact ⟨0, 0, by omega, rfl, rfl, by omega, by simp [F.drop], Below.refl _ _⟩
      case round =>
        obtain ⟨j, s, hj, rfl, rfl, b0, hr, hbl⟩ := hrel
        have f0 := below_cell2 (p := ⟨w.heap.size, 0, none⟩) hbl (by simp [go_sem, valCells]; rfl) (by simp)
        have f8 : wr.cell? ⟨w.heap.size, 8, none⟩ = some (.slice ak nk ck) := below_cell2 hbl (by simp [go_sem, valCells]) (by simp)
        have hsz : w.heap.size + 1 ≤ wr.heap.size := by have := hbl.size; simp at this; omega
        have HKW := Lib.hid (HKS.out.keep (((Below.refl w.heap.size w).alloc (Nat.le_refl _) _).trans (hbl.mono (by omega))))
        have HBW := Lib.hid hbl
        clear hbl
        by_cases hlt : j < nk
        · obtain ⟨⟨nm, t⟩, hx⟩ := F.get_some kids j (by rw [HL.out]; exact hlt)
          have hw := F.wt_get kids j nm t hx
          have hg := depF_get kids j nm t hx
          have hb1 := depT_wt t
          obtain ⟨b, o, k', bits', hi', lo', text', more', sub', bs', kids', ab', nb', cb', ak', nk', ck', rfl, rfl, e1, e2, e3, g0, g1, g2, g3, g4, g5, g6, g7, g8, g9⟩ := (HKW.out.at hx).cells
          have HC := Lib.hid (HO.out _ (show T.wt (.mk k' bits' hi' lo' text' more' sub' bs' kids') ≤ d by omega))
          have E3 := Lib.hid e3
          rw [hg] at hr
          have hz : depT (.mk k' bits' hi' lo' text' more' sub' bs' kids') ≤ 1000000000 := by omega
          have HR := Lib.hid hr
          clear hx hg hr e3 hw hb1
          generalize depT (.mk k' bits' hi' lo' text' more' sub' bs' kids') = z at HC HR hz
          have hj0 : (0 : Int) ≤ (j : Int) := by omega
          have hj1 : (j : Int) < (nk : Int) := by omega
          go_wp2_with (go_at_call 41; refine (HC.out _ _ ?_).mono ?_; (exact E3.out.keep ((Below.refl _ _).alloc (Nat.le_refl _) _)); rintro e w' ⟨rfl, hb⟩)
          all_goals
            go_wp2_with fail
            go_roundw
            case rel => exact ⟨j + 1, max s z, by omega, by simp, by first | rfl | (congr 1; omega) | (simp; omega), by omega, by have := HR.out; omega, HBW.out.trans (((Below.refl _ _).alloc hsz _).trans (hb.mono (by simp; omega)))⟩
            case measure => simp [intOf]; omega
        · have hf : Hid (depF kids = s) := by
            show depF kids = s
            rw [← hr, F.drop_len kids j (by rw [HL.out]; omega)]
            simp [depF]
          clear hr
          go_wp2_with fail
          go_ret
          exact ⟨by rw [HT.out, hf.out]; rfl, ((Below.refl w.heap.size w).alloc (Nat.le_refl _) _).trans (HBW.out.mono (by omega))⟩
  · have n1 : (k == 3) = false := by simp; omega
    have n2 : (k == 4) = false := by simp; omega
    have n3 : (k == 15) = false := by simp; omega
    have m1 : (k != 3) = true := by simp; omega
    have m2 : (k != 4) = true := by simp; omega
    have m3 : (k != 15) = true := by simp; omega
    have HT : Hid (r = 0) := by
      show _ = _
      rw [HF.out]; unfold isK; rw [n1, n2, n3]; rfl
    have i0 : isK k = false := by unfold isK; rw [n1, n2, n3]; rfl
    clear h3 HF
    go_enter Try.func41, Try.ntmps41
    go_wp2_with fail
    all_goals
      go_ret
      exact ⟨by rw [HT.out]; rfl, (Below.refl _ _).alloc (Nat.le_refl _) _⟩
theorem dep_all : ∀ d, d ≤ 1000000001 → DepSaid 41 d
  | 0, _ => fun t ht => by cases t; simp only [T.wt] at ht; omega
  | d + 1, h => dep_step d (by omega) (dep_all d (by omega))

end Go.Proofs.Ytiodjhcjfbnocaa
