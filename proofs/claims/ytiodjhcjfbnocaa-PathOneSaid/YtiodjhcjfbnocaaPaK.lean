/- The reference's All and Count, walked. -/
import Derived.Test.YtiodjhcjfbnocaaPaJ
namespace Go.Proofs.Ytiodjhcjfbnocaa
open Go.RowKit
set_option linter.unusedVariables false
set_option linter.unusedSimpArgs false

theorem rall_all : ∀ d, RAllSaid d
  | 0 => fun t hd => by cases t; simp only [T.wt] at hd; omega
  | d + 1 => rall_step d (rall_all d)

theorem rdps_nil (S : Nat → Prop) (w : World) : RdPS S w none [] := ⟨fun i hi => absurd hi (by simp), fun h => absurd h (by simp)⟩

set_option maxRecDepth 100000 in
set_option maxHeartbeats 2000000 in
theorem rallt_calls (t : T) (w : World) (c : Array Value) (h : RdT w t c) (hw : t.wt ≤ 90000) :
    Calls Try.prog 16 #[.agg c] w fun e w' => ∃ v, e = .returned v ∧ OwnR w' w.heap.size (fun k => w.heap.size ≤ k) v (allT t []) ∧ Below w.heap.size w w' := by
  have HR := Lib.hid h
  have HA := Lib.hid (rall_all t.wt t (Nat.le_refl _))
  obtain ⟨k, bits, hi, lo, text, more, sub, bs, kids⟩ := t
  obtain ⟨ab, nb, cb, ak, nk, ck, rfl, -⟩ := h
  have hB1 : Below w.heap.size w (w.alloc (.cells (valCells k bits hi lo text more sub ab nb cb ak nk ck) 26)) := (Below.refl _ _).alloc (Nat.le_refl _) _
  have C := Lib.hid (HA.out (fun _ => False) _ (valCells k bits hi lo text more sub ab nb cb ak nk ck) none 0 0 [] (HR.out.keep hB1) (rdps_nil _ _) (fun k hk => hk.elim) rfl (fun _ => rfl) (Nat.le_refl _) (by omega))
  have HB := Lib.hid hB1
  clear hB1 HA HR hw
  go_enter Try.func16, Try.ntmps16
  go_wp2_with fail
  refine C.out.mono ?_
  rintro e w1 ⟨v, rfl, ho, hb⟩
  have HB1 : Hid (Below w.heap.size w w1) := HB.out.trans (hb.mono HB.out.size)
  have HO : Hid (OwnR w1 w.heap.size (fun k => w.heap.size ≤ k) v (allT (.mk k bits hi lo text more sub bs kids) [])) := (ho.base (by simp)).imp (fun k _ hk => by
    rcases hk with hk | hk
    · exact hk.elim
    · simp at hk; omega)
  clear ho hb C HB
  go_wp2_with fail
  go_ret
  exact ⟨_, rfl, HO.out, HB1.out⟩

theorem countT_wt (t : T) : countT t ≤ t.wt := by
  rw [← allT_len t []]
  exact allT_wt t []
theorem countF_wt (f : F) : countF f ≤ f.wt := by
  rw [← allF_len f 0 []]
  exact allF_wt f 0 []
theorem countF_step (kids : F) (j : Nat) (n : ByteArray) (t : T) (h : kids.get? j = some (n, t)) : countF (kids.drop j) = countT t + countF (kids.drop (j + 1)) := by
  rw [F.drop_get kids j n t h]; rfl

def RCntSaid (d : Nat) : Prop := ∀ t : T, t.wt ≤ d → ∀ (w : World) (c : Array Value), RdT w t c → t.wt ≤ 1000000 →
  Calls Try.prog 17 #[.agg c] w fun e w' => e = .returned (.int .i64 (countT t : Nat)) ∧ Below w.heap.size w w'

def RCntRel (w : World) (kids : F) (c : Array Value) (g : Nat) (m i : Value) (wr : World) : Prop :=
  ∃ (n j : Nat), m = .int .i64 n ∧ i = .int .i64 j ∧ j ≤ kids.len ∧ Hid (g = n + countF (kids.drop j)) ∧ BoxV wr w.heap.size c ∧ Below w.heap.size w wr

set_option maxRecDepth 100000 in
set_option maxHeartbeats 8000000 in
theorem rcnt_step (d : Nat) (hof : RCntSaid d) : RCntSaid (d + 1) := by
  intro t hd w c h hxl
  have hct := countT_wt t
  obtain ⟨k, bits, hi, lo, text, more, sub, bs, kids⟩ := t
  have hwt : T.wt (.mk k bits hi lo text more sub bs kids) = 2 + text.size + more.size + bs.length + kids.wt := by simp only [T.wt]
  rw [hwt] at hd hxl hct
  have hlk := F.len_wt kids
  obtain ⟨ab, nb, cb, ak, nk, ck, rfl, -, -, hkl, hnk, hks⟩ := h
  obtain ⟨G, hG⟩ : ∃ G, G = countT (.mk k bits hi lo text more sub bs kids) := ⟨_, rfl⟩
  rw [← hG] at hct ⊢
  have hGS : Hid (G = 1 + countF (kids.drop 0)) := by show _ = _; rw [hG]; simp [countT, F.drop]; try omega
  have HOF := Lib.hid hof
  have HKS := Lib.hid hks
  have HKL := Lib.hid hkl
  have hnk9 := hnk.1
  clear hof hks hkl hwt hnk hG
  go_enter Try.func17, Try.ntmps17
  go_wp2_with fail
  go_loopw [3, 4] (fun m i wr => RCntRel w kids (valCells k bits hi lo text more sub ab nb cb ak nk ck) G m i wr) (fun _ i _ => nk - (intOf i).toNat)
  case atStart => exact ⟨1, 0, rfl, rfl, Nat.zero_le _, hGS, BoxV.new _ _ _, (Below.refl _ _).alloc (Nat.le_refl _) _⟩
  case round =>
    obtain ⟨m, j, rfl, rfl, hj, HGG, hbx, hbw⟩ := hrel
    rw [HKL.out] at hj
    have HBX := Lib.hid hbx
    have HBW := Lib.hid hbw
    have hz := hbx.1
    clear hbx hbw
    by_cases hlt : j < nk
    · obtain ⟨⟨nm, tt⟩, hx⟩ := F.get_some kids j (by rw [HKL.out]; exact hlt)
      have hwg := F.wt_get kids j nm tt hx
      have hst := countF_step kids j nm tt hx
      obtain ⟨b, o, k', bits', hi', lo', text', more', sub', bs', kids', ab', nb', cb', ak', nk', ck', rfl, rfl, e1, e2, e3, g0, g1, g2, g3, g4, g5, g6, g7, g8, g9⟩ := ((HKS.out.keep HBW.out).at hx).cells
      have hj0 : (0 : Int) ≤ (j : Int) := by omega
      have hj1 : (j : Int) < (nk : Int) := by omega
      have hgg := HGG.out
      obtain ⟨N, hN⟩ : ∃ N, N = countT (T.mk k' bits' hi' lo' text' more' sub' bs' kids') := ⟨_, rfl⟩
      have C := Lib.hid (HOF.out (T.mk k' bits' hi' lo' text' more' sub' bs' kids') (by omega) wr _ e3 (by omega))
      rw [← hN] at C hst
      have hmN : m + N ≤ 1000000 := by omega
      have HST : Hid (G = (m + N) + countF (kids.drop (j + 1))) := by show _ = _; omega
      have c8 : wr.cell? ⟨w.heap.size, 8, none⟩ = some (.slice (some ⟨b, o, none⟩) nk ck) := (HBX.out.2 8 (by omega)).1
      clear hx hst e3 e1 hgg hN
      go_wp2_with fail
      refine C.out.mono ?_
      rintro e w5 ⟨rfl, hb5⟩
      have HB5 : Hid (Below w.heap.size w w5) := HBW.out.trans (hb5.mono HBW.out.size)
      have HX5 := Lib.hid (HBX.out.keep hb5)
      clear hb5 c8 g0 g1 g2 g3 g4 g5 g6 g7 g8 g9
      go_wp2_with fail
      go_roundw
      case rel => exact ⟨m + N, j + 1, by simp; try omega, by simp, by rw [HKL.out]; omega, HST, HX5.out, HB5.out⟩
      case measure => simp [intOf]; omega
    · have hend : G = m := by
        have h1 := HGG.out
        rw [F.drop_len kids j (by rw [HKL.out]; omega)] at h1
        simpa [countF] using h1
      have HE := Lib.hid hend
      clear hend
      have c8 : wr.cell? ⟨w.heap.size, 8, none⟩ = some (.slice ak nk ck) := (HBX.out.2 8 (by omega)).1
      go_wp2_with fail
      go_ret
      exact ⟨by rw [HE.out]; rfl, HBW.out⟩

theorem rcnt_all : ∀ d, RCntSaid d
  | 0 => fun t hd => by cases t; simp only [T.wt] at hd; omega
  | d + 1 => rcnt_step d (rcnt_all d)

end Go.Proofs.Ytiodjhcjfbnocaa
