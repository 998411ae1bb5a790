/- SizeAdds: the walk. -/
import Derived.Test.YtiodjhcjfbnocaaSizeD
import Derived.Test.YtiodjhcjfbnocaaSizeD4
import Derived.Test.YtiodjhcjfbnocaaSizeD15
namespace Go.Proofs.Ytiodjhcjfbnocaa
open Go.RowKit
set_option linter.unusedVariables false
set_option linter.unusedSimpArgs false

set_option maxRecDepth 100000 in
set_option maxHeartbeats 2000000 in
theorem SizeAdds_walk (w : World) (c : Array Value) (t : T) (h : RdT w t c) (nm : ByteArray) (c' : Array Value) (t' : T) (hnm0 : nm.size ≤ 9223372036854775807) (h' : RdT w t' c') :
    Calls Try.prog 3 #[.agg c, .agg (#[.string nm] ++ c')] w fun e w' => e = .returned (.bool true) ∧ Below w.heap.size w w' := by
  have H := Lib.hid h
  have H' := Lib.hid h'
  have CS := Lib.hid (fun W c h => small_calls t W c h)
  have CS' := Lib.hid (fun W c h => small_calls t' W c h)
  by_cases hs : smallT t = true
  · by_cases hs' : smallT t' = true
    · by_cases hnm : nm.size ≤ 1000
      · by_cases h3 : t.kind = 3
        · exact SizeAdds_core3 w c t h nm hnm c' t' h' hs hs' h3
        by_cases h4 : t.kind = 4
        · exact SizeAdds_core4 w c t h nm hnm c' t' h' hs hs' h4
        by_cases h15 : t.kind = 15
        · exact SizeAdds_core15 w c t h nm hnm c' t' h' hs hs' h15
        rw [hs] at CS
        rw [hs'] at CS'
        obtain ⟨k, bits, hi, lo, text, more, sub, bs, kids⟩ := t
        obtain ⟨ab, nb, cb, ak, nk, ck, rfl, _⟩ := h
        obtain ⟨k', bits', hi', lo', text', more', sub', bs', kids'⟩ := t'
        obtain ⟨ab', nb', cb', ak', nk', ck', rfl, _⟩ := h'
        simp only [T.kind] at h3 h4 h15
        have n3 : (k != 3) = true := by simpa using h3
        have n4 : (k != 4) = true := by simpa using h4
        have n15 : (k != 15) = true := by simpa using h15
        clear h3 h4 h15 hs hs'
        go_enter Try.func3, Try.ntmps3
        go_wp2_with fail
        refine (awake19 _).mono ?_
        rintro e w1 ⟨rfl, hb1⟩
        have h1 := (((Below.refl w.heap.size w).alloc (Nat.le_refl _) (.cells (valCells _ bits hi lo text more sub ab nb cb ak nk ck) 26)).alloc (by simp) (.cells (#[.string nm] ++ (valCells k' bits' hi' lo' text' more' sub' ab' nb' cb' ak' nk' ck')) 28)).trans (hb1.mono (by simp; omega))
        have H1 := Lib.hid h1
        have c0 := fun (j : Nat) => hb1.cell (p := ⟨w.heap.size, j, none⟩) (by simp; omega)
        have c1 := fun (j : Nat) => hb1.cell (p := ⟨w.heap.size + 1, j, none⟩) (by simp)
        simp [go_sem, valCells] at c0 c1
        have d0 := c0 0
        have d1 := c0 1
        have d2 := c0 2
        have d3 := c0 3
        have d4 := c0 4
        have d5 := c0 5
        have d6 := c0 6
        have d7 := c0 7
        have d8 := c0 8
        have x0 := c1 0
        have x1 := c1 1
        have x2 := c1 2
        have x3 := c1 3
        have x4 := c1 4
        have x5 := c1 5
        have x6 := c1 6
        have x7 := c1 7
        have x8 := c1 8
        have x9 := c1 9
        simp at d0 d1 d2 d3 d4 d5 d6 d7 d8 x0 x1 x2 x3 x4 x5 x6 x7 x8 x9
        clear c0 c1 hb1 h1
        go_wp2_with fail
        refine (CS.out _ _ (H.out.keep H1.out)).mono ?_
        rintro e w2 ⟨rfl, hb2⟩
        have HB2 := Lib.hid (H1.out.trans (hb2.mono H1.out.size))
        have d0 := cell_below hb2 d0
        have d1 := cell_below hb2 d1
        have d2 := cell_below hb2 d2
        have d3 := cell_below hb2 d3
        have d4 := cell_below hb2 d4
        have d5 := cell_below hb2 d5
        have d6 := cell_below hb2 d6
        have d7 := cell_below hb2 d7
        have d8 := cell_below hb2 d8
        have x0 := cell_below hb2 x0
        have x1 := cell_below hb2 x1
        have x2 := cell_below hb2 x2
        have x3 := cell_below hb2 x3
        have x4 := cell_below hb2 x4
        have x5 := cell_below hb2 x5
        have x6 := cell_below hb2 x6
        have x7 := cell_below hb2 x7
        have x8 := cell_below hb2 x8
        have x9 := cell_below hb2 x9
        clear hb2 H1
        go_wp2_with fail
        refine (CS'.out _ _ (H'.out.keep HB2.out)).mono ?_
        rintro e w3 ⟨rfl, hb3⟩
        have HB3 := Lib.hid (HB2.out.trans (hb3.mono HB2.out.size))
        have d0 := cell_below hb3 d0
        have d1 := cell_below hb3 d1
        have d2 := cell_below hb3 d2
        have d3 := cell_below hb3 d3
        have d4 := cell_below hb3 d4
        have d5 := cell_below hb3 d5
        have d6 := cell_below hb3 d6
        have d7 := cell_below hb3 d7
        have d8 := cell_below hb3 d8
        have x0 := cell_below hb3 x0
        have x1 := cell_below hb3 x1
        have x2 := cell_below hb3 x2
        have x3 := cell_below hb3 x3
        have x4 := cell_below hb3 x4
        have x5 := cell_below hb3 x5
        have x6 := cell_below hb3 x6
        have x7 := cell_below hb3 x7
        have x8 := cell_below hb3 x8
        have x9 := cell_below hb3 x9
        clear hb3 HB2
        go_wp2_with fail
        go_ret
        exact ⟨rfl, HB3.out⟩
      · rw [hs] at CS
        rw [hs'] at CS'
        obtain ⟨k, bits, hi, lo, text, more, sub, bs, kids⟩ := t
        obtain ⟨ab, nb, cb, ak, nk, ck, rfl, _⟩ := h
        obtain ⟨k', bits', hi', lo', text', more', sub', bs', kids'⟩ := t'
        obtain ⟨ab', nb', cb', ak', nk', ck', rfl, _⟩ := h'
        have dn : decide ((1000 : Int) < (nm.size : Int)) = true := by simp; omega
        clear hs hs' hnm
        go_enter Try.func3, Try.ntmps3
        go_wp2_with fail
        refine (awake19 _).mono ?_
        rintro e w1 ⟨rfl, hb1⟩
        have h1 := (((Below.refl w.heap.size w).alloc (Nat.le_refl _) (.cells (valCells _ bits hi lo text more sub ab nb cb ak nk ck) 26)).alloc (by simp) (.cells (#[.string nm] ++ (valCells k' bits' hi' lo' text' more' sub' ab' nb' cb' ak' nk' ck')) 28)).trans (hb1.mono (by simp; omega))
        have H1 := Lib.hid h1
        have c0 := fun (j : Nat) => hb1.cell (p := ⟨w.heap.size, j, none⟩) (by simp; omega)
        have c1 := fun (j : Nat) => hb1.cell (p := ⟨w.heap.size + 1, j, none⟩) (by simp)
        simp [go_sem, valCells] at c0 c1
        have d0 := c0 0
        have d1 := c0 1
        have d2 := c0 2
        have d3 := c0 3
        have d4 := c0 4
        have d5 := c0 5
        have d6 := c0 6
        have d7 := c0 7
        have d8 := c0 8
        have x0 := c1 0
        have x1 := c1 1
        have x2 := c1 2
        have x3 := c1 3
        have x4 := c1 4
        have x5 := c1 5
        have x6 := c1 6
        have x7 := c1 7
        have x8 := c1 8
        have x9 := c1 9
        simp at d0 d1 d2 d3 d4 d5 d6 d7 d8 x0 x1 x2 x3 x4 x5 x6 x7 x8 x9
        clear c0 c1 hb1 h1
        go_wp2_with fail
        refine (CS.out _ _ (H.out.keep H1.out)).mono ?_
        rintro e w2 ⟨rfl, hb2⟩
        have HB2 := Lib.hid (H1.out.trans (hb2.mono H1.out.size))
        have d0 := cell_below hb2 d0
        have d1 := cell_below hb2 d1
        have d2 := cell_below hb2 d2
        have d3 := cell_below hb2 d3
        have d4 := cell_below hb2 d4
        have d5 := cell_below hb2 d5
        have d6 := cell_below hb2 d6
        have d7 := cell_below hb2 d7
        have d8 := cell_below hb2 d8
        have x0 := cell_below hb2 x0
        have x1 := cell_below hb2 x1
        have x2 := cell_below hb2 x2
        have x3 := cell_below hb2 x3
        have x4 := cell_below hb2 x4
        have x5 := cell_below hb2 x5
        have x6 := cell_below hb2 x6
        have x7 := cell_below hb2 x7
        have x8 := cell_below hb2 x8
        have x9 := cell_below hb2 x9
        clear hb2 H1
        go_wp2_with fail
        refine (CS'.out _ _ (H'.out.keep HB2.out)).mono ?_
        rintro e w3 ⟨rfl, hb3⟩
        have HB3 := Lib.hid (HB2.out.trans (hb3.mono HB2.out.size))
        have d0 := cell_below hb3 d0
        have d1 := cell_below hb3 d1
        have d2 := cell_below hb3 d2
        have d3 := cell_below hb3 d3
        have d4 := cell_below hb3 d4
        have d5 := cell_below hb3 d5
        have d6 := cell_below hb3 d6
        have d7 := cell_below hb3 d7
        have d8 := cell_below hb3 d8
        have x0 := cell_below hb3 x0
        have x1 := cell_below hb3 x1
        have x2 := cell_below hb3 x2
        have x3 := cell_below hb3 x3
        have x4 := cell_below hb3 x4
        have x5 := cell_below hb3 x5
        have x6 := cell_below hb3 x6
        have x7 := cell_below hb3 x7
        have x8 := cell_below hb3 x8
        have x9 := cell_below hb3 x9
        clear hb3 HB2
        go_wp2_with fail
        go_ret
        exact ⟨rfl, HB3.out⟩
    · have hs'' : smallT t' = false := by simpa using hs'
      rw [hs] at CS
      rw [hs''] at CS'
      obtain ⟨k, bits, hi, lo, text, more, sub, bs, kids⟩ := t
      obtain ⟨ab, nb, cb, ak, nk, ck, rfl, _⟩ := h
      obtain ⟨k', bits', hi', lo', text', more', sub', bs', kids'⟩ := t'
      obtain ⟨ab', nb', cb', ak', nk', ck', rfl, _⟩ := h'
      clear hs hs' hs''
      go_enter Try.func3, Try.ntmps3
      go_wp2_with fail
      refine (awake19 _).mono ?_
      rintro e w1 ⟨rfl, hb1⟩
      have h1 := (((Below.refl w.heap.size w).alloc (Nat.le_refl _) (.cells (valCells _ bits hi lo text more sub ab nb cb ak nk ck) 26)).alloc (by simp) (.cells (#[.string nm] ++ (valCells k' bits' hi' lo' text' more' sub' ab' nb' cb' ak' nk' ck')) 28)).trans (hb1.mono (by simp; omega))
      have H1 := Lib.hid h1
      have c0 := fun (j : Nat) => hb1.cell (p := ⟨w.heap.size, j, none⟩) (by simp; omega)
      have c1 := fun (j : Nat) => hb1.cell (p := ⟨w.heap.size + 1, j, none⟩) (by simp)
      simp [go_sem, valCells] at c0 c1
      have d0 := c0 0
      have d1 := c0 1
      have d2 := c0 2
      have d3 := c0 3
      have d4 := c0 4
      have d5 := c0 5
      have d6 := c0 6
      have d7 := c0 7
      have d8 := c0 8
      have x0 := c1 0
      have x1 := c1 1
      have x2 := c1 2
      have x3 := c1 3
      have x4 := c1 4
      have x5 := c1 5
      have x6 := c1 6
      have x7 := c1 7
      have x8 := c1 8
      have x9 := c1 9
      simp at d0 d1 d2 d3 d4 d5 d6 d7 d8 x0 x1 x2 x3 x4 x5 x6 x7 x8 x9
      clear c0 c1 hb1 h1
      go_wp2_with fail
      refine (CS.out _ _ (H.out.keep H1.out)).mono ?_
      rintro e w2 ⟨rfl, hb2⟩
      have HB2 := Lib.hid (H1.out.trans (hb2.mono H1.out.size))
      have d0 := cell_below hb2 d0
      have d1 := cell_below hb2 d1
      have d2 := cell_below hb2 d2
      have d3 := cell_below hb2 d3
      have d4 := cell_below hb2 d4
      have d5 := cell_below hb2 d5
      have d6 := cell_below hb2 d6
      have d7 := cell_below hb2 d7
      have d8 := cell_below hb2 d8
      have x0 := cell_below hb2 x0
      have x1 := cell_below hb2 x1
      have x2 := cell_below hb2 x2
      have x3 := cell_below hb2 x3
      have x4 := cell_below hb2 x4
      have x5 := cell_below hb2 x5
      have x6 := cell_below hb2 x6
      have x7 := cell_below hb2 x7
      have x8 := cell_below hb2 x8
      have x9 := cell_below hb2 x9
      clear hb2 H1
      go_wp2_with fail
      refine (CS'.out _ _ (H'.out.keep HB2.out)).mono ?_
      rintro e w3 ⟨rfl, hb3⟩
      have HB3 := Lib.hid (HB2.out.trans (hb3.mono HB2.out.size))
      clear hb3 HB2
      go_wp2_with fail
      go_ret
      exact ⟨rfl, HB3.out⟩
  · have hs'' : smallT t = false := by simpa using hs
    rw [hs''] at CS
    obtain ⟨k, bits, hi, lo, text, more, sub, bs, kids⟩ := t
    obtain ⟨ab, nb, cb, ak, nk, ck, rfl, _⟩ := h
    obtain ⟨k', bits', hi', lo', text', more', sub', bs', kids'⟩ := t'
    obtain ⟨ab', nb', cb', ak', nk', ck', rfl, _⟩ := h'
    clear hs hs''
    go_enter Try.func3, Try.ntmps3
    go_wp2_with fail
    refine (awake19 _).mono ?_
    rintro e w1 ⟨rfl, hb1⟩
    have h1 := (((Below.refl w.heap.size w).alloc (Nat.le_refl _) (.cells (valCells _ bits hi lo text more sub ab nb cb ak nk ck) 26)).alloc (by simp) (.cells (#[.string nm] ++ (valCells k' bits' hi' lo' text' more' sub' ab' nb' cb' ak' nk' ck')) 28)).trans (hb1.mono (by simp; omega))
    have H1 := Lib.hid h1
    have c0 := fun (j : Nat) => hb1.cell (p := ⟨w.heap.size, j, none⟩) (by simp; omega)
    have c1 := fun (j : Nat) => hb1.cell (p := ⟨w.heap.size + 1, j, none⟩) (by simp)
    simp [go_sem, valCells] at c0 c1
    have d0 := c0 0
    have d1 := c0 1
    have d2 := c0 2
    have d3 := c0 3
    have d4 := c0 4
    have d5 := c0 5
    have d6 := c0 6
    have d7 := c0 7
    have d8 := c0 8
    have x0 := c1 0
    have x1 := c1 1
    have x2 := c1 2
    have x3 := c1 3
    have x4 := c1 4
    have x5 := c1 5
    have x6 := c1 6
    have x7 := c1 7
    have x8 := c1 8
    have x9 := c1 9
    simp at d0 d1 d2 d3 d4 d5 d6 d7 d8 x0 x1 x2 x3 x4 x5 x6 x7 x8 x9
    clear c0 c1 hb1 h1
    go_wp2_with fail
    refine (CS.out _ _ (H.out.keep H1.out)).mono ?_
    rintro e w2 ⟨rfl, hb2⟩
    have HB2 := Lib.hid (H1.out.trans (hb2.mono H1.out.size))
    clear hb2 H1
    go_wp2_with fail
    go_ret
    exact ⟨rfl, HB2.out⟩
end Go.Proofs.Ytiodjhcjfbnocaa
