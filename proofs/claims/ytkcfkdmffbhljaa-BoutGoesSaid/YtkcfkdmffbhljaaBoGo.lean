/- BoutGoes: the walk. -/
import Derived.Test.YtkcfkdmffbhljaaBoCo
import Derived.Test.YtkcfkdmffbhljaaBinG
import Derived.Test.YtkcfkdmffbhljaaMA
import Derived.Test.YtkcfkdmffbhljaaMH
import Derived.Deep.RegionHeld3
import Derived.Deep.CutRange
namespace Go.Proofs.Ytkcfkdmffbhljaa
open Go.RowKit
set_option linter.unusedVariables false
set_option linter.unusedSimpArgs false

theorem F.len_wt : ∀ f : F, f.len ≤ f.wt
  | .nil => by simp [F.len]
  | .cons n t r => by
    have h1 := F.len_wt r
    have h2 : 2 ≤ t.wt := by cases t; simp only [T.wt]; omega
    simp only [F.len, F.wt]; omega
theorem F.wt_append : ∀ f g : F, (f.append g).wt = f.wt + g.wt
  | .nil, g => by simp [F.append, F.wt]
  | .cons n t r, g => by simp only [F.append, F.wt, F.wt_append r g]; omega

/-- The box of the tree with one Kid more. -/
def GoRel (w3 : World) (g5 : Nat) (k : Int) (bits hi lo : Nat) (text more : ByteArray) (sub : Int) (ab : Option Addr) (nb cb : Nat) (f : F) (bs : List UInt8) (W : World) : Prop :=
  ∃ aK cK, BoxV W g5 (valCells k bits hi lo text more sub ab nb cb aK f.len cK) ∧ RdT W (.mk k bits hi lo text more sub bs f) (valCells k bits hi lo text more sub ab nb cb aK f.len cK) ∧ Below w3.heap.size w3 W

set_option maxRecDepth 100000 in
set_option maxHeartbeats 16000000 in
theorem BoutGoes_walk (w : World) (c : Array Value) (t : T) (h : RdT w t c) (nm : ByteArray) (c' : Array Value) (t' : T) (hnm : nm.size ≤ 9223372036854775807) (h' : RdT w t' c') :
    Calls Try.prog 11 #[.agg c, .agg (#[.string nm] ++ c')] w fun e w' => e = .returned (.bool true) ∧ Below w.heap.size w w' := by
  obtain ⟨k, bits, hi, lo, text, more, sub, bs, kids⟩ := t
  obtain ⟨k', bits', hi', lo', text', more', sub', bs', kids'⟩ := t'
  have H := Lib.hid h
  have H' := Lib.hid h'
  obtain ⟨ab, nb, cb, ak, nk, ck, rfl, -⟩ := h
  obtain ⟨ab', nb', cb', ak', nk', ck', rfl, -⟩ := h'
  obtain ⟨wa, hwa⟩ : ∃ W, W = (w.alloc (.cells (valCells k bits hi lo text more sub ab nb cb ak nk ck) 26)).alloc (.cells #[.string nm, .int .i64 k', .int .u64 (bits' : Nat), .int .u64 (hi' : Nat), .int .u64 (lo' : Nat), .string text', .string more', .int .i64 sub', .slice ab' nb' cb', .slice ak' nk' ck'] 57) := ⟨_, rfl⟩
  have hb0 : Below w.heap.size w (w.alloc (.cells (valCells k bits hi lo text more sub ab nb cb ak nk ck) 26)) := (Below.refl _ _).alloc (Nat.le_refl _) _
  have hba : Below w.heap.size w wa := by rw [hwa]; exact hb0.alloc hb0.size _
  obtain ⟨g1, hg1⟩ : ∃ g, g = w.heap.size + 1 := ⟨_, rfl⟩
  have hxa : BoxV wa w.heap.size (valCells k bits hi lo text more sub ab nb cb ak nk ck) := by rw [hwa]; exact (BoxV.new _ _ _).keep ((Below.refl _ _).alloc (Nat.le_refl _) _)
  have hxf : wa.cell? ⟨g1, 0, none⟩ = some (.string nm) ∧ wa.cell? ⟨g1, 1, none⟩ = some (.int .i64 k') ∧ wa.cell? ⟨g1, 2, none⟩ = some (.int .u64 (bits' : Nat)) ∧ wa.cell? ⟨g1, 3, none⟩ = some (.int .u64 (hi' : Nat)) ∧ wa.cell? ⟨g1, 4, none⟩ = some (.int .u64 (lo' : Nat)) ∧ wa.cell? ⟨g1, 5, none⟩ = some (.string text') ∧ wa.cell? ⟨g1, 6, none⟩ = some (.string more') ∧ wa.cell? ⟨g1, 7, none⟩ = some (.int .i64 sub') ∧ wa.cell? ⟨g1, 8, none⟩ = some (.slice ab' nb' cb') ∧ wa.cell? ⟨g1, 9, none⟩ = some (.slice ak' nk' ck') ∧ g1 < wa.heap.size := by
    rw [hwa, hg1]
    refine ⟨?_, ?_, ?_, ?_, ?_, ?_, ?_, ?_, ?_, ?_, ?_⟩ <;> simp [go_sem, valCells]
  have HBX : Hid (∀ W, Below wa.heap.size wa W → BoxV W w.heap.size (valCells k bits hi lo text more sub ab nb cb ak nk ck)) := fun W hW => hxa.keep hW
  have HBF : Hid (∀ W, Below wa.heap.size wa W → W.cell? ⟨g1, 0, none⟩ = some (.string nm) ∧ W.cell? ⟨g1, 1, none⟩ = some (.int .i64 k') ∧ W.cell? ⟨g1, 2, none⟩ = some (.int .u64 (bits' : Nat)) ∧ W.cell? ⟨g1, 3, none⟩ = some (.int .u64 (hi' : Nat)) ∧ W.cell? ⟨g1, 4, none⟩ = some (.int .u64 (lo' : Nat)) ∧ W.cell? ⟨g1, 5, none⟩ = some (.string text') ∧ W.cell? ⟨g1, 6, none⟩ = some (.string more') ∧ W.cell? ⟨g1, 7, none⟩ = some (.int .i64 sub') ∧ W.cell? ⟨g1, 8, none⟩ = some (.slice ab' nb' cb') ∧ W.cell? ⟨g1, 9, none⟩ = some (.slice ak' nk' ck') ∧ g1 < W.heap.size) := by
    show ∀ W, _
    intro W hW
    obtain ⟨x0, x1, x2, x3, x4, x5, x6, x7, x8, x9, m0⟩ := hxf
    exact ⟨cell_below hW x0, cell_below hW x1, cell_below hW x2, cell_below hW x3, cell_below hW x4, cell_below hW x5, cell_below hW x6, cell_below hW x7, cell_below hW x8, cell_below hW x9, Nat.lt_of_lt_of_le m0 hW.size⟩
  have HBA := Lib.hid hba
  have HT : Hid (∀ W, Below wa.heap.size wa W → RdT W (.mk k bits hi lo text more sub bs kids) (valCells k bits hi lo text more sub ab nb cb ak nk ck)) := fun W hW => (H.out.keep hba).keep hW
  have HU : Hid (∀ W, Below wa.heap.size wa W → RdT W (.mk k' bits' hi' lo' text' more' sub' bs' kids') (valCells k' bits' hi' lo' text' more' sub' ab' nb' cb' ak' nk' ck')) := fun W hW => (H'.out.keep hba).keep hW
  have CS := Lib.hid (fun W h => small_calls (.mk k bits hi lo text more sub bs kids) W (valCells k bits hi lo text more sub ab nb cb ak nk ck) h)
  have CU := Lib.hid (fun W h => small_calls (.mk k' bits' hi' lo' text' more' sub' bs' kids') W (valCells k' bits' hi' lo' text' more' sub' ab' nb' cb' ak' nk' ck') h)
  have HG1 : Hid (w.heap.size + 1 = g1) := hg1.symm
  obtain ⟨f0, f1, f2, f3, f4, f5, f6, f7, f8, l0⟩ := hxa.nine
  obtain ⟨x0, x1, x2, x3, x4, x5, x6, x7, x8, x9, m0⟩ := hxf
  clear hba hxa hb0
  cases hs : smallT (.mk k bits hi lo text more sub bs kids) with
  | false =>
    rw [hs] at CS
    clear hs
    go_enter Try.func11, Try.ntmps11
    go_upto_region 1 with fail
    rw [← hwa, ← hg1]
    clear hwa hg1
    go_wp2_with fail
    refine (awake20 _).mono ?_
    rintro e w1 ⟨rfl, hb1⟩
    have HB1 := Lib.hid hb1
    clear f0 f1 f2 f3 f4 f5 f6 f7 f8 l0 x0 x1 x2 x3 x4 x5 x6 x7 x8 x9 m0
    obtain ⟨f0, f1, f2, f3, f4, f5, f6, f7, f8, l0⟩ := (HBX.out w1 HB1.out).nine
    obtain ⟨x0, x1, x2, x3, x4, x5, x6, x7, x8, x9, m0⟩ := HBF.out w1 HB1.out
    clear hb1
    go_wp2_with fail
    refine (CS.out _ (HT.out _ HB1.out)).mono ?_
    rintro e w2 ⟨rfl, hb2⟩
    have HB2 : Hid (Below wa.heap.size wa w2) := HB1.out.trans (hb2.mono HB1.out.size)
    clear f0 f1 f2 f3 f4 f5 f6 f7 f8 l0 x0 x1 x2 x3 x4 x5 x6 x7 x8 x9 m0
    obtain ⟨f0, f1, f2, f3, f4, f5, f6, f7, f8, l0⟩ := (HBX.out w2 HB2.out).nine
    obtain ⟨x0, x1, x2, x3, x4, x5, x6, x7, x8, x9, m0⟩ := HBF.out w2 HB2.out
    clear hb2
    go_wp2_with fail
    go_ret
    exact ⟨rfl, HBA.out.trans (HB2.out.mono HBA.out.size)⟩
  | true =>
    have hwt := wt_small hs
    rw [hs] at CS
    clear hs
    cases hs2 : smallT (.mk k' bits' hi' lo' text' more' sub' bs' kids') with
    | false =>
      rw [hs2] at CU
      clear hs2 hwt
      go_enter Try.func11, Try.ntmps11
      go_upto_region 1 with fail
      rw [← hwa, ← hg1]
      clear hwa hg1
      go_wp2_with fail
      refine (awake20 _).mono ?_
      rintro e w1 ⟨rfl, hb1⟩
      have HB1 := Lib.hid hb1
      clear f0 f1 f2 f3 f4 f5 f6 f7 f8 l0 x0 x1 x2 x3 x4 x5 x6 x7 x8 x9 m0
      obtain ⟨f0, f1, f2, f3, f4, f5, f6, f7, f8, l0⟩ := (HBX.out w1 HB1.out).nine
      obtain ⟨x0, x1, x2, x3, x4, x5, x6, x7, x8, x9, m0⟩ := HBF.out w1 HB1.out
      clear hb1
      go_wp2_with fail
      refine (CS.out _ (HT.out _ HB1.out)).mono ?_
      rintro e w2 ⟨rfl, hb2⟩
      have HB2 : Hid (Below wa.heap.size wa w2) := HB1.out.trans (hb2.mono HB1.out.size)
      clear f0 f1 f2 f3 f4 f5 f6 f7 f8 l0 x0 x1 x2 x3 x4 x5 x6 x7 x8 x9 m0
      obtain ⟨f0, f1, f2, f3, f4, f5, f6, f7, f8, l0⟩ := (HBX.out w2 HB2.out).nine
      obtain ⟨x0, x1, x2, x3, x4, x5, x6, x7, x8, x9, m0⟩ := HBF.out w2 HB2.out
      clear hb2
      go_wp2_with fail
      refine (CU.out _ (HU.out _ HB2.out)).mono ?_
      rintro e w3 ⟨rfl, hb3⟩
      have HB3 : Hid (Below wa.heap.size wa w3) := HB2.out.trans (hb3.mono HB2.out.size)
      clear f0 f1 f2 f3 f4 f5 f6 f7 f8 l0 x0 x1 x2 x3 x4 x5 x6 x7 x8 x9 m0
      obtain ⟨f0, f1, f2, f3, f4, f5, f6, f7, f8, l0⟩ := (HBX.out w3 HB3.out).nine
      obtain ⟨x0, x1, x2, x3, x4, x5, x6, x7, x8, x9, m0⟩ := HBF.out w3 HB3.out
      clear hb3
      go_wp2_with fail
      go_ret
      exact ⟨rfl, HBA.out.trans (HB3.out.mono HBA.out.size)⟩
    | true =>
      have hwu := wt_small hs2
      rw [hs2] at CU
      clear hs2
      by_cases hn : 1000 < nm.size
      · clear hwt hwu
        go_enter Try.func11, Try.ntmps11
        go_upto_region 1 with fail
        rw [← hwa, ← hg1]
        clear hwa hg1
        go_wp2_with fail
        refine (awake20 _).mono ?_
        rintro e w1 ⟨rfl, hb1⟩
        have HB1 := Lib.hid hb1
        clear f0 f1 f2 f3 f4 f5 f6 f7 f8 l0 x0 x1 x2 x3 x4 x5 x6 x7 x8 x9 m0
        obtain ⟨f0, f1, f2, f3, f4, f5, f6, f7, f8, l0⟩ := (HBX.out w1 HB1.out).nine
        obtain ⟨x0, x1, x2, x3, x4, x5, x6, x7, x8, x9, m0⟩ := HBF.out w1 HB1.out
        clear hb1
        go_wp2_with fail
        refine (CS.out _ (HT.out _ HB1.out)).mono ?_
        rintro e w2 ⟨rfl, hb2⟩
        have HB2 : Hid (Below wa.heap.size wa w2) := HB1.out.trans (hb2.mono HB1.out.size)
        clear f0 f1 f2 f3 f4 f5 f6 f7 f8 l0 x0 x1 x2 x3 x4 x5 x6 x7 x8 x9 m0
        obtain ⟨f0, f1, f2, f3, f4, f5, f6, f7, f8, l0⟩ := (HBX.out w2 HB2.out).nine
        obtain ⟨x0, x1, x2, x3, x4, x5, x6, x7, x8, x9, m0⟩ := HBF.out w2 HB2.out
        clear hb2
        go_wp2_with fail
        refine (CU.out _ (HU.out _ HB2.out)).mono ?_
        rintro e w3 ⟨rfl, hb3⟩
        have HB3 : Hid (Below wa.heap.size wa w3) := HB2.out.trans (hb3.mono HB2.out.size)
        clear f0 f1 f2 f3 f4 f5 f6 f7 f8 l0 x0 x1 x2 x3 x4 x5 x6 x7 x8 x9 m0
        obtain ⟨f0, f1, f2, f3, f4, f5, f6, f7, f8, l0⟩ := (HBX.out w3 HB3.out).nine
        obtain ⟨x0, x1, x2, x3, x4, x5, x6, x7, x8, x9, m0⟩ := HBF.out w3 HB3.out
        clear hb3
        go_wp2_with fail
        go_ret
        exact ⟨rfl, HBA.out.trans (HB3.out.mono HBA.out.size)⟩
      have HNM := Lib.hid (show nm.size ≤ 9223372036854775807 by omega)
      have HWt := Lib.hid hwt
      have hww1 : T.wt (.mk k bits hi lo text more sub bs (kids.append (.cons nm (.mk k' bits' hi' lo' text' more' sub' bs' kids') .nil))) ≤ 5000 := by have := F.wt_append kids (.cons nm (.mk k' bits' hi' lo' text' more' sub' bs' kids') .nil); simp only [T.wt, F.wt] at *; omega
      have hww2 : T.wt (.mk 3 0 0 0 nt nt 0 [] (.cons nm (.mk k' bits' hi' lo' text' more' sub' bs' kids') .nil)) ≤ 5000 := by have : nt.size = 0 := rfl; simp only [T.wt, F.wt, this, List.length_nil] at *; omega
      have CE := Lib.hid (fun W (h : RdT W (.mk k bits hi lo text more sub bs kids) (valCells k bits hi lo text more sub ab nb cb ak nk ck)) => encode_calls _ W _ h (by omega))
      have CW := Lib.hid (fun W aK nK cK (h : RdT W (.mk k bits hi lo text more sub bs (kids.append (.cons nm (.mk k' bits' hi' lo' text' more' sub' bs' kids') .nil))) (valCells k bits hi lo text more sub ab nb cb aK nK cK)) => encode_calls _ W _ h (by omega))
      have CX := Lib.hid (fun W gx (h : RdT W (.mk 3 0 0 0 nt nt 0 [] (.cons nm (.mk k' bits' hi' lo' text' more' sub' bs' kids') .nil)) (valCells 3 0 0 0 ⟨#[]⟩ ⟨#[]⟩ 0 none 0 0 (some ⟨gx, 0, none⟩) 1 1)) => encode_calls _ W _ h (by omega))
      have HQ := Lib.hid (fun h1 h2 => enc_goes (k := k) (bits := bits) (hi := hi) (lo := lo) (s := text) (m := more) (sub := sub) (l := bs) (f := kids) (nm := nm) (t := (.mk k' bits' hi' lo' text' more' sub' bs' kids')) h1 h2)
      have HLEN := Lib.hid (Nat.le_trans (encB_len (.mk k bits hi lo text more sub bs kids)) (show _ ≤ 100000 by omega))
      have HLEN8 := Lib.hid (Nat.le_trans (encB_len (.mk k bits hi lo text more sub bs (kids.append (.cons nm (.mk k' bits' hi' lo' text' more' sub' bs' kids') .nil)))) (show _ ≤ 100000 by omega))
      have HLEN9 := Lib.hid (Nat.le_trans (encB_len (.mk 3 0 0 0 nt nt 0 [] (.cons nm (.mk k' bits' hi' lo' text' more' sub' bs' kids') .nil))) (show _ ≤ 100000 by omega))
      obtain ⟨EA, hEA⟩ : ∃ E, E = encE (.mk k bits hi lo text more sub bs kids) := ⟨_, rfl⟩
      obtain ⟨LA, hLA⟩ : ∃ L, L = encB (.mk k bits hi lo text more sub bs kids) := ⟨_, rfl⟩
      obtain ⟨EB, hEB⟩ : ∃ E, E = encE (.mk k bits hi lo text more sub bs (kids.append (.cons nm (.mk k' bits' hi' lo' text' more' sub' bs' kids') .nil))) := ⟨_, rfl⟩
      obtain ⟨LB, hLB⟩ : ∃ L, L = encB (.mk k bits hi lo text more sub bs (kids.append (.cons nm (.mk k' bits' hi' lo' text' more' sub' bs' kids') .nil))) := ⟨_, rfl⟩
      obtain ⟨EC, hEC⟩ : ∃ E, E = encE (.mk 3 0 0 0 nt nt 0 [] (.cons nm (.mk k' bits' hi' lo' text' more' sub' bs' kids') .nil)) := ⟨_, rfl⟩
      obtain ⟨LC, hLC⟩ : ∃ L, L = encB (.mk 3 0 0 0 nt nt 0 [] (.cons nm (.mk k' bits' hi' lo' text' more' sub' bs' kids') .nil)) := ⟨_, rfl⟩
      have HEA := Lib.hid hEA
      have HLA := Lib.hid hLA
      have HEB := Lib.hid hEB
      have HLB := Lib.hid hLB
      have HEC := Lib.hid hEC
      have HLC := Lib.hid hLC
      have XAa : EA = 0 ∨ EA ≠ 0 := by omega
      have XCc : EC = 0 ∨ EC ≠ 0 := by omega
      have HXA := Lib.hid XAa
      have HXC' := Lib.hid XCc
      clear hwt hwu hww1 hww2 hEA hLA hEB hLB hEC hLC XAa XCc hnm
      go_enter Try.func11, Try.ntmps11
      go_upto_region 1 with fail
      rw [← hwa, ← hg1]
      clear hwa hg1
      go_wp2_with fail
      refine (awake20 _).mono ?_
      rintro e w1 ⟨rfl, hb1⟩
      have HB1 := Lib.hid hb1
      clear f0 f1 f2 f3 f4 f5 f6 f7 f8 l0 x0 x1 x2 x3 x4 x5 x6 x7 x8 x9 m0
      obtain ⟨f0, f1, f2, f3, f4, f5, f6, f7, f8, l0⟩ := (HBX.out w1 HB1.out).nine
      obtain ⟨x0, x1, x2, x3, x4, x5, x6, x7, x8, x9, m0⟩ := HBF.out w1 HB1.out
      clear hb1
      go_wp2_with fail
      refine (CS.out _ (HT.out _ HB1.out)).mono ?_
      rintro e w2 ⟨rfl, hb2⟩
      have HB2 : Hid (Below wa.heap.size wa w2) := HB1.out.trans (hb2.mono HB1.out.size)
      clear f0 f1 f2 f3 f4 f5 f6 f7 f8 l0 x0 x1 x2 x3 x4 x5 x6 x7 x8 x9 m0
      obtain ⟨f0, f1, f2, f3, f4, f5, f6, f7, f8, l0⟩ := (HBX.out w2 HB2.out).nine
      obtain ⟨x0, x1, x2, x3, x4, x5, x6, x7, x8, x9, m0⟩ := HBF.out w2 HB2.out
      clear hb2
      go_wp2_with fail
      refine (CU.out _ (HU.out _ HB2.out)).mono ?_
      rintro e w3 ⟨rfl, hb3⟩
      have HB3 : Hid (Below wa.heap.size wa w3) := HB2.out.trans (hb3.mono HB2.out.size)
      clear f0 f1 f2 f3 f4 f5 f6 f7 f8 l0 x0 x1 x2 x3 x4 x5 x6 x7 x8 x9 m0
      obtain ⟨f0, f1, f2, f3, f4, f5, f6, f7, f8, l0⟩ := (HBX.out w3 HB3.out).nine
      obtain ⟨x0, x1, x2, x3, x4, x5, x6, x7, x8, x9, m0⟩ := HBF.out w3 HB3.out
      clear hb3
      obtain ⟨wb, hwb⟩ : ∃ W, W = w3.alloc (.cells (valCells k bits hi lo text more sub ab nb cb ak nk ck) 26) := ⟨_, rfl⟩
      obtain ⟨g5, hg5⟩ : ∃ g, g = w3.heap.size := ⟨_, rfl⟩
      have h3b : Below w3.heap.size w3 wb := by rw [hwb]; exact (Below.refl _ _).alloc (Nat.le_refl _) _
      have H3B := Lib.hid h3b
      have HBB : Hid (Below wa.heap.size wa wb) := HB3.out.trans (h3b.mono HB3.out.size)
      have hyb : BoxV wb g5 (valCells k bits hi lo text more sub ab nb cb ak nk ck) := by rw [hwb, hg5]; exact BoxV.new _ _ _
      have HYB := Lib.hid hyb
      have HG5 := Lib.hid hg5
      have HG5W : Hid (g5 < wb.heap.size) := hyb.1
      have HFZ : Hid (wb.frozen? ⟨g5, 8, none⟩ = false) := (hyb.2 8 (by omega)).2
      have HY8 : Hid (wb.cell? ⟨g5, 8, none⟩ = some (.slice ak nk ck)) := (hyb.2 8 (by omega)).1
      have hw3 : g5 < wb.heap.size := hyb.1
      have hwz : wb.heap.size = g5 + 1 := by rw [hwb, hg5]; simp
      have hww : w.heap.size ≤ g5 := by rw [hg5]; exact Nat.le_trans HBA.out.size HB3.out.size
      clear h3b hyb
      go_upto_region 6 with fail
      rw [← hwb, ← hg5]
      clear hwb hg5
      clear f0 f1 f2 f3 f4 f5 f6 f7 f8 l0 x0 x1 x2 x3 x4 x5 x6 x7 x8 x9 m0
      obtain ⟨f0, f1, f2, f3, f4, f5, f6, f7, f8, l0⟩ := (HBX.out wb HBB.out).nine
      obtain ⟨x0, x1, x2, x3, x4, x5, x6, x7, x8, x9, m0⟩ := HBF.out wb HBB.out
      have HLT : Hid (∀ k, k < w.heap.size → k ≠ g5) := by show ∀ k, _; intro k hk; omega
      have HLU : Hid (∀ k, k < w.heap.size → k < wb.heap.size) := by show ∀ k, _; intro k hk; omega
      have hWW : ∀ W, Below wb.heap.size wb W → Below w.heap.size w W := fun W hW => HBA.out.trans ((HBB.out.trans (hW.mono HBB.out.size)).mono HBA.out.size)
      have hks : ∀ W, Below wb.heap.size wb W → SrcK (fun k => k < w.heap.size) W (.slice ak nk ck) kids := fun W hW => by
        have hb := hWW W hW
        obtain ⟨ab1, nb1, cb1, ak1, nk1, ck1, e1, _, _, e2, e3, e4⟩ := (RdTS.of H.out).keep (KeepS.below hb)
        simp only [valCells, Array.mk.injEq, List.cons.injEq, Value.slice.injEq, and_true, true_and] at e1
        obtain ⟨_, rfl, rfl, rfl⟩ := e1
        subst e2
        exact SrcK.of e4 e3.2.1
      have HTF := Lib.hid (fun W (hW : Below wb.heap.size wb W) => (RdTS.of H'.out).keep (KeepS.below (hWW W hW)))
      have HA := Lib.hid (show Below wb.heap.size wb (wb.alloc (.cells #[] 57)).drew from ((Below.refl _ _).alloc (Nat.le_refl _) _).drew)
      have HB := Lib.hid (show Below wb.heap.size wb ((wb.alloc (.cells #[] 57)).alloc (.cells #[.string nm, .int .i64 k', .int .u64 (bits' : Nat), .int .u64 (hi' : Nat), .int .u64 (lo' : Nat), .string text', .string more', .int .i64 sub', .slice ab' nb' cb', .slice ak' nk' ck'] 57)).drew from (((Below.refl _ _).alloc (Nat.le_refl _) _).alloc (by simp) _).drew)
      have HC := Lib.hid (show Below wb.heap.size wb ((wb.alloc (.cells #[.string nm, .int .i64 k', .int .u64 (bits' : Nat), .int .u64 (hi' : Nat), .int .u64 (lo' : Nat), .string text', .string more', .int .i64 sub', .slice ab' nb' cb', .slice ak' nk' ck'] 57)).alloc (.cells #[] 57)).drew from (((Below.refl _ _).alloc (Nat.le_refl _) _).alloc (by simp) _).drew)
      have HOA := Lib.hid (show OwnK (wb.alloc (.cells #[] 57)).drew wb.heap.size (fun k => k ≠ g5) (.slice (some ⟨wb.heap.size, 0, none⟩) 0 0) .nil from ownK_empty (heap_alloc_new wb _) (Nat.le_refl _))
      have HOB := Lib.hid (show OwnK ((wb.alloc (.cells #[] 57)).alloc (.cells #[.string nm, .int .i64 k', .int .u64 (bits' : Nat), .int .u64 (hi' : Nat), .int .u64 (lo' : Nat), .string text', .string more', .int .i64 sub', .slice ab' nb' cb', .slice ak' nk' ck'] 57)).drew wb.heap.size (fun k => k ≠ g5) (.slice (some ⟨wb.heap.size, 0, none⟩) 0 0) .nil from ownK_empty (w := (wb.alloc (.cells #[] 57)).alloc (.cells #[.string nm, .int .i64 k', .int .u64 (bits' : Nat), .int .u64 (hi' : Nat), .int .u64 (lo' : Nat), .string text', .string more', .int .i64 sub', .slice ab' nb' cb', .slice ak' nk' ck'] 57)) ((((Below.refl _ _).alloc (Nat.le_refl _) _ : Below (wb.alloc (.cells #[] 57)).heap.size (wb.alloc (.cells #[] 57)) ((wb.alloc (.cells #[] 57)).alloc (.cells #[.string nm, .int .i64 k', .int .u64 (bits' : Nat), .int .u64 (hi' : Nat), .int .u64 (lo' : Nat), .string text', .string more', .int .i64 sub', .slice ab' nb' cb', .slice ak' nk' ck'] 57))).block _ (by simp)).trans (heap_alloc_new wb _)) (Nat.le_refl _))
      have HOC := Lib.hid (show OwnK ((wb.alloc (.cells #[.string nm, .int .i64 k', .int .u64 (bits' : Nat), .int .u64 (hi' : Nat), .int .u64 (lo' : Nat), .string text', .string more', .int .i64 sub', .slice ab' nb' cb', .slice ak' nk' ck'] 57)).alloc (.cells #[] 57)).drew wb.heap.size (fun k => k ≠ g5) (.slice (some ⟨wb.heap.size + 1, 0, none⟩) 0 0) .nil from ownK_empty (w := (wb.alloc (.cells #[.string nm, .int .i64 k', .int .u64 (bits' : Nat), .int .u64 (hi' : Nat), .int .u64 (lo' : Nat), .string text', .string more', .int .i64 sub', .slice ab' nb' cb', .slice ak' nk' ck'] 57)).alloc (.cells #[] 57)) (by have := heap_alloc_new (wb.alloc (.cells #[.string nm, .int .i64 k', .int .u64 (bits' : Nat), .int .u64 (hi' : Nat), .int .u64 (lo' : Nat), .string text', .string more', .int .i64 sub', .slice ab' nb' cb', .slice ak' nk' ck'] 57)) (.cells #[] 57); simpa using this) (by omega))
      have HSA := Lib.hid (hks _ HA.out)
      have HSB := Lib.hid (hks _ HB.out)
      have HSC := Lib.hid (hks _ HC.out)
      have HXB := Lib.hid (fun (j : Nat) (u : Value) (hj : (fcells nm (valCells k' bits' hi' lo' text' more' sub' ab' nb' cb' ak' nk' ck'))[j]? = some u) => (show ((wb.alloc (.cells #[] 57)).alloc (.cells #[.string nm, .int .i64 k', .int .u64 (bits' : Nat), .int .u64 (hi' : Nat), .int .u64 (lo' : Nat), .string text', .string more', .int .i64 sub', .slice ab' nb' cb', .slice ak' nk' ck'] 57)).drew.cell? ⟨wb.heap.size + 1, j, none⟩ = some u by
        have := new_cells (wb.alloc (.cells #[] 57)) _ 57 _ rfl j u hj
        simpa using this))
      have HXC := Lib.hid (fun (j : Nat) (u : Value) (hj : (fcells nm (valCells k' bits' hi' lo' text' more' sub' ab' nb' cb' ak' nk' ck'))[j]? = some u) => (show ((wb.alloc (.cells #[.string nm, .int .i64 k', .int .u64 (bits' : Nat), .int .u64 (hi' : Nat), .int .u64 (lo' : Nat), .string text', .string more', .int .i64 sub', .slice ab' nb' cb', .slice ak' nk' ck'] 57)).alloc (.cells #[] 57)).drew.cell? ⟨wb.heap.size, j, none⟩ = some u from
        cell_below (W := wb.alloc (.cells #[.string nm, .int .i64 k', .int .u64 (bits' : Nat), .int .u64 (hi' : Nat), .int .u64 (lo' : Nat), .string text', .string more', .int .i64 sub', .slice ab' nb' cb', .slice ak' nk' ck'] 57)) (((Below.refl _ _).alloc (Nat.le_refl _) _).drew) (new_cells wb _ 57 _ rfl j u hj)))
      have HBD := Lib.hid (show F.nil.len + kids.len ≤ 1000000000 by have := F.len_wt kids; have := HWt.out; simp only [T.wt, F.len] at *; omega)
      have HBE := Lib.hid (show kids.len + (F.cons nm (.mk k' bits' hi' lo' text' more' sub' bs' kids') .nil).len ≤ 1000000000 by have := F.len_wt kids; have := HWt.out; simp only [T.wt, F.len] at *; omega)
      have HKP : Hid (∀ W, Below w3.heap.size w3 W → (W.cell? ⟨w.heap.size, 8, none⟩ = some (.slice ak nk ck) ∧ W.cell? ⟨g1, 0, none⟩ = some (.string nm) ∧ W.cell? ⟨g1, 1, none⟩ = some (.int .i64 k') ∧ W.cell? ⟨g1, 2, none⟩ = some (.int .u64 (bits' : Nat)) ∧ W.cell? ⟨g1, 3, none⟩ = some (.int .u64 (hi' : Nat)) ∧ W.cell? ⟨g1, 4, none⟩ = some (.int .u64 (lo' : Nat)) ∧ W.cell? ⟨g1, 5, none⟩ = some (.string text') ∧ W.cell? ⟨g1, 6, none⟩ = some (.string more') ∧ W.cell? ⟨g1, 7, none⟩ = some (.int .i64 sub') ∧ W.cell? ⟨g1, 8, none⟩ = some (.slice ab' nb' cb') ∧ W.cell? ⟨g1, 9, none⟩ = some (.slice ak' nk' ck'))) := by
        show ∀ W, _
        intro W hW
        have hW2 := HB3.out.trans (hW.mono HB3.out.size)
        obtain ⟨x0, x1, x2, x3, x4, x5, x6, x7, x8, x9, m0⟩ := HBF.out W hW2
        exact ⟨(HBX.out W hW2).nine.2.2.2.2.2.2.2.2.1, x0, x1, x2, x3, x4, x5, x6, x7, x8, x9⟩
      clear hks hwz hWW
      go_cut [] from 30 to 37 (fun W => GoRel w3 g5 k bits hi lo text more sub ab nb cb (kids.append (.cons nm (.mk k' bits' hi' lo' text' more' sub' bs' kids') .nil)) bs W)
      case first =>
        go_region_held3 (fun W => (W.cell? ⟨w.heap.size, 8, none⟩ = some (.slice ak nk ck) ∧ W.cell? ⟨g1, 0, none⟩ = some (.string nm) ∧ W.cell? ⟨g1, 1, none⟩ = some (.int .i64 k') ∧ W.cell? ⟨g1, 2, none⟩ = some (.int .u64 (bits' : Nat)) ∧ W.cell? ⟨g1, 3, none⟩ = some (.int .u64 (hi' : Nat)) ∧ W.cell? ⟨g1, 4, none⟩ = some (.int .u64 (lo' : Nat)) ∧ W.cell? ⟨g1, 5, none⟩ = some (.string text') ∧ W.cell? ⟨g1, 6, none⟩ = some (.string more') ∧ W.cell? ⟨g1, 7, none⟩ = some (.int .i64 sub') ∧ W.cell? ⟨g1, 8, none⟩ = some (.slice ab' nb' cb') ∧ W.cell? ⟨g1, 9, none⟩ = some (.slice ak' nk' ck'))) ((with_reducible refine HKP.out _ ?_; (repeat' (first | with_reducible exact HB45.out | with_reducible exact HB42.out | with_reducible refine Below.setCell ?_ (by rw [HG5.out]; exact Nat.le_refl _) _ | with_reducible refine below_al ?_ _ | with_reducible refine Below.drew ?_ | with_reducible exact H3B.out))))
          ((first
            | (refine step_appK (v := v42) (f := kids) (B := wb.heap.size) (L := fun k => k ≠ g5) (g := .cons nm (.mk k' bits' hi' lo' text' more' sub' bs' kids') .nil) (S1 := fun k => k < w.heap.size) (by rfl) _ _ (by rfl) (by rfl) HO42.out (by rfl) (SrcK.one (HTF.out _ HBW42.out) HNM.out HX42.out) (fun k hk => ⟨HLT.out k hk, fun e => by have := (HO42.out.far k e).1; have := HLU.out k hk; omega⟩) HBE.out HBW42.out.size ?_; intro v45 w45 ho45 ha45; obtain ⟨a45, c45, rfl, hk45, hr45, hl45⟩ := ho45.reads (by intro k hk; have := HG5W.out; omega); have HK45 := Lib.hid hk45; have HR45 := Lib.hid hr45; have HL45 := Lib.hid hl45; have hb45 : Below wb.heap.size wb w45 := ha45.below HBW42.out HBW42.out.size (fun k hk => (HO42.out.far k hk).1); have hz45 := (hb45.frozen (p := ⟨g5, 8, none⟩) HG5W.out).trans HFZ.out; have hc45 := cell_below hb45 HY8.out; have HB45 := Lib.hid (H3B.out.trans (hb45.mono H3B.out.size)); have HBW45 := Lib.hid hb45; clear ho45 ha45 hk45 hr45 hl45 hb45)
            | (refine step_appK (v := v42) (f := kids) (B := wb.heap.size) (L := fun k => k ≠ g5) (g := .cons nm (.mk k' bits' hi' lo' text' more' sub' bs' kids') .nil) (S1 := fun k => k < w.heap.size) (by rfl) _ _ (by rfl) (by rfl) (HO42.out.keep ((Below.refl _ _).alloc (Nat.le_refl _) _)) (by rfl) (SrcK.one (HTF.out _ (HBW42.out.alloc HBW42.out.size _)) HNM.out (new_cells _ _ _ _ rfl)) (fun k hk => ⟨HLT.out k hk, fun e => by have := (HO42.out.far k e).1; have := HLU.out k hk; omega⟩) HBE.out (HBW42.out.alloc HBW42.out.size _).size ?_; intro v45 w45 ho45 ha45; obtain ⟨a45, c45, rfl, hk45, hr45, hl45⟩ := ho45.reads (by intro k hk; have := HG5W.out; omega); have HK45 := Lib.hid hk45; have HR45 := Lib.hid hr45; have HL45 := Lib.hid hl45; have hb45 : Below wb.heap.size wb w45 := ha45.below (HBW42.out.alloc HBW42.out.size _) (HBW42.out.alloc HBW42.out.size _).size (fun k hk => (HO42.out.far k hk).1); have hz45 := (hb45.frozen (p := ⟨g5, 8, none⟩) HG5W.out).trans HFZ.out; have hc45 := cell_below hb45 HY8.out; have HB45 := Lib.hid (H3B.out.trans (hb45.mono H3B.out.size)); have HBW45 := Lib.hid hb45; clear ho45 ha45 hk45 hr45 hl45 hb45)
            | (refine step_appK (v := .slice (some ⟨wb.heap.size, 0, none⟩) 0 0) (f := .nil) (B := wb.heap.size) (L := fun k => k ≠ g5) (g := kids) (S1 := fun k => k < w.heap.size) (by rfl) _ _ (by rfl) (by rfl) HOA.out (by rfl) HSA.out (fun k hk => ⟨HLT.out k hk, by simp [Value.ownBlock]; have := HLU.out k hk; omega⟩) HBD.out (by simp <;> omega) ?_; intro v42 w42 ho42 ha42; have HO42 := Lib.hid ho42; have hb42 : Below wb.heap.size wb w42 := ha42.below HA.out (by simp <;> omega) (by intro k hk; simp [Value.ownBlock] at hk; omega); have HB42 := Lib.hid (H3B.out.trans (hb42.mono H3B.out.size)); have HBW42 := Lib.hid hb42; clear ho42 ha42 hb42)
            | (refine step_appK (v := .slice (some ⟨wb.heap.size, 0, none⟩) 0 0) (f := .nil) (B := wb.heap.size) (L := fun k => k ≠ g5) (g := kids) (S1 := fun k => k < w.heap.size) (by rfl) _ _ (by rfl) (by rfl) HOB.out (by rfl) HSB.out (fun k hk => ⟨HLT.out k hk, by simp [Value.ownBlock]; have := HLU.out k hk; omega⟩) HBD.out (by simp <;> omega) ?_; intro v42 w42 ho42 ha42; have HO42 := Lib.hid ho42; have hb42 : Below wb.heap.size wb w42 := ha42.below HB.out (by simp <;> omega) (by intro k hk; simp [Value.ownBlock] at hk; omega); have HB42 := Lib.hid (H3B.out.trans (hb42.mono H3B.out.size)); have HBW42 := Lib.hid hb42; have HX42 := Lib.hid (fun j u hj => ha42.cell (HXB.out j u hj) (by simp [Value.ownBlock])); clear ho42 ha42 hb42)
            | (refine step_appK (v := .slice (some ⟨wb.heap.size + 1, 0, none⟩) 0 0) (f := .nil) (B := wb.heap.size) (L := fun k => k ≠ g5) (g := kids) (S1 := fun k => k < w.heap.size) (by rfl) _ _ (by rfl) (by rfl) HOC.out (by rfl) HSC.out (fun k hk => ⟨HLT.out k hk, by simp [Value.ownBlock]; have := HLU.out k hk; omega⟩) HBD.out (by simp <;> omega) ?_; intro v42 w42 ho42 ha42; have HO42 := Lib.hid ho42; have hb42 : Below wb.heap.size wb w42 := ha42.below HC.out (by simp <;> omega) (by intro k hk; simp [Value.ownBlock] at hk; omega); have HB42 := Lib.hid (H3B.out.trans (hb42.mono H3B.out.size)); have HBW42 := Lib.hid hb42; have HX42 := Lib.hid (fun j u hj => ha42.cell (HXC.out j u hj) (by simp [Value.ownBlock])); clear ho42 ha42 hb42)
            | fail))
        all_goals
          go_wp2_with fail
          go_meet
          case rel =>
            have hb6 : Below w3.heap.size w3 (w45.setCell ⟨g5, 8, none⟩ (.slice a45 (kids.append (.cons nm (.mk k' bits' hi' lo' text' more' sub' bs' kids') .nil)).len c45)) := HB45.out.setCell (by rw [HG5.out]; exact Nat.le_refl _) _
            have hk6 : KeepS (fun k => k ≠ g5) w45 (w45.setCell ⟨g5, 8, none⟩ (.slice a45 (kids.append (.cons nm (.mk k' bits' hi' lo' text' more' sub' bs' kids') .nil)).len c45)) := fun p u hp hc => by
              rw [World.cell?_setCell_other _ _ _ _ (fun e => hp (by rw [← e]))]
              exact hc
            have hrk := HK45.out.keep hk6
            refine ⟨a45, c45, ?_, ?_, hb6⟩
            · exact (HYB.out.below HBW45.out HG5W.out).set 8 _ (by simp [valCells]) (by omega)
            · obtain ⟨ab1, nb1, cb1, ak1, nk1, ck1, e1, e2, e3, e4, e5, e6⟩ := H.out.keep (HBA.out.trans ((HB3.out.trans (hb6.mono HB3.out.size)).mono HBA.out.size))
              simp only [valCells, Array.mk.injEq, List.cons.injEq, Value.slice.injEq, and_true, true_and] at e1
              obtain ⟨⟨rfl, rfl, rfl⟩, rfl, rfl, rfl⟩ := e1
              exact ⟨_, _, _, _, _, _, rfl, e2, e3, rfl, ⟨HL45.out, HR45.out, e5.2.2⟩, hrk.rd⟩
      obtain ⟨aK, cK, hyc, hrw, h3c⟩ := hcut
      obtain ⟨nK, hnK⟩ : ∃ n, n = (kids.append (.cons nm (.mk k' bits' hi' lo' text' more' sub' bs' kids') .nil)).len := ⟨_, rfl⟩
      rw [← hnK] at hyc hrw
      have HBC : Hid (Below wa.heap.size wa wc) := HB3.out.trans (h3c.mono HB3.out.size)
      have HY : Hid (∀ W, Below wc.heap.size wc W → BoxV W g5 (valCells k bits hi lo text more sub ab nb cb aK nK cK)) := fun W hW => hyc.keep hW
      have HRW : Hid (∀ W, Below wc.heap.size wc W → RdT W (.mk k bits hi lo text more sub bs (kids.append (.cons nm (.mk k' bits' hi' lo' text' more' sub' bs' kids') .nil))) (valCells k bits hi lo text more sub ab nb cb aK nK cK)) := fun W hW => hrw.keep hW
      clear hyc hrw h3c hnK hw3 hww HKP HBD HBE HXB HXC HSA HSB HSC HOA HOB HOC HA HB HC HTF
      clear f0 f1 f2 f3 f4 f5 f6 f7 f8 l0 x0 x1 x2 x3 x4 x5 x6 x7 x8 x9 m0
      obtain ⟨f0, f1, f2, f3, f4, f5, f6, f7, f8, l0⟩ := (HBX.out wc HBC.out).nine
      obtain ⟨x0, x1, x2, x3, x4, x5, x6, x7, x8, x9, m0⟩ := HBF.out wc HBC.out
      obtain ⟨y0, y1, y2, y3, y4, y5, y6, y7, y8, z0⟩ := (HY.out wc (Below.refl _ _)).nine
      have HCC : Hid (Below wc.heap.size wc wc) := Below.refl _ _
      go_wp2_with fail
      refine (CE.out _ (HT.out _ HBC.out)).mono ?_
      rintro e w7 ⟨a7, n7, c7, aP7, nP7, cP7, rfl, hrd7, hac7, hnP7, hmP7, hrP7, hcP7, hb7⟩
      rw [← HEA.out]
      rw [← HLA.out] at hrd7
      obtain ⟨wf7, hwf7⟩ : ∃ W, W = w7.alloc (.cells #[.int .i64 (EA : Nat), .int .i64 0, .slice aP7 nP7 cP7] 34) := ⟨_, rfl⟩
      have h7f : Below w7.heap.size w7 wf7 := by rw [hwf7]; exact (Below.refl _ _).alloc (Nat.le_refl _) _
      obtain ⟨g7, hg7⟩ : ∃ g, g = w7.heap.size := ⟨_, rfl⟩
      have k7 : wf7.cell? ⟨g7, 0, none⟩ = some (.int .i64 (EA : Nat)) := by rw [hwf7, hg7]; simp [go_sem]
      have HCF7 : Hid (Below wc.heap.size wc wf7) := HCC.out.trans ((hb7.trans (h7f.mono hb7.size)).mono HCC.out.size)
      have HC7 : Hid (Below wc.heap.size wc w7) := HCC.out.trans (hb7.mono HCC.out.size)
      have K7 := Lib.hid k7
      have HR7 := Lib.hid (hrd7.keep h7f)
      have hN7 := hrd7.1
      have hcap7 := hac7.2
      clear f0 f1 f2 f3 f4 f5 f6 f7 f8 l0 x0 x1 x2 x3 x4 x5 x6 x7 x8 x9 m0
      obtain ⟨f0, f1, f2, f3, f4, f5, f6, f7, f8, l0⟩ := (HBX.out w7 (HBC.out.trans (HC7.out.mono HBC.out.size))).nine
      obtain ⟨x0, x1, x2, x3, x4, x5, x6, x7, x8, x9, m0⟩ := HBF.out w7 (HBC.out.trans (HC7.out.mono HBC.out.size))
      clear y0 y1 y2 y3 y4 y5 y6 y7 y8 z0
      obtain ⟨y0, y1, y2, y3, y4, y5, y6, y7, y8, z0⟩ := (HY.out w7 HC7.out).nine
      clear hb7 hrd7 hrP7 hnP7 h7f hmP7 k7 hac7
      go_upto_region 8 with fail
      rw [← hwf7, ← hg7]
      clear hwf7 hg7
      clear f0 f1 f2 f3 f4 f5 f6 f7 f8 l0 x0 x1 x2 x3 x4 x5 x6 x7 x8 x9 m0
      obtain ⟨f0, f1, f2, f3, f4, f5, f6, f7, f8, l0⟩ := (HBX.out wf7 (HBC.out.trans (HCF7.out.mono HBC.out.size))).nine
      obtain ⟨x0, x1, x2, x3, x4, x5, x6, x7, x8, x9, m0⟩ := HBF.out wf7 (HBC.out.trans (HCF7.out.mono HBC.out.size))
      clear y0 y1 y2 y3 y4 y5 y6 y7 y8 z0
      obtain ⟨y0, y1, y2, y3, y4, y5, y6, y7, y8, z0⟩ := (HY.out wf7 HCF7.out).nine
      go_wp2_with fail
      refine (CW.out _ _ _ _ (HRW.out _ HCF7.out)).mono ?_
      rintro e w8 ⟨a8, n8, c8, aP8, nP8, cP8, rfl, hrd8, hac8, hnP8, hmP8, hrP8, hcP8, hb8⟩
      rw [← HEB.out]
      rw [← HLB.out] at hrd8
      obtain ⟨wf8, hwf8⟩ : ∃ W, W = w8.alloc (.cells #[.int .i64 (EB : Nat), .int .i64 0, .slice aP8 nP8 cP8] 34) := ⟨_, rfl⟩
      have h8f : Below w8.heap.size w8 wf8 := by rw [hwf8]; exact (Below.refl _ _).alloc (Nat.le_refl _) _
      obtain ⟨g8, hg8⟩ : ∃ g, g = w8.heap.size := ⟨_, rfl⟩
      have k8 : wf8.cell? ⟨g8, 0, none⟩ = some (.int .i64 (EB : Nat)) := by rw [hwf8, hg8]; simp [go_sem]
      have HCF8 : Hid (Below wc.heap.size wc wf8) := HCF7.out.trans ((hb8.trans (h8f.mono hb8.size)).mono HCF7.out.size)
      have HC8 : Hid (Below wc.heap.size wc w8) := HCF7.out.trans (hb8.mono HCF7.out.size)
      have K8 := Lib.hid k8
      have HR8 := Lib.hid (hrd8.keep h8f)
      have hN8 := hrd8.1
      have hcap8 := hac8.2
      have k7 := cell_below (hb8.trans (h8f.mono hb8.size)) K7.out
      have K7b := Lib.hid k7
      have HR7b := Lib.hid ((HR7.out.keep hb8).keep ((Below.refl _ _).trans h8f))
      clear f0 f1 f2 f3 f4 f5 f6 f7 f8 l0 x0 x1 x2 x3 x4 x5 x6 x7 x8 x9 m0
      obtain ⟨f0, f1, f2, f3, f4, f5, f6, f7, f8, l0⟩ := (HBX.out w8 (HBC.out.trans (HC8.out.mono HBC.out.size))).nine
      obtain ⟨x0, x1, x2, x3, x4, x5, x6, x7, x8, x9, m0⟩ := HBF.out w8 (HBC.out.trans (HC8.out.mono HBC.out.size))
      clear y0 y1 y2 y3 y4 y5 y6 y7 y8 z0
      obtain ⟨y0, y1, y2, y3, y4, y5, y6, y7, y8, z0⟩ := (HY.out w8 HC8.out).nine
      clear hb8 hrd8 hrP8 hnP8 h8f hmP8 k8 k7 hac8
      go_upto_region 9 with fail
      rw [← hwf8, ← hg8]
      clear hwf8 hg8
      clear f0 f1 f2 f3 f4 f5 f6 f7 f8 l0 x0 x1 x2 x3 x4 x5 x6 x7 x8 x9 m0
      obtain ⟨f0, f1, f2, f3, f4, f5, f6, f7, f8, l0⟩ := (HBX.out wf8 (HBC.out.trans (HCF8.out.mono HBC.out.size))).nine
      obtain ⟨x0, x1, x2, x3, x4, x5, x6, x7, x8, x9, m0⟩ := HBF.out wf8 (HBC.out.trans (HCF8.out.mono HBC.out.size))
      clear y0 y1 y2 y3 y4 y5 y6 y7 y8 z0
      obtain ⟨y0, y1, y2, y3, y4, y5, y6, y7, y8, z0⟩ := (HY.out wf8 HCF8.out).nine
      obtain ⟨wx, hwx⟩ : ∃ W, W = wf8.alloc (.cells #[.string nm, .int .i64 k', .int .u64 (bits' : Nat), .int .u64 (hi' : Nat), .int .u64 (lo' : Nat), .string text', .string more', .int .i64 sub', .slice ab' nb' cb', .slice ak' nk' ck'] 57) := ⟨_, rfl⟩
      have h8x : Below wf8.heap.size wf8 wx := by rw [hwx]; exact (Below.refl _ _).alloc (Nat.le_refl _) _
      have HCX : Hid (Below wc.heap.size wc wx) := HCF8.out.trans (h8x.mono HCF8.out.size)
      obtain ⟨gx, hgx⟩ : ∃ g, g = wf8.heap.size := ⟨_, rfl⟩
      have hrx : RdT wx (.mk 3 0 0 0 nt nt 0 [] (.cons nm (.mk k' bits' hi' lo' text' more' sub' bs' kids') .nil)) (valCells 3 0 0 0 ⟨#[]⟩ ⟨#[]⟩ 0 none 0 0 (some ⟨gx, 0, none⟩) 1 1) := by
        refine ⟨none, 0, 0, some ⟨gx, 0, none⟩, 1, 1, rfl, ⟨by omega, by unfold okSize; omega, by unfold okSize; omega, by unfold okSize; omega, by decide, by decide, by omega⟩, RdB.nil _ _, rfl, ⟨by omega, ⟨by simp, Nat.le_refl _⟩, ⟨fun _ => rfl, Nat.le_refl _⟩⟩, ⟨gx, 0, (valCells k' bits' hi' lo' text' more' sub' ab' nb' cb' ak' nk' ck'), rfl, HNM.out, ?_, ?_, HU.out wx (HBC.out.trans (HCX.out.mono HBC.out.size))⟩, trivial⟩
        · rw [hwx, hgx]; simp [go_sem]
        · intro j hj
          have hj9 : j = 0 ∨ j = 1 ∨ j = 2 ∨ j = 3 ∨ j = 4 ∨ j = 5 ∨ j = 6 ∨ j = 7 ∨ j = 8 := by omega
          rw [hwx, hgx]
          rcases hj9 with rfl | rfl | rfl | rfl | rfl | rfl | rfl | rfl | rfl <;> simp [go_sem, valCells]
      have HRX := Lib.hid hrx
      clear hrx
      go_wp2_with fail
      rw [← hwx, ← hgx]
      clear hwx hgx
      refine (CX.out _ _ HRX.out).mono ?_
      rintro e w9 ⟨a9, n9, c9, aP9, nP9, cP9, rfl, hrd9, hac9, hnP9, hmP9, hrP9, hcP9, hb9⟩
      rw [← HEC.out]
      rw [← HLC.out] at hrd9
      obtain ⟨wf9, hwf9⟩ : ∃ W, W = w9.alloc (.cells #[.int .i64 (EC : Nat), .int .i64 0, .slice aP9 nP9 cP9] 34) := ⟨_, rfl⟩
      have h9f : Below w9.heap.size w9 wf9 := by rw [hwf9]; exact (Below.refl _ _).alloc (Nat.le_refl _) _
      obtain ⟨g9, hg9⟩ : ∃ g, g = w9.heap.size := ⟨_, rfl⟩
      have k9 : wf9.cell? ⟨g9, 0, none⟩ = some (.int .i64 (EC : Nat)) := by rw [hwf9, hg9]; simp [go_sem]
      have HCF9 : Hid (Below wc.heap.size wc wf9) := HCX.out.trans ((hb9.trans (h9f.mono hb9.size)).mono HCX.out.size)
      have HC9 : Hid (Below wc.heap.size wc w9) := HCX.out.trans (hb9.mono HCX.out.size)
      have K9 := Lib.hid k9
      have HR9 := Lib.hid (hrd9.keep h9f)
      have hN9 := hrd9.1
      have hcap9 := hac9.2
      have k7 := cell_below (h8x.trans ((hb9.trans (h9f.mono hb9.size)).mono h8x.size)) K7b.out
      have k8 := cell_below (h8x.trans ((hb9.trans (h9f.mono hb9.size)).mono h8x.size)) K8.out
      have K7c := Lib.hid k7
      have K8c := Lib.hid k8
      have h89 : Below wf8.heap.size wf8 wf9 := h8x.trans ((hb9.trans (h9f.mono hb9.size)).mono h8x.size)
      have HR7c := Lib.hid (HR7b.out.keep h89)
      have HR8c := Lib.hid (HR8.out.keep h89)
      have HEND : Hid (Below wa.heap.size wa wf9) := HBC.out.trans (HCF9.out.mono HBC.out.size)
      clear f0 f1 f2 f3 f4 f5 f6 f7 f8 l0 x0 x1 x2 x3 x4 x5 x6 x7 x8 x9 m0 y0 y1 y2 y3 y4 y5 y6 y7 y8 z0
      clear hb9 hrd9 hrP9 hnP9 h9f hmP9 k7 k8 h8x h89 hac9
      go_upto_region 10 with fail
      rw [← hwf9, ← hg9]
      clear hwf9 hg9
      have k7 := K7c.out
      have k8 := K8c.out
      rcases HXA.out with xa | xa
      case inr =>
        have hne : ((EA : Int) != 0) = true := by simpa using xa
        clear xa
        go_wp2_with fail
        go_ret
        exact ⟨rfl, HBA.out.trans (HEND.out.mono HBA.out.size)⟩
      have hzA : ((EA : Int) != 0) = false := by simp [xa]
      have XA : Hid (encE (.mk k bits hi lo text more sub bs kids) = 0) := by show _ = _; rw [← HEA.out]; exact xa
      clear xa
      rcases HXC'.out with xc | xc
      case inr =>
        have hne : ((EC : Int) != 0) = true := by simpa using xc
        clear xc
        go_wp2_with fail
        go_ret
        exact ⟨rfl, HBA.out.trans (HEND.out.mono HBA.out.size)⟩
      have hzC : ((EC : Int) != 0) = false := by simp [xc]
      have XC : Hid (encE (.mk 3 0 0 0 nt nt 0 [] (.cons nm (.mk k' bits' hi' lo' text' more' sub' bs' kids') .nil)) = 0) := by show _ = _; rw [← HEC.out]; exact xc
      clear xc
      obtain ⟨q1, q2, q3, q4, q5⟩ := HQ.out XA.out XC.out
      rw [← HEB.out] at q1
      rw [← HLA.out, ← HLB.out, ← HLC.out] at q2 q5
      rw [← HLA.out] at q3
      rw [← HLC.out] at q4
      rw [hN7, hN8, hN9] at q2
      rw [hN7] at q3 q5
      rw [hN9] at q4
      obtain ⟨h7, hh7⟩ : ∃ h, h + 1 = n7 := ⟨n7 - 1, by omega⟩
      have hb7b := HLEN.out
      have hNb8 := HLEN8.out
      have hNb9 := HLEN9.out
      rw [← HLA.out, hN7] at hb7b
      rw [← HLB.out, hN8] at hNb8
      rw [← HLC.out, hN9] at hNb9
      have hzB : ((EB : Int) != 0) = false := by simp [q1]
      have d7 : decide ((n7 : Int) < 5) = false := by simp; omega
      have d8 : decide ((n8 : Int) < 5) = false := by simp; omega
      have d9 : decide ((n9 : Int) < 5) = false := by simp; omega
      have u1 : IntKind.i64.wrap ((n7 : Int) + (n9 : Int)) = (n7 : Int) + (n9 : Int) := IntWalk.i64_in _ (by omega)
      have u2 : IntKind.i64.wrap ((n7 : Int) + (n9 : Int) - 5) = (n8 : Int) := (IntWalk.i64_in _ (by omega)).trans (by omega)
      have u3 : IntKind.i64.wrap ((n7 : Int) - 1) = (h7 : Int) := (IntWalk.i64_in _ (by omega)).trans (by omega)
      have hEQ : (txt (seg LB 4 (n8 - 4))).toList = (txt (seg LA 4 (h7 - 4)) ++ txt (seg LC 4 (n9 - 4))).toList := by
        have e8 : seg LB 4 (n8 - 4) = LB.drop 4 := by unfold seg; exact List.take_of_length_le (by simp; omega)
        have e9 : seg LC 4 (n9 - 4) = LC.drop 4 := by unfold seg; exact List.take_of_length_le (by simp; omega)
        have e7 : seg LA 4 (h7 - 4) = (LA.drop 4).take (n7 - 5) := by unfold seg; rw [show h7 - 4 = n7 - 5 from by omega]
        rw [e8, e9, e7, q5, toList_sl, toList_sl, sl_txt]
        simp [sl, txt]
      obtain ⟨TA, hTA⟩ : ∃ x, x = txt (seg LA 4 (h7 - 4)) := ⟨_, rfl⟩
      obtain ⟨TB, hTB⟩ : ∃ x, x = txt (seg LB 4 (n8 - 4)) := ⟨_, rfl⟩
      obtain ⟨TC, hTC⟩ : ∃ x, x = txt (seg LC 4 (n9 - 4)) := ⟨_, rfl⟩
      have hE2 : (TB.toList == (TA ++ TC).toList) = true := by rw [hTA, hTB, hTC, hEQ]; simp
      have hZA : TA.size ≤ 100000 := by rw [hTA, ← sl_len, sl_txt]; unfold seg; simp; omega
      have hZC : TC.size ≤ 100000 := by rw [hTC, ← sl_len, sl_txt]; unfold seg; simp; omega
      have hZZ : ¬ (9223372036854775807 < TA.size + TC.size) := by omega
      obtain ⟨b7, o7, rfl, -⟩ := HR7c.out.at 0 (by omega)
      obtain ⟨b8, o8, rfl, -⟩ := HR8c.out.at 0 (by omega)
      obtain ⟨b9, o9, rfl, -⟩ := HR9.out.at 0 (by omega)
      have v7 : RdB wf9 (some ⟨b7, o7 + 4, none⟩) (h7 - 4) (seg LA 4 (h7 - 4)) := seg_rd (by rw [hN7]; exact HR7c.out) 4 (h7 - 4) (by omega)
      have v8 : RdB wf9 (some ⟨b8, o8 + 4, none⟩) (n8 - 4) (seg LB 4 (n8 - 4)) := seg_rd (by rw [hN8]; exact HR8c.out) 4 (n8 - 4) (by omega)
      have v9 : RdB wf9 (some ⟨b9, o9 + 4, none⟩) (n9 - 4) (seg LC 4 (n9 - 4)) := seg_rd (by rw [hN9]; exact HR9.out) 4 (n9 - 4) (by omega)
      have HKS : Hid (∀ W, Below wf9.heap.size wf9 W → ((convert 23 9 (.slice (some ⟨b7, o7 + 4, none⟩) (h7 - 4) (c7 - 4))).run Try.prog W = .ok (.string TA) W ∧ (convert 23 9 (.slice (some ⟨b8, o8 + 4, none⟩) (n8 - 4) (c8 - 4))).run Try.prog W = .ok (.string TB) W ∧ (convert 23 9 (.slice (some ⟨b9, o9 + 4, none⟩) (n9 - 4) (c9 - 4))).run Try.prog W = .ok (.string TC) W)) := fun W hW => ⟨by rw [hTA]; exact conv_str (v7.keep hW) _, by rw [hTB]; exact conv_str (v8.keep hW) _, by rw [hTC]; exact conv_str (v9.keep hW) _⟩
      have i1 : (4 : Int) ≤ (n8 : Int) := by omega
      have i2 : (n8 : Int) ≤ (c8 : Int) := by omega
      have i3 : (4 : Int) ≤ (h7 : Int) := by omega
      have i4 : (h7 : Int) ≤ (c7 : Int) := by omega
      have i5 : (4 : Int) ≤ (n9 : Int) := by omega
      have i6 : (n9 : Int) ≤ (c9 : Int) := by omega
      have i7 : ¬ c7 = 4 := by omega
      have i8 : ¬ c8 = 4 := by omega
      have i9 : ¬ c9 = 4 := by omega
      have HI := Lib.hid hh7
      clear q1 q2 q3 q4 q5 hh7 hb7b hNb8 hNb9 hEQ v7 v8 v9 hN7 hN8 hN9 hTA hTB hTC hZA hZC
      go_upto_region 14 with fail
      go_region_held3 (fun W => (convert 23 9 (.slice (some ⟨b7, o7 + 4, none⟩) (h7 - 4) (c7 - 4))).run Try.prog W = .ok (.string TA) W ∧ (convert 23 9 (.slice (some ⟨b8, o8 + 4, none⟩) (n8 - 4) (c8 - 4))).run Try.prog W = .ok (.string TB) W ∧ (convert 23 9 (.slice (some ⟨b9, o9 + 4, none⟩) (n9 - 4) (c9 - 4))).run Try.prog W = .ok (.string TC) W) ((with_reducible refine HKS.out _ ?_; (repeat' (first | with_reducible refine Below.drew ?_ | with_reducible exact Below.refl _ _)))) (fail)
      go_wp2_with fail
      go_ret
      exact ⟨rfl, HBA.out.trans (HEND.out.drew.mono HBA.out.size)⟩

end Go.Proofs.Ytkcfkdmffbhljaa
