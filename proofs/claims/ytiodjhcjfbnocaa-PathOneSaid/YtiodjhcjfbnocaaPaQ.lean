/- The reference's diff of trees, and both Diffs. -/
import Derived.Test.YtiodjhcjfbnocaaPaN
import Derived.Test.YtiodjhcjfbnocaaPaK
namespace Go.Proofs.Ytiodjhcjfbnocaa
open Go.RowKit
set_option linter.unusedVariables false
set_option linter.unusedSimpArgs false

def RDifSaid (d : Nat) : Prop := ∀ t u : T, t.wt ≤ d → ∀ (Sp : Nat → Prop) (w : World) (c c2 : Array Value) (a : Option Addr) (n cp : Nat) (p : List Int), RdT w t c → RdT w u c2 → RdPS Sp w a p → (∀ k, Sp k → k < w.heap.size) → p.length = n → (a = none → cp = 0) → n ≤ cp → n + t.wt ≤ 1000000 →
  Calls Try.prog 44 #[.agg c, .agg c2, .slice a n cp] w fun e w' => ∃ v', e = .returned (.tuple #[v', .bool (diffT t u p).isSome]) ∧ OwnR w' w.heap.size (fun k => Sp k ∨ w.heap.size ≤ k) v' ((diffT t u p).getD []) ∧ Below w.heap.size w w'

theorem addO_nil (o : Option (List (List Int))) : addO [] o = o := by cases o <;> simp [addO]

theorem rdif_at {d : Nat} (hof : RDifSaid d) {t u : T} (hd : t.wt ≤ d) {wr w5 : World} {c c2 : Array Value} {a : Option Addr} {n cp : Nat} {p : List Int} {R : Option (List (List Int))} (hR : R = diffT t u p) (h : RdT wr t c) (h2 : RdT wr u c2) (hB : Below wr.heap.size wr w5) (hp : RdPS (fun k => wr.heap.size ≤ k ∧ k < w5.heap.size) w5 a p) (hn : p.length = n) (hc : a = none → cp = 0) (hcp : n ≤ cp) (hb : n + t.wt ≤ 1000000) :
    Calls Try.prog 44 #[.agg c, .agg c2, .slice a n cp] w5 fun e w' => ∃ a6 N6 c6, e = .returned (.tuple #[.slice a6 N6 c6, .bool R.isSome]) ∧ (R.getD []).length = N6 ∧ SrcR (fun k => wr.heap.size ≤ k) w' (.slice a6 N6 c6) (R.getD []) ∧ Below wr.heap.size wr w' := by
  subst hR
  refine (hof t u hd _ w5 c c2 a n cp p (h.keep hB) (h2.keep hB) hp (fun k hk => hk.2) hn hc hcp hb).mono ?_
  rintro e w' ⟨v, rfl, ho, hbl⟩
  obtain ⟨-, a6, c6, -, rfl, -⟩ := ho.reads
  refine ⟨a6, _, c6, rfl, rfl, ?_, hB.trans (hbl.mono hB.size)⟩
  obtain ⟨ys, h1, h2⟩ := ho.src
  exact ⟨ys, h1.imp fun k _ hk => by rcases hk with hk | hk; exact hk.1; exact Nat.le_trans hB.size hk, h2⟩

/-- Behind the value itself. -/
def RDCut (w : World) (L : Nat → Prop) (c c2 : Array Value) (g : List (List Int)) (o : Value) (W : World) : Prop :=
  ∃ a cp, o = .slice a g.length cp ∧ OwnR W (w.heap.size + 2) L o g ∧ BoxV W w.heap.size c ∧ BoxV W (w.heap.size + 1) c2 ∧ Below w.heap.size w W

/-- What stands at the head of each round. -/
def RDifRel (w : World) (L : Nat → Prop) (kids kids2 : F) (c c2 : Array Value) (g : Option (List (List Int))) (p : List Int) (M : Nat) (o i : Value) (wr : World) : Prop :=
  ∃ (u : Value) (j : Nat) (f : List (List Int)), u = o ∧ i = .int .i64 j ∧ j ≤ kids.len ∧ Hid (g = addO f (diffF (kids.drop j) (kids2.drop j) j p)) ∧ OwnR wr (w.heap.size + 2) L u f ∧ BoxV wr w.heap.size c ∧ BoxV wr (w.heap.size + 1) c2 ∧ Below w.heap.size w wr ∧ f.length + (kids.drop j).wt ≤ M

set_option maxRecDepth 100000 in
set_option maxHeartbeats 16000000 in
theorem rdif_step (d : Nat) (hof : RDifSaid d) : RDifSaid (d + 1) := by
  intro t u hd Sp w c c2 a n0 cp p h h2 hp hSp hn hcp hncp hxl
  have hown := own_calls t u
  have H1 := Lib.hid h
  have H2 := Lib.hid h2
  obtain ⟨k, bits, hi, lo, text, more, sub, bs, kids⟩ := t
  obtain ⟨k2, bits2, hi2, lo2, text2, more2, sub2, bs2, kids2⟩ := u
  have hwt : T.wt (.mk k bits hi lo text more sub bs kids) = 2 + text.size + more.size + bs.length + kids.wt := by simp only [T.wt]
  rw [hwt] at hd hxl
  have hlk := F.len_wt kids
  obtain ⟨ab, nb, cb, ak, nk, ck, rfl, -, -, hkl, hnk, hks⟩ := h
  obtain ⟨ab2, nb2, cb2, ak2, nk2, ck2, rfl, -, -, hkl2, hnk2, hks2⟩ := h2
  obtain ⟨G, hG⟩ : ∃ G, G = diffT (.mk k bits hi lo text more sub bs kids) (.mk k2 bits2 hi2 lo2 text2 more2 sub2 bs2 kids2) p := ⟨_, rfl⟩
  have hlen := diffT_len k bits hi lo text more sub bs kids (.mk k2 bits2 hi2 lo2 text2 more2 sub2 bs2 kids2) p []
  have hkid := diffT_kids k bits hi lo text more sub bs kids (.mk k2 bits2 hi2 lo2 text2 more2 sub2 bs2 kids2) p []
  simp only [T.kids] at hlen hkid
  rw [addO_nil, ← hG] at hlen hkid
  rw [← hG]
  rw [hkl, hkl2] at hlen hkid
  obtain ⟨q, hq⟩ : ∃ q, q = ownEq (.mk k bits hi lo text more sub bs kids) (.mk k2 bits2 hi2 lo2 text2 more2 sub2 bs2 kids2) := ⟨_, rfl⟩
  rw [← hq] at hkid hown
  have HOF := Lib.hid hof
  have HKS := Lib.hid hks
  have HKS2 := Lib.hid hks2
  have HKL := Lib.hid hkl
  have HKL2 := Lib.hid hkl2
  have HP := Lib.hid hp
  have HSP := Lib.hid hSp
  have HN := Lib.hid hn
  have HCP := Lib.hid hcp
  have HNCP := Lib.hid hncp
  have HLEN := Lib.hid hlen
  have HKID := Lib.hid hkid
  have hn63 : n0 ≤ 1000000 := by omega
  have hnk9 := hnk.1
  have hnk29 := hnk2.1
  clear hof hks hks2 hkl hkl2 hp hSp hn hcp hncp hwt hnk hnk2 hG hlen hkid hq
  have CO := fun W (a : RdT W (.mk k bits hi lo text more sub bs kids) (valCells k bits hi lo text more sub ab nb cb ak nk ck)) (b : RdT W (.mk k2 bits2 hi2 lo2 text2 more2 sub2 bs2 kids2) (valCells k2 bits2 hi2 lo2 text2 more2 sub2 ab2 nb2 cb2 ak2 nk2 ck2)) => Lib.hid (hown W _ _ a b)
  have hbx : Below w.heap.size w ((w.alloc (.cells (valCells k bits hi lo text more sub ab nb cb ak nk ck) 26)).alloc (.cells (valCells k2 bits2 hi2 lo2 text2 more2 sub2 ab2 nb2 cb2 ak2 nk2 ck2) 26)) := ((Below.refl _ _).alloc (Nat.le_refl _) _).alloc (by simp) _
  have hbx1 : BoxV ((w.alloc (.cells (valCells k bits hi lo text more sub ab nb cb ak nk ck) 26)).alloc (.cells (valCells k2 bits2 hi2 lo2 text2 more2 sub2 ab2 nb2 cb2 ak2 nk2 ck2) 26)) w.heap.size (valCells k bits hi lo text more sub ab nb cb ak nk ck) := (BoxV.new w _ _).keep ((Below.refl _ _).alloc (Nat.le_refl _) _)
  have hbx2 : BoxV ((w.alloc (.cells (valCells k bits hi lo text more sub ab nb cb ak nk ck) 26)).alloc (.cells (valCells k2 bits2 hi2 lo2 text2 more2 sub2 ab2 nb2 cb2 ak2 nk2 ck2) 26)) (w.heap.size + 1) (valCells k2 bits2 hi2 lo2 text2 more2 sub2 ab2 nb2 cb2 ak2 nk2 ck2) := by
    rw [show w.heap.size + 1 = (w.alloc (.cells (valCells k bits hi lo text more sub ab nb cb ak nk ck) 26)).heap.size by simp]
    exact BoxV.new _ _ _
  have HBX := Lib.hid hbx
  have HBX1 := Lib.hid hbx1
  have HBX2 := Lib.hid hbx2
  clear hown hbx hbx1 hbx2
  by_cases q3 : nk = nk2
  case neg =>
    have e1' : ((nk : Int) != nk2) = true := by simp; omega
    have hG := HLEN.out q3
    subst hG
    clear HKID HLEN
    go_enter Try.func44, Try.ntmps44
    go_wp2_with fail
    go_ret2
    exact ⟨.slice none 0 0, rfl, OwnR.nil _ _ _, HBX.out⟩
  subst q3
  have HGS : Hid (G = addO ([] ++ (if q then [] else [p])) (diffF (kids.drop 0) (kids2.drop 0) 0 p)) := HKID.out rfl
  clear HKID HLEN
  go_enter Try.func44, Try.ntmps44
  go_wp2_with fail
  refine (CO _ (H1.out.keep HBX.out) (H2.out.keep HBX.out)).out.mono ?_
  rintro e w1 ⟨rfl, hb1⟩
  have HB1 : Hid (Below w.heap.size w w1) := HBX.out.trans (hb1.mono HBX.out.size)
  have X1 := Lib.hid (HBX1.out.keep hb1)
  have X2 := Lib.hid (HBX2.out.keep hb1)
  have hz1 : w.heap.size + 2 ≤ w1.heap.size := by have := hb1.size; simp at this; omega
  clear hb1 CO
  go_upto_if 22 with fail
  go_cut [8] from 23 (fun o W => RDCut w (fun k => Sp k ∨ w.heap.size ≤ k) (valCells k bits hi lo text more sub ab nb cb ak nk ck) (valCells k2 bits2 hi2 lo2 text2 more2 sub2 ab2 nb2 cb2 ak2 nk ck2) ([] ++ (if q then [] else [p])) o W)
  case first =>
    cases q with
    | true =>
      go_wp2_with fail
      go_meet
      case rel => exact ⟨none, 0, rfl, OwnR.nil _ _ _, X1.out, X2.out, HB1.out⟩
    | false =>
      have HSR := Lib.hid (SrcR.one (S := Sp) (w := w1) HN.out (HP.out.keep (KeepS.below HB1.out)) HCP.out HNCP.out (by omega) 38)
      have hba : Below w1.heap.size w1 (w1.alloc (.cells #[.slice a n0 cp] 38)) := (Below.refl _ _).alloc (Nat.le_refl _) _
      have HBA := Lib.hid hba
      clear hba
      go_wp2_with (at_builtin; refine wpList_appR (v := .slice none 0 0) (f := []) (g := [p]) (B := w.heap.size + 2) (L := (fun k => Sp k ∨ w.heap.size ≤ k)) (S1 := Sp) (sv := .slice (some ⟨w1.heap.size, 0, none⟩) 1 1) (by rfl) _ _ (by rfl) (by rfl) (OwnR.nil _ _ _) (by rfl) HSR.out (fun k hk => ⟨.inl hk, fun e => nomatch e⟩) ?o3 ?o4 ?_)
      case o3 => simp
      case o4 => simp; omega
      intro u4 w4 ho4 ha4
      obtain ⟨-, a4, c4, -, hu4, -⟩ := ho4.reads
      subst hu4
      have HO4 := Lib.hid ho4
      have HA4 : Hid (Below w1.heap.size w1 w4) := ha4.below HBA.out (by simp) (fun k hk => nomatch hk)
      clear ho4 ha4
      go_wp2_with fail
      go_meet
      case rel => exact ⟨a4, c4, rfl, HO4.out, X1.out.keep HA4.out, X2.out.keep HA4.out, HB1.out.trans (HA4.out.mono HB1.out.size)⟩
  case rest =>
    obtain ⟨a4, c4, rfl, ho4, hx1, hx2, hb4⟩ := hcut
    obtain ⟨g, hg⟩ : ∃ g, g = [] ++ (if q then [] else [p]) := ⟨_, rfl⟩
    have hgl : g.length ≤ 1 := by rw [hg]; cases q <;> simp
    rw [← hg] at HGS ho4 ⊢
    have HO4 := Lib.hid ho4
    have HX1 := Lib.hid hx1
    have HX2 := Lib.hid hx2
    have HB4 := Lib.hid hb4
    have c8 : wc.cell? ⟨w.heap.size, 8, none⟩ = some (.slice ak nk ck) := (hx1.2 8 (by omega)).1
    clear ho4 hx1 hx2 hb4 hg
    go_wp2_with fail
    go_loopw [8, 9] (fun o i wr => RDifRel w (fun k => Sp k ∨ w.heap.size ≤ k) kids kids2 (valCells k bits hi lo text more sub ab nb cb ak nk ck) (valCells k2 bits2 hi2 lo2 text2 more2 sub2 ab2 nb2 cb2 ak2 nk ck2) G p (1 + kids.wt) o i wr) (fun _ i _ => nk - (intOf i).toNat)
    case atStart => exact ⟨_, 0, g, rfl, rfl, Nat.zero_le _, HGS, HO4.out, HX1.out, HX2.out, HB4.out, by simp [F.drop]; omega⟩
    case round =>
      obtain ⟨u, j, f, rfl, rfl, hj, HGG, ho, hbx, hbx2, hbw, hM⟩ := hrel
      rw [HKL.out] at hj
      have HO := Lib.hid ho
      have HBXa := Lib.hid hbx
      have HBXb := Lib.hid hbx2
      have HBW := Lib.hid hbw
      have hz : w.heap.size + 1 < wr.heap.size := hbx2.1
      have HUlt := Lib.hid ho.ltB
      obtain ⟨-, au, cu, -, rfl, hlu, -⟩ := ho.reads
      clear ho hbx hbx2 hbw HO4 HX1 HX2 HB4 HGS c8
      have c8 : wr.cell? ⟨w.heap.size, 8, none⟩ = some (.slice ak nk ck) := (HBXa.out.2 8 (by omega)).1
      by_cases hlt : j < nk
      · obtain ⟨⟨n, tt⟩, hx⟩ := F.get_some kids j (by rw [HKL.out]; exact hlt)
        obtain ⟨⟨n2, tt2⟩, hx2⟩ := F.get_some kids2 j (by rw [HKL2.out]; exact hlt)
        have hwg := F.wt_get kids j n tt hx
        have hst := diffF_step kids kids2 j n n2 tt tt2 p f hx hx2
        obtain ⟨b, o, k', bits', hi', lo', text', more', sub', bs', kids', ab', nb', cb', ak', nk', ck', rfl, rfl, e1, e2, e3, g0, g1, g2, g3, g4, g5, g6, g7, g8, g9⟩ := ((HKS.out.keep HBW.out).at hx).cells
        obtain ⟨b1, o1, k3, bits3, hi3, lo3, text3, more3, sub3, bs3, kids3, ab3, nb3, cb3, ak3, nk3, ck3, rfl, rfl, d1, d2, d3, z0, z1, z2, z3, z4, z5, z6, z7, z8, z9⟩ := ((HKS2.out.keep HBW.out).at hx2).cells
        have c8b : wr.cell? ⟨w.heap.size + 1, 8, none⟩ = some (.slice (some ⟨b1, o1, none⟩) nk ck2) := (HBXb.out.2 8 (by omega)).1
        have E3 := Lib.hid e3
        have D3 := Lib.hid d3
        have hj0 : (0 : Int) ≤ (j : Int) := by omega
        have hj1 : (j : Int) < (nk : Int) := by omega
        have hw1 : (T.mk k' bits' hi' lo' text' more' sub' bs' kids').wt ≤ d := by omega
        have hn2 : n0 + 1 + (T.mk k' bits' hi' lo' text' more' sub' bs' kids').wt ≤ 1000000 := by omega
        have hfb : f.length + (T.mk k' bits' hi' lo' text' more' sub' bs' kids').wt ≤ 1000000 := by omega
        obtain ⟨R, hR⟩ : ∃ R, R = diffT (T.mk k' bits' hi' lo' text' more' sub' bs' kids') (T.mk k3 bits3 hi3 lo3 text3 more3 sub3 bs3 kids3) (p ++ [(j : Int)]) := ⟨_, rfl⟩
        rw [← hR] at hst
        have HGN : Hid (G = if n.toList == n2.toList then (match R with | none => none | some d => addO (f ++ d) (diffF (kids.drop (j + 1)) (kids2.drop (j + 1)) (j + 1) p)) else none) := HGG.out.trans hst
        have HR := Lib.hid hR
        have HRW : Hid (∀ d, R = some d → d.length ≤ (T.mk k' bits' hi' lo' text' more' sub' bs' kids').wt) := by
          show ∀ d, _
          intro d0 hd0
          exact diffT_wt _ _ _ _ (hR.symm.trans hd0)
        have HSS : Hid (∀ W, Below wr.heap.size wr W → Hid (Below wr.heap.size wr W) ∧ W.cell? ⟨w.heap.size, 8, none⟩ = some (.slice (some ⟨b, o, none⟩) nk ck) ∧ W.cell? ⟨w.heap.size + 1, 8, none⟩ = some (.slice (some ⟨b1, o1, none⟩) nk ck2) ∧ W.cell? ⟨b, o + j * 10, none⟩ = some (.string n) ∧ W.cell? ⟨b, o + j * 10 + 1, none⟩ = some (.int .i64 k') ∧ W.cell? ⟨b, o + j * 10 + 2, none⟩ = some (.int .u64 (bits' : Nat)) ∧ W.cell? ⟨b, o + j * 10 + 3, none⟩ = some (.int .u64 (hi' : Nat)) ∧ W.cell? ⟨b, o + j * 10 + 4, none⟩ = some (.int .u64 (lo' : Nat)) ∧ W.cell? ⟨b, o + j * 10 + 5, none⟩ = some (.string text') ∧ W.cell? ⟨b, o + j * 10 + 6, none⟩ = some (.string more') ∧ W.cell? ⟨b, o + j * 10 + 7, none⟩ = some (.int .i64 sub') ∧ W.cell? ⟨b, o + j * 10 + 8, none⟩ = some (.slice ab' nb' cb') ∧ W.cell? ⟨b, o + j * 10 + 9, none⟩ = some (.slice ak' nk' ck') ∧ W.cell? ⟨b1, o1 + j * 10, none⟩ = some (.string n2) ∧ W.cell? ⟨b1, o1 + j * 10 + 1, none⟩ = some (.int .i64 k3) ∧ W.cell? ⟨b1, o1 + j * 10 + 2, none⟩ = some (.int .u64 (bits3 : Nat)) ∧ W.cell? ⟨b1, o1 + j * 10 + 3, none⟩ = some (.int .u64 (hi3 : Nat)) ∧ W.cell? ⟨b1, o1 + j * 10 + 4, none⟩ = some (.int .u64 (lo3 : Nat)) ∧ W.cell? ⟨b1, o1 + j * 10 + 5, none⟩ = some (.string text3) ∧ W.cell? ⟨b1, o1 + j * 10 + 6, none⟩ = some (.string more3) ∧ W.cell? ⟨b1, o1 + j * 10 + 7, none⟩ = some (.int .i64 sub3) ∧ W.cell? ⟨b1, o1 + j * 10 + 8, none⟩ = some (.slice ab3 nb3 cb3) ∧ W.cell? ⟨b1, o1 + j * 10 + 9, none⟩ = some (.slice ak3 nk3 ck3)) := by
          show ∀ W, _
          intro W hW
          exact ⟨hW, cell_below hW c8, cell_below hW c8b, cell_below hW g0, cell_below hW g1, cell_below hW g2, cell_below hW g3, cell_below hW g4, cell_below hW g5, cell_below hW g6, cell_below hW g7, cell_below hW g8, cell_below hW g9, cell_below hW z0, cell_below hW z1, cell_below hW z2, cell_below hW z3, cell_below hW z4, cell_below hW z5, cell_below hW z6, cell_below hW z7, cell_below hW z8, cell_below hW z9⟩
        have HPW : Hid (RdPS Sp wr a p) := HP.out.keep (KeepS.below HBW.out)
        clear hx hx2 hst e3 d3 e1 e2 d1 d2 hR
        obtain ⟨n5, hn5⟩ : ∃ m, m = f.length := ⟨_, rfl⟩
        rw [← hn5] at HO HUlt ⊢
        have HN5 := Lib.hid hn5
        clear hn5
        go_wp2_with fail
        go_region_held3 (fun W => Hid (Below wr.heap.size wr W) ∧ W.cell? ⟨w.heap.size, 8, none⟩ = some (.slice (some ⟨b, o, none⟩) nk ck) ∧ W.cell? ⟨w.heap.size + 1, 8, none⟩ = some (.slice (some ⟨b1, o1, none⟩) nk ck2) ∧ W.cell? ⟨b, o + j * 10, none⟩ = some (.string n) ∧ W.cell? ⟨b, o + j * 10 + 1, none⟩ = some (.int .i64 k') ∧ W.cell? ⟨b, o + j * 10 + 2, none⟩ = some (.int .u64 (bits' : Nat)) ∧ W.cell? ⟨b, o + j * 10 + 3, none⟩ = some (.int .u64 (hi' : Nat)) ∧ W.cell? ⟨b, o + j * 10 + 4, none⟩ = some (.int .u64 (lo' : Nat)) ∧ W.cell? ⟨b, o + j * 10 + 5, none⟩ = some (.string text') ∧ W.cell? ⟨b, o + j * 10 + 6, none⟩ = some (.string more') ∧ W.cell? ⟨b, o + j * 10 + 7, none⟩ = some (.int .i64 sub') ∧ W.cell? ⟨b, o + j * 10 + 8, none⟩ = some (.slice ab' nb' cb') ∧ W.cell? ⟨b, o + j * 10 + 9, none⟩ = some (.slice ak' nk' ck') ∧ W.cell? ⟨b1, o1 + j * 10, none⟩ = some (.string n2) ∧ W.cell? ⟨b1, o1 + j * 10 + 1, none⟩ = some (.int .i64 k3) ∧ W.cell? ⟨b1, o1 + j * 10 + 2, none⟩ = some (.int .u64 (bits3 : Nat)) ∧ W.cell? ⟨b1, o1 + j * 10 + 3, none⟩ = some (.int .u64 (hi3 : Nat)) ∧ W.cell? ⟨b1, o1 + j * 10 + 4, none⟩ = some (.int .u64 (lo3 : Nat)) ∧ W.cell? ⟨b1, o1 + j * 10 + 5, none⟩ = some (.string text3) ∧ W.cell? ⟨b1, o1 + j * 10 + 6, none⟩ = some (.string more3) ∧ W.cell? ⟨b1, o1 + j * 10 + 7, none⟩ = some (.int .i64 sub3) ∧ W.cell? ⟨b1, o1 + j * 10 + 8, none⟩ = some (.slice ab3 nb3 cb3) ∧ W.cell? ⟨b1, o1 + j * 10 + 9, none⟩ = some (.slice ak3 nk3 ck3)) (first | with_reducible exact HSS.out _ HB6.out | with_reducible exact HSS.out _ HB5.out | ((with_reducible refine HSS.out _ ?_); (repeat' (first | with_reducible exact HB6.out | with_reducible exact HB5.out | with_reducible apply Below.drew | with_reducible exact Below.refl _ _)); done) | fail) ((first | (go_at_call 47; with_reducible refine (longer_at Sp HN.out HCP.out hn63 j ?_ HPW.out).mono ?_; (case _ => (repeat' (first | with_reducible apply Below.drew | with_reducible exact Below.refl _ _))); rintro e w5 ⟨a5, c5, rfl, hp5, hc5, hnc5, hb5⟩; (have HREC := Lib.hid (rdif_at HOF.out hw1 HR.out E3.out D3.out hb5 hp5 (by simp [HN.out]) hc5 hnc5 hn2)); (have HB5 := Lib.hid hb5); clear hp5 hc5 hb5 hnc5) | (go_at_call 44; (with_reducible refine HREC.out.mono ?_); rintro e w6 ⟨a6, N6, c6, rfl, hN6, hs6, hb6⟩; obtain ⟨okk, hokk⟩ : ∃ o, o = R.isSome := ⟨_, rfl⟩; rw [← hokk]; (have HOK := Lib.hid hokk); (have HSR6 := Lib.hid hs6); (have HB6 := Lib.hid hb6); (have HO6 := Lib.hid (HO.out.keep hb6)); clear hs6 hb6 hN6 hokk) | fail))
        all_goals
          clear c8 c8b g0 g1 g2 g3 g4 g5 g6 g7 g8 g9 z0 z1 z2 z3 z4 z5 z6 z7 z8 z9
          obtain ⟨q0, q1, q2, q3, q4, q5, q6, q7, q8, q9, q10, q11, q12, q13, q14, q15, q16, q17, q18, q19, q20, q21⟩ := (HSS.out w6 HB6.out).2
          clear ‹Hid (Below wr.heap.size wr w6) ∧ _›
          have hb6 : Below w.heap.size w w6 := HBW.out.trans (HB6.out.mono HBW.out.size)
          have HB6w := Lib.hid hb6
          clear hb6
          cases okk with
          | false =>
            have hG : G = none := by
              rw [HGN.out]
              have h1 := HOK.out
              cases R with
              | none => simp
              | some dd => simp at h1
            subst hG
            go_wp2_with fail
            go_quiet (fail)
            go_wp2_with fail
            go_ret2
            exact ⟨.slice none 0 0, rfl, OwnR.nil _ _ _, Below_drewN HB6w.out⟩
          | true =>
            cases hnn : (n.toList == n2.toList) with
            | false =>
              have hn' : (n.toList != n2.toList) = true := by unfold bne; rw [hnn]; rfl
              have hG : G = none := by rw [HGN.out, hnn]; rfl
              subst hG
              go_wp2_with fail
              go_quiet (fail)
              go_wp2_with fail
              go_ret2
              exact ⟨.slice none 0 0, rfl, OwnR.nil _ _ _, Below_drewN HB6w.out⟩
            | true =>
              have hn' : (n.toList != n2.toList) = false := by unfold bne; rw [hnn]; rfl
              obtain ⟨dd, hdd⟩ : ∃ dd, R = some dd := by
                have h1 := HOK.out
                cases R with
                | none => simp at h1
                | some dd => exact ⟨dd, rfl⟩
              have hdl := HRW.out dd hdd
              have hG : Hid (G = addO (f ++ dd) (diffF (kids.drop (j + 1)) (kids2.drop (j + 1)) (j + 1) p)) := by
                show _ = _
                rw [HGN.out, hdd, hnn]
                rfl
              have hs : Hid (SrcR (fun k => wr.heap.size ≤ k) w6 (.slice a6 N6 c6) dd) := by
                have h1 := HSR6.out
                rw [hdd] at h1
                exact h1
              have HOd := Lib.hid (fun m => OwnR.keep (w' := w6.drewN m) HO6.out (below_drewN w6 m _))
              have HSd : Hid (∀ m, SrcR (fun k => wr.heap.size ≤ k) (w6.drewN m) (.slice a6 N6 c6) dd) := by
                show ∀ m, _
                intro m
                obtain ⟨ys, h1, h2⟩ := hs.out
                exact ⟨ys, h1.keep (KeepS.below (below_drewN w6 m _)), h2⟩
              clear hdd HGN hs
              go_wp2_with fail
              go_quiet (fail)
              go_wp2_with (at_builtin; refine wpList_appR (v := .slice au n5 cu) (f := f) (g := dd) (B := w.heap.size + 2) (L := (fun k => Sp k ∨ w.heap.size ≤ k)) (S1 := fun k => wr.heap.size ≤ k) (sv := .slice a6 N6 c6) (by rfl) _ _ (by rfl) (by rfl) (HOd.out _) (by rfl) (HSd.out _) (fun k hk => ⟨.inr (by omega), fun e => by have := (HUlt.out k e).2; omega⟩) ?o5 ?o6 ?_)
              case o5 => omega
              case o6 => have := HB6.out.size; show _ ≤ w6.heap.size; omega
              intro v7 w7 ho7 ha7
              obtain ⟨-, a7, c7, -, hv7, -⟩ := ho7.reads
              subst hv7
              have hb7 : Below w.heap.size w w7 := ha7.below (Below_drewN HB6w.out) HB6w.out.size (fun k hk => by have := (HUlt.out k hk).1; omega)
              have hx7 := (HBXa.out.keep (HB6.out.trans (below_drewN w6 _ _))).chg ha7.chg (fun e => by have := (HUlt.out _ e).1; omega)
              have hy7 := (HBXb.out.keep (HB6.out.trans (below_drewN w6 _ _))).chg ha7.chg (fun e => by have := (HUlt.out _ e).1; omega)
              obtain ⟨N7, hN7⟩ : ∃ N, N = (f ++ dd).length := ⟨_, rfl⟩
              rw [← hN7] at ho7 ha7 ⊢
              have HO7 := Lib.hid ho7
              have HB7 := Lib.hid hb7
              have HX7 := Lib.hid hx7
              have HY7 := Lib.hid hy7
              clear ho7 ha7 hb7 hx7 hy7 hN7 q0 q1 q2 q3 q4 q5 q6 q7 q8 q9 q10 q11 q12 q13 q14 q15 q16 q17 q18 q19 q20 q21
              go_wp2_with fail
              go_roundw
              case rel => exact ⟨_, j + 1, f ++ dd, rfl, by simp, by rw [HKL.out]; omega, hG, HO7.out, HX7.out, HY7.out, HB7.out, by rw [List.length_append]; omega⟩
              case measure => simp [intOf]; omega
      · have hend := HGG.out
        rw [diffF_end kids kids2 j p f (by rw [HKL.out]; omega)] at hend
        subst hend
        go_wp2_with fail
        go_ret2
        exact ⟨_, rfl, HO.out.base (by omega), HBW.out⟩

theorem rdif_all : ∀ d, RDifSaid d
  | 0 => fun t u hd => by cases t; simp only [T.wt] at hd; omega
  | d + 1 => rdif_step d (rdif_all d)

theorem dif_all : ∀ d, DifSaid d
  | 0 => fun t u hd => by cases t; simp only [T.wt] at hd; omega
  | d + 1 => dif_step d (dif_all d)

end Go.Proofs.Ytiodjhcjfbnocaa
