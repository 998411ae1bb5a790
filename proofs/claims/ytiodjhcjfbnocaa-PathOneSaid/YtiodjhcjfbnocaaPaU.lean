/- propylonbook.With and Place, walked. -/
import Derived.Test.YtiodjhcjfbnocaaPaT
import Derived.Test.YtiodjhcjfbnocaaPaH
import Derived.Deep.RegionHeld3
namespace Go.Proofs.Ytiodjhcjfbnocaa
open Go.RowKit
set_option linter.unusedVariables false
set_option linter.unusedSimpArgs false

def WithSaid (p : List Int) : Prop := ∀ (t x u : T) (l : List ByteArray), goT t p = some (u, l) → t.wt ≤ 100000 → ∀ (B : Nat) (w : World) (c cx : Array Value) (a : Option Addr) (n cp : Nat), RdTS (fun k => k < B) w t c → RdTS (fun k => k < B) w x cx → B ≤ w.heap.size → RdPS (fun _ => True) w a p → p.length = n → n ≤ cp → (a = none → cp = 0) →
  Calls Try.prog 32 #[.agg c, .slice a n cp, .agg cx] w fun e w' => ∃ c', e = .returned (.agg c') ∧ RdTS (fun k => k < B ∨ w.heap.size ≤ k) w' (withT t p x) c' ∧ Below w.heap.size w w'

theorem RdKsS.build {S : Nat → Prop} {w : World} {b o : Nat} (hb : S b) : ∀ {f : F} {i : Nat}, (∀ j n t, f.get? j = some (n, t) → ∃ c, n.size ≤ 9223372036854775807 ∧ w.cell? ⟨b, o + (i + j) * 10, none⟩ = some (.string n) ∧ (∀ m, m < 9 → w.cell? ⟨b, o + (i + j) * 10 + (m + 1), none⟩ = c[m]?) ∧ RdTS S w t c) → RdKsS S w (some ⟨b, o, none⟩) i f
  | .nil, i, _ => trivial
  | .cons n t r, i, h => by
    obtain ⟨c, h1, h2, h3, h4⟩ := h 0 n t rfl
    refine ⟨⟨b, o, c, rfl, hb, h1, h2, h3, h4⟩, RdKsS.build hb fun j n' t' hj => ?_⟩
    have := h (j + 1) n' t' hj
    rwa [show i + (j + 1) = i + 1 + j from by omega] at this
/-- The Kids, when one's value was laid anew. -/
theorem set_kidsS {S S' : Nat → Prop} {w w' : World} {B : Nat} {L : Nat → Prop} {g nk cp : Nat} {f : F} {j : Nat} {n : ByteArray} {u x : T} {cx : Array Value} (h : OwnK w B L (.slice (some ⟨g, 0, none⟩) nk cp) f) (hj : f.get? j = some (n, u)) (hx : RdTS S' w' x cx) (hch : Chg (fun k => k = g) w w') (hL : ∀ k, L k → S k) (hS' : ∀ k, S' k → S k) (hg : S g)
    (ho : ∀ off, (off < j * 10 + 1 ∨ j * 10 + 10 ≤ off) → w'.cell? ⟨g, off, none⟩ = w.cell? ⟨g, off, none⟩) (hc : ∀ m, m < 9 → w'.cell? ⟨g, j * 10 + (m + 1), none⟩ = cx[m]?) : RdKsS S w' (some ⟨g, 0, none⟩) 0 (f.set j x) := by
  refine RdKsS.build hg fun i n' t' hi => ?_
  rw [F.set_get] at hi
  by_cases hij : i = j
  · subst hij
    rw [if_pos rfl, hj] at hi
    simp only [Option.map_some, Option.some.injEq, Prod.mk.injEq] at hi
    obtain ⟨rfl, rfl⟩ := hi
    obtain ⟨c, a1, a2, a3, a4, -⟩ := h.kid hj
    refine ⟨cx, a1, ?_, fun m hm => ?_, hx.imp fun k _ hk => hS' k hk⟩
    · rw [show 0 + (0 + i) * 10 = i * 10 by omega, ho _ (by omega)]; exact a3
    · rw [show 0 + (0 + i) * 10 + (m + 1) = i * 10 + (m + 1) by omega]; exact hc m hm
  · rw [if_neg hij] at hi
    obtain ⟨c, a1, a2, a3, a4, -⟩ := h.kid hi
    refine ⟨c, a1, ?_, fun m hm => ?_, (a2.keep (KeepS.chg hch fun k hk => hk.2)).imp fun k _ hk => hL k hk.1⟩
    · rw [show 0 + (0 + i) * 10 = i * 10 by omega, ho _ (by omega)]; exact a3
    · rw [show 0 + (0 + i) * 10 + (m + 1) = i * 10 + (m + 1) by omega, ho _ (by omega)]; exact a4 m hm

theorem box3 (w : World) (c c2 c3 : Array Value) (ty : TypeId) : let W := (((w.alloc (.cells c ty)).alloc (.cells c2 ty)).alloc (.cells c3 ty)); Below w.heap.size w W ∧ BoxV W w.heap.size c ∧ BoxV W (w.heap.size + 1) c2 ∧ BoxV W (w.heap.size + 2) c3 := by
  have hb1 : Below w.heap.size w (w.alloc (.cells c ty)) := (Below.refl _ _).alloc (Nat.le_refl _) _
  have hb2 : Below w.heap.size w ((w.alloc (.cells c ty)).alloc (.cells c2 ty)) := hb1.alloc (by simp) _
  have hb3 : Below w.heap.size w (((w.alloc (.cells c ty)).alloc (.cells c2 ty)).alloc (.cells c3 ty)) := hb2.alloc (by simp; omega) _
  have x1 : BoxV (w.alloc (.cells c ty)) w.heap.size c := BoxV.new w c ty
  have x2 : BoxV ((w.alloc (.cells c ty)).alloc (.cells c2 ty)) (w.heap.size + 1) c2 := by
    rw [show w.heap.size + 1 = (w.alloc (.cells c ty)).heap.size by simp]
    exact BoxV.new _ _ _
  have x3 : BoxV (((w.alloc (.cells c ty)).alloc (.cells c2 ty)).alloc (.cells c3 ty)) (w.heap.size + 2) c3 := by
    rw [show w.heap.size + 2 = ((w.alloc (.cells c ty)).alloc (.cells c2 ty)).heap.size by simp]
    exact BoxV.new _ _ _
  exact ⟨hb3, (x1.keep ((Below.refl _ _).alloc (Nat.le_refl _) _)).keep ((Below.refl _ _).alloc (Nat.le_refl _) _), x2.keep ((Below.refl _ _).alloc (Nat.le_refl _) _), x3⟩

theorem BoxV.frz {W : World} {g : Nat} {c : Array Value} (h : BoxV W g c) : W.frozen? ⟨g, 0, none⟩ = false ∧ W.frozen? ⟨g, 1, none⟩ = false ∧ W.frozen? ⟨g, 2, none⟩ = false ∧ W.frozen? ⟨g, 3, none⟩ = false ∧ W.frozen? ⟨g, 4, none⟩ = false ∧ W.frozen? ⟨g, 5, none⟩ = false ∧ W.frozen? ⟨g, 6, none⟩ = false ∧ W.frozen? ⟨g, 7, none⟩ = false ∧ W.frozen? ⟨g, 8, none⟩ = false :=
  ⟨(h.2 0 (by omega)).2, (h.2 1 (by omega)).2, (h.2 2 (by omega)).2, (h.2 3 (by omega)).2, (h.2 4 (by omega)).2, (h.2 5 (by omega)).2, (h.2 6 (by omega)).2, (h.2 7 (by omega)).2, (h.2 8 (by omega)).2⟩

set_option maxRecDepth 100000 in
set_option maxHeartbeats 8000000 in
theorem with_nil : WithSaid [] := by
  intro t x u l hg hw B w c cx a n cp h hx hB hp hn hcp ha
  obtain rfl : n = 0 := by simpa using hn.symm
  have HX := Lib.hid hx
  obtain ⟨k, bits, hi, lo, text, more, sub, ab, nb, cb, ak, nk, ck, rfl⟩ := h.rd.shape
  obtain ⟨k2, bits2, hi2, lo2, text2, more2, sub2, ab2, nb2, cb2, ak2, nk2, ck2, rfl⟩ := hx.rd.shape
  have B3 := Lib.hid (box3 w (valCells k bits hi lo text more sub ab nb cb ak nk ck) (valCells k2 bits2 hi2 lo2 text2 more2 sub2 ab2 nb2 cb2 ak2 nk2 ck2) (valCells 0 0 0 0 ByteArray.empty ByteArray.empty 0 none 0 0 none 0 0) 26)
  have hb3 := B3.out.1
  obtain ⟨x0, x1, x2, x3, x4, x5, x6, x7, x8, -⟩ := B3.out.2.2.1.nine
  obtain ⟨z0, z1, z2, z3, z4, z5, z6, z7, z8, -⟩ := B3.out.2.2.2.nine
  obtain ⟨r0, r1, r2, r3, r4, r5, r6, r7, r8⟩ := B3.out.2.2.2.frz
  have HB3 := Lib.hid hb3
  clear h hx hp hn ha hg hb3
  go_enter Try.func32, Try.ntmps32
  go_wp2_with fail
  refine bodyPost_ret (v := .agg (valCells k2 bits2 hi2 lo2 text2 more2 sub2 ab2 nb2 cb2 ak2 nk2 ck2)) (by simp [results, Try.results32, go_sem, *]) rfl ?_
  have hb := (box3 w (valCells k bits hi lo text more sub ab nb cb ak nk ck) (valCells k2 bits2 hi2 lo2 text2 more2 sub2 ab2 nb2 cb2 ak2 nk2 ck2) (valCells k2 bits2 hi2 lo2 text2 more2 sub2 ab2 nb2 cb2 ak2 nk2 ck2) 26).1
  exact ⟨_, rfl, (HX.out.keep (KeepS.below hb)).imp (fun k _ hk => .inl hk), hb⟩

theorem rdps_nil' (S : Nat → Prop) (w : World) (a : Option Addr) : RdPS (fun _ => True) w a [] := ⟨fun i hi => absurd hi (by simp), fun h => absurd h (by simp)⟩

theorem heap_nw {w : World} {o : Obj} {i : Nat} (h : i = w.heap.size) : (w.alloc o).heap[i]? = some o := by subst h; exact heap_alloc_new w o

theorem OwnK.new {w : World} {B : Nat} {L : Nat → Prop} {v : Value} {f : F} (h : OwnK w B L v f) (hf : 0 < f.len) : ∃ g c, v = .slice (some ⟨g, 0, none⟩) f.len c ∧ B ≤ g ∧ g < w.heap.size ∧ f.len ≤ c ∧ f.len ≤ 9223372036854775807 := by
  obtain ⟨xs, S, ho, hk, hS⟩ := h
  rcases ho.2 with ⟨rfl, h0⟩ | ⟨g, cap, cur, rfl, hb, hg, hnc, hcm, hcs, htake⟩
  · omega
  · exact ⟨g, cap, rfl, hb, (Array.getElem?_eq_some_iff.1 hg).1, hnc, by unfold maxLen at hcm; omega⟩

theorem with_end {B g j c5 : Nat} {w w7 W' : World} {k : Int} {bits hi lo : Nat} {text more : ByteArray} {sub : Int} {bs : List UInt8} {kids : F} {ab : Option Addr} {nb cb : Nat} {ak : Option Addr} {ck : Nat} {nm : ByteArray} {v y u : T}
    (hk : RdKsS (fun k => k < B ∨ w.heap.size + 3 ≤ k) w7 (some ⟨g, 0, none⟩) 0 (kids.set j y)) (hb : Below w.heap.size w w7) (hz : w.heap.size + 3 ≤ w7.heap.size) (hX : Chg (fun k => k = w.heap.size + 2) w7 W') (hu : u = .mk k bits hi lo text more sub bs (kids.set j y))
    (hok : OwnOk k bits hi lo text more sub) (hrb : RdBS (fun k => k < B) w ab nb bs) (hnk : kids.len ≤ 9223372036854775807 ∧ Roomy ak kids.len ck ∧ Roomy ab nb cb) (h3 : kids.len ≤ c5) (h4 : kids.len ≤ 9223372036854775807) (hB : B ≤ w.heap.size) (hj : kids.get? j = some (nm, v)) :
    ∃ c', Ending.returned (.agg (valCells k bits hi lo text more sub ab nb cb (some ⟨g, 0, none⟩) kids.len c5)) = .returned (.agg c') ∧ RdTS (fun k => k < B ∨ w.heap.size ≤ k) W' u c' ∧ Below w.heap.size w W' := by
  have hb' : Below w.heap.size w W' := hb.trans (hX.below (by omega) (fun i e => by have : i = w.heap.size + 2 := e; omega))
  refine ⟨_, rfl, ?_, hb'⟩
  rw [hu]
  refine ⟨ab, nb, cb, some ⟨g, 0, none⟩, kids.len, c5, rfl, hok, ?_, F.set_len kids j y, ⟨h4, ⟨by simp, h3⟩, hnk.2.2⟩, ?_⟩
  · have := hrb.keep (S := fun k => k < B) (KeepS.below hb')
    exact ⟨this.1, fun h0 p hp => .inl (this.2 h0 p hp)⟩
  · exact (hk.keep (KeepS.chg hX fun k hk e => by have e' : k = w.heap.size + 2 := e; rcases hk with hk | hk <;> omega)).imp fun k _ hk => by
      rcases hk with hk | hk
      · exact .inl hk
      · right; omega

set_option maxRecDepth 100000 in
set_option maxHeartbeats 16000000 in
theorem with_cons (i : Int) (p : List Int) (ih : WithSaid p) : WithSaid (i :: p) := by
  intro t x u l hgo hw B w c cx a n cp h hx hBw hp hn hcp ha
  obtain ⟨j, nm, v, l', rfl, hj, hgv⟩ := goT_cons hgo
  have HT := Lib.hid h
  have HX := Lib.hid hx
  obtain ⟨k, bits, hi, lo, text, more, sub, bs, kids⟩ := t
  simp only [T.kids] at hj
  have hwt : T.wt (.mk k bits hi lo text more sub bs kids) = 2 + text.size + more.size + bs.length + kids.wt := by simp only [T.wt]
  have hjl := (F.get_lt kids j _ hj).1
  have hwg := F.wt_get kids j nm v hj
  have hlk := F.len_wt kids
  have hwr := withT_cons k bits hi lo text more sub bs kids j nm v p x hj
  obtain ⟨ab, nb, cb, ak, nk, ck, rfl, hok, hrb, hkl, hnk, hks⟩ := h
  subst hkl
  obtain ⟨k2, bits2, hi2, lo2, text2, more2, sub2, ab2, nb2, cb2, ak2, nk2, ck2, rfl⟩ := hx.rd.shape
  obtain ⟨b, o, rfl, hp0⟩ := hp.1 0 (by simp)
  have hp0 : w.cell? ⟨b, o, none⟩ = some (.int .i64 (j : Nat)) := by simpa [iat] using hp0
  have HPT := Lib.hid hp.tail
  obtain ⟨n', hn'⟩ : ∃ n', n' = p.length := ⟨_, rfl⟩
  obtain rfl : n = n' + 1 := by rw [← hn, hn']; simp
  have B3 := Lib.hid (box3 w (valCells k bits hi lo text more sub ab nb cb ak kids.len ck) (valCells k2 bits2 hi2 lo2 text2 more2 sub2 ab2 nb2 cb2 ak2 nk2 ck2) (valCells 0 0 0 0 ByteArray.empty ByteArray.empty 0 none 0 0 none 0 0) 26)
  have HB3 : Hid (Below w.heap.size w _) := B3.out.1
  have HSRC : Hid (∀ W, Below w.heap.size w W → SrcK (fun k => k < B) W (.slice ak kids.len ck) kids) := fun W hW => SrcK.of (hks.keep (KeepS.below hW)) hnk.2.1
  have HIH := Lib.hid ih
  have HGV := Lib.hid hgv
  have HJ := Lib.hid hj
  have HWR := Lib.hid hwr
  have HOK := Lib.hid hok
  have HRB := Lib.hid hrb
  have HNK := Lib.hid hnk
  have HN' := Lib.hid hn'
  obtain ⟨x0, x1, x2, x3, x4, x5, x6, x7, x8, l2⟩ := B3.out.2.2.1.nine
  have hbw : b < w.heap.size := cell_block hp0
  have hdn : (((n' + 1 : Nat) : Int) == 0) = false := by simp; omega
  have hkl0 : 0 < kids.len := by omega
  have hkl9 : kids.len ≤ 100000 := by omega
  have HWT := Lib.hid hwt
  have HWG := hwg
  clear ih hgo hgv hx hp hn ha hj hwr hok hrb hnk hks hn' hwt hwg hlk
  go_enter Try.func32, Try.ntmps32
  obtain ⟨W3, hW3⟩ : ∃ W, W = (((w.alloc (.cells (valCells k bits hi lo text more sub ab nb cb ak kids.len ck) 26)).alloc (.cells (valCells k2 bits2 hi2 lo2 text2 more2 sub2 ab2 nb2 cb2 ak2 nk2 ck2) 26)).alloc (.cells (valCells 0 0 0 0 ByteArray.empty ByteArray.empty 0 none 0 0 none 0 0) 26)) := ⟨_, rfl⟩
  have hs3 : W3.heap.size = w.heap.size + 3 := by rw [hW3]; simp
  have B3w := Lib.hid B3.out
  rw [← hW3] at B3w HB3
  have HW3 := Lib.hid hW3
  clear x0 x1 x2 x3 x4 x5 x6 x7 x8 l2 hW3 B3
  go_wp2_with (at_builtin; refine wpList_appK (v := .slice (some ⟨w.heap.size + 1 + 1 + 1, 0, none⟩) 0 0) (f := .nil) (g := kids) (B := w.heap.size + 3) (L := fun k => k < B) (S1 := fun k => k < B) (sv := .slice ak kids.len ck) (by rfl) _ _ (by rfl) (by rfl) (ownK_empty (heap_nw (by simp)) (by omega)) (by rfl) (HSRC.out _ ((HW3.out ▸ HB3.out).alloc (by simp; omega) _)) (fun k hk => ⟨hk, fun e => by have e2 : w.heap.size + 1 + 1 + 1 = k := Option.some.inj e; omega⟩) (by simp [F.len]; omega) (by simp) ?_)
  intro v5 w5 ho5 ha5
  have hsub5 : OwnK w5 (w.heap.size + 3) (fun k => k < B) v5 kids := ho5
  have hown5 : ∀ k, (Value.slice (some ⟨w.heap.size + 1 + 1 + 1, 0, none⟩) 0 0).ownBlock = some k → w.heap.size + 3 ≤ k := fun k e => by have e2 : w.heap.size + 1 + 1 + 1 = k := Option.some.inj e; omega
  have hb5 : Below (w.heap.size + 3) W3 w5 := by
    rw [HW3.out]
    exact ha5.below ((Below.refl (w.heap.size + 3) _).alloc (by simp) _) (by simp) hown5
  have hs5 : w.heap.size + 3 ≤ w5.heap.size := by have := hb5.size; omega
  obtain ⟨g, c5, rfl, hg1, hg2, hg3, hg4⟩ := hsub5.new hkl0
  have hx1 : BoxV w5 w.heap.size (valCells k bits hi lo text more sub ab nb cb ak kids.len ck) := B3w.out.2.1.below hb5 (by omega)
  have hx2 : BoxV w5 (w.heap.size + 1) (valCells k2 bits2 hi2 lo2 text2 more2 sub2 ab2 nb2 cb2 ak2 nk2 ck2) := B3w.out.2.2.1.below hb5 (by omega)
  have hx3 : BoxV w5 (w.heap.size + 2) (valCells 0 0 0 0 ByteArray.empty ByteArray.empty 0 none 0 0 none 0 0) := B3w.out.2.2.2.below hb5 (by omega)
  have c8 : w5.cell? ⟨w.heap.size, 8, none⟩ = some (.slice ak kids.len ck) := (hx1.2 8 (by omega)).1
  have f8 : w5.frozen? ⟨w.heap.size, 8, none⟩ = false := (hx1.2 8 (by omega)).2
  have HO5 := Lib.hid hsub5
  have HX1 := Lib.hid hx1
  have HX2 := Lib.hid hx2
  have HX3 := Lib.hid hx3
  have HB5 : Hid (Below w.heap.size w w5) := HB3.out.trans (hb5.mono (by omega))
  clear ho5 ha5 hsub5 hx1 hx2 hx3 hb5 hown5 B3w HB3 HW3 HSRC hs3
  go_wp2_with fail
  obtain ⟨wB, hwB⟩ : ∃ W, W = w5.setCell ⟨w.heap.size, 8, none⟩ (.slice (some ⟨g, 0, none⟩) kids.len c5) := ⟨_, rfl⟩
  have hsB : wB.heap.size = w5.heap.size := by rw [hwB]; simp [World.setCell]
  have hch : Chg (fun k => k = w.heap.size) w5 wB := by rw [hwB]; exact Chg.set1 _ _ _ _
  have hx1 : BoxV wB w.heap.size (valCells k bits hi lo text more sub ab nb cb (some ⟨g, 0, none⟩) kids.len c5) := by
    have := HX1.out.set 8 (.slice (some ⟨g, 0, none⟩) kids.len c5) (by simp) (by omega)
    rw [hwB]
    simpa using this
  rw [← hwB]
  have hx2 := HX2.out.chg hch (by omega)
  have hx3 := HX3.out.chg hch (by omega)
  have ho : OwnK wB (w.heap.size + 3) (fun k => k < B) (.slice (some ⟨g, 0, none⟩) kids.len c5) kids := HO5.out.chg hch (fun k e => by have e2 : g = k := Option.some.inj e; omega) (fun k hk => by omega)
  have hbB : Below w.heap.size w wB := HB5.out.trans (hch.below (by omega) (fun i hi => by omega))
  have hp0B : wB.cell? ⟨b, o, none⟩ = some (.int .i64 (j : Nat)) := cell_below hbB hp0
  obtain ⟨c3, hnm, hc3, z0, zc, zf⟩ := ho.kid HJ.out
  obtain ⟨k3, bits3, hi3, lo3, text3, more3, sub3, ab3, nb3, cb3, ak3, nk3, ck3, rfl⟩ := hc3.rd.shape
  have z1 : wB.cell? ⟨g, j * 10 + 1, none⟩ = some (.int .i64 k3) := zc 0 (by omega)
  have z2 : wB.cell? ⟨g, j * 10 + 2, none⟩ = some (.int .u64 (bits3 : Nat)) := zc 1 (by omega)
  have z3 : wB.cell? ⟨g, j * 10 + 3, none⟩ = some (.int .u64 (hi3 : Nat)) := zc 2 (by omega)
  have z4 : wB.cell? ⟨g, j * 10 + 4, none⟩ = some (.int .u64 (lo3 : Nat)) := zc 3 (by omega)
  have z5 : wB.cell? ⟨g, j * 10 + 5, none⟩ = some (.string text3) := zc 4 (by omega)
  have z6 : wB.cell? ⟨g, j * 10 + 6, none⟩ = some (.string more3) := zc 5 (by omega)
  have z7 : wB.cell? ⟨g, j * 10 + 7, none⟩ = some (.int .i64 sub3) := zc 6 (by omega)
  have z8 : wB.cell? ⟨g, j * 10 + 8, none⟩ = some (.slice ab3 nb3 cb3) := zc 7 (by omega)
  have z9 : wB.cell? ⟨g, j * 10 + 9, none⟩ = some (.slice ak3 nk3 ck3) := zc 8 (by omega)
  obtain ⟨x0, x1, x2, x3, x4, x5, x6, x7, x8, -⟩ := hx2.nine
  obtain ⟨y0, y1, y2, y3, y4, y5, y6, y7, y8, -⟩ := hx1.nine
  have HSS : Hid (∀ W, Chg (fun k => k = g) wB W → Hid (Chg (fun k => k = g) wB W) ∧ W.cell? ⟨w.heap.size, 8, none⟩ = some (.slice (some ⟨g, 0, none⟩) kids.len c5) ∧ W.cell? ⟨b, o, none⟩ = some (.int .i64 (j : Nat)) ∧ W.cell? ⟨w.heap.size + 1, 0, none⟩ = some (.int .i64 k2) ∧ W.cell? ⟨w.heap.size + 1, 1, none⟩ = some (.int .u64 (bits2 : Nat)) ∧ W.cell? ⟨w.heap.size + 1, 2, none⟩ = some (.int .u64 (hi2 : Nat)) ∧ W.cell? ⟨w.heap.size + 1, 3, none⟩ = some (.int .u64 (lo2 : Nat)) ∧ W.cell? ⟨w.heap.size + 1, 4, none⟩ = some (.string text2) ∧ W.cell? ⟨w.heap.size + 1, 5, none⟩ = some (.string more2) ∧ W.cell? ⟨w.heap.size + 1, 6, none⟩ = some (.int .i64 sub2) ∧ W.cell? ⟨w.heap.size + 1, 7, none⟩ = some (.slice ab2 nb2 cb2) ∧ W.cell? ⟨w.heap.size + 1, 8, none⟩ = some (.slice ak2 nk2 ck2)) := by
    show ∀ W, _
    intro W hW
    exact ⟨hW, hW.cell (by dsimp only; omega) y8, hW.cell (by dsimp only; omega) hp0B, hW.cell (by dsimp only; omega) x0, hW.cell (by dsimp only; omega) x1, hW.cell (by dsimp only; omega) x2, hW.cell (by dsimp only; omega) x3, hW.cell (by dsimp only; omega) x4, hW.cell (by dsimp only; omega) x5, hW.cell (by dsimp only; omega) x6, hW.cell (by dsimp only; omega) x7, hW.cell (by dsimp only; omega) x8⟩
  have HO := Lib.hid ho
  have HY1 := Lib.hid hx1
  have HY3 := Lib.hid hx3
  have HBB := Lib.hid hbB
  have HC3 := Lib.hid hc3
  have HZF := Lib.hid zf
  have hj0 : (0 : Int) ≤ (j : Int) := by omega
  have hj1 : (j : Int) < (kids.len : Int) := by omega
  have hgw : w.heap.size + 2 < g := by omega
  have hg2B : g < wB.heap.size := by omega
  obtain ⟨cq, rfl⟩ : ∃ cq, cp = cq + 1 := ⟨cp - 1, by omega⟩
  have hwv : v.wt ≤ 100000 := by rw [HWT.out] at hw; omega
  have HTL : Hid (∀ W, Below wB.heap.size wB W → ∀ a', (n' = 0 ∨ a' = some ⟨b, o + 1, none⟩) → RdPS (fun _ => True) W a' p) := by
    show ∀ W, _
    intro W hW a' ha'
    rcases ha' with h0 | rfl
    · have : p = [] := List.length_eq_zero_iff.1 (by rw [← HN'.out, h0])
      subst this
      exact rdps_nil' (fun _ => True) _ _
    · exact HPT.out.keep (KeepS.below (hbB.trans (hW.mono hbB.size)))
  have hBB : B ≤ wB.heap.size := by omega
  have CW := Lib.hid (fun W (hW : Below wB.heap.size wB W) a' n2 cp' h1 h2 h3 h4 => HIH.out v x u l' HGV.out hwv B W (valCells k3 bits3 hi3 lo3 text3 more3 sub3 ab3 nb3 cb3 ak3 nk3 ck3) (valCells k2 bits2 hi2 lo2 text2 more2 sub2 ab2 nb2 cb2 ak2 nk2 ck2) a' n2 cp' ((HC3.out.keep (KeepS.below hW)).imp fun k _ hk => hk.1) (HX.out.keep (KeepS.below (hbB.trans (hW.mono hbB.size)))) (Nat.le_trans hBB hW.size) (HTL.out W hW a' h1) h2 h3 h4)
  clear ho hx1 hx2 hx3 hbB hch hc3 hnm zc zf hwB c8 f8 HO5 HX1 HX2 HX3 HB5
  go_wp2_with fail
  by_cases hq0 : cq = 0
  · subst hq0
    obtain rfl : n' = 0 := by omega
    have hn0 : (0 : Nat) = 0 := rfl
    have hXg : (fun k => k = g) g := rfl
    refine wp_region_held_drew (S := fun W => Hid (Chg (fun k => k = g) wB W) ∧ W.cell? ⟨w.heap.size, 8, none⟩ = some (.slice (some ⟨g, 0, none⟩) kids.len c5) ∧ W.cell? ⟨b, o, none⟩ = some (.int .i64 (j : Nat)) ∧ W.cell? ⟨w.heap.size + 1, 0, none⟩ = some (.int .i64 k2) ∧ W.cell? ⟨w.heap.size + 1, 1, none⟩ = some (.int .u64 (bits2 : Nat)) ∧ W.cell? ⟨w.heap.size + 1, 2, none⟩ = some (.int .u64 (hi2 : Nat)) ∧ W.cell? ⟨w.heap.size + 1, 3, none⟩ = some (.int .u64 (lo2 : Nat)) ∧ W.cell? ⟨w.heap.size + 1, 4, none⟩ = some (.string text2) ∧ W.cell? ⟨w.heap.size + 1, 5, none⟩ = some (.string more2) ∧ W.cell? ⟨w.heap.size + 1, 6, none⟩ = some (.int .i64 sub2) ∧ W.cell? ⟨w.heap.size + 1, 7, none⟩ = some (.slice ab2 nb2 cb2) ∧ W.cell? ⟨w.heap.size + 1, 8, none⟩ = some (.slice ak2 nk2 ck2)) (by kernel_rfl) ?hSA0 (fun hHeld => ?restA0)
    case hSA0 => exact HSS.out _ (Chg.refl _ _).drew
    refine wpAnyH_take (i := 0) (oi := _) (v := ?vv1) rfl (by kernel_rfl) (by kernel_rfl) (by kernel_rfl) (fun _ _ _ h => h) (Or.inl ⟨by rfl, ?hy1⟩) (by assumption) ?rest1
    case hy1 => (intro w hSw; (try dsimp only at hSw); go_simp; try with_reducible rfl)
    (try simp only [Act.put, List.setIfInBounds_toArray, List.set_cons_zero, List.set_cons_succ])
    refine wpAnyH_take (i := 1) (oi := _) (v := ?vv2) rfl (by kernel_rfl) (by kernel_rfl) (by kernel_rfl) (fun _ _ _ h => h) (Or.inl ⟨by rfl, ?hy2⟩) (by assumption) ?rest2
    case hy2 => (intro w hSw; (try dsimp only at hSw); go_simp; try with_reducible rfl)
    (try simp only [Act.put, List.setIfInBounds_toArray, List.set_cons_zero, List.set_cons_succ])
    refine wpAnyH_take (i := 2) (oi := _) (v := ?vv3) rfl (by kernel_rfl) (by kernel_rfl) (by kernel_rfl) (fun _ _ _ h => h) (Or.inl ⟨by rfl, ?hy3⟩) (by assumption) ?rest3
    case hy3 => (intro w hSw; (try dsimp only at hSw); go_simp; try with_reducible rfl)
    (try simp only [Act.put, List.setIfInBounds_toArray, List.set_cons_zero, List.set_cons_succ])
    refine wpAnyH_take (i := 3) (oi := _) (v := ?vv4) rfl (by kernel_rfl) (by kernel_rfl) (by kernel_rfl) (fun _ _ _ h => h) (Or.inl ⟨by rfl, ?hy4⟩) (by assumption) ?rest4
    case hy4 => (intro w hSw; (try dsimp only at hSw); go_simp; try with_reducible rfl)
    (try simp only [Act.put, List.setIfInBounds_toArray, List.set_cons_zero, List.set_cons_succ])
    refine wpAnyH_take (i := 4) (oi := _) (v := ?vv5) rfl (by kernel_rfl) (by kernel_rfl) (by kernel_rfl) (fun _ _ _ h => h) (Or.inl ⟨by rfl, ?hy5⟩) (by assumption) ?rest5
    case hy5 => (intro w hSw; (try dsimp only at hSw); go_simp; try with_reducible rfl)
    (try simp only [Act.put, List.setIfInBounds_toArray, List.set_cons_zero, List.set_cons_succ])
    refine wpAnyH_take (i := 5) (oi := _) (v := ?vv6) rfl (by kernel_rfl) (by kernel_rfl) (by kernel_rfl) (fun _ _ _ h => h) (Or.inl ⟨by rfl, ?hy6⟩) (by assumption) ?rest6
    case hy6 => (intro w hSw; (try dsimp only at hSw); go_simp; try with_reducible rfl)
    (try simp only [Act.put, List.setIfInBounds_toArray, List.set_cons_zero, List.set_cons_succ])
    refine wpAnyH_take (i := 6) (oi := _) (v := ?vv7) rfl (by kernel_rfl) (by kernel_rfl) (by kernel_rfl) (fun _ _ _ h => h) (Or.inl ⟨by rfl, ?hy7⟩) (by assumption) ?rest7
    case hy7 => (intro w hSw; (try dsimp only at hSw); go_simp; try with_reducible rfl)
    (try simp only [Act.put, List.setIfInBounds_toArray, List.set_cons_zero, List.set_cons_succ])
    refine wpAnyH_take (i := 7) (oi := _) (v := ?vv8) rfl (by kernel_rfl) (by kernel_rfl) (by kernel_rfl) (fun _ _ _ h => h) (Or.inl ⟨by rfl, ?hy8⟩) (by assumption) ?rest8
    case hy8 => (intro w hSw; (try dsimp only at hSw); go_simp; try with_reducible rfl)
    (try simp only [Act.put, List.setIfInBounds_toArray, List.set_cons_zero, List.set_cons_succ])
    refine wpAnyH_take (i := 8) (oi := _) (v := ?vv9) rfl (by kernel_rfl) (by kernel_rfl) (by kernel_rfl) (fun _ _ _ h => h) (Or.inl ⟨by rfl, ?hy9⟩) (by assumption) ?rest9
    case hy9 => (intro w hSw; (try dsimp only at hSw); go_simp; try with_reducible rfl)
    (try simp only [Act.put, List.setIfInBounds_toArray, List.set_cons_zero, List.set_cons_succ])
    refine wpAnyH_take (i := 9) (oi := _) (v := ?vv10) rfl (by kernel_rfl) (by kernel_rfl) (by kernel_rfl) (fun _ _ _ h => h) (Or.inl ⟨by rfl, ?hy10⟩) (by assumption) ?rest10
    case hy10 => (intro w hSw; (try dsimp only at hSw); go_simp; try with_reducible rfl)
    (try simp only [Act.put, List.setIfInBounds_toArray, List.set_cons_zero, List.set_cons_succ])
    refine wpAnyH_take (i := 10) (oi := _) (v := ?vv11) rfl (by kernel_rfl) (by kernel_rfl) (by kernel_rfl) (fun _ _ _ h => h) (Or.inl ⟨by rfl, ?hy11⟩) (by assumption) ?rest11
    case hy11 => (intro w hSw; (try dsimp only at hSw); go_simp; try with_reducible rfl)
    (try simp only [Act.put, List.setIfInBounds_toArray, List.set_cons_zero, List.set_cons_succ])
    refine wpAnyH_take (i := 11) (oi := _) (v := ?vv12) rfl (by kernel_rfl) (by kernel_rfl) (by kernel_rfl) (fun _ _ _ h => h) (Or.inl ⟨by rfl, ?hy12⟩) (by assumption) ?rest12
    case hy12 => (intro w hSw; (try dsimp only at hSw); go_simp; try with_reducible rfl)
    (try simp only [Act.put, List.setIfInBounds_toArray, List.set_cons_zero, List.set_cons_succ])
    refine wpAnyH_take (i := 13) (oi := _) (v := ?vv13) rfl (by kernel_rfl) (by kernel_rfl) (by kernel_rfl) (fun _ _ _ h => h) (Or.inl ⟨by rfl, ?hy13⟩) (by assumption) ?rest13
    case hy13 => (intro w hSw; (try dsimp only at hSw); go_simp; try with_reducible rfl)
    (try simp only [Act.put, List.setIfInBounds_toArray, List.set_cons_zero, List.set_cons_succ])
    refine wpAnyH_take (i := 14) (oi := _) (v := ?vv14) rfl (by kernel_rfl) (by kernel_rfl) (by kernel_rfl) (fun _ _ _ h => h) (Or.inl ⟨by rfl, ?hy14⟩) (by assumption) ?rest14
    case hy14 => (intro w hSw; (try dsimp only at hSw); go_simp; try with_reducible rfl)
    (try simp only [Act.put, List.setIfInBounds_toArray, List.set_cons_zero, List.set_cons_succ])
    refine wpAnyH_take (i := 15) (oi := _) (v := ?vv15) rfl (by kernel_rfl) (by kernel_rfl) (by kernel_rfl) (fun _ _ _ h => h) (Or.inl ⟨by rfl, ?hy15⟩) (by assumption) ?rest15
    case hy15 => (intro w hSw; (try dsimp only at hSw); go_simp; try with_reducible rfl)
    (try simp only [Act.put, List.setIfInBounds_toArray, List.set_cons_zero, List.set_cons_succ])
    refine wpAnyH_ready (rs := [12]) (by kernel_rfl) (by simp) ?_
    refine AllReadyH.cons (o := _) rfl (fun K hK => ?_) AllReadyH.nil
    go_simp
    refine hK.out _ _ ?hS16 (fun hHeld => ?rest16)
    case hS16 => (refine HSS.out _ ?_; (repeat' (first | with_reducible exact HC6.out | with_reducible refine Chg.setCell ?_ (fun _ => hXg) _ | with_reducible apply Chg.drew | with_reducible exact Chg.refl _ _)))
    clear hK K
    (try simp only [Act.put, List.setIfInBounds_toArray, List.set_cons_zero, List.set_cons_succ])
    refine wpAnyH_ready (rs := [16]) (by kernel_rfl) (by simp) ?_
    refine AllReadyH.cons (o := _) rfl (fun K hK => ?_) AllReadyH.nil
    go_simp
    go_at_call 32
    refine (CW.out _ ?_ (some ⟨b, o, none⟩) 0 0 (.inl hn0) ?_ ?_ ?_).mono ?_
    case refine_1 => (repeat' (first | with_reducible apply Below.drew | with_reducible exact Below.refl _ _))
    case refine_2 => first | exact HN'.out.symm | (simp; done)
    case refine_3 => omega
    case refine_4 => first | (intro h; exact absurd h (by simp)) | (intro _; rfl)
    rintro e w6 ⟨c6, rfl, hr6, hb6⟩
    obtain ⟨k6, bits6, hi6, lo6, text6, more6, sub6, ab6, nb6, cb6, ak6, nk6, ck6, rfl⟩ := hr6.rd.shape
    have HB6 : Hid (Below wB.heap.size wB w6) := (by refine Below.trans ?_ (hb6.mono ?_); (case _ => (repeat' (first | with_reducible apply Below.drew | with_reducible exact Below.refl _ _))); (case _ => first | exact Nat.le_refl _ | (simp; done)))
    have HR6 := Lib.hid hr6
    have HC6 : Hid (Chg (fun k => k = g) wB w6) := Lib.hid (Chg.of_below HB6.out)
    have y8 := cell_below HB6.out y8
    have hp0B := cell_below HB6.out hp0B
    have t1 := cell_below HB6.out z1
    have t2 := cell_below HB6.out z2
    have t3 := cell_below HB6.out z3
    have t4 := cell_below HB6.out z4
    have t5 := cell_below HB6.out z5
    have t6 := cell_below HB6.out z6
    have t7 := cell_below HB6.out z7
    have t8 := cell_below HB6.out z8
    have t9 := cell_below HB6.out z9
    have q1 := (HB6.out.frozen (p := ⟨g, j * 10 + 1, none⟩) hg2B).trans (HZF.out _)
    have q2 := (HB6.out.frozen (p := ⟨g, j * 10 + 2, none⟩) hg2B).trans (HZF.out _)
    have q3 := (HB6.out.frozen (p := ⟨g, j * 10 + 3, none⟩) hg2B).trans (HZF.out _)
    have q4 := (HB6.out.frozen (p := ⟨g, j * 10 + 4, none⟩) hg2B).trans (HZF.out _)
    have q5 := (HB6.out.frozen (p := ⟨g, j * 10 + 5, none⟩) hg2B).trans (HZF.out _)
    have q6 := (HB6.out.frozen (p := ⟨g, j * 10 + 6, none⟩) hg2B).trans (HZF.out _)
    have q7 := (HB6.out.frozen (p := ⟨g, j * 10 + 7, none⟩) hg2B).trans (HZF.out _)
    have q8 := (HB6.out.frozen (p := ⟨g, j * 10 + 8, none⟩) hg2B).trans (HZF.out _)
    have q9 := (HB6.out.frozen (p := ⟨g, j * 10 + 9, none⟩) hg2B).trans (HZF.out _)
    clear hr6 hb6
    refine hK.out _ _ ?hS17 (fun hHeld => ?rest17)
    case hS17 => (refine HSS.out _ ?_; (repeat' (first | with_reducible exact HC6.out | with_reducible refine Chg.setCell ?_ (fun _ => hXg) _ | with_reducible apply Chg.drew | with_reducible exact Chg.refl _ _)))
    clear hK K
    (try simp only [Act.put, List.setIfInBounds_toArray, List.set_cons_zero, List.set_cons_succ])
    refine wpAnyH_take (i := 17) (oi := _) (v := ?vv18) rfl (by kernel_rfl) (by kernel_rfl) (by kernel_rfl) (fun _ _ _ h => h) (Or.inl ⟨by rfl, ?hy18⟩) (by assumption) ?rest18
    case hy18 => (intro w hSw; (try dsimp only at hSw); go_simp; try with_reducible rfl)
    (try simp only [Act.put, List.setIfInBounds_toArray, List.set_cons_zero, List.set_cons_succ])
    refine wpAnyH_take (i := 18) (oi := _) (v := ?vv19) rfl (by kernel_rfl) (by kernel_rfl) (by kernel_rfl) (fun _ _ _ h => h) (Or.inl ⟨by rfl, ?hy19⟩) (by assumption) ?rest19
    case hy19 => (intro w hSw; (try dsimp only at hSw); go_simp; try with_reducible rfl)
    (try simp only [Act.put, List.setIfInBounds_toArray, List.set_cons_zero, List.set_cons_succ])
    refine wpAnyH_ready (rs := [19]) (by kernel_rfl) (by simp) ?_
    refine AllReadyH.cons (o := _) rfl (fun K hK => ?_) AllReadyH.nil
    go_simp
    refine hK.out _ _ ?hS20 (fun hHeld => ?rest20)
    case hS20 => (refine HSS.out _ ?_; (repeat' (first | with_reducible exact HC6.out | with_reducible refine Chg.setCell ?_ (fun _ => hXg) _ | with_reducible apply Chg.drew | with_reducible exact Chg.refl _ _)))
    clear hK K
    (try simp only [Act.put, List.setIfInBounds_toArray, List.set_cons_zero, List.set_cons_succ])
    refine wpAnyH_done (by kernel_rfl) ?_ _
    obtain ⟨w7, hw7⟩ : ∃ W, W = (((((((((w6.setCell ⟨g, j * 10 + 1, none⟩ (.int .i64 k6)).setCell ⟨g, j * 10 + 2, none⟩ (.int .u64 (bits6 : Nat))).setCell ⟨g, j * 10 + 3, none⟩ (.int .u64 (hi6 : Nat))).setCell ⟨g, j * 10 + 4, none⟩ (.int .u64 (lo6 : Nat))).setCell ⟨g, j * 10 + 5, none⟩ (.string text6)).setCell ⟨g, j * 10 + 6, none⟩ (.string more6)).setCell ⟨g, j * 10 + 7, none⟩ (.int .i64 sub6)).setCell ⟨g, j * 10 + 8, none⟩ (.slice ab6 nb6 cb6)).setCell ⟨g, j * 10 + 9, none⟩ (.slice ak6 nk6 ck6)) := ⟨_, rfl⟩
    rw [← hw7]
    have hc67 : Chg (fun k => k = g) w6 w7 := by
      rw [hw7]
      (repeat' (first | with_reducible exact Chg.refl _ _ | refine Chg.setCell ?_ (fun _ => hXg) _))
    have hcB7 : Chg (fun k => k = g) wB w7 := HC6.out.trans hc67 fun _ _ h => h
    have hsz7 : w7.heap.size = w6.heap.size := by rw [hw7]; simp [World.setCell]
    have hks7 : RdKsS (fun k => k < B ∨ w.heap.size + 3 ≤ k) w7 (some ⟨g, 0, none⟩) 0 (kids.set j (withT v p x)) := by
      refine set_kidsS HO.out HJ.out (HR6.out.keep (KeepS.chg hc67 fun k hk e => ?_)) hcB7 (fun k hk => .inl hk) (fun k hk => ?_) (.inr (by omega)) (fun off ho => ?_) (fun m hm => ?_)
      · have e' : k = g := e
        rcases hk with hk | hk
        · omega
        · have : wB.heap.size ≤ k := hk
          omega
      · rcases hk with hk | hk
        · exact .inl hk
        · have : wB.heap.size ≤ k := hk
          right; omega
      · rw [hw7]
        have hw6c : w6.cell? ⟨g, off, none⟩ = wB.cell? ⟨g, off, none⟩ := World.cell?_of_block (HB6.out.block g hg2B)
        rw [← hw6c]
        (repeat' (first | with_reducible rfl | (rw [World.cell?_setCell_other _ _ _ _ (by intro e; have := congrArg Addr.off e; simp only at this; omega)])))
      · rw [hw7]
        have : m = 0 ∨ m = 1 ∨ m = 2 ∨ m = 3 ∨ m = 4 ∨ m = 5 ∨ m = 6 ∨ m = 7 ∨ m = 8 := by omega
        rcases this with rfl | rfl | rfl | rfl | rfl | rfl | rfl | rfl | rfl <;> simp [go_sem, *]
    have HK7 := Lib.hid hks7
    have HB7 : Hid (Below w.heap.size w w7) := HBB.out.trans (hcB7.below (by omega) (fun i e => by have : i = g := e; omega))
    have hy7 := (HY1.out.chg hcB7 (by omega)).nine
    have hz7 := HY3.out.chg hcB7 (by omega)
    obtain ⟨r0, r1, r2, r3, r4, r5, r6, r7, r8⟩ := hz7.frz
    have hz37 : w.heap.size + 3 ≤ w7.heap.size := by have := HB6.out.size; omega
    clear hw7 hc67 hcB7 hks7 t1 t2 t3 t4 t5 t6 t7 t8 t9 q1 q2 q3 q4 q5 q6 q7 q8 q9 y0 y1 y2 y3 y4 y5 y6 y7 y8 x0 x1 x2 x3 x4 x5 x6 x7 x8 z0 z1 z2 z3 z4 z5 z6 z7 z8 z9 hHeld hXg
    obtain ⟨y0, y1, y2, y3, y4, y5, y6, y7, y8, -⟩ := hy7
    obtain ⟨u0, u1, u2, u3, u4, u5, u6, u7, u8, lu⟩ := hz7.nine
    (repeat (first | go_values | go_skip | go_guarded | go_step | go_upon | (go_simp; go_at_K)))
    refine bodyPost_ret (v := .agg (valCells k bits hi lo text more sub ab nb cb (some ⟨g, 0, none⟩) kids.len c5)) (by simp [results, Try.results32, go_sem, *]) rfl ?_
    have hX2 : (fun k => k = w.heap.size + 2) (w.heap.size + 2) := rfl
    refine with_end (w7 := w7) HK7.out HB7.out hz37 ?_ HWR.out HOK.out HRB.out HNK.out hg3 hg4 hBw HJ.out
    (repeat' (first | with_reducible exact Chg.refl _ _ | refine Chg.setCell ?_ (fun _ => hX2) _))
  · have hcq : ¬ (cq : Int) = 0 := by omega
    have hsl : (1 : Int) ≤ (n' : Int) + 1 := by omega
    have hXg : (fun k => k = g) g := rfl
    refine wp_region_held_drew (S := fun W => Hid (Chg (fun k => k = g) wB W) ∧ W.cell? ⟨w.heap.size, 8, none⟩ = some (.slice (some ⟨g, 0, none⟩) kids.len c5) ∧ W.cell? ⟨b, o, none⟩ = some (.int .i64 (j : Nat)) ∧ W.cell? ⟨w.heap.size + 1, 0, none⟩ = some (.int .i64 k2) ∧ W.cell? ⟨w.heap.size + 1, 1, none⟩ = some (.int .u64 (bits2 : Nat)) ∧ W.cell? ⟨w.heap.size + 1, 2, none⟩ = some (.int .u64 (hi2 : Nat)) ∧ W.cell? ⟨w.heap.size + 1, 3, none⟩ = some (.int .u64 (lo2 : Nat)) ∧ W.cell? ⟨w.heap.size + 1, 4, none⟩ = some (.string text2) ∧ W.cell? ⟨w.heap.size + 1, 5, none⟩ = some (.string more2) ∧ W.cell? ⟨w.heap.size + 1, 6, none⟩ = some (.int .i64 sub2) ∧ W.cell? ⟨w.heap.size + 1, 7, none⟩ = some (.slice ab2 nb2 cb2) ∧ W.cell? ⟨w.heap.size + 1, 8, none⟩ = some (.slice ak2 nk2 ck2)) (by kernel_rfl) ?hSAnx (fun hHeld => ?restAnx)
    case hSAnx => exact HSS.out _ (Chg.refl _ _).drew
    refine wpAnyH_take (i := 0) (oi := _) (v := ?vv21) rfl (by kernel_rfl) (by kernel_rfl) (by kernel_rfl) (fun _ _ _ h => h) (Or.inl ⟨by rfl, ?hy21⟩) (by assumption) ?rest21
    case hy21 => (intro w hSw; (try dsimp only at hSw); go_simp; try with_reducible rfl)
    (try simp only [Act.put, List.setIfInBounds_toArray, List.set_cons_zero, List.set_cons_succ])
    refine wpAnyH_take (i := 1) (oi := _) (v := ?vv22) rfl (by kernel_rfl) (by kernel_rfl) (by kernel_rfl) (fun _ _ _ h => h) (Or.inl ⟨by rfl, ?hy22⟩) (by assumption) ?rest22
    case hy22 => (intro w hSw; (try dsimp only at hSw); go_simp; try with_reducible rfl)
    (try simp only [Act.put, List.setIfInBounds_toArray, List.set_cons_zero, List.set_cons_succ])
    refine wpAnyH_take (i := 2) (oi := _) (v := ?vv23) rfl (by kernel_rfl) (by kernel_rfl) (by kernel_rfl) (fun _ _ _ h => h) (Or.inl ⟨by rfl, ?hy23⟩) (by assumption) ?rest23
    case hy23 => (intro w hSw; (try dsimp only at hSw); go_simp; try with_reducible rfl)
    (try simp only [Act.put, List.setIfInBounds_toArray, List.set_cons_zero, List.set_cons_succ])
    refine wpAnyH_take (i := 3) (oi := _) (v := ?vv24) rfl (by kernel_rfl) (by kernel_rfl) (by kernel_rfl) (fun _ _ _ h => h) (Or.inl ⟨by rfl, ?hy24⟩) (by assumption) ?rest24
    case hy24 => (intro w hSw; (try dsimp only at hSw); go_simp; try with_reducible rfl)
    (try simp only [Act.put, List.setIfInBounds_toArray, List.set_cons_zero, List.set_cons_succ])
    refine wpAnyH_take (i := 4) (oi := _) (v := ?vv25) rfl (by kernel_rfl) (by kernel_rfl) (by kernel_rfl) (fun _ _ _ h => h) (Or.inl ⟨by rfl, ?hy25⟩) (by assumption) ?rest25
    case hy25 => (intro w hSw; (try dsimp only at hSw); go_simp; try with_reducible rfl)
    (try simp only [Act.put, List.setIfInBounds_toArray, List.set_cons_zero, List.set_cons_succ])
    refine wpAnyH_take (i := 5) (oi := _) (v := ?vv26) rfl (by kernel_rfl) (by kernel_rfl) (by kernel_rfl) (fun _ _ _ h => h) (Or.inl ⟨by rfl, ?hy26⟩) (by assumption) ?rest26
    case hy26 => (intro w hSw; (try dsimp only at hSw); go_simp; try with_reducible rfl)
    (try simp only [Act.put, List.setIfInBounds_toArray, List.set_cons_zero, List.set_cons_succ])
    refine wpAnyH_take (i := 6) (oi := _) (v := ?vv27) rfl (by kernel_rfl) (by kernel_rfl) (by kernel_rfl) (fun _ _ _ h => h) (Or.inl ⟨by rfl, ?hy27⟩) (by assumption) ?rest27
    case hy27 => (intro w hSw; (try dsimp only at hSw); go_simp; try with_reducible rfl)
    (try simp only [Act.put, List.setIfInBounds_toArray, List.set_cons_zero, List.set_cons_succ])
    refine wpAnyH_take (i := 7) (oi := _) (v := ?vv28) rfl (by kernel_rfl) (by kernel_rfl) (by kernel_rfl) (fun _ _ _ h => h) (Or.inl ⟨by rfl, ?hy28⟩) (by assumption) ?rest28
    case hy28 => (intro w hSw; (try dsimp only at hSw); go_simp; try with_reducible rfl)
    (try simp only [Act.put, List.setIfInBounds_toArray, List.set_cons_zero, List.set_cons_succ])
    refine wpAnyH_take (i := 8) (oi := _) (v := ?vv29) rfl (by kernel_rfl) (by kernel_rfl) (by kernel_rfl) (fun _ _ _ h => h) (Or.inl ⟨by rfl, ?hy29⟩) (by assumption) ?rest29
    case hy29 => (intro w hSw; (try dsimp only at hSw); go_simp; try with_reducible rfl)
    (try simp only [Act.put, List.setIfInBounds_toArray, List.set_cons_zero, List.set_cons_succ])
    refine wpAnyH_take (i := 9) (oi := _) (v := ?vv30) rfl (by kernel_rfl) (by kernel_rfl) (by kernel_rfl) (fun _ _ _ h => h) (Or.inl ⟨by rfl, ?hy30⟩) (by assumption) ?rest30
    case hy30 => (intro w hSw; (try dsimp only at hSw); go_simp; try with_reducible rfl)
    (try simp only [Act.put, List.setIfInBounds_toArray, List.set_cons_zero, List.set_cons_succ])
    refine wpAnyH_take (i := 10) (oi := _) (v := ?vv31) rfl (by kernel_rfl) (by kernel_rfl) (by kernel_rfl) (fun _ _ _ h => h) (Or.inl ⟨by rfl, ?hy31⟩) (by assumption) ?rest31
    case hy31 => (intro w hSw; (try dsimp only at hSw); go_simp; try with_reducible rfl)
    (try simp only [Act.put, List.setIfInBounds_toArray, List.set_cons_zero, List.set_cons_succ])
    refine wpAnyH_take (i := 11) (oi := _) (v := ?vv32) rfl (by kernel_rfl) (by kernel_rfl) (by kernel_rfl) (fun _ _ _ h => h) (Or.inl ⟨by rfl, ?hy32⟩) (by assumption) ?rest32
    case hy32 => (intro w hSw; (try dsimp only at hSw); go_simp; try with_reducible rfl)
    (try simp only [Act.put, List.setIfInBounds_toArray, List.set_cons_zero, List.set_cons_succ])
    refine wpAnyH_take (i := 13) (oi := _) (v := ?vv33) rfl (by kernel_rfl) (by kernel_rfl) (by kernel_rfl) (fun _ _ _ h => h) (Or.inl ⟨by rfl, ?hy33⟩) (by assumption) ?rest33
    case hy33 => (intro w hSw; (try dsimp only at hSw); go_simp; try with_reducible rfl)
    (try simp only [Act.put, List.setIfInBounds_toArray, List.set_cons_zero, List.set_cons_succ])
    refine wpAnyH_take (i := 14) (oi := _) (v := ?vv34) rfl (by kernel_rfl) (by kernel_rfl) (by kernel_rfl) (fun _ _ _ h => h) (Or.inl ⟨by rfl, ?hy34⟩) (by assumption) ?rest34
    case hy34 => (intro w hSw; (try dsimp only at hSw); go_simp; try with_reducible rfl)
    (try simp only [Act.put, List.setIfInBounds_toArray, List.set_cons_zero, List.set_cons_succ])
    refine wpAnyH_take (i := 15) (oi := _) (v := ?vv35) rfl (by kernel_rfl) (by kernel_rfl) (by kernel_rfl) (fun _ _ _ h => h) (Or.inl ⟨by rfl, ?hy35⟩) (by assumption) ?rest35
    case hy35 => (intro w hSw; (try dsimp only at hSw); go_simp; try with_reducible rfl)
    (try simp only [Act.put, List.setIfInBounds_toArray, List.set_cons_zero, List.set_cons_succ])
    refine wpAnyH_ready (rs := [12]) (by kernel_rfl) (by simp) ?_
    refine AllReadyH.cons (o := _) rfl (fun K hK => ?_) AllReadyH.nil
    go_simp
    refine hK.out _ _ ?hS36 (fun hHeld => ?rest36)
    case hS36 => (refine HSS.out _ ?_; (repeat' (first | with_reducible exact HC6.out | with_reducible refine Chg.setCell ?_ (fun _ => hXg) _ | with_reducible apply Chg.drew | with_reducible exact Chg.refl _ _)))
    clear hK K
    (try simp only [Act.put, List.setIfInBounds_toArray, List.set_cons_zero, List.set_cons_succ])
    refine wpAnyH_ready (rs := [16]) (by kernel_rfl) (by simp) ?_
    refine AllReadyH.cons (o := _) rfl (fun K hK => ?_) AllReadyH.nil
    go_simp
    go_at_call 32
    refine (CW.out _ ?_ (some ⟨b, o + 1, none⟩) n' cq (.inr rfl) ?_ ?_ ?_).mono ?_
    case refine_1 => (repeat' (first | with_reducible apply Below.drew | with_reducible exact Below.refl _ _))
    case refine_2 => first | exact HN'.out.symm | (simp; done)
    case refine_3 => omega
    case refine_4 => first | (intro h; exact absurd h (by simp)) | (intro _; rfl)
    rintro e w6 ⟨c6, rfl, hr6, hb6⟩
    obtain ⟨k6, bits6, hi6, lo6, text6, more6, sub6, ab6, nb6, cb6, ak6, nk6, ck6, rfl⟩ := hr6.rd.shape
    have HB6 : Hid (Below wB.heap.size wB w6) := (by refine Below.trans ?_ (hb6.mono ?_); (case _ => (repeat' (first | with_reducible apply Below.drew | with_reducible exact Below.refl _ _))); (case _ => first | exact Nat.le_refl _ | (simp; done)))
    have HR6 := Lib.hid hr6
    have HC6 : Hid (Chg (fun k => k = g) wB w6) := Lib.hid (Chg.of_below HB6.out)
    have y8 := cell_below HB6.out y8
    have hp0B := cell_below HB6.out hp0B
    have t1 := cell_below HB6.out z1
    have t2 := cell_below HB6.out z2
    have t3 := cell_below HB6.out z3
    have t4 := cell_below HB6.out z4
    have t5 := cell_below HB6.out z5
    have t6 := cell_below HB6.out z6
    have t7 := cell_below HB6.out z7
    have t8 := cell_below HB6.out z8
    have t9 := cell_below HB6.out z9
    have q1 := (HB6.out.frozen (p := ⟨g, j * 10 + 1, none⟩) hg2B).trans (HZF.out _)
    have q2 := (HB6.out.frozen (p := ⟨g, j * 10 + 2, none⟩) hg2B).trans (HZF.out _)
    have q3 := (HB6.out.frozen (p := ⟨g, j * 10 + 3, none⟩) hg2B).trans (HZF.out _)
    have q4 := (HB6.out.frozen (p := ⟨g, j * 10 + 4, none⟩) hg2B).trans (HZF.out _)
    have q5 := (HB6.out.frozen (p := ⟨g, j * 10 + 5, none⟩) hg2B).trans (HZF.out _)
    have q6 := (HB6.out.frozen (p := ⟨g, j * 10 + 6, none⟩) hg2B).trans (HZF.out _)
    have q7 := (HB6.out.frozen (p := ⟨g, j * 10 + 7, none⟩) hg2B).trans (HZF.out _)
    have q8 := (HB6.out.frozen (p := ⟨g, j * 10 + 8, none⟩) hg2B).trans (HZF.out _)
    have q9 := (HB6.out.frozen (p := ⟨g, j * 10 + 9, none⟩) hg2B).trans (HZF.out _)
    clear hr6 hb6
    refine hK.out _ _ ?hS37 (fun hHeld => ?rest37)
    case hS37 => (refine HSS.out _ ?_; (repeat' (first | with_reducible exact HC6.out | with_reducible refine Chg.setCell ?_ (fun _ => hXg) _ | with_reducible apply Chg.drew | with_reducible exact Chg.refl _ _)))
    clear hK K
    (try simp only [Act.put, List.setIfInBounds_toArray, List.set_cons_zero, List.set_cons_succ])
    refine wpAnyH_take (i := 17) (oi := _) (v := ?vv38) rfl (by kernel_rfl) (by kernel_rfl) (by kernel_rfl) (fun _ _ _ h => h) (Or.inl ⟨by rfl, ?hy38⟩) (by assumption) ?rest38
    case hy38 => (intro w hSw; (try dsimp only at hSw); go_simp; try with_reducible rfl)
    (try simp only [Act.put, List.setIfInBounds_toArray, List.set_cons_zero, List.set_cons_succ])
    refine wpAnyH_take (i := 18) (oi := _) (v := ?vv39) rfl (by kernel_rfl) (by kernel_rfl) (by kernel_rfl) (fun _ _ _ h => h) (Or.inl ⟨by rfl, ?hy39⟩) (by assumption) ?rest39
    case hy39 => (intro w hSw; (try dsimp only at hSw); go_simp; try with_reducible rfl)
    (try simp only [Act.put, List.setIfInBounds_toArray, List.set_cons_zero, List.set_cons_succ])
    refine wpAnyH_ready (rs := [19]) (by kernel_rfl) (by simp) ?_
    refine AllReadyH.cons (o := _) rfl (fun K hK => ?_) AllReadyH.nil
    go_simp
    refine hK.out _ _ ?hS40 (fun hHeld => ?rest40)
    case hS40 => (refine HSS.out _ ?_; (repeat' (first | with_reducible exact HC6.out | with_reducible refine Chg.setCell ?_ (fun _ => hXg) _ | with_reducible apply Chg.drew | with_reducible exact Chg.refl _ _)))
    clear hK K
    (try simp only [Act.put, List.setIfInBounds_toArray, List.set_cons_zero, List.set_cons_succ])
    refine wpAnyH_done (by kernel_rfl) ?_ _
    obtain ⟨w7, hw7⟩ : ∃ W, W = (((((((((w6.setCell ⟨g, j * 10 + 1, none⟩ (.int .i64 k6)).setCell ⟨g, j * 10 + 2, none⟩ (.int .u64 (bits6 : Nat))).setCell ⟨g, j * 10 + 3, none⟩ (.int .u64 (hi6 : Nat))).setCell ⟨g, j * 10 + 4, none⟩ (.int .u64 (lo6 : Nat))).setCell ⟨g, j * 10 + 5, none⟩ (.string text6)).setCell ⟨g, j * 10 + 6, none⟩ (.string more6)).setCell ⟨g, j * 10 + 7, none⟩ (.int .i64 sub6)).setCell ⟨g, j * 10 + 8, none⟩ (.slice ab6 nb6 cb6)).setCell ⟨g, j * 10 + 9, none⟩ (.slice ak6 nk6 ck6)) := ⟨_, rfl⟩
    rw [← hw7]
    have hc67 : Chg (fun k => k = g) w6 w7 := by
      rw [hw7]
      (repeat' (first | with_reducible exact Chg.refl _ _ | refine Chg.setCell ?_ (fun _ => hXg) _))
    have hcB7 : Chg (fun k => k = g) wB w7 := HC6.out.trans hc67 fun _ _ h => h
    have hsz7 : w7.heap.size = w6.heap.size := by rw [hw7]; simp [World.setCell]
    have hks7 : RdKsS (fun k => k < B ∨ w.heap.size + 3 ≤ k) w7 (some ⟨g, 0, none⟩) 0 (kids.set j (withT v p x)) := by
      refine set_kidsS HO.out HJ.out (HR6.out.keep (KeepS.chg hc67 fun k hk e => ?_)) hcB7 (fun k hk => .inl hk) (fun k hk => ?_) (.inr (by omega)) (fun off ho => ?_) (fun m hm => ?_)
      · have e' : k = g := e
        rcases hk with hk | hk
        · omega
        · have : wB.heap.size ≤ k := hk
          omega
      · rcases hk with hk | hk
        · exact .inl hk
        · have : wB.heap.size ≤ k := hk
          right; omega
      · rw [hw7]
        have hw6c : w6.cell? ⟨g, off, none⟩ = wB.cell? ⟨g, off, none⟩ := World.cell?_of_block (HB6.out.block g hg2B)
        rw [← hw6c]
        (repeat' (first | with_reducible rfl | (rw [World.cell?_setCell_other _ _ _ _ (by intro e; have := congrArg Addr.off e; simp only at this; omega)])))
      · rw [hw7]
        have : m = 0 ∨ m = 1 ∨ m = 2 ∨ m = 3 ∨ m = 4 ∨ m = 5 ∨ m = 6 ∨ m = 7 ∨ m = 8 := by omega
        rcases this with rfl | rfl | rfl | rfl | rfl | rfl | rfl | rfl | rfl <;> simp [go_sem, *]
    have HK7 := Lib.hid hks7
    have HB7 : Hid (Below w.heap.size w w7) := HBB.out.trans (hcB7.below (by omega) (fun i e => by have : i = g := e; omega))
    have hy7 := (HY1.out.chg hcB7 (by omega)).nine
    have hz7 := HY3.out.chg hcB7 (by omega)
    obtain ⟨r0, r1, r2, r3, r4, r5, r6, r7, r8⟩ := hz7.frz
    have hz37 : w.heap.size + 3 ≤ w7.heap.size := by have := HB6.out.size; omega
    clear hw7 hc67 hcB7 hks7 t1 t2 t3 t4 t5 t6 t7 t8 t9 q1 q2 q3 q4 q5 q6 q7 q8 q9 y0 y1 y2 y3 y4 y5 y6 y7 y8 x0 x1 x2 x3 x4 x5 x6 x7 x8 z0 z1 z2 z3 z4 z5 z6 z7 z8 z9 hHeld hXg
    obtain ⟨y0, y1, y2, y3, y4, y5, y6, y7, y8, -⟩ := hy7
    obtain ⟨u0, u1, u2, u3, u4, u5, u6, u7, u8, lu⟩ := hz7.nine
    (repeat (first | go_values | go_skip | go_guarded | go_step | go_upon | (go_simp; go_at_K)))
    refine bodyPost_ret (v := .agg (valCells k bits hi lo text more sub ab nb cb (some ⟨g, 0, none⟩) kids.len c5)) (by simp [results, Try.results32, go_sem, *]) rfl ?_
    have hX2 : (fun k => k = w.heap.size + 2) (w.heap.size + 2) := rfl
    refine with_end (w7 := w7) HK7.out HB7.out hz37 ?_ HWR.out HOK.out HRB.out HNK.out hg3 hg4 hBw HJ.out
    (repeat' (first | with_reducible exact Chg.refl _ _ | refine Chg.setCell ?_ (fun _ => hX2) _))

end Go.Proofs.Ytiodjhcjfbnocaa
