/- path.copied: a tree in new memory. -/
import Derived.Test.YtiodjhcjfbnocaaPaA
import Derived.Test.YtiodjhcjfbnocaaWt
import Derived.Test.YtiodjhcjfbnocaaBook2
import Derived.Deep.RegionHeld3
import Derived.Deep.RegionLaw
namespace Go.Proofs.Ytiodjhcjfbnocaa
open Go.RowKit
set_option linter.unusedVariables false
set_option linter.unusedSimpArgs false

theorem F.len_wt : ∀ f : F, f.len ≤ f.wt
  | .nil => by simp [F.len]
  | .cons n t r => by
    have h1 := F.len_wt r
    have h2 : 2 ≤ t.wt := by cases t; simp only [T.wt]; omega
    simp only [F.len, F.wt]; omega

/-- A value's box: its nine cells, none of them frozen. -/
def BoxV (W : World) (g : Nat) (c : Array Value) : Prop := g < W.heap.size ∧ ∀ j, j < 9 → W.cell? ⟨g, j, none⟩ = c[j]? ∧ W.frozen? ⟨g, j, none⟩ = false

theorem BoxV.block {W W' : World} {g : Nat} {c : Array Value} (h : BoxV W g c) (hs : W.heap.size ≤ W'.heap.size) (hb : W'.heap[g]? = W.heap[g]?) : BoxV W' g c :=
  ⟨Nat.lt_of_lt_of_le h.1 hs, fun j hj => ⟨(World.cell?_of_block (w := W) hb).trans (h.2 j hj).1, (World.frozen?_of_block (w := W) hb).trans (h.2 j hj).2⟩⟩
theorem BoxV.below {B : Nat} {W W' : World} {g : Nat} {c : Array Value} (h : BoxV W g c) (hb : Below B W W') (hg : g < B) : BoxV W' g c := h.block hb.size (hb.block g hg)
theorem BoxV.keep {W W' : World} {g : Nat} {c : Array Value} (h : BoxV W g c) (hb : Below W.heap.size W W') : BoxV W' g c := h.block hb.size (hb.block g h.1)
theorem BoxV.chg {X : Nat → Prop} {W W' : World} {g : Nat} {c : Array Value} (h : BoxV W g c) (hb : Chg X W W') (hg : ¬ X g) : BoxV W' g c := h.block hb.size (hb.block g h.1 hg)
theorem BoxV.new (w : World) (c : Array Value) (t : TypeId) : BoxV (w.alloc (.cells c t)) w.heap.size c :=
  ⟨by simp, fun j _ => ⟨by simp [go_sem], by simp⟩⟩
theorem BoxV.set {W : World} {g : Nat} {c : Array Value} (h : BoxV W g c) (i : Nat) (v : Value) (hi : i < c.size) (h9 : i < 9) : BoxV (W.setCell ⟨g, i, none⟩ v) g (c.setIfInBounds i v) := by
  refine ⟨by simpa [World.setCell] using h.1, fun j hj => ⟨?_, by rw [World.frozen?_setCell]; exact (h.2 j hj).2⟩⟩
  by_cases e : i = j
  · subst e
    rw [World.cell?_setCell_same _ _ _ (u := c[i]) (by rw [(h.2 i h9).1, Array.getElem?_eq_getElem hi])]
    simp [Array.getElem?_setIfInBounds, hi]
  · rw [World.cell?_setCell_other _ _ _ _ (fun q => e (Addr.mk.inj q).2.1), (h.2 j hj).1]
    simp [Array.getElem?_setIfInBounds, e]

theorem Chg.set1 (w : World) (g i : Nat) (v : Value) : Chg (fun k => k = g) w (w.setCell ⟨g, i, none⟩ v) := (Chg.refl (fun k => k = g) w).setCell (p := ⟨g, i, none⟩) (fun _ => rfl) v
theorem Chg.set2 {X : Nat → Prop} {w w' : World} {g : Nat} (h : Chg X w w') (hg : X g) (i : Nat) (v : Value) : Chg X w (w'.setCell ⟨g, i, none⟩ v) := h.setCell (p := ⟨g, i, none⟩) (fun _ => hg) v


theorem OwnK.chg {X : Nat → Prop} {w w' : World} {B : Nat} {L : Nat → Prop} {v : Value} {f : F} (h : OwnK w B L v f) (hc : Chg X w w') (hv : ∀ k, v.ownBlock = some k → ¬ X k) (hL : ∀ k, L k → ¬ X k) : OwnK w' B L v f := by
  obtain ⟨xs, S, h1, h2, h3⟩ := h
  exact ⟨xs, S, owns_chg h1 hc hv, h2.keep (KeepS.chg hc fun k hk => hL k (h3 k hk).1), h3⟩

theorem RdBS.imp {S S' : Nat → Prop} {w : World} (hS : ∀ k, k < w.heap.size → S k → S' k) {a len l} (h : RdBS S w a len l) : RdBS S' w a len l := by
  refine ⟨h.1, fun hn p hp => ?_⟩
  obtain ⟨b, o, ha, hc⟩ := h.1.at 0 hn
  refine hS _ ?_ (h.2 hn p hp)
  rw [hp] at ha
  obtain rfl := Option.some.inj ha
  have := cell_block hc
  simpa using this

theorem OwnK.shape {w : World} {B : Nat} {L : Nat → Prop} {v : Value} {f : F} {n : Nat} (h : OwnK w B L v f) (hn : f.len = n) : ∃ a c, v = .slice a n c := by
  obtain ⟨xs, S, h1, _⟩ := h
  obtain ⟨a, c, rfl, _⟩ := owns_reads h1
  exact ⟨a, c, by rw [hn]⟩

def CopySaid (d : Nat) : Prop := ∀ t : T, t.wt ≤ d → t.wt ≤ 100000 → ∀ (w : World) (c : Array Value), RdT w t c →
  Calls Try.prog 39 #[.agg c] w fun e w' => ∃ c', e = .returned (.agg c') ∧ RdTS (fun k => w.heap.size ≤ k) w' t c' ∧ Below w.heap.size w w'

/-- What stands at the head of each round. -/
def CopyRel (w : World) (Z : Nat) (k : Int) (bits hi lo : Nat) (text more : ByteArray) (sub : Int) (bs : List UInt8) (kids : F) (av : Option Addr) (nb cv : Nat) (i : Value) (wr : World) : Prop :=
  ∃ (j : Nat) (a8 : Option Addr) (c8 : Nat) (cur : F), i = .int .i64 j ∧ j ≤ kids.len ∧ cur.len = j ∧ Hid (kids = cur.append (kids.drop j)) ∧ OwnK wr Z (fun k => Z ≤ k) (.slice a8 j c8) cur ∧
    BoxV wr w.heap.size (valCells k bits hi lo text more sub av nb cv a8 j c8) ∧ BoxV wr (w.heap.size + 1) (valCells 0 0 0 0 ByteArray.empty ByteArray.empty 0 none 0 0 none 0 0) ∧
    RdBS (fun k => w.heap.size + 2 ≤ k ∧ k < Z) wr av nb bs ∧ w.heap.size + 2 ≤ Z ∧ Z ≤ wr.heap.size ∧ Below w.heap.size w wr

theorem copy_rel {w w5 w6 wr : World} {Z : Nat} {k : Int} {bits hi lo : Nat} {text more : ByteArray} {sub : Int} {bs : List UInt8} {kids : F} {av : Option Addr} {nb cv : Nat} {ii : Value}
    {j : Nat} {a8 a6 : Option Addr} {c8 c6 : Nat} {cur : F} {n : ByteArray} {t : T} {o : Obj} (hj : j < kids.len) (hc : cur.len = j) (hx : kids.drop j = .cons n t (kids.drop (j + 1))) (hk : kids = cur.append (kids.drop j))
    (hg : BoxV wr w.heap.size (valCells k bits hi lo text more sub av nb cv a8 j c8)) (hg1 : BoxV wr (w.heap.size + 1) (valCells 0 0 0 0 ByteArray.empty ByteArray.empty 0 none 0 0 none 0 0))
    (hbs : RdBS (fun k => w.heap.size + 2 ≤ k ∧ k < Z) wr av nb bs) (hZ : w.heap.size + 2 ≤ Z) (hZ2 : Z ≤ wr.heap.size) (hB : Below w.heap.size w wr)
    (ho : OwnK wr Z (fun k => Z ≤ k) (.slice a8 j c8) cur) (h5 : Below wr.heap.size wr (w5.alloc o)) (ho6 : OwnK w6 Z (fun k => Z ≤ k) (.slice a6 (j + 1) c6) (cur.append (.cons n t .nil))) (ha6 : AppF (w5.alloc o) w6 (.slice a8 j c8) (.slice a6 (j + 1) c6))
    (hi' : ii = .int .i64 ((j : Int) + 1)) : CopyRel w Z k bits hi lo text more sub bs kids av nb cv ii (w6.setCell ⟨w.heap.size, 8, none⟩ (.slice a6 (j + 1) c6)) := by
  have hv : ∀ k, (Value.slice a8 j c8).ownBlock = some k → Z ≤ k := fun k e => (ho.far k e).1
  have h6 : Chg (fun k => Z ≤ k) wr w6 := (Chg.of_below h5).trans ha6.chg fun k _ e => hv k e
  have h7 : Chg (fun k => k = w.heap.size) w6 (w6.setCell ⟨w.heap.size, 8, none⟩ (.slice a6 (j + 1) c6)) := Chg.set1 _ _ _ _
  have h8 : Chg (fun k => Z ≤ k ∨ k = w.heap.size) wr (w6.setCell ⟨w.heap.size, 8, none⟩ (.slice a6 (j + 1) c6)) := (h6.weaken fun _ _ h => .inl h).trans h7 fun k _ e => .inr e
  refine ⟨j + 1, a6, c6, cur.append (.cons n t .nil), by rw [hi']; simp, hj, ?_, ?_, ?_, ?_, ?_, ?_, hZ, Nat.le_trans hZ2 h8.size, ?_⟩
  · rw [F.append_len, hc]; rfl
  · show kids = _
    rw [F.append_assoc]
    show kids = cur.append (.cons n t (kids.drop (j + 1)))
    rw [← hx]
    exact hk
  · refine ho6.chg h7 ?_ ?_
    · intro k hk e; have := (ho6.far k hk).1; omega
    · intro k hk e; omega
  · have := (hg.chg h6 (by omega)).set 8 (.slice a6 (j + 1) c6) (by simp) (by omega)
    simpa using this
  · exact hg1.chg h8 (by omega)
  · exact hbs.keep (KeepS.chg h8 fun k hk => by omega)
  · exact hB.trans (h8.below hB.size (by omega))

theorem copy_end {w wr w' : World} {Z : Nat} {k : Int} {bits hi lo : Nat} {text more : ByteArray} {sub : Int} {bs : List UInt8} {kids : F} {av : Option Addr} {nb cv : Nat} {a8 : Option Addr} {c8 nk : Nat}
    (hok : OwnOk k bits hi lo text more sub) (hl : kids.len = nk) (hn : nk ≤ 9223372036854775807) (hr : Roomy a8 nk c8) (hrb : Roomy av nb cv) (hbs : RdBS (fun k => w.heap.size + 2 ≤ k ∧ k < Z) wr av nb bs) (hks : RdKsS (fun k => Z ≤ k) wr a8 0 kids) (hZ : w.heap.size + 2 ≤ Z) (hb : Below w.heap.size w wr)
    (hX : Chg (fun k => k = w.heap.size + 1) wr w') :
    ∃ c', Ending.returned (.agg (valCells k bits hi lo text more sub av nb cv a8 nk c8)) = .returned (.agg c') ∧ RdTS (fun k => w.heap.size ≤ k) w' (.mk k bits hi lo text more sub bs kids) c' ∧ Below w.heap.size w w' := by
  refine ⟨_, rfl, ⟨av, nb, cv, a8, nk, c8, rfl, hok, ?_, hl, ⟨hn, hr, hrb⟩, ?_⟩, hb.trans (hX.below hb.size (fun i h => by omega))⟩
  · exact RdBS.imp (fun k _ h => by omega) (hbs.keep (KeepS.chg hX fun k h => by omega))
  · exact RdKsS.imp (fun k _ h => by omega) (RdKsS.keep (KeepS.chg hX fun k h => by omega) hks)

set_option maxRecDepth 100000 in
set_option maxHeartbeats 4000000 in
theorem copy_step (d : Nat) (hof : CopySaid d) : CopySaid (d + 1) := by
  intro t ht htw w c h
  have H := Lib.hid h
  obtain ⟨k, bits, hi, lo, text, more, sub, bs, kids⟩ := t
  obtain ⟨ab, nb, cb, ak, nk, ck, rfl, hok, hrb, hkl, hnk, hks⟩ := h
  have hl := F.len_wt kids
  have hwt : T.wt (.mk k bits hi lo text more sub bs kids) = 2 + text.size + more.size + bs.length + kids.wt := by simp only [T.wt]
  rw [hwt] at ht htw
  have hbl := hrb.1
  have HO := Lib.hid hof
  have HKS := Lib.hid hks
  have HL := Lib.hid hkl
  have HRB := Lib.hid hrb
  have HOK := Lib.hid hok
  have HNK := Lib.hid hnk
  have hnb : nb ≤ 1000000 := by omega
  have hnk' : nk ≤ 1000000 := by omega
  have hk9 := hnk.1
  clear hof hok hrb hkl hks hwt hnk
  go_enter Try.func39, Try.ntmps39
  go_wp2_with fail
  have h0 : Below w.heap.size w ((w.alloc (.cells (valCells k bits hi lo text more sub ab nb cb ak nk ck) 26)).alloc (.cells (valCells 0 0 0 0 ByteArray.empty ByteArray.empty 0 none 0 0 none 0 0) 26)) := ((Below.refl _ _).alloc (Nat.le_refl _) _).alloc (by simp) _
  have H0 := Lib.hid h0
  clear h0
  refine (cloneB_calls ab nb cb bs _ (HRB.out.keep H0.out) HNK.out.2.2.1 (by omega)).mono ?_
  rintro e w1 ⟨v, rfl, hv, hb⟩
  obtain ⟨av, cv, rfl, hrv, hrm⟩ := hv.rdS
  rw [HRB.out.1] at hrv hrm ⊢
  have hZ : w.heap.size + 2 ≤ w1.heap.size := by have := hb.size; simpa using this
  have hg : BoxV w1 w.heap.size (valCells k bits hi lo text more sub ab nb cb ak nk ck) := ((BoxV.new w _ _).keep ((Below.refl _ _).alloc (Nat.le_refl _) _)).keep hb
  have hg1 : BoxV w1 (w.heap.size + 1) (valCells 0 0 0 0 ByteArray.empty ByteArray.empty 0 none 0 0 none 0 0) := by
    have := (BoxV.new (w.alloc (.cells (valCells k bits hi lo text more sub ab nb cb ak nk ck) 26)) (valCells 0 0 0 0 ByteArray.empty ByteArray.empty 0 none 0 0 none 0 0) 26).keep hb
    simpa using this
  have d7 : w1.cell? ⟨w.heap.size, 7, none⟩ = some (.slice ab nb cb) := (hg.2 7 (by omega)).1
  have d8 : w1.cell? ⟨w.heap.size, 8, none⟩ = some (.slice ak nk ck) := (hg.2 8 (by omega)).1
  have f7 : w1.frozen? ⟨w.heap.size, 7, none⟩ = false := (hg.2 7 (by omega)).2
  have f8 : w1.frozen? ⟨w.heap.size, 8, none⟩ = false := (hg.2 8 (by omega)).2
  have HG := Lib.hid hg
  have HG1 := Lib.hid hg1
  have HRV := Lib.hid hrv
  have HRM := Lib.hid hrm
  have HB1 := Lib.hid (H0.out.trans (hb.mono (by simp; omega)))
  clear hg hg1 hrv hrm hb hv H0
  go_wp2_with fail
  go_loopw [15] (fun i wr => CopyRel w w1.heap.size k bits hi lo text more sub bs kids av nb cv i wr) (fun i _ => nk - (intOf i).toNat)
  case atStart =>
    have h7 : Chg (fun k => k = w.heap.size) w1 ((w1.setCell ⟨w.heap.size, 7, none⟩ (.slice av nb cv)).setCell ⟨w.heap.size, 8, none⟩ (.slice none 0 0)) := (Chg.set1 _ _ _ _).set2 rfl _ _
    refine ⟨0, none, 0, .nil, rfl, Nat.zero_le _, rfl, Lib.hid (by simp [F.drop, F.append]), OwnK.nil _ _ _, ?_, HG1.out.chg h7 (by omega), ?_, hZ, h7.size, HB1.out.trans (h7.below HB1.out.size (by omega))⟩
    · have := (HG.out.set 7 (.slice av nb cv) (by simp) (by omega)).set 8 (.slice none 0 0) (by simp) (by omega)
      simpa using this
    · have e : w1.heap.size = w1.heap.size := rfl
      exact (RdBS.imp (fun k hk h => ⟨by have := h.1; simp at this; omega, hk⟩) HRV.out).keep (KeepS.chg h7 fun k hk => by omega)
  case round =>
    obtain ⟨j, a8, c8, cur, rfl, hj, hcl, hkd, hown, hbx, hbx1, hrbs, _, hZ2, hbw⟩ := hrel
    have HBX := Lib.hid hbx
    have HBX1 := Lib.hid hbx1
    have HRB1 := Lib.hid hrbs
    have HBW := Lib.hid hbw
    have HOWN := Lib.hid hown
    have HCL := Lib.hid hcl
    have HKD := Lib.hid hkd.out
    have HJ := Lib.hid hj
    have HKW := Lib.hid (HKS.out.keep hbw)
    have hws := hbw.size
    clear hbx hbx1 hrbs hown hcl hbw
    by_cases hlt : j < nk
    · obtain ⟨⟨n, t⟩, hx⟩ := F.get_some kids j (by rw [HL.out]; exact hlt)
      have hw := F.wt_get kids j n t hx
      have hdr := F.drop_get kids j n t hx
      obtain ⟨b, o, k', bits', hi', lo', text', more', sub', bs', kids', ab', nb', cb', ak', nk', ck', rfl, rfl, e1, e2, e3, g0, g1, g2, g3, g4, g5, g6, g7, g8, g9⟩ := (HKW.out.at hx).cells
      have HC := Lib.hid (HO.out _ (show T.wt (.mk k' bits' hi' lo' text' more' sub' bs' kids') ≤ d by omega) (by omega))
      have E3 := Lib.hid e3
      have HDR := Lib.hid hdr
      have HN := Lib.hid e1
      have hj0 : (0 : Int) ≤ (j : Int) := by omega
      have hj1 : (j : Int) < (nk : Int) := by omega
      have hgs : w.heap.size < wr.heap.size := by omega
      have d8 : wr.cell? ⟨w.heap.size, 8, none⟩ = some (.slice a8 j c8) := (HBX.out.2 8 (by omega)).1
      have f8 : wr.frozen? ⟨w.heap.size, 8, none⟩ = false := (HBX.out.2 8 (by omega)).2
      clear hx e3 hdr e1 hw
      go_wp2_with fail
      have hks : ∀ W, Chg (fun k => k = w.heap.size ∨ (Value.slice a8 j c8).ownBlock = some k) (wr.alloc (.cells #[.string n, .int .i64 k', .int .u64 (bits' : Nat), .int .u64 (hi' : Nat), .int .u64 (lo' : Nat), .string text', .string more', .int .i64 sub', .slice ab' nb' cb', .slice ak' nk' ck'] 28)) W → Hid (Chg (fun k => k = w.heap.size ∨ (Value.slice a8 j c8).ownBlock = some k) (wr.alloc (.cells #[.string n, .int .i64 k', .int .u64 (bits' : Nat), .int .u64 (hi' : Nat), .int .u64 (lo' : Nat), .string text', .string more', .int .i64 sub', .slice ab' nb' cb', .slice ak' nk' ck'] 28)) W) ∧ W.cell? ⟨wr.heap.size, 0, none⟩ = some (.string n) ∧ W.cell? ⟨wr.heap.size, 1, none⟩ = some (.int .i64 k') ∧ W.cell? ⟨wr.heap.size, 2, none⟩ = some (.int .u64 (bits' : Nat)) ∧ W.cell? ⟨wr.heap.size, 3, none⟩ = some (.int .u64 (hi' : Nat)) ∧ W.cell? ⟨wr.heap.size, 4, none⟩ = some (.int .u64 (lo' : Nat)) ∧ W.cell? ⟨wr.heap.size, 5, none⟩ = some (.string text') ∧ W.cell? ⟨wr.heap.size, 6, none⟩ = some (.string more') ∧ W.cell? ⟨wr.heap.size, 7, none⟩ = some (.int .i64 sub') ∧ W.cell? ⟨wr.heap.size, 8, none⟩ = some (.slice ab' nb' cb') ∧ W.cell? ⟨wr.heap.size, 9, none⟩ = some (.slice ak' nk' ck') := fun W h => by
        have hk : ¬ (fun k => k = w.heap.size ∨ (Value.slice a8 j c8).ownBlock = some k) wr.heap.size := by
          rintro (e | e)
          · omega
          · have := (HOWN.out.far _ e).2; omega
        refine ⟨h, ?_, ?_, ?_, ?_, ?_, ?_, ?_, ?_, ?_, ?_⟩
        all_goals exact h.cell hk (by simp [go_sem])
      have HKS2 := Lib.hid hks
      have HW0 : Hid (Below wr.heap.size wr (wr.alloc (.cells #[.string n, .int .i64 k', .int .u64 (bits' : Nat), .int .u64 (hi' : Nat), .int .u64 (lo' : Nat), .string text', .string more', .int .i64 sub', .slice ab' nb' cb', .slice ak' nk' ck'] 28)).drew) := ((Below.refl _ _).alloc (Nat.le_refl _) _).drew
      have HC0 : Hid (Chg (fun k => k = w.heap.size ∨ (Value.slice a8 j c8).ownBlock = some k) (wr.alloc (.cells #[.string n, .int .i64 k', .int .u64 (bits' : Nat), .int .u64 (hi' : Nat), .int .u64 (lo' : Nat), .string text', .string more', .int .i64 sub', .slice ab' nb' cb', .slice ak' nk' ck'] 28)) (wr.alloc (.cells #[.string n, .int .i64 k', .int .u64 (bits' : Nat), .int .u64 (hi' : Nat), .int .u64 (lo' : Nat), .string text', .string more', .int .i64 sub', .slice ab' nb' cb', .slice ak' nk' ck'] 28)).drew) := (Chg.refl _ _).drew
      clear hks
      go_region_law ((first
          | (go_simp; go_at_call 39; (with_reducible refine (HC.out _ _ (E3.out.keep HW0.out)).mono ?_); rintro e w5 ⟨c5, rfl, hr5, hb5⟩; have hR5 := Lib.hid hr5; obtain ⟨ab5, nb5, cb5, ak5, nk5, ck5, rfl, hr5⟩ := hr5; clear hr5; have hB5 := Lib.hid (HW0.out.trans (hb5.mono (by simp))); have hC5 := Lib.hid (HC0.out.trans (Chg.of_below (S := fun _ => False) hb5) (fun _ _ e => e.elim)); have hs5 := hB5.out.size; have d8' := (hB5.out.cell (p := ⟨w.heap.size, 8, none⟩) hgs).trans d8; have hgs5 : w.heap.size < w5.heap.size := (by omega); have hSK := Lib.hid (SrcK.one (g := w5.heap.size) (cap := 1) (n := n) (hR5.out.keep (KeepS.below ((Below.refl _ _).alloc (Nat.le_refl _) (.cells #[.string n, .int .i64 k', .int .u64 (bits' : Nat), .int .u64 (hi' : Nat), .int .u64 (lo' : Nat), .string text', .string more', .int .i64 sub', .slice ab5 nb5 cb5, .slice ak5 nk5 ck5] 28)))) HN.out (new_cells w5 _ 28 _ rfl)); obtain ⟨-, y0, y1, y2, y3, y4, y5, y6, y7, y8, y9⟩ := HKS2.out _ hC5.out; clear hb5)
          | (refine step_appK (v := .slice a8 j c8) (f := cur) (g := .cons n (.mk k' bits' hi' lo' text' more' sub' bs' kids') .nil) (B := w1.heap.size) (L := fun k => w1.heap.size ≤ k) (sv := .slice (some ⟨w5.heap.size, 0, none⟩) 1 1) (by rfl) _ _ (by rfl) (by rfl) (HOWN.out.keep (hB5.out.alloc hs5 _)) (by rfl) hSK.out (fun k hk => ⟨by simp at hk; omega, fun e => by have := (HOWN.out.far k e).2; simp at hk; omega⟩) (by have := HCL.out; simp only [F.len]; omega) (by simp; omega) ?_; intro v6 w6 ho6 ha6; obtain ⟨a6, c6, rfl⟩ := ho6.shape (n := j + 1) (by have := HCL.out; rw [F.append_len]; simp only [F.len]; omega); have hO6 := Lib.hid ho6; have hA6 := Lib.hid ha6; have hC6 := Lib.hid ((hC5.out.alloc (.cells #[.string n, .int .i64 k', .int .u64 (bits' : Nat), .int .u64 (hi' : Nat), .int .u64 (lo' : Nat), .string text', .string more', .int .i64 sub', .slice ab5 nb5 cb5, .slice ak5 nk5 ck5] 28)).trans ha6.chg (fun k _ e => Or.inr e)); have hBX6 := (HBX.out.keep (hB5.out.alloc hs5 (.cells #[.string n, .int .i64 k', .int .u64 (bits' : Nat), .int .u64 (hi' : Nat), .int .u64 (lo' : Nat), .string text', .string more', .int .i64 sub', .slice ab5 nb5 cb5, .slice ak5 nk5 ck5] 28))).chg ha6.chg (fun e => by have := (HOWN.out.far _ e).1; omega); have d8' : w6.cell? ⟨w.heap.size, 8, none⟩ = some (.slice a8 j c8) := (hBX6.2 8 (by omega)).1; have f8' : w6.frozen? ⟨w.heap.size, 8, none⟩ = false := (hBX6.2 8 (by omega)).2; clear ho6 ha6 hBX6)))
      all_goals
        go_wp2_with fail
        go_roundw
        case rel => exact copy_rel (by rw [HL.out]; exact hlt) HCL.out HDR.out HKD.out HBX.out HBX1.out HRB1.out hZ hZ2 HBW.out HOWN.out (hB5.out.alloc hs5 _) hO6.out hA6.out (by simp)
        case measure => simp [intOf]; omega
    · have hjn : j = nk := by have := HJ.out; rw [HL.out] at this; omega
      have hcur : cur = kids := by
        have h1 := HKD.out
        rw [F.drop_len kids j (by rw [HL.out]; omega), F.append_nil] at h1
        exact h1.symm
      obtain ⟨a9, c9, he, hrd, hrm, hln⟩ := HOWN.out.reads (fun k hk => hk)
      simp only [Value.slice.injEq] at he
      obtain ⟨rfl, he2, rfl⟩ := he
      rw [hcur] at hrd hrm
      rw [HL.out] at hrm
      have HRD := Lib.hid hrd
      have HRM9 := Lib.hid hrm
      have HJN := Lib.hid hjn
      have m0 : wr.cell? ⟨w.heap.size, 0, none⟩ = some (.int .i64 k) := (HBX.out.2 0 (by omega)).1
      have m1 : wr.cell? ⟨w.heap.size, 1, none⟩ = some (.int .u64 (bits : Nat)) := (HBX.out.2 1 (by omega)).1
      have m2 : wr.cell? ⟨w.heap.size, 2, none⟩ = some (.int .u64 (hi : Nat)) := (HBX.out.2 2 (by omega)).1
      have m3 : wr.cell? ⟨w.heap.size, 3, none⟩ = some (.int .u64 (lo : Nat)) := (HBX.out.2 3 (by omega)).1
      have m4 : wr.cell? ⟨w.heap.size, 4, none⟩ = some (.string text) := (HBX.out.2 4 (by omega)).1
      have m5 : wr.cell? ⟨w.heap.size, 5, none⟩ = some (.string more) := (HBX.out.2 5 (by omega)).1
      have m6 : wr.cell? ⟨w.heap.size, 6, none⟩ = some (.int .i64 sub) := (HBX.out.2 6 (by omega)).1
      have m7 : wr.cell? ⟨w.heap.size, 7, none⟩ = some (.slice av nb cv) := (HBX.out.2 7 (by omega)).1
      have m8 : wr.cell? ⟨w.heap.size, 8, none⟩ = some (.slice a8 j c8) := (HBX.out.2 8 (by omega)).1
      have p0 : wr.cell? ⟨w.heap.size + 1, 0, none⟩ = some (.int .i64 0) := (HBX1.out.2 0 (by omega)).1
      have r0 : wr.frozen? ⟨w.heap.size + 1, 0, none⟩ = false := (HBX1.out.2 0 (by omega)).2
      have p1 : wr.cell? ⟨w.heap.size + 1, 1, none⟩ = some (.int .u64 0) := (HBX1.out.2 1 (by omega)).1
      have r1 : wr.frozen? ⟨w.heap.size + 1, 1, none⟩ = false := (HBX1.out.2 1 (by omega)).2
      have p2 : wr.cell? ⟨w.heap.size + 1, 2, none⟩ = some (.int .u64 0) := (HBX1.out.2 2 (by omega)).1
      have r2 : wr.frozen? ⟨w.heap.size + 1, 2, none⟩ = false := (HBX1.out.2 2 (by omega)).2
      have p3 : wr.cell? ⟨w.heap.size + 1, 3, none⟩ = some (.int .u64 0) := (HBX1.out.2 3 (by omega)).1
      have r3 : wr.frozen? ⟨w.heap.size + 1, 3, none⟩ = false := (HBX1.out.2 3 (by omega)).2
      have p4 : wr.cell? ⟨w.heap.size + 1, 4, none⟩ = some (.string ByteArray.empty) := (HBX1.out.2 4 (by omega)).1
      have r4 : wr.frozen? ⟨w.heap.size + 1, 4, none⟩ = false := (HBX1.out.2 4 (by omega)).2
      have p5 : wr.cell? ⟨w.heap.size + 1, 5, none⟩ = some (.string ByteArray.empty) := (HBX1.out.2 5 (by omega)).1
      have r5 : wr.frozen? ⟨w.heap.size + 1, 5, none⟩ = false := (HBX1.out.2 5 (by omega)).2
      have p6 : wr.cell? ⟨w.heap.size + 1, 6, none⟩ = some (.int .i64 0) := (HBX1.out.2 6 (by omega)).1
      have r6 : wr.frozen? ⟨w.heap.size + 1, 6, none⟩ = false := (HBX1.out.2 6 (by omega)).2
      have p7 : wr.cell? ⟨w.heap.size + 1, 7, none⟩ = some (.slice none 0 0) := (HBX1.out.2 7 (by omega)).1
      have r7 : wr.frozen? ⟨w.heap.size + 1, 7, none⟩ = false := (HBX1.out.2 7 (by omega)).2
      have p8 : wr.cell? ⟨w.heap.size + 1, 8, none⟩ = some (.slice none 0 0) := (HBX1.out.2 8 (by omega)).1
      have r8 : wr.frozen? ⟨w.heap.size + 1, 8, none⟩ = false := (HBX1.out.2 8 (by omega)).2
      have hbw1 : w.heap.size + 1 < wr.heap.size := by omega
      clear hcur hjn he2 hrd hrm hln
      (repeat (first | go_values | go_skip | go_guarded | go_step | go_upon | (go_simp; go_at_K)))
      refine bodyPost_ret (v := .agg (valCells k bits hi lo text more sub av nb cv a8 j c8)) (by simp [results, Try.results39, go_sem, *]) rfl ?_
      rw [HJN.out]
      refine copy_end HOK.out HL.out HNK.out.1 HRM9.out HRM.out (Z := w1.heap.size) HRB1.out HRD.out hZ HBW.out ?_
      (repeat' (first | with_reducible exact Chg.refl _ _ | with_reducible apply Chg.drew | with_reducible refine Chg.setCell ?_ (fun h => ?_) _))
      all_goals rfl

theorem copy_all : ∀ d, CopySaid d
  | 0 => fun t ht => by cases t; simp only [T.wt] at ht; omega
  | d + 1 => copy_step d (copy_all d)

end Go.Proofs.Ytiodjhcjfbnocaa
