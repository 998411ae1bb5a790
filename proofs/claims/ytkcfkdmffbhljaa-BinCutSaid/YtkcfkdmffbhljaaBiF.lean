/- bin's reader's document: one element. -/
import Derived.Test.YtkcfkdmffbhljaaBiE
import Derived.Deep.CutRange
namespace Go.Proofs.Ytkcfkdmffbhljaa
open Go.RowKit
set_option linter.unusedVariables false
set_option linter.unusedSimpArgs false

theorem OwnK.chg {X : Nat → Prop} {w w' : World} {B : Nat} {L : Nat → Prop} {v : Value} {f : F} (h : OwnK w B L v f) (hc : Chg X w w') (hv : ∀ k, v.ownBlock = some k → ¬ X k) (hL : ∀ k, L k → ¬ X k) : OwnK w' B L v f := by
  obtain ⟨xs, S, h1, h2, h3⟩ := h
  exact ⟨xs, S, owns_chg h1 hc hv, h2.keep (KeepS.chg hc fun k hk => hL k (h3 k hk).1), h3⟩
theorem endQ_len2 {b : List UInt8} {q z n : Nat} {s : List UInt8} (h : endQ b q z = .ok (s, n)) : s.length ≤ b.length := by
  unfold endQ cText at h
  simp only at h
  (repeat' split at h) <;> simp at h <;> (try contradiction)
  all_goals
    obtain ⟨rfl, _⟩ := h
    simp
    try omega

/-- What a world holds for the document. -/
def DW (rb b o n c : Nat) (L : List UInt8) (deep g e a : Nat) (cv : Array Value) (v : Value) (cur : F) (w W : World) : Prop :=
  BRd W rb b o n c L deep ∧ FBx W g e a ∧ BoxV W (g + 1) cv ∧ OwnK W (g + 2) (fun k => g + 2 ≤ k) v cur ∧ Below w.heap.size w W ∧ g + 2 ≤ W.heap.size
theorem DW.keep {rb b o n c : Nat} {L : List UInt8} {deep g e a : Nat} {cv : Array Value} {v : Value} {cur : F} {w W W' : World} (h : DW rb b o n c L deep g e a cv v cur w W) (hb : Below W.heap.size W W') : DW rb b o n c L deep g e a cv v cur w W' :=
  ⟨h.1.keep hb, h.2.1.keep hb, h.2.2.1.keep hb, h.2.2.2.1.keep hb, h.2.2.2.2.1.trans (hb.mono h.2.2.2.2.1.size), Nat.le_trans h.2.2.2.2.2 hb.size⟩
/-- By a change of the boxes. -/
theorem DW.chg {rb b o n c : Nat} {L : List UInt8} {deep g e a e' a' : Nat} {cv cv' : Array Value} {v : Value} {cur : F} {w W W' : World} (h : DW rb b o n c L deep g e a cv v cur w W) (hc : Chg (fun j => j = g ∨ j = g + 1) W W') (h1 : rb < g ∧ b < g) (hg : w.heap.size = g) (hf : FBx W' g e' a') (hv : BoxV W' (g + 1) cv') : DW rb b o n c L deep g e' a' cv' v cur w W' := by
  have h3 := h.2.2.2.2.1.size
  refine ⟨h.1.block hc (by omega) (by omega), hf, hv, h.2.2.2.1.chg hc (fun k e x => ?_) (fun k hk x => ?_), h.2.2.2.2.1.trans (hc.below h3 (fun j e => by rcases e with e | e <;> omega)), Nat.le_trans h.2.2.2.2.2 hc.size⟩
  · have := (h.2.2.2.1.far k e).1
    rcases x with x | x <;> omega
  · have h7 : g + 2 ≤ k := hk
    rcases x with x | x <;> omega

/-- Stores into both boxes. -/
def putW (W : World) (g : Nat) (k : Int) (bits hi lo : Nat) (text more : ByteArray) (sub : Int) (ab : Option Addr) (nb cb : Nat) (ak : Option Addr) (nk ck : Nat) (e a : Int) : World :=
  (((((((((((W.setCell ⟨g + 1, 0, none⟩ (.int .i64 k)).setCell ⟨g + 1, 1, none⟩ (.int .u64 (bits : Nat))).setCell ⟨g + 1, 2, none⟩ (.int .u64 (hi : Nat))).setCell ⟨g + 1, 3, none⟩ (.int .u64 (lo : Nat))).setCell ⟨g + 1, 4, none⟩ (.string text)).setCell ⟨g + 1, 5, none⟩ (.string more)).setCell ⟨g + 1, 6, none⟩ (.int .i64 sub)).setCell ⟨g + 1, 7, none⟩ (.slice ab nb cb)).setCell ⟨g + 1, 8, none⟩ (.slice ak nk ck)).setCell ⟨g, 0, none⟩ (.int .i64 e)).setCell ⟨g, 1, none⟩ (.int .i64 a)).setCell ⟨g, 2, none⟩ (.slice none 0 0)
theorem putW_chg (W : World) (g : Nat) (k : Int) (bits hi lo : Nat) (text more : ByteArray) (sub : Int) (ab : Option Addr) (nb cb : Nat) (ak : Option Addr) (nk ck : Nat) (e a : Int) : Chg (fun j => j = g ∨ j = g + 1) W (putW W g k bits hi lo text more sub ab nb cb ak nk ck e a) := by
  unfold putW
  refine ((((((((((((Chg.refl _ _).setCell ?_ _).setCell ?_ _).setCell ?_ _).setCell ?_ _).setCell ?_ _).setCell ?_ _).setCell ?_ _).setCell ?_ _).setCell ?_ _).setCell ?_ _).setCell ?_ _).setCell ?_ _
  all_goals first | exact fun _ => Or.inl rfl | exact fun _ => Or.inr rfl
theorem FBx.setB {W : World} {g e a : Nat} (h : FBx W g e a) (e' a' : Nat) : FBx (((W.setCell ⟨g, 0, none⟩ (.int .i64 (e' : Nat))).setCell ⟨g, 1, none⟩ (.int .i64 (a' : Nat))).setCell ⟨g, 2, none⟩ (.slice none 0 0)) g e' a' := by
  obtain ⟨h0, h1, h2, f0, f1, f2, hg⟩ := h
  refine ⟨?_, ?_, ?_, ?_, ?_, ?_, ?_⟩ <;> simp [go_sem, *]
set_option maxHeartbeats 1000000 in
theorem DW.put {rb b o n c : Nat} {L : List UInt8} {deep g e a : Nat} {k2 : Int} {bits2 hi2 lo2 : Nat} {text2 more2 : ByteArray} {sub2 : Int} {ab2 : Option Addr} {nb2 cb2 : Nat} {ak2 : Option Addr} {nk2 ck2 : Nat} {v : Value} {cur : F} {w W : World} (h : DW rb b o n c L deep g e a (valCells k2 bits2 hi2 lo2 text2 more2 sub2 ab2 nb2 cb2 ak2 nk2 ck2) v cur w W)
    (k : Int) (bits hi lo : Nat) (text more : ByteArray) (sub : Int) (ab : Option Addr) (nb cb : Nat) (ak : Option Addr) (nk ck : Nat) (e' a' : Nat) (h1 : rb < g ∧ b < g) (hg : w.heap.size = g) : DW rb b o n c L deep g e' a' (valCells k bits hi lo text more sub ab nb cb ak nk ck) v cur w (putW W g k bits hi lo text more sub ab nb cb ak nk ck e' a') := by
  have hng : ¬ g + 1 = g := by omega
  have hng2 : ¬ g = g + 1 := by omega
  have bb := h.2.2.1
  have ff := h.2.1
  obtain ⟨W0, e0⟩ : ∃ X, X = W.setCell ⟨g + 1, 0, none⟩ (.int .i64 k) := ⟨_, rfl⟩
  have b0 : BoxV W0 (g + 1) (valCells k bits2 hi2 lo2 text2 more2 sub2 ab2 nb2 cb2 ak2 nk2 ck2) := by rw [e0]; exact bb.set 0 _ (by simp [valCells]) (by omega)
  have f0 : FBx W0 g e a := by rw [e0]; exact ff.other hng _
  obtain ⟨W1, e1⟩ : ∃ X, X = W0.setCell ⟨g + 1, 1, none⟩ (.int .u64 (bits : Nat)) := ⟨_, rfl⟩
  have b1 : BoxV W1 (g + 1) (valCells k bits hi2 lo2 text2 more2 sub2 ab2 nb2 cb2 ak2 nk2 ck2) := by rw [e1]; exact b0.set 1 _ (by simp [valCells]) (by omega)
  have f1 : FBx W1 g e a := by rw [e1]; exact f0.other hng _
  obtain ⟨W2, e2⟩ : ∃ X, X = W1.setCell ⟨g + 1, 2, none⟩ (.int .u64 (hi : Nat)) := ⟨_, rfl⟩
  have b2 : BoxV W2 (g + 1) (valCells k bits hi lo2 text2 more2 sub2 ab2 nb2 cb2 ak2 nk2 ck2) := by rw [e2]; exact b1.set 2 _ (by simp [valCells]) (by omega)
  have f2 : FBx W2 g e a := by rw [e2]; exact f1.other hng _
  obtain ⟨W3, e3⟩ : ∃ X, X = W2.setCell ⟨g + 1, 3, none⟩ (.int .u64 (lo : Nat)) := ⟨_, rfl⟩
  have b3 : BoxV W3 (g + 1) (valCells k bits hi lo text2 more2 sub2 ab2 nb2 cb2 ak2 nk2 ck2) := by rw [e3]; exact b2.set 3 _ (by simp [valCells]) (by omega)
  have f3 : FBx W3 g e a := by rw [e3]; exact f2.other hng _
  obtain ⟨W4, e4⟩ : ∃ X, X = W3.setCell ⟨g + 1, 4, none⟩ (.string text) := ⟨_, rfl⟩
  have b4 : BoxV W4 (g + 1) (valCells k bits hi lo text more2 sub2 ab2 nb2 cb2 ak2 nk2 ck2) := by rw [e4]; exact b3.set 4 _ (by simp [valCells]) (by omega)
  have f4 : FBx W4 g e a := by rw [e4]; exact f3.other hng _
  obtain ⟨W5, e5⟩ : ∃ X, X = W4.setCell ⟨g + 1, 5, none⟩ (.string more) := ⟨_, rfl⟩
  have b5 : BoxV W5 (g + 1) (valCells k bits hi lo text more sub2 ab2 nb2 cb2 ak2 nk2 ck2) := by rw [e5]; exact b4.set 5 _ (by simp [valCells]) (by omega)
  have f5 : FBx W5 g e a := by rw [e5]; exact f4.other hng _
  obtain ⟨W6, e6⟩ : ∃ X, X = W5.setCell ⟨g + 1, 6, none⟩ (.int .i64 sub) := ⟨_, rfl⟩
  have b6 : BoxV W6 (g + 1) (valCells k bits hi lo text more sub ab2 nb2 cb2 ak2 nk2 ck2) := by rw [e6]; exact b5.set 6 _ (by simp [valCells]) (by omega)
  have f6 : FBx W6 g e a := by rw [e6]; exact f5.other hng _
  obtain ⟨W7, e7⟩ : ∃ X, X = W6.setCell ⟨g + 1, 7, none⟩ (.slice ab nb cb) := ⟨_, rfl⟩
  have b7 : BoxV W7 (g + 1) (valCells k bits hi lo text more sub ab nb cb ak2 nk2 ck2) := by rw [e7]; exact b6.set 7 _ (by simp [valCells]) (by omega)
  have f7 : FBx W7 g e a := by rw [e7]; exact f6.other hng _
  obtain ⟨W8, e8⟩ : ∃ X, X = W7.setCell ⟨g + 1, 8, none⟩ (.slice ak nk ck) := ⟨_, rfl⟩
  have b8 : BoxV W8 (g + 1) (valCells k bits hi lo text more sub ab nb cb ak nk ck) := by rw [e8]; exact b7.set 8 _ (by simp [valCells]) (by omega)
  have f8 : FBx W8 g e a := by rw [e8]; exact f7.other hng _
  have hc := putW_chg W g k bits hi lo text more sub ab nb cb ak nk ck (e' : Nat) (a' : Nat)
  unfold putW at hc ⊢
  rw [← e0, ← e1, ← e2, ← e3, ← e4, ← e5, ← e6, ← e7, ← e8] at hc ⊢
  exact h.chg hc h1 hg (f8.setB e' a') (((b8.other hng2 _).other hng2 _).other hng2 _)
/-- By a row's growth. -/
theorem DW.app {rb b o n c : Nat} {L : List UInt8} {deep g e a : Nat} {cv : Array Value} {v v' : Value} {cur cur' : F} {w W W' : World} (h : DW rb b o n c L deep g e a cv v cur w W) (hb : Below (g + 2) W W') (h1 : rb < g ∧ b < g) (hg : w.heap.size = g) (ho : OwnK W' (g + 2) (fun k => g + 2 ≤ k) v' cur') : DW rb b o n c L deep g e a cv v' cur' w W' := by
  have hc : Chg (fun k => g + 2 ≤ k) W W' := ⟨hb.os, hb.tape, hb.output, hb.size, fun k _ hn => hb.block k (by omega)⟩
  have h3 := h.2.2.2.2.1.size
  exact ⟨h.1.block hc (by omega) (by omega), h.2.1.block hb.size (hb.block g (by omega)), h.2.2.1.below hb (by omega), ho, h.2.2.2.2.1.trans (hc.below h3 (fun j e => by have e2 : g + 2 ≤ j := e; omega)), Nat.le_trans h.2.2.2.2.2 hb.size⟩

/-- On to the next element. -/
theorem dto_next {rb b o n c : Nat} {L : List UInt8} {deep p z win how last g : Nat} {w w' w2 : World} {a : Act} {A : Array Value} {at' nx : Nat} {cur : F} {v : Value} {cv : Array Value} (hA : A.size = 153)
    (s0 : A.getD 0 undef = .pointer (some ⟨rb, 0, none⟩)) (s3 : A.getD 3 undef = .int .i64 (win : Nat)) (s10 : A.getD 10 undef = v) (s11 : A.getD 11 undef = .int .i64 ((last : Int) + 1)) (s12 : A.getD 12 undef = .pointer (some ⟨g, 0, none⟩)) (s13 : A.getD 13 undef = .int .i64 (nx : Nat)) (s17 : A.getD 17 undef = .pointer (some ⟨g + 1, 0, none⟩))
    (hw : DW rb b o n c L deep g 0 0 cv v cur w w2) (iv : IsV cv) (len : cur.len ≤ nx) (lo : p + 4 ≤ nx) (hi : nx ≤ last) (rel : ∀ r, Q L deep (.els nx last win) r → Q L deep (.doc p z win how) (preF cur r)) (rbb : rb < g ∧ b < g) (gw : w.heap.size = g) (ha : a.tmps.getD 13 undef = .int .i64 (at' : Nat)) (hlt : at' < nx) :
    DL 1 ∧ DJ rb b o n c L deep p z win how last g w 1 ⟨A, []⟩ w2 ∧ dmu last 1 ⟨A, []⟩ w2 < dmu last 1 a w' := by
  obtain ⟨h1, h2, h3, h4, h5, h6⟩ := hw
  refine ⟨.inr rfl, ⟨_, nx, cur, v, cv, DFr.of A hA, ⟨s0, s3, s10, s11, s12, s13, s17, h1, h2, h3, iv, h4, len, lo, hi, rel, h5, rbb, h6, gw⟩⟩, ?_⟩
  unfold dmu
  rw [if_pos rfl, if_pos rfl, s13, ha]
  simp only [intOf]
  omega
/-- To the end. -/
theorem dto_last {rb b o n c : Nat} {L : List UInt8} {deep p z win how last g : Nat} {w w' w2 : World} {a : Act} {A : Array Value} {cur : F} {v : Value} {cv : Array Value} (hA : A.size = 153)
    (s0 : A.getD 0 undef = .pointer (some ⟨rb, 0, none⟩)) (s3 : A.getD 3 undef = .int .i64 (win : Nat)) (s10 : A.getD 10 undef = v) (s11 : A.getD 11 undef = .int .i64 ((last : Int) + 1)) (s12 : A.getD 12 undef = .pointer (some ⟨g, 0, none⟩)) (s13 : A.getD 13 undef = .int .i64 (last : Nat)) (s17 : A.getD 17 undef = .pointer (some ⟨g + 1, 0, none⟩))
    (hw : DW rb b o n c L deep g 0 0 cv v cur w w2) (iv : IsV cv) (len : cur.len ≤ last) (lo : p + 4 ≤ last) (rel : ∀ r, Q L deep (.els last last win) r → Q L deep (.doc p z win how) (preF cur r)) (rbb : rb < g ∧ b < g) (gw : w.heap.size = g) :
    DL 0 ∧ DJ rb b o n c L deep p z win how last g w 0 ⟨A, []⟩ w2 ∧ dmu last 0 ⟨A, []⟩ w2 < dmu last 1 a w' := by
  obtain ⟨h1, h2, h3, h4, h5, h6⟩ := hw
  refine ⟨.inl rfl, ⟨_, cur, v, cv, DFr.of A hA, ⟨s0, s3, s10, s11, s12, s13, s17, h1, h2, h3, iv, h4, len, lo, Nat.le_refl _, rel, h5, rbb, h6, gw⟩⟩, ?_⟩
  unfold dmu
  rw [if_neg (by omega), if_pos rfl]
  omega

set_option maxRecDepth 100000 in
set_option maxHeartbeats 16000000 in
theorem dpass1 (rb b o n c : Nat) (L : List UInt8) (deep p z win how last g : Nat) (hln : last < n) (hw : win + (last - p) ≤ 2000000) (d : Nat) (hv : VlSaid d) (hdd : last ≤ p + d) (w : World) (a : Act) (w' : World) (hJ : DJ rb b o n c L deep p z win how last g w 1 a w') :
    dnext.wp Try.prog (JumpTo DL (fun l' a' w'' => DJ rb b o n c L deep p z win how last g w l' a' w'' ∧ dmu last l' a' w'' < dmu last 1 a w') (bodyPost Try.prog Try.f35 (DOut L deep p z win how w))) a w' := by
  obtain ⟨u, at', cur, v, cv, rfl, S⟩ := hJ
  have HS := Lib.hid S
  obtain ⟨s0, s3, s10, s11, s12, s13, s17, rd, fb, bx, iv, own, len, lo, hi, rel, below, rbb, gs, gw⟩ := S
  have H0 : Hid (DW rb b o n c L deep g 0 0 cv v cur w w') := Lib.hid ⟨rd, fb, bx, own, below, gs⟩
  have hL : L.length = n := rd.2.2.1.1
  have hnc : n ≤ c := rd.2.2.2.1
  have hnb : n ≤ 1000000 := rd.2.2.2.2
  have CW := Lib.hid wrong_calls
  have CN := Lib.hid (fun k W => name_calls k W)
  have CV := Lib.hid (fun W (h : BRd W rb b o n c L deep) => hv rb b o n c L deep W h)
  have hat := rd.at at' (by omega)
  have hcb := bAt_lt L at'
  obtain ⟨x, hx⟩ : ∃ x, x = bAt L at' := ⟨_, rfl⟩
  rw [← hx] at hat hcb
  have e1 : IntKind.i64.wrap ((last : Int) + 1 - 1) = (last : Int) := (IntWalk.i64_in _ (by omega)).trans (by omega)
  have e2 : IntKind.i64.wrap ((at' : Int) + 1) = ((at' + 1 : Nat) : Int) := (IntWalk.i64_in _ (by omega)).trans (by omega)
  obtain ⟨k2, bits, hb, lb, text, more, sub, ab, nb, cb, ak, nk, ck, rfl⟩ := iv
  obtain ⟨r0, r1, -⟩ := rd
  obtain ⟨z0, z1, z2, q0, q1, q2, hg1⟩ := fb
  obtain ⟨f0, f1, f2, f3, f4, f5, f6, f7, f8, l0⟩ := bx.nine
  have p0 := (bx.2 0 (by omega)).2
  have p1 := (bx.2 1 (by omega)).2
  have p2 := (bx.2 2 (by omega)).2
  have p3 := (bx.2 3 (by omega)).2
  have p4 := (bx.2 4 (by omega)).2
  have p5 := (bx.2 5 (by omega)).2
  have p6 := (bx.2 6 (by omega)).2
  have p7 := (bx.2 7 (by omega)).2
  have p8 := (bx.2 8 (by omega)).2
  simp only [List.range, List.range.loop, List.map_cons, List.map_nil, s0, s3, s10, s11, s12, s13, s17]
  clear bx own rel below s0 s3 s10 s11 s12 s13 s17
  have hng : ¬ g = g + 1 := by omega
  have hng2 : ¬ g + 1 = g := by omega
  by_cases hl : at' = last
  · subst hl
    have d0 : ((at' : Int) == (at' : Int)) = true := by simp
    conv => arg 2; whnf
    go_wp2_with fail
    go_step3
    exact dto_last rfl rfl rfl rfl rfl rfl rfl rfl H0.out ⟨_, _, _, _, _, _, _, _, _, _, _, _, _, rfl⟩ len lo HS.out.rel rbb gw
  have d0 : ((at' : Int) == (last : Int)) = false := by simp; omega
  by_cases h0 : x = 0
  · have HX : Hid (Q L deep (.doc p z win how) (.bad 3 at')) := by
      have := HS.out.rel (.bad 3 at') (.els_end (by unfold elsH; rw [if_neg hl, if_pos (by rw [← hx]; exact h0)]))
      exact Lib.hid (by simpa [preF] using this)
    subst h0
    clear hx
    conv => arg 2; whnf
    go_wp2_with fail
    refine (CW.out _ _ _).mono ?_
    rintro e w7 ⟨rfl, hb7⟩
    have H7 := Lib.hid (H0.out.keep hb7)
    clear hb7
    clear f0 f1 f2 f3 f4 f5 f6 f7 f8 l0 p0 p1 p2 p3 p4 p5 p6 p7 p8 z0 z1 z2 q0 q1 q2 hg1 r0 r1
    obtain ⟨r0, r1, -⟩ := H7.out.1
    obtain ⟨z0, z1, z2, q0, q1, q2, hg1⟩ := H7.out.2.1
    obtain ⟨f0, f1, f2, f3, f4, f5, f6, f7, f8, l0⟩ := H7.out.2.2.1.nine
    have p0 := (H7.out.2.2.1.2 0 (by omega)).2
    have p1 := (H7.out.2.2.1.2 1 (by omega)).2
    have p2 := (H7.out.2.2.1.2 2 (by omega)).2
    have p3 := (H7.out.2.2.1.2 3 (by omega)).2
    have p4 := (H7.out.2.2.1.2 4 (by omega)).2
    have p5 := (H7.out.2.2.1.2 5 (by omega)).2
    have p6 := (H7.out.2.2.1.2 6 (by omega)).2
    have p7 := (H7.out.2.2.1.2 7 (by omega)).2
    have p8 := (H7.out.2.2.1.2 8 (by omega)).2
    go_wp2_with fail
    simp only [JumpTo]
    refine bodyPost_ret (v := .tuple #[.slice none 0 0, .int .i64 0, fltV (3) (at')]) (by simp [results, Try.results35, go_sem, *]) rfl ?_
    refine ⟨_, HX.out, rfl, ?_⟩
    have hfin := H7.out.2.2.2.2.1
    (repeat' (first | with_reducible exact hfin | with_reducible refine Below.setCell ?_ (by first | exact Nat.le_of_eq gw | exact Nat.le_trans (Nat.le_of_eq gw) (Nat.le_succ _)) _))
  have dx : ((x : Int) == 0) = false := by simpa using h0
  obtain ⟨wq, hwq⟩ : ∃ W, W = w'.setCell ⟨g + 1, 0, none⟩ (.int .i64 (x : Nat)) := ⟨_, rfl⟩
  have hbq : BoxV wq (g + 1) (valCells (x : Nat) bits hb lb text more sub ab nb cb ak nk ck) := by
    rw [hwq]
    exact H0.out.2.2.1.set 0 _ (by simp [valCells]) (by omega)
  have H1 : Hid (DW rb b o n c L deep g 0 0 (valCells (x : Nat) bits hb lb text more sub ab nb cb ak nk ck) v cur w wq) := by
    refine Lib.hid (H0.out.chg ?_ rbb gw ?_ hbq)
    · rw [hwq]; exact (Chg.refl _ _).setCell (fun _ => Or.inr rfl) _
    · rw [hwq]; exact H0.out.2.1.other (fun e => hng2 e) _
  clear hbq
  have E18 : IntKind.i64.wrap (x : Int) = (x : Int) := IntWalk.i64_in _ (by omega)
  by_cases hk : knownK (x : Nat) = false
  · have HX : Hid (Q L deep (.doc p z win how) (.bad 5 at')) := by
      have := HS.out.rel (.bad 5 at') (.els_end (by unfold elsH; rw [if_neg hl, if_neg (by rw [← hx]; exact h0), if_pos (by rw [← hx]; exact hk)]))
      exact Lib.hid (by simpa [preF] using this)
    clear hx
    conv => arg 2; whnf
    go_upto_region 19 with fail
    rw [← hwq]
    clear hwq
    clear f0 f1 f2 f3 f4 f5 f6 f7 f8 l0 p0 p1 p2 p3 p4 p5 p6 p7 p8 z0 z1 z2 q0 q1 q2 hg1 r0 r1
    obtain ⟨r0, r1, -⟩ := H1.out.1
    obtain ⟨z0, z1, z2, q0, q1, q2, hg1⟩ := H1.out.2.1
    obtain ⟨f0, f1, f2, f3, f4, f5, f6, f7, f8, l0⟩ := H1.out.2.2.1.nine
    have p0 := (H1.out.2.2.1.2 0 (by omega)).2
    have p1 := (H1.out.2.2.1.2 1 (by omega)).2
    have p2 := (H1.out.2.2.1.2 2 (by omega)).2
    have p3 := (H1.out.2.2.1.2 3 (by omega)).2
    have p4 := (H1.out.2.2.1.2 4 (by omega)).2
    have p5 := (H1.out.2.2.1.2 5 (by omega)).2
    have p6 := (H1.out.2.2.1.2 6 (by omega)).2
    have p7 := (H1.out.2.2.1.2 7 (by omega)).2
    have p8 := (H1.out.2.2.1.2 8 (by omega)).2
    go_wp2_with fail
    refine (CN.out _ _).mono ?_
    rintro e w2 ⟨s1, rfl, hs1, hb2⟩
    have H2 := Lib.hid (H1.out.keep hb2)
    clear hb2
    unfold noTxt at hs1
    clear f0 f1 f2 f3 f4 f5 f6 f7 f8 l0 p0 p1 p2 p3 p4 p5 p6 p7 p8 z0 z1 z2 q0 q1 q2 hg1 r0 r1
    obtain ⟨r0, r1, -⟩ := H2.out.1
    obtain ⟨z0, z1, z2, q0, q1, q2, hg1⟩ := H2.out.2.1
    obtain ⟨f0, f1, f2, f3, f4, f5, f6, f7, f8, l0⟩ := H2.out.2.2.1.nine
    have p0 := (H2.out.2.2.1.2 0 (by omega)).2
    have p1 := (H2.out.2.2.1.2 1 (by omega)).2
    have p2 := (H2.out.2.2.1.2 2 (by omega)).2
    have p3 := (H2.out.2.2.1.2 3 (by omega)).2
    have p4 := (H2.out.2.2.1.2 4 (by omega)).2
    have p5 := (H2.out.2.2.1.2 5 (by omega)).2
    have p6 := (H2.out.2.2.1.2 6 (by omega)).2
    have p7 := (H2.out.2.2.1.2 7 (by omega)).2
    have p8 := (H2.out.2.2.1.2 8 (by omega)).2
    replace hs1 : (s1.toList == []) = true := by rw [hk] at hs1; exact hs1
    clear hk
    go_wp2_with fail
    refine (CW.out _ _ _).mono ?_
    rintro e w7 ⟨rfl, hb7⟩
    have H7 := Lib.hid (H2.out.keep hb7)
    clear hb7
    clear f0 f1 f2 f3 f4 f5 f6 f7 f8 l0 p0 p1 p2 p3 p4 p5 p6 p7 p8 z0 z1 z2 q0 q1 q2 hg1 r0 r1
    obtain ⟨r0, r1, -⟩ := H7.out.1
    obtain ⟨z0, z1, z2, q0, q1, q2, hg1⟩ := H7.out.2.1
    obtain ⟨f0, f1, f2, f3, f4, f5, f6, f7, f8, l0⟩ := H7.out.2.2.1.nine
    have p0 := (H7.out.2.2.1.2 0 (by omega)).2
    have p1 := (H7.out.2.2.1.2 1 (by omega)).2
    have p2 := (H7.out.2.2.1.2 2 (by omega)).2
    have p3 := (H7.out.2.2.1.2 3 (by omega)).2
    have p4 := (H7.out.2.2.1.2 4 (by omega)).2
    have p5 := (H7.out.2.2.1.2 5 (by omega)).2
    have p6 := (H7.out.2.2.1.2 6 (by omega)).2
    have p7 := (H7.out.2.2.1.2 7 (by omega)).2
    have p8 := (H7.out.2.2.1.2 8 (by omega)).2
    go_wp2_with fail
    simp only [JumpTo]
    refine bodyPost_ret (v := .tuple #[.slice none 0 0, .int .i64 0, fltV (5) (at')]) (by simp [results, Try.results35, go_sem, *]) rfl ?_
    refine ⟨_, HX.out, rfl, ?_⟩
    have hfin := H7.out.2.2.2.2.1
    (repeat' (first | with_reducible exact hfin | with_reducible refine Below.setCell ?_ (by first | exact Nat.le_of_eq gw | exact Nat.le_trans (Nat.le_of_eq gw) (Nat.le_succ _)) _))
  have hk : knownK (x : Nat) = true := by simpa using hk
  have hrt : Hid (∀ W, BRd W rb b o n c L deep → RdB W (some ⟨b, o, none⟩) last (L.take last)) := Lib.hid (fun W h => rd_take h.2.2.1 last (by omega))
  have CT := Lib.hid (fun W (h : BRd W rb b o n c L deep) => ctext_calls (some ⟨b, o, none⟩) last c (at' + 1) W (L.take last) (hrt.out W h) (by omega))
  obtain ⟨E, hE⟩ : ∃ E, E = (cText (L.take last) (at' + 1)).2.2 := ⟨_, rfl⟩
  obtain ⟨N, hN⟩ : ∃ N, N = (cText (L.take last) (at' + 1)).2.1 := ⟨_, rfl⟩
  obtain ⟨nm, hs⟩ : ∃ s, s = (cText (L.take last) (at' + 1)).1 := ⟨_, rfl⟩
  have hEQ : endQ L (at' + 1) last = if E ≠ 0 then .error (E, at' + 1) else .ok (nm, N) := by unfold endQ; rw [hE, hN, hs]
  have hbd := endQ_bd (b := L) (q := at' + 1) (z := last) (by omega) (by omega)
  have HEQ := Lib.hid hEQ
  unfold CTextOut at CT
  rw [← hE, ← hN, ← hs] at CT
  clear hEQ hE hN hs
  have j1 : (0 : Int) ≤ (last : Int) := by omega
  have j2 : (last : Int) ≤ (c : Int) := by omega
  by_cases hE0 : E = 0
  · have hen : endQ L (at' + 1) last = .ok (nm, N) := by rw [HEQ.out, if_neg (by simpa using hE0)]
    have hN2 := hbd.2 nm N hen
    have hnl := endQ_len2 hen
    have hne : ((E : Int) != 0) = false := by simp [hE0]
    have HEL : Hid (elsH L at' last = .ok (txt nm, x, N)) := by
      show _ = _
      unfold elsH
      rw [if_neg hl, if_neg (by rw [← hx]; exact h0), if_neg (by rw [← hx, hk]; simp), hen, ← hx]
    clear HEQ hbd hen hx hE0
    conv => arg 2; whnf
    go_upto_region 19 with fail
    rw [← hwq]
    clear hwq
    clear f0 f1 f2 f3 f4 f5 f6 f7 f8 l0 p0 p1 p2 p3 p4 p5 p6 p7 p8 z0 z1 z2 q0 q1 q2 hg1 r0 r1
    obtain ⟨r0, r1, -⟩ := H1.out.1
    obtain ⟨z0, z1, z2, q0, q1, q2, hg1⟩ := H1.out.2.1
    obtain ⟨f0, f1, f2, f3, f4, f5, f6, f7, f8, l0⟩ := H1.out.2.2.1.nine
    have p0 := (H1.out.2.2.1.2 0 (by omega)).2
    have p1 := (H1.out.2.2.1.2 1 (by omega)).2
    have p2 := (H1.out.2.2.1.2 2 (by omega)).2
    have p3 := (H1.out.2.2.1.2 3 (by omega)).2
    have p4 := (H1.out.2.2.1.2 4 (by omega)).2
    have p5 := (H1.out.2.2.1.2 5 (by omega)).2
    have p6 := (H1.out.2.2.1.2 6 (by omega)).2
    have p7 := (H1.out.2.2.1.2 7 (by omega)).2
    have p8 := (H1.out.2.2.1.2 8 (by omega)).2
    go_wp2_with fail
    refine (CN.out _ _).mono ?_
    rintro e w2 ⟨s1, rfl, hs1, hb2⟩
    have H2 := Lib.hid (H1.out.keep hb2)
    clear hb2
    unfold noTxt at hs1
    clear f0 f1 f2 f3 f4 f5 f6 f7 f8 l0 p0 p1 p2 p3 p4 p5 p6 p7 p8 z0 z1 z2 q0 q1 q2 hg1 r0 r1
    obtain ⟨r0, r1, -⟩ := H2.out.1
    obtain ⟨z0, z1, z2, q0, q1, q2, hg1⟩ := H2.out.2.1
    obtain ⟨f0, f1, f2, f3, f4, f5, f6, f7, f8, l0⟩ := H2.out.2.2.1.nine
    have p0 := (H2.out.2.2.1.2 0 (by omega)).2
    have p1 := (H2.out.2.2.1.2 1 (by omega)).2
    have p2 := (H2.out.2.2.1.2 2 (by omega)).2
    have p3 := (H2.out.2.2.1.2 3 (by omega)).2
    have p4 := (H2.out.2.2.1.2 4 (by omega)).2
    have p5 := (H2.out.2.2.1.2 5 (by omega)).2
    have p6 := (H2.out.2.2.1.2 6 (by omega)).2
    have p7 := (H2.out.2.2.1.2 7 (by omega)).2
    have p8 := (H2.out.2.2.1.2 8 (by omega)).2
    replace hs1 : (s1.toList == []) = false := by rw [hk] at hs1; exact hs1
    go_wp2_with fail
    refine (CT.out _ H2.out.1).mono ?_
    rintro e w3 ⟨rfl, rfl⟩
    have C3 := Lib.hid (CV.out _ H2.out.1 x N last win hk (by omega) hln (by omega) (by omega))
    clear hk
    go_wp2_with fail
    refine C3.out.mono ?_
    rintro e w4 ⟨r, hq, hvo⟩
    obtain ⟨hvo, hb4⟩ := hvo
    have H4 := Lib.hid (H2.out.keep hb4)
    have HQ := Lib.hid hq
    have HB4 := Lib.hid hb4
    have hbd4 := hq.bd
    have hm4 := hb4.size
    clear f0 f1 f2 f3 f4 f5 f6 f7 f8 l0 p0 p1 p2 p3 p4 p5 p6 p7 p8 z0 z1 z2 q0 q1 q2 hg1 r0 r1
    obtain ⟨r0, r1, -⟩ := H4.out.1
    obtain ⟨z0, z1, z2, q0, q1, q2, hg1⟩ := H4.out.2.1
    obtain ⟨f0, f1, f2, f3, f4, f5, f6, f7, f8, l0⟩ := H4.out.2.2.1.nine
    have p0 := (H4.out.2.2.1.2 0 (by omega)).2
    have p1 := (H4.out.2.2.1.2 1 (by omega)).2
    have p2 := (H4.out.2.2.1.2 2 (by omega)).2
    have p3 := (H4.out.2.2.1.2 3 (by omega)).2
    have p4 := (H4.out.2.2.1.2 4 (by omega)).2
    have p5 := (H4.out.2.2.1.2 5 (by omega)).2
    have p6 := (H4.out.2.2.1.2 6 (by omega)).2
    have p7 := (H4.out.2.2.1.2 7 (by omega)).2
    have p8 := (H4.out.2.2.1.2 8 (by omega)).2
    clear hb4 hq
    cases r with
    | kids f e => exact hvo.elim
    | bad er ea =>
      obtain rfl := hvo
      have hbd5 := hbd4 (by omega) (by omega)
      have hne2 : ((er : Int) != 0) = true := by simp; omega
      have HX : Hid (Q L deep (.doc p z win how) (.bad er ea)) := by
        have := HS.out.rel (.bad er ea) (.els_bad HEL.out HQ.out)
        exact Lib.hid (by simpa [preF] using this)
      have hgs4 := H4.out.2.2.2.2.2
      have H5 := Lib.hid (H4.out.put 0 0 0 0 ⟨#[]⟩ ⟨#[]⟩ 0 none 0 0 none 0 0 er ea rbb gw)
      obtain ⟨w5, hw5⟩ : ∃ W, W = putW w4 g 0 0 0 0 ⟨#[]⟩ ⟨#[]⟩ 0 none 0 0 none 0 0 (er : Nat) (ea : Nat) := ⟨_, rfl⟩
      rw [← hw5] at H5
      go_upto_region 25 with fail
      unfold putW at hw5
      have hz0 : ((0 : Nat) : Int) = 0 := rfl
      try simp only [hz0] at hw5
      rw [← hw5]
      clear hw5
      clear f0 f1 f2 f3 f4 f5 f6 f7 f8 l0 p0 p1 p2 p3 p4 p5 p6 p7 p8 z0 z1 z2 q0 q1 q2 hg1 r0 r1
      obtain ⟨r0, r1, -⟩ := H5.out.1
      obtain ⟨z0, z1, z2, q0, q1, q2, hg1⟩ := H5.out.2.1
      obtain ⟨f0, f1, f2, f3, f4, f5, f6, f7, f8, l0⟩ := H5.out.2.2.1.nine
      have p0 := (H5.out.2.2.1.2 0 (by omega)).2
      have p1 := (H5.out.2.2.1.2 1 (by omega)).2
      have p2 := (H5.out.2.2.1.2 2 (by omega)).2
      have p3 := (H5.out.2.2.1.2 3 (by omega)).2
      have p4 := (H5.out.2.2.1.2 4 (by omega)).2
      have p5 := (H5.out.2.2.1.2 5 (by omega)).2
      have p6 := (H5.out.2.2.1.2 6 (by omega)).2
      have p7 := (H5.out.2.2.1.2 7 (by omega)).2
      have p8 := (H5.out.2.2.1.2 8 (by omega)).2
      go_upto_region 26 with fail
      go_region
      all_goals
        go_wp2_with fail
        simp only [JumpTo]
        refine bodyPost_ret (v := .tuple #[.slice none 0 0, .int .i64 0, fltV er ea]) (by simp [results, Try.results35, go_sem, *]) rfl ?_
        refine ⟨_, HX.out, rfl, ?_⟩
        have hfin := H5.out.2.2.2.2.1
        (repeat' (first | with_reducible exact hfin | with_reducible refine Below.drew ?_ | with_reducible refine Below.setCell ?_ (by first | exact Nat.le_of_eq gw | exact Nat.le_trans (Nat.le_of_eq gw) (Nat.le_succ _)) _))
    | val t nx =>
      obtain ⟨cx, rfl, ht⟩ := hvo
      have hbd5 := hbd4 (by omega) (by omega)
      obtain ⟨k3, bits3, hi3, lo3, text3, more3, sub3, ab3, nb3, cb3, ak3, nk3, ck3, rfl⟩ := ht.rd.shape
      have HT := Lib.hid ht
      have HREL : Hid (∀ r, Q L deep (.els nx last win) r → Q L deep (.doc p z win how) (preF (cur.append (.cons (txt nm) t .nil)) r)) := Lib.hid (fun r hr => by
        rw [preF_one]
        exact HS.out.rel _ (.els_go HEL.out HQ.out hr))
      have HNM : Hid ((txt nm).size ≤ 9223372036854775807) := by
        show _ ≤ _
        rw [← sl_len, sl_txt]; omega
      clear ht hbd4
      have H5 := Lib.hid (H4.out.put k3 bits3 hi3 lo3 text3 more3 sub3 ab3 nb3 cb3 ak3 nk3 ck3 0 0 rbb gw)
      have hch5 := putW_chg w4 g k3 bits3 hi3 lo3 text3 more3 sub3 ab3 nb3 cb3 ak3 nk3 ck3 ((0 : Nat) : Int) ((0 : Nat) : Int)
      obtain ⟨w5, hw5⟩ : ∃ W, W = putW w4 g k3 bits3 hi3 lo3 text3 more3 sub3 ab3 nb3 cb3 ak3 nk3 ck3 ((0 : Nat) : Int) ((0 : Nat) : Int) := ⟨_, rfl⟩
      rw [← hw5] at H5 hch5
      have hgs2 := H2.out.2.2.2.2.2
      have HT5 := Lib.hid (HT.out.keep (KeepS.chg hch5 (fun j hj e => by have e2 : w2.heap.size ≤ j := hj; rcases e with e | e <;> omega)))
      have hgs5 := H5.out.2.2.2.2.2
      clear hch5
      go_upto_region 25 with fail
      unfold putW at hw5
      have hz0 : ((0 : Nat) : Int) = 0 := rfl
      try simp only [hz0] at hw5
      rw [← hw5]
      clear hw5
      clear f0 f1 f2 f3 f4 f5 f6 f7 f8 l0 p0 p1 p2 p3 p4 p5 p6 p7 p8 z0 z1 z2 q0 q1 q2 hg1 r0 r1
      obtain ⟨r0, r1, -⟩ := H5.out.1
      obtain ⟨z0, z1, z2, q0, q1, q2, hg1⟩ := H5.out.2.1
      obtain ⟨f0, f1, f2, f3, f4, f5, f6, f7, f8, l0⟩ := H5.out.2.2.1.nine
      have p0 := (H5.out.2.2.1.2 0 (by omega)).2
      have p1 := (H5.out.2.2.1.2 1 (by omega)).2
      have p2 := (H5.out.2.2.1.2 2 (by omega)).2
      have p3 := (H5.out.2.2.1.2 3 (by omega)).2
      have p4 := (H5.out.2.2.1.2 4 (by omega)).2
      have p5 := (H5.out.2.2.1.2 5 (by omega)).2
      have p6 := (H5.out.2.2.1.2 6 (by omega)).2
      have p7 := (H5.out.2.2.1.2 7 (by omega)).2
      have p8 := (H5.out.2.2.1.2 8 (by omega)).2
      go_wp2_with (at_builtin; refine wpList_appK (v := v) (f := cur) (B := g + 2) (L := fun k => g + 2 ≤ k) (sv := .slice (some ⟨w5.heap.size, 0, none⟩) 1 1) (g := .cons (txt nm) t .nil) (S1 := fun k => w2.heap.size ≤ k) (by rfl) _ _ (by rfl) (by rfl) (H5.out.2.2.2.1.keep ((Below.refl _ _).alloc (Nat.le_refl _) _)) (by rfl) (SrcK.one (HT5.out.keep (KeepS.below ((Below.refl _ _).alloc (Nat.le_refl _) _))) HNM.out (new_cells _ _ _ _ rfl)) ?o1 ?o3 ?o4 ?_)
      case o1 => exact fun k hk => ⟨by have e2 : w2.heap.size ≤ k := hk; show g + 2 ≤ k; omega, fun e => by have e2 : w2.heap.size ≤ k := hk; have := (H2.out.2.2.2.1.far k e).2; omega⟩
      case o3 => simp [F.len]; omega
      case o4 => simp; omega
      intro v6 w6 ho6 ha6
      have H6 := Lib.hid (H5.out.app (ha6.below ((Below.refl (g + 2) _).alloc hgs5 _) (by simp; omega) (fun j hj => (H5.out.2.2.2.1.far j hj).1)) rbb gw ho6)
      clear ho6 ha6
      clear f0 f1 f2 f3 f4 f5 f6 f7 f8 l0 p0 p1 p2 p3 p4 p5 p6 p7 p8 z0 z1 z2 q0 q1 q2 hg1 r0 r1
      obtain ⟨r0, r1, -⟩ := H6.out.1
      obtain ⟨z0, z1, z2, q0, q1, q2, hg1⟩ := H6.out.2.1
      obtain ⟨f0, f1, f2, f3, f4, f5, f6, f7, f8, l0⟩ := H6.out.2.2.1.nine
      have p0 := (H6.out.2.2.1.2 0 (by omega)).2
      have p1 := (H6.out.2.2.1.2 1 (by omega)).2
      have p2 := (H6.out.2.2.1.2 2 (by omega)).2
      have p3 := (H6.out.2.2.1.2 3 (by omega)).2
      have p4 := (H6.out.2.2.1.2 4 (by omega)).2
      have p5 := (H6.out.2.2.1.2 5 (by omega)).2
      have p6 := (H6.out.2.2.1.2 6 (by omega)).2
      have p7 := (H6.out.2.2.1.2 7 (by omega)).2
      have p8 := (H6.out.2.2.1.2 8 (by omega)).2
      go_wp2_with fail
      go_step3
      exact dto_next (at' := at') (nx := nx) rfl rfl rfl rfl rfl rfl rfl rfl H6.out ⟨_, _, _, _, _, _, _, _, _, _, _, _, _, rfl⟩ (by rw [F.append_len]; simp [F.len]; omega) (by omega) (by omega) HREL.out rbb gw rfl (by omega)
  · have hen : endQ L (at' + 1) last = .error (E, at' + 1) := by rw [HEQ.out, if_pos hE0]
    have hne : ((E : Int) != 0) = true := by simpa using hE0
    have HX : Hid (Q L deep (.doc p z win how) (.bad E (at' + 1))) := by
      have := HS.out.rel (.bad E (at' + 1)) (.els_end (by unfold elsH; rw [if_neg hl, if_neg (by rw [← hx]; exact h0), if_neg (by rw [← hx, hk]; simp), hen]))
      exact Lib.hid (by simpa [preF] using this)
    clear HEQ hbd hen hx hE0
    conv => arg 2; whnf
    go_upto_region 19 with fail
    rw [← hwq]
    clear hwq
    clear f0 f1 f2 f3 f4 f5 f6 f7 f8 l0 p0 p1 p2 p3 p4 p5 p6 p7 p8 z0 z1 z2 q0 q1 q2 hg1 r0 r1
    obtain ⟨r0, r1, -⟩ := H1.out.1
    obtain ⟨z0, z1, z2, q0, q1, q2, hg1⟩ := H1.out.2.1
    obtain ⟨f0, f1, f2, f3, f4, f5, f6, f7, f8, l0⟩ := H1.out.2.2.1.nine
    have p0 := (H1.out.2.2.1.2 0 (by omega)).2
    have p1 := (H1.out.2.2.1.2 1 (by omega)).2
    have p2 := (H1.out.2.2.1.2 2 (by omega)).2
    have p3 := (H1.out.2.2.1.2 3 (by omega)).2
    have p4 := (H1.out.2.2.1.2 4 (by omega)).2
    have p5 := (H1.out.2.2.1.2 5 (by omega)).2
    have p6 := (H1.out.2.2.1.2 6 (by omega)).2
    have p7 := (H1.out.2.2.1.2 7 (by omega)).2
    have p8 := (H1.out.2.2.1.2 8 (by omega)).2
    go_wp2_with fail
    refine (CN.out _ _).mono ?_
    rintro e w2 ⟨s1, rfl, hs1, hb2⟩
    have H2 := Lib.hid (H1.out.keep hb2)
    clear hb2
    unfold noTxt at hs1
    clear f0 f1 f2 f3 f4 f5 f6 f7 f8 l0 p0 p1 p2 p3 p4 p5 p6 p7 p8 z0 z1 z2 q0 q1 q2 hg1 r0 r1
    obtain ⟨r0, r1, -⟩ := H2.out.1
    obtain ⟨z0, z1, z2, q0, q1, q2, hg1⟩ := H2.out.2.1
    obtain ⟨f0, f1, f2, f3, f4, f5, f6, f7, f8, l0⟩ := H2.out.2.2.1.nine
    have p0 := (H2.out.2.2.1.2 0 (by omega)).2
    have p1 := (H2.out.2.2.1.2 1 (by omega)).2
    have p2 := (H2.out.2.2.1.2 2 (by omega)).2
    have p3 := (H2.out.2.2.1.2 3 (by omega)).2
    have p4 := (H2.out.2.2.1.2 4 (by omega)).2
    have p5 := (H2.out.2.2.1.2 5 (by omega)).2
    have p6 := (H2.out.2.2.1.2 6 (by omega)).2
    have p7 := (H2.out.2.2.1.2 7 (by omega)).2
    have p8 := (H2.out.2.2.1.2 8 (by omega)).2
    replace hs1 : (s1.toList == []) = false := by rw [hk] at hs1; exact hs1
    go_wp2_with fail
    refine (CT.out _ H2.out.1).mono ?_
    rintro e w3 ⟨rfl, rfl⟩
    go_wp2_with fail
    refine (CW.out _ _ _).mono ?_
    rintro e w7 ⟨rfl, hb7⟩
    have H7 := Lib.hid (H2.out.keep hb7)
    clear hb7
    clear f0 f1 f2 f3 f4 f5 f6 f7 f8 l0 p0 p1 p2 p3 p4 p5 p6 p7 p8 z0 z1 z2 q0 q1 q2 hg1 r0 r1
    obtain ⟨r0, r1, -⟩ := H7.out.1
    obtain ⟨z0, z1, z2, q0, q1, q2, hg1⟩ := H7.out.2.1
    obtain ⟨f0, f1, f2, f3, f4, f5, f6, f7, f8, l0⟩ := H7.out.2.2.1.nine
    have p0 := (H7.out.2.2.1.2 0 (by omega)).2
    have p1 := (H7.out.2.2.1.2 1 (by omega)).2
    have p2 := (H7.out.2.2.1.2 2 (by omega)).2
    have p3 := (H7.out.2.2.1.2 3 (by omega)).2
    have p4 := (H7.out.2.2.1.2 4 (by omega)).2
    have p5 := (H7.out.2.2.1.2 5 (by omega)).2
    have p6 := (H7.out.2.2.1.2 6 (by omega)).2
    have p7 := (H7.out.2.2.1.2 7 (by omega)).2
    have p8 := (H7.out.2.2.1.2 8 (by omega)).2
    go_wp2_with fail
    simp only [JumpTo]
    refine bodyPost_ret (v := .tuple #[.slice none 0 0, .int .i64 0, fltV (E) (at' + 1)]) (by simp [results, Try.results35, go_sem, *]) rfl ?_
    refine ⟨_, HX.out, rfl, ?_⟩
    have hfin := H7.out.2.2.2.2.1
    (repeat' (first | with_reducible exact hfin | with_reducible refine Below.setCell ?_ (by first | exact Nat.le_of_eq gw | exact Nat.le_trans (Nat.le_of_eq gw) (Nat.le_succ _)) _))

end Go.Proofs.Ytkcfkdmffbhljaa
