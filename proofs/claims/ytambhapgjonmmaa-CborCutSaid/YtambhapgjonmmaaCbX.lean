/- cbor.row, walked; what reading answers. -/
import Derived.Test.YtambhapgjonmmaaCbV
import Derived.Test.YtambhapgjonmmaaCbT
import Derived.Test.YtambhapgjonmmaaUtf9
import Derived.BigQuiet
import Derived.Deep.RegionHeld3
namespace Go.Proofs.Ytambhapgjonmmaa
open Go.RowKit
set_option linter.unusedVariables false
set_option linter.unusedSimpArgs false

/-- What reading answers. -/
def ReadO (w : World) (r : Nat) (bs : List UInt8) (R : Rs I) (e : Ending) (w' : World) : Prop := Chg (fun k => k = r) w w' ∧ match R with
  | .error (x, a) => e = .returned (.tuple #[zIt, fltV x a])
  | .ok (x, q) => ∃ c, e = .returned (.tuple #[.agg c, fltV 0 0]) ∧ RdIt (fun k => w.heap.size ≤ k) w' x c ∧ Rdr w' r bs q ∧ w'.cell? ⟨r, 0, none⟩ = w.cell? ⟨r, 0, none⟩

theorem rtake_any (r p : Nat) (bs : List UInt8) (w : World) (h : Rdr w r bs p) (n : Nat) (hn : p + n ≤ bs.length) :
    Calls Try.prog 57 #[.pointer (some ⟨r, 0, none⟩), .int .i64 n] w (TakePost w r bs p n) := by
  by_cases h1 : 1 ≤ n
  · exact rtake_yes r p bs w h n h1 hn
  · obtain rfl : n = 0 := by omega
    exact rtake_zero r p bs w h

theorem read_err {w w' : World} {r : Nat} {bs : List UInt8} {x a : Nat} (h : Chg (fun k => k = r) w w') : ReadO w r bs (.error (x, a)) (.returned (.tuple #[zIt, fltV x a])) w' := ⟨h, rfl⟩

/-- The boxes of the results, and how long they are. -/
def RBz (w : World) (g h : Nat) : Prop := RBx w g h ∧ (∀ i, 5 ≤ i → w.cell? ⟨g, i, none⟩ = none) ∧ (∀ i, 3 ≤ i → w.cell? ⟨h, i, none⟩ = none)
theorem RBz.chg {S : Nat → Prop} {w w' : World} {g h : Nat} (hc : Chg S w w') (hg : ¬ S g) (hh : ¬ S h) (b : RBz w g h) : RBz w' g h := by
  have hl : g < w.heap.size := by simpa using cell_block b.1.1.1
  have hm : h < w.heap.size := by simpa using cell_block b.1.2.2.1.1
  refine ⟨b.1.chg hc hg hh, fun i hi => ?_, fun i hi => ?_⟩
  · exact (World.cell?_of_block (w := w) (hc.block g hl hg)).trans (b.2.1 i hi)
  · exact (World.cell?_of_block (w := w) (hc.block h hm hh)).trans (b.2.2 i hi)
theorem RBz.keep {w w' : World} {g h : Nat} (b : RBz w g h) (hb : Below w.heap.size w w') : RBz w' g h := b.chg (S := fun _ => False) (Chg.of_below hb) (fun h => h) (fun h => h)
theorem RBz.new (w : World) (t u : TypeId) : RBz ((w.alloc (.cells #[.int .i64 0, .int .u64 0, .slice none 0 0, .string ⟨#[]⟩, .slice none 0 0] t)).alloc (.cells #[.int .i64 0, .int .i64 0, .slice none 0 0] u)) w.heap.size (w.heap.size + 1) := by
  refine ⟨RBx.new w t u, fun i hi => ?_, fun i hi => ?_⟩
  · simp [go_sem]; omega
  · simp [go_sem]; omega
/-- A reader's bytes are in no such box. -/
theorem Rdr.boxes {w w' : World} {r g h : Nat} {bs : List UInt8} {p : Nat} (hr : Rdr w r bs p) (b : RBz w g h) (hc : Chg (fun k => k = g ∨ k = h) w w') (hg : r ≠ g) (hh : r ≠ h) : Rdr w' r bs p := by
  obtain ⟨a, cap, h1, h2, h3, h4, h5⟩ := hr
  have hrl : r < w.heap.size := by simpa using cell_block h1
  have hn : ¬ (r = g ∨ r = h) := by omega
  refine ⟨a, cap, hc.cell hn h1, hc.cell hn h2, by rw [hc.frozen (p := ⟨r, 1, none⟩) hn hrl]; exact h3, ?_, h5⟩
  by_cases h0 : bs.length = 0
  · exact ⟨h4.1, h4.2.1, fun i hi => by omega⟩
  · obtain ⟨bb, o, ha, hcell⟩ := h4.at 0 (by omega)
    refine h4.chg hc ?_
    intro x hx
    rw [ha] at hx
    obtain rfl := Option.some.inj hx
    rw [Nat.add_zero] at hcell
    obtain ⟨⟨⟨c0, c1, c2, c3, c4⟩, -, ⟨d0, d1, d2⟩, -⟩, z1, z2⟩ := b
    simp only
    rintro (rfl | rfl)
    · have : o = 0 ∨ o = 1 ∨ o = 2 ∨ o = 3 ∨ o = 4 ∨ 5 ≤ o := by omega
      rcases this with rfl | rfl | rfl | rfl | rfl | ho
      · rw [c0] at hcell; simp at hcell
      · rw [c1] at hcell; simp at hcell
      · rw [c2] at hcell; simp at hcell
      · rw [c3] at hcell; simp at hcell
      · rw [c4] at hcell; simp at hcell
      · rw [z1 o ho] at hcell; simp at hcell
    · have : o = 0 ∨ o = 1 ∨ o = 2 ∨ 3 ≤ o := by omega
      rcases this with rfl | rfl | rfl | ho
      · rw [d0] at hcell; simp at hcell
      · rw [d1] at hcell; simp at hcell
      · rw [d2] at hcell; simp at hcell
      · rw [z2 o ho] at hcell; simp at hcell
/-- The end of a function that tells an item. -/
theorem read_fin {w W W' : World} {r g h : Nat} {bs : List UInt8} {x : I} {q : Nat} {c : Array Value} (hb : RBz W g h) (hrd : RdIt (fun k => w.heap.size + 2 ≤ k) W x c) (hR : Rdr W r bs q) (hcw : Chg (fun k => k = r) w W)
    (hX : Chg (fun k => k = g ∨ k = h) W W') (hg : g = w.heap.size) (hh : h = w.heap.size + 1) (hr : r < w.heap.size) (he : W.cell? ⟨r, 0, none⟩ = w.cell? ⟨r, 0, none⟩) : ReadO w r bs (.ok (x, q)) (.returned (.tuple #[.agg c, fltV 0 0])) W' := by
  have hn : ¬ (r = g ∨ r = h) := by omega
  refine ⟨hcw.trans hX fun i hi h => by omega, c, rfl, ?_, hR.boxes hb hX (by omega) (by omega), by
    obtain ⟨a, cap, h1, -⟩ := hR
    rw [← he, h1]; exact hX.cell hn h1⟩
  exact (hrd.keep (KeepS.chg hX fun k hk h => by omega)).imp fun k _ hk => by omega
theorem bytes_it {W : World} {B : Nat} {a : Option Addr} {n cap : Nat} {l : List UInt8} (ho : OwnB W B (.slice a n cap) l) (hn : n ≤ 1000000) : RdIt (fun k => B ≤ k) W (.mk 3 0 l ⟨#[]⟩ .nil) #[.int .i64 3, .int .u64 0, .slice a n cap, .string ⟨#[]⟩, .slice none 0 0] := by
  obtain ⟨a', c', e, hr⟩ := ho.reads
  simp only [Value.slice.injEq] at e
  obtain ⟨rfl, rfl, rfl⟩ := e
  refine ⟨a, _, cap, none, 0, 0, rfl, ⟨by omega, by unfold okSize; omega, by decide⟩, ⟨hr, fun h0 p hp => ?_⟩, rfl, ⟨by omega, ⟨fun _ => rfl, by omega⟩, ?_⟩, trivial⟩
  · subst hp
    obtain ⟨b, o, ha, _⟩ := hr.at 0 h0
    obtain rfl := Option.some.inj ha
    exact (owns_lt ho b rfl).1
  · rcases ho.2 with ⟨e, h0⟩ | ⟨g, cp, cur, e, _, _, hn, _⟩
    · simp only [Value.slice.injEq] at e
      exact ⟨fun _ => e.2.2, by omega⟩
    · simp only [Value.slice.injEq] at e
      obtain ⟨rfl, -, rfl⟩ := e
      exact ⟨by simp, hn⟩
theorem num_it (W : World) (S : Nat → Prop) (k : Int) (hk : 0 ≤ k ∧ k ≤ 100) (n : Nat) (hn : n < okSize) (t : ByteArray) (ht : t.size ≤ 1000000) : RdIt S W (.mk k n [] t .nil) #[.int .i64 k, .int .u64 (n : Nat), .slice none 0 0, .string t, .slice none 0 0] :=
  ⟨none, 0, 0, none, 0, 0, rfl, ⟨by omega, hn, by omega⟩, ⟨RdB.nil _ _, fun h => absurd h (by omega)⟩, rfl, ⟨by omega, ⟨fun _ => rfl, by omega⟩, ⟨fun _ => rfl, by omega⟩⟩, trivial⟩

set_option maxRecDepth 100000 in
set_option maxHeartbeats 8000000 in
theorem row_calls (r p q m n : Nat) (bs : List UInt8) (w : World) (h : Rdr w r bs q) (hl9 : bs.length ≤ 1000000) (hlt : r < w.heap.size) (hm : m = 2 ∨ m = 3) (hn : n < okSize) (R : Rs I) (hR : R = rowQ bs p q m n) :
    Calls Try.prog 49 #[.pointer (some ⟨r, 0, none⟩), .int .i64 p, .int .i64 m, .int .u64 n] w (ReadO w r bs R) := by
  obtain ⟨wa, hwa⟩ : ∃ W, W = (w.alloc (.cells #[.int .i64 0, .int .u64 0, .slice none 0 0, .string ⟨#[]⟩, .slice none 0 0] 26)).alloc (.cells #[.int .i64 0, .int .i64 0, .slice none 0 0] 35) := ⟨_, rfl⟩
  have hba : Below w.heap.size w wa := by
    rw [hwa]
    exact ((Below.refl _ _).alloc (Nat.le_refl _) _).alloc (by simp) _
  have hbx : RBz wa w.heap.size (w.heap.size + 1) := by rw [hwa]; exact RBz.new _ _ _
  have hz : wa.heap.size = w.heap.size + 2 := by rw [hwa]; simp
  have hqb : q ≤ bs.length := by obtain ⟨_, _, _, _, _, _, _, _, h7, _⟩ := h; exact h7
  have HX := Lib.hid hbx
  have HZ := Lib.hid hz
  have HRD := Lib.hid (h.keep hba)
  have HL := Lib.hid (rleft_calls r q bs wa (h.keep hba))
  have CW := Lib.hid (fun e W => wrong28 e p W)
  have HBA := Lib.hid hba
  have HLT := Lib.hid hlt
  obtain ⟨Lf, hLf⟩ : ∃ L, L = bs.length - q := ⟨_, rfl⟩
  have wl : IntKind.u64.wrap ((bs.length : Int) - (q : Int)) = (Lf : Int) := (IntWalk.u64_in _ (by omega)).trans (by omega)
  clear h hba hbx hlt hz
  by_cases hgt : Lf < n
  · have HR : Hid (R = .error (2, p)) := by show _ = _; rw [hR]; unfold rowQ; rw [if_pos (by omega)]
    have g1 : decide ((Lf : Int) < (n : Int)) = true := by simp; omega
    have g2 : decide (Lf < n) = true := by simp; omega
    clear hR hLf
    generalize (bs.length : Int) - (q : Int) = Z at HL wl
    go_enter Try.func49, Try.ntmps49
    go_upto_region 1 with fail
    rw [← hwa]
    clear hwa
    go_wp2_with fail
    refine HL.out.mono ?_
    rintro e w1 ⟨rfl, nq, rfl⟩
    have HC1 : Hid (Chg (fun k => k = r) wa (wa.drewN nq)) := Chg.of_below (below_drewN wa nq wa.heap.size)
    go_wp2_with fail
    refine (CW.out 2 _).mono ?_
    rintro e w9 ⟨rfl, hb9⟩
    have HC9 : Hid (Chg (fun k => k = r) wa w9) := HC1.out.trans (Chg.of_below (S := fun _ => False) hb9) fun _ _ h => h.elim
    obtain ⟨⟨⟨h0, h1, h2, h3, h4⟩, ⟨f0, f1, f2, f3, f4⟩, ⟨k0, k1, k2⟩, ⟨l0, l1, l2⟩⟩, -⟩ := HX.out.chg HC9.out (by have := HLT.out; omega) (by have := HLT.out; omega)
    clear hb9
    (repeat (first | go_values | go_skip | go_guarded | go_step | go_upon | (go_simp; go_at_K)))
    refine bodyPost_ret (v := .tuple #[zIt, fltV 2 p]) (by simp [results, Try.results49, go_sem, *]) rfl ?_
    rw [HR.out]
    refine read_err ?_
    have HL9 := HLT.out
    have HCW : Chg (fun k => k = r) w w9 := (Chg.of_below (S := fun k => k = r) HBA.out).trans HC9.out fun _ _ h => h
    (repeat' (first | with_reducible exact HCW | with_reducible apply Chg.drew | with_reducible refine Chg.alloc ?_ _ | with_reducible refine Chg.setCell ?_ (fun h => ?_) _))
    all_goals (dsimp only at h; omega)
  have hqn : q + n ≤ bs.length := by omega
  have g1 : decide ((Lf : Int) < (n : Int)) = false := by simp; omega
  have g2 : decide (Lf < n) = false := by simp; omega
  have wn : IntKind.i64.wrap (n : Int) = (n : Int) := IntWalk.i64_in _ (by omega)
  have CT := Lib.hid (fun W (h : Rdr W r bs q) => rtake_any r q bs W h n hqn)
  have hn9 : n ≤ 1000000 := by omega
  have HR0 : Hid (R = if m = 2 then .ok (.mk 3 0 (seg bs q n) ⟨#[]⟩ .nil, q + n) else if (wholeTo (seg bs q n) == n) = false then .error (4, p) else .ok (.mk 4 0 [] (txt (seg bs q n)) .nil, q + n)) := by
    show _ = _
    rw [hR]; unfold rowQ; rw [if_neg (by omega)]
  obtain ⟨L, hL⟩ : ∃ L, L = seg bs q n := ⟨_, rfl⟩
  have HLN : Hid (L.length = n) := by show _ = _; rw [hL]; exact seg_length _ _ _ hqn
  clear hR hLf hgt
  generalize (bs.length : Int) - (q : Int) = Z at HL wl
  rcases hm with rfl | rfl
  · have HR : Hid (R = .ok (.mk 3 0 L ⟨#[]⟩ .nil, q + n)) := by show _ = _; rw [HR0.out, if_pos rfl, hL]
    clear HR0
    go_enter Try.func49, Try.ntmps49
    go_upto_region 1 with fail
    rw [← hwa]
    clear hwa
    go_wp2_with fail
    refine HL.out.mono ?_
    rintro e w1 ⟨rfl, nq, rfl⟩
    have HC1 : Hid (Chg (fun k => k = r) wa (wa.drewN nq)) := Chg.of_below (below_drewN wa nq wa.heap.size)
    go_wp2_with fail
    refine (CT.out _ (HRD.out.keep (below_drewN wa nq wa.heap.size))).mono ?_
    rintro e w2 ⟨v, rfl, ho, hr2, hc2⟩
    have HO : Hid (OwnB w2 (w.heap.size + 2) v L) := by show OwnB _ _ _ _; rw [hL]; exact ho.weaken (by show _ ≤ (wa.drewN nq).heap.size; have := HZ.out; simp [World.drewN]; omega)
    have HR2 := Lib.hid hr2
    have HC2 : Hid (Chg (fun k => k = r) wa w2) := HC1.out.trans hc2.2.1 fun _ _ h => h
    have HCE : Hid (w2.cell? ⟨r, 0, none⟩ = w.cell? ⟨r, 0, none⟩) := hc2.2.2.trans ((cell_eq_below (below_drewN wa nq wa.heap.size) (Nat.lt_of_lt_of_le HLT.out HBA.out.size)).trans (cell_eq_below HBA.out HLT.out))
    obtain ⟨a, cap, rfl, hrb⟩ := HO.out.reads
    rw [HLN.out] at HO hrb ⊢
    have HRB := Lib.hid hrb
    clear ho hr2 hc2 hrb CT HL
    clear hL
    obtain ⟨⟨⟨h0, h1, h2, h3, h4⟩, ⟨f0, f1, f2, f3, f4⟩, ⟨k0, k1, k2⟩, ⟨l0, l1, l2⟩⟩, -⟩ := HX.out.chg HC2.out (by have := HLT.out; omega) (by have := HLT.out; omega)
    (repeat (first | go_values | go_skip | go_guarded | go_step | go_upon | (go_simp; go_at_K)))
    refine bodyPost_ret (v := .tuple #[.agg #[.int .i64 3, .int .u64 0, .slice a n cap, .string ⟨#[]⟩, .slice none 0 0], fltV 0 0]) (by simp [results, Try.results49, go_sem, *]) rfl ?_
    rw [HR.out]
    refine read_fin (W := w2) (HX.out.chg HC2.out (by have := HLT.out; omega) (by have := HLT.out; omega)) ?_ HR2.out ((Chg.of_below (S := fun k => k = r) HBA.out).trans HC2.out fun _ _ h => h) ?_ rfl rfl HLT.out HCE.out
    case refine_1 => exact bytes_it HO.out hn9
    (repeat' (first | with_reducible exact Chg.refl _ _ | with_reducible apply Chg.drew | with_reducible refine Chg.alloc ?_ _ | with_reducible refine Chg.setCell ?_ (fun h => ?_) _))
    all_goals (dsimp only; omega)
  · go_enter Try.func49, Try.ntmps49
    go_upto_region 1 with fail
    rw [← hwa]
    clear hwa
    go_wp2_with fail
    refine HL.out.mono ?_
    rintro e w1 ⟨rfl, nq, rfl⟩
    have HC1 : Hid (Chg (fun k => k = r) wa (wa.drewN nq)) := Chg.of_below (below_drewN wa nq wa.heap.size)
    go_wp2_with fail
    refine (CT.out _ (HRD.out.keep (below_drewN wa nq wa.heap.size))).mono ?_
    rintro e w2 ⟨v, rfl, ho, hr2, hc2⟩
    have HO : Hid (OwnB w2 (w.heap.size + 2) v L) := by show OwnB _ _ _ _; rw [hL]; exact ho.weaken (by show _ ≤ (wa.drewN nq).heap.size; have := HZ.out; simp [World.drewN]; omega)
    have HR2 := Lib.hid hr2
    have HC2 : Hid (Chg (fun k => k = r) wa w2) := HC1.out.trans hc2.2.1 fun _ _ h => h
    have HCE : Hid (w2.cell? ⟨r, 0, none⟩ = w.cell? ⟨r, 0, none⟩) := hc2.2.2.trans ((cell_eq_below (below_drewN wa nq wa.heap.size) (Nat.lt_of_lt_of_le HLT.out HBA.out.size)).trans (cell_eq_below HBA.out HLT.out))
    obtain ⟨a, cap, rfl, hrb⟩ := HO.out.reads
    rw [HLN.out] at HO hrb ⊢
    have HRB := Lib.hid hrb
    clear ho hr2 hc2 hrb CT HL
    have CC := Lib.hid (check_calls a n cap w2 L HRB.out)
    have HQ : Hid (R = if (wholeTo L == n) = false then .error (4, p) else .ok (.mk 4 0 [] (txt L) .nil, q + n)) := by show _ = _; rw [HR0.out, if_neg (by omega), hL]
    generalize wholeTo L = wt at CC HQ
    clear hL HR0
    go_wp2_with fail
    refine CC.out.mono ?_
    rintro e w3 ⟨rfl, rfl⟩
    cases hw : (wt == n) with
    | false =>
      have HR : Hid (R = .error (4, p)) := by show _ = _; rw [HQ.out, if_pos hw]
      clear CC hw
      go_wp2_with fail
      refine (CW.out 4 _).mono ?_
      rintro e w9 ⟨rfl, hb9⟩
      have HC9 : Hid (Chg (fun k => k = r) wa w9) := HC2.out.trans (Chg.of_below (S := fun _ => False) hb9) fun _ _ h => h.elim
      obtain ⟨⟨⟨h0, h1, h2, h3, h4⟩, ⟨f0, f1, f2, f3, f4⟩, ⟨k0, k1, k2⟩, ⟨l0, l1, l2⟩⟩, -⟩ := HX.out.chg HC9.out (by have := HLT.out; omega) (by have := HLT.out; omega)
      clear hb9
      (repeat (first | go_values | go_skip | go_guarded | go_step | go_upon | (go_simp; go_at_K)))
      refine bodyPost_ret (v := .tuple #[zIt, fltV 4 p]) (by simp [results, Try.results49, go_sem, *]) rfl ?_
      rw [HR.out]
      refine read_err ?_
      have HL9 := HLT.out
      have HCW : Chg (fun k => k = r) w w9 := (Chg.of_below (S := fun k => k = r) HBA.out).trans HC9.out fun _ _ h => h
      (repeat' (first | with_reducible exact HCW | with_reducible apply Chg.drew | with_reducible refine Chg.alloc ?_ _ | with_reducible refine Chg.setCell ?_ (fun h => ?_) _))
      all_goals (dsimp only at h; omega)
    | true =>
      have HR : Hid (R = .ok (.mk 4 0 [] (txt L) .nil, q + n)) := by show _ = _; rw [HQ.out, if_neg (by rw [hw]; simp)]
      have hcv := conv_str HRB.out cap
      have hts : (txt L).size ≤ 1000000 := by rw [← sl_len, sl_txt, HLN.out]; exact hn9
      have HNM := Lib.hid (num_it w2 (fun k => w.heap.size + 2 ≤ k) 4 (by omega) 0 (by decide) (txt L) hts)
      generalize txt L = T at hcv HR HNM
      clear CC hw hts
      obtain ⟨⟨⟨h0, h1, h2, h3, h4⟩, ⟨f0, f1, f2, f3, f4⟩, ⟨k0, k1, k2⟩, ⟨l0, l1, l2⟩⟩, -⟩ := HX.out.chg HC2.out (by have := HLT.out; omega) (by have := HLT.out; omega)
      (repeat (first | go_values | go_skip | go_guarded | go_step | go_upon | (go_simp; go_at_K)))
      refine bodyPost_ret (v := .tuple #[.agg #[.int .i64 4, .int .u64 0, .slice none 0 0, .string T, .slice none 0 0], fltV 0 0]) (by simp [results, Try.results49, go_sem, *]) rfl ?_
      rw [HR.out]
      refine read_fin (W := w2) (HX.out.chg HC2.out (by have := HLT.out; omega) (by have := HLT.out; omega)) ?_ HR2.out ((Chg.of_below (S := fun k => k = r) HBA.out).trans HC2.out fun _ _ h => h) ?_ rfl rfl HLT.out HCE.out
      case refine_1 => exact HNM.out
      (repeat' (first | with_reducible exact Chg.refl _ _ | with_reducible apply Chg.drew | with_reducible refine Chg.alloc ?_ _ | with_reducible refine Chg.setCell ?_ (fun h => ?_) _))
      all_goals (dsimp only; omega)

end Go.Proofs.Ytambhapgjonmmaa
