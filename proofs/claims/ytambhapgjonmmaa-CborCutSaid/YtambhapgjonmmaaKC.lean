/- The law's awake (chapter 28). The law's awake (chapter 28); items that are a number. -/
import Derived.Test.YtambhapgjonmmaaCbA
import Derived.BigQuiet
import Derived.Deep.RegionHeld3
import Derived.Test.YtambhapgjonmmaaStr
namespace Go.Proofs.Ytambhapgjonmmaa
open Go.RowKit
set_option linter.unusedVariables false
set_option linter.unusedSimpArgs false

theorem cell_dr {W : World} {p : Addr} {v : Value} (h : W.cell? p = some v) : W.drew.cell? p = some v := h
theorem cell_setN {W : World} {p q : Addr} {u v : Value} (h : W.cell? p = some v) (hn : ¬ (p.block = q.block)) : (W.setCell q u).cell? p = some v := by
  rw [World.cell?_setCell_other _ _ _ _ (by intro e; exact hn (by rw [e]))]; exact h
set_option maxRecDepth 100000 in
set_option maxHeartbeats 4000000 in
theorem read_one (r : Nat) (w : World) (h : Rdr w r [24, 23] 0) (hlt : r < w.heap.size) :
    Calls Try.prog 31 #[.pointer (some ⟨r, 0, none⟩), .int .i64 5] w fun e w' => e = .returned (.tuple #[zIt, fltV 3 0]) ∧ Chg (fun k => k = r) w w' := by
  obtain ⟨wa, hwa⟩ : ∃ W, W = (w.alloc (.cells #[.int .i64 0, .int .u64 0, .slice none 0 0, .string ⟨#[]⟩, .slice none 0 0] 26)).alloc (.cells #[.int .i64 0, .int .i64 0, .slice none 0 0] 35) := ⟨_, rfl⟩
  have hba : Below w.heap.size w wa := by
    rw [hwa]
    exact ((Below.refl _ _).alloc (Nat.le_refl _) _).alloc (by simp) _
  have hbx : RBx wa w.heap.size (w.heap.size + 1) := by rw [hwa]; exact RBx.new _ _ _
  have HX := Lib.hid hbx
  have HA := Lib.hid (rat_calls r 0 [24, 23] wa (h.keep hba))
  have HB := Lib.hid (rbyte_yes r 0 [24, 23] wa (h.keep hba) (by simp))
  have HN := Lib.hid (fun W (hr : Rdr W r [24, 23] 1) => num28_yes r 1 [24, 23] 24 (by omega) (by omega) W hr (by simp [wideB]))
  have CN := Lib.hid (need_calls 23)
  have CW := Lib.hid (wrong28 3 0)
  have HBA := Lib.hid hba
  have HLT := Lib.hid hlt
  clear h hba hbx hlt
  go_enter Try.func31, Try.ntmps31
  go_wp2_with fail
  rw [← hwa]
  clear hwa
  refine HA.out.mono ?_
  rintro e w1 ⟨rfl, rfl⟩
  go_wp2_with fail
  refine HB.out.mono ?_
  rintro e w1 ⟨rfl, hr1, hc1⟩
  have HR1 := Lib.hid hr1
  have HC1 := Lib.hid hc1.2.1
  clear hr1 hc1 HA HB
  simp only [show bAt [24, 23] 0 = 24 from rfl]
  go_wp2_with fail
  refine (HN.out _ HR1.out).mono ?_
  rintro e w2 ⟨rfl, hr2, hc2⟩
  have HR2 := Lib.hid hr2
  have HC2 := Lib.hid hc2.2.1
  clear hr2 hc2
  simp only [show be (seg [24, 23] 1 (wideB 24)) = 23 from rfl]
  go_wp2_with fail
  go_quiet ((go_at_call 48; refine Calls.quiet_of_same ((CN.out _).mono fun e w' h => ⟨h.1, h.2.symm⟩)))
  simp only [show needN 23 = 0 from rfl]
  go_wp2_with fail
  refine (CW.out _).mono ?_
  rintro e w3 ⟨rfl, hb3⟩
  have HC3 : Hid (Chg (fun k => k = r) w w3) :=
    ((Chg.of_below (S := fun k => k = r) HBA.out).trans HC1.out fun _ _ h => h).trans (HC2.out.trans (Chg.of_below (S := fun k => k = r) ((below_drewN _ _ _).trans (hb3.mono (below_drewN w2 _ w2.heap.size).size))) fun _ _ h => h) fun _ _ h => h
  have hz : w.heap.size + 2 ≤ wa.heap.size := by have := cell_block HX.out.2.2.1.1; simp at this; omega
  obtain ⟨⟨h0, h1, h2, h3, h4⟩, ⟨f0, f1, f2, f3, f4⟩, ⟨k0, k1, k2⟩, ⟨l0, l1, l2⟩⟩ := ((((HX.out.chg HC1.out (by have := HLT.out; omega) (by have := HLT.out; omega)).chg HC2.out (by have := HLT.out; omega) (by have := HLT.out; omega)).keep (below_drewN w2 _ _)).keep hb3)
  clear hb3 hz
  (repeat (first | go_values | go_skip | go_guarded | go_step | go_upon | (go_simp; go_at_K)))
  refine bodyPost_ret (v := .tuple #[zIt, fltV 3 0]) (by simp [results, Try.results31, go_sem, *]) rfl ?_
  refine ⟨rfl, ?_⟩
  have HL := HLT.out
  (repeat' (first | with_reducible exact HC3.out | with_reducible apply Chg.drew | with_reducible refine Chg.alloc ?_ _ | with_reducible refine Chg.setCell ?_ (fun h => ?_) _))
  all_goals (simp only [] at h; omega)

set_option maxRecDepth 100000 in
set_option maxHeartbeats 4000000 in
/-- Decode, where reading tells an error. -/
theorem decode_err28 (a : Option Addr) (n cap : Nat) (l : List UInt8) (w : World) (h : RdB w a n l) (hc : a = none → cap = 0) (hn : n ≤ 1000000) (dep x p : Nat) (hd : dep ≤ 1000) (hx : x ≠ 0)
    (C : ∀ r W, Rdr W r l 0 → r < W.heap.size → Calls Try.prog 31 #[.pointer (some ⟨r, 0, none⟩), .int .i64 dep] W fun e w' => e = .returned (.tuple #[zIt, fltV x p]) ∧ Chg (fun k => k = r) W w') :
    Calls Try.prog 15 #[.slice a n cap, .int .i64 dep] w fun e w' => e = .returned (.tuple #[zIt, fltV x p]) ∧ Below w.heap.size w w' := by
  obtain ⟨wa, hwa⟩ : ∃ W, W = (w.alloc (.cells #[.int .i64 0, .int .u64 0, .slice none 0 0, .string ⟨#[]⟩, .slice none 0 0] 26)).alloc (.cells #[.int .i64 0, .int .i64 0, .slice none 0 0] 35) := ⟨_, rfl⟩
  have hba : Below w.heap.size w wa := by
    rw [hwa]
    exact ((Below.refl _ _).alloc (Nat.le_refl _) _).alloc (by simp) _
  have hbx : RBx wa w.heap.size (w.heap.size + 1) := by rw [hwa]; exact RBx.new _ _ _
  have hz : w.heap.size + 2 ≤ wa.heap.size := by rw [hwa]; simp
  have HX := Lib.hid hbx
  have HN := Lib.hid (new_calls a n cap l wa (h.keep hba) hc (by omega))
  have CR := Lib.hid C
  have HBA := Lib.hid hba
  have HZ := Lib.hid hz
  have c1 : decide ((dep : Int) < 0) = false := by simp
  have c2 : decide ((1000 : Int) < (dep : Int)) = false := by simp; omega
  have b2 : ((x : Int) != 0) = true := by simp; omega
  clear h hba hbx C hz hx hd
  go_enter Try.func15, Try.ntmps15
  go_upto_region 1 with fail
  rw [← hwa]
  clear hwa
  go_wp2_with fail
  refine HN.out.mono ?_
  rintro e w1 ⟨r, rfl, hr, hb1, hr1⟩
  have hrl : r < w1.heap.size := by
    obtain ⟨_, _, hq, _⟩ := hr
    simpa using cell_block hq
  have HR := Lib.hid hr
  have HRL := Lib.hid hrl
  have HB1 := Lib.hid hb1
  have HR1 := Lib.hid hr1
  clear hr hb1 hrl hr1 HN
  go_wp2_with fail
  refine (CR.out r _ HR.out HRL.out).mono ?_
  rintro e w2 ⟨rfl, hc2⟩
  have hz2 : w.heap.size + 2 ≤ w2.heap.size := by have := hc2.size; have := HB1.out.size; have := HZ.out; omega
  have HC2 : Hid (Below w.heap.size w w2) := by
    have h0 : Chg (fun k => w.heap.size ≤ k) w w2 := Chg.trans (Chg.of_below (HBA.out.trans (HB1.out.mono (by have := HZ.out; omega)))) hc2 (fun i hi e => by have := HR1.out; have := HZ.out; have := HBA.out.size; omega)
    exact h0.below (Nat.le_refl _) (fun i h => h)
  have HX2 := Lib.hid ((HX.out.keep HB1.out).chg hc2 (by have := HR1.out; have := HZ.out; omega) (by have := HR1.out; have := HZ.out; omega))
  clear hc2 CR HX
  obtain ⟨g7, hg7⟩ : ∃ g, g = w2.heap.size := ⟨_, rfl⟩
  have HG := Lib.hid hg7
  obtain ⟨⟨h0, h1, h2, h3, h4⟩, ⟨f0, f1, f2, f3, f4⟩, ⟨k0, k1, k2⟩, ⟨l0, l1, l2⟩⟩ := HX2.out
  rw [hg7.symm] at hz2
  have q0 : w.heap.size < w2.heap.size := by omega
  have q1 : w.heap.size + 1 < w2.heap.size := by omega
  have n0 : ¬ w.heap.size = g7 := by omega
  have m0 : ¬ g7 = w.heap.size := by omega
  have n1 : ¬ w.heap.size = g7 + 1 := by omega
  have m1 : ¬ g7 + 1 = w.heap.size := by omega
  have n2 : ¬ w.heap.size + 1 = g7 := by omega
  have m2 : ¬ g7 = w.heap.size + 1 := by omega
  have n3 : ¬ w.heap.size + 1 = g7 + 1 := by omega
  have m3 : ¬ g7 + 1 = w.heap.size + 1 := by omega
  clear hg7
  go_wp2_with fail
  rw [← HG.out]
  go_region_held3 (fun W => W.cell? ⟨g7 + 1, 0, none⟩ = some (.int .i64 (x : Nat)) ∧ W.cell? ⟨g7 + 1, 1, none⟩ = some (.int .i64 (p : Nat)) ∧ W.cell? ⟨g7 + 1, 2, none⟩ = some (.slice none 0 0)) (first | (simp [go_sem, HG.out, *]; done) | ((with_reducible refine ⟨?_, ?_, ?_⟩) <;> (repeat' (first | (with_reducible apply cell_dr) | (with_reducible refine cell_setN ?_ (by simp only []; omega)) | (simp [go_sem, HG.out]; done)))) | go_keep) (fail)
  all_goals
    (repeat (first | go_values | go_skip | go_guarded | go_step | go_upon | (go_simp; go_at_K)))
    refine bodyPost_ret (v := .tuple #[zIt, fltV x p]) (by simp [results, Try.results15, go_sem, *]) rfl ?_
    refine ⟨rfl, ?_⟩
    (repeat' (first | with_reducible exact HC2.out | with_reducible apply Below.drew | with_reducible refine Below.alloc ?_ (by first | omega | (simp; done) | (simp; omega)) _ | with_reducible refine Below.setCell ?_ (by first | omega | (simp only []; omega)) _))

end Go.Proofs.Ytambhapgjonmmaa

namespace Go.Proofs.Ytambhapgjonmmaa
open Go.RowKit
set_option linter.unusedVariables false
set_option linter.unusedSimpArgs false

theorem enc_ok (x : I) (hx : x.wt ≤ 100000) (he : errI x = 0) (w : World) (c : Array Value) (h : RdIt (fun _ => True) w x c) :
    Calls Try.prog 11 #[.agg c] w fun e w' => ∃ a cp, e = .returned (.tuple #[.slice a (layI x).length cp, .int .i64 0]) ∧ RdB w' a (layI x).length (layI x) ∧ (a = none → cp = 0) ∧ (layI x).length ≤ cp ∧ Below w.heap.size w w' := by
  refine (encode28 x hx w c h).mono ?_
  rintro e w' ⟨a, m, cp, rfl, h1, h2, h3, h4⟩
  rw [he, if_pos rfl] at h1
  obtain rfl := h1.1
  exact ⟨a, cp, by rw [he]; rfl, h1, h2, h3, h4⟩

theorem int_rd (k : Int) (hk : -9223372036854775808 ≤ k ∧ k ≤ 9223372036854775807) (n : Nat) (hn : n < okSize) (w : World) : RdIt (fun _ => True) w (.mk k n [] ⟨#[]⟩ .nil) #[.int .i64 k, .int .u64 (n : Nat), .slice none 0 0, .string ⟨#[]⟩, .slice none 0 0] :=
  ⟨none, 0, 0, none, 0, 0, rfl, ⟨hk, hn, by decide⟩, ⟨RdB.nil _ _, fun h => absurd h (by omega)⟩, rfl, ⟨by omega, ⟨fun _ => rfl, by omega⟩, ⟨fun _ => rfl, by omega⟩⟩, trivial⟩
theorem err_int (k : Int) (hk : k = 1 ∨ k = 2) (n : Nat) : errI (.mk k n [] ⟨#[]⟩ .nil) = 0 := by
  have h0 : wholeTo (sl ⟨#[]⟩) = 0 := by decide
  have h1 : (⟨#[]⟩ : ByteArray).size = 0 := rfl
  rcases hk with rfl | rfl <;> simp [errI, fieldsB, h0, h1, errIs, IL.len]

theorem two_rd (w : World) (t : TypeId) : RdB (w.alloc (.cells #[.int .u8 24, .int .u8 23] t)) (some ⟨w.heap.size, 0, none⟩) 2 [24, 23] :=
  ⟨rfl, by omega, fun i hi => ⟨_, 0, rfl, by
    have hi5 : i = 0 ∨ i = 1 := by omega
    rcases hi5 with rfl | rfl <;> simp [go_sem, bAt]⟩⟩

set_option maxRecDepth 100000 in
set_option maxHeartbeats 4000000 in
theorem awake28 (w : World) : Calls Try.prog 9 #[] w fun e w' => e = .returned (.bool true) ∧ Below w.heap.size w w' := by
  have CE := Lib.hid (enc_ok (.mk 1 24 [] ⟨#[]⟩ .nil) (by decide) (err_int 1 (.inl rfl) 24) w _ (int_rd 1 (by omega) 24 (by decide) w))
  have HL : Hid (layI (.mk 1 24 [] ⟨#[]⟩ .nil) = [24, 24]) := by show _ = _; decide +kernel
  have HD := Lib.hid (fun (W : World) => decode_err28 (some ⟨W.heap.size, 0, none⟩) 2 2 [24, 23] (W.alloc (.cells #[.int .u8 24, .int .u8 23] 5)) (two_rd W _) (by simp) (by omega) 5 3 0 (by omega) (by omega) (fun r W h hl => read_one r W h hl))
  go_enter Try.func9, Try.ntmps9
  go_wp2_with fail
  refine CE.out.mono ?_
  rintro e w1 ⟨a, cp, rfl, hr1, -, -, hb1⟩
  rw [HL.out] at hr1 ⊢
  have HR1 : Hid (RdB w1 a 2 [24, 24]) := hr1
  have HB1 := Lib.hid hb1
  clear hr1 hb1 CE HL
  go_wp2_with fail
  refine (HD.out w1).mono ?_
  rintro e w2 ⟨rfl, hb2⟩
  have HB2 : Hid (Below w1.heap.size w1 w2) := ((Below.refl _ _).alloc (Nat.le_refl _) _).trans (hb2.mono (by simp))
  clear hb2 HD
  have hcv := conv_str ((HR1.out.keep HB2.out).keep (((Below.refl w2.heap.size w2).alloc (Nat.le_refl _) (.cells #[.int .i64 0, .int .u64 0, .slice none 0 0, .string ⟨#[]⟩, .slice none 0 0] 26)).alloc (by simp) (.cells #[.int .i64 3, .int .i64 0, .slice none 0 0] 35))) cp
  have hcm : ((txt [24, 24]).toList == [24, 24]) = true := by rw [toList_sl, sl_txt]; rfl
  go_wp2_with fail
  go_ret
  exact ⟨rfl, (HB1.out.trans (HB2.out.mono HB1.out.size)).trans ((((Below.refl w2.heap.size w2).alloc (Nat.le_refl _) _).alloc (by simp) _).mono (HB1.out.trans (HB2.out.mono HB1.out.size)).size)⟩

end Go.Proofs.Ytambhapgjonmmaa
