/- bin.Decode: what it answers, for every text and all limits; Valid. -/
import Derived.Test.YtkcfkdmffbhljaaBiJ
import Derived.Test.YtkcfkdmffbhljaaBiH
namespace Go.Proofs.Ytkcfkdmffbhljaa
open Go.RowKit
set_option linter.unusedVariables false
set_option linter.unusedSimpArgs false

set_option maxRecDepth 100000 in
set_option maxHeartbeats 4000000 in
theorem doc_nil (ab : Option Addr) (rb dn c : Nat) (w : World) (h0 : w.cell? ⟨rb, 0, none⟩ = some (.slice ab 0 c)) (h1 : w.cell? ⟨rb, 1, none⟩ = some (.int .i64 (dn : Nat))) (hd : 1 ≤ dn) :
    Calls Try.prog 35 #[.pointer (some ⟨rb, 0, none⟩), .int .i64 ((0 : Nat) : Int), .int .i64 ((0 : Nat) : Int), .int .i64 ((0 : Nat) : Int), .int .i64 ((1 : Nat) : Int)] w fun e w' => ∃ r, Q [] dn (.doc 0 0 0 1) r ∧ DocOut r w e w' := by
  obtain ⟨g, hg⟩ : ∃ g, g = w.heap.size := ⟨_, rfl⟩
  have hrb : rb < g := by rw [hg]; simpa using cell_block h1
  obtain ⟨wa, hwa⟩ : ∃ W, W = (w.alloc (.cells #[.int .i64 0, .int .i64 0, .slice none 0 0] 34)).alloc (.cells #[.int .i64 0, .int .u64 0, .int .u64 0, .int .u64 0, .string ⟨#[]⟩, .string ⟨#[]⟩, .int .i64 0, .slice none 0 0, .slice none 0 0] 26) := ⟨_, rfl⟩
  have hb0 : Below w.heap.size w (w.alloc (.cells #[.int .i64 0, .int .i64 0, .slice none 0 0] 34)) := (Below.refl _ _).alloc (Nat.le_refl _) _
  have hba : Below w.heap.size w wa := by rw [hwa]; exact hb0.alloc hb0.size _
  have hfa : FBx wa g 0 0 := by
    rw [hwa, hg]
    refine ⟨?_, ?_, ?_, ?_, ?_, ?_, ?_⟩ <;> simp [go_sem]
  have HFA := Lib.hid hfa
  have HBA := Lib.hid hba
  have GW : Hid (w.heap.size = g) := hg.symm
  have CW := Lib.hid wrong_calls
  have HX : Hid (Q [] dn (.doc 0 0 0 1) (.bad 2 0)) := .doc_bad (by unfold docH; rw [if_neg (by omega), if_pos (by omega)])
  have d1 : decide ((dn : Int) ≤ 0) = false := by simp; omega
  have d2 : decide (dn ≤ 0) = false := by simp; omega
  have d3 : ¬ dn = 0 := by omega
  have r1 := cell_below hba h1
  have R1 := Lib.hid r1
  obtain ⟨z0, z1, z2, q0, q1, q2, hg1⟩ := hfa
  clear hba hb0 h0 h1 hd
  go_enter Try.func35, Try.ntmps35
  go_wp2_with fail
  refine wp_scope_many DL drest (fun _ _ _ => False) (fun _ _ _ => 0) (fun l hl => by rcases hl with rfl | rfl <;> rfl) ?first (fun l a w' hl hJ => hJ.elim)
  case first =>
    go_upto_region 5 with fail
    rw [← hwa, ← hg]
    clear hwa hg
    have gw := GW.out
    go_wp2_with fail
    refine (CW.out _ _ _).mono ?_
    rintro e w7 ⟨rfl, hb7⟩
    have HB7 : Hid (Below w.heap.size w w7) := HBA.out.trans (hb7.mono HBA.out.size)
    have HF7 := Lib.hid (HFA.out.keep hb7)
    have r7 := cell_below hb7 R1.out
    clear hb7 z0 z1 z2 q0 q1 q2 hg1 r1
    obtain ⟨z0, z1, z2, q0, q1, q2, hg1⟩ := HF7.out
    go_wp2_with fail
    simp only [JumpTo]
    refine bodyPost_ret (v := .tuple #[.slice none 0 0, .int .i64 0, fltV 2 0]) (by simp [results, Try.results35, go_sem, *]) rfl ?_
    refine ⟨_, HX.out, rfl, ?_⟩
    have hfin := HB7.out
    (repeat' (first | with_reducible exact hfin | with_reducible refine Below.setCell ?_ (by exact Nat.le_of_eq gw) _))

/-- What Decode answers, in a world. -/
def DecO (d s o : Int) (L : List UInt8) (w : World) (e : Ending) (w' : World) : Prop :=
  ∃ r, DecQ d s o L r ∧ (match r with
    | .error p => e = .returned (.tuple #[.agg zCellsV, fltV p.1 p.2])
    | .ok f => ∃ c, e = .returned (.tuple #[.agg c, fltV 0 0]) ∧ RdTS (fun k => w.heap.size ≤ k) w' (docT f) c) ∧ Below w.heap.size w w'

theorem decO_of {d s o : Int} {L : List UInt8} {w w' : World} {e : Ending} (h : DecOut d s o L w e w') : DecO d s o L w e w' := by
  obtain ⟨h1, h2⟩ := h
  by_cases hm : mayS d s o = false
  · rw [if_pos hm] at h1
    exact ⟨.error (1, 0), .inl ⟨hm, rfl⟩, h1, h2⟩
  · rw [if_neg hm] at h1
    have hm' : mayS d s o = true := by simpa using hm
    by_cases hs : s < (L.length : Int)
    · rw [if_pos hs] at h1
      exact ⟨.error (9, 0), .inr (.inl ⟨hm', hs, rfl⟩), h1, h2⟩
    · rw [if_neg hs] at h1
      obtain ⟨r, hq, hr⟩ := h1
      cases r with
      | kids f nx => exact ⟨.ok f, ⟨hm', hs, nx, hq⟩, hr, h2⟩
      | bad er a => exact ⟨.error (er, a), .inr (.inr ⟨hm', hs, hq⟩), hr, h2⟩
      | val => exact hr.elim

theorem decode_calls (ab : Option Addr) (n c : Nat) (d s o : Int) (L : List UInt8) (w : World) (hr : RdB w ab n L) (hc : n ≤ c) (hn : n ≤ 1000000) :
    Calls Try.prog 16 #[.slice ab n c, .agg (limCells d s o)] w (DecO d s o L w) := by
  refine Calls.mono ?_ (fun _ _ => decO_of)
  have hL : L.length = n := hr.1
  by_cases hm : mayS d s o = false
  · exact dec_small ab n c d s o L w hL (.inl hm)
  · have hm' : mayS d s o = true := by simpa using hm
    by_cases hs : s < (n : Int)
    · exact dec_small ab n c d s o L w hL (.inr hs)
    · obtain ⟨dn, rfl⟩ : ∃ dn : Nat, d = (dn : Int) := ⟨d.toNat, by unfold mayS at hm'; simp at hm'; omega⟩
      have hd1 : 1 ≤ dn := by unfold mayS at hm'; simp at hm'; omega
      refine dec_main ab n c dn s o L w hL hn hm' (by omega) (fun W rb hb h0 h1 => ?_)
      by_cases h00 : n = 0
      · subst h00
        obtain rfl : L = [] := List.length_eq_zero_iff.1 hL
        exact doc_nil ab rb dn c W h0 h1 hd1
      · obtain ⟨b, o2, rfl, -⟩ := hr.at 0 (by omega)
        exact (reads_all n).2.1 rb b o2 n c L dn W ⟨h0, h1, hr.keep hb, hc, hn⟩ 0 n 0 1 (by omega) (by omega) (by omega) (by omega) (by omega)

/-- An answer's error and its place. -/
def fltOf : Except (Nat × Nat) F → Nat × Nat
  | .error p => p
  | .ok _ => (0, 0)
/-- What Valid answers. -/
def ValidO (d s o : Int) (L : List UInt8) (w : World) (e : Ending) (w' : World) : Prop :=
  ∃ r, DecQ d s o L r ∧ e = .returned (fltV (fltOf r).1 (fltOf r).2) ∧ Below w.heap.size w w'

set_option maxRecDepth 100000 in
set_option maxHeartbeats 4000000 in
theorem valid_calls (ab : Option Addr) (n c : Nat) (d s o : Int) (L : List UInt8) (w : World) (hr : RdB w ab n L) (hc : n ≤ c) (hn : n ≤ 1000000) :
    Calls Try.prog 26 #[.slice ab n c, .agg (limCells d s o)] w (ValidO d s o L w) := by
  obtain ⟨wa, hwa⟩ : ∃ W, W = (w.alloc (.cells #[.int .i64 d, .int .i64 s, .int .i64 o] 28)).alloc (.cells #[.int .i64 0, .int .i64 0, .slice none 0 0] 34) := ⟨_, rfl⟩
  have h1 : Below w.heap.size w (w.alloc (.cells #[.int .i64 d, .int .i64 s, .int .i64 o] 28)) := (Below.refl _ _).alloc (Nat.le_refl _) _
  have hba : Below w.heap.size w wa := by rw [hwa]; exact h1.alloc h1.size _
  obtain ⟨g, hg⟩ : ∃ g, g = w.heap.size + 1 := ⟨_, rfl⟩
  have hfa : FBx wa g 0 0 := by
    rw [hwa, hg]
    refine ⟨?_, ?_, ?_, ?_, ?_, ?_, ?_⟩ <;> simp [go_sem]
  have hla : wa.cell? ⟨w.heap.size, 0, none⟩ = some (.int .i64 d) ∧ wa.cell? ⟨w.heap.size, 1, none⟩ = some (.int .i64 s) ∧ wa.cell? ⟨w.heap.size, 2, none⟩ = some (.int .i64 o) := by rw [hwa]; simp [go_sem]
  have HG : Hid (w.heap.size + 1 = g) := hg.symm
  have HBA := Lib.hid hba
  have HFA := Lib.hid hfa
  have CD := Lib.hid (decode_calls ab n c d s o L wa (hr.keep hba) hc hn)
  obtain ⟨y0, y1, y2⟩ := hla
  clear hba h1 hfa hr
  go_enter Try.func26, Try.ntmps26
  go_upto_region 1 with fail
  rw [← hwa, ← hg]
  clear hwa hg
  go_wp2_with fail
  refine CD.out.mono ?_
  rintro e w1 ⟨r, hq, hout, hb1⟩
  have HB1 : Hid (Below w.heap.size w w1) := HBA.out.trans (hb1.mono HBA.out.size)
  have HQ := Lib.hid hq
  have HF1 := Lib.hid (HFA.out.keep hb1)
  clear y0 y1 y2 hq hb1
  obtain ⟨z0, z1, z2, q0, q1, q2, hg1⟩ := HF1.out
  have hgw : w.heap.size ≤ g := by rw [← HG.out]; omega
  have key : ∀ (er a : Nat) (W : World), fltOf r = (er, a) → Chg (fun j => j = g) w1 W → ValidO d s o L w (.returned (fltV er a)) W := fun er a W hx hW =>
    ⟨r, HQ.out, by rw [hx], HB1.out.trans (hW.below HB1.out.size (fun j e => by have e2 : j = g := e; omega))⟩
  have KEY := Lib.hid key
  clear key
  have hX : (fun j : Nat => j = g) g := rfl
  cases r with
  | error p =>
    obtain ⟨er, a⟩ := p
    obtain rfl := hout
    (repeat (first | go_values | go_skip | go_guarded | go_step | go_upon | (go_simp; go_at_K)))
    refine bodyPost_ret (v := fltV er a) (by simp [results, Try.results26, go_sem, *]) rfl ?_
    refine KEY.out er a _ rfl ?_
    (repeat' (first | with_reducible exact Chg.refl _ _ | with_reducible refine Chg.drew ?_ | with_reducible refine Chg.alloc ?_ _ | refine Chg.setCell ?_ (fun _ => hX) _))
  | ok f =>
    obtain ⟨cs, rfl, hrd⟩ := hout
    obtain ⟨ab2, nb2, cb2, ak2, nk2, ck2, rfl, -⟩ := hrd
    (repeat (first | go_values | go_skip | go_guarded | go_step | go_upon | (go_simp; go_at_K)))
    refine bodyPost_ret (v := fltV 0 0) (by simp [results, Try.results26, go_sem, *]) rfl ?_
    refine KEY.out 0 0 _ rfl ?_
    (repeat' (first | with_reducible exact Chg.refl _ _ | with_reducible refine Chg.drew ?_ | with_reducible refine Chg.alloc ?_ _ | refine Chg.setCell ?_ (fun _ => hX) _))

end Go.Proofs.Ytkcfkdmffbhljaa
