/- UtfJoin, UtfPuts: the walks. -/
import Derived.Test.YthahhjmgjlkmfaaUtfD
namespace Go.Proofs.Ythahhjmgjlkmfaa
open Go.RowKit
set_option linter.unusedVariables false
set_option linter.unusedSimpArgs false

set_option maxRecDepth 100000 in
set_option maxHeartbeats 2000000 in
theorem UtfJoin_walk (w : World) (a0 : Option Addr) (len0 cap0 : Nat) (l0 : List UInt8) (h0 : RdB w a0 len0 l0) (n0 : a0 = none → cap0 = 0) (c0 : len0 ≤ cap0) (a1 : Option Addr) (len1 cap1 : Nat) (l1 : List UInt8) (h1 : RdB w a1 len1 l1) (n1 : a1 = none → cap1 = 0) (c1 : len1 ≤ cap1) :
    Calls Try.prog 8 #[.slice a0 len0 cap0, .slice a1 len1 cap1] w fun e w' => e = .returned (.bool true) ∧ Below w.heap.size w w' := by
  have m0 := h0.2.1
  have m1 := h1.2.1
  have HL0 := Lib.hid h0.1
  have HL1 := Lib.hid h1.1
  have H0 := Lib.hid h0
  have H1 := Lib.hid h1
  have HN0 := Lib.hid n0
  have HN1 := Lib.hid n1
  clear h0 h1 n0 n1
  by_cases g0 : 500 < len0
  · go_enter Try.func8, Try.ntmps8
    go_wp2_with (go_at_call 31; refine (awake2 _).mono ?_; rintro e w1 ⟨rfl, hb⟩)
    go_ret
    exact ⟨rfl, hb⟩
  by_cases g1 : 500 < len1
  · have d0 : decide ((500 : Int) < (len0 : Int)) = false := by simp; omega
    go_enter Try.func8, Try.ntmps8
    go_wp2_with (go_at_call 31; refine (awake2 _).mono ?_; rintro e w1 ⟨rfl, hb⟩)
    go_ret
    exact ⟨rfl, hb⟩
  have d0 : decide ((500 : Int) < (len0 : Int)) = false := by simp; omega
  have d1 : decide ((500 : Int) < (len1 : Int)) = false := by simp; omega
  have CA := Lib.hid (fun W hW => check_calls a0 len0 cap0 W l0 hW)
  have CB := Lib.hid (fun W hW => check_calls a1 len1 cap1 W l1 hW)
  have NA := Lib.hid (fun W hW => count_calls a0 len0 cap0 W l0 hW)
  have NB := Lib.hid (fun W hW => count_calls a1 len1 cap1 W l1 hW)
  have CC := Lib.hid (fun W a c hW => check_calls a (len0 + len1) c W (l0 ++ l1) hW)
  have NC := Lib.hid (fun W a c hW => count_calls a (len0 + len1) c W (l0 ++ l1) hW)
  have wa := wholeTo_le l0
  have wb := wholeTo_le l1
  have wc := wholeTo_le (l0 ++ l1)
  have ca := chars_le l0
  have cb := chars_le l1
  have HJ := Lib.hid (look_join l0 l1)
  rw [HL0.out] at wa HJ
  rw [HL1.out] at wb
  rw [List.length_append, HL0.out, HL1.out] at wc
  have cc := chars_le (l0 ++ l1)
  generalize wholeTo l0 = k0 at CA HJ wa ca
  generalize wholeTo l1 = k1 at CB HJ wb cb
  generalize wholeTo (l0 ++ l1) = k2 at CC HJ wc cc
  generalize chars l0 = s0 at NA HJ ca
  generalize chars l1 = s1 at NB HJ cb
  generalize chars (l0 ++ l1) = s2 at NC HJ cc
  go_enter Try.func8, Try.ntmps8
  go_wp2_with fail
  refine (awake2 _).mono ?_
  rintro e w1 ⟨rfl, hb1⟩
  have HB1 := Lib.hid hb1
  have HR0 := Lib.hid (H0.out.keep hb1)
  have HR1 := Lib.hid (H1.out.keep hb1)
  have hs1 := hb1.size
  clear hb1
  go_wp2_with fail
  refine (CA.out _ HR0.out).mono ?_
  rintro e w2 ⟨rfl, rfl⟩
  go_wp2_with fail
  refine (CB.out _ HR1.out).mono ?_
  rintro e w2 ⟨rfl, rfl⟩
  have ho : OwnB (w1.alloc (.cells #[] 5)) w1.heap.size (.slice (some ⟨w1.heap.size, 0, none⟩) 0 0) [] := ownB_new w1 _ (Nat.le_refl _) [] (by simp) #[] rfl 0 rfl
  have HO := Lib.hid ho
  have hsa : SrcB (w1.alloc (.cells #[] 5)) (.slice a0 len0 cap0) l0 := ⟨_, _, _, rfl, HR0.out.keep ((Below.refl _ _).alloc (Nat.le_refl _) _), HN0.out⟩
  have HSA := Lib.hid hsa
  clear ho hsa
  go_wp2_with (at_builtin; refine wpList_appB (v := .slice (some ⟨w1.heap.size, 0, none⟩) 0 0) (bs := []) (sv := .slice a0 len0 cap0) (l := l0) (B := w1.heap.size) (by rfl) _ _ (by rfl) (by rfl) HO.out (by rfl) HSA.out (by simp; rw [HL0.out]; omega) (by simp) ?_)
  intro v3 w3 ho3 ha3
  have hb3 : Below w1.heap.size w1 w3 := ha3.below ((Below.refl _ _).alloc (Nat.le_refl _) _) (by simp) (fun j hj => (owns_lt HO.out j hj).1)
  have HB3 := Lib.hid hb3
  have HO3 := Lib.hid (show OwnB w3 w1.heap.size v3 l0 by simpa using ho3)
  have hsb : SrcB w3 (.slice a1 len1 cap1) l1 := ⟨_, _, _, rfl, HR1.out.keep hb3, HN1.out⟩
  have HSB := Lib.hid hsb
  have hs3 := hb3.size
  clear ho3 ha3 hb3 hsb
  go_wp2_with (at_builtin; refine wpList_appB (v := v3) (bs := l0) (sv := .slice a1 len1 cap1) (l := l1) (B := w1.heap.size) (by rfl) _ _ (by rfl) (by rfl) HO3.out (by rfl) HSB.out (by rw [HL0.out, HL1.out]; omega) hs3 ?_)
  intro v4 w4 ho4 ha4
  have hb4 : Below w1.heap.size w1 w4 := ha4.below HB3.out hs3 (fun j hj => (owns_lt HO3.out j hj).1)
  obtain ⟨a4, cap4, rfl, hr4⟩ := ho4.reads
  rw [List.length_append, HL0.out, HL1.out] at hr4 ⊢
  have HR4 := Lib.hid hr4
  have HRA := Lib.hid (HR0.out.keep hb4)
  have HRB := Lib.hid (HR1.out.keep hb4)
  have HB4 := Lib.hid (HB1.out.trans (hb4.mono hs1))
  clear ho4 ha4 hb4 hr4
  by_cases hk : k0 = len0
  · obtain ⟨hj1, hj2⟩ := HJ.out hk
    subst hj1 hj2 hk
    have e1 : ((k0 + k1 : Nat) == k0 + len1) = (k1 == len1) := by rw [Bool.eq_iff_iff]; simp
    rw [e1] at CC
    generalize (k1 == len1) = ok at CC
    have e2 : (ok == ok) = true := by simp
    have e3 : ((k0 : Int) + (k1 : Int) == (k0 : Int) + (k1 : Int)) = true := by simp
    have e4 : ((s0 : Int) + (s1 : Int) == (s0 : Int) + (s1 : Int)) = true := by simp
    clear e1
    go_wp2_with fail
    refine (CC.out _ _ _ HR4.out).mono ?_
    rintro e w5 ⟨rfl, rfl⟩
    go_wp2_with (first | (go_at_call 38; (with_reducible refine (NA.out _ HRA.out).mono ?_); rintro e w' ⟨rfl, rfl⟩) | (go_at_call 38; (with_reducible refine (NB.out _ HRB.out).mono ?_); rintro e w' ⟨rfl, rfl⟩) | (go_at_call 38; (with_reducible refine (NC.out _ _ _ HR4.out).mono ?_); rintro e w' ⟨rfl, rfl⟩))
    go_ret
    exact ⟨rfl, HB4.out⟩
  · have e0 : (k0 == len0) = false := by simpa using hk
    have e1 : decide ((k0 : Int) < (len0 : Int)) = true := by simp; omega
    have e2 : decide ((s0 : Int) ≤ (k0 : Int)) = true := by simp; omega
    go_wp2_with fail
    refine (CC.out _ _ _ HR4.out).mono ?_
    rintro e w5 ⟨rfl, rfl⟩
    go_wp2_with (go_at_call 38; (with_reducible refine (NA.out _ HRA.out).mono ?_); rintro e w' ⟨rfl, rfl⟩)
    go_ret
    exact ⟨rfl, HB4.out⟩

theorem put_yes {r : Nat} (h : isCh (r : Int) = true) {w : World} {e : Ending} {w' : World} (hp : PutOut (r : Int) w e w') :
    ∃ v, e = .returned (.tuple #[v, .bool true]) ∧ OwnB w' w.heap.size v (putL r) ∧ Below w.heap.size w w' := by
  unfold PutOut at hp
  rw [if_pos h, Int.toNat_natCast] at hp
  exact hp

theorem put_no {r : Int} (h : isCh r = false) {w : World} {e : Ending} {w' : World} (hp : PutOut r w e w') : e = .returned (.tuple #[.slice none 0 0, .bool false]) ∧ w = w' := by
  unfold PutOut at hp
  rw [if_neg (by rw [h]; simp)] at hp
  exact hp

set_option maxRecDepth 100000 in
set_option maxHeartbeats 2000000 in
theorem UtfPuts_walk (w : World) (r : Int) (hr : (Lit.int .i64 r).wf = true) :
    Calls Try.prog 9 #[.int .i64 r] w fun e w' => e = .returned (.bool true) ∧ Below w.heap.size w w' := by
  clear hr
  have CP := Lib.hid (fun W => put_calls r W)
  have CR := Lib.hid (fun W => rput_calls r W)
  cases hi : isCh r with
  | false =>
    have HI := Lib.hid hi
    have hk := fun (W : World) => conv_str (RdB.nil W none) 0
    have HK := Lib.hid hk
    have RU := Lib.hid (fun W => rune_calls none 0 0 0 W [] (RdB.nil W none))
    clear hi hk
    go_enter Try.func9, Try.ntmps9
    go_wp2_with fail
    refine (awake2 _).mono ?_
    rintro e w1 ⟨rfl, hb1⟩
    have HB1 := Lib.hid hb1
    clear hb1
    go_wp2_with fail
    refine (CP.out _).mono ?_
    intro e w2 hp
    obtain ⟨rfl, rfl⟩ := put_no HI.out hp
    clear hp
    go_wp2_with fail
    refine (CR.out _).mono ?_
    intro e w2 hp
    obtain ⟨rfl, rfl⟩ := put_no HI.out hp
    clear hp
    have hk := HK.out w1
    go_wp2_with fail
    refine (RU.out _).mono ?_
    rintro e w2 ⟨rfl, rfl⟩
    go_wp2_with fail
    go_ret
    exact ⟨rfl, HB1.out⟩
  | true =>
    have h0 : 0 ≤ r ∧ r ≤ 1114111 := by simp [isCh] at hi; omega
    obtain ⟨n, rfl⟩ : ∃ n : Nat, r = n := ⟨r.toNat, by omega⟩
    have HI := Lib.hid hi
    clear hi h0
    have hl := putL_len n
    have RU := Lib.hid (fun W a c h => rune_calls a (putL n).length c 0 W (putL n) h)
    unfold RuneOut at RU
    rw [rune_put n HI.out] at RU
    obtain ⟨m, hm⟩ : ∃ m, m = (putL n).length := ⟨_, rfl⟩
    have HM := Lib.hid hm
    rw [← hm] at RU hl
    clear hm
    have e1 : ((n : Int) == n) = true := by simp
    have e2 : ((m : Int) == m) = true := by simp
    go_enter Try.func9, Try.ntmps9
    go_wp2_with fail
    refine (awake2 _).mono ?_
    rintro e w1 ⟨rfl, hb1⟩
    have HB1 := Lib.hid hb1
    clear hb1
    go_wp2_with fail
    refine (CP.out _).mono ?_
    intro e w2 hp
    obtain ⟨v2, rfl, ho2, hb2⟩ := put_yes HI.out hp
    clear hp
    obtain ⟨a2, c2, rfl, hr2⟩ := ho2.reads
    rw [← HM.out] at hr2 ⊢
    have HR2 := Lib.hid hr2
    have HB2 := Lib.hid (HB1.out.trans (hb2.mono HB1.out.size))
    clear ho2 hb2 hr2
    go_wp2_with fail
    refine (CR.out _).mono ?_
    intro e w3 hp
    obtain ⟨v3, rfl, ho3, hb3⟩ := put_yes HI.out hp
    clear hp
    obtain ⟨a3, c3, rfl, hr3⟩ := ho3.reads
    rw [← HM.out] at hr3 ⊢
    have HR3 := Lib.hid (HR2.out.keep hb3)
    have HB3 := Lib.hid (HB2.out.trans (hb3.mono HB2.out.size))
    have k2 := conv_str HR3.out c2
    have k3 := conv_str hr3 c3
    generalize txt (putL n) = t at k2 k3
    clear ho3 hb3 hr3
    go_wp2_with fail
    refine (RU.out _ _ _ HR3.out).mono ?_
    rintro e w4 ⟨rfl, rfl⟩
    go_wp2_with fail
    go_ret
    exact ⟨rfl, HB3.out⟩

end Go.Proofs.Ythahhjmgjlkmfaa
