/- The statements' own look (awake); UtfTells, UtfCuts: the walks. -/
import Derived.Test.YthahhjmgjlkmfaaUtfC
namespace Go.Proofs.Ythahhjmgjlkmfaa
open Go.RowKit
set_option linter.unusedVariables false
set_option linter.unusedSimpArgs false

set_option maxRecDepth 100000 in
set_option maxHeartbeats 1000000 in
theorem awake2 (w : World) : Calls Try.prog 31 #[] w fun e w' => e = .returned (.bool true) ∧ Below w.heap.size w w' := by
  have C1 := Lib.hid (fun W a c h => check_calls a 2 c W [97, 255] h)
  have e1 : wholeTo [97, 255] = 1 := by decide +kernel
  rw [e1] at C1
  have e2 : cText [97, 0, 98] 0 = ([97], 2, 0) := by decide +kernel
  have C2 : Hid (∀ (W : World) a, RdB W a 3 [97, 0, 98] → Calls Try.prog 32 #[.slice a 3 3, .int .i64 0] W fun e w' => e = .returned (.tuple #[.string ⟨#[97]⟩, .int .i64 2, .int .i64 0]) ∧ W = w') := by
    intro W a h
    have := ctext_calls a 3 3 0 W [97, 0, 98] h (by omega)
    rw [e2] at this
    exact this
  have R1 := Lib.hid (fun W : World => (ownB_new W 0 (Nat.zero_le _) [97, 255] (by simp) #[.int .u8 97, .int .u8 255] rfl 2 rfl).reads)
  have R2 := Lib.hid (fun W : World => (ownB_new W 0 (Nat.zero_le _) [97, 0, 98] (by simp) #[.int .u8 97, .int .u8 0, .int .u8 98] rfl 3 rfl).reads)
  clear e1 e2
  go_enter Try.func31, Try.ntmps31
  go_wp2_with fail
  obtain ⟨a1, c1, hv1, hr1⟩ := R1.out w
  simp only [Value.slice.injEq] at hv1
  obtain ⟨rfl, _, rfl⟩ := hv1
  refine (C1.out _ _ _ hr1).mono ?_
  rintro e w1 ⟨rfl, rfl⟩
  clear hr1
  go_wp2_with fail
  obtain ⟨a2, c2, hv2, hr2⟩ := R2.out (w.alloc (.cells #[.int .u8 97, .int .u8 255] 5))
  simp only [Value.slice.injEq] at hv2
  obtain ⟨rfl, _, rfl⟩ := hv2
  rw [show (w.alloc (.cells #[.int .u8 97, .int .u8 255] 5)).heap.size = w.heap.size + 1 by simp] at hr2
  refine (C2.out _ _ hr2).mono ?_
  rintro e w1 ⟨rfl, rfl⟩
  clear hr2
  go_wp2_with fail
  go_ret
  exact ⟨rfl, ((Below.refl _ _).alloc (Nat.le_refl _) _).alloc (by simp) _⟩

theorem runeI (l : List UInt8) (p : Int) : ∃ x n : Nat, n ≤ 4 ∧ ∀ (a : Option Addr) (len cap : Nat) (w : World), RdB w a len l → len ≤ 9223372036854775807 →
    Calls Try.prog 34 #[.slice a len cap, .int .i64 p] w (fun e w' => e = .returned (.tuple #[.int .i64 x, .int .i64 n]) ∧ w = w') ∧
    Calls Try.prog 35 #[.slice a len cap, .int .i64 p] w (fun e w' => e = .returned (.tuple #[.int .i64 x, .int .i64 n]) ∧ w = w') := by
  by_cases h : p < 0
  · exact ⟨0, 0, by omega, fun a len cap w hr hm => ⟨rune_neg a len cap p w hm h, rrune_out a len cap p w hm (.inl h)⟩⟩
  · obtain ⟨n, rfl⟩ : ∃ n : Nat, p = n := ⟨p.toNat, by omega⟩
    exact ⟨(runeAt l n).1, (runeAt l n).2, (runeAt_bd l n).2.1, fun a len cap w hr hm => ⟨rune_calls a len cap n w l hr, rrune_calls a len cap n w l hr⟩⟩

set_option maxRecDepth 100000 in
set_option maxHeartbeats 1000000 in
theorem UtfTells_walk (w : World) (a : Option Addr) (len cap : Nat) (l : List UInt8) (h : RdB w a len l) (p : Int) (hp : (Lit.int .i64 p).wf = true) :
    Calls Try.prog 7 #[.slice a len cap, .int .i64 p] w fun e w' => e = .returned (.bool true) ∧ Below w.heap.size w w' := by
  clear hp
  have hm := h.2.1
  have H := Lib.hid h
  clear h
  by_cases hl : 1000 < len
  · go_enter Try.func7, Try.ntmps7
    go_wp2_with (go_at_call 31; refine (awake2 _).mono ?_; rintro e w1 ⟨rfl, hb⟩)
    go_ret
    exact ⟨rfl, hb⟩
  · obtain ⟨x, n, hn, hR⟩ := runeI l p
    have CR := Lib.hid (fun W hW => hR a len cap W hW hm)
    have CC := Lib.hid (fun W hW => check_calls a len cap W l hW)
    have CC2 := Lib.hid (fun W hW => rcheck_calls a len cap W l hW)
    have CN := Lib.hid (fun W hW => count_calls a len cap W l hW)
    have CN2 := Lib.hid (fun W hW => rcount_calls a len cap W l hW)
    generalize (wholeTo l == len) = ok at CC CC2
    generalize wholeTo l = k at CC CC2
    generalize chars l = c at CN CN2
    have e1 : ((x : Int) == x) = true := by simp
    have e2 : ((n : Int) == n) = true := by simp
    have e3 : ((k : Int) == k) = true := by simp
    have e4 : (ok == ok) = true := by simp
    have e5 : ((c : Int) == c) = true := by simp
    clear hR hn
    go_enter Try.func7, Try.ntmps7
    go_wp2_with fail
    refine (awake2 _).mono ?_
    rintro e w1 ⟨rfl, hb1⟩
    have HB1 := Lib.hid hb1
    have H1 := Lib.hid (H.out.keep hb1)
    clear hb1
    go_wp2_with (first | (go_at_call 34; refine (CR.out _ H1.out).1.mono ?_; rintro e w' ⟨rfl, rfl⟩) | (go_at_call 35; refine (CR.out _ H1.out).2.mono ?_; rintro e w' ⟨rfl, rfl⟩) | (go_at_call 36; refine (CC.out _ H1.out).mono ?_; rintro e w' ⟨rfl, rfl⟩) | (go_at_call 37; refine (CC2.out _ H1.out).mono ?_; rintro e w' ⟨rfl, rfl⟩) | (go_at_call 38; refine (CN.out _ H1.out).mono ?_; rintro e w' ⟨rfl, rfl⟩) | (go_at_call 39; refine (CN2.out _ H1.out).mono ?_; rintro e w' ⟨rfl, rfl⟩))
    go_ret
    exact ⟨rfl, HB1.out⟩

set_option maxRecDepth 100000 in
set_option maxHeartbeats 1000000 in
theorem UtfCuts_walk (w : World) (a : Option Addr) (len cap : Nat) (l : List UInt8) (h : RdB w a len l) (hnc : a = none → cap = 0) (hcc : len ≤ cap) (p : Int) (hp : (Lit.int .i64 p).wf = true) :
    Calls Try.prog 6 #[.slice a len cap, .int .i64 p] w fun e w' => e = .returned (.bool true) ∧ Below w.heap.size w w' := by
  have hm := h.2.1
  have H := Lib.hid h
  clear h
  by_cases hl : 1000 < len
  · go_enter Try.func6, Try.ntmps6
    go_wp2_with (go_at_call 31; refine (awake2 _).mono ?_; rintro e w1 ⟨rfl, hb⟩)
    go_ret
    exact ⟨rfl, hb⟩
  · obtain ⟨t, n, k, hR⟩ : ∃ (t : ByteArray) (n k : Nat), ∀ W, RdB W a len l → Calls Try.prog 32 #[.slice a len cap, .int .i64 p] W (fun e w' => e = .returned (.tuple #[.string t, .int .i64 n, .int .i64 k]) ∧ W = w') ∧
        Calls Try.prog 33 #[.slice a len cap, .int .i64 p] W (fun e w' => e = .returned (.tuple #[.string t, .int .i64 n, .int .i64 k]) ∧ W = w') := by
      by_cases h0 : p < 0
      · exact ⟨txt [], 0, 1, fun W hW => ⟨ctext_out a len cap p W hm (.inl h0), rctext_out a len cap p W hm (.inl h0)⟩⟩
      · obtain ⟨q, rfl⟩ : ∃ q : Nat, p = q := ⟨p.toNat, by omega⟩
        exact ⟨txt (cText l q).1, (cText l q).2.1, (cText l q).2.2, fun W hW => ⟨ctext_calls a len cap q W l hW hcc, rctext_calls a len cap q W l hW hcc⟩⟩
    have CR := Lib.hid hR
    have e1 : ((k : Int) == k) = true := by simp
    have e2 : ((n : Int) == n) = true := by simp
    clear hR
    go_enter Try.func6, Try.ntmps6
    go_wp2_with fail
    refine (awake2 _).mono ?_
    rintro e w1 ⟨rfl, hb1⟩
    have HB1 := Lib.hid hb1
    have H1 := Lib.hid (H.out.keep hb1)
    clear hb1
    go_wp2_with (first | (go_at_call 32; refine (CR.out _ H1.out).1.mono ?_; rintro e w' ⟨rfl, rfl⟩) | (go_at_call 33; refine (CR.out _ H1.out).2.mono ?_; rintro e w' ⟨rfl, rfl⟩))
    go_ret
    exact ⟨rfl, HB1.out⟩

end Go.Proofs.Ythahhjmgjlkmfaa
