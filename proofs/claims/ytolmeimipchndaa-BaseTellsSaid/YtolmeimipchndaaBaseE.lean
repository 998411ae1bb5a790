/- BaseOne, BaseApart: the walks. -/
import Derived.Test.YtolmeimipchndaaBaseA
namespace Go.Proofs.Ytolmeimipchndaa
open Go.RowKit
set_option linter.unusedVariables false
set_option linter.unusedSimpArgs false

theorem own_bytes {w : World} {B : Nat} {a : Option Addr} {n cap : Nat} {bs : List UInt8} (h : OwnB w B (.slice a n cap) bs) : n ≤ cap := by
  rcases h.2 with ⟨e, h0⟩ | ⟨g, cp, cur, e, _, _, hle, _⟩
  · simp only [Value.slice.injEq] at e; omega
  · simp only [Value.slice.injEq] at e; rw [e.2.1, e.2.2]; exact hle

set_option maxRecDepth 100000 in
set_option maxHeartbeats 1000000 in
theorem BaseOne_walk (w : World) (s : ByteArray) (hs : s.size ≤ 9223372036854775807) :
    Calls Try.prog 6 #[.string s] w fun e w' => e = .returned (.bool true) ∧ Below w.heap.size w w' := by
  by_cases hl : 600 < s.size
  · go_enter Try.func6, Try.ntmps6
    go_wp2_with (go_at_call 23; refine (awake4 _).mono ?_; rintro e w1 ⟨rfl, hb⟩)
    go_ret
    exact ⟨rfl, hb⟩
  · by_cases ht : ∃ t, b64 t = sl s
    · obtain ⟨t, ht⟩ := ht
      have hts : txt (b64 t) = s := by rw [ht]; rfl
      have htl : t.length ≤ 600 := by
        have := congrArg List.length ht
        rw [b64_len, sl_len] at this
        omega
      have HY := Lib.hid (bytes_yes s (by omega) t ht)
      have HTS := Lib.hid hts
      clear ht hts
      go_enter Try.func6, Try.ntmps6
      go_wp2_with fail
      refine (awake4 _).mono ?_
      rintro e w1 ⟨rfl, hb1⟩
      have HB1 := Lib.hid hb1
      clear hb1
      go_wp2_with fail
      refine (HY.out w1).mono ?_
      rintro e w2 ⟨v2, rfl, ho2, hb2⟩
      have HB2 := Lib.hid (HB1.out.trans (hb2.mono HB1.out.size))
      obtain ⟨a2, c2, rfl, hr2⟩ := ho2.reads
      have hle := own_bytes ho2
      have HT := Lib.hid (text_calls a2 _ c2 t w2 hr2 hle (by omega))
      rw [HTS.out] at HT
      generalize t.length = n at HT
      have hss : (s.toList == s.toList) = true := by simp
      clear ho2 hb2 hr2 hle htl
      go_wp2_with fail
      refine HT.out.mono ?_
      rintro e w3 ⟨rfl, hb3⟩
      have HB3 := Lib.hid (HB2.out.trans (hb3.mono HB2.out.size))
      clear hb3
      go_wp2_with fail
      go_ret
      exact ⟨rfl, HB3.out⟩
    · have HN := Lib.hid (bytes_no s (by omega) (fun t h => ht ⟨t, h⟩))
      clear ht
      go_enter Try.func6, Try.ntmps6
      go_wp2_with fail
      refine (awake4 _).mono ?_
      rintro e w1 ⟨rfl, hb1⟩
      have HB1 := Lib.hid hb1
      clear hb1
      go_wp2_with fail
      refine (HN.out w1).mono ?_
      rintro e w2 ⟨v2, rfl, ho2, hb2⟩
      have HB2 := Lib.hid (HB1.out.trans (hb2.mono HB1.out.size))
      obtain ⟨a2, c2, rfl, hr2⟩ := ho2.reads
      rw [List.length_nil]
      clear ho2 hb2 hr2
      go_wp2_with fail
      go_ret
      exact ⟨rfl, HB2.out⟩

set_option maxRecDepth 100000 in
set_option maxHeartbeats 2000000 in
theorem BaseApart_walk (w : World) (a : Option Addr) (len cap : Nat) (l : List UInt8) (h : RdB w a len l) (hnc : a = none → cap = 0) (hcc : len ≤ cap) (a' : Option Addr) (len' cap' : Nat) (l' : List UInt8) (h' : RdB w a' len' l') (hnc' : a' = none → cap' = 0) (hcc' : len' ≤ cap') :
    Calls Try.prog 7 #[.slice a len cap, .slice a' len' cap'] w fun e w' => e = .returned (.bool true) ∧ Below w.heap.size w w' := by
  have H := Lib.hid h
  have H' := Lib.hid h'
  have hm := h.2.1
  have hm' := h'.2.1
  clear h h' hnc hnc'
  by_cases hl : 300 < len
  · have d0 : decide ((300 : Int) < (len : Int)) = true := by simp; omega
    go_enter Try.func7, Try.ntmps7
    go_wp2_with (go_at_call 23; refine (awake4 _).mono ?_; rintro e w1 ⟨rfl, hb⟩)
    go_ret
    exact ⟨rfl, hb⟩
  have d0 : decide ((300 : Int) < (len : Int)) = false := by simp; omega
  by_cases hl' : 300 < len'
  · have d1 : decide ((300 : Int) < (len' : Int)) = true := by simp; omega
    go_enter Try.func7, Try.ntmps7
    go_wp2_with (go_at_call 23; refine (awake4 _).mono ?_; rintro e w1 ⟨rfl, hb⟩)
    go_ret
    exact ⟨rfl, hb⟩
  have d1 : decide ((300 : Int) < (len' : Int)) = false := by simp; omega
  have HT := Lib.hid (fun W hW => text_calls a len cap l W hW hcc (by omega))
  have HT' := Lib.hid (fun W hW => text_calls a' len' cap' l' W hW hcc' (by omega))
  have HC := Lib.hid (fun W hW => conv_str (w := W) (a := a) (len := len) (l := l) hW cap)
  have HC' := Lib.hid (fun W hW => conv_str (w := W) (a := a') (len := len') (l := l') hW cap')
  have hee : ((txt (b64 l)).toList == (txt (b64 l')).toList) = ((txt l).toList == (txt l').toList) := by
    rw [Bool.eq_iff_iff]
    simp only [beq_iff_eq, ByteArray.toList_eq]
    constructor
    · intro e; exact b64_inj l l' e
    · intro e
      have : l = l' := e
      rw [this]
  generalize txt (b64 l) = t1 at HT hee
  generalize txt (b64 l') = t2 at HT' hee
  generalize txt l = t3 at HC hee
  generalize txt l' = t4 at HC' hee
  generalize hx : (t1.toList == t2.toList) = x at hee
  generalize hy : (t3.toList == t4.toList) = y at hee
  subst hee
  have hxx : (x == x) = true := by simp
  go_enter Try.func7, Try.ntmps7
  go_wp2_with fail
  refine (awake4 _).mono ?_
  rintro e w1 ⟨rfl, hb1⟩
  have HB1 := Lib.hid hb1.drew
  clear hb1
  go_wp2_with fail
  have HKS : Hid (∀ W, Below w.heap.size w W → Hid (Below w.heap.size w W) ∧ (convert 22 9 (.slice a len cap)).run Try.prog W = .ok (.string t3) W ∧ (convert 22 9 (.slice a' len' cap')).run Try.prog W = .ok (.string t4) W) :=
    fun W hW => ⟨hW, HC.out _ (H.out.keep hW), HC'.out _ (H'.out.keep hW)⟩
  go_region_held3 (fun w' => Hid (Below w.heap.size w w') ∧ (convert 22 9 (.slice a len cap)).run Try.prog w' = .ok (.string t3) w' ∧ (convert 22 9 (.slice a' len' cap')).run Try.prog w' = .ok (.string t4) w') (first | exact HKS.out _ HB1.out | exact HKS.out _ ‹Below w.heap.size w _›)
    (first
      | (go_at_call 26; with_reducible refine (HT.out _ (H.out.keep (‹Hid (Below _ _ _) ∧ _›).1.out)).mono ?_; rintro e w5 ⟨rfl, hb5⟩; have hB5 := Below.trans (‹Hid (Below _ _ _) ∧ _›).1.out (hb5.mono (‹Hid (Below _ _ _) ∧ _›).1.out.size); clear hb5)
      | (go_at_call 26; with_reducible refine (HT'.out _ (H'.out.keep (‹Hid (Below _ _ _) ∧ _›).1.out)).mono ?_; rintro e w5 ⟨rfl, hb5⟩; have hB5 := Below.trans (‹Hid (Below _ _ _) ∧ _›).1.out (hb5.mono (‹Hid (Below _ _ _) ∧ _›).1.out.size); clear hb5))
  all_goals
    go_wp2_with fail
    go_ret
    exact ⟨rfl, (‹Hid (Below _ _ _) ∧ _›).1.out⟩

end Go.Proofs.Ytolmeimipchndaa
