/- UtfBack: the walk. -/
import Derived.Test.YthahhjmgjlkmfaaUtfE
import Derived.Test.YthahhjmgjlkmfaaAppI
namespace Go.Proofs.Ythahhjmgjlkmfaa
open Go.RowKit
set_option linter.unusedVariables false
set_option linter.unusedSimpArgs false

def nums (cs : List Nat) : List Int := cs.map fun (c : Nat) => (c : Int)
theorem nums_snoc (cs : List Nat) (c : Nat) : nums cs ++ [(c : Int)] = nums (cs ++ [c]) := by simp [nums]
theorem nums_len (cs : List Nat) : (nums cs).length = cs.length := by simp [nums]

theorem puts_len : ∀ cs : List Nat, (puts cs).length ≤ 4 * cs.length
  | [] => by simp [puts]
  | c :: cs => by have := puts_len cs; have := putL_len c; rw [puts_cons, List.length_append, List.length_cons]; omega

/-- What stands at the head of the first loop's rounds. -/
def BkRel (w : World) (len : Nat) (b q i : Value) (wr : World) : Prop :=
  ∃ (vb vw : Value) (k : Nat) (cs : List Nat), vb = b ∧ vw = q ∧ k ≤ len ∧ i = .int .i64 k ∧ cs.length ≤ k ∧ (∀ c ∈ cs, isCh (c : Nat) = true) ∧ OwnB wr w.heap.size vb (puts cs) ∧ OwnI wr w.heap.size vw (nums cs) ∧ Sep vb vw ∧ Below w.heap.size w wr

/-- The second loop's. -/
def BkRel2 (cs : List Nat) (p i : Value) : Prop := ∃ k : Nat, k ≤ cs.length ∧ i = .int .i64 k ∧ p = .int .i64 ((puts (cs.take k)).length : Nat)

set_option maxRecDepth 100000 in
set_option maxHeartbeats 1000000 in
theorem UtfBack_walk (w : World) (a : Option Addr) (len cap : Nat) (l : List Int) (h : RdI .i64 w a len l) :
    Calls Try.prog 10 #[.slice a len cap] w fun e w' => e = .returned (.bool true) ∧ Below w.heap.size w w' := by
  have hm := h.2.1
  have H := Lib.hid h
  clear h
  by_cases hl : 200 < len
  · go_enter Try.func10, Try.ntmps10
    go_wp2_with (go_at_call 31; refine (awake2 _).mono ?_; rintro e w1 ⟨rfl, hb⟩)
    go_ret
    exact ⟨rfl, hb⟩
  go_enter Try.func10, Try.ntmps10
  go_wp2_with fail
  refine (awake2 _).mono ?_
  rintro e w1 ⟨rfl, hb1⟩
  have HB1 := Lib.hid hb1
  have hs1 := hb1.size
  clear hb1
  go_wp2_with fail
  go_loopw [3, 4, 5] (fun b q i wr => BkRel w len b q i wr) (fun _ _ i _ => len - (intOf i).toNat)
  case atStart => exact ⟨_, _, 0, [], rfl, rfl, by omega, rfl, by simp, by simp, World.ownsRow_nil _ _ _ _, World.ownsRow_nil _ _ _ _, Sep.nil _, HB1.out⟩
  case round =>
    obtain ⟨vb, vw, k, cs, rfl, rfl, hk, rfl, hcl, hcs, hob, how, hsep, hbl⟩ := hrel
    have HC := Lib.hid hcs
    have HO := Lib.hid hob
    have HW := Lib.hid how
    have HS := Lib.hid hsep
    have HB := Lib.hid hbl
    have hsz := hbl.size
    have hpl := puts_len cs
    clear hcs hob how hsep hbl
    by_cases hlt : k < len
    · obtain ⟨b, o, rfl, hcw⟩ := H.out.2.2.2 k hlt
      simp only at hcw
      generalize l.getD k 0 = r at hcw
      have hcc := cell_below HB.out hcw
      have HCW := Lib.hid hcw
      clear hcw
      have CP := Lib.hid (fun W => put_calls r W)
      cases hi : isCh r with
      | false =>
        have HH := Lib.hid hi
        clear hi
        go_wp2_with fail
        refine (CP.out _).mono ?_
        intro e w2 hp
        obtain ⟨rfl, rfl⟩ := put_no HH.out hp
        clear hp
        go_wp2_with fail
        go_roundw
        case rel => first | exact ⟨_, _, k + 1, cs, rfl, rfl, by omega, by simp, by omega, HC.out, HO.out, HW.out, HS.out, HB.out⟩ | exact ⟨_, _, _, _, _, ⟨_, _, k + 1, cs, rfl, rfl, by omega, by simp, by omega, HC.out, HO.out, HW.out, HS.out, HB.out⟩, rfl, rfl, rfl, rfl, rfl⟩
        case measure => simp [intOf]; omega
      | true =>
        have h0 : 0 ≤ r ∧ r ≤ 1114111 := by simp [isCh] at hi; omega
        obtain ⟨n, rfl⟩ : ∃ n : Nat, r = n := ⟨r.toNat, by omega⟩
        have HH := Lib.hid hi
        have hpn := putL_len n
        clear hi h0
        go_wp2_with fail
        refine (CP.out _).mono ?_
        intro e w2 hp
        obtain ⟨v2, rfl, ho2, hb2⟩ := put_yes HH.out hp
        clear hp
        have HX2 := Lib.hid ho2.srcB
        have HO2 := Lib.hid (HO.out.keep hb2)
        have HW2 := Lib.hid (owns_keep HW.out hb2)
        have HB2 := Lib.hid (HB.out.trans (hb2.mono hsz))
        have hs2 : w.heap.size ≤ w2.heap.size := HB2.out.size
        clear ho2 hb2
        go_wp2_with (at_builtin; refine wpList_appB (v := vb) (bs := puts cs) (sv := v2) (l := putL n) (B := w.heap.size) (by rfl) _ _ (by rfl) (by rfl) HO2.out (by rfl) HX2.out (by omega) hs2 ?_)
        intro v4 w4 ho4 ha4
        have HO4 := Lib.hid (show OwnB w4 w.heap.size v4 (puts (cs ++ [n])) by rw [puts_snoc]; exact ho4)
        have HW4 := Lib.hid (ha4.owns HS.out HW2.out)
        have HS4 := Lib.hid (ha4.sep HS.out HW2.out)
        have hb4 := ha4.below HB2.out hs2 (fun j hj => (owns_lt HO2.out j hj).1)
        have HB4 := Lib.hid hb4
        have hs4 := hb4.size
        clear ho4 ha4 hb4 HO2 HW2 HX2 HO HW
        have hcc5 := cell_below HB4.out HCW.out
        clear hcc
        go_wp2_with (at_builtin; refine wpList_appI (v := vw) (xs := nums cs) (sv := .slice (some ⟨w4.heap.size, 0, none⟩) 1 1) (l := [(n : Int)]) (B := w.heap.size) (by rfl) _ _ (by rfl) (by rfl) (HW4.out.alloc _) (by rfl) (src_int _ _ _) ?c1 ?c2 ?_)
        case c1 => rw [nums_len]; simp; omega
        case c2 => simp; omega
        intro v6 w6 ho6 ha6
        have HW6 := Lib.hid (show OwnI w6 w.heap.size v6 (nums (cs ++ [n])) by rw [← nums_snoc]; exact ho6)
        have HO6 := Lib.hid (ha6.owns HS4.out.symm (World.ownsRow.alloc HO4.out _))
        have HS6 := Lib.hid (ha6.sep HS4.out.symm (World.ownsRow.alloc HO4.out _)).symm
        have HB6 := Lib.hid (ha6.below (HB4.out.alloc hs4 _) (by simp; omega) (fun j hj => (owns_lt HW4.out j hj).1))
        have HC6 := Lib.hid (show ∀ c ∈ cs ++ [n], isCh (c : Nat) = true from fun c hc => by
          rw [List.mem_append] at hc
          rcases hc with hc | hc
          · exact HC.out c hc
          · simp only [List.mem_singleton] at hc; rw [hc]; exact HH.out)
        clear ho6 ha6
        go_wp2_with fail
        go_roundw
        case rel => first | exact ⟨_, _, k + 1, cs ++ [n], rfl, rfl, by omega, by simp, by simp; omega, HC6.out, HO6.out, HW6.out, HS6.out, HB6.out⟩ | exact ⟨_, _, _, _, _, ⟨_, _, k + 1, cs ++ [n], rfl, rfl, by omega, by simp, by simp; omega, HC6.out, HO6.out, HW6.out, HS6.out, HB6.out⟩, rfl, rfl, rfl, rfl, rfl⟩
        case measure => simp [intOf]; omega
    · have hlk := look_puts cs HC.out
      obtain ⟨ab, cb, rfl, hrb⟩ := HO.out.reads
      obtain ⟨aw, cw, rfl, hwm, hrw⟩ := HW.out.reads
      have CC := Lib.hid (check_calls ab _ cb wr _ hrb)
      have CN := Lib.hid (count_calls ab _ cb wr _ hrb)
      have RU := Lib.hid (fun p => rune_calls ab _ cb p wr _ hrb)
      rw [hlk.1] at CC
      rw [hlk.2] at CN
      rw [nums_len] at hwm hrw ⊢
      have HRW := Lib.hid hrw
      clear hlk hrb hrw HO HW
      obtain ⟨N, hN⟩ : ∃ N, N = (puts cs).length := ⟨_, rfl⟩
      have HNN := Lib.hid hN
      rw [← hN] at CC CN RU hpl ⊢
      rw [show (N == N) = true by simp] at CC
      obtain ⟨M, hM⟩ : ∃ M, M = cs.length := ⟨_, rfl⟩
      have HMM := Lib.hid hM
      rw [← hM] at CN hwm HRW hpl hcl ⊢
      clear hN hM
      go_wp2_with fail
      refine CC.out.mono ?_
      rintro e w2 ⟨rfl, rfl⟩
      go_wp2_with (go_at_call 38; refine CN.out.mono ?_; rintro e w' ⟨rfl, rfl⟩)
      go_loop [10, 11] (fun p i => BkRel2 cs p i) (fun _ i => M - (intOf i).toNat)
      case atStart => exact ⟨0, by omega, rfl, rfl⟩
      case round =>
        obtain ⟨j, hj, rfl, rfl⟩ := hrel
        rw [← HMM.out] at hj
        by_cases hjl : j < M
        · have hjc : j < cs.length := by rw [← HMM.out]; exact hjl
          have hr := rune_puts cs HC.out j hjc
          have hcj := putL_len cs[j]
          have hsn : (puts (cs.take (j + 1))).length = (puts (cs.take j)).length + (putL cs[j]).length := by
            rw [List.take_succ_eq_append_getElem hjc, puts_snoc, List.length_append]
          have hpl2 := puts_len (cs.take j)
          rw [List.length_take] at hpl2
          obtain ⟨b, o, rfl, hcc⟩ := HRW.out j hjl
          simp only [nums, List.getD_eq_getElem?_getD, List.getElem?_map, List.getElem?_eq_getElem hjc, Option.map_some, Option.getD_some] at hcc
          have C := RU.out (puts (cs.take j)).length
          unfold RuneOut at C
          rw [hr] at C
          simp only at C
          generalize cs[j] = c at C hcc hcj hsn
          have HSN := Lib.hid hsn
          obtain ⟨q, hq⟩ : ∃ q, q = (puts (cs.take j)).length := ⟨_, rfl⟩
          rw [← hq] at C HSN hpl2 ⊢
          generalize (putL c).length = m at C hcj HSN
          have HCR := Lib.hid C
          have e1 : ((c : Int) != c) = false := by simp
          clear hr hsn hq C
          go_wp2_with fail
          refine HCR.out.mono ?_
          rintro e w3 ⟨rfl, rfl⟩
          go_wp2_with fail
          go_round
          case rel => first | exact ⟨j + 1, by rw [← HMM.out]; omega, by simp, by rw [HSN.out]; rfl⟩ | exact ⟨_, _, _, _, ⟨j + 1, by rw [← HMM.out]; omega, by simp, by rw [HSN.out]; rfl⟩, rfl, rfl, rfl, rfl⟩
          case measure => simp [intOf]; omega
        · have hjc : cs.take j = cs := List.take_of_length_le (by rw [← HMM.out]; omega)
          rw [hjc, ← HNN.out]
          have e1 : ((N : Int) == N) = true := by simp
          go_wp2_with fail
          go_ret
          exact ⟨rfl, HB.out⟩

end Go.Proofs.Ythahhjmgjlkmfaa
