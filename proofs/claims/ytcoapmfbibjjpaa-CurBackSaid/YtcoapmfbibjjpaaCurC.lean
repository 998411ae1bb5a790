/- CurBack: the walk. -/
import Derived.Test.YtcoapmfbibjjpaaCurB
namespace Go.Proofs.Ytcoapmfbibjjpaa
open Go.RowKit
set_option linter.unusedVariables false
set_option linter.unusedSimpArgs false

/-- A slice of numbers of 64 bits. -/
def RdU (w : World) (a : Option Addr) (len : Nat) (xs : List Nat) : Prop :=
  xs.length = len ∧ len ≤ 9223372036854775807 ∧ (∀ i, uAt xs i < okSize) ∧ RdF w a len fun i => .int .u64 (uAt xs i : Nat)

theorem RdU.keep {w w' : World} {a len xs} (h : RdU w a len xs) (hb : Below w.heap.size w w') : RdU w' a len xs := ⟨h.1, h.2.1, h.2.2.1, h.2.2.2.keep hb (Nat.le_refl _)⟩

theorem RdU.at {w : World} {a len xs} (h : RdU w a len xs) (i : Nat) (hi : i < len) : ∃ b o, a = some ⟨b, o, none⟩ ∧ w.cell? ⟨b, o + i, none⟩ = some (.int .u64 (uAt xs i : Nat)) := h.2.2.2 i hi

theorem RdI.u64 {W : World} {a : Option Addr} {len : Nat} {l : List Int} (h : RdI .u64 W a len l) : RdU W a len (l.map Int.toNat) := by
  have hw : ∀ n ∈ l, 0 ≤ n ∧ n.toNat < okSize := by
    intro n hn
    have := h.2.2.1 n hn
    simp [Lit.wf, IntKind.min, IntKind.max, IntKind.signed, IntKind.bits] at this
    unfold okSize
    omega
  refine ⟨by simpa using h.1, h.2.1, fun i => ?_, fun i hi => ?_⟩
  · unfold uAt
    rw [List.getD_eq_getElem?_getD, List.getElem?_map]
    cases hl : l[i]? with
    | none => simp [okSize]
    | some n => exact (hw n (List.mem_of_getElem? hl)).2
  · obtain ⟨b, o, ha, hc⟩ := h.2.2.2 i hi
    refine ⟨b, o, ha, ?_⟩
    have hl : i < l.length := by rw [h.1]; exact hi
    have h0 := (hw l[i] (List.getElem_mem hl)).1
    rw [hc]
    simp only [uAt, List.getD_eq_getElem?_getD, List.getElem?_map, List.getElem?_eq_getElem hl, Option.map_some, Option.getD_some]
    rw [Int.toNat_of_nonneg h0]

set_option maxRecDepth 100000 in
set_option maxHeartbeats 2000000 in
theorem CurBack_walk (w : World) (a : Option Addr) (len cap : Nat) (l : List Int) (h : RdI .u64 w a len l) (n : Int) (hn : (Lit.int .i64 n).wf = true) :
    Calls Try.prog 11 #[.slice a len cap, .int .i64 n] w fun e w' => e = .returned (.bool true) ∧ Below w.heap.size w w' := by
  have H := Lib.hid h.u64
  have hm := h.2.1
  generalize l.map Int.toNat = xs at H
  have hnb := wf_i64 hn
  clear h hn
  by_cases hl : 50 < len
  · go_enter Try.func11, Try.ntmps11
    go_wp2_with (go_at_call 37; refine (awake1 _).mono ?_; rintro e w1 ⟨rfl, hb⟩)
    go_ret
    exact ⟨rfl, hb⟩
  by_cases hn1 : n < 1
  · go_enter Try.func11, Try.ntmps11
    go_wp2_with (go_at_call 37; refine (awake1 _).mono ?_; rintro e w1 ⟨rfl, hb⟩)
    go_ret
    exact ⟨rfl, hb⟩
  by_cases hn8 : 8 < n
  · go_enter Try.func11, Try.ntmps11
    go_wp2_with (go_at_call 37; refine (awake1 _).mono ?_; rintro e w1 ⟨rfl, hb⟩)
    go_ret
    exact ⟨rfl, hb⟩
  obtain ⟨m, rfl⟩ : ∃ m : Nat, n = m := ⟨n.toNat, by omega⟩
  have m1 : 1 ≤ m := by omega
  have m8 : m ≤ 8 := by omega
  have HL := Lib.hid H.out.1
  clear hnb
  go_enter Try.func11, Try.ntmps11
  go_wp2_with fail
  refine (awake1 _).mono ?_
  rintro e w1 ⟨rfl, hb1⟩
  have H1 := Lib.hid hb1
  clear hb1
  go_wp2_with fail
  refine (lay_calls _).mono ?_
  rintro e w2 ⟨g, rfl, hw2, hb2, hg⟩
  have H2 := Lib.hid (H1.out.trans (hb2.mono H1.out.size))
  have HW2 := Lib.hid hw2
  have hgw : w.heap.size ≤ g := Nat.le_trans H1.out.size hg
  have s12 := hb2.size
  have s1 := H1.out.size
  clear hw2 hb2 hg
  go_wp2_with fail
  go_loopw [6] (fun i wr => ∃ k : Nat, k ≤ len ∧ i = .int .i64 k ∧ (∃ v, Wtr wr w.heap.size g v (enc m (xs.take k))) ∧ Below w.heap.size w wr) (fun i _ => len - (intOf i).toNat)
  case atStart => exact ⟨0, by omega, rfl, ⟨_, ⟨HW2.out.1, HW2.out.2.1, HW2.out.2.2.1.weaken s1, HW2.out.2.2.2⟩⟩, H2.out⟩
  case round =>
    obtain ⟨k, hk, rfl, ⟨v, hw⟩, hbl⟩ := hrel
    have HWr := Lib.hid hw
    have HB := Lib.hid hbl
    have hsz := hbl.size
    have HX := Lib.hid (H.out.keep hbl)
    clear hw hbl
    by_cases hlt : k < len
    · obtain ⟨b, o, rfl, hc⟩ := HX.out.at k hlt
      have HU := Lib.hid (HX.out.2.2.1 k)
      have HE := Lib.hid (enc_take m xs k (by rw [HL.out]; exact hlt))
      have hbs : Hid ((enc m (xs.take k)).length ≤ 800) := by
        show _ ≤ 800
        rw [enc_length, List.length_take, HL.out, Nat.min_eq_left hk]
        calc 2 * m * k ≤ 2 * 8 * 50 := Nat.mul_le_mul (by omega) (by omega)
          _ = 800 := rfl
      generalize uAt xs k = x at hc HU HE
      go_wp2_with fail
      refine (wlow_yes g v _ _ _ HWr.out hsz (by have := hbs.out; omega) x m HU.out m1 m8).mono ?_
      rintro e w3 ⟨rfl, v3, hw3, hc3, hv3⟩
      have hb3 : Below w.heap.size wr w3 := hc3.below hsz (by
        rintro i (rfl | h)
        · exact hgw
        · exact (World.ownsRow.lt HWr.out.2.2.1 i h).1)
      have HB3 := Lib.hid (HB.out.trans hb3)
      have HW3 := Lib.hid hw3
      have hsz3 := hb3.size
      have hc' : w3.cell? ⟨b, o + k, none⟩ = some (.int .u64 (x : Nat)) := by
        obtain ⟨b', o', ha', hc0⟩ := H.out.at k hlt
        have hcb := cell_block hc0
        simp only [Option.some.injEq, Addr.mk.injEq, and_true] at ha'
        obtain ⟨rfl, rfl⟩ := ha'
        exact (hb3.cell (p := ⟨b, o + k, none⟩) hcb).trans hc
      clear hw3 hc3 hv3 hb3
      go_wp2_with fail
      refine (whigh_yes g v3 _ _ _ HW3.out (by omega) (by have := hbs.out; simp [leBytes_length]; omega) x m HU.out m1 m8).mono ?_
      rintro e w4 ⟨rfl, v4, hw4, hc4, hv4⟩
      have hb4 : Below w.heap.size w3 w4 := hc4.below (by omega) (by
        rintro i (rfl | h)
        · exact hgw
        · exact (World.ownsRow.lt HW3.out.2.2.1 i h).1)
      rw [HE.out] at hw4
      have HB4 := Lib.hid (HB3.out.trans hb4)
      have HW4 := Lib.hid hw4
      clear hw4 hc4 hv4 hb4
      go_wp2_with fail
      go_roundw
      case rel => exact ⟨k + 1, by omega, by simp, ⟨v4, HW4.out⟩, HB4.out⟩
      case measure => simp [intOf]; omega
    · obtain rfl : k = len := by omega
      have ht : xs.take k = xs := List.take_of_length_le (by rw [HL.out]; omega)
      have hw := HWr.out
      rw [ht] at hw
      have HWf := Lib.hid hw
      have hbs : (enc m xs).length ≤ 800 := by
        rw [enc_length, HL.out]
        calc 2 * m * k ≤ 2 * 8 * 50 := Nat.mul_le_mul (by omega) (by omega)
          _ = 800 := rfl
      clear hw ht HWr
      go_wp2_with fail
      refine (wbytes_calls g v _ _ _ HWf.out (by omega)).mono ?_
      rintro e w3 ⟨v3, rfl, ho3, hb3⟩
      obtain ⟨a3, c3, hve, hr3⟩ := ho3.reads
      have hnc := own_nilcap (hve ▸ ho3)
      rw [hve]
      have HR3 := Lib.hid hr3
      have HNC := Lib.hid hnc
      have HB3 := Lib.hid (HB.out.trans (hb3.mono hsz))
      clear ho3 hb3 hve hr3 hnc
      go_wp2_with fail
      refine (new_calls a3 _ c3 _ _ HR3.out HNC.out (by omega)).mono ?_
      rintro e w4 ⟨r, rfl, hr4, hb4, hrr⟩
      have HB4 := Lib.hid (HB3.out.trans (hb4.mono HB3.out.size))
      have hrw : w.heap.size ≤ r := Nat.le_trans HB3.out.size hrr
      have HR4 := Lib.hid hr4
      clear hr4 hb4 hrr
      go_wp2_with fail
      have HXk := Lib.hid (H.out.keep HB4.out)
      have hk50 : k ≤ 50 := by omega
      go_loopw [8] (fun i wr => ∃ j : Nat, j ≤ k ∧ i = .int .i64 j ∧ Rdr wr r (enc m xs) (2 * m * j) ∧ Below w.heap.size w wr) (fun i _ => k - (intOf i).toNat)
      case atStart => exact ⟨0, by omega, rfl, HR4.out, HB4.out⟩
      case round =>
        obtain ⟨j, hj, rfl, hrd, hbl⟩ := hrel
        have HRr := Lib.hid hrd
        have HBr := Lib.hid hbl
        have hszr := hbl.size
        have HXr := Lib.hid (H.out.keep hbl)
        clear hrd hbl
        by_cases hjk : j < k
        · obtain ⟨b, o, rfl, hc⟩ := HXr.out.at j hjk
          have HU := Lib.hid (HXr.out.2.2.1 j)
          have HE := Lib.hid (enc_seg m xs j (by rw [HL.out]; exact hjk))
          generalize uAt xs j = x at hc HU HE
          have i0 : (0 : Int) ≤ 64 - 8 * (m : Int) := by omega
          have i1 : (64 : Int) - 8 * (m : Int) ≤ 56 := by omega
          obtain ⟨z, hz⟩ : ∃ z : Nat, z = x % 256 ^ m := ⟨_, rfl⟩
          have hsh : IntKind.u64.wrap ((x : Int) * 2 ^ (64 - 8 * m)) / 2 ^ (64 - 8 * m) = (z : Int) := by rw [hz]; exact shl_shr x m HU.out m1 m8
          have hlen : 2 * m * j + m + m ≤ (enc m xs).length := by
            rw [enc_length, HL.out]
            have : 2 * m * (j + 1) ≤ 2 * m * k := Nat.mul_le_mul_left _ hjk
            rw [Nat.mul_add] at this
            omega
          have e1 : le (seg (enc m xs) (2 * m * j) m) = z := by rw [HE.out.1, le_leBytes, hz]
          have e2 : be (seg (enc m xs) (2 * m * j + m) m) = z := by rw [HE.out.2, be_rev, le_leBytes, hz]
          have e3 : 2 * m * j + m + m = 2 * m * (j + 1) := by rw [Nat.mul_add]; omega
          have C1 := Lib.hid (rlow_yes r _ _ _ HRr.out m m1 m8 (Nat.le_trans (by omega) hlen))
          have C2 := Lib.hid (fun (W : World) (hR : Rdr W r (enc m xs) (2 * m * j + m)) => rhigh_yes r _ _ W hR m m1 m8 hlen)
          rw [e1] at C1
          rw [e2, e3] at C2
          have hzz : ((z : Int) != z) = false := by simp
          have HR0 := HRr
          clear hz hlen e1 e2 e3 HE
          go_wp2_with fail
          refine C1.out.mono ?_
          rintro e w5 ⟨rfl, hr5, hc5⟩
          have hb5 : Below w.heap.size wr w5 := hc5.below hszr (by rintro i rfl; exact hrw)
          have HB5 := Lib.hid (HBr.out.trans hb5)
          have HR5 := Lib.hid hr5
          clear hr5 hc5 hb5
          go_wp2_with fail
          refine (C2.out _ HR5.out).mono ?_
          rintro e w6 ⟨rfl, hr6, hc6⟩
          have hb6 : Below w.heap.size w5 w6 := hc6.below HB5.out.size (by rintro i rfl; exact hrw)
          have HB6 := Lib.hid (HB5.out.trans hb6)
          have HR6 := Lib.hid hr6
          clear hr6 hc6 hb6
          go_wp2_with fail
          go_roundw
          case rel => exact ⟨j + 1, by omega, by simp, HR6.out, HB6.out⟩
          case measure => simp [intOf]; omega
        · obtain rfl : j = k := by omega
          have hlen : (enc m xs).length = 2 * m * j := by rw [enc_length, HL.out]
          have CL := Lib.hid (rleft_calls r _ _ _ HRr.out)
          have CA := Lib.hid (fun nd => rat_calls r _ _ _ (HRr.out.keep (below_drewN wr nd _)))
          rw [hlen] at CL
          obtain ⟨q, hq⟩ : ∃ q : Nat, q = 2 * m * j := ⟨_, rfl⟩
          have hql : q ≤ 800 := by
            rw [hq]
            calc 2 * m * j ≤ 2 * 8 * 50 := Nat.mul_le_mul (by omega) (by omega)
              _ = 800 := rfl
          have hm2 : (2 : Int) * (m : Int) * (j : Int) = (q : Int) := by rw [hq, Int.natCast_mul, Int.natCast_mul]; rfl
          rw [← hq] at CL
          rw [← hq] at CA
          rw [show ((q : Int) - (q : Int)) = 0 from by omega] at CL
          have hqq : ((q : Int) == q) = true := by simp
          clear hlen hq
          go_wp2_with (first | (go_at_call 45; refine CL.out.mono ?_; rintro e w5 ⟨rfl, nd, rfl⟩) | (go_at_call 46; refine (CA.out _).mono ?_; rintro e w5 ⟨rfl, rfl⟩))
          go_ret
          exact ⟨rfl, Below_drewN HBr.out⟩
end Go.Proofs.Ytcoapmfbibjjpaa
