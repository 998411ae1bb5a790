/- The reference's PutHigh, High. -/
import Derived.Test.YthahhjmgjlkmfaaNum2
namespace Go.Proofs.Ythahhjmgjlkmfaa
open Go.RowKit
set_option linter.unusedVariables false
set_option linter.unusedSimpArgs false

/-- Great end first. -/
def be (l : List UInt8) : Nat := le l.reverse

theorem be_snoc (l : List UInt8) (b : UInt8) : be (l ++ [b]) = be l * 256 + b.toNat := by simp [be, le]; omega
theorem be_lt (l : List UInt8) : be l < 256 ^ l.length := by have := le_lt l.reverse; simpa [be] using this

theorem seg_snoc (l : List UInt8) (p n k : Nat) (h : p + n ≤ l.length) (hk : k < n) : (seg l p n).take (k + 1) = (seg l p n).take k ++ [l.getD (p + k) 0] := by
  have hl : k < (seg l p n).length := by rw [seg_length l p n h]; exact hk
  rw [List.take_succ_eq_append_getElem hl]
  congr 2
  have e : (seg l p n).getD k 0 = l.getD (p + k) 0 := by simp only [seg]; rw [getD_take _ _ _ _ hk, getD_drop]
  rw [← e, List.getD_eq_getElem?_getD, List.getElem?_eq_getElem hl]
  rfl

theorem be_seg_step (l : List UInt8) (p n k : Nat) (h : p + n ≤ l.length) (hk : k < n) : be ((seg l p n).take (k + 1)) = be ((seg l p n).take k) * 256 + bAt l (p + k) := by
  rw [seg_snoc l p n k h hk, be_snoc]; rfl

theorem be_seg_small (l : List UInt8) (p n k : Nat) (h : p + n ≤ l.length) (hk : k ≤ n) (hn : n ≤ 8) : be ((seg l p n).take k) < okSize := by
  refine Nat.lt_of_lt_of_le (be_lt _) ?_
  rw [List.length_take, seg_length _ _ _ h]
  show 256 ^ _ ≤ 256 ^ 8
  exact Nat.pow_le_pow_right (by omega) (by omega)

theorem high_round (l : List UInt8) (p n k : Nat) (h : p + n ≤ l.length) (hn : n ≤ 8) (hk : k < n) :
    IntKind.u64.wrap (IntKind.u64.wrap ((be ((seg l p n).take k) : Nat) * 256 : Int) + IntKind.u64.wrap ((bAt l (p + k) : Nat) : Int)) = (be ((seg l p n).take (k + 1)) : Int) := by
  have e := be_seg_step l p n k h hk
  have s := be_seg_small l p n (k + 1) h hk hn
  have b := bAt_lt l (p + k)
  unfold okSize at s
  generalize be ((seg l p n).take (k + 1)) = A at *
  generalize be ((seg l p n).take k) = C at *
  generalize bAt l (p + k) = D at *
  rw [wrap_u64_of (n := (C : Int) * 256) (by omega) (by omega), wrap_u64_of (n := (D : Int)) (by omega) (by omega), wrap_u64_of (by omega) (by omega)]
  omega

set_option maxHeartbeats 1000000 in
theorem high_yes (a : Option Addr) (len cap p n : Nat) (w : World) (l : List UInt8) (h : RdB w a len l) (h0 : p + n ≤ len) (hn1 : 1 ≤ n) (hn8 : n ≤ 8) :
    Calls Try.prog 18 #[.slice a len cap, .int .i64 p, .int .i64 n] w fun e w' => e = .returned (.tuple #[.int .u64 (be (seg l p n)), .bool true]) ∧ w = w' := by
  have HC := Lib.hid h
  have hm := h.2.1
  clear h
  go_enter Try.func18, Try.ntmps18
  go_wp2
  go_loop [8, 9] (fun v i => ∃ k : Nat, k ≤ n ∧ i = .int .i64 k ∧ v = .int .u64 (be ((seg l p n).take k))) (fun _ i => n - (intOf i).toNat)
  case atStart => exact ⟨0, by omega, rfl, rfl⟩
  case round =>
    obtain ⟨k, hk, rfl, rfl⟩ := hrel
    by_cases hlt : k < n
    · obtain ⟨b, o, rfl, hcc⟩ := HC.out.at (p + k) (by omega)
      go_wp2
      go_round
      case rel => exact ⟨k + 1, by omega, by simp, by rw [high_round l p n k (by rw [HC.out.1]; exact h0) hn8 hlt]⟩
      case measure => simp [intOf]; omega
    · obtain rfl : k = n := by omega
      have hf : Hid ((seg l p k).take k = seg l p k) := List.take_of_length_le (by rw [seg_length _ _ _ (by rw [HC.out.1]; exact h0)]; omega)
      go_wp2
      go_ret2
      exact ⟨by rw [hf.out]; rfl, rfl⟩

set_option maxHeartbeats 1000000 in
theorem high_no (a : Option Addr) (len cap : Nat) (p n : Int) (w : World) (hm : len ≤ 9223372036854775807) (h : n < 1 ∨ 8 < n ∨ p < 0 ∨ (len : Int) < p + n) (hn : n ≤ 9223372036854775807) (hp : p ≤ 9223372036854775807) :
    Calls Try.prog 18 #[.slice a len cap, .int .i64 p, .int .i64 n] w fun e w' => e = .returned (.tuple #[.int .u64 0, .bool false]) ∧ w = w' := by
  by_cases h1 : n < 1
  · go_enter Try.func18, Try.ntmps18
    go_wp2
    go_ret2
    exact ⟨rfl, rfl⟩
  by_cases h2 : 8 < n
  · go_enter Try.func18, Try.ntmps18
    go_wp2
    go_ret2
    exact ⟨rfl, rfl⟩
  by_cases h3 : p < 0
  · go_enter Try.func18, Try.ntmps18
    go_wp2
    go_ret2
    exact ⟨rfl, rfl⟩
  by_cases h4 : (len : Int) < p
  · go_enter Try.func18, Try.ntmps18
    go_wp2
    go_ret2
    exact ⟨rfl, rfl⟩
  have h5 : (len : Int) - p < n := by omega
  clear h
  go_enter Try.func18, Try.ntmps18
  go_wp2
  go_ret2
  exact ⟨rfl, rfl⟩

/-- What PutHigh answers. -/
def putHighS (v : Nat) (n : Int) : List UInt8 := (putLowS v n).reverse

def PHRel (w : World) (bs : List UInt8) (o i : Value) (wr : World) : Prop :=
  ∃ k : Nat, k ≤ bs.length ∧ i = .int .i64 ((k : Int) - 1) ∧ OwnB wr w.heap.size o (bs.drop k).reverse ∧ Below w.heap.size w wr

theorem ph_next {w wr w1 : World} {o o' : Value} {bs : List UInt8} {k : Nat} {ob : Obj} (hk : k ≤ bs.length) (h0 : 0 < k)
    (ho : OwnB wr w.heap.size o (bs.drop k).reverse) (hb : Below w.heap.size w wr) (hg : (wr.alloc ob).grownBy w1 o.ownBlock)
    (ho' : w1.ownsRow w.heap.size 5 1 o' (bs.length - k + 1) (byteCells (bs.drop k).reverse ++ [.int .u8 (bAt bs (k - 1) : Nat)])) :
    PHRel w bs o' (.int .i64 ((k : Int) - 1 - 1)) w1 := by
  refine ⟨k - 1, by omega, by rw [show ((k - 1 : Nat) : Int) = (k : Int) - 1 from by omega], ?_, ?_⟩
  · have e : (bs.drop (k - 1)).reverse = (bs.drop k).reverse ++ [UInt8.ofNat (bAt bs (k - 1))] := by
      rw [drop_getD bs 0 (k - 1) (by omega), List.reverse_cons, show k - 1 + 1 = k from by omega]
      congr 2
      apply UInt8.toNat_inj.1
      simp [bAt]
    rw [e]
    exact own_snoc (bAt_lt _ _) (by rw [List.length_reverse, List.length_drop]; exact ho')
  · exact (hb.alloc hb.size ob).grown hg (by have := hb.size; simp; omega) fun x hx => ((World.ownsRow.alloc ho ob).lt x hx).1

theorem own_kept {w w1 : World} {B : Nat} {v : Value} {bs : List UInt8} (h : OwnB w B v bs) (hb : Below w.heap.size w w1) : OwnB w1 B v bs := h.chg (S := fun _ => False) (Chg.of_below hb) (fun _ _ h => h)

set_option maxRecDepth 100000 in
set_option maxHeartbeats 1000000 in
theorem putHigh_calls (v : Nat) (n : Int) (hv : v < okSize) (w : World) :
    Calls Try.prog 27 #[.int .u64 (v : Nat), .int .i64 n] w (BytesPost w (putHighS v n)) := by
  obtain ⟨i0, hi, hz0, hz1, hz2⟩ := info_parts infoU8
  have HI := Lib.hid hi
  have C := Lib.hid (putLow_calls v n hv w)
  clear hi hv
  unfold putHighS
  have hl8 : (putLowS v n).length ≤ 8 := by unfold putLowS; split <;> simp [leBytes_length]; omega
  generalize putLowS v n = bs at C hl8
  go_enter Try.func27, Try.ntmps27
  go_wp2_with fail
  refine C.out.mono ?_
  rintro e w1 ⟨v1, rfl, hown, hb⟩
  have HO := Lib.hid hown
  have HB := Lib.hid hb
  have hsz := hb.size
  obtain ⟨a1, cap1, hve, hrd⟩ := hown.reads
  rw [hve]
  have HR := Lib.hid hrd
  clear hb hrd hve hown HO
  go_wp2_with fail
  go_loopw [6, 7] (fun o i wr => PHRel w1 bs o i wr) (fun _ i _ => (intOf i + 1).toNat)
  case atStart => exact ⟨bs.length, Nat.le_refl _, rfl, by rw [List.drop_length]; exact World.ownsRow_nil _ _ _ _, Below.refl _ _⟩
  case round =>
    obtain ⟨k, hk, rfl, hown, hbl⟩ := hrel
    have HO := Lib.hid hown
    have HBL := Lib.hid hbl
    have hs2 := hbl.size
    have HRW := Lib.hid (HR.out.keep hbl)
    have hlen : (bs.drop k).reverse.length ≤ 8 := by simp; omega
    clear hown hbl
    by_cases h0 : 0 < k
    · obtain ⟨b, o, rfl, hcc⟩ := HRW.out.at (k - 1) (by omega)
      have hk1 : ((k : Int) - 1).toNat = k - 1 := by omega
      go_wp2_with (at_builtin; refine wpList_append_own _ rfl _ _ 22 rfl w1.heap.size 5 i0 (.int .u8 0) 1 1 Try.underlying22 HI.out hz0 hz1 hz2 rfl (by decide) _ _ (byteCells (bs.drop k).reverse) rfl (World.ownsRow.alloc HO.out _) ⟨wr.heap.size, 0, none⟩ 1 1 [.int .u8 (bAt bs (k - 1) : Nat)] rfl rfl (cell_one_new _ _ _) ?c2 ?c3 ?c4 ?c5 ?_)
      case c2 => simp [Value.oneCell']
      case c3 => unfold maxLen; omega
      case c4 => omega
      case c5 => simp; omega
      intro v' w2 hown' hgrow _
      have HO' := Lib.hid hown'
      have HG := Lib.hid hgrow
      clear hown' hgrow
      go_wp2_with fail
      go_roundw
      case rel => exact ph_next hk h0 HO.out HBL.out HG.out HO'.out
      case measure => simp [intOf]; omega
    · obtain rfl : k = 0 := by omega
      go_wp2_with fail
      go_ret
      exact ⟨_, rfl, HO.out.weaken hsz, HB.out.trans (HBL.out.mono hsz)⟩

end Go.Proofs.Ythahhjmgjlkmfaa
