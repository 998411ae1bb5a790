/- Numbers of bytes, the low one first, the high one first (out of the texts of layer 1). -/
import Derived.Test.YtambhapgjonmmaaRows
import Derived.Test.YtambhapgjonmmaaLib
import Derived.Test.YtambhapgjonmmaaOwn
namespace Go.Proofs.Ytambhapgjonmmaa
open Go.RowKit
set_option linter.unusedVariables false
set_option linter.unusedSimpArgs false

/-- n bytes from a place on, if there are so many. -/
def seg (l : List UInt8) (p n : Nat) : List UInt8 := (l.drop p).take n

theorem seg_length (l : List UInt8) (p n : Nat) (h : p + n ≤ l.length) : (seg l p n).length = n := by simp [seg]; omega

theorem seg_drop (l : List UInt8) (p n k : Nat) (h : p + n ≤ l.length) (hk : k < n) : (seg l p n).drop k = l.getD (p + k) 0 :: (seg l p n).drop (k + 1) := by
  rw [drop_getD _ 0 _ (by rw [seg_length _ _ _ h]; exact hk)]
  congr 1
  simp only [seg]
  rw [getD_take _ _ _ _ hk, getD_drop]

theorem le_seg_drop (l : List UInt8) (p n k : Nat) (h : p + n ≤ l.length) (hk : k < n) : le ((seg l p n).drop k) = bAt l (p + k) + 256 * le ((seg l p n).drop (k + 1)) := by
  rw [seg_drop l p n k h hk]; rfl

theorem le_seg_small (l : List UInt8) (p n k : Nat) (h : p + n ≤ l.length) (hn : n ≤ 8) : le ((seg l p n).drop k) < okSize := by
  refine Nat.lt_of_lt_of_le (le_lt _) ?_
  rw [List.length_drop, seg_length _ _ _ h]
  show 256 ^ _ ≤ 256 ^ 8
  exact Nat.pow_le_pow_right (by omega) (by omega)

theorem low_round (l : List UInt8) (p n k : Nat) (h : p + n ≤ l.length) (hn : n ≤ 8) (hk : k ≤ n) (h0 : 0 < k) :
    IntKind.u64.wrap (IntKind.u64.wrap ((le ((seg l p n).drop k) : Nat) * 256 : Int) + IntKind.u64.wrap ((bAt l (p + (k - 1)) : Nat) : Int)) = (le ((seg l p n).drop (k - 1)) : Int) := by
  have e := le_seg_drop l p n (k - 1) h (by omega)
  have s := le_seg_small l p n (k - 1) h hn
  rw [show k - 1 + 1 = k from by omega] at e
  have b := bAt_lt l (p + (k - 1))
  unfold okSize at s
  generalize le ((seg l p n).drop (k - 1)) = A at *
  generalize le ((seg l p n).drop k) = C at *
  generalize bAt l (p + (k - 1)) = D at *
  rw [wrap_u64_of (n := (C : Int) * 256) (by omega) (by omega), wrap_u64_of (n := (D : Int)) (by omega) (by omega), wrap_u64_of (by omega) (by omega)]
  omega

/-- The n lowest bytes, the lowest one first. -/
def leBytes : Nat → Nat → List UInt8
  | 0, _ => []
  | n + 1, v => UInt8.ofNat v :: leBytes n (v / 256)

theorem leBytes_length : ∀ (n v : Nat), (leBytes n v).length = n
  | 0, _ => rfl
  | n + 1, v => by simp [leBytes, leBytes_length n]

theorem leBytes_snoc : ∀ (n v : Nat), leBytes (n + 1) v = leBytes n v ++ [UInt8.ofNat (v / 256 ^ n)]
  | 0, v => by simp [leBytes]
  | n + 1, v => by
    rw [leBytes, leBytes_snoc n (v / 256)]
    simp only [leBytes, List.cons_append, Nat.div_div_eq_div_mul, Nat.pow_succ]
    rw [Nat.mul_comm 256]

theorem le_leBytes : ∀ (n v : Nat), le (leBytes n v) = v % 256 ^ n
  | 0, v => by simp [leBytes, le]; omega
  | n + 1, v => by
    simp only [leBytes, le, le_leBytes n]
    have h : (UInt8.ofNat v).toNat = v % 256 := by simp
    rw [h, Nat.pow_succ, Nat.mul_comm (256 ^ n) 256, Nat.mod_mul]

/-- What PutLow answers. -/
def putLowS (v : Nat) (n : Int) : List UInt8 := if 1 ≤ n ∧ n ≤ 8 then leBytes n.toNat v else []

/-- A new row of bytes, answered. -/
def BytesPost (w : World) (bs : List UInt8) (e : Ending) (w' : World) : Prop :=
  ∃ v, e = .returned v ∧ OwnB w' w.heap.size v bs ∧ Below w.heap.size w w'

theorem own_snoc {w : World} {B : Nat} {v : Value} {bs : List UInt8} {x : Nat} (hx : x < 256) (h : w.ownsRow B 5 1 v (bs.length + 1) (byteCells bs ++ [.int .u8 (x : Nat)])) : OwnB w B v (bs ++ [UInt8.ofNat x]) := by
  have e : byteCells (bs ++ [UInt8.ofNat x]) = byteCells bs ++ [.int .u8 (x : Nat)] := by
    rw [byteCells_append]
    simp [byteCells]
    omega
  unfold OwnB
  rw [e, List.length_append]
  exact h

theorem div_step (v k : Nat) : v / 256 ^ k / 256 = v / 256 ^ (k + 1) := by rw [Nat.div_div_eq_div_mul, Nat.pow_succ]

def PutRel (w : World) (v0 : Nat) (n : Nat) (q o i : Value) (wr : World) : Prop :=
  ∃ k : Nat, k ≤ n ∧ i = .int .i64 k ∧ q = .int .u64 (v0 / 256 ^ k : Nat) ∧ OwnB wr w.heap.size o (leBytes k v0) ∧ Below w.heap.size w wr

theorem put_next {w wr w1 : World} {o o' : Value} {v0 n k : Nat} {ob : Obj} (hk : k < n)
    (ho : OwnB wr w.heap.size o (leBytes k v0)) (hb : Below w.heap.size w wr) (hg : (wr.alloc ob).grownBy w1 o.ownBlock)
    (ho' : w1.ownsRow w.heap.size 5 1 o' (k + 1) (byteCells (leBytes k v0) ++ [.int .u8 (v0 / 256 ^ k % 256 : Nat)])) :
    PutRel w v0 n (.int .u64 (v0 / 256 ^ (k + 1) : Nat)) o' (.int .i64 ((k + 1 : Nat) : Int)) w1 := by
  refine ⟨k + 1, by omega, rfl, rfl, ?_, ?_⟩
  · rw [leBytes_snoc]
    have : UInt8.ofNat (v0 / 256 ^ k) = UInt8.ofNat (v0 / 256 ^ k % 256) := by apply UInt8.toNat_inj.1; simp
    rw [this]
    refine own_snoc (Nat.mod_lt _ (by omega)) ?_
    rw [leBytes_length]
    exact ho'
  · exact (hb.alloc hb.size ob).grown hg (by have := hb.size; simp; omega) fun x hx => ((World.ownsRow.alloc ho ob).lt x hx).1

set_option maxRecDepth 100000 in
set_option maxHeartbeats 1000000 in
theorem putLow_yes (v n : Nat) (hv : v < okSize) (h1 : 1 ≤ n) (h8 : n ≤ 8) (w : World) :
    Calls Try.prog 53 #[.int .u64 (v : Nat), .int .i64 n] w (BytesPost w (leBytes n v)) := by
  obtain ⟨i0, hi, hz0, hz1, hz2⟩ := info_parts infoU8
  have HI := Lib.hid hi
  have HV := Lib.hid hv
  clear hi hv
  go_enter Try.func53, Try.ntmps53
  go_wp2_with fail
  go_loopw [0, 5, 6] (fun q o i wr => PutRel w v n q o i wr) (fun _ _ i _ => n - (intOf i).toNat)
  case atStart => exact ⟨0, by omega, rfl, by simp, World.ownsRow_nil _ _ _ _, Below.refl _ _⟩
  case round =>
    obtain ⟨k, hk, rfl, rfl, hown, hbl⟩ := hrel
    have HO := Lib.hid hown
    have HB := Lib.hid hbl
    have hsz := hbl.size
    clear hown hbl
    by_cases hlt : k < n
    · have hx : Hid (v / 256 ^ k < okSize) := Nat.lt_of_le_of_lt (Nat.div_le_self _ _) HV.out
      have HD := Lib.hid (div_step v k)
      generalize hu : v / 256 ^ k = u at hx HD
      obtain ⟨x, hxe⟩ : ∃ x : Nat, x = u % 256 := ⟨_, rfl⟩
      have hu8 : IntKind.u8.wrap (u : Int) = (x : Int) := by rw [IntKind.wrap_u8']; omega
      have HU := Lib.hid hu
      have HX := Lib.hid hxe
      clear hu hxe
      go_wp2_with (at_builtin; refine wpList_append_own _ rfl _ _ 23 rfl w.heap.size 5 i0 (.int .u8 0) 1 1 Try.underlying23 HI.out hz0 hz1 hz2 rfl (by decide) _ k (byteCells (leBytes k v)) rfl ?own ⟨wr.heap.size, 0, none⟩ 1 1 [.int .u8 (x : Nat)] rfl rfl (cell_one_new _ _ _) ?c2 ?c3 ?c4 ?c5 ?_)
      case own => exact World.ownsRow.alloc (by have := HO.out; unfold OwnB at this; rwa [leBytes_length] at this) _
      case c2 => simp [Value.oneCell']
      case c3 => unfold maxLen; omega
      case c4 => omega
      case c5 => simp; omega
      intro v' w1 hown' hgrow _
      have HO' := Lib.hid hown'
      have HG := Lib.hid hgrow
      clear hown' hgrow
      go_wp2_with fail
      go_roundw
      case rel =>
        have e1 : IntKind.u64.wrap ((u : Int) / 256) = ((v / 256 ^ (k + 1) : Nat) : Int) := by
          rw [← HD.out, wrap_u64_of (by omega) (by have := hx.out; unfold okSize at this; omega)]; omega
        rw [e1, show (k : Int) + 1 = ((k + 1 : Nat) : Int) from rfl]
        exact put_next hlt HO.out HB.out HG.out (by rw [HU.out, ← HX.out]; exact HO'.out)
      case measure => simp [intOf]; omega
    · obtain rfl : k = n := by omega
      go_wp2_with fail
      go_ret
      exact ⟨_, rfl, HO.out, HB.out⟩

set_option maxRecDepth 100000 in
set_option maxHeartbeats 1000000 in
theorem putLow_no (v : Nat) (n : Int) (h : n < 1 ∨ 8 < n) (w : World) :
    Calls Try.prog 53 #[.int .u64 (v : Nat), .int .i64 n] w fun e w' => e = .returned (.slice none 0 0) ∧ w = w' := by
  rcases h with h | h
  · go_enter Try.func53, Try.ntmps53
    go_wp2_with fail
    refine wp_loop_once ?_
    go_wp2_with fail
    go_ret
    exact ⟨rfl, rfl⟩
  · have h' : ¬ n ≤ 8 := by omega
    have h0 : 0 < n := by omega
    go_enter Try.func53, Try.ntmps53
    go_wp2_with fail
    refine wp_loop_once ?_
    go_wp2_with fail
    go_ret
    exact ⟨rfl, rfl⟩

theorem putLow_calls (v : Nat) (n : Int) (hv : v < okSize) (w : World) :
    Calls Try.prog 53 #[.int .u64 (v : Nat), .int .i64 n] w (BytesPost w (putLowS v n)) := by
  unfold putLowS
  by_cases h : 1 ≤ n ∧ n ≤ 8
  · rw [if_pos h]
    have := putLow_yes v n.toNat hv (by omega) (by omega) w
    rwa [Int.toNat_of_nonneg (by omega)] at this
  · rw [if_neg h]
    refine (putLow_no v n (by omega) w).mono ?_
    rintro e w' ⟨rfl, rfl⟩
    exact ⟨_, rfl, World.ownsRow_nil _ _ _ _, Below.refl _ _⟩

/-- Great end first. -/
def be (l : List UInt8) : Nat := le l.reverse

theorem be_snoc (l : List UInt8) (b : UInt8) : be (l ++ [b]) = be l * 256 + b.toNat := by simp [be, le]; omega

theorem be_lt (l : List UInt8) : be l < 256 ^ l.length := by have := le_lt l.reverse; simpa [be] using this

theorem seg_snoc (l : List UInt8) (p n k : Nat) (h : p + n ≤ l.length) (hk : k < n) : (seg l p n).take (k + 1) = (seg l p n).take k ++ [l.getD (p + k) 0] := by
  have hl : k < (seg l p n).length := by rw [seg_length l p n h]; exact hk
  rw [List.take_succ_eq_append_getElem hl]
  congr 2
  have e : (seg l p n).getD k 0 = l.getD (p + k) 0 := by simp only [seg]; rw [getD_take _ _ _ _ hk, getD_drop]
  rw [← e, List.getD_eq_getElem?_getD, List.getElem?_eq_getElem hl]
  rfl

theorem be_seg_step (l : List UInt8) (p n k : Nat) (h : p + n ≤ l.length) (hk : k < n) : be ((seg l p n).take (k + 1)) = be ((seg l p n).take k) * 256 + bAt l (p + k) := by
  rw [seg_snoc l p n k h hk, be_snoc]; rfl

theorem be_seg_small (l : List UInt8) (p n k : Nat) (h : p + n ≤ l.length) (hk : k ≤ n) (hn : n ≤ 8) : be ((seg l p n).take k) < okSize := by
  refine Nat.lt_of_lt_of_le (be_lt _) ?_
  rw [List.length_take, seg_length _ _ _ h]
  show 256 ^ _ ≤ 256 ^ 8
  exact Nat.pow_le_pow_right (by omega) (by omega)

theorem high_round (l : List UInt8) (p n k : Nat) (h : p + n ≤ l.length) (hn : n ≤ 8) (hk : k < n) :
    IntKind.u64.wrap (IntKind.u64.wrap ((be ((seg l p n).take k) : Nat) * 256 : Int) + IntKind.u64.wrap ((bAt l (p + k) : Nat) : Int)) = (be ((seg l p n).take (k + 1)) : Int) := by
  have e := be_seg_step l p n k h hk
  have s := be_seg_small l p n (k + 1) h hk hn
  have b := bAt_lt l (p + k)
  unfold okSize at s
  generalize be ((seg l p n).take (k + 1)) = A at *
  generalize be ((seg l p n).take k) = C at *
  generalize bAt l (p + k) = D at *
  rw [wrap_u64_of (n := (C : Int) * 256) (by omega) (by omega), wrap_u64_of (n := (D : Int)) (by omega) (by omega), wrap_u64_of (by omega) (by omega)]
  omega

set_option maxHeartbeats 1000000 in
theorem high_yes (a : Option Addr) (len cap p n : Nat) (w : World) (l : List UInt8) (h : RdB w a len l) (h0 : p + n ≤ len) (hn1 : 1 ≤ n) (hn8 : n ≤ 8) :
    Calls Try.prog 51 #[.slice a len cap, .int .i64 p, .int .i64 n] w fun e w' => e = .returned (.tuple #[.int .u64 (be (seg l p n)), .bool true]) ∧ w = w' := by
  have HC := Lib.hid h
  have hm := h.2.1
  clear h
  go_enter Try.func51, Try.ntmps51
  go_wp2
  go_loop [8, 9] (fun v i => ∃ k : Nat, k ≤ n ∧ i = .int .i64 k ∧ v = .int .u64 (be ((seg l p n).take k))) (fun _ i => n - (intOf i).toNat)
  case atStart => exact ⟨0, by omega, rfl, rfl⟩
  case round =>
    obtain ⟨k, hk, rfl, rfl⟩ := hrel
    by_cases hlt : k < n
    · obtain ⟨b, o, rfl, hcc⟩ := HC.out.at (p + k) (by omega)
      go_wp2
      go_round
      case rel => exact ⟨k + 1, by omega, by simp, by rw [high_round l p n k (by rw [HC.out.1]; exact h0) hn8 hlt]⟩
      case measure => simp [intOf]; omega
    · obtain rfl : k = n := by omega
      have hf : Hid ((seg l p k).take k = seg l p k) := List.take_of_length_le (by rw [seg_length _ _ _ (by rw [HC.out.1]; exact h0)]; omega)
      go_wp2
      go_ret2
      exact ⟨by rw [hf.out]; rfl, rfl⟩

set_option maxHeartbeats 1000000 in
theorem high_no (a : Option Addr) (len cap : Nat) (p n : Int) (w : World) (hm : len ≤ 9223372036854775807) (h : n < 1 ∨ 8 < n ∨ p < 0 ∨ (len : Int) < p + n) (hn : n ≤ 9223372036854775807) (hp : p ≤ 9223372036854775807) :
    Calls Try.prog 51 #[.slice a len cap, .int .i64 p, .int .i64 n] w fun e w' => e = .returned (.tuple #[.int .u64 0, .bool false]) ∧ w = w' := by
  by_cases h1 : n < 1
  · go_enter Try.func51, Try.ntmps51
    go_wp2
    go_ret2
    exact ⟨rfl, rfl⟩
  by_cases h2 : 8 < n
  · go_enter Try.func51, Try.ntmps51
    go_wp2
    go_ret2
    exact ⟨rfl, rfl⟩
  by_cases h3 : p < 0
  · go_enter Try.func51, Try.ntmps51
    go_wp2
    go_ret2
    exact ⟨rfl, rfl⟩
  by_cases h4 : (len : Int) < p
  · go_enter Try.func51, Try.ntmps51
    go_wp2
    go_ret2
    exact ⟨rfl, rfl⟩
  have h5 : (len : Int) - p < n := by omega
  clear h
  go_enter Try.func51, Try.ntmps51
  go_wp2
  go_ret2
  exact ⟨rfl, rfl⟩

/-- What PutHigh answers. -/
def putHighS (v : Nat) (n : Int) : List UInt8 := (putLowS v n).reverse

def PHRel (w : World) (bs : List UInt8) (o i : Value) (wr : World) : Prop :=
  ∃ k : Nat, k ≤ bs.length ∧ i = .int .i64 ((k : Int) - 1) ∧ OwnB wr w.heap.size o (bs.drop k).reverse ∧ Below w.heap.size w wr

theorem ph_next {w wr w1 : World} {o o' : Value} {bs : List UInt8} {k : Nat} {ob : Obj} (hk : k ≤ bs.length) (h0 : 0 < k)
    (ho : OwnB wr w.heap.size o (bs.drop k).reverse) (hb : Below w.heap.size w wr) (hg : (wr.alloc ob).grownBy w1 o.ownBlock)
    (ho' : w1.ownsRow w.heap.size 5 1 o' (bs.length - k + 1) (byteCells (bs.drop k).reverse ++ [.int .u8 (bAt bs (k - 1) : Nat)])) :
    PHRel w bs o' (.int .i64 ((k : Int) - 1 - 1)) w1 := by
  refine ⟨k - 1, by omega, by rw [show ((k - 1 : Nat) : Int) = (k : Int) - 1 from by omega], ?_, ?_⟩
  · have e : (bs.drop (k - 1)).reverse = (bs.drop k).reverse ++ [UInt8.ofNat (bAt bs (k - 1))] := by
      rw [drop_getD bs 0 (k - 1) (by omega), List.reverse_cons, show k - 1 + 1 = k from by omega]
      congr 2
      apply UInt8.toNat_inj.1
      simp [bAt]
    rw [e]
    exact own_snoc (bAt_lt _ _) (by rw [List.length_reverse, List.length_drop]; exact ho')
  · exact (hb.alloc hb.size ob).grown hg (by have := hb.size; simp; omega) fun x hx => ((World.ownsRow.alloc ho ob).lt x hx).1

theorem own_kept {w w1 : World} {B : Nat} {v : Value} {bs : List UInt8} (h : OwnB w B v bs) (hb : Below w.heap.size w w1) : OwnB w1 B v bs := h.chg (S := fun _ => False) (Chg.of_below hb) (fun _ _ h => h)

set_option maxRecDepth 100000 in
set_option maxHeartbeats 1000000 in
theorem putHigh_calls (v : Nat) (n : Int) (hv : v < okSize) (w : World) :
    Calls Try.prog 43 #[.int .u64 (v : Nat), .int .i64 n] w (BytesPost w (putHighS v n)) := by
  obtain ⟨i0, hi, hz0, hz1, hz2⟩ := info_parts infoU8
  have HI := Lib.hid hi
  have C := Lib.hid (putLow_calls v n hv w)
  clear hi hv
  unfold putHighS
  have hl8 : (putLowS v n).length ≤ 8 := by unfold putLowS; split <;> simp [leBytes_length]; omega
  generalize putLowS v n = bs at C hl8
  go_enter Try.func43, Try.ntmps43
  go_wp2_with fail
  refine C.out.mono ?_
  rintro e w1 ⟨v1, rfl, hown, hb⟩
  have HO := Lib.hid hown
  have HB := Lib.hid hb
  have hsz := hb.size
  obtain ⟨a1, cap1, hve, hrd⟩ := hown.reads
  rw [hve]
  have HR := Lib.hid hrd
  clear hb hrd hve hown HO
  go_wp2_with fail
  go_loopw [6, 7] (fun o i wr => PHRel w1 bs o i wr) (fun _ i _ => (intOf i + 1).toNat)
  case atStart => exact ⟨bs.length, Nat.le_refl _, rfl, by rw [List.drop_length]; exact World.ownsRow_nil _ _ _ _, Below.refl _ _⟩
  case round =>
    obtain ⟨k, hk, rfl, hown, hbl⟩ := hrel
    have HO := Lib.hid hown
    have HBL := Lib.hid hbl
    have hs2 := hbl.size
    have HRW := Lib.hid (HR.out.keep hbl)
    have hlen : (bs.drop k).reverse.length ≤ 8 := by simp; omega
    clear hown hbl
    by_cases h0 : 0 < k
    · obtain ⟨b, o, rfl, hcc⟩ := HRW.out.at (k - 1) (by omega)
      have hk1 : ((k : Int) - 1).toNat = k - 1 := by omega
      go_wp2_with (at_builtin; refine wpList_append_own _ rfl _ _ 23 rfl w1.heap.size 5 i0 (.int .u8 0) 1 1 Try.underlying23 HI.out hz0 hz1 hz2 rfl (by decide) _ _ (byteCells (bs.drop k).reverse) rfl (World.ownsRow.alloc HO.out _) ⟨wr.heap.size, 0, none⟩ 1 1 [.int .u8 (bAt bs (k - 1) : Nat)] rfl rfl (cell_one_new _ _ _) ?c2 ?c3 ?c4 ?c5 ?_)
      case c2 => simp [Value.oneCell']
      case c3 => unfold maxLen; omega
      case c4 => omega
      case c5 => simp; omega
      intro v' w2 hown' hgrow _
      have HO' := Lib.hid hown'
      have HG := Lib.hid hgrow
      clear hown' hgrow
      go_wp2_with fail
      go_roundw
      case rel => exact ph_next hk h0 HO.out HBL.out HG.out HO'.out
      case measure => simp [intOf]; omega
    · obtain rfl : k = 0 := by omega
      go_wp2_with fail
      go_ret
      exact ⟨_, rfl, HO.out.weaken hsz, HB.out.trans (HBL.out.mono hsz)⟩

end Go.Proofs.Ytambhapgjonmmaa
