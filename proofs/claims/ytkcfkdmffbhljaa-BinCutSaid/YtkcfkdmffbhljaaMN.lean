/- The reference's Low: the number of n bytes from a place on. The reference's PutLow, PutHigh, High. Readers of bytes (out of the texts of layer 1). Writers of bytes (out of the texts of layer 1). -/
import Derived.Test.YtkcfkdmffbhljaaRows
import Derived.Test.YtkcfkdmffbhljaaMA
import Derived.Deep.RegionHeld3
import Derived.StillTailTactics
import Derived.Deep.RegionLaw
import Derived.Deep.DrawnRows
import Derived.Maps.AppendAt
import Derived.Laws.OwnMore
namespace Go.Proofs.Ytkcfkdmffbhljaa
open Go.RowKit
set_option linter.unusedVariables false
set_option linter.unusedSimpArgs false

/-- n bytes from a place on, if there are so many. -/
def seg (l : List UInt8) (p n : Nat) : List UInt8 := (l.drop p).take n

theorem seg_length (l : List UInt8) (p n : Nat) (h : p + n ≤ l.length) : (seg l p n).length = n := by simp [seg]; omega

theorem seg_drop (l : List UInt8) (p n k : Nat) (h : p + n ≤ l.length) (hk : k < n) : (seg l p n).drop k = l.getD (p + k) 0 :: (seg l p n).drop (k + 1) := by
  rw [drop_getD _ 0 _ (by rw [seg_length _ _ _ h]; exact hk)]
  congr 1
  simp only [seg]
  rw [getD_take _ _ _ _ hk, getD_drop]

theorem le_seg_drop (l : List UInt8) (p n k : Nat) (h : p + n ≤ l.length) (hk : k < n) : le ((seg l p n).drop k) = bAt l (p + k) + 256 * le ((seg l p n).drop (k + 1)) := by
  rw [seg_drop l p n k h hk]; rfl

theorem le_seg_small (l : List UInt8) (p n k : Nat) (h : p + n ≤ l.length) (hn : n ≤ 8) : le ((seg l p n).drop k) < okSize := by
  refine Nat.lt_of_lt_of_le (le_lt _) ?_
  rw [List.length_drop, seg_length _ _ _ h]
  show 256 ^ _ ≤ 256 ^ 8
  exact Nat.pow_le_pow_right (by omega) (by omega)

theorem low_round (l : List UInt8) (p n k : Nat) (h : p + n ≤ l.length) (hn : n ≤ 8) (hk : k ≤ n) (h0 : 0 < k) :
    IntKind.u64.wrap (IntKind.u64.wrap ((le ((seg l p n).drop k) : Nat) * 256 : Int) + IntKind.u64.wrap ((bAt l (p + (k - 1)) : Nat) : Int)) = (le ((seg l p n).drop (k - 1)) : Int) := by
  have e := le_seg_drop l p n (k - 1) h (by omega)
  have s := le_seg_small l p n (k - 1) h hn
  rw [show k - 1 + 1 = k from by omega] at e
  have b := bAt_lt l (p + (k - 1))
  unfold okSize at s
  generalize le ((seg l p n).drop (k - 1)) = A at *
  generalize le ((seg l p n).drop k) = C at *
  generalize bAt l (p + (k - 1)) = D at *
  rw [wrap_u64_of (n := (C : Int) * 256) (by omega) (by omega), wrap_u64_of (n := (D : Int)) (by omega) (by omega), wrap_u64_of (by omega) (by omega)]
  omega

set_option maxHeartbeats 1000000 in
theorem low_yes (a : Option Addr) (len cap p n : Nat) (w : World) (l : List UInt8) (h : RdB w a len l) (h0 : p + n ≤ len) (hn1 : 1 ≤ n) (hn8 : n ≤ 8) :
    Calls Try.prog 30 #[.slice a len cap, .int .i64 p, .int .i64 n] w fun e w' => e = .returned (.tuple #[.int .u64 (le (seg l p n)), .bool true]) ∧ w = w' := by
  have HC := Lib.hid h
  have hm := h.2.1
  clear h
  go_enter Try.func30, Try.ntmps30
  go_wp2
  go_loop [8, 9] (fun v i => ∃ k : Nat, k ≤ n ∧ i = .int .i64 ((k : Int) - 1) ∧ v = .int .u64 (le ((seg l p n).drop k))) (fun _ i => (intOf i + 1).toNat)
  case atStart => exact ⟨n, Nat.le_refl _, rfl, by rw [List.drop_of_length_le (by rw [seg_length _ _ _ (by rw [HC.out.1]; exact h0)]; omega)]; rfl⟩
  case round =>
    obtain ⟨k, hk, rfl, rfl⟩ := hrel
    by_cases hlt : 0 < k
    · obtain ⟨b, o, rfl, hcc⟩ := HC.out.at (p + (k - 1)) (by omega)
      go_wp2
      go_round
      case rel => exact ⟨k - 1, by omega, by rw [show ((k - 1 : Nat) : Int) = (k : Int) - 1 from by omega], by rw [low_round l p n k (by rw [HC.out.1]; exact h0) hn8 hk hlt]⟩
      case measure => simp [intOf]; omega
    · obtain rfl : k = 0 := by omega
      go_wp2
      go_ret2
      exact ⟨rfl, rfl⟩

set_option maxHeartbeats 1000000 in
theorem low_no (a : Option Addr) (len cap : Nat) (p n : Int) (w : World) (hm : len ≤ 9223372036854775807) (h : n < 1 ∨ 8 < n ∨ p < 0 ∨ (len : Int) < p + n) (hn : n ≤ 9223372036854775807) (hp : p ≤ 9223372036854775807) :
    Calls Try.prog 30 #[.slice a len cap, .int .i64 p, .int .i64 n] w fun e w' => e = .returned (.tuple #[.int .u64 0, .bool false]) ∧ w = w' := by
  by_cases h1 : n < 1
  · go_enter Try.func30, Try.ntmps30
    go_wp2
    go_ret2
    exact ⟨rfl, rfl⟩
  by_cases h2 : 8 < n
  · go_enter Try.func30, Try.ntmps30
    go_wp2
    go_ret2
    exact ⟨rfl, rfl⟩
  by_cases h3 : p < 0
  · go_enter Try.func30, Try.ntmps30
    go_wp2
    go_ret2
    exact ⟨rfl, rfl⟩
  by_cases h4 : (len : Int) < p
  · go_enter Try.func30, Try.ntmps30
    go_wp2
    go_ret2
    exact ⟨rfl, rfl⟩
  have h5 : (len : Int) - p < n := by omega
  clear h
  go_enter Try.func30, Try.ntmps30
  go_wp2
  go_ret2
  exact ⟨rfl, rfl⟩

end Go.Proofs.Ytkcfkdmffbhljaa

namespace Go.Proofs.Ytkcfkdmffbhljaa
open Go.RowKit
set_option linter.unusedVariables false
set_option linter.unusedSimpArgs false

/-- The n lowest bytes, the lowest one first. -/
def leBytes : Nat → Nat → List UInt8
  | 0, _ => []
  | n + 1, v => UInt8.ofNat v :: leBytes n (v / 256)

theorem leBytes_length : ∀ (n v : Nat), (leBytes n v).length = n
  | 0, _ => rfl
  | n + 1, v => by simp [leBytes, leBytes_length n]

theorem leBytes_snoc : ∀ (n v : Nat), leBytes (n + 1) v = leBytes n v ++ [UInt8.ofNat (v / 256 ^ n)]
  | 0, v => by simp [leBytes]
  | n + 1, v => by
    rw [leBytes, leBytes_snoc n (v / 256)]
    simp only [leBytes, List.cons_append, Nat.div_div_eq_div_mul, Nat.pow_succ]
    rw [Nat.mul_comm 256]

theorem le_leBytes : ∀ (n v : Nat), le (leBytes n v) = v % 256 ^ n
  | 0, v => by simp [leBytes, le]; omega
  | n + 1, v => by
    simp only [leBytes, le, le_leBytes n]
    have h : (UInt8.ofNat v).toNat = v % 256 := by simp
    rw [h, Nat.pow_succ, Nat.mul_comm (256 ^ n) 256, Nat.mod_mul]

/-- What PutLow answers. -/
def putLowS (v : Nat) (n : Int) : List UInt8 := if 1 ≤ n ∧ n ≤ 8 then leBytes n.toNat v else []

/-- A new row of bytes, answered. -/
def BytesPost (w : World) (bs : List UInt8) (e : Ending) (w' : World) : Prop :=
  ∃ v, e = .returned v ∧ OwnB w' w.heap.size v bs ∧ Below w.heap.size w w'

theorem own_snoc {w : World} {B : Nat} {v : Value} {bs : List UInt8} {x : Nat} (hx : x < 256) (h : w.ownsRow B 5 1 v (bs.length + 1) (byteCells bs ++ [.int .u8 (x : Nat)])) : OwnB w B v (bs ++ [UInt8.ofNat x]) := by
  have e : byteCells (bs ++ [UInt8.ofNat x]) = byteCells bs ++ [.int .u8 (x : Nat)] := by
    rw [byteCells_append]
    simp [byteCells]
    omega
  unfold OwnB
  rw [e, List.length_append]
  exact h

theorem div_step (v k : Nat) : v / 256 ^ k / 256 = v / 256 ^ (k + 1) := by rw [Nat.div_div_eq_div_mul, Nat.pow_succ]

def PutRel (w : World) (v0 : Nat) (n : Nat) (q o i : Value) (wr : World) : Prop :=
  ∃ k : Nat, k ≤ n ∧ i = .int .i64 k ∧ q = .int .u64 (v0 / 256 ^ k : Nat) ∧ OwnB wr w.heap.size o (leBytes k v0) ∧ Below w.heap.size w wr

theorem put_next {w wr w1 : World} {o o' : Value} {v0 n k : Nat} {ob : Obj} (hk : k < n)
    (ho : OwnB wr w.heap.size o (leBytes k v0)) (hb : Below w.heap.size w wr) (hg : (wr.alloc ob).grownBy w1 o.ownBlock)
    (ho' : w1.ownsRow w.heap.size 5 1 o' (k + 1) (byteCells (leBytes k v0) ++ [.int .u8 (v0 / 256 ^ k % 256 : Nat)])) :
    PutRel w v0 n (.int .u64 (v0 / 256 ^ (k + 1) : Nat)) o' (.int .i64 ((k + 1 : Nat) : Int)) w1 := by
  refine ⟨k + 1, by omega, rfl, rfl, ?_, ?_⟩
  · rw [leBytes_snoc]
    have : UInt8.ofNat (v0 / 256 ^ k) = UInt8.ofNat (v0 / 256 ^ k % 256) := by apply UInt8.toNat_inj.1; simp
    rw [this]
    refine own_snoc (Nat.mod_lt _ (by omega)) ?_
    rw [leBytes_length]
    exact ho'
  · exact (hb.alloc hb.size ob).grown hg (by have := hb.size; simp; omega) fun x hx => ((World.ownsRow.alloc ho ob).lt x hx).1

set_option maxRecDepth 100000 in
set_option maxHeartbeats 1000000 in
theorem putLow_yes (v n : Nat) (hv : v < okSize) (h1 : 1 ≤ n) (h8 : n ≤ 8) (w : World) :
    Calls Try.prog 48 #[.int .u64 (v : Nat), .int .i64 n] w (BytesPost w (leBytes n v)) := by
  obtain ⟨i0, hi, hz0, hz1, hz2⟩ := info_parts infoU8
  have HI := Lib.hid hi
  have HV := Lib.hid hv
  clear hi hv
  go_enter Try.func48, Try.ntmps48
  go_wp2_with fail
  go_loopw [0, 5, 6] (fun q o i wr => PutRel w v n q o i wr) (fun _ _ i _ => n - (intOf i).toNat)
  case atStart => exact ⟨0, by omega, rfl, by simp, World.ownsRow_nil _ _ _ _, Below.refl _ _⟩
  case round =>
    obtain ⟨k, hk, rfl, rfl, hown, hbl⟩ := hrel
    have HO := Lib.hid hown
    have HB := Lib.hid hbl
    have hsz := hbl.size
    clear hown hbl
    by_cases hlt : k < n
    · have hx : Hid (v / 256 ^ k < okSize) := Nat.lt_of_le_of_lt (Nat.div_le_self _ _) HV.out
      have HD := Lib.hid (div_step v k)
      generalize hu : v / 256 ^ k = u at hx HD
      obtain ⟨x, hxe⟩ : ∃ x : Nat, x = u % 256 := ⟨_, rfl⟩
      have hu8 : IntKind.u8.wrap (u : Int) = (x : Int) := by rw [IntKind.wrap_u8']; omega
      have HU := Lib.hid hu
      have HX := Lib.hid hxe
      clear hu hxe
      go_wp2_with (at_builtin; refine wpList_append_own _ rfl _ _ 23 rfl w.heap.size 5 i0 (.int .u8 0) 1 1 Try.underlying23 HI.out hz0 hz1 hz2 rfl (by decide) _ k (byteCells (leBytes k v)) rfl ?own ⟨wr.heap.size, 0, none⟩ 1 1 [.int .u8 (x : Nat)] rfl rfl (cell_one_new _ _ _) ?c2 ?c3 ?c4 ?c5 ?_)
      case own => exact World.ownsRow.alloc (by have := HO.out; unfold OwnB at this; rwa [leBytes_length] at this) _
      case c2 => simp [Value.oneCell']
      case c3 => unfold maxLen; omega
      case c4 => omega
      case c5 => simp; omega
      intro v' w1 hown' hgrow _
      have HO' := Lib.hid hown'
      have HG := Lib.hid hgrow
      clear hown' hgrow
      go_wp2_with fail
      go_roundw
      case rel =>
        have e1 : IntKind.u64.wrap ((u : Int) / 256) = ((v / 256 ^ (k + 1) : Nat) : Int) := by
          rw [← HD.out, wrap_u64_of (by omega) (by have := hx.out; unfold okSize at this; omega)]; omega
        rw [e1, show (k : Int) + 1 = ((k + 1 : Nat) : Int) from rfl]
        exact put_next hlt HO.out HB.out HG.out (by rw [HU.out, ← HX.out]; exact HO'.out)
      case measure => simp [intOf]; omega
    · obtain rfl : k = n := by omega
      go_wp2_with fail
      go_ret
      exact ⟨_, rfl, HO.out, HB.out⟩

set_option maxRecDepth 100000 in
set_option maxHeartbeats 1000000 in
theorem putLow_no (v : Nat) (n : Int) (h : n < 1 ∨ 8 < n) (w : World) :
    Calls Try.prog 48 #[.int .u64 (v : Nat), .int .i64 n] w fun e w' => e = .returned (.slice none 0 0) ∧ w = w' := by
  rcases h with h | h
  · go_enter Try.func48, Try.ntmps48
    go_wp2_with fail
    refine wp_loop_once ?_
    go_wp2_with fail
    go_ret
    exact ⟨rfl, rfl⟩
  · have h' : ¬ n ≤ 8 := by omega
    have h0 : 0 < n := by omega
    go_enter Try.func48, Try.ntmps48
    go_wp2_with fail
    refine wp_loop_once ?_
    go_wp2_with fail
    go_ret
    exact ⟨rfl, rfl⟩

theorem putLow_calls (v : Nat) (n : Int) (hv : v < okSize) (w : World) :
    Calls Try.prog 48 #[.int .u64 (v : Nat), .int .i64 n] w (BytesPost w (putLowS v n)) := by
  unfold putLowS
  by_cases h : 1 ≤ n ∧ n ≤ 8
  · rw [if_pos h]
    have := putLow_yes v n.toNat hv (by omega) (by omega) w
    rwa [Int.toNat_of_nonneg (by omega)] at this
  · rw [if_neg h]
    refine (putLow_no v n (by omega) w).mono ?_
    rintro e w' ⟨rfl, rfl⟩
    exact ⟨_, rfl, World.ownsRow_nil _ _ _ _, Below.refl _ _⟩

end Go.Proofs.Ytkcfkdmffbhljaa

namespace Go.Proofs.Ytkcfkdmffbhljaa
open Go.RowKit
set_option linter.unusedVariables false
set_option linter.unusedSimpArgs false

theorem seg_snoc (l : List UInt8) (p n k : Nat) (h : p + n ≤ l.length) (hk : k < n) : (seg l p n).take (k + 1) = (seg l p n).take k ++ [l.getD (p + k) 0] := by
  have hl : k < (seg l p n).length := by rw [seg_length l p n h]; exact hk
  rw [List.take_succ_eq_append_getElem hl]
  congr 2
  have e : (seg l p n).getD k 0 = l.getD (p + k) 0 := by simp only [seg]; rw [getD_take _ _ _ _ hk, getD_drop]
  rw [← e, List.getD_eq_getElem?_getD, List.getElem?_eq_getElem hl]
  rfl

theorem clone_nil (w : World) : Calls Try.prog 65 #[.slice none 0 0] w fun e w' => e = .returned (.slice none 0 0) ∧ w = w' := by
  have hn := Lib.run_eql_slice_nil (P := Try.prog)
  go_enter Try.func65, Try.ntmps65
  go_wp2
  go_ret
  exact ⟨rfl, rfl⟩

theorem news_of {w : World} {ad : Addr} {len : Nat} {l : List UInt8} (h : RdB w (some ad) len l) : ∀ j u, (byteCells l)[j]? = some u → w.cell? (ad.add j) = some u := by
  intro j u hj
  have hlt : j < l.length := by
    have := (List.getElem?_eq_some_iff.1 hj).1
    rwa [byteCells_length] at this
  obtain ⟨b, o, ha, hc⟩ := h.at j (by rw [← h.1]; exact hlt)
  simp only [Option.some.injEq] at ha
  subst ha
  have := byteCells_at l j hlt
  rw [List.getD_eq_getElem?_getD, hj] at this
  rw [add_at, hc]
  exact congrArg some this.symm

set_option maxRecDepth 100000 in
set_option maxHeartbeats 1000000 in
theorem clone_some (ad : Addr) (len cap : Nat) (l : List UInt8) (w : World) (h : RdB w (some ad) len l) (hb : len ≤ 140737488355328) :
    Calls Try.prog 65 #[.slice (some ad) len cap] w (BytesPost w l) := by
  obtain ⟨i0, hi, hz0, hz1, hz2⟩ := info_parts infoU8
  have HI := Lib.hid hi
  have H := Lib.hid h
  clear hi h
  have hn := Lib.run_eql_slice_nil (P := Try.prog)
  go_enter Try.func65, Try.ntmps65
  go_wp2_with (at_builtin; refine wpList_append_own _ rfl _ _ 23 rfl w.heap.size 5 i0 (.int .u8 0) 1 1 Try.underlying23 HI.out hz0 hz1 hz2 rfl (by decide) _ 0 [] rfl ?own ad len cap (byteCells l) rfl ?c0 ?c1 ?c2 ?c3 ?c4 ?c5 ?_)
  case own => exact World.ownsRow_lit w #[] 0 (Nat.le_refl _) (by unfold maxLen; omega) rfl
  case c0 => rw [byteCells_length, H.out.1, Nat.mul_one]
  case c1 => exact news_of (H.out.keep ((Below.refl _ _).alloc (Nat.le_refl _) _))
  case c2 => exact byteCells_one l
  case c3 => unfold maxLen; omega
  case c4 => omega
  case c5 => simp
  intro v' w1 hown' hgrow _
  have HO' := Lib.hid hown'
  have HG := Lib.hid hgrow
  clear hown' hgrow
  go_wp2_with fail
  go_ret
  refine ⟨v', rfl, ?_, ?_⟩
  · have := HO'.out
    unfold OwnB
    rw [H.out.1]
    simpa using this
  · exact ((Below.refl w.heap.size w).alloc (Nat.le_refl _) _).grown HG.out (by simp) fun k hk => by simp [Value.ownBlock] at hk; omega

/-- Clone at whatever slice of bytes. -/
theorem clone_calls (a : Option Addr) (len cap : Nat) (l : List UInt8) (w : World) (h : RdB w a len l) (hc : a = none → cap = 0) (hb : len ≤ 140737488355328) :
    Calls Try.prog 65 #[.slice a len cap] w (BytesPost w l) := by
  cases a with
  | some ad => exact clone_some ad len cap l w h hb
  | none =>
    have h0 : len = 0 := by
      rcases Nat.eq_zero_or_pos len with h0 | h0
      · exact h0
      · obtain ⟨b, o, ha, _⟩ := h.at 0 h0
        cases ha
    subst h0
    obtain rfl := hc rfl
    have hl : l = [] := List.eq_nil_of_length_eq_zero h.1
    subst hl
    refine (clone_nil w).mono ?_
    rintro e w' ⟨rfl, rfl⟩
    exact ⟨_, rfl, World.ownsRow_nil _ _ _ _, Below.refl _ _⟩

/-- A Reader in block r: its bytes, and how many it has gone past. -/
def Rdr (w : World) (r : Nat) (bs : List UInt8) (p : Nat) : Prop :=
  ∃ a cap, w.cell? ⟨r, 0, none⟩ = some (.slice a bs.length cap) ∧ w.cell? ⟨r, 1, none⟩ = some (.int .i64 (p : Nat)) ∧ w.frozen? ⟨r, 1, none⟩ = false ∧
    RdB w a bs.length bs ∧ (∀ x, a = some x → x.block ≠ r) ∧ (a = none → cap = 0) ∧ p ≤ bs.length ∧ bs.length ≤ cap ∧ bs.length ≤ 140737488355328

theorem Rdr.keep {w w' : World} {r bs p} (h : Rdr w r bs p) (hb : Below w.heap.size w w') : Rdr w' r bs p := by
  obtain ⟨a, cap, h1, h2, h3, h4, h5⟩ := h
  exact ⟨a, cap, cell_below hb h1, cell_below hb h2, by rw [hb.frozen (p := ⟨r, 1, none⟩) (by simpa using cell_block h2)]; exact h3, h4.keep hb, h5⟩

/-- Only r's place is set. -/
theorem Rdr.set {w : World} {r bs p} (h : Rdr w r bs p) (q : Nat) (hq : q ≤ bs.length) : Rdr (w.setCell ⟨r, 1, none⟩ (.int .i64 (q : Nat))) r bs q := by
  obtain ⟨a, cap, h1, h2, h3, h4, h5, h6, h7, h8⟩ := h
  refine ⟨a, cap, ?_, ?_, ?_, ?_, h5, h6, hq, h8⟩
  · rw [World.cell?_setCell_other _ _ _ _ (by simp)]; exact h1
  · exact World.cell?_setCell_same _ _ _ h2
  · rw [World.frozen?_setCell]; exact h3
  · exact h4.chg (S := fun k => k = r) (Chg.setCell (S := fun k => k = r) (Chg.refl _ w) (p := ⟨r, 1, none⟩) (fun _ => rfl) _) (fun x hx e => h5 x hx e)

/-- A new Reader, answered. -/
def NewPost (w : World) (bs : List UInt8) (e : Ending) (w' : World) : Prop :=
  ∃ r, e = .returned (.pointer (some ⟨r, 0, none⟩)) ∧ Rdr w' r bs 0 ∧ Below w.heap.size w w' ∧ w.heap.size ≤ r

set_option maxRecDepth 100000 in
set_option maxHeartbeats 1000000 in
theorem new_calls (a : Option Addr) (len cap : Nat) (l : List UInt8) (w : World) (h : RdB w a len l) (hc : a = none → cap = 0) (hb : len ≤ 140737488355328) :
    Calls Try.prog 70 #[.slice a len cap] w (NewPost w l) := by
  have C := Lib.hid (clone_calls a len cap l w h hc hb)
  have hl := h.1
  have HL := Lib.hid hl
  clear h hl
  go_enter Try.func70, Try.ntmps70
  go_wp2_with fail
  refine C.out.mono ?_
  rintro e w1 ⟨v, rfl, hown, hb1⟩
  have hsz := hb1.size
  obtain ⟨a1, c1, hve, hr⟩ := hown.reads
  have hform := hown.2
  rw [hve] at hform
  rw [hve]
  have HB := Lib.hid hb1
  have HR := Lib.hid hr
  have HO := Lib.hid hform
  clear hown hve hr hb1 hform
  go_wp2_with fail
  go_ret
  refine ⟨w1.heap.size, rfl, ?_, HB.out.alloc hsz _, hsz⟩
  refine ⟨a1, c1, by simp [go_sem], by simp [go_sem], by simp [go_sem], HR.out.keep ((Below.refl _ _).alloc (Nat.le_refl _) _), ?_, ?_, by omega, ?_, by rw [HL.out]; exact hb⟩
  · rintro x rfl
    rcases HO.out with ⟨h, _⟩ | ⟨g, cp, cur, h, _, hg, _⟩
    · simp at h
    · simp only [Value.slice.injEq, Option.some.injEq] at h
      rw [h.1]
      have := (Array.getElem?_eq_some_iff.1 hg).1
      simp only
      omega
  · rintro rfl
    rcases HO.out with ⟨h, _⟩ | ⟨g, cp, cur, h, _⟩
    · simp only [Value.slice.injEq] at h; exact h.2.2
    · simp at h
  · rcases HO.out with ⟨h, h0⟩ | ⟨g, cp, cur, h, _, _, hle, _⟩
    · omega
    · simp only [Value.slice.injEq] at h; rw [h.2.2]; exact hle

set_option maxRecDepth 100000 in
set_option maxHeartbeats 1000000 in
theorem rleft_calls (r p : Nat) (bs : List UInt8) (w : World) (h : Rdr w r bs p) :
    Calls Try.prog 95 #[.pointer (some ⟨r, 0, none⟩)] w fun e w' => e = .returned (.int .i64 ((bs.length : Int) - p)) ∧ ∃ n, w.drewN n = w' := by
  obtain ⟨a, cap, h1, h2, _, _, _, _, h7, h8, h9⟩ := h
  go_enter Try.func95, Try.ntmps95
  go_wp2
  go_quiet (fail)
  go_wp2
  go_ret
  exact ⟨rfl, _, rfl⟩

theorem rdr_step {w : World} {r : Nat} {bs : List UInt8} {p : Nat} (h : Rdr w r bs p) (q a b : Nat) (hq : q ≤ bs.length) (z : Int) (hz : z = (q : Int)) :
    Rdr (((w.drewN a).setCell ⟨r, 1, none⟩ (.int .i64 z)).drewN b) r bs q ∧ Chg (fun k => k = r) w (((w.drewN a).setCell ⟨r, 1, none⟩ (.int .i64 z)).drewN b) := by
  subst hz
  refine ⟨((h.keep (below_drewN _ _ _)).set q hq).keep (below_drewN _ _ _), ?_⟩
  refine Chg.trans (Chg.setCell (S := fun k => k = r) (Chg.of_below (below_drewN w a _)) (p := ⟨r, 1, none⟩) (fun _ => rfl) _) (Chg.of_below (S := fun _ => False) (below_drewN _ b _)) (fun _ _ h => h.elim)

/-- A step of a Reader: it answers v and stands at q. -/
def StepPost (w : World) (r : Nat) (bs : List UInt8) (v : Value) (q : Nat) (e : Ending) (w' : World) : Prop :=
  e = .returned v ∧ Rdr w' r bs q ∧ Chg (fun k => k = r) w w'

set_option maxRecDepth 100000 in
set_option maxHeartbeats 1000000 in
theorem rnext_no (r p : Nat) (bs : List UInt8) (w : World) (h : Rdr w r bs p) (n : Int) (hn : n < 1 ∨ 8 < n ∨ (bs.length : Int) - p < n) :
    Calls Try.prog 92 #[.pointer (some ⟨r, 0, none⟩), .int .i64 n] w fun e w' => e = .returned (.tuple #[.slice none 0 0, .bool false]) ∧ ∃ n, w.drewN n = w' := by
  have C := Lib.hid (rleft_calls r p bs w h)
  by_cases h1 : n < 1
  · go_enter Try.func92, Try.ntmps92
    go_wp2_with fail
    go_ret2
    exact ⟨rfl, 0, rfl⟩
  by_cases h2 : 8 < n
  · go_enter Try.func92, Try.ntmps92
    go_wp2_with fail
    go_ret2
    exact ⟨rfl, 0, rfl⟩
  have h3 : (bs.length : Int) - p < n := by omega
  clear hn
  generalize (bs.length : Int) - p = m at C h3
  go_enter Try.func92, Try.ntmps92
  go_wp2_with (go_at_call 95; refine C.out.mono ?_; rintro e w' ⟨rfl, nd, rfl⟩)
  go_ret2
  exact ⟨rfl, _, rfl⟩

/-- What next answers. -/
def NextPost (w : World) (r : Nat) (bs : List UInt8) (p n : Nat) (e : Ending) (w' : World) : Prop :=
  ∃ a cap, e = .returned (.tuple #[.slice a n cap, .bool true]) ∧ RdB w' a n (seg bs p n) ∧ (∀ x, a = some x → x.block ≠ r) ∧ Rdr w' r bs (p + n) ∧ Chg (fun k => k = r) w w'

set_option maxRecDepth 100000 in
set_option maxHeartbeats 1000000 in
theorem rnext_yes (r p : Nat) (bs : List UInt8) (w : World) (h : Rdr w r bs p) (n : Nat) (h1 : 1 ≤ n) (h8 : n ≤ 8) (hn : p + n ≤ bs.length) :
    Calls Try.prog 92 #[.pointer (some ⟨r, 0, none⟩), .int .i64 n] w (NextPost w r bs p n) := by
  have C := Lib.hid (rleft_calls r p bs w h)
  have H := Lib.hid h
  have HN := Lib.hid hn
  obtain ⟨a, cap, f1, f2, f3, f4, f5, f6, f7, f8, f9⟩ := h
  obtain ⟨b, o, rfl, hcc⟩ := f4.at p (by omega)
  have hbr : b ≠ r := f5 _ rfl
  have F4 := Lib.hid f4
  clear f4 f5 f6 hcc
  generalize bs.length = m at f1 f7 f8 f9 hn C
  have hcp : ¬ cap = p := by omega
  go_enter Try.func92, Try.ntmps92
  go_wp2_with (go_at_call 95; refine C.out.mono ?_; rintro e w' ⟨rfl, nd, rfl⟩)
  go_quiet (fail)
  go_wp2
  go_ret2
  have hrd := rdr_step H.out (p + n) nd nq HN.out _ rfl
  refine ⟨some ⟨b, o + p, none⟩, cap - p, by show Ending.returned (.tuple #[.slice _ (p + n - p) _, _]) = _; rw [Nat.add_sub_cancel_left]; rfl, ?_, ?_, hrd.1, hrd.2⟩
  · refine ⟨seg_length _ _ _ HN.out, by omega, fun i hi => ⟨b, o + p, rfl, ?_⟩⟩
    obtain ⟨b', o', ha, hc⟩ := F4.out.at (p + i) (by have := HN.out; omega)
    simp only [Option.some.injEq, Addr.mk.injEq, and_true] at ha
    obtain ⟨rfl, rfl⟩ := ha
    have e : bAt (seg bs p n) i = bAt bs (p + i) := by
      unfold bAt seg
      rw [getD_take _ _ _ _ hi, getD_drop]
    simp only [e]
    rw [Nat.add_assoc]
    exact hrd.2.cell (p := ⟨b, o + (p + i), none⟩) hbr hc
  · intro x hx
    simp only [Option.some.injEq] at hx
    subst hx
    exact hbr

set_option maxRecDepth 100000 in
set_option maxHeartbeats 1000000 in
theorem rtake_no (r p : Nat) (bs : List UInt8) (w : World) (h : Rdr w r bs p) (n : Int) (hn : n < 0 ∨ (bs.length : Int) - p < n) :
    Calls Try.prog 75 #[.pointer (some ⟨r, 0, none⟩), .int .i64 n] w fun e w' => e = .returned (.tuple #[.slice none 0 0, .bool false]) ∧ ∃ n, w.drewN n = w' := by
  have C := Lib.hid (rleft_calls r p bs w h)
  by_cases h1 : n < 0
  · go_enter Try.func75, Try.ntmps75
    go_wp2_with fail
    go_ret2
    exact ⟨rfl, 0, rfl⟩
  have h3 : (bs.length : Int) - p < n := by omega
  clear hn
  generalize (bs.length : Int) - p = m at C h3
  go_enter Try.func75, Try.ntmps75
  go_wp2_with (go_at_call 95; refine C.out.mono ?_; rintro e w' ⟨rfl, nd, rfl⟩)
  go_ret2
  exact ⟨rfl, _, rfl⟩

/-- What Take answers. -/
def TakePost (w : World) (r : Nat) (bs : List UInt8) (p n : Nat) (e : Ending) (w' : World) : Prop :=
  ∃ v, e = .returned (.tuple #[v, .bool true]) ∧ OwnB w' w.heap.size v (seg bs p n) ∧ Rdr w' r bs (p + n) ∧ Chg (fun k => k = r) w w'

theorem seg_rd {w : World} {b o : Nat} {bs : List UInt8} (h : RdB w (some ⟨b, o, none⟩) bs.length bs) (p n : Nat) (hn : p + n ≤ bs.length) : RdB w (some ⟨b, o + p, none⟩) n (seg bs p n) := by
  refine ⟨seg_length _ _ _ hn, by have := h.2.1; omega, fun i hi => ⟨b, o + p, rfl, ?_⟩⟩
  obtain ⟨b', o', ha, hc⟩ := h.at (p + i) (by omega)
  simp only [Option.some.injEq, Addr.mk.injEq, and_true] at ha
  obtain ⟨rfl, rfl⟩ := ha
  have e : bAt (seg bs p n) i = bAt bs (p + i) := by
    unfold bAt seg
    rw [getD_take _ _ _ _ hi, getD_drop]
  simp only [e]
  rw [Nat.add_assoc]
  exact hc

set_option maxRecDepth 100000 in
set_option maxHeartbeats 1000000 in
theorem rtake_yes (r p : Nat) (bs : List UInt8) (w : World) (h : Rdr w r bs p) (n : Nat) (h1 : 1 ≤ n) (hn : p + n ≤ bs.length) :
    Calls Try.prog 75 #[.pointer (some ⟨r, 0, none⟩), .int .i64 n] w (TakePost w r bs p n) := by
  have C := Lib.hid (rleft_calls r p bs w h)
  have H := Lib.hid h
  have HN := Lib.hid hn
  obtain ⟨a, cap, f1, f2, f3, f4, f5, f6, f7, f8, f9⟩ := h
  obtain ⟨b, o, rfl, hcc⟩ := f4.at p (by omega)
  have hbr : b ≠ r := f5 _ rfl
  have F4 := Lib.hid f4
  clear f4 f5 f6 hcc
  generalize bs.length = m at f1 f7 f8 f9 hn C
  have hcp : ¬ cap = p := by omega
  have hst := fun nd a => rdr_step H.out (p + n) nd a HN.out ((p : Int) + n) rfl
  have HST := Lib.hid hst
  clear hst
  go_enter Try.func75, Try.ntmps75
  go_wp2_with (go_at_call 95; refine C.out.mono ?_; rintro e w' ⟨rfl, nd, rfl⟩)
  have f1' : ((w.drewN nd).setCell ⟨r, 1, none⟩ (.int .i64 ((p : Int) + n))).cell? ⟨r, 0, none⟩ = some (.slice (some ⟨b, o, none⟩) m cap) := by simp [go_sem, f1]
  have f2' : ((w.drewN nd).setCell ⟨r, 1, none⟩ (.int .i64 ((p : Int) + n))).cell? ⟨r, 1, none⟩ = some (.int .i64 ((p : Int) + n)) := World.cell?_setCell_same _ _ _ (u := .int .i64 p) (by exact f2)
  have i0 : (0 : Int) ≤ (p : Int) := by omega
  have i1 : (p : Int) ≤ (p : Int) + (n : Int) := by omega
  have i2 : (p : Int) + (n : Int) ≤ (cap : Int) := by omega
  have i3 : p + n ≤ cap := by omega
  have i4 : p ≤ p + n := by omega
  have i5 : p ≤ cap := by omega
  have q1 : IntKind.i64.wrap ((p : Int) + n - n) = (p : Int) := by rw [Int.add_sub_cancel]; exact IntWalk.i64_in _ (by omega)
  have q0 : IntKind.i64.wrap (p : Int) = (p : Int) := IntWalk.i64_in _ (by omega)
  have HSR : Hid (∀ a, RdB (((w.drewN nd).setCell ⟨r, 1, none⟩ (.int .i64 ((p : Int) + n))).drewN a) (some ⟨b, o + p, none⟩) n (seg bs p n)) := fun a => (seg_rd F4.out p n HN.out).chg (HST.out nd a).2 (fun x hx => by simp only [Option.some.injEq] at hx; subst hx; exact hbr)
  go_region_held3 (fun w' => w'.cell? ⟨r, 0, none⟩ = some (.slice (some ⟨b, o, none⟩) m cap) ∧ w'.cell? ⟨r, 1, none⟩ = some (.int .i64 ((p : Int) + n))) (first | go_keep | ((repeat' apply And.intro) <;> (refine cell_below ‹Below _ _ _› ?_; simp [*]))) ((go_at_call 65; refine (clone_calls _ _ _ (seg bs p n) _ ?_ (by simp) (by omega)).mono ?_; (rw [show ((p : Int) + n).toNat - p = n from by omega]; exact HSR.out 1); rintro e w' ⟨v, rfl, hown, hb⟩))
  go_wp2
  go_ret2
  exact ⟨v, rfl, hown.weaken (by simp), (HST.out nd 1).1.keep hb, (HST.out nd 1).2.trans (Chg.of_below (S := fun _ => False) hb) (fun _ _ h => h.elim)⟩

theorem le_snoc (l : List UInt8) (b : UInt8) : le (l ++ [b]) = le l + 256 ^ l.length * b.toNat := by rw [le_append]; simp [le]

theorem le_seg_take (l : List UInt8) (p n k : Nat) (h : p + n ≤ l.length) (hk : k < n) : le ((seg l p n).take (k + 1)) = le ((seg l p n).take k) + 256 ^ k * bAt l (p + k) := by
  rw [seg_snoc l p n k h hk, le_snoc]
  rw [List.length_take, seg_length _ _ _ h, Nat.min_eq_left (by omega)]
  rfl

theorem le_take_lt (l : List UInt8) (k : Nat) (hk : k ≤ l.length) : le (l.take k) < 256 ^ k := by
  have := le_lt (l.take k)
  rwa [List.length_take, Nat.min_eq_left hk] at this

theorem pow256 (k : Nat) : 256 ^ k = 2 ^ (8 * k) := by rw [show (256 : Nat) = 2 ^ 8 from rfl, ← Nat.pow_mul]

/-- v | x << 8k, x a byte, v below 256^k. -/
theorem or_step (v x k : Nat) (hv : v < 256 ^ k) (hx : x < 256) (hk : k < 8) : bits BinOp.or IntKind.u64 (v : Int) ((256 ^ k * x : Nat) : Int) = ((v + 256 ^ k * x : Nat) : Int) := by
  have h8 : 256 ^ (k + 1) ≤ 256 ^ 8 := Nat.pow_le_pow_right (by omega) (by omega)
  have hp : 256 ^ k * x < 256 ^ (k + 1) := by rw [Nat.pow_succ]; exact Nat.mul_lt_mul_of_pos_left hx (Nat.pow_pos (by omega))
  have hv8 : v < 256 ^ 8 := Nat.lt_of_lt_of_le hv (Nat.pow_le_pow_right (by omega) (by omega))
  rw [u64_or_nat v (256 ^ k * x) (by omega) (by omega), Nat.or_comm, nat_join (8 * k) _ v (by rw [← pow256]; exact Nat.mul_mod_right _ _) (by rw [← pow256]; exact hv)]
  rw [Nat.add_comm]

theorem bAt_seg (l : List UInt8) (p n k : Nat) (hk : k < n) : bAt (seg l p n) k = bAt l (p + k) := by
  unfold bAt seg
  rw [getD_take _ _ _ _ hk, getD_drop]

theorem low_or (l : List UInt8) (p n k : Nat) (h : p + n ≤ l.length) (hk : k < n) (hn : n ≤ 8) :
    bits BinOp.or IntKind.u64 ((le ((seg l p n).take k) : Nat) : Int) (IntKind.u64.wrap ((bAt (seg l p n) k : Int) * 2 ^ (8 * k))) = (le ((seg l p n).take (k + 1)) : Int) := by
  rw [le_seg_take l p n k h hk, bAt_seg l p n k hk]
  have hb := bAt_lt l (p + k)
  have hv := le_take_lt (seg l p n) k (by rw [seg_length _ _ _ h]; omega)
  generalize bAt l (p + k) = x at hb
  generalize le ((seg l p n).take k) = v at hv
  have e : (x : Int) * 2 ^ (8 * k) = ((256 ^ k * x : Nat) : Int) := by
    rw [pow256, Int.natCast_mul, Int.natCast_pow, Int.mul_comm]; rfl
  have hp : 256 ^ k * x < 256 ^ 8 := by
    have h8 : 256 ^ (k + 1) ≤ 256 ^ 8 := Nat.pow_le_pow_right (by omega) (by omega)
    have : 256 ^ k * x < 256 ^ (k + 1) := by rw [Nat.pow_succ]; exact Nat.mul_lt_mul_of_pos_left hb (Nat.pow_pos (by omega))
    omega
  rw [e, wrap_u64_nat (by unfold okSize; omega), or_step v x k hv hb (by omega)]

set_option maxRecDepth 100000 in
set_option maxHeartbeats 1000000 in
theorem rlow_yes (r p : Nat) (bs : List UInt8) (w : World) (h : Rdr w r bs p) (n : Nat) (h1 : 1 ≤ n) (h8 : n ≤ 8) (hn : p + n ≤ bs.length) :
    Calls Try.prog 71 #[.pointer (some ⟨r, 0, none⟩), .int .i64 n] w (StepPost w r bs (.tuple #[.int .u64 (le (seg bs p n)), .bool true]) (p + n)) := by
  have C := Lib.hid (rnext_yes r p bs w h n h1 h8 hn)
  have HN := Lib.hid hn
  clear h hn
  go_enter Try.func71, Try.ntmps71
  go_wp2_with fail
  refine C.out.mono ?_
  rintro e w1 ⟨a, cap, rfl, hr, ha, hrd, hch⟩
  have HR := Lib.hid hr
  have HF : Hid (Rdr w1 r bs (p + n) ∧ Chg (fun k => k = r) w w1) := ⟨hrd, hch⟩
  clear hr ha hrd hch
  go_wp2_with fail
  go_loop [8, 19] (fun v i => ∃ k : Nat, k ≤ n ∧ i = .int .i64 k ∧ v = .int .u64 (le ((seg bs p n).take k))) (fun _ i => n - (intOf i).toNat)
  case atStart => exact ⟨0, by omega, rfl, rfl⟩
  case round =>
    obtain ⟨k, hk, rfl, rfl⟩ := hrel
    by_cases hlt : k < n
    · obtain ⟨b, o, rfl, hcc⟩ := HR.out.at k hlt
      have q := bAt_bd (seg bs p n) k
      go_wp2_with fail
      go_round
      case rel => exact ⟨k + 1, by omega, by simp, by rw [low_or bs p n k HN.out hlt h8]⟩
      case measure => simp [intOf]; omega
    · obtain rfl : k = n := by omega
      have hf : Hid ((seg bs p k).take k = seg bs p k) := List.take_of_length_le (by rw [seg_length _ _ _ HN.out]; omega)
      go_wp2_with fail
      go_ret2
      exact ⟨by rw [hf.out]; rfl, HF.out⟩

set_option maxRecDepth 100000 in
set_option maxHeartbeats 1000000 in
theorem rlow_no (r p : Nat) (bs : List UInt8) (w : World) (h : Rdr w r bs p) (n : Int) (hn : n < 1 ∨ 8 < n ∨ (bs.length : Int) - p < n) :
    Calls Try.prog 71 #[.pointer (some ⟨r, 0, none⟩), .int .i64 n] w fun e w' => e = .returned (.tuple #[.int .u64 0, .bool false]) ∧ ∃ n, w.drewN n = w' := by
  have C := Lib.hid (rnext_no r p bs w h n hn)
  clear h hn
  go_enter Try.func71, Try.ntmps71
  go_wp2_with fail
  refine C.out.mono ?_
  rintro e w1 ⟨rfl, nd, rfl⟩
  go_wp2_with fail
  refine wp_loop_once ?_
  go_wp2_with fail
  go_ret2
  exact ⟨rfl, _, rfl⟩

theorem rdr_stay {w : World} {r : Nat} {bs : List UInt8} {p : Nat} (h : Rdr w r bs p) (a b : Nat) :
    Rdr (((w.drewN a).setCell ⟨r, 1, none⟩ (.int .i64 (p : Nat))).drewN b) r bs p ∧ Chg (fun k => k = r) w (((w.drewN a).setCell ⟨r, 1, none⟩ (.int .i64 (p : Nat))).drewN b) :=
  rdr_step h p a b (by obtain ⟨_, _, _, _, _, _, _, _, h7, _⟩ := h; exact h7) _ rfl

set_option maxRecDepth 100000 in
set_option maxHeartbeats 1000000 in
theorem rtake_zero (r p : Nat) (bs : List UInt8) (w : World) (h : Rdr w r bs p) :
    Calls Try.prog 75 #[.pointer (some ⟨r, 0, none⟩), .int .i64 0] w (TakePost w r bs p 0) := by
  have C := Lib.hid (rleft_calls r p bs w h)
  have H := Lib.hid h
  have hst := fun nd a => rdr_stay h nd a
  have HST := Lib.hid hst
  obtain ⟨a, cap, f1, f2, f3, f4, f5, f6, f7, f8, f9⟩ := h
  clear f4 hst
  have hs0 : seg bs p 0 = [] := by simp [seg]
  generalize bs.length = m at f1 f7 f8 f9 C
  cases a with
  | none =>
    have hc := f6 rfl
    subst hc
    have hm : m = 0 := by omega
    subst hm
    have hp : p = 0 := by omega
    subst hp
    go_enter Try.func75, Try.ntmps75
    go_wp2_with (go_at_call 95; refine C.out.mono ?_; rintro e w' ⟨rfl, nd, rfl⟩)
    have f1' : ((w.drewN nd).setCell ⟨r, 1, none⟩ (.int .i64 0)).cell? ⟨r, 0, none⟩ = some (.slice none 0 0) := by simp [go_sem, f1]
    have f2' : ((w.drewN nd).setCell ⟨r, 1, none⟩ (.int .i64 0)).cell? ⟨r, 1, none⟩ = some (.int .i64 0) := World.cell?_setCell_same _ _ _ (u := .int .i64 0) (by exact f2)
    go_region_with ((go_at_call 65; refine (clone_nil _).mono ?_; rintro e w' ⟨rfl, rfl⟩))
    all_goals
      go_wp2
      go_ret2
      exact ⟨_, rfl, hs0 ▸ World.ownsRow_nil _ _ _ _, (HST.out nd 1).1, (HST.out nd 1).2⟩
  | some ad =>
    have i9 : cap = p ∨ ¬ cap = p := by omega
    rcases i9 with hcp | hcp
    · subst hcp
      go_enter Try.func75, Try.ntmps75
      go_wp2_with (go_at_call 95; refine C.out.mono ?_; rintro e w' ⟨rfl, nd, rfl⟩)
      have f1' : ((w.drewN nd).setCell ⟨r, 1, none⟩ (.int .i64 (cap : Nat))).cell? ⟨r, 0, none⟩ = some (.slice (some ad) m cap) := by simp [go_sem, f1]
      have f2' : ((w.drewN nd).setCell ⟨r, 1, none⟩ (.int .i64 (cap : Nat))).cell? ⟨r, 1, none⟩ = some (.int .i64 (cap : Nat)) := World.cell?_setCell_same _ _ _ (u := .int .i64 (cap : Nat)) (by exact f2)
      have i0 : (0 : Int) ≤ (cap : Int) := by omega
      have i2 : (cap : Int) ≤ (cap : Int) := by omega
      have i5 : cap ≤ cap := by omega
      have q0 : IntKind.i64.wrap (cap : Int) = (cap : Int) := IntWalk.i64_in _ (by omega)
      go_region_held3 (fun w' => w'.cell? ⟨r, 0, none⟩ = some (.slice (some ad) m cap) ∧ w'.cell? ⟨r, 1, none⟩ = some (.int .i64 (cap : Nat))) (first | go_keep | ((repeat' apply And.intro) <;> (refine cell_below ‹Below _ _ _› ?_; simp [*]))) ((go_at_call 65; refine (clone_calls _ _ _ [] _ ?_ (by simp) (by omega)).mono ?_; (first | exact RdB.nil _ _ | (simp only [Int.toNat_natCast, Nat.sub_self]; exact RdB.nil _ _)); rintro e w' ⟨v, rfl, hown, hb⟩))
      go_wp2
      go_ret2
      exact ⟨v, rfl, hs0 ▸ hown.weaken (by simp), (HST.out nd 1).1.keep hb, (HST.out nd 1).2.trans (Chg.of_below (S := fun _ => False) hb) (fun _ _ h => h.elim)⟩
    · go_enter Try.func75, Try.ntmps75
      go_wp2_with (go_at_call 95; refine C.out.mono ?_; rintro e w' ⟨rfl, nd, rfl⟩)
      have f1' : ((w.drewN nd).setCell ⟨r, 1, none⟩ (.int .i64 (p : Nat))).cell? ⟨r, 0, none⟩ = some (.slice (some ad) m cap) := by simp [go_sem, f1]
      have f2' : ((w.drewN nd).setCell ⟨r, 1, none⟩ (.int .i64 (p : Nat))).cell? ⟨r, 1, none⟩ = some (.int .i64 (p : Nat)) := World.cell?_setCell_same _ _ _ (u := .int .i64 (p : Nat)) (by exact f2)
      have i0 : (0 : Int) ≤ (p : Int) := by omega
      have i2 : (p : Int) ≤ (cap : Int) := by omega
      have i5 : p ≤ cap := by omega
      have q0 : IntKind.i64.wrap (p : Int) = (p : Int) := IntWalk.i64_in _ (by omega)
      go_region_held3 (fun w' => w'.cell? ⟨r, 0, none⟩ = some (.slice (some ad) m cap) ∧ w'.cell? ⟨r, 1, none⟩ = some (.int .i64 (p : Nat))) (first | go_keep | ((repeat' apply And.intro) <;> (refine cell_below ‹Below _ _ _› ?_; simp [*]))) ((go_at_call 65; refine (clone_calls _ _ _ [] _ ?_ (by simp) (by omega)).mono ?_; (first | exact RdB.nil _ _ | (simp only [Int.toNat_natCast, Nat.sub_self]; exact RdB.nil _ _)); rintro e w' ⟨v, rfl, hown, hb⟩))
      go_wp2
      go_ret2
      exact ⟨v, rfl, hs0 ▸ hown.weaken (by simp), (HST.out nd 1).1.keep hb, (HST.out nd 1).2.trans (Chg.of_below (S := fun _ => False) hb) (fun _ _ h => h.elim)⟩

end Go.Proofs.Ytkcfkdmffbhljaa

namespace Go.Proofs.Ytkcfkdmffbhljaa
open Go.RowKit
set_option linter.unusedVariables false
set_option linter.unusedSimpArgs false

/-- A Writer in block g, with the slice v, which holds these bytes in memory from block B on. -/
def Wtr (w : World) (B g : Nat) (v : Value) (bs : List UInt8) : Prop :=
  w.cell? ⟨g, 0, none⟩ = some v ∧ w.frozen? ⟨g, 0, none⟩ = false ∧ OwnB w B v bs ∧ v.ownBlock ≠ some g

/-- What laying more leaves: the Writer holds bs; nothing but its own blocks has turned. -/
def WStep (w : World) (B g : Nat) (v : Value) (bs : List UInt8) (w' : World) : Prop :=
  ∃ v', Wtr w' B g v' bs ∧ Chg (fun k => k = g ∨ v.ownBlock = some k) w w' ∧ (∀ k, v'.ownBlock = some k → v.ownBlock = some k ∨ w.heap.size ≤ k)

theorem WStep.refl {w : World} {B g v bs} (h : Wtr w B g v bs) : WStep w B g v bs w := ⟨v, h, Chg.refl _ _, fun k hk => .inl hk⟩

theorem wtr_grow {w w1 : World} {B g : Nat} {v : Value} {bs : List UInt8} {o : Obj} {g' cap x k : Nat} (h : Wtr w B g v bs) (hx : x < 256)
    (hown : w1.ownsRow B 5 1 (.slice (some ⟨g', 0, none⟩) (bs.length + 1) cap) (bs.length + 1) (byteCells bs ++ [.int .u8 (x : Nat)]))
    (hg : ((w.drewN k).alloc o).grownBy w1 v.ownBlock) (hat : v.ownBlock = some g' ∨ g' = w.heap.size + 1) :
    WStep w B g v (bs ++ [UInt8.ofNat x]) (w1.setCell ⟨g, 0, none⟩ (.slice (some ⟨g', 0, none⟩) (bs.length + 1) cap)) := by
  obtain ⟨h1, h2, h3, h4⟩ := h
  have hlt := cell_block h1
  simp only at hlt
  have hne : g' ≠ g := by
    rcases hat with e | e
    · intro e'; subst e'; exact h4 e
    · omega
  have c0 : Chg (fun j => j = g ∨ v.ownBlock = some j) w w1 := ((Chg.of_below (below_drewN w k _)).alloc o).grown hg (fun j hj _ => .inr hj)
  have c1 : w1.cell? ⟨g, 0, none⟩ = some v := by
    have : Chg (fun j => v.ownBlock = some j) w w1 := ((Chg.of_below (below_drewN w k _)).alloc o).grown hg (fun j hj _ => hj)
    exact this.cell h4 h1
  have c2 : w1.frozen? ⟨g, 0, none⟩ = false := by
    have : Chg (fun j => v.ownBlock = some j) w w1 := ((Chg.of_below (below_drewN w k _)).alloc o).grown hg (fun j hj _ => hj)
    rw [← h2]
    exact World.frozen?_of_block (w := w) (this.block g hlt h4)
  refine ⟨.slice (some ⟨g', 0, none⟩) (bs.length + 1) cap, ⟨World.cell?_setCell_same _ _ _ c1, by rw [World.frozen?_setCell]; exact c2, ?_, ?_⟩, ?_, ?_⟩
  · refine OwnB.chg (S := fun j => j = g) (own_snoc hx hown) (Chg.setCell (S := fun j => j = g) (Chg.refl _ w1) (p := ⟨g, 0, none⟩) (fun _ => rfl) _) ?_
    intro j hj e
    simp only [Value.ownBlock, Option.some.injEq] at hj
    subst e
    exact hne hj
  · simp only [Value.ownBlock]
    intro e
    exact hne (Option.some.inj e)
  · exact c0.setCell (fun _ => .inl rfl) _
  · intro j hj
    simp only [Value.ownBlock, Option.some.injEq] at hj
    subst hj
    rcases hat with e | e
    · exact .inl e
    · exact .inr (by omega)

theorem wtr_own {w : World} {B g v bs} (h : Wtr w B g v bs) (k : Nat) (o : Obj) : ((w.drewN k).alloc o).ownsRow B 5 1 v bs.length (byteCells bs) := World.ownsRow.alloc (ownsRow_drewN h.2.2.1) o

set_option maxRecDepth 100000 in
set_option maxHeartbeats 1000000 in
theorem wbyte_calls (g : Nat) (v : Value) (bs : List UInt8) (w : World) (B : Nat) (h : Wtr w B g v bs) (hB : B ≤ w.heap.size) (hn : bs.length ≤ 1000000000) (x : Int) :
    Calls Try.prog 61 #[.pointer (some ⟨g, 0, none⟩), .int .i64 x] w fun e w' => e = .returned (.tuple #[]) ∧ WStep w B g v (bs ++ [UInt8.ofNat (x % 256).toNat]) w' := by
  obtain ⟨i0, hi, hz0, hz1, hz2⟩ := info_parts infoU8
  have HI := Lib.hid hi
  have H := Lib.hid h
  clear hi
  obtain ⟨h1, h2, h3, h4⟩ := h
  have hlt := cell_block h1
  simp only at hlt
  obtain ⟨a, cap, rfl, _⟩ := h3.reads
  have h5 := h3.2
  obtain ⟨y, hy⟩ : ∃ y : Nat, y = (x % 256).toNat := ⟨_, rfl⟩
  have hyx : IntKind.u8.wrap x = (y : Int) := by rw [IntKind.wrap_u8']; omega
  have HY := Lib.hid hy
  have HYl : Hid (y < 256) := by show y < 256; omega
  clear h3 h5 hy h4
  go_enter Try.func61, Try.ntmps61
  go_wp2_with (at_builtin; refine wpList_append_lies _ rfl _ _ _ rfl B 5 i0 (.int .u8 0) 1 1 Try.underlying23 HI.out hz0 hz1 hz2 rfl (by omega) _ bs.length (byteCells bs) rfl ?own ⟨w.heap.size, 0, none⟩ 1 1 [.int .u8 (y : Nat)] rfl rfl ?c1 ?c2 (by omega) ?c3 ?c4 ?c5 (w.heap.size + 1) ?c6 ?_)
  case own => exact wtr_own H.out 0 _
  case c1 => exact cell_one_new _ _ _
  case c2 => simp [Value.oneCell']
  case c3 => unfold maxLen; omega
  case c4 => omega
  case c5 => simp; omega
  case c6 => simp
  intro g' cap' w1 hown hgrow hat hlt1
  have hst := wtr_grow (k := 0) H.out HYl.out hown hgrow hat
  have HS := Lib.hid hst
  have f1 : w1.cell? ⟨g, 0, none⟩ = some (.slice a bs.length cap) := by
    have : Chg (fun j => (Value.slice a bs.length cap).ownBlock = some j) w w1 := ((Chg.of_below (below_drewN w 0 _)).alloc _).grown hgrow (fun j hj _ => hj)
    exact this.cell H.out.2.2.2 h1
  have f2 : w1.frozen? ⟨g, 0, none⟩ = false := by
    have : Chg (fun j => (Value.slice a bs.length cap).ownBlock = some j) w w1 := ((Chg.of_below (below_drewN w 0 _)).alloc _).grown hgrow (fun j hj _ => hj)
    rw [← h2]
    exact World.frozen?_of_block (w := w) (this.block g hlt H.out.2.2.2)
  clear hown hgrow hat hst hlt1
  go_wp2_with fail
  go_end0
  exact ⟨rfl, by rw [← HY.out]; exact HS.out⟩

theorem WStep.trans {w wr w2 : World} {B g : Nat} {v v' : Value} {bs : List UInt8} (hc : Chg (fun k => k = g ∨ v.ownBlock = some k) w wr) (hv : ∀ k, v'.ownBlock = some k → v.ownBlock = some k ∨ w.heap.size ≤ k)
    (h : WStep wr B g v' bs w2) : WStep w B g v bs w2 := by
  obtain ⟨v2, h1, h2, h3⟩ := h
  refine ⟨v2, h1, hc.trans h2 ?_, ?_⟩
  · rintro i hi (e | e)
    · exact .inl e
    · rcases hv i e with e | e
      · exact .inr e
      · omega
  · intro k hk
    rcases h3 k hk with e | e
    · exact hv k e
    · exact .inr (Nat.le_trans hc.size e)

theorem wtr_far {W X w1 : World} {B g : Nat} {v : Value} {bs : List UInt8} (h : Wtr W B g v bs) (hX : Below W.heap.size W X) (hg : X.grownBy w1 v.ownBlock) : w1.cell? ⟨g, 0, none⟩ = some v ∧ w1.frozen? ⟨g, 0, none⟩ = false := by
  have hc : Chg (fun j => v.ownBlock = some j) W w1 := (Chg.of_below hX).grown hg (fun j hj _ => hj)
  refine ⟨hc.cell h.2.2.2 h.1, ?_⟩
  rw [← h.2.1]
  exact World.frozen?_of_block (w := W) (hc.block g (by simpa using cell_block h.1) h.2.2.2)

theorem low_next {w wr w2 : World} {B g : Nat} {v v' : Value} {bs cs : List UInt8} {x k y : Nat} (hc : Chg (fun k => k = g ∨ v.ownBlock = some k) w wr) (hv : ∀ k, v'.ownBlock = some k → v.ownBlock = some k ∨ w.heap.size ≤ k)
    (hbs : bs ++ leBytes k x = cs) (hy : y = x / 256 ^ k % 256) (h : WStep wr B g v' (cs ++ [UInt8.ofNat y]) w2) : WStep w B g v (bs ++ leBytes (k + 1) x) w2 := by
  refine WStep.trans hc hv ?_
  rw [leBytes_snoc, ← List.append_assoc, hbs]
  have : UInt8.ofNat (x / 256 ^ k) = UInt8.ofNat y := by rw [hy]; apply UInt8.toNat_inj.1; simp
  rw [this]
  exact h

theorem number_yes (n : Int) (h1 : 1 ≤ n) (h8 : n ≤ 8) (w : World) : Calls Try.prog 86 #[.int .i64 n] w fun e w' => e = .returned (.bool true) ∧ w = w' := by
  go_enter Try.func86, Try.ntmps86
  go_wp2
  go_ret
  exact ⟨rfl, rfl⟩

theorem number_no (n : Int) (h : n < 1 ∨ 8 < n) (w : World) : Calls Try.prog 86 #[.int .i64 n] w fun e w' => e = .returned (.bool false) ∧ w = w' := by
  by_cases h1 : n < 1
  · go_enter Try.func86, Try.ntmps86
    go_wp2
    go_ret
    exact ⟨rfl, rfl⟩
  · have h2 : ¬ n ≤ 8 := by omega
    have h3 : 1 ≤ n := by omega
    have h4 : decide (n ≤ 8) = false := by simpa using h2
    clear h h1
    go_enter Try.func86, Try.ntmps86
    go_wp2
    go_ret
    exact ⟨rfl, rfl⟩

set_option maxRecDepth 100000 in
set_option maxHeartbeats 1000000 in
theorem wlow_yes (g : Nat) (v : Value) (bs : List UInt8) (w : World) (B : Nat) (h : Wtr w B g v bs) (hB : B ≤ w.heap.size) (hn : bs.length ≤ 1000000000) (x n : Nat) (hx : x < okSize) (h1 : 1 ≤ n) (h8 : n ≤ 8) :
    Calls Try.prog 60 #[.pointer (some ⟨g, 0, none⟩), .int .u64 (x : Nat), .int .i64 n] w fun e w' => e = .returned (.tuple #[]) ∧ WStep w B g v (bs ++ leBytes n x) w' := by
  obtain ⟨i0, hi, hz0, hz1, hz2⟩ := info_parts infoU8
  have HI := Lib.hid hi
  have H := Lib.hid h
  have HX := Lib.hid hx
  clear hi h hx
  go_enter Try.func60, Try.ntmps60
  go_wp2_with fail
  go_loopw [6] (fun i wr => ∃ k : Nat, k ≤ n ∧ i = .int .i64 k ∧ WStep w B g v (bs ++ leBytes k x) wr) (fun i _ => n - (intOf i).toNat)
  case atStart => exact ⟨0, by omega, rfl, by rw [leBytes, List.append_nil]; exact WStep.refl H.out⟩
  case round =>
    obtain ⟨k, hk, rfl, hst⟩ := hrel
    by_cases hlt : k < n
    · obtain ⟨v', hw, hch, hv⟩ := hst
      have HW := Lib.hid hw
      have HC := Lib.hid hch
      have HV := Lib.hid hv
      have hsz := hch.size
      obtain ⟨c1, c2, c3, c4⟩ := hw
      have hlt1 := cell_block c1
      simp only at hlt1
      obtain ⟨a, cap, rfl, _⟩ := c3.reads
      have hlen : (bs ++ leBytes k x).length ≤ 1000000008 := by simp [leBytes_length]; omega
      obtain ⟨y, hy⟩ : ∃ y : Nat, y = x / 256 ^ k % 256 := ⟨_, rfl⟩
      have hyx : IntKind.u8.wrap ((x : Int) / 2 ^ (8 * k)) = (y : Int) := by
        rw [IntKind.wrap_u8', hy]
        have e : (x : Int) / 2 ^ (8 * k) = ((x / 256 ^ k : Nat) : Int) := by rw [pow256, Int.natCast_ediv, Int.natCast_pow]; rfl
        rw [e]; omega
      have HY := Lib.hid hy
      have HYl : Hid (y < 256) := by show y < 256; omega
      have i2 : (0 : Int) ≤ 8 * (k : Int) := by omega
      have i1 : 8 * (k : Int) ≤ 64 := by omega
      have i3 : (8 * (k : Int)).toNat = 8 * k := by omega
      have i4 : IntKind.i64.wrap (8 * (k : Int)) = 8 * (k : Int) := IntWalk.i64_in _ (by omega)
      clear hch hv c3 c4 hy
      generalize hbs : bs ++ leBytes k x = cs at HW HV hlen c1
      have HBS := Lib.hid hbs
      clear hbs
      go_wp2_with (go_at_call 86; refine (number_yes _ (by omega) (by omega) _).mono ?_; rintro e w' ⟨rfl, rfl⟩)
      have HWo := Lib.hid (fun k o => wtr_own HW.out k o)
      go_region_law ((refine step_append_lies _ (by rfl) _ _ _ (by rfl) B 5 i0 (.int .u8 0) 1 1 Try.underlying23 HI.out hz0 hz1 hz2 rfl (by omega) (.slice a cs.length cap) cs.length (byteCells cs) (by rfl) (by exact HWo.out 1 _) ⟨wr.heap.size, 0, none⟩ 1 1 [.int .u8 (y : Nat)] (by rfl) (by rfl) (cell_one_new _ _ _) (by simp [Value.oneCell']) (by omega) (by unfold maxLen; omega) (by omega) (by simp; omega) (wr.heap.size + 1) (by simp) ?_; intro g' cap' w1 hown hgrow hat hlt2; obtain ⟨f1, f2⟩ := wtr_far HW.out (((Below.refl wr.heap.size wr).alloc (Nat.le_refl _) _).drew) hgrow; have HS := Lib.hid (wtr_grow (k := 1) HW.out HYl.out hown hgrow hat); clear hown hgrow hat hlt2))
      all_goals
        go_wp2_with fail
        go_roundw
        case rel => exact ⟨k + 1, by omega, by simp, low_next HC.out HV.out HBS.out HY.out HS.out⟩
        case measure => simp [intOf]; omega
    · obtain rfl : k = n := by omega
      have HT := Lib.hid hst
      clear hst
      go_wp2_with (go_at_call 86; refine (number_yes _ (by omega) (by omega) _).mono ?_; rintro e w' ⟨rfl, rfl⟩)
      go_end0
      exact ⟨rfl, HT.out⟩

set_option maxRecDepth 100000 in
set_option maxHeartbeats 1000000 in
theorem wlow_no (g : Nat) (w : World) (x n : Int) (h : n < 1 ∨ 8 < n) :
    Calls Try.prog 60 #[.pointer (some ⟨g, 0, none⟩), .int .u64 x, .int .i64 n] w fun e w' => e = .returned (.tuple #[]) ∧ w = w' := by
  have C := Lib.hid (number_no n h w)
  clear h
  go_enter Try.func60, Try.ntmps60
  go_wp2_with fail
  refine wp_loop_once ?_
  go_wp2_with (go_at_call 86; refine C.out.mono ?_; rintro e w' ⟨rfl, rfl⟩)
  go_end0
  exact ⟨rfl, rfl⟩

/-- A new Writer, answered. -/
def LayPost (w : World) (e : Ending) (w' : World) : Prop :=
  ∃ g, e = .returned (.pointer (some ⟨g, 0, none⟩)) ∧ Wtr w' w.heap.size g (.slice none 0 0) [] ∧ Below w.heap.size w w' ∧ w.heap.size ≤ g

set_option maxRecDepth 100000 in
set_option maxHeartbeats 1000000 in
theorem lay_calls (w : World) : Calls Try.prog 42 #[] w (LayPost w) := by
  go_enter Try.func42, Try.ntmps42
  go_wp2
  go_ret
  exact ⟨w.heap.size, rfl, ⟨by simp [go_sem], by simp [go_sem], World.ownsRow_nil _ _ _ _, by simp [Value.ownBlock]⟩, (Below.refl _ _).alloc (Nat.le_refl _) _, Nat.le_refl _⟩

set_option maxRecDepth 100000 in
set_option maxHeartbeats 1000000 in
theorem wlen_calls (g : Nat) (v : Value) (bs : List UInt8) (w : World) (B : Nat) (h : Wtr w B g v bs) :
    Calls Try.prog 59 #[.pointer (some ⟨g, 0, none⟩)] w fun e w' => e = .returned (.int .i64 bs.length) ∧ w = w' := by
  obtain ⟨h1, h2, h3, h4⟩ := h
  obtain ⟨a, cap, rfl, _⟩ := h3.reads
  clear h2 h3 h4
  generalize bs.length = n at h1
  go_enter Try.func59, Try.ntmps59
  go_wp2
  go_ret
  exact ⟨rfl, rfl⟩

theorem own_nilcap {w : World} {B : Nat} {a : Option Addr} {n cap : Nat} {bs : List UInt8} (h : OwnB w B (.slice a n cap) bs) : a = none → cap = 0 := by
  rintro rfl
  rcases h.2 with ⟨e, _⟩ | ⟨g, cp, cur, e, _⟩
  · simp only [Value.slice.injEq] at e; exact e.2.2
  · simp at e

set_option maxRecDepth 100000 in
set_option maxHeartbeats 1000000 in
theorem wbytes_calls (g : Nat) (v : Value) (bs : List UInt8) (w : World) (B : Nat) (h : Wtr w B g v bs) (hn : bs.length ≤ 1000000000) :
    Calls Try.prog 44 #[.pointer (some ⟨g, 0, none⟩)] w (BytesPost w bs) := by
  obtain ⟨h1, h2, h3, h4⟩ := h
  obtain ⟨a, cap, rfl, hr⟩ := h3.reads
  have C := Lib.hid (clone_calls a _ cap bs w hr (own_nilcap h3) (by omega))
  clear h2 h3 h4 hr
  generalize hl : bs.length = n at h1 C
  clear hl
  go_enter Try.func44, Try.ntmps44
  go_wp2_with fail
  refine C.out.mono ?_
  rintro e w1 ⟨v1, rfl, ho, hb⟩
  have HO := Lib.hid ho
  have HB := Lib.hid hb
  clear ho hb
  go_wp2_with fail
  go_ret
  exact ⟨v1, rfl, HO.out, HB.out⟩

theorem wtr_grow2 {w X w1 : World} {B g : Nat} {v v' : Value} {bs cs : List UInt8} (h : Wtr w B g v bs) (hX : Below w.heap.size w X)
    (hown : OwnB w1 B v' cs) (hg : X.grownBy w1 v.ownBlock) (hat : v'.ownBlock = v.ownBlock ∨ v'.ownBlock = some X.heap.size) :
    WStep w B g v cs (w1.setCell ⟨g, 0, none⟩ v') := by
  have h0 := h
  obtain ⟨h1, h2, h3, h4⟩ := h
  have hlt := cell_block h1
  simp only at hlt
  have hsz := hX.size
  have hne : v'.ownBlock ≠ some g := by
    rcases hat with e | e
    · rw [e]; exact h4
    · rw [e]; intro e'; have := Option.some.inj e'; omega
  obtain ⟨c1, c2⟩ := wtr_far h0 hX hg
  refine ⟨v', ⟨World.cell?_setCell_same _ _ _ c1, by rw [World.frozen?_setCell]; exact c2, ?_, hne⟩, ?_, ?_⟩
  · refine OwnB.chg (S := fun j => j = g) hown (Chg.setCell (S := fun j => j = g) (Chg.refl _ w1) (p := ⟨g, 0, none⟩) (fun _ => rfl) _) ?_
    rintro j hj rfl
    exact hne hj
  · exact Chg.setCell (((Chg.of_below hX).grown hg (fun j hj _ => .inr hj))) (p := ⟨g, 0, none⟩) (fun _ => .inl rfl) _
  · intro j hj
    rcases hat with e | e
    · exact .inl (by rw [← e]; exact hj)
    · rw [e] at hj; have := Option.some.inj hj; exact .inr (by omega)

set_option maxRecDepth 100000 in
set_option maxHeartbeats 1000000 in
theorem wraw_some (g : Nat) (v : Value) (bs l : List UInt8) (w : World) (B : Nat) (h : Wtr w B g v bs) (hB : B ≤ w.heap.size) (hn : bs.length ≤ 1000000000) (ad : Addr) (m c : Nat) (hr : RdB w (some ad) m l) (hm : m ≤ 1000000000) :
    Calls Try.prog 87 #[.pointer (some ⟨g, 0, none⟩), .slice (some ad) m c] w fun e w' => e = .returned (.tuple #[]) ∧ WStep w B g v (bs ++ l) w' := by
  obtain ⟨i0, hi, hz0, hz1, hz2⟩ := info_parts infoU8
  have HI := Lib.hid hi
  have H := Lib.hid h
  have HR := Lib.hid hr
  clear hi hr
  obtain ⟨h1, h2, h3, h4⟩ := h
  have hlt := cell_block h1
  simp only at hlt
  obtain ⟨a, cap, rfl, _⟩ := h3.reads
  clear h3 h4
  go_enter Try.func87, Try.ntmps87
  go_wp2_with (at_builtin; refine wpList_append_own_at _ rfl _ _ _ rfl B 5 i0 (.int .u8 0) 1 1 Try.underlying23 HI.out hz0 hz1 hz2 rfl (by omega) _ bs.length (byteCells bs) rfl ?own ad m c (byteCells l) rfl ?c0 ?c1 ?c2 ?c3 ?c4 ?c5 ?_)
  case own => exact H.out.2.2.1
  case c0 => rw [byteCells_length, HR.out.1, Nat.mul_one]
  case c1 => exact news_of HR.out
  case c2 => exact byteCells_one l
  case c3 => unfold maxLen; omega
  case c4 => omega
  case c5 => exact hB
  intro v' w1 hown hgrow _ hat
  have hown' : OwnB w1 B v' (bs ++ l) := by unfold OwnB; rw [byteCells_append, List.length_append, HR.out.1]; exact hown
  obtain ⟨f1, f2⟩ := wtr_far H.out (Below.refl _ _) hgrow
  have HS := Lib.hid (wtr_grow2 H.out (Below.refl _ _) hown' hgrow hat)
  have hvs : ∃ a' n' c', v' = .slice a' n' c' := by obtain ⟨a', c', e, _⟩ := hown'.reads; exact ⟨a', _, c', e⟩
  clear hown hgrow hat hown'
  obtain ⟨a', n', c', hve⟩ := hvs
  rw [hve] at HS
  rw [hve]
  clear hve
  go_wp2_with fail
  go_end0
  exact ⟨rfl, HS.out⟩

/-- A Reader whose slice is known. -/
def RdrA (w : World) (r : Nat) (a : Option Addr) (cap : Nat) (bs : List UInt8) (p : Nat) : Prop :=
  w.cell? ⟨r, 0, none⟩ = some (.slice a bs.length cap) ∧ w.cell? ⟨r, 1, none⟩ = some (.int .i64 (p : Nat)) ∧ w.frozen? ⟨r, 1, none⟩ = false ∧
    RdB w a bs.length bs ∧ (∀ x, a = some x → x.block ≠ r) ∧ (a = none → cap = 0) ∧ p ≤ bs.length ∧ bs.length ≤ cap ∧ bs.length ≤ 140737488355328

theorem RdrA.rdr {w : World} {r a cap bs p} (h : RdrA w r a cap bs p) : Rdr w r bs p := ⟨a, cap, h⟩

theorem RdrA.chg {S : Nat → Prop} {w w' : World} {r a cap bs p} (h : RdrA w r a cap bs p) (hc : Chg S w w') (hr : ¬ S r) (ha : ∀ x, a = some x → ¬ S x.block) : RdrA w' r a cap bs p := by
  obtain ⟨h1, h2, h3, h4, h5⟩ := h
  refine ⟨hc.cell hr h1, hc.cell hr h2, ?_, h4.chg hc ha, h5⟩
  rw [← h3]
  exact World.frozen?_of_block (w := w) (hc.block r (by simpa using cell_block h2) hr)

theorem Wtr.chg {S : Nat → Prop} {w w' : World} {B g v bs} (h : Wtr w B g v bs) (hc : Chg S w w') (hg : ¬ S g) (hv : ∀ k, v.ownBlock = some k → ¬ S k) : Wtr w' B g v bs := by
  obtain ⟨h1, h2, h3, h4⟩ := h
  refine ⟨hc.cell hg h1, ?_, h3.chg hc hv, h4⟩
  rw [← h2]
  exact World.frozen?_of_block (w := w) (hc.block g (by simpa using cell_block h1) hg)

/-- A new Reader, answered, and where its bytes lie. -/
def NewPost2 (w : World) (bs : List UInt8) (e : Ending) (w' : World) : Prop :=
  ∃ r a cap, e = .returned (.pointer (some ⟨r, 0, none⟩)) ∧ RdrA w' r a cap bs 0 ∧ Below w.heap.size w w' ∧ w.heap.size ≤ r ∧ (∀ x, a = some x → w.heap.size ≤ x.block)

set_option maxRecDepth 100000 in
set_option maxHeartbeats 1000000 in
theorem new_calls2 (a : Option Addr) (len cap : Nat) (l : List UInt8) (w : World) (h : RdB w a len l) (hc : a = none → cap = 0) (hb : len ≤ 140737488355328) :
    Calls Try.prog 70 #[.slice a len cap] w (NewPost2 w l) := by
  have C := Lib.hid (clone_calls a len cap l w h hc hb)
  have hl := h.1
  have HL := Lib.hid hl
  clear h hl
  go_enter Try.func70, Try.ntmps70
  go_wp2_with fail
  refine C.out.mono ?_
  rintro e w1 ⟨v, rfl, hown, hb1⟩
  have hsz := hb1.size
  obtain ⟨a1, c1, hve, hr⟩ := hown.reads
  have hform := hown.2
  rw [hve] at hform
  rw [hve]
  have HB := Lib.hid hb1
  have HR := Lib.hid hr
  have HO := Lib.hid hform
  clear hown hve hr hb1 hform
  go_wp2_with fail
  go_ret
  refine ⟨w1.heap.size, a1, c1, rfl, ?rd, HB.out.alloc hsz _, hsz, ?far⟩
  case far =>
    rintro x rfl
    rcases HO.out with ⟨h, _⟩ | ⟨g, cp, cur, h, hBg, hg, _⟩
    · simp at h
    · simp only [Value.slice.injEq, Option.some.injEq] at h
      rw [h.1]
      exact hBg
  refine ⟨by simp [go_sem], by simp [go_sem], by simp [go_sem], HR.out.keep ((Below.refl _ _).alloc (Nat.le_refl _) _), ?_, ?_, by omega, ?_, by rw [HL.out]; exact hb⟩
  · rintro x rfl
    rcases HO.out with ⟨h, _⟩ | ⟨g, cp, cur, h, _, hg, _⟩
    · simp at h
    · simp only [Value.slice.injEq, Option.some.injEq] at h
      rw [h.1]
      have := (Array.getElem?_eq_some_iff.1 hg).1
      simp only
      omega
  · rintro rfl
    rcases HO.out with ⟨h, _⟩ | ⟨g, cp, cur, h, _⟩
    · simp only [Value.slice.injEq] at h; exact h.2.2
    · simp at h
  · rcases HO.out with ⟨h, h0⟩ | ⟨g, cp, cur, h, _, _, hle, _⟩
    · omega
    · simp only [Value.slice.injEq] at h; rw [h.2.2]; exact hle

/-- Raw at whatever bytes. -/
theorem wraw_calls (g : Nat) (v : Value) (bs l : List UInt8) (w : World) (B : Nat) (h : Wtr w B g v bs) (hB : B ≤ w.heap.size) (hn : bs.length ≤ 1000000000) (sv : Value) (hs : SrcB w sv l) (hm : l.length ≤ 1000000000) :
    Calls Try.prog 87 #[.pointer (some ⟨g, 0, none⟩), sv] w fun e w' => e = .returned (.tuple #[]) ∧ WStep w B g v (bs ++ l) w' := by
  have H := Lib.hid h
  have HS := Lib.hid hs
  clear hs
  obtain ⟨h1, h2, h3, h4⟩ := h
  clear h3 h4
  go_enter Try.func87, Try.ntmps87
  go_wp2_with (at_builtin; refine wpList_appB (v := v) (bs := bs) (sv := sv) (l := l) (B := B) (by rfl) _ _ (by rfl) (by rfl) H.out.2.2.1 (by rfl) HS.out ?c1 ?c2 ?_)
  case c1 => omega
  case c2 => exact hB
  intro v' w1 hown ha
  obtain ⟨f1, f2⟩ := wtr_far H.out (Below.refl _ _) ha.1
  have HT := Lib.hid (wtr_grow2 H.out (Below.refl _ _) hown ha.1 ha.2)
  obtain ⟨a', c', hve, _⟩ := hown.reads
  generalize (bs ++ l).length = N at hve
  subst hve
  clear hown ha
  go_wp2_with fail
  go_end0
  exact ⟨rfl, HT.out⟩

/-- Bytes, some of them turned into others. -/
def setAt (bs : List UInt8) (p : Nat) (l : List UInt8) : List UInt8 := bs.take p ++ (l ++ bs.drop (p + l.length))

theorem setAt_length (bs : List UInt8) (p : Nat) (l : List UInt8) (h : p + l.length ≤ bs.length) : (setAt bs p l).length = bs.length := by simp [setAt]; omega

theorem setAt_nil (bs : List UInt8) (p : Nat) : setAt bs p [] = bs := by simp [setAt]

theorem setAt_snoc (bs : List UInt8) (p : Nat) (l : List UInt8) (x : UInt8) (h : p + l.length < bs.length) : (setAt bs p l).set (p + l.length) x = setAt bs p (l ++ [x]) := by
  unfold setAt
  rw [List.set_append, if_neg (by simp; omega), List.length_take, Nat.min_eq_left (by omega), Nat.add_sub_cancel_left, List.set_append, if_neg (by omega), Nat.sub_self,
    List.drop_eq_getElem_cons h]
  simp [Nat.add_assoc]

theorem byteCells_set (bs : List UInt8) (i : Nat) (x : UInt8) : byteCells (bs.set i x) = (byteCells bs).set i (.int .u8 (x.toNat : Nat)) := by simp [byteCells, List.map_set]

/-- What setting leaves. -/
def SetPost (w : World) (B g : Nat) (v : Value) (bs : List UInt8) (w' : World) : Prop := Wtr w' B g v bs ∧ Chg (fun k => v.ownBlock = some k) w w'

theorem SetPost.refl {w : World} {B g v bs} (h : Wtr w B g v bs) : SetPost w B g v bs w := ⟨h, Chg.refl _ _⟩

theorem set_next {w wr : World} {B g gb cap k p m : Nat} {n : Nat} {bs cs : List UInt8} {y : Nat} {u : Value} (hy : y < 256) (hu : u = .int .u8 (y : Nat)) (h : SetPost w B g (.slice (some ⟨gb, 0, none⟩) n cap) cs wr)
    (hn : cs.length = n) (he : cs.set p (UInt8.ofNat y) = bs) : SetPost w B g (.slice (some ⟨gb, 0, none⟩) n cap) bs (((wr.drewN k).setCell ⟨gb, p, none⟩ u).drewN m) := by
  subst hu
  obtain ⟨⟨h1, h2, h3, h4⟩, hc⟩ := h
  have hne : gb ≠ g := fun e => h4 (by simp [Value.ownBlock, e])
  have hch : Chg (fun j => (Value.slice (some ⟨gb, 0, none⟩) n cap).ownBlock = some j) wr (((wr.drewN k).setCell ⟨gb, p, none⟩ (.int .u8 (y : Nat))).drewN m) := by
    refine Chg.trans (Chg.setCell (S := fun j => (Value.slice (some ⟨gb, 0, none⟩) n cap).ownBlock = some j) (Chg.of_below (below_drewN wr k _)) (p := ⟨gb, p, none⟩) (fun _ => rfl) _) (Chg.of_below (S := fun _ => False) (below_drewN _ m _)) (fun _ _ h => h.elim)
  refine ⟨⟨hch.cell (by simp [Value.ownBlock, hne]) h1, ?_, ?_, h4⟩, hc.trans hch (fun _ _ h => h)⟩
  · rw [← h2]
    exact World.frozen?_of_block (w := wr) (hch.block g (by simpa using cell_block h1) (by simp [Value.ownBlock, hne]))
  · have h5 : (wr.drewN k).ownsRow B 5 1 (.slice (some ⟨gb, 0, none⟩) n cap) n (byteCells cs) := by rw [← hn]; rw [← hn] at h3; exact h3
    have h6 := (World.ownsRow.stored h5 p (.int .u8 (y : Nat))).1
    have e8 : (UInt8.ofNat y).toNat = y := by simp; omega
    have h7 : byteCells bs = (byteCells cs).set p (.int .u8 (y : Nat)) := by rw [← he, byteCells_set, e8]
    have h9 : bs.length = n := by rw [← he, List.length_set, hn]
    unfold OwnB
    rw [h7, h9]
    exact ownsRow_drewN h6

set_option maxRecDepth 100000 in
set_option maxHeartbeats 1000000 in
theorem wset_no (g : Nat) (v : Value) (bs : List UInt8) (w : World) (B : Nat) (h : Wtr w B g v bs) (hl : bs.length ≤ 1000000000) (p x n : Int) (hn : n < 1 ∨ 8 < n ∨ p < 0 ∨ (bs.length : Int) - n < p) :
    Calls Try.prog 64 #[.pointer (some ⟨g, 0, none⟩), .int .i64 p, .int .u64 x, .int .i64 n] w fun e w' => e = .returned (.bool false) ∧ w = w' := by
  obtain ⟨h1, h2, h3, h4⟩ := h
  obtain ⟨a, cap, rfl, _⟩ := h3.reads
  clear h3 h4 h2
  generalize bs.length = m at h1 hl hn
  by_cases hv : n < 1 ∨ 8 < n
  · have C := Lib.hid (number_no n hv w)
    clear hv hn
    go_enter Try.func64, Try.ntmps64
    go_wp2_with (go_at_call 86; refine C.out.mono ?_; rintro e w' ⟨rfl, rfl⟩)
    go_ret
    exact ⟨rfl, rfl⟩
  · have C := Lib.hid (number_yes n (by omega) (by omega) w)
    by_cases h0 : p < 0
    · have d0 : decide (p < 0) = true := by simp; omega
      clear hn hv
      go_enter Try.func64, Try.ntmps64
      go_wp2_with (go_at_call 86; refine C.out.mono ?_; rintro e w' ⟨rfl, rfl⟩)
      go_ret
      exact ⟨rfl, rfl⟩
    · have d0 : decide (p < 0) = false := by simp; omega
      have d1 : decide ((m : Int) - n < p) = true := by simp; omega
      have q : IntKind.i64.wrap ((m : Int) - n) = (m : Int) - n := IntWalk.i64_in _ (by omega)
      clear hn hv
      go_enter Try.func64, Try.ntmps64
      go_wp2_with (go_at_call 86; refine C.out.mono ?_; rintro e w' ⟨rfl, rfl⟩)
      go_ret
      exact ⟨rfl, rfl⟩

set_option maxRecDepth 100000 in
set_option maxHeartbeats 1000000 in
theorem wset_yes (g : Nat) (v : Value) (bs : List UInt8) (w : World) (B : Nat) (h : Wtr w B g v bs) (hl : bs.length ≤ 1000000000) (p x n : Nat) (hx : x < okSize) (h1 : 1 ≤ n) (h8 : n ≤ 8) (hp : p + n ≤ bs.length) :
    Calls Try.prog 64 #[.pointer (some ⟨g, 0, none⟩), .int .i64 p, .int .u64 (x : Nat), .int .i64 n] w fun e w' => e = .returned (.bool true) ∧ SetPost w B g v (setAt bs p (leBytes n x)) w' := by
  have H := Lib.hid h
  have HX := Lib.hid hx
  obtain ⟨f1, f2, f3, f4⟩ := h
  obtain ⟨gb, cap, rfl, hgb, hgb2⟩ := World.ownsRow.form f3 (by omega)
  have hcap : bs.length ≤ cap := by
    rcases f3.2 with ⟨h, h0⟩ | ⟨g', c', cur, h, _, _, hle, _⟩
    · simp at h
    · simp only [Value.slice.injEq] at h; rw [h.2.2]; exact hle
  have hne : gb ≠ g := fun e => f4 (by simp [Value.ownBlock, e])
  clear f3 f4 hx
  generalize hm : bs.length = m at f1 hl hp H hcap
  have HM := Lib.hid hm
  clear hm
  have C := Lib.hid (number_yes n (by omega) (by omega) w)
  go_enter Try.func64, Try.ntmps64
  go_wp2_with (go_at_call 86; refine C.out.mono ?_; rintro e w' ⟨rfl, rfl⟩)
  go_loopw [29] (fun i wr => ∃ k : Nat, k ≤ n ∧ i = .int .i64 k ∧ SetPost w B g (.slice (some ⟨gb, 0, none⟩) m cap) (setAt bs p (leBytes k x)) wr) (fun i _ => n - (intOf i).toNat)
  case atStart => exact ⟨0, by omega, rfl, by rw [leBytes, setAt_nil]; exact SetPost.refl H.out⟩
  case round =>
    obtain ⟨k, hk, rfl, hst⟩ := hrel
    by_cases hlt : k < n
    · have HS := Lib.hid hst
      obtain ⟨c1, c2, c3, c4⟩ := hst.1
      obtain ⟨y, hy⟩ : ∃ y : Nat, y = x / 256 ^ k % 256 := ⟨_, rfl⟩
      have hyx : IntKind.u8.wrap ((x : Int) / 2 ^ (8 * k)) = (y : Int) := by
        rw [IntKind.wrap_u8', hy]
        have e : (x : Int) / 2 ^ (8 * k) = ((x / 256 ^ k : Nat) : Int) := by rw [pow256, Int.natCast_ediv, Int.natCast_pow]; rfl
        rw [e]; omega
      have HY := Lib.hid hy
      have HYl : Hid (y < 256) := by show y < 256; omega
      have i2 : (0 : Int) ≤ 8 * (k : Int) := by omega
      have i1 : 8 * (k : Int) ≤ 64 := by omega
      have i3 : (8 * (k : Int)).toNat = 8 * k := by omega
      have i4 : IntKind.i64.wrap (8 * (k : Int)) = 8 * (k : Int) := IntWalk.i64_in _ (by omega)
      have i5 : IntKind.i64.wrap ((p : Int) + (k : Int)) = (p : Int) + (k : Int) := IntWalk.i64_in _ (by omega)
      have i6 : (0 : Int) ≤ (p : Int) + (k : Int) := by omega
      have i7 : (p : Int) + (k : Int) < (m : Int) := by omega
      have i8 : ((p : Int) + (k : Int)).toNat = p + k := by omega
      have hcl : Hid ((setAt bs p (leBytes k x)).length = m) := by show _ = m; rw [setAt_length _ _ _ (by rw [leBytes_length, HM.out]; omega), HM.out]
      have hrd := c3.reads
      have hcc : wr.cell? ⟨gb, p + k, none⟩ = some (.int .u8 (bAt (setAt bs p (leBytes k x)) (p + k) : Nat)) := by
        obtain ⟨a', c', he, hr⟩ := hrd
        simp only [Value.slice.injEq] at he
        obtain ⟨rfl, _, _⟩ := he
        obtain ⟨b, o, ha, hc⟩ := hr.at (p + k) (by rw [hcl.out]; omega)
        simp only [Option.some.injEq, Addr.mk.injEq, and_true] at ha
        obtain ⟨rfl, rfl⟩ := ha
        simpa using hc
      have hff : wr.frozen? ⟨gb, p + k, none⟩ = false := World.ownsRow.frozenAt (by have := c3; unfold OwnB at this; rw [hcl.out] at this; exact this) (p + k)
      have hset : Hid ((setAt bs p (leBytes k x)).set (p + k) (UInt8.ofNat y) = setAt bs p (leBytes (k + 1) x)) := by
        show _ = _
        have := setAt_snoc bs p (leBytes k x) (UInt8.ofNat y) (by rw [leBytes_length, HM.out]; omega)
        rw [leBytes_length] at this
        rw [this, leBytes_snoc]
        congr 3
        rw [HY.out]; apply UInt8.toNat_inj.1; simp
      clear hst c3 c4 hrd hy
      go_wp2_with fail
      go_region_held3 (fun w' => w'.cell? ⟨g, 0, none⟩ = some (.slice (some ⟨gb, 0, none⟩) m cap)) (go_keep) (fail)
      go_wp2_with fail
      go_roundw
      case rel => exact ⟨k + 1, by omega, by simp, set_next (k := 1) (m := 0) HYl.out rfl HS.out hcl.out hset.out⟩
      case measure => simp [intOf]; omega
    · obtain rfl : k = n := by omega
      have HS := Lib.hid hst
      clear hst
      go_wp2_with fail
      go_ret
      exact ⟨rfl, HS.out⟩

end Go.Proofs.Ytkcfkdmffbhljaa
