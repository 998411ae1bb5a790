/- The reference's PutLow, PutHigh, High. -/
import Derived.Test.YtkcfkdmffbhljaaNum
import Derived.Test.YtkcfkdmffbhljaaOwn
namespace Go.Proofs.Ytkcfkdmffbhljaa
open Go.RowKit
set_option linter.unusedVariables false
set_option linter.unusedSimpArgs false

/-- The n lowest bytes, the lowest one first. -/
def leBytes : Nat → Nat → List UInt8
  | 0, _ => []
  | n + 1, v => UInt8.ofNat v :: leBytes n (v / 256)

theorem leBytes_length : ∀ (n v : Nat), (leBytes n v).length = n
  | 0, _ => rfl
  | n + 1, v => by simp [leBytes, leBytes_length n]

theorem leBytes_snoc : ∀ (n v : Nat), leBytes (n + 1) v = leBytes n v ++ [UInt8.ofNat (v / 256 ^ n)]
  | 0, v => by simp [leBytes]
  | n + 1, v => by
    rw [leBytes, leBytes_snoc n (v / 256)]
    simp only [leBytes, List.cons_append, Nat.div_div_eq_div_mul, Nat.pow_succ]
    rw [Nat.mul_comm 256]

theorem le_leBytes : ∀ (n v : Nat), le (leBytes n v) = v % 256 ^ n
  | 0, v => by simp [leBytes, le]; omega
  | n + 1, v => by
    simp only [leBytes, le, le_leBytes n]
    have h : (UInt8.ofNat v).toNat = v % 256 := by simp
    rw [h, Nat.pow_succ, Nat.mul_comm (256 ^ n) 256, Nat.mod_mul]

/-- What PutLow answers. -/
def putLowS (v : Nat) (n : Int) : List UInt8 := if 1 ≤ n ∧ n ≤ 8 then leBytes n.toNat v else []

/-- A new row of bytes, answered. -/
def BytesPost (w : World) (bs : List UInt8) (e : Ending) (w' : World) : Prop :=
  ∃ v, e = .returned v ∧ OwnB w' w.heap.size v bs ∧ Below w.heap.size w w'

theorem own_snoc {w : World} {B : Nat} {v : Value} {bs : List UInt8} {x : Nat} (hx : x < 256) (h : w.ownsRow B 5 1 v (bs.length + 1) (byteCells bs ++ [.int .u8 (x : Nat)])) : OwnB w B v (bs ++ [UInt8.ofNat x]) := by
  have e : byteCells (bs ++ [UInt8.ofNat x]) = byteCells bs ++ [.int .u8 (x : Nat)] := by
    rw [byteCells_append]
    simp [byteCells]
    omega
  unfold OwnB
  rw [e, List.length_append]
  exact h

theorem div_step (v k : Nat) : v / 256 ^ k / 256 = v / 256 ^ (k + 1) := by rw [Nat.div_div_eq_div_mul, Nat.pow_succ]

def PutRel (w : World) (v0 : Nat) (n : Nat) (q o i : Value) (wr : World) : Prop :=
  ∃ k : Nat, k ≤ n ∧ i = .int .i64 k ∧ q = .int .u64 (v0 / 256 ^ k : Nat) ∧ OwnB wr w.heap.size o (leBytes k v0) ∧ Below w.heap.size w wr

theorem put_next {w wr w1 : World} {o o' : Value} {v0 n k : Nat} {ob : Obj} (hk : k < n)
    (ho : OwnB wr w.heap.size o (leBytes k v0)) (hb : Below w.heap.size w wr) (hg : (wr.alloc ob).grownBy w1 o.ownBlock)
    (ho' : w1.ownsRow w.heap.size 5 1 o' (k + 1) (byteCells (leBytes k v0) ++ [.int .u8 (v0 / 256 ^ k % 256 : Nat)])) :
    PutRel w v0 n (.int .u64 (v0 / 256 ^ (k + 1) : Nat)) o' (.int .i64 ((k + 1 : Nat) : Int)) w1 := by
  refine ⟨k + 1, by omega, rfl, rfl, ?_, ?_⟩
  · rw [leBytes_snoc]
    have : UInt8.ofNat (v0 / 256 ^ k) = UInt8.ofNat (v0 / 256 ^ k % 256) := by apply UInt8.toNat_inj.1; simp
    rw [this]
    refine own_snoc (Nat.mod_lt _ (by omega)) ?_
    rw [leBytes_length]
    exact ho'
  · exact (hb.alloc hb.size ob).grown hg (by have := hb.size; simp; omega) fun x hx => ((World.ownsRow.alloc ho ob).lt x hx).1

set_option maxRecDepth 100000 in
set_option maxHeartbeats 1000000 in
theorem putLow_yes (v n : Nat) (hv : v < okSize) (h1 : 1 ≤ n) (h8 : n ≤ 8) (w : World) :
    Calls Try.prog 48 #[.int .u64 (v : Nat), .int .i64 n] w (BytesPost w (leBytes n v)) := by
  obtain ⟨i0, hi, hz0, hz1, hz2⟩ := info_parts infoU8
  have HI := Lib.hid hi
  have HV := Lib.hid hv
  clear hi hv
  go_enter Try.func48, Try.ntmps48
  go_wp2_with fail
  go_loopw [0, 5, 6] (fun q o i wr => PutRel w v n q o i wr) (fun _ _ i _ => n - (intOf i).toNat)
  case atStart => exact ⟨0, by omega, rfl, by simp, World.ownsRow_nil _ _ _ _, Below.refl _ _⟩
  case round =>
    obtain ⟨k, hk, rfl, rfl, hown, hbl⟩ := hrel
    have HO := Lib.hid hown
    have HB := Lib.hid hbl
    have hsz := hbl.size
    clear hown hbl
    by_cases hlt : k < n
    · have hx : Hid (v / 256 ^ k < okSize) := Nat.lt_of_le_of_lt (Nat.div_le_self _ _) HV.out
      have HD := Lib.hid (div_step v k)
      generalize hu : v / 256 ^ k = u at hx HD
      obtain ⟨x, hxe⟩ : ∃ x : Nat, x = u % 256 := ⟨_, rfl⟩
      have hu8 : IntKind.u8.wrap (u : Int) = (x : Int) := by rw [IntKind.wrap_u8']; omega
      have HU := Lib.hid hu
      have HX := Lib.hid hxe
      clear hu hxe
      go_wp2_with (at_builtin; refine wpList_append_own _ rfl _ _ 23 rfl w.heap.size 5 i0 (.int .u8 0) 1 1 Try.underlying23 HI.out hz0 hz1 hz2 rfl (by decide) _ k (byteCells (leBytes k v)) rfl ?own ⟨wr.heap.size, 0, none⟩ 1 1 [.int .u8 (x : Nat)] rfl rfl (cell_one_new _ _ _) ?c2 ?c3 ?c4 ?c5 ?_)
      case own => exact World.ownsRow.alloc (by have := HO.out; unfold OwnB at this; rwa [leBytes_length] at this) _
      case c2 => simp [Value.oneCell']
      case c3 => unfold maxLen; omega
      case c4 => omega
      case c5 => simp; omega
      intro v' w1 hown' hgrow _
      have HO' := Lib.hid hown'
      have HG := Lib.hid hgrow
      clear hown' hgrow
      go_wp2_with fail
      go_roundw
      case rel =>
        have e1 : IntKind.u64.wrap ((u : Int) / 256) = ((v / 256 ^ (k + 1) : Nat) : Int) := by
          rw [← HD.out, wrap_u64_of (by omega) (by have := hx.out; unfold okSize at this; omega)]; omega
        rw [e1, show (k : Int) + 1 = ((k + 1 : Nat) : Int) from rfl]
        exact put_next hlt HO.out HB.out HG.out (by rw [HU.out, ← HX.out]; exact HO'.out)
      case measure => simp [intOf]; omega
    · obtain rfl : k = n := by omega
      go_wp2_with fail
      go_ret
      exact ⟨_, rfl, HO.out, HB.out⟩

set_option maxRecDepth 100000 in
set_option maxHeartbeats 1000000 in
theorem putLow_no (v : Nat) (n : Int) (h : n < 1 ∨ 8 < n) (w : World) :
    Calls Try.prog 48 #[.int .u64 (v : Nat), .int .i64 n] w fun e w' => e = .returned (.slice none 0 0) ∧ w = w' := by
  rcases h with h | h
  · go_enter Try.func48, Try.ntmps48
    go_wp2_with fail
    refine wp_loop_once ?_
    go_wp2_with fail
    go_ret
    exact ⟨rfl, rfl⟩
  · have h' : ¬ n ≤ 8 := by omega
    have h0 : 0 < n := by omega
    go_enter Try.func48, Try.ntmps48
    go_wp2_with fail
    refine wp_loop_once ?_
    go_wp2_with fail
    go_ret
    exact ⟨rfl, rfl⟩

theorem putLow_calls (v : Nat) (n : Int) (hv : v < okSize) (w : World) :
    Calls Try.prog 48 #[.int .u64 (v : Nat), .int .i64 n] w (BytesPost w (putLowS v n)) := by
  unfold putLowS
  by_cases h : 1 ≤ n ∧ n ≤ 8
  · rw [if_pos h]
    have := putLow_yes v n.toNat hv (by omega) (by omega) w
    rwa [Int.toNat_of_nonneg (by omega)] at this
  · rw [if_neg h]
    refine (putLow_no v n (by omega) w).mono ?_
    rintro e w' ⟨rfl, rfl⟩
    exact ⟨_, rfl, World.ownsRow_nil _ _ _ _, Below.refl _ _⟩

end Go.Proofs.Ytkcfkdmffbhljaa
