/- The program's Put. -/
import Derived.Test.YtamhdoijmkjngaaUtf9
import Derived.Laws.OwnMore
namespace Go.Proofs.Ytamhdoijmkjngaa
open Go.RowKit
set_option linter.unusedVariables false
set_option linter.unusedSimpArgs false

/-- A new row of bytes. -/
theorem ownB_new (w : World) (B : Nat) (hB : B ≤ w.heap.size) (bs : List UInt8) (hl : bs.length ≤ 1000000) (cs : Array Value) (hcs : cs = (byteCells bs).toArray) (n : Nat) (hn : n = bs.length) :
    OwnB (w.alloc (.cells cs 5)) B (.slice (some ⟨w.heap.size, 0, none⟩) n n) bs := by
  subst hcs hn
  have hs : (byteCells bs).toArray.size = bs.length := by simp [byteCells]
  have := World.ownsRow_lit (e := 5) (size := 1) w (byteCells bs).toArray bs.length hB (by unfold maxLen; omega) (by rw [hs, Nat.mul_one])
  simpa [OwnB] using this

/-- What Put answers. -/
def PutOut (r : Int) (w : World) (e : Ending) (w' : World) : Prop :=
  if isCh r = true then ∃ v, e = .returned (.tuple #[v, .bool true]) ∧ OwnB w' w.heap.size v (putL r.toNat) ∧ Below w.heap.size w w'
  else e = .returned (.tuple #[.slice none 0 0, .bool false]) ∧ w = w'

theorem put_out {r : Nat} {w : World} {cs : Array Value} {n : Nat} (h : isCh (r : Int) = true) (hcs : cs = (byteCells (putL r)).toArray) (hn : n = (putL r).length) :
    PutOut r w (.returned (.tuple #[.slice (some ⟨w.heap.size, 0, none⟩) n n, .bool true])) (w.alloc (.cells cs 5)) := by
  unfold PutOut
  rw [if_pos h]
  have := putL_len r
  exact ⟨_, rfl, ownB_new w _ (Nat.le_refl _) _ (by omega) _ hcs _ hn, (Below.refl _ _).alloc (Nat.le_refl _) _⟩

theorem cells1 (r : Nat) (h : r < 128) : (byteCells (putL r)).toArray = #[.int .u8 (r : Int)] := by
  unfold putL; rw [if_pos h]; simp only [byteCells, List.map_cons, List.map_nil]; rw [ofNat_lt _ (by omega)]
theorem cells2 (r : Nat) (h : ¬ r < 128) (h2 : r < 2048) : (byteCells (putL r)).toArray = #[.int .u8 ((192 + r / 64 : Nat) : Int), .int .u8 ((128 + r % 64 : Nat) : Int)] := by
  unfold putL; rw [if_neg h, if_pos h2]; simp only [byteCells, List.map_cons, List.map_nil]; rw [ofNat_lt _ (by omega), ofNat_lt _ (by omega)]
theorem cells3 (r : Nat) (h : ¬ r < 128) (h2 : ¬ r < 2048) (h3 : r < 65536) : (byteCells (putL r)).toArray = #[.int .u8 ((224 + r / 4096 : Nat) : Int), .int .u8 ((128 + r / 64 % 64 : Nat) : Int), .int .u8 ((128 + r % 64 : Nat) : Int)] := by
  unfold putL; rw [if_neg h, if_neg h2, if_pos h3]; simp only [byteCells, List.map_cons, List.map_nil]; rw [ofNat_lt _ (by omega), ofNat_lt _ (by omega), ofNat_lt _ (by omega)]
theorem cells4 (r : Nat) (h : ¬ r < 128) (h2 : ¬ r < 2048) (h3 : ¬ r < 65536) (h4 : r ≤ 1114111) : (byteCells (putL r)).toArray = #[.int .u8 ((240 + r / 262144 : Nat) : Int), .int .u8 ((128 + r / 4096 % 64 : Nat) : Int), .int .u8 ((128 + r / 64 % 64 : Nat) : Int), .int .u8 ((128 + r % 64 : Nat) : Int)] := by
  unfold putL; rw [if_neg h, if_neg h2, if_neg h3]; simp only [byteCells, List.map_cons, List.map_nil]; rw [ofNat_lt _ (by omega), ofNat_lt _ (by omega), ofNat_lt _ (by omega), ofNat_lt _ (by omega)]

theorem and_63i (r : Nat) (h : r < 1000000000) : bits BinOp.and IntKind.i64 (r : Int) 63 = ((r % 64 : Nat) : Int) := by
  have := bits_mask .i64 40 (by decide) (fun n h0 h1 => IntWalk.i64_in _ (by omega)) 6 (by decide) (r : Int) (by omega) (by omega)
  simpa using this
theorem or_192uf : ∀ y : Fin 32, bits BinOp.or IntKind.u8 192 ((y : Nat) : Int) = ((192 + (y : Nat) : Nat) : Int) := by decide +kernel
theorem or_192u (y : Nat) (h : y < 32) : bits BinOp.or IntKind.u8 192 (y : Int) = ((192 + y : Nat) : Int) := or_192uf ⟨y, h⟩
theorem or_224uf : ∀ y : Fin 16, bits BinOp.or IntKind.u8 224 ((y : Nat) : Int) = ((224 + (y : Nat) : Nat) : Int) := by decide +kernel
theorem or_224u (y : Nat) (h : y < 16) : bits BinOp.or IntKind.u8 224 (y : Int) = ((224 + y : Nat) : Int) := or_224uf ⟨y, h⟩
theorem or_240uf : ∀ y : Fin 8, bits BinOp.or IntKind.u8 240 ((y : Nat) : Int) = ((240 + (y : Nat) : Nat) : Int) := by decide +kernel
theorem or_240u (y : Nat) (h : y < 8) : bits BinOp.or IntKind.u8 240 (y : Int) = ((240 + y : Nat) : Int) := or_240uf ⟨y, h⟩
theorem or_128uf : ∀ y : Fin 64, bits BinOp.or IntKind.u8 128 ((y : Nat) : Int) = ((128 + (y : Nat) : Nat) : Int) := by decide +kernel
theorem or_128u (y : Nat) (h : y < 64) : bits BinOp.or IntKind.u8 128 (y : Int) = ((128 + y : Nat) : Int) := or_128uf ⟨y, h⟩
theorem wrap8 (y : Nat) (h : y < 256) : IntKind.u8.wrap (y : Int) = (y : Int) := by rw [IntKind.wrap_u8']; omega

set_option maxRecDepth 100000 in
set_option maxHeartbeats 1000000 in
theorem put_calls (r : Int) (w : World) : Calls Try.prog 84 #[.int .i64 r] w (PutOut r w) := by
  have C := Lib.hid (is_calls r w)
  cases hi : isCh r with
  | false =>
    rw [hi] at C
    have HP : ∀ e w', (e = .returned (.tuple #[.slice none 0 0, .bool false]) ∧ w = w') → PutOut r w e w' := fun e w' h => by unfold PutOut; rw [if_neg (by rw [hi]; simp)]; exact h
    refine Calls.mono ?_ HP
    clear hi HP
    go_enter Try.func84, Try.ntmps84
    go_wp2_with (go_at_call 83; refine C.out.mono ?_; rintro e w' ⟨rfl, rfl⟩)
    go_ret2
    exact ⟨rfl, rfl⟩
  | true =>
    rw [hi] at C
    have h0 : 0 ≤ r ∧ r ≤ 1114111 := by simp [isCh] at hi; omega
    obtain ⟨n, rfl⟩ : ∃ n : Nat, r = n := ⟨r.toNat, by omega⟩
    have HI := Lib.hid hi
    have hn : n ≤ 1114111 := by omega
    clear hi h0
    have qa := and_63i n (by omega)
    by_cases h1 : n < 128
    · have HC := Lib.hid (cells1 n h1)
      have q1 := wrap8 n (by omega)
      clear qa
      go_enter Try.func84, Try.ntmps84
      go_wp2_with (go_at_call 83; refine C.out.mono ?_; rintro e w' ⟨rfl, rfl⟩)
      go_ret2
      exact put_out HI.out HC.out.symm (by unfold putL; rw [if_pos h1]; rfl)
    by_cases h2 : n < 2048
    · have HC := Lib.hid (cells2 n h1 h2)
      have HN : Hid (2 = (putL n).length) := by show _ = _; unfold putL; rw [if_neg h1, if_pos h2]; rfl
      obtain ⟨y0, hy0⟩ : ∃ y : Nat, y = n % 64 := ⟨_, rfl⟩
      obtain ⟨y1, hy1⟩ : ∃ y : Nat, y = n / 64 := ⟨_, rfl⟩
      rw [← hy0] at qa HC
      rw [← hy1] at HC
      have b0 : y0 < 64 := by omega
      have b1 : y1 < 32 := by omega
      have q0 := wrap8 y0 (by omega)
      have q1 : IntKind.u8.wrap ((n : Int) / 64) = (y1 : Int) := by rw [IntKind.wrap_u8']; omega
      have o1 := or_192u y1 b1
      have o0 := or_128u y0 b0
      clear hy0 hy1
      go_enter Try.func84, Try.ntmps84
      go_wp2_with (go_at_call 83; refine C.out.mono ?_; rintro e w' ⟨rfl, rfl⟩)
      go_ret2
      exact put_out HI.out HC.out.symm HN.out
    by_cases h3 : n < 65536
    · have HC := Lib.hid (cells3 n h1 h2 h3)
      have HN : Hid (3 = (putL n).length) := by show _ = _; unfold putL; rw [if_neg h1, if_neg h2, if_pos h3]; rfl
      have qb := and_63i (n / 64) (by omega)
      obtain ⟨y0, hy0⟩ : ∃ y : Nat, y = n % 64 := ⟨_, rfl⟩
      obtain ⟨y1, hy1⟩ : ∃ y : Nat, y = n / 64 % 64 := ⟨_, rfl⟩
      obtain ⟨y2, hy2⟩ : ∃ y : Nat, y = n / 4096 := ⟨_, rfl⟩
      rw [← hy0] at qa HC
      rw [← hy1] at qb HC
      rw [← hy2] at HC
      change bits BinOp.and IntKind.i64 ((n : Int) / 64) 63 = (y1 : Int) at qb
      have b0 : y0 < 64 := by omega
      have b1 : y1 < 64 := by omega
      have b2 : y2 < 16 := by omega
      have q0 := wrap8 y0 (by omega)
      have q1 := wrap8 y1 (by omega)
      have q2 : IntKind.u8.wrap ((n : Int) / 4096) = (y2 : Int) := by rw [IntKind.wrap_u8']; omega
      have o2 := or_224u y2 b2
      have o1 := or_128u y1 b1
      have o0 := or_128u y0 b0
      clear hy0 hy1 hy2
      have g1 : decide ((n:Int) < 128) = false := by simp; omega
      have g2 : decide ((n:Int) < 2048) = false := by simp; omega
      have g3 : decide ((n:Int) < 65536) = true := by simp; omega
      clear h1 h2 h3 hn
      go_enter Try.func84, Try.ntmps84
      go_wp2_with (go_at_call 83; refine C.out.mono ?_; rintro e w' ⟨rfl, rfl⟩)
      go_ret2
      exact put_out HI.out HC.out.symm HN.out
    · have HC := Lib.hid (cells4 n h1 h2 h3 (by omega))
      have HN : Hid (4 = (putL n).length) := by show _ = _; unfold putL; rw [if_neg h1, if_neg h2, if_neg h3]; rfl
      have qb := and_63i (n / 64) (by omega)
      have qc := and_63i (n / 4096) (by omega)
      obtain ⟨y0, hy0⟩ : ∃ y : Nat, y = n % 64 := ⟨_, rfl⟩
      obtain ⟨y1, hy1⟩ : ∃ y : Nat, y = n / 64 % 64 := ⟨_, rfl⟩
      obtain ⟨y2, hy2⟩ : ∃ y : Nat, y = n / 4096 % 64 := ⟨_, rfl⟩
      obtain ⟨y3, hy3⟩ : ∃ y : Nat, y = n / 262144 := ⟨_, rfl⟩
      rw [← hy0] at qa HC
      rw [← hy1] at qb HC
      rw [← hy2] at qc HC
      rw [← hy3] at HC
      change bits BinOp.and IntKind.i64 ((n : Int) / 64) 63 = (y1 : Int) at qb
      change bits BinOp.and IntKind.i64 ((n : Int) / 4096) 63 = (y2 : Int) at qc
      have b0 : y0 < 64 := by omega
      have b1 : y1 < 64 := by omega
      have b2 : y2 < 64 := by omega
      have b3 : y3 < 8 := by omega
      have q0 := wrap8 y0 (by omega)
      have q1 := wrap8 y1 (by omega)
      have q2 := wrap8 y2 (by omega)
      have q3 : IntKind.u8.wrap ((n : Int) / 262144) = (y3 : Int) := by rw [IntKind.wrap_u8']; omega
      have o3 := or_240u y3 b3
      have o2 := or_128u y2 b2
      have o1 := or_128u y1 b1
      have o0 := or_128u y0 b0
      clear hy0 hy1 hy2 hy3
      have g1 : decide ((n:Int) < 128) = false := by simp; omega
      have g2 : decide ((n:Int) < 2048) = false := by simp; omega
      have g3 : decide ((n:Int) < 65536) = false := by simp; omega
      clear h1 h2 h3 hn
      go_enter Try.func84, Try.ntmps84
      go_wp2_with (go_at_call 83; refine C.out.mono ?_; rintro e w' ⟨rfl, rfl⟩)
      go_ret2
      exact put_out HI.out HC.out.symm HN.out

end Go.Proofs.Ytamhdoijmkjngaa
