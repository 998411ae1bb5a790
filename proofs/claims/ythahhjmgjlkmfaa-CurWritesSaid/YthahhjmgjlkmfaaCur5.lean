/- The Writer: High. -/
import Derived.Test.YthahhjmgjlkmfaaCur4
namespace Go.Proofs.Ythahhjmgjlkmfaa
open Go.RowKit
set_option linter.unusedVariables false
set_option linter.unusedSimpArgs false
attribute [local go_sem ↓] Go.wp_at_zero Go.wp_at_succ

theorem leBytes_at : ∀ (n x k : Nat), k < n → (leBytes n x).drop k = UInt8.ofNat (x / 256 ^ k) :: (leBytes n x).drop (k + 1)
  | n + 1, x, 0, _ => by simp [leBytes]
  | n + 1, x, k + 1, h => by
    simp only [leBytes, List.drop_succ_cons]
    rw [leBytes_at n (x / 256) k (by omega), Nat.div_div_eq_div_mul, Nat.pow_succ, Nat.mul_comm 256]

theorem high_next {w wr w2 : World} {B g : Nat} {v v' : Value} {bs cs : List UInt8} {x k n y : Nat} (h0 : 0 < k) (hk : k ≤ n) (hc : Chg (fun k => k = g ∨ v.ownBlock = some k) w wr) (hv : ∀ k, v'.ownBlock = some k → v.ownBlock = some k ∨ w.heap.size ≤ k)
    (hbs : bs ++ ((leBytes n x).drop k).reverse = cs) (hy : y = x / 256 ^ (k - 1) % 256) (h : WStep wr B g v' (cs ++ [UInt8.ofNat y]) w2) : WStep w B g v (bs ++ ((leBytes n x).drop (k - 1)).reverse) w2 := by
  refine WStep.trans hc hv ?_
  rw [leBytes_at n x (k - 1) (by omega), List.reverse_cons, show k - 1 + 1 = k from by omega, ← List.append_assoc, hbs]
  have : UInt8.ofNat (x / 256 ^ (k - 1)) = UInt8.ofNat y := by rw [hy]; apply UInt8.toNat_inj.1; simp
  rw [this]
  exact h

set_option maxRecDepth 100000 in
set_option maxHeartbeats 1000000 in
theorem whigh_yes (g : Nat) (v : Value) (bs : List UInt8) (w : World) (B : Nat) (h : Wtr w B g v bs) (hB : B ≤ w.heap.size) (hn : bs.length ≤ 1000000000) (x n : Nat) (hx : x < okSize) (h1 : 1 ≤ n) (h8 : n ≤ 8) :
    Calls Try.prog 26 #[.pointer (some ⟨g, 0, none⟩), .int .u64 (x : Nat), .int .i64 n] w fun e w' => e = .returned (.tuple #[]) ∧ WStep w B g v (bs ++ (leBytes n x).reverse) w' := by
  obtain ⟨i0, hi, hz0, hz1, hz2⟩ := info_parts infoU8
  have HI := Lib.hid hi
  have H := Lib.hid h
  have HX := Lib.hid hx
  clear hi h hx
  go_enter Try.func26, Try.ntmps26
  go_wp2_with fail
  go_loopw [6] (fun i wr => ∃ k : Nat, k ≤ n ∧ i = .int .i64 ((k : Int) - 1) ∧ WStep w B g v (bs ++ ((leBytes n x).drop k).reverse) wr) (fun i _ => (intOf i + 1).toNat)
  case atStart => exact ⟨n, by omega, rfl, by rw [List.drop_of_length_le (by rw [leBytes_length]; omega), List.reverse_nil, List.append_nil]; exact WStep.refl H.out⟩
  case round =>
    obtain ⟨k, hk, rfl, hst⟩ := hrel
    by_cases hlt : 0 < k
    · obtain ⟨v', hw, hch, hv⟩ := hst
      have HW := Lib.hid hw
      have HC := Lib.hid hch
      have HV := Lib.hid hv
      have hsz := hch.size
      obtain ⟨c1, c2, c3, c4⟩ := hw
      have hlt1 := cell_block c1
      simp only at hlt1
      obtain ⟨a, cap, rfl, _⟩ := c3.reads
      have hlen : (bs ++ ((leBytes n x).drop k).reverse).length ≤ 1000000008 := by simp [leBytes_length]; omega
      obtain ⟨y, hy⟩ : ∃ y : Nat, y = x / 256 ^ (k - 1) % 256 := ⟨_, rfl⟩
      have hyx : IntKind.u8.wrap ((x : Int) / 2 ^ (8 * (k - 1))) = (y : Int) := by
        rw [IntKind.wrap_u8', hy]
        have e : (x : Int) / 2 ^ (8 * (k - 1)) = ((x / 256 ^ (k - 1) : Nat) : Int) := by rw [pow256, Int.natCast_ediv, Int.natCast_pow]; rfl
        rw [e]; omega
      have HY := Lib.hid hy
      have HYl : Hid (y < 256) := by show y < 256; omega
      have i2 : (0 : Int) ≤ 8 * ((k : Int) - 1) := by omega
      have i1 : 8 * ((k : Int) - 1) ≤ 64 := by omega
      have i3 : (8 * ((k : Int) - 1)).toNat = 8 * (k - 1) := by omega
      have i4 : IntKind.i64.wrap (8 * ((k : Int) - 1)) = 8 * ((k : Int) - 1) := IntWalk.i64_in _ (by omega)
      clear hch hv c3 c4 hy
      generalize hbs : bs ++ ((leBytes n x).drop k).reverse = cs at HW HV hlen c1
      have HBS := Lib.hid hbs
      clear hbs
      go_wp2_with (go_at_call 44; refine (number_yes _ (by omega) (by omega) _).mono ?_; rintro e w' ⟨rfl, rfl⟩)
      have HWo := Lib.hid (fun k o => wtr_own HW.out k o)
      go_region_law ((refine step_append_lies _ (by rfl) _ _ _ (by rfl) B 5 i0 (.int .u8 0) 1 1 Try.underlying22 HI.out hz0 hz1 hz2 rfl (by omega) (.slice a cs.length cap) cs.length (byteCells cs) (by rfl) (by exact HWo.out 1 _) ⟨wr.heap.size, 0, none⟩ 1 1 [.int .u8 (y : Nat)] (by rfl) (by rfl) (cell_one_new _ _ _) (by simp [Value.oneCell']) (by omega) (by unfold maxLen; omega) (by omega) (by simp; omega) (wr.heap.size + 1) (by simp) ?_; intro g' cap' w1 hown hgrow hat hlt2; obtain ⟨f1, f2⟩ := wtr_far HW.out (((Below.refl wr.heap.size wr).alloc (Nat.le_refl _) _).drew) hgrow; have HS := Lib.hid (wtr_grow (k := 1) HW.out HYl.out hown hgrow hat); clear hown hgrow hat hlt2))
      all_goals
        go_wp2_with fail
        go_roundw
        case rel => exact ⟨k - 1, by omega, by rw [show ((k - 1 : Nat) : Int) = (k : Int) - 1 from by omega], high_next hlt hk HC.out HV.out HBS.out HY.out HS.out⟩
        case measure => simp [intOf]; omega
    · obtain rfl : k = 0 := by omega
      have HT := Lib.hid hst
      clear hst
      go_wp2_with (go_at_call 44; refine (number_yes _ (by omega) (by omega) _).mono ?_; rintro e w' ⟨rfl, rfl⟩)
      go_end0
      exact ⟨rfl, HT.out⟩

set_option maxRecDepth 100000 in
set_option maxHeartbeats 1000000 in
theorem whigh_no (g : Nat) (w : World) (x n : Int) (h : n < 1 ∨ 8 < n) :
    Calls Try.prog 26 #[.pointer (some ⟨g, 0, none⟩), .int .u64 x, .int .i64 n] w fun e w' => e = .returned (.tuple #[]) ∧ w = w' := by
  have C := Lib.hid (number_no n h w)
  clear h
  go_enter Try.func26, Try.ntmps26
  go_wp2_with fail
  refine wp_loop_once ?_
  go_wp2_with (go_at_call 44; refine C.out.mono ?_; rintro e w' ⟨rfl, rfl⟩)
  go_end0
  exact ⟨rfl, rfl⟩

end Go.Proofs.Ythahhjmgjlkmfaa
