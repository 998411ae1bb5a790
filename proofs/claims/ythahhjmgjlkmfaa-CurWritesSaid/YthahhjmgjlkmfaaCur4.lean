/- The Writer: Lay, Low, High. -/
import Derived.Test.YthahhjmgjlkmfaaCur3
import Derived.Deep.RegionLaw
import Derived.Deep.DrawnRows
namespace Go.Proofs.Ythahhjmgjlkmfaa
open Go.RowKit
set_option linter.unusedVariables false
set_option linter.unusedSimpArgs false
attribute [local go_sem ↓] Go.wp_at_zero Go.wp_at_succ

theorem WStep.trans {w wr w2 : World} {B g : Nat} {v v' : Value} {bs : List UInt8} (hc : Chg (fun k => k = g ∨ v.ownBlock = some k) w wr) (hv : ∀ k, v'.ownBlock = some k → v.ownBlock = some k ∨ w.heap.size ≤ k)
    (h : WStep wr B g v' bs w2) : WStep w B g v bs w2 := by
  obtain ⟨v2, h1, h2, h3⟩ := h
  refine ⟨v2, h1, hc.trans h2 ?_, ?_⟩
  · rintro i hi (e | e)
    · exact .inl e
    · rcases hv i e with e | e
      · exact .inr e
      · omega
  · intro k hk
    rcases h3 k hk with e | e
    · exact hv k e
    · exact .inr (Nat.le_trans hc.size e)

theorem wtr_far {W X w1 : World} {B g : Nat} {v : Value} {bs : List UInt8} (h : Wtr W B g v bs) (hX : Below W.heap.size W X) (hg : X.grownBy w1 v.ownBlock) : w1.cell? ⟨g, 0, none⟩ = some v ∧ w1.frozen? ⟨g, 0, none⟩ = false := by
  have hc : Chg (fun j => v.ownBlock = some j) W w1 := (Chg.of_below hX).grown hg (fun j hj _ => hj)
  refine ⟨hc.cell h.2.2.2 h.1, ?_⟩
  rw [← h.2.1]
  exact World.frozen?_of_block (w := W) (hc.block g (by simpa using cell_block h.1) h.2.2.2)

theorem low_next {w wr w2 : World} {B g : Nat} {v v' : Value} {bs cs : List UInt8} {x k y : Nat} (hc : Chg (fun k => k = g ∨ v.ownBlock = some k) w wr) (hv : ∀ k, v'.ownBlock = some k → v.ownBlock = some k ∨ w.heap.size ≤ k)
    (hbs : bs ++ leBytes k x = cs) (hy : y = x / 256 ^ k % 256) (h : WStep wr B g v' (cs ++ [UInt8.ofNat y]) w2) : WStep w B g v (bs ++ leBytes (k + 1) x) w2 := by
  refine WStep.trans hc hv ?_
  rw [leBytes_snoc, ← List.append_assoc, hbs]
  have : UInt8.ofNat (x / 256 ^ k) = UInt8.ofNat y := by rw [hy]; apply UInt8.toNat_inj.1; simp
  rw [this]
  exact h

theorem number_yes (n : Int) (h1 : 1 ≤ n) (h8 : n ≤ 8) (w : World) : Calls Try.prog 44 #[.int .i64 n] w fun e w' => e = .returned (.bool true) ∧ w = w' := by
  go_enter Try.func44, Try.ntmps44
  go_wp2
  go_ret
  exact ⟨rfl, rfl⟩

theorem number_no (n : Int) (h : n < 1 ∨ 8 < n) (w : World) : Calls Try.prog 44 #[.int .i64 n] w fun e w' => e = .returned (.bool false) ∧ w = w' := by
  by_cases h1 : n < 1
  · go_enter Try.func44, Try.ntmps44
    go_wp2
    go_ret
    exact ⟨rfl, rfl⟩
  · have h2 : ¬ n ≤ 8 := by omega
    have h3 : 1 ≤ n := by omega
    have h4 : decide (n ≤ 8) = false := by simpa using h2
    clear h h1
    go_enter Try.func44, Try.ntmps44
    go_wp2
    go_ret
    exact ⟨rfl, rfl⟩

set_option maxRecDepth 100000 in
set_option maxHeartbeats 1000000 in
theorem wlow_yes (g : Nat) (v : Value) (bs : List UInt8) (w : World) (B : Nat) (h : Wtr w B g v bs) (hB : B ≤ w.heap.size) (hn : bs.length ≤ 1000000000) (x n : Nat) (hx : x < okSize) (h1 : 1 ≤ n) (h8 : n ≤ 8) :
    Calls Try.prog 24 #[.pointer (some ⟨g, 0, none⟩), .int .u64 (x : Nat), .int .i64 n] w fun e w' => e = .returned (.tuple #[]) ∧ WStep w B g v (bs ++ leBytes n x) w' := by
  obtain ⟨i0, hi, hz0, hz1, hz2⟩ := info_parts infoU8
  have HI := Lib.hid hi
  have H := Lib.hid h
  have HX := Lib.hid hx
  clear hi h hx
  go_enter Try.func24, Try.ntmps24
  go_wp2_with fail
  go_loopw [6] (fun i wr => ∃ k : Nat, k ≤ n ∧ i = .int .i64 k ∧ WStep w B g v (bs ++ leBytes k x) wr) (fun i _ => n - (intOf i).toNat)
  case atStart => exact ⟨0, by omega, rfl, by rw [leBytes, List.append_nil]; exact WStep.refl H.out⟩
  case round =>
    obtain ⟨k, hk, rfl, hst⟩ := hrel
    by_cases hlt : k < n
    · obtain ⟨v', hw, hch, hv⟩ := hst
      have HW := Lib.hid hw
      have HC := Lib.hid hch
      have HV := Lib.hid hv
      have hsz := hch.size
      obtain ⟨c1, c2, c3, c4⟩ := hw
      have hlt1 := cell_block c1
      simp only at hlt1
      obtain ⟨a, cap, rfl, _⟩ := c3.reads
      have hlen : (bs ++ leBytes k x).length ≤ 1000000008 := by simp [leBytes_length]; omega
      obtain ⟨y, hy⟩ : ∃ y : Nat, y = x / 256 ^ k % 256 := ⟨_, rfl⟩
      have hyx : IntKind.u8.wrap ((x : Int) / 2 ^ (8 * k)) = (y : Int) := by
        rw [IntKind.wrap_u8', hy]
        have e : (x : Int) / 2 ^ (8 * k) = ((x / 256 ^ k : Nat) : Int) := by rw [pow256, Int.natCast_ediv, Int.natCast_pow]; rfl
        rw [e]; omega
      have HY := Lib.hid hy
      have HYl : Hid (y < 256) := by show y < 256; omega
      have i2 : (0 : Int) ≤ 8 * (k : Int) := by omega
      have i1 : 8 * (k : Int) ≤ 64 := by omega
      have i3 : (8 * (k : Int)).toNat = 8 * k := by omega
      have i4 : IntKind.i64.wrap (8 * (k : Int)) = 8 * (k : Int) := IntWalk.i64_in _ (by omega)
      clear hch hv c3 c4 hy
      generalize hbs : bs ++ leBytes k x = cs at HW HV hlen c1
      have HBS := Lib.hid hbs
      clear hbs
      go_wp2_with (go_at_call 44; refine (number_yes _ (by omega) (by omega) _).mono ?_; rintro e w' ⟨rfl, rfl⟩)
      have HWo := Lib.hid (fun k o => wtr_own HW.out k o)
      go_region_law ((refine step_append_lies _ (by rfl) _ _ _ (by rfl) B 5 i0 (.int .u8 0) 1 1 Try.underlying22 HI.out hz0 hz1 hz2 rfl (by omega) (.slice a cs.length cap) cs.length (byteCells cs) (by rfl) (by exact HWo.out 1 _) ⟨wr.heap.size, 0, none⟩ 1 1 [.int .u8 (y : Nat)] (by rfl) (by rfl) (cell_one_new _ _ _) (by simp [Value.oneCell']) (by omega) (by unfold maxLen; omega) (by omega) (by simp; omega) (wr.heap.size + 1) (by simp) ?_; intro g' cap' w1 hown hgrow hat hlt2; obtain ⟨f1, f2⟩ := wtr_far HW.out (((Below.refl wr.heap.size wr).alloc (Nat.le_refl _) _).drew) hgrow; have HS := Lib.hid (wtr_grow (k := 1) HW.out HYl.out hown hgrow hat); clear hown hgrow hat hlt2))
      all_goals
        go_wp2_with fail
        go_roundw
        case rel => exact ⟨k + 1, by omega, by simp, low_next HC.out HV.out HBS.out HY.out HS.out⟩
        case measure => simp [intOf]; omega
    · obtain rfl : k = n := by omega
      have HT := Lib.hid hst
      clear hst
      go_wp2_with (go_at_call 44; refine (number_yes _ (by omega) (by omega) _).mono ?_; rintro e w' ⟨rfl, rfl⟩)
      go_end0
      exact ⟨rfl, HT.out⟩

set_option maxRecDepth 100000 in
set_option maxHeartbeats 1000000 in
theorem wlow_no (g : Nat) (w : World) (x n : Int) (h : n < 1 ∨ 8 < n) :
    Calls Try.prog 24 #[.pointer (some ⟨g, 0, none⟩), .int .u64 x, .int .i64 n] w fun e w' => e = .returned (.tuple #[]) ∧ w = w' := by
  have C := Lib.hid (number_no n h w)
  clear h
  go_enter Try.func24, Try.ntmps24
  go_wp2_with fail
  refine wp_loop_once ?_
  go_wp2_with (go_at_call 44; refine C.out.mono ?_; rintro e w' ⟨rfl, rfl⟩)
  go_end0
  exact ⟨rfl, rfl⟩

end Go.Proofs.Ythahhjmgjlkmfaa
