/- Writers of bytes (out of the texts of layer 1). -/
import Derived.Test.YtambhapgjonmmaaCbR
import Derived.Test.YtambhapgjonmmaaApp
import Derived.Deep.RegionLaw
import Derived.Deep.DrawnRows
import Derived.Maps.AppendAt
import Derived.StillTailTactics
namespace Go.Proofs.Ytambhapgjonmmaa
open Go.RowKit
set_option linter.unusedVariables false
set_option linter.unusedSimpArgs false

/-- A Writer in block g, with the slice v, which holds these bytes in memory from block B on. -/
def Wtr (w : World) (B g : Nat) (v : Value) (bs : List UInt8) : Prop :=
  w.cell? ⟨g, 0, none⟩ = some v ∧ w.frozen? ⟨g, 0, none⟩ = false ∧ OwnB w B v bs ∧ v.ownBlock ≠ some g

/-- What laying more leaves: the Writer holds bs; nothing but its own blocks has turned. -/
def WStep (w : World) (B g : Nat) (v : Value) (bs : List UInt8) (w' : World) : Prop :=
  ∃ v', Wtr w' B g v' bs ∧ Chg (fun k => k = g ∨ v.ownBlock = some k) w w' ∧ (∀ k, v'.ownBlock = some k → v.ownBlock = some k ∨ w.heap.size ≤ k)

theorem WStep.refl {w : World} {B g v bs} (h : Wtr w B g v bs) : WStep w B g v bs w := ⟨v, h, Chg.refl _ _, fun k hk => .inl hk⟩

theorem wtr_grow {w w1 : World} {B g : Nat} {v : Value} {bs : List UInt8} {o : Obj} {g' cap x k : Nat} (h : Wtr w B g v bs) (hx : x < 256)
    (hown : w1.ownsRow B 5 1 (.slice (some ⟨g', 0, none⟩) (bs.length + 1) cap) (bs.length + 1) (byteCells bs ++ [.int .u8 (x : Nat)]))
    (hg : ((w.drewN k).alloc o).grownBy w1 v.ownBlock) (hat : v.ownBlock = some g' ∨ g' = w.heap.size + 1) :
    WStep w B g v (bs ++ [UInt8.ofNat x]) (w1.setCell ⟨g, 0, none⟩ (.slice (some ⟨g', 0, none⟩) (bs.length + 1) cap)) := by
  obtain ⟨h1, h2, h3, h4⟩ := h
  have hlt := cell_block h1
  simp only at hlt
  have hne : g' ≠ g := by
    rcases hat with e | e
    · intro e'; subst e'; exact h4 e
    · omega
  have c0 : Chg (fun j => j = g ∨ v.ownBlock = some j) w w1 := ((Chg.of_below (below_drewN w k _)).alloc o).grown hg (fun j hj _ => .inr hj)
  have c1 : w1.cell? ⟨g, 0, none⟩ = some v := by
    have : Chg (fun j => v.ownBlock = some j) w w1 := ((Chg.of_below (below_drewN w k _)).alloc o).grown hg (fun j hj _ => hj)
    exact this.cell h4 h1
  have c2 : w1.frozen? ⟨g, 0, none⟩ = false := by
    have : Chg (fun j => v.ownBlock = some j) w w1 := ((Chg.of_below (below_drewN w k _)).alloc o).grown hg (fun j hj _ => hj)
    rw [← h2]
    exact World.frozen?_of_block (w := w) (this.block g hlt h4)
  refine ⟨.slice (some ⟨g', 0, none⟩) (bs.length + 1) cap, ⟨World.cell?_setCell_same _ _ _ c1, by rw [World.frozen?_setCell]; exact c2, ?_, ?_⟩, ?_, ?_⟩
  · refine OwnB.chg (S := fun j => j = g) (own_snoc hx hown) (Chg.setCell (S := fun j => j = g) (Chg.refl _ w1) (p := ⟨g, 0, none⟩) (fun _ => rfl) _) ?_
    intro j hj e
    simp only [Value.ownBlock, Option.some.injEq] at hj
    subst e
    exact hne hj
  · simp only [Value.ownBlock]
    intro e
    exact hne (Option.some.inj e)
  · exact c0.setCell (fun _ => .inl rfl) _
  · intro j hj
    simp only [Value.ownBlock, Option.some.injEq] at hj
    subst hj
    rcases hat with e | e
    · exact .inl e
    · exact .inr (by omega)

theorem wtr_own {w : World} {B g v bs} (h : Wtr w B g v bs) (k : Nat) (o : Obj) : ((w.drewN k).alloc o).ownsRow B 5 1 v bs.length (byteCells bs) := World.ownsRow.alloc (ownsRow_drewN h.2.2.1) o

set_option maxRecDepth 100000 in
set_option maxHeartbeats 1000000 in
theorem wbyte_calls (g : Nat) (v : Value) (bs : List UInt8) (w : World) (B : Nat) (h : Wtr w B g v bs) (hB : B ≤ w.heap.size) (hn : bs.length ≤ 1000000000) (x : Int) :
    Calls Try.prog 39 #[.pointer (some ⟨g, 0, none⟩), .int .i64 x] w fun e w' => e = .returned (.tuple #[]) ∧ WStep w B g v (bs ++ [UInt8.ofNat (x % 256).toNat]) w' := by
  obtain ⟨i0, hi, hz0, hz1, hz2⟩ := info_parts infoU8
  have HI := Lib.hid hi
  have H := Lib.hid h
  clear hi
  obtain ⟨h1, h2, h3, h4⟩ := h
  have hlt := cell_block h1
  simp only at hlt
  obtain ⟨a, cap, rfl, _⟩ := h3.reads
  have h5 := h3.2
  obtain ⟨y, hy⟩ : ∃ y : Nat, y = (x % 256).toNat := ⟨_, rfl⟩
  have hyx : IntKind.u8.wrap x = (y : Int) := by rw [IntKind.wrap_u8']; omega
  have HY := Lib.hid hy
  have HYl : Hid (y < 256) := by show y < 256; omega
  clear h3 h5 hy h4
  go_enter Try.func39, Try.ntmps39
  go_wp2_with (at_builtin; refine wpList_append_lies _ rfl _ _ _ rfl B 5 i0 (.int .u8 0) 1 1 Try.underlying23 HI.out hz0 hz1 hz2 rfl (by omega) _ bs.length (byteCells bs) rfl ?own ⟨w.heap.size, 0, none⟩ 1 1 [.int .u8 (y : Nat)] rfl rfl ?c1 ?c2 (by omega) ?c3 ?c4 ?c5 (w.heap.size + 1) ?c6 ?_)
  case own => exact wtr_own H.out 0 _
  case c1 => exact cell_one_new _ _ _
  case c2 => simp [Value.oneCell']
  case c3 => unfold maxLen; omega
  case c4 => omega
  case c5 => simp; omega
  case c6 => simp
  intro g' cap' w1 hown hgrow hat hlt1
  have hst := wtr_grow (k := 0) H.out HYl.out hown hgrow hat
  have HS := Lib.hid hst
  have f1 : w1.cell? ⟨g, 0, none⟩ = some (.slice a bs.length cap) := by
    have : Chg (fun j => (Value.slice a bs.length cap).ownBlock = some j) w w1 := ((Chg.of_below (below_drewN w 0 _)).alloc _).grown hgrow (fun j hj _ => hj)
    exact this.cell H.out.2.2.2 h1
  have f2 : w1.frozen? ⟨g, 0, none⟩ = false := by
    have : Chg (fun j => (Value.slice a bs.length cap).ownBlock = some j) w w1 := ((Chg.of_below (below_drewN w 0 _)).alloc _).grown hgrow (fun j hj _ => hj)
    rw [← h2]
    exact World.frozen?_of_block (w := w) (this.block g hlt H.out.2.2.2)
  clear hown hgrow hat hst hlt1
  go_wp2_with fail
  go_end0
  exact ⟨rfl, by rw [← HY.out]; exact HS.out⟩

theorem WStep.trans {w wr w2 : World} {B g : Nat} {v v' : Value} {bs : List UInt8} (hc : Chg (fun k => k = g ∨ v.ownBlock = some k) w wr) (hv : ∀ k, v'.ownBlock = some k → v.ownBlock = some k ∨ w.heap.size ≤ k)
    (h : WStep wr B g v' bs w2) : WStep w B g v bs w2 := by
  obtain ⟨v2, h1, h2, h3⟩ := h
  refine ⟨v2, h1, hc.trans h2 ?_, ?_⟩
  · rintro i hi (e | e)
    · exact .inl e
    · rcases hv i e with e | e
      · exact .inr e
      · omega
  · intro k hk
    rcases h3 k hk with e | e
    · exact hv k e
    · exact .inr (Nat.le_trans hc.size e)

theorem wtr_far {W X w1 : World} {B g : Nat} {v : Value} {bs : List UInt8} (h : Wtr W B g v bs) (hX : Below W.heap.size W X) (hg : X.grownBy w1 v.ownBlock) : w1.cell? ⟨g, 0, none⟩ = some v ∧ w1.frozen? ⟨g, 0, none⟩ = false := by
  have hc : Chg (fun j => v.ownBlock = some j) W w1 := (Chg.of_below hX).grown hg (fun j hj _ => hj)
  refine ⟨hc.cell h.2.2.2 h.1, ?_⟩
  rw [← h.2.1]
  exact World.frozen?_of_block (w := W) (hc.block g (by simpa using cell_block h.1) h.2.2.2)

theorem low_next {w wr w2 : World} {B g : Nat} {v v' : Value} {bs cs : List UInt8} {x k y : Nat} (hc : Chg (fun k => k = g ∨ v.ownBlock = some k) w wr) (hv : ∀ k, v'.ownBlock = some k → v.ownBlock = some k ∨ w.heap.size ≤ k)
    (hbs : bs ++ leBytes k x = cs) (hy : y = x / 256 ^ k % 256) (h : WStep wr B g v' (cs ++ [UInt8.ofNat y]) w2) : WStep w B g v (bs ++ leBytes (k + 1) x) w2 := by
  refine WStep.trans hc hv ?_
  rw [leBytes_snoc, ← List.append_assoc, hbs]
  have : UInt8.ofNat (x / 256 ^ k) = UInt8.ofNat y := by rw [hy]; apply UInt8.toNat_inj.1; simp
  rw [this]
  exact h

theorem number_yes (n : Int) (h1 : 1 ≤ n) (h8 : n ≤ 8) (w : World) : Calls Try.prog 52 #[.int .i64 n] w fun e w' => e = .returned (.bool true) ∧ w = w' := by
  go_enter Try.func52, Try.ntmps52
  go_wp2
  go_ret
  exact ⟨rfl, rfl⟩

theorem number_no (n : Int) (h : n < 1 ∨ 8 < n) (w : World) : Calls Try.prog 52 #[.int .i64 n] w fun e w' => e = .returned (.bool false) ∧ w = w' := by
  by_cases h1 : n < 1
  · go_enter Try.func52, Try.ntmps52
    go_wp2
    go_ret
    exact ⟨rfl, rfl⟩
  · have h2 : ¬ n ≤ 8 := by omega
    have h3 : 1 ≤ n := by omega
    have h4 : decide (n ≤ 8) = false := by simpa using h2
    clear h h1
    go_enter Try.func52, Try.ntmps52
    go_wp2
    go_ret
    exact ⟨rfl, rfl⟩

theorem leBytes_at : ∀ (n x k : Nat), k < n → (leBytes n x).drop k = UInt8.ofNat (x / 256 ^ k) :: (leBytes n x).drop (k + 1)
  | n + 1, x, 0, _ => by simp [leBytes]
  | n + 1, x, k + 1, h => by
    simp only [leBytes, List.drop_succ_cons]
    rw [leBytes_at n (x / 256) k (by omega), Nat.div_div_eq_div_mul, Nat.pow_succ, Nat.mul_comm 256]

theorem high_next {w wr w2 : World} {B g : Nat} {v v' : Value} {bs cs : List UInt8} {x k n y : Nat} (h0 : 0 < k) (hk : k ≤ n) (hc : Chg (fun k => k = g ∨ v.ownBlock = some k) w wr) (hv : ∀ k, v'.ownBlock = some k → v.ownBlock = some k ∨ w.heap.size ≤ k)
    (hbs : bs ++ ((leBytes n x).drop k).reverse = cs) (hy : y = x / 256 ^ (k - 1) % 256) (h : WStep wr B g v' (cs ++ [UInt8.ofNat y]) w2) : WStep w B g v (bs ++ ((leBytes n x).drop (k - 1)).reverse) w2 := by
  refine WStep.trans hc hv ?_
  rw [leBytes_at n x (k - 1) (by omega), List.reverse_cons, show k - 1 + 1 = k from by omega, ← List.append_assoc, hbs]
  have : UInt8.ofNat (x / 256 ^ (k - 1)) = UInt8.ofNat y := by rw [hy]; apply UInt8.toNat_inj.1; simp
  rw [this]
  exact h

set_option maxRecDepth 100000 in
set_option maxHeartbeats 1000000 in
theorem whigh_yes (g : Nat) (v : Value) (bs : List UInt8) (w : World) (B : Nat) (h : Wtr w B g v bs) (hB : B ≤ w.heap.size) (hn : bs.length ≤ 1000000000) (x n : Nat) (hx : x < okSize) (h1 : 1 ≤ n) (h8 : n ≤ 8) :
    Calls Try.prog 40 #[.pointer (some ⟨g, 0, none⟩), .int .u64 (x : Nat), .int .i64 n] w fun e w' => e = .returned (.tuple #[]) ∧ WStep w B g v (bs ++ (leBytes n x).reverse) w' := by
  obtain ⟨i0, hi, hz0, hz1, hz2⟩ := info_parts infoU8
  have HI := Lib.hid hi
  have H := Lib.hid h
  have HX := Lib.hid hx
  clear hi h hx
  go_enter Try.func40, Try.ntmps40
  go_wp2_with fail
  go_loopw [6] (fun i wr => ∃ k : Nat, k ≤ n ∧ i = .int .i64 ((k : Int) - 1) ∧ WStep w B g v (bs ++ ((leBytes n x).drop k).reverse) wr) (fun i _ => (intOf i + 1).toNat)
  case atStart => exact ⟨n, by omega, rfl, by rw [List.drop_of_length_le (by rw [leBytes_length]; omega), List.reverse_nil, List.append_nil]; exact WStep.refl H.out⟩
  case round =>
    obtain ⟨k, hk, rfl, hst⟩ := hrel
    by_cases hlt : 0 < k
    · obtain ⟨v', hw, hch, hv⟩ := hst
      have HW := Lib.hid hw
      have HC := Lib.hid hch
      have HV := Lib.hid hv
      have hsz := hch.size
      obtain ⟨c1, c2, c3, c4⟩ := hw
      have hlt1 := cell_block c1
      simp only at hlt1
      obtain ⟨a, cap, rfl, _⟩ := c3.reads
      have hlen : (bs ++ ((leBytes n x).drop k).reverse).length ≤ 1000000008 := by simp [leBytes_length]; omega
      obtain ⟨y, hy⟩ : ∃ y : Nat, y = x / 256 ^ (k - 1) % 256 := ⟨_, rfl⟩
      have hyx : IntKind.u8.wrap ((x : Int) / 2 ^ (8 * (k - 1))) = (y : Int) := by
        rw [IntKind.wrap_u8', hy]
        have e : (x : Int) / 2 ^ (8 * (k - 1)) = ((x / 256 ^ (k - 1) : Nat) : Int) := by rw [pow256, Int.natCast_ediv, Int.natCast_pow]; rfl
        rw [e]; omega
      have HY := Lib.hid hy
      have HYl : Hid (y < 256) := by show y < 256; omega
      have i2 : (0 : Int) ≤ 8 * ((k : Int) - 1) := by omega
      have i1 : 8 * ((k : Int) - 1) ≤ 64 := by omega
      have i3 : (8 * ((k : Int) - 1)).toNat = 8 * (k - 1) := by omega
      have i4 : IntKind.i64.wrap (8 * ((k : Int) - 1)) = 8 * ((k : Int) - 1) := IntWalk.i64_in _ (by omega)
      clear hch hv c3 c4 hy
      generalize hbs : bs ++ ((leBytes n x).drop k).reverse = cs at HW HV hlen c1
      have HBS := Lib.hid hbs
      clear hbs
      go_wp2_with (go_at_call 52; refine (number_yes _ (by omega) (by omega) _).mono ?_; rintro e w' ⟨rfl, rfl⟩)
      have HWo := Lib.hid (fun k o => wtr_own HW.out k o)
      go_region_law ((refine step_append_lies _ (by rfl) _ _ _ (by rfl) B 5 i0 (.int .u8 0) 1 1 Try.underlying23 HI.out hz0 hz1 hz2 rfl (by omega) (.slice a cs.length cap) cs.length (byteCells cs) (by rfl) (by exact HWo.out 1 _) ⟨wr.heap.size, 0, none⟩ 1 1 [.int .u8 (y : Nat)] (by rfl) (by rfl) (cell_one_new _ _ _) (by simp [Value.oneCell']) (by omega) (by unfold maxLen; omega) (by omega) (by simp; omega) (wr.heap.size + 1) (by simp) ?_; intro g' cap' w1 hown hgrow hat hlt2; obtain ⟨f1, f2⟩ := wtr_far HW.out (((Below.refl wr.heap.size wr).alloc (Nat.le_refl _) _).drew) hgrow; have HS := Lib.hid (wtr_grow (k := 1) HW.out HYl.out hown hgrow hat); clear hown hgrow hat hlt2))
      all_goals
        go_wp2_with fail
        go_roundw
        case rel => exact ⟨k - 1, by omega, by rw [show ((k - 1 : Nat) : Int) = (k : Int) - 1 from by omega], high_next hlt hk HC.out HV.out HBS.out HY.out HS.out⟩
        case measure => simp [intOf]; omega
    · obtain rfl : k = 0 := by omega
      have HT := Lib.hid hst
      clear hst
      go_wp2_with (go_at_call 52; refine (number_yes _ (by omega) (by omega) _).mono ?_; rintro e w' ⟨rfl, rfl⟩)
      go_end0
      exact ⟨rfl, HT.out⟩

set_option maxRecDepth 100000 in
set_option maxHeartbeats 1000000 in
theorem whigh_no (g : Nat) (w : World) (x n : Int) (h : n < 1 ∨ 8 < n) :
    Calls Try.prog 40 #[.pointer (some ⟨g, 0, none⟩), .int .u64 x, .int .i64 n] w fun e w' => e = .returned (.tuple #[]) ∧ w = w' := by
  have C := Lib.hid (number_no n h w)
  clear h
  go_enter Try.func40, Try.ntmps40
  go_wp2_with fail
  refine wp_loop_once ?_
  go_wp2_with (go_at_call 52; refine C.out.mono ?_; rintro e w' ⟨rfl, rfl⟩)
  go_end0
  exact ⟨rfl, rfl⟩

/-- A new Writer, answered. -/
def LayPost (w : World) (e : Ending) (w' : World) : Prop :=
  ∃ g, e = .returned (.pointer (some ⟨g, 0, none⟩)) ∧ Wtr w' w.heap.size g (.slice none 0 0) [] ∧ Below w.heap.size w w' ∧ w.heap.size ≤ g

set_option maxRecDepth 100000 in
set_option maxHeartbeats 1000000 in
theorem lay_calls (w : World) : Calls Try.prog 22 #[] w (LayPost w) := by
  go_enter Try.func22, Try.ntmps22
  go_wp2
  go_ret
  exact ⟨w.heap.size, rfl, ⟨by simp [go_sem], by simp [go_sem], World.ownsRow_nil _ _ _ _, by simp [Value.ownBlock]⟩, (Below.refl _ _).alloc (Nat.le_refl _) _, Nat.le_refl _⟩

theorem own_nilcap {w : World} {B : Nat} {a : Option Addr} {n cap : Nat} {bs : List UInt8} (h : OwnB w B (.slice a n cap) bs) : a = none → cap = 0 := by
  rintro rfl
  rcases h.2 with ⟨e, _⟩ | ⟨g, cp, cur, e, _⟩
  · simp only [Value.slice.injEq] at e; exact e.2.2
  · simp at e

set_option maxRecDepth 100000 in
set_option maxHeartbeats 1000000 in
theorem wbytes_calls (g : Nat) (v : Value) (bs : List UInt8) (w : World) (B : Nat) (h : Wtr w B g v bs) (hn : bs.length ≤ 1000000000) :
    Calls Try.prog 24 #[.pointer (some ⟨g, 0, none⟩)] w (BytesPost w bs) := by
  obtain ⟨h1, h2, h3, h4⟩ := h
  obtain ⟨a, cap, rfl, hr⟩ := h3.reads
  have C := Lib.hid (clone_calls a _ cap bs w hr (own_nilcap h3) (by omega))
  clear h2 h3 h4 hr
  generalize hl : bs.length = n at h1 C
  clear hl
  go_enter Try.func24, Try.ntmps24
  go_wp2_with fail
  refine C.out.mono ?_
  rintro e w1 ⟨v1, rfl, ho, hb⟩
  have HO := Lib.hid ho
  have HB := Lib.hid hb
  clear ho hb
  go_wp2_with fail
  go_ret
  exact ⟨v1, rfl, HO.out, HB.out⟩

theorem wtr_grow2 {w X w1 : World} {B g : Nat} {v v' : Value} {bs cs : List UInt8} (h : Wtr w B g v bs) (hX : Below w.heap.size w X)
    (hown : OwnB w1 B v' cs) (hg : X.grownBy w1 v.ownBlock) (hat : v'.ownBlock = v.ownBlock ∨ v'.ownBlock = some X.heap.size) :
    WStep w B g v cs (w1.setCell ⟨g, 0, none⟩ v') := by
  have h0 := h
  obtain ⟨h1, h2, h3, h4⟩ := h
  have hlt := cell_block h1
  simp only at hlt
  have hsz := hX.size
  have hne : v'.ownBlock ≠ some g := by
    rcases hat with e | e
    · rw [e]; exact h4
    · rw [e]; intro e'; have := Option.some.inj e'; omega
  obtain ⟨c1, c2⟩ := wtr_far h0 hX hg
  refine ⟨v', ⟨World.cell?_setCell_same _ _ _ c1, by rw [World.frozen?_setCell]; exact c2, ?_, hne⟩, ?_, ?_⟩
  · refine OwnB.chg (S := fun j => j = g) hown (Chg.setCell (S := fun j => j = g) (Chg.refl _ w1) (p := ⟨g, 0, none⟩) (fun _ => rfl) _) ?_
    rintro j hj rfl
    exact hne hj
  · exact Chg.setCell (((Chg.of_below hX).grown hg (fun j hj _ => .inr hj))) (p := ⟨g, 0, none⟩) (fun _ => .inl rfl) _
  · intro j hj
    rcases hat with e | e
    · exact .inl (by rw [← e]; exact hj)
    · rw [e] at hj; have := Option.some.inj hj; exact .inr (by omega)

set_option maxRecDepth 100000 in
set_option maxHeartbeats 1000000 in
theorem wraw_some (g : Nat) (v : Value) (bs l : List UInt8) (w : World) (B : Nat) (h : Wtr w B g v bs) (hB : B ≤ w.heap.size) (hn : bs.length ≤ 1000000000) (ad : Addr) (m c : Nat) (hr : RdB w (some ad) m l) (hm : m ≤ 1000000000) :
    Calls Try.prog 38 #[.pointer (some ⟨g, 0, none⟩), .slice (some ad) m c] w fun e w' => e = .returned (.tuple #[]) ∧ WStep w B g v (bs ++ l) w' := by
  obtain ⟨i0, hi, hz0, hz1, hz2⟩ := info_parts infoU8
  have HI := Lib.hid hi
  have H := Lib.hid h
  have HR := Lib.hid hr
  clear hi hr
  obtain ⟨h1, h2, h3, h4⟩ := h
  have hlt := cell_block h1
  simp only at hlt
  obtain ⟨a, cap, rfl, _⟩ := h3.reads
  clear h3 h4
  go_enter Try.func38, Try.ntmps38
  go_wp2_with (at_builtin; refine wpList_append_own_at _ rfl _ _ _ rfl B 5 i0 (.int .u8 0) 1 1 Try.underlying23 HI.out hz0 hz1 hz2 rfl (by omega) _ bs.length (byteCells bs) rfl ?own ad m c (byteCells l) rfl ?c0 ?c1 ?c2 ?c3 ?c4 ?c5 ?_)
  case own => exact H.out.2.2.1
  case c0 => rw [byteCells_length, HR.out.1, Nat.mul_one]
  case c1 => exact news_of HR.out
  case c2 => exact byteCells_one l
  case c3 => unfold maxLen; omega
  case c4 => omega
  case c5 => exact hB
  intro v' w1 hown hgrow _ hat
  have hown' : OwnB w1 B v' (bs ++ l) := by unfold OwnB; rw [byteCells_append, List.length_append, HR.out.1]; exact hown
  obtain ⟨f1, f2⟩ := wtr_far H.out (Below.refl _ _) hgrow
  have HS := Lib.hid (wtr_grow2 H.out (Below.refl _ _) hown' hgrow hat)
  have hvs : ∃ a' n' c', v' = .slice a' n' c' := by obtain ⟨a', c', e, _⟩ := hown'.reads; exact ⟨a', _, c', e⟩
  clear hown hgrow hat hown'
  obtain ⟨a', n', c', hve⟩ := hvs
  rw [hve] at HS
  rw [hve]
  clear hve
  go_wp2_with fail
  go_end0
  exact ⟨rfl, HS.out⟩

/-- A Reader whose slice is known. -/
def RdrA (w : World) (r : Nat) (a : Option Addr) (cap : Nat) (bs : List UInt8) (p : Nat) : Prop :=
  w.cell? ⟨r, 0, none⟩ = some (.slice a bs.length cap) ∧ w.cell? ⟨r, 1, none⟩ = some (.int .i64 (p : Nat)) ∧ w.frozen? ⟨r, 1, none⟩ = false ∧
    RdB w a bs.length bs ∧ (∀ x, a = some x → x.block ≠ r) ∧ (a = none → cap = 0) ∧ p ≤ bs.length ∧ bs.length ≤ cap ∧ bs.length ≤ 140737488355328

theorem RdrA.rdr {w : World} {r a cap bs p} (h : RdrA w r a cap bs p) : Rdr w r bs p := ⟨a, cap, h⟩

theorem RdrA.chg {S : Nat → Prop} {w w' : World} {r a cap bs p} (h : RdrA w r a cap bs p) (hc : Chg S w w') (hr : ¬ S r) (ha : ∀ x, a = some x → ¬ S x.block) : RdrA w' r a cap bs p := by
  obtain ⟨h1, h2, h3, h4, h5⟩ := h
  refine ⟨hc.cell hr h1, hc.cell hr h2, ?_, h4.chg hc ha, h5⟩
  rw [← h3]
  exact World.frozen?_of_block (w := w) (hc.block r (by simpa using cell_block h2) hr)

theorem Wtr.chg {S : Nat → Prop} {w w' : World} {B g v bs} (h : Wtr w B g v bs) (hc : Chg S w w') (hg : ¬ S g) (hv : ∀ k, v.ownBlock = some k → ¬ S k) : Wtr w' B g v bs := by
  obtain ⟨h1, h2, h3, h4⟩ := h
  refine ⟨hc.cell hg h1, ?_, h3.chg hc hv, h4⟩
  rw [← h2]
  exact World.frozen?_of_block (w := w) (hc.block g (by simpa using cell_block h1) hg)

/-- A new Reader, answered, and where its bytes lie. -/
def NewPost2 (w : World) (bs : List UInt8) (e : Ending) (w' : World) : Prop :=
  ∃ r a cap, e = .returned (.pointer (some ⟨r, 0, none⟩)) ∧ RdrA w' r a cap bs 0 ∧ Below w.heap.size w w' ∧ w.heap.size ≤ r ∧ (∀ x, a = some x → w.heap.size ≤ x.block)

set_option maxRecDepth 100000 in
set_option maxHeartbeats 1000000 in
theorem new_calls2 (a : Option Addr) (len cap : Nat) (l : List UInt8) (w : World) (h : RdB w a len l) (hc : a = none → cap = 0) (hb : len ≤ 140737488355328) :
    Calls Try.prog 30 #[.slice a len cap] w (NewPost2 w l) := by
  have C := Lib.hid (clone_calls a len cap l w h hc hb)
  have hl := h.1
  have HL := Lib.hid hl
  clear h hl
  go_enter Try.func30, Try.ntmps30
  go_wp2_with fail
  refine C.out.mono ?_
  rintro e w1 ⟨v, rfl, hown, hb1⟩
  have hsz := hb1.size
  obtain ⟨a1, c1, hve, hr⟩ := hown.reads
  have hform := hown.2
  rw [hve] at hform
  rw [hve]
  have HB := Lib.hid hb1
  have HR := Lib.hid hr
  have HO := Lib.hid hform
  clear hown hve hr hb1 hform
  go_wp2_with fail
  go_ret
  refine ⟨w1.heap.size, a1, c1, rfl, ?rd, HB.out.alloc hsz _, hsz, ?far⟩
  case far =>
    rintro x rfl
    rcases HO.out with ⟨h, _⟩ | ⟨g, cp, cur, h, hBg, hg, _⟩
    · simp at h
    · simp only [Value.slice.injEq, Option.some.injEq] at h
      rw [h.1]
      exact hBg
  refine ⟨by simp [go_sem], by simp [go_sem], by simp [go_sem], HR.out.keep ((Below.refl _ _).alloc (Nat.le_refl _) _), ?_, ?_, by omega, ?_, by rw [HL.out]; exact hb⟩
  · rintro x rfl
    rcases HO.out with ⟨h, _⟩ | ⟨g, cp, cur, h, _, hg, _⟩
    · simp at h
    · simp only [Value.slice.injEq, Option.some.injEq] at h
      rw [h.1]
      have := (Array.getElem?_eq_some_iff.1 hg).1
      simp only
      omega
  · rintro rfl
    rcases HO.out with ⟨h, _⟩ | ⟨g, cp, cur, h, _⟩
    · simp only [Value.slice.injEq] at h; exact h.2.2
    · simp at h
  · rcases HO.out with ⟨h, h0⟩ | ⟨g, cp, cur, h, _, _, hle, _⟩
    · omega
    · simp only [Value.slice.injEq] at h; rw [h.2.2]; exact hle

/-- Raw at whatever bytes. -/
theorem wraw_calls (g : Nat) (v : Value) (bs l : List UInt8) (w : World) (B : Nat) (h : Wtr w B g v bs) (hB : B ≤ w.heap.size) (hn : bs.length ≤ 1000000000) (sv : Value) (hs : SrcB w sv l) (hm : l.length ≤ 1000000000) :
    Calls Try.prog 38 #[.pointer (some ⟨g, 0, none⟩), sv] w fun e w' => e = .returned (.tuple #[]) ∧ WStep w B g v (bs ++ l) w' := by
  have H := Lib.hid h
  have HS := Lib.hid hs
  clear hs
  obtain ⟨h1, h2, h3, h4⟩ := h
  clear h3 h4
  go_enter Try.func38, Try.ntmps38
  go_wp2_with (at_builtin; refine wpList_appB (v := v) (bs := bs) (sv := sv) (l := l) (B := B) (by rfl) _ _ (by rfl) (by rfl) H.out.2.2.1 (by rfl) HS.out ?c1 ?c2 ?_)
  case c1 => omega
  case c2 => exact hB
  intro v' w1 hown ha
  obtain ⟨f1, f2⟩ := wtr_far H.out (Below.refl _ _) ha.1
  have HT := Lib.hid (wtr_grow2 H.out (Below.refl _ _) hown ha.1 ha.2)
  obtain ⟨a', c', hve, _⟩ := hown.reads
  generalize (bs ++ l).length = N at hve
  subst hve
  clear hown ha
  go_wp2_with fail
  go_end0
  exact ⟨rfl, HT.out⟩

end Go.Proofs.Ytambhapgjonmmaa
