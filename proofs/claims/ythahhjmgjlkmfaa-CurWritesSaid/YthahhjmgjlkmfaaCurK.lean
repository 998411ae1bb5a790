/- The Writer's Set. -/
import Derived.Test.YthahhjmgjlkmfaaCurI
import Derived.StillTailTactics
import Derived.Laws.OwnMore
namespace Go.Proofs.Ythahhjmgjlkmfaa
open Go.RowKit
set_option linter.unusedVariables false
set_option linter.unusedSimpArgs false

/-- Bytes, some of them turned into others. -/
def setAt (bs : List UInt8) (p : Nat) (l : List UInt8) : List UInt8 := bs.take p ++ (l ++ bs.drop (p + l.length))

theorem setAt_length (bs : List UInt8) (p : Nat) (l : List UInt8) (h : p + l.length ≤ bs.length) : (setAt bs p l).length = bs.length := by simp [setAt]; omega

theorem setAt_nil (bs : List UInt8) (p : Nat) : setAt bs p [] = bs := by simp [setAt]

theorem setAt_snoc (bs : List UInt8) (p : Nat) (l : List UInt8) (x : UInt8) (h : p + l.length < bs.length) : (setAt bs p l).set (p + l.length) x = setAt bs p (l ++ [x]) := by
  unfold setAt
  rw [List.set_append, if_neg (by simp; omega), List.length_take, Nat.min_eq_left (by omega), Nat.add_sub_cancel_left, List.set_append, if_neg (by omega), Nat.sub_self,
    List.drop_eq_getElem_cons h]
  simp [Nat.add_assoc]

theorem byteCells_set (bs : List UInt8) (i : Nat) (x : UInt8) : byteCells (bs.set i x) = (byteCells bs).set i (.int .u8 (x.toNat : Nat)) := by simp [byteCells, List.map_set]


/-- What setting leaves. -/
def SetPost (w : World) (B g : Nat) (v : Value) (bs : List UInt8) (w' : World) : Prop := Wtr w' B g v bs ∧ Chg (fun k => v.ownBlock = some k) w w'

theorem SetPost.refl {w : World} {B g v bs} (h : Wtr w B g v bs) : SetPost w B g v bs w := ⟨h, Chg.refl _ _⟩

theorem set_next {w wr : World} {B g gb cap k p m : Nat} {n : Nat} {bs cs : List UInt8} {y : Nat} {u : Value} (hy : y < 256) (hu : u = .int .u8 (y : Nat)) (h : SetPost w B g (.slice (some ⟨gb, 0, none⟩) n cap) cs wr)
    (hn : cs.length = n) (he : cs.set p (UInt8.ofNat y) = bs) : SetPost w B g (.slice (some ⟨gb, 0, none⟩) n cap) bs (((wr.drewN k).setCell ⟨gb, p, none⟩ u).drewN m) := by
  subst hu
  obtain ⟨⟨h1, h2, h3, h4⟩, hc⟩ := h
  have hne : gb ≠ g := fun e => h4 (by simp [Value.ownBlock, e])
  have hch : Chg (fun j => (Value.slice (some ⟨gb, 0, none⟩) n cap).ownBlock = some j) wr (((wr.drewN k).setCell ⟨gb, p, none⟩ (.int .u8 (y : Nat))).drewN m) := by
    refine Chg.trans (Chg.setCell (S := fun j => (Value.slice (some ⟨gb, 0, none⟩) n cap).ownBlock = some j) (Chg.of_below (below_drewN wr k _)) (p := ⟨gb, p, none⟩) (fun _ => rfl) _) (Chg.of_below (S := fun _ => False) (below_drewN _ m _)) (fun _ _ h => h.elim)
  refine ⟨⟨hch.cell (by simp [Value.ownBlock, hne]) h1, ?_, ?_, h4⟩, hc.trans hch (fun _ _ h => h)⟩
  · rw [← h2]
    exact World.frozen?_of_block (w := wr) (hch.block g (by simpa using cell_block h1) (by simp [Value.ownBlock, hne]))
  · have h5 : (wr.drewN k).ownsRow B 5 1 (.slice (some ⟨gb, 0, none⟩) n cap) n (byteCells cs) := by rw [← hn]; rw [← hn] at h3; exact h3
    have h6 := (World.ownsRow.stored h5 p (.int .u8 (y : Nat))).1
    have e8 : (UInt8.ofNat y).toNat = y := by simp; omega
    have h7 : byteCells bs = (byteCells cs).set p (.int .u8 (y : Nat)) := by rw [← he, byteCells_set, e8]
    have h9 : bs.length = n := by rw [← he, List.length_set, hn]
    unfold OwnB
    rw [h7, h9]
    exact ownsRow_drewN h6

set_option maxRecDepth 100000 in
set_option maxHeartbeats 1000000 in
theorem wset_no (g : Nat) (v : Value) (bs : List UInt8) (w : World) (B : Nat) (h : Wtr w B g v bs) (hl : bs.length ≤ 1000000000) (p x n : Int) (hn : n < 1 ∨ 8 < n ∨ p < 0 ∨ (bs.length : Int) - n < p) :
    Calls Try.prog 28 #[.pointer (some ⟨g, 0, none⟩), .int .i64 p, .int .u64 x, .int .i64 n] w fun e w' => e = .returned (.bool false) ∧ w = w' := by
  obtain ⟨h1, h2, h3, h4⟩ := h
  obtain ⟨a, cap, rfl, _⟩ := h3.reads
  clear h3 h4 h2
  generalize bs.length = m at h1 hl hn
  by_cases hv : n < 1 ∨ 8 < n
  · have C := Lib.hid (number_no n hv w)
    clear hv hn
    go_enter Try.func28, Try.ntmps28
    go_wp2_with (go_at_call 44; refine C.out.mono ?_; rintro e w' ⟨rfl, rfl⟩)
    go_ret
    exact ⟨rfl, rfl⟩
  · have C := Lib.hid (number_yes n (by omega) (by omega) w)
    by_cases h0 : p < 0
    · have d0 : decide (p < 0) = true := by simp; omega
      clear hn hv
      go_enter Try.func28, Try.ntmps28
      go_wp2_with (go_at_call 44; refine C.out.mono ?_; rintro e w' ⟨rfl, rfl⟩)
      go_ret
      exact ⟨rfl, rfl⟩
    · have d0 : decide (p < 0) = false := by simp; omega
      have d1 : decide ((m : Int) - n < p) = true := by simp; omega
      have q : IntKind.i64.wrap ((m : Int) - n) = (m : Int) - n := IntWalk.i64_in _ (by omega)
      clear hn hv
      go_enter Try.func28, Try.ntmps28
      go_wp2_with (go_at_call 44; refine C.out.mono ?_; rintro e w' ⟨rfl, rfl⟩)
      go_ret
      exact ⟨rfl, rfl⟩

set_option maxRecDepth 100000 in
set_option maxHeartbeats 1000000 in
theorem wset_yes (g : Nat) (v : Value) (bs : List UInt8) (w : World) (B : Nat) (h : Wtr w B g v bs) (hl : bs.length ≤ 1000000000) (p x n : Nat) (hx : x < okSize) (h1 : 1 ≤ n) (h8 : n ≤ 8) (hp : p + n ≤ bs.length) :
    Calls Try.prog 28 #[.pointer (some ⟨g, 0, none⟩), .int .i64 p, .int .u64 (x : Nat), .int .i64 n] w fun e w' => e = .returned (.bool true) ∧ SetPost w B g v (setAt bs p (leBytes n x)) w' := by
  have H := Lib.hid h
  have HX := Lib.hid hx
  obtain ⟨f1, f2, f3, f4⟩ := h
  obtain ⟨gb, cap, rfl, hgb, hgb2⟩ := World.ownsRow.form f3 (by omega)
  have hcap : bs.length ≤ cap := by
    rcases f3.2 with ⟨h, h0⟩ | ⟨g', c', cur, h, _, _, hle, _⟩
    · simp at h
    · simp only [Value.slice.injEq] at h; rw [h.2.2]; exact hle
  have hne : gb ≠ g := fun e => f4 (by simp [Value.ownBlock, e])
  clear f3 f4 hx
  generalize hm : bs.length = m at f1 hl hp H hcap
  have HM := Lib.hid hm
  clear hm
  have C := Lib.hid (number_yes n (by omega) (by omega) w)
  go_enter Try.func28, Try.ntmps28
  go_wp2_with (go_at_call 44; refine C.out.mono ?_; rintro e w' ⟨rfl, rfl⟩)
  go_loopw [29] (fun i wr => ∃ k : Nat, k ≤ n ∧ i = .int .i64 k ∧ SetPost w B g (.slice (some ⟨gb, 0, none⟩) m cap) (setAt bs p (leBytes k x)) wr) (fun i _ => n - (intOf i).toNat)
  case atStart => exact ⟨0, by omega, rfl, by rw [leBytes, setAt_nil]; exact SetPost.refl H.out⟩
  case round =>
    obtain ⟨k, hk, rfl, hst⟩ := hrel
    by_cases hlt : k < n
    · have HS := Lib.hid hst
      obtain ⟨c1, c2, c3, c4⟩ := hst.1
      obtain ⟨y, hy⟩ : ∃ y : Nat, y = x / 256 ^ k % 256 := ⟨_, rfl⟩
      have hyx : IntKind.u8.wrap ((x : Int) / 2 ^ (8 * k)) = (y : Int) := by
        rw [IntKind.wrap_u8', hy]
        have e : (x : Int) / 2 ^ (8 * k) = ((x / 256 ^ k : Nat) : Int) := by rw [pow256, Int.natCast_ediv, Int.natCast_pow]; rfl
        rw [e]; omega
      have HY := Lib.hid hy
      have HYl : Hid (y < 256) := by show y < 256; omega
      have i2 : (0 : Int) ≤ 8 * (k : Int) := by omega
      have i1 : 8 * (k : Int) ≤ 64 := by omega
      have i3 : (8 * (k : Int)).toNat = 8 * k := by omega
      have i4 : IntKind.i64.wrap (8 * (k : Int)) = 8 * (k : Int) := IntWalk.i64_in _ (by omega)
      have i5 : IntKind.i64.wrap ((p : Int) + (k : Int)) = (p : Int) + (k : Int) := IntWalk.i64_in _ (by omega)
      have i6 : (0 : Int) ≤ (p : Int) + (k : Int) := by omega
      have i7 : (p : Int) + (k : Int) < (m : Int) := by omega
      have i8 : ((p : Int) + (k : Int)).toNat = p + k := by omega
      have hcl : Hid ((setAt bs p (leBytes k x)).length = m) := by show _ = m; rw [setAt_length _ _ _ (by rw [leBytes_length, HM.out]; omega), HM.out]
      have hrd := c3.reads
      have hcc : wr.cell? ⟨gb, p + k, none⟩ = some (.int .u8 (bAt (setAt bs p (leBytes k x)) (p + k) : Nat)) := by
        obtain ⟨a', c', he, hr⟩ := hrd
        simp only [Value.slice.injEq] at he
        obtain ⟨rfl, _, _⟩ := he
        obtain ⟨b, o, ha, hc⟩ := hr.at (p + k) (by rw [hcl.out]; omega)
        simp only [Option.some.injEq, Addr.mk.injEq, and_true] at ha
        obtain ⟨rfl, rfl⟩ := ha
        simpa using hc
      have hff : wr.frozen? ⟨gb, p + k, none⟩ = false := World.ownsRow.frozenAt (by have := c3; unfold OwnB at this; rw [hcl.out] at this; exact this) (p + k)
      have hset : Hid ((setAt bs p (leBytes k x)).set (p + k) (UInt8.ofNat y) = setAt bs p (leBytes (k + 1) x)) := by
        show _ = _
        have := setAt_snoc bs p (leBytes k x) (UInt8.ofNat y) (by rw [leBytes_length, HM.out]; omega)
        rw [leBytes_length] at this
        rw [this, leBytes_snoc]
        congr 3
        rw [HY.out]; apply UInt8.toNat_inj.1; simp
      clear hst c3 c4 hrd hy
      go_wp2_with fail
      go_region_held3 (fun w' => w'.cell? ⟨g, 0, none⟩ = some (.slice (some ⟨gb, 0, none⟩) m cap)) (go_keep) (fail)
      go_wp2_with fail
      go_roundw
      case rel => exact ⟨k + 1, by omega, by simp, set_next (k := 1) (m := 0) HYl.out rfl HS.out hcl.out hset.out⟩
      case measure => simp [intOf]; omega
    · obtain rfl : k = n := by omega
      have HS := Lib.hid hst
      clear hst
      go_wp2_with fail
      go_ret
      exact ⟨rfl, HS.out⟩

end Go.Proofs.Ythahhjmgjlkmfaa
