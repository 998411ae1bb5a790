/- CurSets: the walk. -/
import Derived.Test.YthahhjmgjlkmfaaCurK
import Derived.Test.YthahhjmgjlkmfaaCurB
import Derived.Test.YthahhjmgjlkmfaaPuts
namespace Go.Proofs.Ythahhjmgjlkmfaa
open Go.RowKit
set_option linter.unusedVariables false
set_option linter.unusedSimpArgs false

theorem five_cells {w w' : World} {x y z u v : Value} {t : Nat} (hb : Below (w.alloc (.cells #[x, y, z, u, v] t)).heap.size (w.alloc (.cells #[x, y, z, u, v] t)) w') :
    w'.cell? ⟨w.heap.size, 0, none⟩ = some x ∧ w'.cell? ⟨w.heap.size, 1, none⟩ = some y ∧ w'.cell? ⟨w.heap.size, 2, none⟩ = some z ∧ w'.cell? ⟨w.heap.size, 3, none⟩ = some u ∧ w'.cell? ⟨w.heap.size, 4, none⟩ = some v ∧ w.heap.size < w'.heap.size := by
  refine ⟨?_, ?_, ?_, ?_, ?_, ?_⟩
  · rw [hb.cell (p := ⟨w.heap.size, 0, none⟩) (by simp)]; simp [go_sem]
  · rw [hb.cell (p := ⟨w.heap.size, 1, none⟩) (by simp)]; simp [go_sem]
  · rw [hb.cell (p := ⟨w.heap.size, 2, none⟩) (by simp)]; simp [go_sem]
  · rw [hb.cell (p := ⟨w.heap.size, 3, none⟩) (by simp)]; simp [go_sem]
  · rw [hb.cell (p := ⟨w.heap.size, 4, none⟩) (by simp)]; simp [go_sem]
  · have := hb.size; simp at this; omega

theorem setAt_take (bs : List UInt8) (p : Nat) (l : List UInt8) (h : p + l.length ≤ bs.length) : (setAt bs p l).take p = bs.take p := by
  unfold setAt
  rw [List.take_append_of_le_length (by simp; omega), List.take_take, Nat.min_self]
theorem setAt_drop (bs : List UInt8) (p : Nat) (l : List UInt8) (h : p + l.length ≤ bs.length) : (setAt bs p l).drop (p + l.length) = bs.drop (p + l.length) := by
  unfold setAt
  rw [List.drop_append, List.drop_of_length_le (by simp; omega), List.nil_append, List.length_take, Nat.min_eq_left (by omega), Nat.add_sub_cancel_left, List.drop_append, List.drop_of_length_le (by omega), List.nil_append, Nat.sub_self, List.drop_zero]
theorem setAt_seg (bs : List UInt8) (p : Nat) (l : List UInt8) (h : p + l.length ≤ bs.length) : seg (setAt bs p l) p l.length = l := by
  unfold seg setAt
  rw [List.drop_append, List.drop_of_length_le (by simp; omega), List.nil_append, List.length_take, Nat.min_eq_left (by omega), Nat.sub_self, List.drop_zero, List.take_append_of_le_length (by omega), List.take_of_length_le (by omega)]

theorem rd_take {w : World} {a : Option Addr} {len : Nat} {bs : List UInt8} (h : RdB w a len bs) (p : Nat) (hp : p ≤ len) : RdB w a p (bs.take p) := by
  refine ⟨by rw [List.length_take, h.1, Nat.min_eq_left hp], by have := h.2.1; omega, fun i hi => ?_⟩
  obtain ⟨b, o, ha, hc⟩ := h.at i (by omega)
  refine ⟨b, o, ha, ?_⟩
  rw [hc]
  simp only [bAt, getD_take _ _ _ _ hi]

theorem rd_drop {w : World} {b o : Nat} {len : Nat} {bs : List UInt8} (h : RdB w (some ⟨b, o, none⟩) len bs) (p : Nat) (hp : p ≤ len) : RdB w (some ⟨b, o + p, none⟩) (len - p) (bs.drop p) := by
  refine ⟨by rw [List.length_drop, h.1], by have := h.2.1; omega, fun i hi => ⟨b, o + p, rfl, ?_⟩⟩
  obtain ⟨b', o', ha, hc⟩ := h.at (p + i) (by omega)
  simp only [Option.some.injEq, Addr.mk.injEq, and_true] at ha
  obtain ⟨rfl, rfl⟩ := ha
  rw [Nat.add_assoc, hc]
  simp only [bAt, getD_drop]

set_option maxRecDepth 100000 in
set_option maxHeartbeats 4000000 in
theorem CurSets_core (w : World) (a : Option Addr) (len cap : Nat) (l : List UInt8) (h : RdB w a len l) (hnc : a = none → cap = 0) (hcc : len ≤ cap) (p m : Nat) (k pa : Int) (x : Nat) (ab : Option Addr) (nb cb : Nat)
    (hx : x < okSize) (hl : len ≤ 200) (h1 : 1 ≤ m) (h8 : m ≤ 8) (hp : p + m ≤ len) :
    Calls Try.prog 5 #[.slice a len cap, .int .i64 p, .agg #[.int .i64 k, .int .i64 m, .int .i64 pa, .int .u64 (x : Nat), .slice ab nb cb]] w fun e w' => e = .returned (.bool true) ∧ Below w.heap.size w w' := by
  have H := Lib.hid h
  have HL := Lib.hid h.1
  have HN := Lib.hid hnc
  have HX := Lib.hid hx
  obtain ⟨b, o, rfl, _⟩ := h.at 0 (by omega)
  have hb0 : Hid (b < w.heap.size) := by
    obtain ⟨b', o', ha, hc⟩ := h.at 0 (by omega)
    simp only [Option.some.injEq, Addr.mk.injEq, and_true] at ha
    obtain ⟨rfl, rfl⟩ := ha
    simpa [Hid] using cell_block hc
  clear h hnc hx
  go_enter Try.func5, Try.ntmps5
  go_wp2_with fail
  refine (awake1 _).mono ?_
  rintro e w1 ⟨rfl, hb1⟩
  obtain ⟨c0, c1, c2, c3, c4, hs1⟩ := five_cells hb1
  have HW1 := Lib.hid hb1
  have d1 : decide ((200 : Int) < (len : Int)) = false := by simp; omega
  have d2 : decide ((m : Int) < 1) = false := by simp; omega
  have d3 : decide ((8 : Int) < (m : Int)) = false := by simp; omega
  have d4 : decide ((p : Int) < 0) = false := by simp
  have d5 : decide ((len : Int) - (m : Int) < (p : Int)) = false := by simp; omega
  have q5 : IntKind.i64.wrap ((len : Int) - (m : Int)) = (len : Int) - (m : Int) := IntWalk.i64_in _ (by omega)
  clear hb1
  go_wp2_with fail
  refine (lay_calls w1).mono ?_
  rintro e w2 ⟨g, rfl, hwt, hb2, hg⟩
  have HW2 := Lib.hid (HW1.out.trans (hb2.mono HW1.out.size))
  have hs2 : w1.heap.size ≤ w2.heap.size := hb2.size
  have hH2 : Below w.heap.size w w2 := ((Below.refl w.heap.size w).alloc (Nat.le_refl _) _).trans (HW2.out.mono (by simp))
  have hsb : SrcB w2 (.slice (some ⟨b, o, none⟩) len cap) l := ⟨_, _, _, rfl, H.out.keep hH2, HN.out⟩
  have C := Lib.hid (wraw_calls g (.slice none 0 0) [] l w2 w1.heap.size hwt hs2 (by simp) _ hsb (by rw [HL.out]; omega))
  clear hwt hb2 hH2 hsb c0 c1 c2 c3 c4
  go_wp2_with fail
  refine C.out.mono ?_
  rintro e w3 ⟨rfl, v3, hwt3, hc3, hv3⟩
  have hc3' : Chg (fun j => j = g) w2 w3 := hc3.weaken (fun j _ h => by
    rcases h with h | h
    · exact h
    · simp [Value.ownBlock] at h)
  have hbw : (w.alloc (.cells #[.int .i64 k, .int .i64 m, .int .i64 pa, .int .u64 (x : Nat), .slice ab nb cb] 43)).heap.size = w.heap.size + 1 := by simp
  have HW3 := Lib.hid (HW2.out.trans (hc3'.below HW2.out.size (by rintro i rfl; rw [hbw]; omega)))
  have HWT3 := Lib.hid hwt3
  have HV3 := Lib.hid (owns_lt hwt3.2.2.1)
  rw [List.nil_append] at hwt3
  have C := Lib.hid (wset_yes g v3 l w3 _ hwt3 (by rw [HL.out]; omega) p x m HX.out h1 h8 (by rw [HL.out]; exact hp))
  obtain ⟨c0, c1, c2, c3, c4, hs3⟩ := five_cells HW3.out
  clear hwt3 hc3 hc3' hv3
  go_wp2_with fail
  refine C.out.mono ?_
  rintro e w4 ⟨rfl, hwt4, hc4⟩
  have HW4 := Lib.hid (HW3.out.trans (hc4.below HW3.out.size (fun i hi => by rw [hbw]; have := (HV3.out i hi).1; omega)))
  have C := Lib.hid (wbytes_calls g v3 _ w4 _ hwt4 (by rw [setAt_length _ _ _ (by rw [leBytes_length, HL.out]; exact hp), HL.out]; omega))
  clear hwt4 hc4 c0 c1 c2 c3 c4
  go_wp2_with fail
  refine C.out.mono ?_
  rintro e w5 ⟨v5, rfl, ho5, hb5⟩
  have HW5 := Lib.hid (HW4.out.trans (hb5.mono HW4.out.size))
  have hxl : (setAt l p (leBytes m x)).length = len := by rw [setAt_length _ _ _ (by rw [leBytes_length, HL.out]; exact hp), HL.out]
  obtain ⟨gx, cx, hve, hgx, hgx2⟩ := World.ownsRow.form ho5 (by rw [hxl]; omega)
  obtain ⟨ax, cx', hvx, hrx⟩ := ho5.reads
  rw [hve] at hvx
  simp only [Value.slice.injEq, true_and] at hvx
  obtain ⟨rfl, rfl⟩ := hvx
  rw [hxl] at hve hrx
  subst hve
  have hcx : len ≤ cx := by
    have h5 := ho5.2
    rcases h5 with ⟨h, h0⟩ | ⟨g', c', cur, h, _, _, hle, _⟩
    · simp at h
    · simp only [Value.slice.injEq] at h; rw [h.2.2, ← hxl]; exact hle
  have hH5 : Below w.heap.size w w5 := ((Below.refl w.heap.size w).alloc (Nat.le_refl _) _).trans (HW5.out.mono (by simp))
  have hRB := H.out.keep hH5
  have hTA := setAt_take l p (leBytes m x) (by rw [leBytes_length, HL.out]; exact hp)
  have hDR := setAt_drop l p (leBytes m x) (by rw [leBytes_length, HL.out]; exact hp)
  have hSE := setAt_seg l p (leBytes m x) (by rw [leBytes_length, HL.out]; exact hp)
  rw [leBytes_length] at hDR hSE
  have hk1 := fun nq => conv_str (rd_take (hrx.keep (below_drewN w5 nq _)) p (by omega)) cx
  have hk2 := fun nq => conv_str (rd_take (hRB.keep (below_drewN w5 nq _)) p (by omega)) cap
  have hk3 := fun nq => conv_str (rd_drop (hrx.keep (below_drewN w5 nq _)) (p + m) (by omega)) (cx - (p + m))
  have hk4 := fun nq => conv_str (rd_drop (hRB.keep (below_drewN w5 nq _)) (p + m) (by omega)) (cap - (p + m))
  have hk5 : p + m = len → ∀ nq a c, (convert 22 9 (.slice a 0 c)).run Try.prog (w5.drewN nq) = .ok (.string (txt (l.drop (p + m)))) (w5.drewN nq) := fun e nq a c => by
    rw [List.drop_of_length_le (by rw [HL.out]; omega)]
    exact conv_str (RdB.nil _ _) c
  rw [hTA] at hk1
  rw [hDR] at hk3
  simp only [Nat.zero_add] at hk3
  generalize txt (l.take p) = t1 at hk1 hk2
  generalize txt (l.drop (p + m)) = t2 at hk3 hk4 hk5
  generalize setAt l p (leBytes m x) = xs at hrx hxl hSE
  obtain ⟨c0, c1, c2, c3, c4, hs5⟩ := five_cells HW5.out
  have HRX := Lib.hid hrx
  have HXL := Lib.hid hxl
  have HSE := Lib.hid hSE
  clear ho5 hb5 hrx hRB hTA hDR hxl hSE C
  have i0 : (0 : Int) ≤ (p : Int) := by omega
  have i1 : (p : Int) ≤ (cx : Int) := by omega
  have i2 : (p : Int) ≤ (cap : Int) := by omega
  have i3 : (p : Int) + (m : Int) ≤ (len : Int) := by omega
  have i4 : (0 : Int) ≤ (p : Int) + (m : Int) := by omega
  have q6 : IntKind.i64.wrap ((p : Int) + (m : Int)) = (p : Int) + (m : Int) := IntWalk.i64_in _ (by omega)
  have i5 : ¬ cx = 0 := by omega
  have i6 : ¬ cap = 0 := by omega
  by_cases he : p + m = len
  · subst he
    have hk6 := hk5 rfl
    clear hk3 hk4 hk5
    by_cases ecx : cx = p + m
    · subst ecx
      by_cases eca : cap = p + m
      · subst eca
        go_wp2_with fail
        go_quiet (fail)
        have HX7 := Lib.hid (HW5.out.trans ((below_drewN w5 nq _).mono HW5.out.size))
        obtain ⟨c0, c1, c2, c3, c4, hs7⟩ := five_cells HX7.out
        have C := Lib.hid (new_calls _ (p + m) (p + m) xs _ (HRX.out.keep (below_drewN w5 nq _)) (by simp) (by omega))
        clear hk1 hk2 hk6
        go_wp2_with fail
        refine C.out.mono ?_
        rintro e w8 ⟨r, rfl, hr8, hb8, hrr⟩
        have HW8 := Lib.hid (HX7.out.trans (hb8.mono HX7.out.size))
        have HR8 := Lib.hid hr8
        have hrr2 : w.heap.size + 1 ≤ r := by have h1 := HX7.out.size; rw [hbw] at h1; omega
        obtain ⟨c0, c1, c2, c3, c4, hs8⟩ := five_cells HW8.out
        have C : Calls Try.prog 14 #[.pointer (some ⟨r, 0, none⟩), .int .i64 p] w8 (TakePost w8 r xs 0 p) := by
          rcases Nat.eq_zero_or_pos p with h0 | h0
          · subst h0; exact rtake_zero r 0 xs w8 HR8.out
          · exact rtake_yes r 0 xs _ HR8.out p h0 (by rw [HXL.out]; omega)
        have C := Lib.hid C
        clear hb8 hr8 hrr
        go_wp2_with fail
        refine C.out.mono ?_
        rintro e w9 ⟨v9, rfl, ho9, hr9, hc9⟩
        have HW9 := Lib.hid (HW8.out.trans (hc9.below HW8.out.size (by rintro i rfl; rw [hbw]; exact hrr2)))
        obtain ⟨c0, c1, c2, c3, c4, hs9⟩ := five_cells HW9.out
        rw [Nat.zero_add] at hr9
        have C := rlow_yes r p xs w9 hr9 m h1 h8 (by rw [HXL.out]; exact hp)
        rw [HSE.out, le_leBytes] at C
        obtain ⟨y, hy⟩ : ∃ y : Nat, y = x % 256 ^ m := ⟨_, rfl⟩
        have hsh : IntKind.u64.wrap ((x : Int) * 2 ^ (64 - 8 * m)) / 2 ^ (64 - 8 * m) = (y : Int) := by rw [hy]; exact shl_shr x m HX.out h1 h8
        rw [← hy] at C
        have C := Lib.hid C
        have j0 : (0 : Int) ≤ 64 - 8 * (m : Int) := by omega
        have j1 : (64 : Int) - 8 * (m : Int) ≤ 56 := by omega
        have hyy : ((y : Int) == y) = true := by simp
        clear ho9 hr9 hc9 hy
        go_wp2_with fail
        refine C.out.mono ?_
        rintro e w10 ⟨rfl, hr10, hc10⟩
        have HW10 := Lib.hid (HW9.out.trans (hc10.below HW9.out.size (by rintro i rfl; rw [hbw]; exact hrr2)))
        obtain ⟨c0, c1, c2, c3, c4, hs10⟩ := five_cells HW10.out
        clear hr10 hc10
        go_wp2_with fail
        go_ret
        exact ⟨rfl, ((Below.refl w.heap.size w).alloc (Nat.le_refl _) _).trans (HW10.out.mono (by simp))⟩
      · have i8 : ¬ cap = p + m := eca
        go_wp2_with fail
        go_quiet (fail)
        have HX7 := Lib.hid (HW5.out.trans ((below_drewN w5 nq _).mono HW5.out.size))
        obtain ⟨c0, c1, c2, c3, c4, hs7⟩ := five_cells HX7.out
        have C := Lib.hid (new_calls _ (p + m) (p + m) xs _ (HRX.out.keep (below_drewN w5 nq _)) (by simp) (by omega))
        clear hk1 hk2 hk6
        go_wp2_with fail
        refine C.out.mono ?_
        rintro e w8 ⟨r, rfl, hr8, hb8, hrr⟩
        have HW8 := Lib.hid (HX7.out.trans (hb8.mono HX7.out.size))
        have HR8 := Lib.hid hr8
        have hrr2 : w.heap.size + 1 ≤ r := by have h1 := HX7.out.size; rw [hbw] at h1; omega
        obtain ⟨c0, c1, c2, c3, c4, hs8⟩ := five_cells HW8.out
        have C : Calls Try.prog 14 #[.pointer (some ⟨r, 0, none⟩), .int .i64 p] w8 (TakePost w8 r xs 0 p) := by
          rcases Nat.eq_zero_or_pos p with h0 | h0
          · subst h0; exact rtake_zero r 0 xs w8 HR8.out
          · exact rtake_yes r 0 xs _ HR8.out p h0 (by rw [HXL.out]; omega)
        have C := Lib.hid C
        clear hb8 hr8 hrr
        go_wp2_with fail
        refine C.out.mono ?_
        rintro e w9 ⟨v9, rfl, ho9, hr9, hc9⟩
        have HW9 := Lib.hid (HW8.out.trans (hc9.below HW8.out.size (by rintro i rfl; rw [hbw]; exact hrr2)))
        obtain ⟨c0, c1, c2, c3, c4, hs9⟩ := five_cells HW9.out
        rw [Nat.zero_add] at hr9
        have C := rlow_yes r p xs w9 hr9 m h1 h8 (by rw [HXL.out]; exact hp)
        rw [HSE.out, le_leBytes] at C
        obtain ⟨y, hy⟩ : ∃ y : Nat, y = x % 256 ^ m := ⟨_, rfl⟩
        have hsh : IntKind.u64.wrap ((x : Int) * 2 ^ (64 - 8 * m)) / 2 ^ (64 - 8 * m) = (y : Int) := by rw [hy]; exact shl_shr x m HX.out h1 h8
        rw [← hy] at C
        have C := Lib.hid C
        have j0 : (0 : Int) ≤ 64 - 8 * (m : Int) := by omega
        have j1 : (64 : Int) - 8 * (m : Int) ≤ 56 := by omega
        have hyy : ((y : Int) == y) = true := by simp
        clear ho9 hr9 hc9 hy
        go_wp2_with fail
        refine C.out.mono ?_
        rintro e w10 ⟨rfl, hr10, hc10⟩
        have HW10 := Lib.hid (HW9.out.trans (hc10.below HW9.out.size (by rintro i rfl; rw [hbw]; exact hrr2)))
        obtain ⟨c0, c1, c2, c3, c4, hs10⟩ := five_cells HW10.out
        clear hr10 hc10
        go_wp2_with fail
        go_ret
        exact ⟨rfl, ((Below.refl w.heap.size w).alloc (Nat.le_refl _) _).trans (HW10.out.mono (by simp))⟩
    · have i7 : ¬ cx = p + m := ecx
      by_cases eca : cap = p + m
      · subst eca
        go_wp2_with fail
        go_quiet (fail)
        have HX7 := Lib.hid (HW5.out.trans ((below_drewN w5 nq _).mono HW5.out.size))
        obtain ⟨c0, c1, c2, c3, c4, hs7⟩ := five_cells HX7.out
        have C := Lib.hid (new_calls _ (p + m) cx xs _ (HRX.out.keep (below_drewN w5 nq _)) (by simp) (by omega))
        clear hk1 hk2 hk6
        go_wp2_with fail
        refine C.out.mono ?_
        rintro e w8 ⟨r, rfl, hr8, hb8, hrr⟩
        have HW8 := Lib.hid (HX7.out.trans (hb8.mono HX7.out.size))
        have HR8 := Lib.hid hr8
        have hrr2 : w.heap.size + 1 ≤ r := by have h1 := HX7.out.size; rw [hbw] at h1; omega
        obtain ⟨c0, c1, c2, c3, c4, hs8⟩ := five_cells HW8.out
        have C : Calls Try.prog 14 #[.pointer (some ⟨r, 0, none⟩), .int .i64 p] w8 (TakePost w8 r xs 0 p) := by
          rcases Nat.eq_zero_or_pos p with h0 | h0
          · subst h0; exact rtake_zero r 0 xs w8 HR8.out
          · exact rtake_yes r 0 xs _ HR8.out p h0 (by rw [HXL.out]; omega)
        have C := Lib.hid C
        clear hb8 hr8 hrr
        go_wp2_with fail
        refine C.out.mono ?_
        rintro e w9 ⟨v9, rfl, ho9, hr9, hc9⟩
        have HW9 := Lib.hid (HW8.out.trans (hc9.below HW8.out.size (by rintro i rfl; rw [hbw]; exact hrr2)))
        obtain ⟨c0, c1, c2, c3, c4, hs9⟩ := five_cells HW9.out
        rw [Nat.zero_add] at hr9
        have C := rlow_yes r p xs w9 hr9 m h1 h8 (by rw [HXL.out]; exact hp)
        rw [HSE.out, le_leBytes] at C
        obtain ⟨y, hy⟩ : ∃ y : Nat, y = x % 256 ^ m := ⟨_, rfl⟩
        have hsh : IntKind.u64.wrap ((x : Int) * 2 ^ (64 - 8 * m)) / 2 ^ (64 - 8 * m) = (y : Int) := by rw [hy]; exact shl_shr x m HX.out h1 h8
        rw [← hy] at C
        have C := Lib.hid C
        have j0 : (0 : Int) ≤ 64 - 8 * (m : Int) := by omega
        have j1 : (64 : Int) - 8 * (m : Int) ≤ 56 := by omega
        have hyy : ((y : Int) == y) = true := by simp
        clear ho9 hr9 hc9 hy
        go_wp2_with fail
        refine C.out.mono ?_
        rintro e w10 ⟨rfl, hr10, hc10⟩
        have HW10 := Lib.hid (HW9.out.trans (hc10.below HW9.out.size (by rintro i rfl; rw [hbw]; exact hrr2)))
        obtain ⟨c0, c1, c2, c3, c4, hs10⟩ := five_cells HW10.out
        clear hr10 hc10
        go_wp2_with fail
        go_ret
        exact ⟨rfl, ((Below.refl w.heap.size w).alloc (Nat.le_refl _) _).trans (HW10.out.mono (by simp))⟩
      · have i8 : ¬ cap = p + m := eca
        go_wp2_with fail
        go_quiet (fail)
        have HX7 := Lib.hid (HW5.out.trans ((below_drewN w5 nq _).mono HW5.out.size))
        obtain ⟨c0, c1, c2, c3, c4, hs7⟩ := five_cells HX7.out
        have C := Lib.hid (new_calls _ (p + m) cx xs _ (HRX.out.keep (below_drewN w5 nq _)) (by simp) (by omega))
        clear hk1 hk2 hk6
        go_wp2_with fail
        refine C.out.mono ?_
        rintro e w8 ⟨r, rfl, hr8, hb8, hrr⟩
        have HW8 := Lib.hid (HX7.out.trans (hb8.mono HX7.out.size))
        have HR8 := Lib.hid hr8
        have hrr2 : w.heap.size + 1 ≤ r := by have h1 := HX7.out.size; rw [hbw] at h1; omega
        obtain ⟨c0, c1, c2, c3, c4, hs8⟩ := five_cells HW8.out
        have C : Calls Try.prog 14 #[.pointer (some ⟨r, 0, none⟩), .int .i64 p] w8 (TakePost w8 r xs 0 p) := by
          rcases Nat.eq_zero_or_pos p with h0 | h0
          · subst h0; exact rtake_zero r 0 xs w8 HR8.out
          · exact rtake_yes r 0 xs _ HR8.out p h0 (by rw [HXL.out]; omega)
        have C := Lib.hid C
        clear hb8 hr8 hrr
        go_wp2_with fail
        refine C.out.mono ?_
        rintro e w9 ⟨v9, rfl, ho9, hr9, hc9⟩
        have HW9 := Lib.hid (HW8.out.trans (hc9.below HW8.out.size (by rintro i rfl; rw [hbw]; exact hrr2)))
        obtain ⟨c0, c1, c2, c3, c4, hs9⟩ := five_cells HW9.out
        rw [Nat.zero_add] at hr9
        have C := rlow_yes r p xs w9 hr9 m h1 h8 (by rw [HXL.out]; exact hp)
        rw [HSE.out, le_leBytes] at C
        obtain ⟨y, hy⟩ : ∃ y : Nat, y = x % 256 ^ m := ⟨_, rfl⟩
        have hsh : IntKind.u64.wrap ((x : Int) * 2 ^ (64 - 8 * m)) / 2 ^ (64 - 8 * m) = (y : Int) := by rw [hy]; exact shl_shr x m HX.out h1 h8
        rw [← hy] at C
        have C := Lib.hid C
        have j0 : (0 : Int) ≤ 64 - 8 * (m : Int) := by omega
        have j1 : (64 : Int) - 8 * (m : Int) ≤ 56 := by omega
        have hyy : ((y : Int) == y) = true := by simp
        clear ho9 hr9 hc9 hy
        go_wp2_with fail
        refine C.out.mono ?_
        rintro e w10 ⟨rfl, hr10, hc10⟩
        have HW10 := Lib.hid (HW9.out.trans (hc10.below HW9.out.size (by rintro i rfl; rw [hbw]; exact hrr2)))
        obtain ⟨c0, c1, c2, c3, c4, hs10⟩ := five_cells HW10.out
        clear hr10 hc10
        go_wp2_with fail
        go_ret
        exact ⟨rfl, ((Below.refl w.heap.size w).alloc (Nat.le_refl _) _).trans (HW10.out.mono (by simp))⟩
  · have i7 : ¬ cx = p + m := by omega
    have i8 : ¬ cap = p + m := by omega
    clear hk5
    go_wp2_with fail
    go_quiet (fail)
    have HX7 := Lib.hid (HW5.out.trans ((below_drewN w5 nq _).mono HW5.out.size))
    obtain ⟨c0, c1, c2, c3, c4, hs7⟩ := five_cells HX7.out
    have C := Lib.hid (new_calls _ len cx xs _ (HRX.out.keep (below_drewN w5 nq _)) (by simp) (by omega))
    clear hk1 hk2 hk3 hk4
    go_wp2_with fail
    refine C.out.mono ?_
    rintro e w8 ⟨r, rfl, hr8, hb8, hrr⟩
    have HW8 := Lib.hid (HX7.out.trans (hb8.mono HX7.out.size))
    have HR8 := Lib.hid hr8
    have hrr2 : w.heap.size + 1 ≤ r := by have h1 := HX7.out.size; rw [hbw] at h1; omega
    obtain ⟨c0, c1, c2, c3, c4, hs8⟩ := five_cells HW8.out
    have C : Calls Try.prog 14 #[.pointer (some ⟨r, 0, none⟩), .int .i64 p] w8 (TakePost w8 r xs 0 p) := by
      rcases Nat.eq_zero_or_pos p with h0 | h0
      · subst h0; exact rtake_zero r 0 xs w8 HR8.out
      · exact rtake_yes r 0 xs _ HR8.out p h0 (by rw [HXL.out]; omega)
    have C := Lib.hid C
    clear hb8 hr8 hrr
    go_wp2_with fail
    refine C.out.mono ?_
    rintro e w9 ⟨v9, rfl, ho9, hr9, hc9⟩
    have HW9 := Lib.hid (HW8.out.trans (hc9.below HW8.out.size (by rintro i rfl; rw [hbw]; exact hrr2)))
    obtain ⟨c0, c1, c2, c3, c4, hs9⟩ := five_cells HW9.out
    rw [Nat.zero_add] at hr9
    have C := rlow_yes r p xs w9 hr9 m h1 h8 (by rw [HXL.out]; exact hp)
    rw [HSE.out, le_leBytes] at C
    obtain ⟨y, hy⟩ : ∃ y : Nat, y = x % 256 ^ m := ⟨_, rfl⟩
    have hsh : IntKind.u64.wrap ((x : Int) * 2 ^ (64 - 8 * m)) / 2 ^ (64 - 8 * m) = (y : Int) := by rw [hy]; exact shl_shr x m HX.out h1 h8
    rw [← hy] at C
    have C := Lib.hid C
    have j0 : (0 : Int) ≤ 64 - 8 * (m : Int) := by omega
    have j1 : (64 : Int) - 8 * (m : Int) ≤ 56 := by omega
    have hyy : ((y : Int) == y) = true := by simp
    clear ho9 hr9 hc9 hy
    go_wp2_with fail
    refine C.out.mono ?_
    rintro e w10 ⟨rfl, hr10, hc10⟩
    have HW10 := Lib.hid (HW9.out.trans (hc10.below HW9.out.size (by rintro i rfl; rw [hbw]; exact hrr2)))
    obtain ⟨c0, c1, c2, c3, c4, hs10⟩ := five_cells HW10.out
    clear hr10 hc10
    go_wp2_with fail
    go_ret
    exact ⟨rfl, ((Below.refl w.heap.size w).alloc (Nat.le_refl _) _).trans (HW10.out.mono (by simp))⟩

set_option maxRecDepth 100000 in
set_option maxHeartbeats 4000000 in
theorem CurSets_walk (w : World) (a : Option Addr) (len cap : Nat) (l : List UInt8) (h : RdB w a len l) (hnc : a = none → cap = 0) (hcc : len ≤ cap) (p : Int) (hp0 : (Lit.int .i64 p).wf = true) (c : Array Value) (s : PutS) (hs : PutIs w s c.toList) :
    Calls Try.prog 5 #[.slice a len cap, .int .i64 p, .agg c] w fun e w' => e = .returned (.bool true) ∧ Below w.heap.size w w' := by
  obtain ⟨k, n, pa, x, bl⟩ := s
  obtain ⟨h1, h2, h3, hv, x1, x2, x3, hc, _⟩ := hs
  have hc' : c = #[.int .i64 k, .int .i64 n, .int .i64 pa, .int .u64 (x : Nat), .slice x1 x2 x3] := by
    cases c; simpa using hc
  subst hc'
  clear hc h1 h3
  simp only at h2 hv
  unfold inI64p at h2
  have hm := h.2.1
  by_cases e0 : 200 < len
  · have d1 : decide ((200 : Int) < (len : Int)) = true := by simp; omega
    clear h hp0
    go_enter Try.func5, Try.ntmps5
    go_wp2_with fail
    refine (awake1 _).mono ?_
    rintro e w1 ⟨rfl, hb1⟩
    obtain ⟨c0, c1, c2, c3, c4, hs1⟩ := five_cells hb1
    have HW1 := Lib.hid hb1
    clear hb1
    go_wp2_with fail
    go_ret
    exact ⟨rfl, ((Below.refl w.heap.size w).alloc (Nat.le_refl _) _).trans (HW1.out.mono (by simp))⟩
  have d1 : decide ((200 : Int) < (len : Int)) = false := by simp; omega
  by_cases e1 : n < 1
  · have d2 : decide (n < 1) = true := by simp; omega
    clear h hp0
    go_enter Try.func5, Try.ntmps5
    go_wp2_with fail
    refine (awake1 _).mono ?_
    rintro e w1 ⟨rfl, hb1⟩
    obtain ⟨c0, c1, c2, c3, c4, hs1⟩ := five_cells hb1
    have HW1 := Lib.hid hb1
    clear hb1
    go_wp2_with fail
    go_ret
    exact ⟨rfl, ((Below.refl w.heap.size w).alloc (Nat.le_refl _) _).trans (HW1.out.mono (by simp))⟩
  have d2 : decide (n < 1) = false := by simp; omega
  by_cases e2 : 8 < n
  · have d3 : decide (8 < n) = true := by simp; omega
    clear h hp0
    go_enter Try.func5, Try.ntmps5
    go_wp2_with fail
    refine (awake1 _).mono ?_
    rintro e w1 ⟨rfl, hb1⟩
    obtain ⟨c0, c1, c2, c3, c4, hs1⟩ := five_cells hb1
    have HW1 := Lib.hid hb1
    clear hb1
    go_wp2_with fail
    go_ret
    exact ⟨rfl, ((Below.refl w.heap.size w).alloc (Nat.le_refl _) _).trans (HW1.out.mono (by simp))⟩
  have d3 : decide (8 < n) = false := by simp; omega
  by_cases e3 : p < 0
  · have d4 : decide (p < 0) = true := by simp; omega
    clear h hp0
    go_enter Try.func5, Try.ntmps5
    go_wp2_with fail
    refine (awake1 _).mono ?_
    rintro e w1 ⟨rfl, hb1⟩
    obtain ⟨c0, c1, c2, c3, c4, hs1⟩ := five_cells hb1
    have HW1 := Lib.hid hb1
    clear hb1
    go_wp2_with fail
    go_ret
    exact ⟨rfl, ((Below.refl w.heap.size w).alloc (Nat.le_refl _) _).trans (HW1.out.mono (by simp))⟩
  have d4 : decide (p < 0) = false := by simp; omega
  by_cases e4 : (len : Int) - n < p
  · have d5 : decide ((len : Int) - n < p) = true := by simp; omega
    have q5 : IntKind.i64.wrap ((len : Int) - n) = (len : Int) - n := IntWalk.i64_in _ (by omega)
    clear h hp0
    go_enter Try.func5, Try.ntmps5
    go_wp2_with fail
    refine (awake1 _).mono ?_
    rintro e w1 ⟨rfl, hb1⟩
    obtain ⟨c0, c1, c2, c3, c4, hs1⟩ := five_cells hb1
    have HW1 := Lib.hid hb1
    clear hb1
    go_wp2_with fail
    go_ret
    exact ⟨rfl, ((Below.refl w.heap.size w).alloc (Nat.le_refl _) _).trans (HW1.out.mono (by simp))⟩
  clear d1 d2 d3 d4
  obtain ⟨m, rfl⟩ : ∃ m : Nat, n = m := ⟨n.toNat, by omega⟩
  obtain ⟨q, rfl⟩ : ∃ q : Nat, p = q := ⟨p.toNat, by omega⟩
  exact CurSets_core w a len cap l h hnc hcc q m k pa x x1 x2 x3 hv (by omega) (by omega) (by omega) (by omega)

end Go.Proofs.Ythahhjmgjlkmfaa
