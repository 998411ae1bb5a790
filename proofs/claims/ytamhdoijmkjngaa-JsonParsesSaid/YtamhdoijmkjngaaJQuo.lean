/- jout: is, Quote, quoted; hexa.Text of one byte. -/
import Derived.Test.YtamhdoijmkjngaaQuo
import Derived.Test.YtamhdoijmkjngaaAppT
import Derived.Laws.MakeOwn
namespace Go.Proofs.Ytamhdoijmkjngaa
open Go.RowKit
set_option linter.unusedVariables false
set_option linter.unusedSimpArgs false
attribute [local go_sem ↓] Go.wp_at_zero Go.wp_at_succ

set_option maxRecDepth 100000 in
set_option maxHeartbeats 2000000 in
theorem jis_calls (s : ByteArray) (hs : s.size ≤ 1048576) (w : World) :
    Calls Try.prog 42 #[.string s] w fun e w' => e = .returned (.bool (wholeTo (sl s) == s.size)) ∧ Below w.heap.size w w' := by
  obtain ⟨cap3, w3, hrun, hb3, hs3, hr3, hz1, hz2⟩ := conv_bytes w s hs
  have C := Lib.hid (check_calls _ _ cap3 w3 _ hr3)
  have HB := Lib.hid hb3
  generalize (wholeTo (sl s) == s.size) = b at C
  generalize wholeTo (sl s) = n at C
  clear hr3 hz1 hz2 hb3
  go_enter Try.func42, Try.ntmps42
  go_wp2_with fail
  refine C.out.mono ?_
  rintro e w4 ⟨rfl, rfl⟩
  go_wp2_with fail
  go_ret
  exact ⟨rfl, HB.out⟩

theorem and_15h : ∀ x : Fin 256, bits BinOp.and IntKind.u8 ((x : Nat) : Int) 15 = (((x : Nat) % 16 : Nat) : Int) := by decide +kernel

theorem below_grown {w w' : World} (h : w.grownBy w' none) : Below w.heap.size w w' := ⟨h.os, h.tape, h.output, h.size, fun k hk => h.block k hk (by simp)⟩

/-- What stands at the head of each round. -/
def Hex1Rel (w : World) (c : UInt8) (v i : Value) (wr : World) : Prop := ∃ (u : Value) (k : Nat), u = v ∧ i = .int .i64 k ∧ k ≤ 1 ∧ OwnB wr w.heap.size u (hexL ([c].take k)) ∧ Below w.heap.size w wr

set_option maxRecDepth 100000 in
set_option maxHeartbeats 8000000 in
theorem hext_calls (a : Option Addr) (cap : Nat) (c : UInt8) (w : World) (h : RdB w a 1 [c]) :
    Calls Try.prog 61 #[.slice a 1 cap] w fun e w' => e = .returned (.string (txt (hexL [c]))) ∧ Below w.heap.size w w' := by
  have H := Lib.hid h
  obtain ⟨b, o, rfl, c0⟩ := h.at 0 (by omega)
  have hbw : b < w.heap.size := by simpa using cell_block c0
  rw [show bAt [c] 0 = c.toNat from rfl, Nat.add_zero] at c0
  clear h
  obtain ⟨X, hX⟩ : ∃ X, X = c.toNat := ⟨_, rfl⟩
  have hx8 : X < 256 := by rw [hX]; exact c.toNat_lt
  rw [← hX] at c0
  have HX := Lib.hid hX
  obtain ⟨A, hA⟩ : ∃ A : Nat, A = X / 16 := ⟨_, rfl⟩
  obtain ⟨C, hC⟩ : ∃ C : Nat, C = X % 16 := ⟨_, rfl⟩
  have q1 : (X : Int) / 16 = (A : Int) := by omega
  have q2 : bits BinOp.and IntKind.u8 (X : Int) 15 = (C : Int) := by rw [hC]; exact and_15h ⟨X, hx8⟩
  have q5 : IntKind.u8.wrap (A : Int) = (A : Int) := by rw [IntKind.wrap_u8']; omega
  have b4 : (A : Int) < 16 := by omega
  have b5 : (C : Int) < 16 := by omega
  have b6 : A < 16 := by omega
  have b7 : C < 16 := by omega
  have HA := Lib.hid hA
  have HC := Lib.hid hC
  have hX8 : (X : Int) < 256 := by omega
  obtain ⟨i0, hi, hz0, hz1, hz2⟩ := info_parts infoU8
  obtain ⟨w1, hmk, ho1, hg1⟩ := run_make_own (P := Try.prog) w w.heap.size 47 5 i0 (.int .u8 0) 1 Try.underlying47 hi hz0 hz1 .i64 .i64 2 (by rw [hz2]; omega) (by unfold maxLen; omega) (Nat.le_refl _)
  have hmk' : (Instr.makeSlice 47 (.int .i64 0) (.int .i64 2)).run Try.prog w = .ok (.slice (some ⟨w.heap.size, 0, none⟩) 0 2) w1 := hmk
  have hb1 := below_grown hg1
  have HO1 : Hid (OwnB w1 w.heap.size (.slice (some ⟨w.heap.size, 0, none⟩) 0 2) []) := Lib.hid ho1
  have HB1 := Lib.hid hb1
  clear hX hA hC hmk ho1 hg1 hb1 hi hz0 hz1 hz2
  go_enter Try.func61, Try.ntmps61
  go_wp2_with fail
  go_loopw [3, 5, 12] (fun v _ i wr => Hex1Rel w c v i wr) (fun _ _ i _ => 1 - (intOf i).toNat)
  case atStart => exact ⟨_, 0, rfl, rfl, Nat.zero_le _, HO1.out, HB1.out⟩
  case round =>
    obtain ⟨v, k, rfl, rfl, hk, ho, hbl⟩ := hrel
    have HO := Lib.hid ho
    have HB := Lib.hid hbl
    have hsz := hbl.size
    have hc0 : wr.cell? ⟨b, o, none⟩ = some (.int .u8 (X : Nat)) := by rw [hbl.cell (p := ⟨b, o, none⟩) hbw]; exact c0
    clear ho hbl
    by_cases hlt : k < 1
    · obtain rfl : k = 0 := by omega
      go_wp2_with fail
      go_region_held3 (fun w' => True) (first | go_keep | trivial)
        ((refine step_appB (v := v) (bs := []) (l := [_, _]) (B := w.heap.size) (by rfl) _ _ (by rfl) (by rfl) (HO.out.alloc _) (by rfl) (srcB_two _ _ _) (by simp) (by simp; omega) ?_; intro v6 w6 ho6 ha6; have hB6 := Lib.hid (ha6.below ((HB.out.alloc hsz _).drew) (by simp; omega) (fun j hj => (owns_lt HO.out j hj).1)); have HO6 := Lib.hid ho6; clear ho6 ha6))
      all_goals
        have HNX : Hid (OwnB w6 w.heap.size v6 (hexL [c])) := by
          have e : hexL [c] = [hexC A, hexC C] := by
            simp only [hexL, List.map_cons, List.map_nil, List.flatten_cons, List.flatten_nil, List.append_nil]
            rw [← HX.out, ← HA.out, ← HC.out]
          show OwnB _ _ _ _
          rw [e, ← hexB_at A b6, ← hexB_at C b7]
          exact HO6.out
        clear HO6
        go_wp2_with fail
        go_roundw
        case rel => exact ⟨_, 1, rfl, by simp, by omega, HNX.out, hB6.out⟩
        case measure => simp [intOf]
    · obtain rfl : k = 1 := by omega
      have ho' := HO.out
      rw [show ([c] : List UInt8).take 1 = [c] from rfl] at ho'
      obtain ⟨a9, m9, c9, rfl, hcv⟩ := own_text ho'
      clear ho' HO
      go_wp2_with fail
      go_ret
      exact ⟨rfl, HB.out⟩

theorem quo_idx (c : UInt8) (h : c ≠ 34 ∧ c ≠ 92 ∧ c ≠ 8 ∧ c ≠ 12 ∧ c ≠ 10 ∧ c ≠ 13 ∧ c ≠ 9) : Lib.indexByte (sl ⟨#[34, 92, 8, 12, 10, 13, 9]⟩) (((c.toNat : Nat) : Int).toNat.toUInt8) = -1 := by
  have key : ∀ n : Fin 256, (UInt8.ofNat n ≠ 34 ∧ UInt8.ofNat n ≠ 92 ∧ UInt8.ofNat n ≠ 8 ∧ UInt8.ofNat n ≠ 12 ∧ UInt8.ofNat n ≠ 10 ∧ UInt8.ofNat n ≠ 13 ∧ UInt8.ofNat n ≠ 9) → Lib.indexByte (sl ⟨#[34, 92, 8, 12, 10, 13, 9]⟩) ((((n : Nat) : Nat) : Int).toNat.toUInt8) = -1 := by decide +kernel
  have := key ⟨c.toNat, c.toNat_lt⟩
  simp only [UInt8.ofNat_toNat] at this
  exact this h

/-- What stands at the head of each round. -/
def JquRel (w : World) (l : List UInt8) (v i : Value) (wr : World) : Prop := ∃ (u : Value) (k : Nat), u = v ∧ i = .int .i64 k ∧ k ≤ l.length ∧ OwnB wr w.heap.size u (34 :: quoteM (l.take k)) ∧ Below w.heap.size w wr

theorem jqu_next {w w6 : World} {v6 : Value} {l x : List UInt8} {k : Nat} {c : UInt8} {i : Value} (hk : k < l.length) (hc : l[k] = c) (hq : quoteB c = x) (ho : OwnB w6 w.heap.size v6 ((34 :: quoteM (l.take k)) ++ x)) (hb : Below w.heap.size w w6) (hi : i = .int .i64 ((k : Int) + 1)) : JquRel w l v6 i w6 := by
  refine ⟨v6, k + 1, rfl, by rw [hi]; simp, hk, ?_, hb⟩
  rw [quoteM_take l k hk, hc, hq]
  exact ho

set_option maxRecDepth 100000 in
set_option maxHeartbeats 8000000 in
theorem jquote_calls (s : ByteArray) (hs : s.size ≤ 1048576) (w : World) :
    Calls Try.prog 37 #[.string s] w fun e w' => (wholeTo (sl s) = s.size → e = .returned (.tuple #[.string (txt (quoteL (sl s))), .bool true])) ∧ (wholeTo (sl s) ≠ s.size → e = .returned (.tuple #[.string ⟨#[]⟩, .bool false])) ∧ Below w.heap.size w w' := by
  have CW := fun W => Lib.hid (jis_calls s (by omega) W)
  by_cases hw : wholeTo (sl s) = s.size
  case neg =>
    rw [show (wholeTo (sl s) == s.size) = false by simpa using hw] at CW
    have HW := Lib.hid hw
    clear hw
    go_enter Try.func37, Try.ntmps37
    go_wp2_with fail
    refine (CW _).out.mono ?_
    rintro e w1 ⟨rfl, hb1⟩
    go_wp2_with fail
    go_ret2
    exact ⟨fun h => absurd h HW.out, fun _ => rfl, hb1⟩
  rw [show (wholeTo (sl s) == s.size) = true by simpa using hw] at CW
  have HW := Lib.hid hw
  clear hw
  go_enter Try.func37, Try.ntmps37
  go_wp2_with fail
  refine (CW _).out.mono ?_
  rintro e w1 ⟨rfl, hb1⟩
  have HB1 := Lib.hid hb1
  have hs1 := hb1.size
  clear hb1
  go_wp2_with fail
  go_loopw [4, 5, 6, 7, 14] (fun v _ _ _ i wr => JquRel w (sl s) v i wr) (fun _ _ _ _ i _ => s.size - (intOf i).toNat)
  case atStart =>
    refine ⟨_, 0, rfl, rfl, Nat.zero_le _, ?_, HB1.out.alloc hs1 _⟩
    exact own_fresh w1 w.heap.size 34 (by omega) hs1
  case round =>
    obtain ⟨v, k, rfl, rfl, hk, ho, hbl⟩ := hrel
    rw [sl_len] at hk
    have HO := Lib.hid ho
    have HB := Lib.hid hbl
    have hsz := hbl.size
    have hql := quoteM_len ((sl s).take k)
    rw [List.length_take, sl_len] at hql
    have hql2 : (quoteM ((sl s).take k)).length ≤ 6291456 := by omega
    clear ho hbl hql
    by_cases hlt : k < s.size
    · have hlk : k < (sl s).length := by rw [sl_len]; exact hlt
      obtain ⟨c, hc⟩ : ∃ c, c = s[k]'hlt := ⟨_, rfl⟩
      have hcl : (sl s)[k] = c := by rw [hc]; rfl
      have hcn : (s[k]'hlt).toNat = c.toNat := by rw [hc]
      have HCL := Lib.hid hcl
      have ub := u8_lt (s[k]'hlt)
      have CI := fun W => Lib.hid (sidx_calls ⟨#[34, 92, 8, 12, 10, 13, 9]⟩ (((s[k]'hlt).toNat : Nat) : Int) W)
      by_cases q34 : c = 34
      · have HQ : Hid (quoteB c = [92, 34]) := by show _ = _; rw [q34]; rfl
        have i1 : ((s[k]'hlt).toNat : Int) = 34 := by rw [hcn, q34]; rfl
        have i2 : Lib.indexByte (sl ⟨#[34, 92, 8, 12, 10, 13, 9]⟩) ((((s[k]'hlt).toNat : Nat) : Int).toNat.toUInt8) = 0 := by rw [i1]; decide +kernel
        rw [i2, i1] at CI
        clear hc hcl hcn q34 i2
        go_wp2_with fail
        refine (CI _).out.mono ?_
        rintro e w' ⟨rfl, rfl⟩
        go_wp2_with (at_builtin; refine wpList_appB (v := v) (bs := 34 :: quoteM ((sl s).take k)) (sv := .slice (some ⟨wr.heap.size, 0, none⟩) 2 2) (l := [92, 34]) (B := w.heap.size) (by rfl) _ _ (by rfl) (by rfl) (HO.out.alloc _) (by rfl) (srcB_two wr 92 34) ?o3 ?o4 ?_)
        case o3 => simp; omega
        case o4 => simp; omega
        intro v6 w6 ho6 ha6
        have HO6 := Lib.hid ho6
        have HB6 := Lib.hid (ha6.below (HB.out.alloc hsz _) (by simp; omega) (fun j hj => (owns_lt HO.out j hj).1))
        clear ho6 ha6
        go_wp2_with fail
        go_roundw
        case rel => exact jqu_next hlk HCL.out HQ.out HO6.out HB6.out rfl
        case measure => simp [intOf]; omega
      by_cases q92 : c = 92
      · have HQ : Hid (quoteB c = [92, 92]) := by show _ = _; rw [q92]; rfl
        have i1 : ((s[k]'hlt).toNat : Int) = 92 := by rw [hcn, q92]; rfl
        have i2 : Lib.indexByte (sl ⟨#[34, 92, 8, 12, 10, 13, 9]⟩) ((((s[k]'hlt).toNat : Nat) : Int).toNat.toUInt8) = 1 := by rw [i1]; decide +kernel
        rw [i2, i1] at CI
        clear hc hcl hcn q92 i2
        go_wp2_with fail
        refine (CI _).out.mono ?_
        rintro e w' ⟨rfl, rfl⟩
        go_wp2_with (at_builtin; refine wpList_appB (v := v) (bs := 34 :: quoteM ((sl s).take k)) (sv := .slice (some ⟨wr.heap.size, 0, none⟩) 2 2) (l := [92, 92]) (B := w.heap.size) (by rfl) _ _ (by rfl) (by rfl) (HO.out.alloc _) (by rfl) (srcB_two wr 92 92) ?o3 ?o4 ?_)
        case o3 => simp; omega
        case o4 => simp; omega
        intro v6 w6 ho6 ha6
        have HO6 := Lib.hid ho6
        have HB6 := Lib.hid (ha6.below (HB.out.alloc hsz _) (by simp; omega) (fun j hj => (owns_lt HO.out j hj).1))
        clear ho6 ha6
        go_wp2_with fail
        go_roundw
        case rel => exact jqu_next hlk HCL.out HQ.out HO6.out HB6.out rfl
        case measure => simp [intOf]; omega
      by_cases q8 : c = 8
      · have HQ : Hid (quoteB c = [92, 98]) := by show _ = _; rw [q8]; rfl
        have i1 : ((s[k]'hlt).toNat : Int) = 8 := by rw [hcn, q8]; rfl
        have i2 : Lib.indexByte (sl ⟨#[34, 92, 8, 12, 10, 13, 9]⟩) ((((s[k]'hlt).toNat : Nat) : Int).toNat.toUInt8) = 2 := by rw [i1]; decide +kernel
        rw [i2, i1] at CI
        clear hc hcl hcn q8 i2
        go_wp2_with fail
        refine (CI _).out.mono ?_
        rintro e w' ⟨rfl, rfl⟩
        go_wp2_with (at_builtin; refine wpList_appB (v := v) (bs := 34 :: quoteM ((sl s).take k)) (sv := .slice (some ⟨wr.heap.size, 0, none⟩) 2 2) (l := [92, 98]) (B := w.heap.size) (by rfl) _ _ (by rfl) (by rfl) (HO.out.alloc _) (by rfl) (srcB_two wr 92 98) ?o3 ?o4 ?_)
        case o3 => simp; omega
        case o4 => simp; omega
        intro v6 w6 ho6 ha6
        have HO6 := Lib.hid ho6
        have HB6 := Lib.hid (ha6.below (HB.out.alloc hsz _) (by simp; omega) (fun j hj => (owns_lt HO.out j hj).1))
        clear ho6 ha6
        go_wp2_with fail
        go_roundw
        case rel => exact jqu_next hlk HCL.out HQ.out HO6.out HB6.out rfl
        case measure => simp [intOf]; omega
      by_cases q12 : c = 12
      · have HQ : Hid (quoteB c = [92, 102]) := by show _ = _; rw [q12]; rfl
        have i1 : ((s[k]'hlt).toNat : Int) = 12 := by rw [hcn, q12]; rfl
        have i2 : Lib.indexByte (sl ⟨#[34, 92, 8, 12, 10, 13, 9]⟩) ((((s[k]'hlt).toNat : Nat) : Int).toNat.toUInt8) = 3 := by rw [i1]; decide +kernel
        rw [i2, i1] at CI
        clear hc hcl hcn q12 i2
        go_wp2_with fail
        refine (CI _).out.mono ?_
        rintro e w' ⟨rfl, rfl⟩
        go_wp2_with (at_builtin; refine wpList_appB (v := v) (bs := 34 :: quoteM ((sl s).take k)) (sv := .slice (some ⟨wr.heap.size, 0, none⟩) 2 2) (l := [92, 102]) (B := w.heap.size) (by rfl) _ _ (by rfl) (by rfl) (HO.out.alloc _) (by rfl) (srcB_two wr 92 102) ?o3 ?o4 ?_)
        case o3 => simp; omega
        case o4 => simp; omega
        intro v6 w6 ho6 ha6
        have HO6 := Lib.hid ho6
        have HB6 := Lib.hid (ha6.below (HB.out.alloc hsz _) (by simp; omega) (fun j hj => (owns_lt HO.out j hj).1))
        clear ho6 ha6
        go_wp2_with fail
        go_roundw
        case rel => exact jqu_next hlk HCL.out HQ.out HO6.out HB6.out rfl
        case measure => simp [intOf]; omega
      by_cases q10 : c = 10
      · have HQ : Hid (quoteB c = [92, 110]) := by show _ = _; rw [q10]; rfl
        have i1 : ((s[k]'hlt).toNat : Int) = 10 := by rw [hcn, q10]; rfl
        have i2 : Lib.indexByte (sl ⟨#[34, 92, 8, 12, 10, 13, 9]⟩) ((((s[k]'hlt).toNat : Nat) : Int).toNat.toUInt8) = 4 := by rw [i1]; decide +kernel
        rw [i2, i1] at CI
        clear hc hcl hcn q10 i2
        go_wp2_with fail
        refine (CI _).out.mono ?_
        rintro e w' ⟨rfl, rfl⟩
        go_wp2_with (at_builtin; refine wpList_appB (v := v) (bs := 34 :: quoteM ((sl s).take k)) (sv := .slice (some ⟨wr.heap.size, 0, none⟩) 2 2) (l := [92, 110]) (B := w.heap.size) (by rfl) _ _ (by rfl) (by rfl) (HO.out.alloc _) (by rfl) (srcB_two wr 92 110) ?o3 ?o4 ?_)
        case o3 => simp; omega
        case o4 => simp; omega
        intro v6 w6 ho6 ha6
        have HO6 := Lib.hid ho6
        have HB6 := Lib.hid (ha6.below (HB.out.alloc hsz _) (by simp; omega) (fun j hj => (owns_lt HO.out j hj).1))
        clear ho6 ha6
        go_wp2_with fail
        go_roundw
        case rel => exact jqu_next hlk HCL.out HQ.out HO6.out HB6.out rfl
        case measure => simp [intOf]; omega
      by_cases q13 : c = 13
      · have HQ : Hid (quoteB c = [92, 114]) := by show _ = _; rw [q13]; rfl
        have i1 : ((s[k]'hlt).toNat : Int) = 13 := by rw [hcn, q13]; rfl
        have i2 : Lib.indexByte (sl ⟨#[34, 92, 8, 12, 10, 13, 9]⟩) ((((s[k]'hlt).toNat : Nat) : Int).toNat.toUInt8) = 5 := by rw [i1]; decide +kernel
        rw [i2, i1] at CI
        clear hc hcl hcn q13 i2
        go_wp2_with fail
        refine (CI _).out.mono ?_
        rintro e w' ⟨rfl, rfl⟩
        go_wp2_with (at_builtin; refine wpList_appB (v := v) (bs := 34 :: quoteM ((sl s).take k)) (sv := .slice (some ⟨wr.heap.size, 0, none⟩) 2 2) (l := [92, 114]) (B := w.heap.size) (by rfl) _ _ (by rfl) (by rfl) (HO.out.alloc _) (by rfl) (srcB_two wr 92 114) ?o3 ?o4 ?_)
        case o3 => simp; omega
        case o4 => simp; omega
        intro v6 w6 ho6 ha6
        have HO6 := Lib.hid ho6
        have HB6 := Lib.hid (ha6.below (HB.out.alloc hsz _) (by simp; omega) (fun j hj => (owns_lt HO.out j hj).1))
        clear ho6 ha6
        go_wp2_with fail
        go_roundw
        case rel => exact jqu_next hlk HCL.out HQ.out HO6.out HB6.out rfl
        case measure => simp [intOf]; omega
      by_cases q9 : c = 9
      · have HQ : Hid (quoteB c = [92, 116]) := by show _ = _; rw [q9]; rfl
        have i1 : ((s[k]'hlt).toNat : Int) = 9 := by rw [hcn, q9]; rfl
        have i2 : Lib.indexByte (sl ⟨#[34, 92, 8, 12, 10, 13, 9]⟩) ((((s[k]'hlt).toNat : Nat) : Int).toNat.toUInt8) = 6 := by rw [i1]; decide +kernel
        rw [i2, i1] at CI
        clear hc hcl hcn q9 i2
        go_wp2_with fail
        refine (CI _).out.mono ?_
        rintro e w' ⟨rfl, rfl⟩
        go_wp2_with (at_builtin; refine wpList_appB (v := v) (bs := 34 :: quoteM ((sl s).take k)) (sv := .slice (some ⟨wr.heap.size, 0, none⟩) 2 2) (l := [92, 116]) (B := w.heap.size) (by rfl) _ _ (by rfl) (by rfl) (HO.out.alloc _) (by rfl) (srcB_two wr 92 116) ?o3 ?o4 ?_)
        case o3 => simp; omega
        case o4 => simp; omega
        intro v6 w6 ho6 ha6
        have HO6 := Lib.hid ho6
        have HB6 := Lib.hid (ha6.below (HB.out.alloc hsz _) (by simp; omega) (fun j hj => (owns_lt HO.out j hj).1))
        clear ho6 ha6
        go_wp2_with fail
        go_roundw
        case rel => exact jqu_next hlk HCL.out HQ.out HO6.out HB6.out rfl
        case measure => simp [intOf]; omega
      have i2 : Lib.indexByte (sl ⟨#[34, 92, 8, 12, 10, 13, 9]⟩) ((((s[k]'hlt).toNat : Nat) : Int).toNat.toUInt8) = -1 := by rw [hcn]; exact quo_idx c ⟨q34, q92, q8, q12, q10, q13, q9⟩
      rw [i2] at CI
      have hq0 : quoteB c = if c < 32 then [92, 117, 48, 48, hexC (c.toNat / 16), hexC (c.toNat % 16)] else [c] := by
        unfold quoteB
        rw [if_neg (by intro h; rcases h with h | h; exact q34 h; exact q92 h), if_neg q8, if_neg q12, if_neg q10, if_neg q13, if_neg q9]
      by_cases q32 : c.toNat < 32
      · have HQ : Hid (quoteB c = [92, 117, 48, 48] ++ hexL [c]) := by
          show _ = _
          rw [hq0, if_pos (by rw [UInt8.lt_iff_toNat_lt]; exact q32)]
          rfl
        have i1 : decide (((s[k]'hlt).toNat : Int) < 32) = true := by simp; omega
        have HCN := Lib.hid hcn
        clear hc hcl hcn q34 q92 q8 q12 q10 q13 q9 q32 i2 hq0
        go_wp2_with fail
        refine (CI _).out.mono ?_
        rintro e w' ⟨rfl, rfl⟩
        go_wp2_with (at_builtin; refine wpList_appS (v := v) (bs := 34 :: quoteM ((sl s).take k)) (t := ⟨#[92, 117, 48, 48]⟩) (B := w.heap.size) (by rfl) _ _ (by rfl) (by rfl) HO.out (by rfl) ?o3 ?o4 ?_)
        case o3 => show _ + 4 ≤ _; simp; omega
        case o4 => exact hsz
        intro v5 w5 ho5 hg5
        have hB5 : Below w.heap.size w w5 := HB.out.grown hg5 hsz fun j hj => (owns_lt HO.out j hj).1
        have HB5 := Lib.hid hB5
        have HO5 := Lib.hid ho5
        have hs5 := hB5.size
        have hr5 : RdB (w5.alloc (.cells #[.int .u8 ((s[k]'hlt).toNat : Nat)] 5)) (some ⟨w5.heap.size, 0, none⟩) 1 [c] := by
          refine ⟨rfl, by omega, fun i hi => ⟨w5.heap.size, 0, rfl, ?_⟩⟩
          obtain rfl : i = 0 := by omega
          rw [HCN.out]
          simp [bAt]
        have CH := Lib.hid (hext_calls _ 1 c _ hr5)
        clear ho5 hg5 hB5 hr5
        go_wp2_with fail
        refine CH.out.mono ?_
        rintro e w7 ⟨rfl, hb7⟩
        have hB7 := (HB5.out.alloc hs5 _).trans (hb7.mono (by simp; omega))
        have HB7 := Lib.hid hB7
        have HO7 : Hid (OwnB w7 w.heap.size v5 ((34 :: quoteM ((sl s).take k)) ++ sl ⟨#[92, 117, 48, 48]⟩)) := OwnB.keep (show OwnB (w5.alloc (.cells #[.int .u8 ((s[k]'hlt).toNat : Nat)] 5)) w.heap.size v5 ((34 :: quoteM ((sl s).take k)) ++ sl ⟨#[92, 117, 48, 48]⟩) from HO5.out.alloc _) hb7
        have hs7 := hB7.size
        clear hb7 hB7
        go_wp2_with (at_builtin; refine wpList_appS (v := v5) (bs := (34 :: quoteM ((sl s).take k)) ++ sl ⟨#[92, 117, 48, 48]⟩) (t := txt (hexL [c])) (B := w.heap.size) (by rfl) _ _ (by rfl) (by rfl) HO7.out (by rfl) ?o3 ?o4 ?_)
        case o3 => rw [txt_size, hexL_len, List.length_append, show (sl ⟨#[92, 117, 48, 48]⟩).length = 4 from rfl]; simp; omega
        case o4 => exact hs7
        intro v6 w6 ho6 hg6
        have HB6 : Hid (Below w.heap.size w w6) := HB7.out.grown hg6 hs7 fun j hj => (owns_lt HO7.out j hj).1
        have HO6 : Hid (OwnB w6 w.heap.size v6 ((34 :: quoteM ((sl s).take k)) ++ ([92, 117, 48, 48] ++ hexL [c]))) := by
          have e : (34 :: quoteM ((sl s).take k)) ++ ([92, 117, 48, 48] ++ hexL [c]) = 34 :: (quoteM ((sl s).take k) ++ (sl ⟨#[92, 117, 48, 48]⟩ ++ sl (txt (hexL [c])))) := by
            rw [sl_txt]; rfl
          show OwnB _ _ _ _
          rw [e]
          exact ho6
        clear ho6 hg6
        go_wp2_with fail
        go_roundw
        case rel => exact jqu_next hlk HCL.out HQ.out HO6.out HB6.out rfl
        case measure => simp [intOf]; omega
      have e32 : decide (((s[k]'hlt).toNat : Int) < 32) = false := by simp; omega
      have HQ : Hid (quoteB c = [c]) := by
        show _ = _
        rw [hq0, if_neg (by rw [UInt8.lt_iff_toNat_lt]; exact q32)]
      have HS1 : Hid (SrcB (wr.alloc (.cells #[.int .u8 ((s[k]'hlt).toNat : Nat)] 5)) (.slice (some ⟨wr.heap.size, 0, none⟩) 1 1) [c]) := by
        have := srcB_one wr (s[k]'hlt).toNat (UInt8.toNat_lt _)
        rw [show UInt8.ofNat (s[k]'hlt).toNat = c by rw [hcn]; simp] at this
        exact this
      clear hc hcl hcn q34 q92 q8 q12 q10 q13 q9 q32 i2 hq0
      go_wp2_with fail
      refine (CI _).out.mono ?_
      rintro e w' ⟨rfl, rfl⟩
      go_wp2_with (at_builtin; refine wpList_appB (v := v) (bs := 34 :: quoteM ((sl s).take k)) (sv := .slice (some ⟨wr.heap.size, 0, none⟩) 1 1) (l := [c]) (B := w.heap.size) (by rfl) _ _ (by rfl) (by rfl) (HO.out.alloc _) (by rfl) (HS1.out) ?o3 ?o4 ?_)
      case o3 => simp; omega
      case o4 => simp; omega
      intro v6 w6 ho6 ha6
      have HO6 := Lib.hid ho6
      have HB6 := Lib.hid (ha6.below (HB.out.alloc hsz _) (by simp; omega) (fun j hj => (owns_lt HO.out j hj).1))
      clear ho6 ha6
      go_wp2_with fail
      go_roundw
      case rel => exact jqu_next hlk HCL.out HQ.out HO6.out HB6.out rfl
      case measure => simp [intOf]; omega
    · obtain rfl : k = s.size := by omega
      have e : (sl s).take s.size = sl s := List.take_of_length_le (by rw [sl_len]; exact Nat.le_refl _)
      rw [e] at HO
      have hs1' := srcB_one wr 34 (by omega)
      have HS1 := Lib.hid hs1'
      rw [e] at hql2
      clear e hs1'
      go_wp2_with (at_builtin; refine wpList_appB (v := v) (bs := 34 :: quoteM (sl s)) (sv := .slice (some ⟨wr.heap.size, 0, none⟩) 1 1) (l := [34]) (B := w.heap.size) (by rfl) _ _ (by rfl) (by rfl) (HO.out.alloc _) (by rfl) HS1.out ?o3 ?o4 ?_)
      case o3 => simp; omega
      case o4 => simp; omega
      intro v6 w6 ho6 ha6
      have HB6 := Lib.hid (ha6.below (HB.out.alloc hsz _) (by simp; omega) (fun j hj => (owns_lt HO.out j hj).1))
      obtain ⟨a9, m9, c9, rfl, hcv⟩ := own_text (l := quoteL (sl s)) ho6
      clear ho6 ha6
      go_wp2_with fail
      go_ret2
      exact ⟨fun _ => rfl, fun h => absurd HW.out h, HB6.out⟩

set_option maxRecDepth 100000 in
set_option maxHeartbeats 2000000 in
/-- A text's quote, behind what stands there. -/
theorem quoted_calls (s : ByteArray) (hs : s.size ≤ 100000) (hw : wholeTo (sl s) = s.size) (w : World) (B : Nat) (v : Value) (bs : List UInt8) (ho : OwnB w B v bs) (hB : B ≤ w.heap.size) (hl : bs.length ≤ 10000000) :
    Calls Try.prog 63 #[v, .string s] w fun e w' => ∃ v', e = .returned v' ∧ OwnB w' B v' (bs ++ quoteL (sl s)) ∧ LayF w w' v v' := by
  have C : Hid (Calls Try.prog 37 #[.string s] w fun e w' => e = .returned (.tuple #[.string (txt (quoteL (sl s))), .bool true]) ∧ Below w.heap.size w w') := Lib.hid ((jquote_calls s (by omega) w).mono (by rintro e w' ⟨h1, _, h3⟩; exact ⟨h1 hw, h3⟩))
  have hqn := quoteL_len (sl s)
  have hqm := quoteM_len (sl s)
  rw [sl_len] at hqm
  have HO := Lib.hid ho
  obtain ⟨q, hqq⟩ : ∃ q, q = txt (quoteL (sl s)) := ⟨_, rfl⟩
  have hsq : q.size ≤ 700000 := by rw [hqq, txt_size]; omega
  have HQ : Hid (sl q = quoteL (sl s)) := by show _ = _; rw [hqq, sl_txt]
  rw [← hqq] at C
  clear ho hw hqn hqm hqq
  go_enter Try.func63, Try.ntmps63
  go_wp2_with fail
  refine C.out.mono ?_
  rintro e w1 ⟨rfl, hb1⟩
  have HB1 := Lib.hid hb1
  have hs1 := hb1.size
  have HO1 := Lib.hid (HO.out.keep hb1)
  clear hb1
  go_wp2_with (at_builtin; refine wpList_appT (v := v) (bs := bs) (t := q) (B := B) (by rfl) _ _ (by rfl) (by rfl) HO1.out (by rfl) ?o3 ?o4 ?_)
  case o3 => omega
  case o4 => omega
  intro v6 w6 ho6 hl6
  rw [HQ.out] at ho6
  have HO6 := Lib.hid ho6
  have HL6 := Lib.hid ((LayF.fresh HB1.out v).trans hl6)
  clear ho6 hl6
  go_wp2_with fail
  go_ret
  exact ⟨_, rfl, HO6.out, HL6.out⟩

end Go.Proofs.Ytamhdoijmkjngaa
