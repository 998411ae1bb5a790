/- JsonDeep: the walk. -/
import Derived.Test.YtamhdoijmkjngaaJAw
import Derived.Test.YtamhdoijmkjngaaSame
namespace Go.Proofs.Ytamhdoijmkjngaa
open Go.RowKit
set_option linter.unusedVariables false
set_option linter.unusedSimpArgs false

theorem brk_deep (n dep : Nat) (rest : List UInt8) (h : dep < n) (h1 : dep ≤ 1000) : parseP (List.replicate n 91 ++ rest) (dep : Nat) = .bad 8 dep := by
  obtain ⟨s, g1, g2⟩ := brackets_val n [] rest dep 0 (2 * (List.replicate n 91 ++ rest).length + 10) (by omega) (by omega) (by simp <;> omega)
  simp only [List.nil_append, List.length_nil, Nat.zero_add, Nat.sub_zero] at g1 g2
  rw [parse_tok _ _ _ _ _ _ h1 g1, g2]; rfl
theorem brk_open (n dep : Nat) (h : n ≤ dep) (h1 : dep ≤ 1000) : parseP (List.replicate n 91) (dep : Nat) = .bad 2 n := by
  obtain ⟨kd, s, g1, _, g2⟩ := brackets_open n [] dep 0 (2 * (List.replicate n (91 : UInt8)).length + 10) (by omega) (by simp <;> omega)
  simp only [List.nil_append, List.length_nil, Nat.zero_add] at g1 g2
  rw [parse_tok _ _ _ _ _ _ h1 g1, g2]; rfl
theorem brk_both (n dep : Nat) (h0 : 1 ≤ n) (h : n ≤ dep) (h1 : dep ≤ 1000) : ∃ j, parseP (List.replicate n 91 ++ List.replicate n 93) (dep : Nat) = .ok j 0 := by
  obtain ⟨m, rfl⟩ : ∃ m, n = m + 1 := ⟨n - 1, by omega⟩
  refine ⟨nestA m, ?_⟩
  rw [← nestA_print m]
  exact parse_print (nestA m) dep (nestA_check m) (by rw [nestA_nest]; omega) (by omega)

def DpRel (w1 : World) (pre : List UInt8) (c : UInt8) (n : Nat) (v i : Value) (wr : World) : Prop :=
  ∃ k : Nat, i = .int .i64 k ∧ k ≤ n ∧ OwnB wr w1.heap.size v (pre ++ List.replicate k c) ∧ LayF w1 wr (.slice none 0 0) v

theorem dp_step {w1 wr w' : World} {pre : List UInt8} {c : UInt8} {n k : Nat} {v v' i : Value} (ho : OwnB w' w1.heap.size v' ((pre ++ List.replicate k c) ++ [c])) (h1 : LayF w1 wr (.slice none 0 0) v) (h2 : LayF wr w' v v') (hk : k < n) (hi : i = .int .i64 ((k : Int) + 1)) : DpRel w1 pre c n v' i w' := by
  refine ⟨k + 1, by rw [hi]; simp, hk, ?_, h1.trans h2⟩
  rw [List.replicate_succ', ← List.append_assoc]
  exact ho

set_option maxRecDepth 100000 in
set_option maxHeartbeats 16000000 in
theorem JsonDeep_walk (w : World) (n : Int) (hn9 : -9223372036854775808 ≤ n ∧ n ≤ 9223372036854775807) (dp : Int) (hd9 : -9223372036854775808 ≤ dp ∧ dp ≤ 9223372036854775807) :
    Calls Try.prog 13 #[.int .i64 n, .int .i64 dp] w fun e w' => e = .returned (.bool true) ∧ Below w.heap.size w w' := by
  have CA := fun W => Lib.hid (awake23 W)
  by_cases hout : n < 1 ∨ 1100 < n ∨ dp < 0 ∨ 1000 < dp
  · have h4 : n < 1 ∨ (1 ≤ n ∧ 1100 < n) ∨ (1 ≤ n ∧ n ≤ 1100 ∧ dp < 0) ∨ (1 ≤ n ∧ n ≤ 1100 ∧ 0 ≤ dp ∧ 1000 < dp) := by omega
    clear hout
    rcases h4 with h | ⟨h, h2⟩ | ⟨h, h2, h3⟩ | ⟨h, h2, h3, h5⟩
    all_goals
      go_enter Try.func13, Try.ntmps13
      go_wp2_with fail
      refine (CA _).out.mono ?_
      rintro e w1 ⟨rfl, hb1⟩
      have HB1 := Lib.hid hb1
      clear hb1
      go_wp2_with fail
      go_ret
      exact ⟨rfl, HB1.out⟩
  obtain ⟨n, rfl⟩ : ∃ m : Nat, n = m := ⟨n.toNat, by omega⟩
  obtain ⟨dep, rfl⟩ : ∃ m : Nat, dp = m := ⟨dp.toNat, by omega⟩
  have c1 : decide ((n : Int) < 1) = false := by simp; omega
  have c2 : decide ((1100 : Int) < (n : Int)) = false := by simp; omega
  have c3 : decide ((dep : Int) < 0) = false := by simp
  have c4 : decide ((1000 : Int) < (dep : Int)) = false := by simp; omega
  have hn1 : 1 ≤ n := by omega
  have hn2 : n ≤ 1100 := by omega
  have hd2 : dep ≤ 1000 := by omega
  clear hout hn9 hd9
  obtain ⟨s1, hs1⟩ : ∃ s, s = txt (List.replicate n 91) := ⟨_, rfl⟩
  obtain ⟨s2, hs2⟩ : ∃ s, s = txt (List.replicate n 91 ++ List.replicate n 93) := ⟨_, rfl⟩
  have z1 : s1.size ≤ 1000000 := by rw [← sl_len, hs1, sl_txt]; simp; omega
  have z2 : s2.size ≤ 1000000 := by rw [← sl_len, hs2, sl_txt]; simp; omega
  by_cases hlt : dep < n
  · have g1 : decide ((dep : Int) < (n : Int)) = true := by simp; omega
    have p1 : parseP (sl s1) (dep : Nat) = .bad 8 dep := by
      have := brk_deep n dep [] hlt hd2
      rw [List.append_nil] at this
      rw [hs1, sl_txt]; exact this
    have p2 : parseP (sl s2) (dep : Nat) = .bad 8 dep := by rw [hs2, sl_txt]; exact brk_deep n dep _ hlt hd2
    have C1 := fun W => Lib.hid (parse_no s1 z1 dep (by omega) 8 dep p1 W)
    have C2 := fun W => Lib.hid (parse_no s2 z2 dep (by omega) 8 dep p2 W)
    have HS1 := Lib.hid hs1
    have HS2 := Lib.hid hs2
    clear p1 p2 hs1 hs2
    go_enter Try.func13, Try.ntmps13
    go_wp2_with fail
    refine (CA _).out.mono ?_
    rintro e w1 ⟨rfl, hb1⟩
    have HB1 := Lib.hid hb1
    clear hb1
    go_wp2_with fail
    go_loopw [5, 6] (fun v i wr => DpRel w1 [] 91 n v i wr) (fun _ i _ => n - (intOf i).toNat)
    case atStart => exact ⟨0, rfl, Nat.zero_le _, World.ownsRow_nil _ _ _ _, LayF.fresh (Below.refl _ _) _⟩
    case round =>
      obtain ⟨k, rfl, hk, ho, hl⟩ := hrel
      have HO := Lib.hid ho
      have HL := Lib.hid hl
      have hz := hl.size
      clear ho hl
      by_cases hkn : k < n
      · go_wp2_with (at_builtin; refine wpList_appL (v := u5) (bs := [] ++ List.replicate k 91) (sv := .slice (some ⟨wr.heap.size, 0, none⟩) 1 1) (l := [91]) (B := w1.heap.size) (by rfl) _ _ (by rfl) (by rfl) (HO.out.alloc _) (by rfl) (srcB_one wr 91 (by omega)) ?o3 ?o4 ?_)
        case o3 => simp; omega
        case o4 => simp; omega
        intro v2 w2 ho hl
        have HL2 := Lib.hid ((LayF.fresh ((Below.refl _ _).alloc (Nat.le_refl _) _) u5).trans hl)
        have HO2 := Lib.hid ho
        clear ho hl
        go_wp2_with fail
        go_roundw
        case rel => exact dp_step HO2.out HL.out HL2.out hkn (by simp)
        case measure => simp [intOf]; omega
      rw [List.nil_append, show k = n from by omega] at HO
      have ho := HO.out
      obtain ⟨a9, m9, c9, rfl, hcv⟩ := own_text ho
      rw [← HS1.out] at hcv
      have dk : decide ((k : Int) < (n : Int)) = false := by simp; omega
      clear ho
      go_wp2_with fail
      go_loopw [5, 8] (fun v i wx => DpRel w1 (List.replicate n 91) 93 n v i wx) (fun _ i _ => n - (intOf i).toNat)
      case atStart => exact ⟨0, rfl, Nat.zero_le _, by rw [List.replicate_zero, List.append_nil]; exact HO.out, HL.out⟩
      case round =>
        clear hcv dk HO HL hz
        obtain ⟨j, rfl, hj, ho, hl⟩ := hrel
        have HO := Lib.hid ho
        have HL := Lib.hid hl
        have hz := hl.size
        clear ho hl
        by_cases hjn : j < n
        · go_wp2_with (at_builtin; refine wpList_appL (v := u5) (bs := List.replicate n 91 ++ List.replicate j 93) (sv := .slice (some ⟨wr.heap.size, 0, none⟩) 1 1) (l := [93]) (B := w1.heap.size) (by rfl) _ _ (by rfl) (by rfl) (HO.out.alloc _) (by rfl) (srcB_one wr 93 (by omega)) ?o3 ?o4 ?_)
          case o3 => simp; omega
          case o4 => simp; omega
          intro v2 w2 ho hl
          have HL2 := Lib.hid ((LayF.fresh ((Below.refl _ _).alloc (Nat.le_refl _) _) u5).trans hl)
          have HO2 := Lib.hid ho
          clear ho hl
          go_wp2_with fail
          go_roundw
          case rel => exact dp_step (by rw [List.append_assoc]; exact HO2.out) HL.out HL2.out hjn (by simp)
          case measure => simp [intOf]; omega
        rw [show j = n from by omega] at HO
        have ho := HO.out
        obtain ⟨a9, m9, c9, rfl, hcv⟩ := own_text ho
        rw [← HS2.out] at hcv
        have dk : decide ((j : Int) < (n : Int)) = false := by simp; omega
        have HB4 : Hid (Below w.heap.size w wr) := Lib.hid (HL.out.below HB1.out HB1.out.size (fun k hk => by simp [Value.ownBlock] at hk))
        clear ho
        go_wp2_with fail
        refine (C2 _).out.mono ?_
        rintro e w5 ⟨rfl, _, hb5⟩
        have HB5 := Lib.hid (HB4.out.trans (hb5.mono HB4.out.size))
        clear hb5
        simp only [jCells]
        go_wp2_with fail
        refine (C1 _).out.mono ?_
        rintro e w6 ⟨rfl, _, hb6⟩
        have e0 : w6.cell? ⟨w5.heap.size + 1, 0, none⟩ = some (.int .i64 8) := cell_below hb6 (by simp [go_sem])
        have e1 : w6.cell? ⟨w5.heap.size + 1, 1, none⟩ = some (.int .i64 (dep : Nat)) := cell_below hb6 (by simp [go_sem])
        have e2 : w6.cell? ⟨w5.heap.size + 1, 2, none⟩ = some (.slice none 0 0) := cell_below hb6 (by simp [go_sem])
        have hz6 : w5.heap.size + 2 ≤ w6.heap.size := by have := hb6.size; simp at this; omega
        have l1 : w5.heap.size + 1 < w6.heap.size := by omega
        have l0 : w5.heap.size < w6.heap.size := by omega
        have HB6 : Hid (Below w.heap.size w w6) := Lib.hid (((HB5.out.alloc HB5.out.size _).alloc (by have := HB5.out.size; simp; omega) _).trans (hb6.mono (by have := HB5.out.size; simp; omega)))
        clear hb6
        simp only [jCells]
        go_wp2_with (go_at_call 28; refine (same_fault _ _ _).mono ?_; rintro e w7 ⟨rfl, hb7⟩)
        go_ret
        exact ⟨rfl, ((HB6.out.alloc HB6.out.size _).alloc (by have := HB6.out.size; simp; omega) _).trans (hb7.mono (by have := HB6.out.size; simp; omega))⟩
  · have g1 : decide ((dep : Int) < (n : Int)) = false := by simp; omega
    have p1 : parseP (sl s1) (dep : Nat) = .bad 2 n := by rw [hs1, sl_txt]; exact brk_open n dep (by omega) hd2
    obtain ⟨jj, pj⟩ := brk_both n dep hn1 (by omega) hd2
    have p2 : parseP (sl s2) (dep : Nat) = .ok jj 0 := by rw [hs2, sl_txt]; exact pj
    have C1 := fun W => Lib.hid (parse_no s1 z1 dep (by omega) 2 n p1 W)
    have C2 := fun W => Lib.hid (parse_yes s2 z2 dep (by omega) jj 0 p2 W)
    have HS1 := Lib.hid hs1
    have HS2 := Lib.hid hs2
    clear p1 p2 hs1 hs2 pj
    go_enter Try.func13, Try.ntmps13
    go_wp2_with fail
    refine (CA _).out.mono ?_
    rintro e w1 ⟨rfl, hb1⟩
    have HB1 := Lib.hid hb1
    clear hb1
    go_wp2_with fail
    go_loopw [5, 6] (fun v i wr => DpRel w1 [] 91 n v i wr) (fun _ i _ => n - (intOf i).toNat)
    case atStart => exact ⟨0, rfl, Nat.zero_le _, World.ownsRow_nil _ _ _ _, LayF.fresh (Below.refl _ _) _⟩
    case round =>
      obtain ⟨k, rfl, hk, ho, hl⟩ := hrel
      have HO := Lib.hid ho
      have HL := Lib.hid hl
      have hz := hl.size
      clear ho hl
      by_cases hkn : k < n
      · go_wp2_with (at_builtin; refine wpList_appL (v := u5) (bs := [] ++ List.replicate k 91) (sv := .slice (some ⟨wr.heap.size, 0, none⟩) 1 1) (l := [91]) (B := w1.heap.size) (by rfl) _ _ (by rfl) (by rfl) (HO.out.alloc _) (by rfl) (srcB_one wr 91 (by omega)) ?o3 ?o4 ?_)
        case o3 => simp; omega
        case o4 => simp; omega
        intro v2 w2 ho hl
        have HL2 := Lib.hid ((LayF.fresh ((Below.refl _ _).alloc (Nat.le_refl _) _) u5).trans hl)
        have HO2 := Lib.hid ho
        clear ho hl
        go_wp2_with fail
        go_roundw
        case rel => exact dp_step HO2.out HL.out HL2.out hkn (by simp)
        case measure => simp [intOf]; omega
      rw [List.nil_append, show k = n from by omega] at HO
      have ho := HO.out
      obtain ⟨a9, m9, c9, rfl, hcv⟩ := own_text ho
      rw [← HS1.out] at hcv
      have dk : decide ((k : Int) < (n : Int)) = false := by simp; omega
      clear ho
      go_wp2_with fail
      go_loopw [5, 8] (fun v i wx => DpRel w1 (List.replicate n 91) 93 n v i wx) (fun _ i _ => n - (intOf i).toNat)
      case atStart => exact ⟨0, rfl, Nat.zero_le _, by rw [List.replicate_zero, List.append_nil]; exact HO.out, HL.out⟩
      case round =>
        clear hcv dk HO HL hz
        obtain ⟨j, rfl, hj, ho, hl⟩ := hrel
        have HO := Lib.hid ho
        have HL := Lib.hid hl
        have hz := hl.size
        clear ho hl
        by_cases hjn : j < n
        · go_wp2_with (at_builtin; refine wpList_appL (v := u5) (bs := List.replicate n 91 ++ List.replicate j 93) (sv := .slice (some ⟨wr.heap.size, 0, none⟩) 1 1) (l := [93]) (B := w1.heap.size) (by rfl) _ _ (by rfl) (by rfl) (HO.out.alloc _) (by rfl) (srcB_one wr 93 (by omega)) ?o3 ?o4 ?_)
          case o3 => simp; omega
          case o4 => simp; omega
          intro v2 w2 ho hl
          have HL2 := Lib.hid ((LayF.fresh ((Below.refl _ _).alloc (Nat.le_refl _) _) u5).trans hl)
          have HO2 := Lib.hid ho
          clear ho hl
          go_wp2_with fail
          go_roundw
          case rel => exact dp_step (by rw [List.append_assoc]; exact HO2.out) HL.out HL2.out hjn (by simp)
          case measure => simp [intOf]; omega
        rw [show j = n from by omega] at HO
        have ho := HO.out
        obtain ⟨a9, m9, c9, rfl, hcv⟩ := own_text ho
        rw [← HS2.out] at hcv
        have dk : decide ((j : Int) < (n : Int)) = false := by simp; omega
        have HB4 : Hid (Below w.heap.size w wr) := Lib.hid (HL.out.below HB1.out HB1.out.size (fun k hk => by simp [Value.ownBlock] at hk))
        clear ho
        go_wp2_with fail
        refine (C2 _).out.mono ?_
        rintro e w5 ⟨⟨k5, x5, a5, n5, c5, rfl, _⟩, hb5⟩
        have HB5 := Lib.hid (HB4.out.trans (hb5.mono HB4.out.size))
        clear hb5
        simp only [jCells]
        go_wp2_with fail
        refine (C1 _).out.mono ?_
        rintro e w6 ⟨rfl, _, hb6⟩
        have e0 : w6.cell? ⟨w5.heap.size + 1, 0, none⟩ = some (.int .i64 0) := cell_below hb6 (by simp [go_sem])
        have hz6 : w5.heap.size + 2 ≤ w6.heap.size := by have := hb6.size; simp at this; omega
        have l1 : w5.heap.size + 1 < w6.heap.size := by omega
        have l0 : w5.heap.size < w6.heap.size := by omega
        have HB6 : Hid (Below w.heap.size w w6) := Lib.hid (((HB5.out.alloc HB5.out.size _).alloc (by have := HB5.out.size; simp; omega) _).trans (hb6.mono (by have := HB5.out.size; simp; omega)))
        clear hb6
        simp only [jCells]
        go_wp2_with fail
        go_ret
        exact ⟨rfl, (HB6.out.alloc HB6.out.size _).alloc (by have := HB6.out.size; simp; omega) _⟩

end Go.Proofs.Ytamhdoijmkjngaa
