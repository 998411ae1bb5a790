/- The reference's Whole and Quote. -/
import Derived.Test.YtamhdoijmkjngaaHex
import Derived.Test.YtamhdoijmkjngaaLexI0
import Derived.Test.YtamhdoijmkjngaaUtf9
namespace Go.Proofs.Ytamhdoijmkjngaa
open Go.RowKit
set_option linter.unusedVariables false
set_option linter.unusedSimpArgs false

set_option maxRecDepth 100000 in
set_option maxHeartbeats 2000000 in
theorem rwhole_calls (s : ByteArray) (hs : s.size ≤ 1048576) (w : World) :
    Calls Try.prog 44 #[.string s] w fun e w' => e = .returned (.bool (wholeTo (sl s) == s.size)) ∧ Below w.heap.size w w' := by
  obtain ⟨cap3, w3, hrun, hb3, hs3, hr3, hz1, hz2⟩ := conv_bytes w s hs
  have C := Lib.hid (rcheck_calls _ _ cap3 w3 _ hr3)
  have HB := Lib.hid hb3
  generalize (wholeTo (sl s) == s.size) = b at C
  generalize wholeTo (sl s) = n at C
  clear hr3 hz1 hz2 hb3
  go_enter Try.func44, Try.ntmps44
  go_wp2_with fail
  refine C.out.mono ?_
  rintro e w4 ⟨rfl, rfl⟩
  go_wp2_with fail
  go_ret
  exact ⟨rfl, HB.out⟩

theorem own_fresh (w : World) (B x : Nat) (hx : x < 256) (hB : B ≤ w.heap.size) : OwnB (w.alloc (.cells #[.int .u8 (x : Nat)] 5)) B (.slice (some ⟨w.heap.size, 0, none⟩) 1 1) [UInt8.ofNat x] := by
  refine ⟨rfl, .inr ⟨w.heap.size, 1, _, rfl, hB, heap_alloc_new w _, Nat.le_refl _, by unfold maxLen; omega, rfl, ?_⟩⟩
  have : x % 256 = x := by omega
  simp [byteCells, this]

theorem own_text {w6 : World} {B : Nat} {v6 : Value} {l : List UInt8} (ho : OwnB w6 B v6 l) :
    ∃ a m c, v6 = .slice a m c ∧ (convert 47 9 (.slice a m c)).run Try.prog w6 = .ok (.string (txt l)) w6 := by
  obtain ⟨a, c, rfl, hr⟩ := ho.reads
  exact ⟨a, _, c, rfl, conv_str hr c⟩

theorem quoteM_take (l : List UInt8) (i : Nat) (h : i < l.length) : quoteM (l.take (i + 1)) = quoteM (l.take i) ++ quoteB (l[i]) := by
  rw [List.take_succ_eq_append_getElem h, quoteM_append]
  simp [quoteM]

theorem quoteB_len (c : UInt8) : (quoteB c).length ≤ 6 := by
  unfold quoteB
  (repeat' split) <;> simp
theorem quoteM_len (l : List UInt8) : (quoteM l).length ≤ 6 * l.length := by
  induction l with
  | nil => simp [quoteM]
  | cons c r ih => rw [quoteM_cons, List.length_append]; have := quoteB_len c; simp only [List.length_cons]; omega

/-- What stands at the head of each round. -/
def QuoRel (w : World) (l : List UInt8) (v i : Value) (wr : World) : Prop := ∃ (u : Value) (k : Nat), u = v ∧ i = .int .i64 k ∧ k ≤ l.length ∧ OwnB wr w.heap.size u (34 :: quoteM (l.take k)) ∧ Below w.heap.size w wr

theorem quo_next {w w6 : World} {v6 : Value} {l x : List UInt8} {k : Nat} {c : UInt8} {i : Value} (hk : k < l.length) (hc : l[k] = c) (hq : quoteB c = x) (ho : OwnB w6 w.heap.size v6 ((34 :: quoteM (l.take k)) ++ x)) (hb : Below w.heap.size w w6) (hi : i = .int .i64 ((k : Int) + 1)) : QuoRel w l v6 i w6 := by
  refine ⟨v6, k + 1, rfl, by rw [hi]; simp, hk, ?_, hb⟩
  rw [quoteM_take l k hk, hc, hq]
  exact ho

set_option maxRecDepth 100000 in
set_option maxHeartbeats 8000000 in
theorem rquote_calls (s : ByteArray) (hs : s.size ≤ 1048576) (w : World) :
    Calls Try.prog 29 #[.string s] w fun e w' => (wholeTo (sl s) = s.size → e = .returned (.tuple #[.string (txt (quoteL (sl s))), .bool true])) ∧ (wholeTo (sl s) ≠ s.size → e = .returned (.tuple #[.string ⟨#[]⟩, .bool false])) ∧ Below w.heap.size w w' := by
  have CW := fun W => Lib.hid (rwhole_calls s (by omega) W)
  by_cases hw : wholeTo (sl s) = s.size
  case neg =>
    rw [show (wholeTo (sl s) == s.size) = false by simpa using hw] at CW
    have HW := Lib.hid hw
    clear hw
    go_enter Try.func29, Try.ntmps29
    go_wp2_with fail
    refine (CW _).out.mono ?_
    rintro e w1 ⟨rfl, hb1⟩
    go_wp2_with fail
    go_ret2
    exact ⟨fun h => absurd h HW.out, fun _ => rfl, hb1⟩
  rw [show (wholeTo (sl s) == s.size) = true by simpa using hw] at CW
  have HW := Lib.hid hw
  clear hw
  go_enter Try.func29, Try.ntmps29
  go_wp2_with fail
  refine (CW _).out.mono ?_
  rintro e w1 ⟨rfl, hb1⟩
  have HB1 := Lib.hid hb1
  have hs1 := hb1.size
  clear hb1
  go_wp2_with fail
  go_loopw [4, 5, 6] (fun v i _ wr => QuoRel w (sl s) v i wr) (fun _ i _ _ => s.size - (intOf i).toNat)
  case atStart =>
    refine ⟨_, 0, rfl, rfl, Nat.zero_le _, ?_, HB1.out.alloc hs1 _⟩
    exact own_fresh w1 w.heap.size 34 (by omega) hs1
  case round =>
    obtain ⟨v, k, rfl, rfl, hk, ho, hbl⟩ := hrel
    rw [sl_len] at hk
    have HO := Lib.hid ho
    have HB := Lib.hid hbl
    have hsz := hbl.size
    have hql := quoteM_len ((sl s).take k)
    rw [List.length_take, sl_len] at hql
    have hql2 : (quoteM ((sl s).take k)).length ≤ 6291456 := by omega
    clear ho hbl hql
    by_cases hlt : k < s.size
    · have hlk : k < (sl s).length := by rw [sl_len]; exact hlt
      obtain ⟨c, hc⟩ : ∃ c, c = s[k]'hlt := ⟨_, rfl⟩
      have hcl : (sl s)[k] = c := by rw [hc]; rfl
      have hcn : (s[k]'hlt).toNat = c.toNat := by rw [hc]
      have HCL := Lib.hid hcl
      have ub := u8_lt (s[k]'hlt)
      by_cases q34 : c.toNat = 34
      · have hcc := (u8_eq c 34 (by omega)).1 q34
        have HQ : Hid (quoteB c = [92, 34]) := by show _ = _; rw [hcc]; rfl
        have i1 : ((s[k]'hlt).toNat : Int) = 34 := by rw [hcn, q34]; rfl
        clear hc hcl hcn hcc q34
        go_wp2_with (at_builtin; refine wpList_appB (v := v) (bs := 34 :: quoteM ((sl s).take k)) (sv := .slice (some ⟨wr.heap.size, 0, none⟩) 2 2) (l := [92, 34]) (B := w.heap.size) (by rfl) _ _ (by rfl) (by rfl) (HO.out.alloc _) (by rfl) (srcB_two wr 92 34) ?o3 ?o4 ?_)
        case o3 => simp; omega
        case o4 => simp; omega
        intro v6 w6 ho6 ha6
        have HO6 := Lib.hid ho6
        have HB6 := Lib.hid (ha6.below (HB.out.alloc hsz _) (by simp; omega) (fun j hj => (owns_lt HO.out j hj).1))
        clear ho6 ha6
        go_wp2_with fail
        go_roundw
        case rel => exact quo_next hlk HCL.out HQ.out HO6.out HB6.out rfl
        case measure => simp [intOf]; omega
      have e34 : (((s[k]'hlt).toNat : Int) == 34) = false := by simp; omega
      have n34 : c ≠ 34 := fun e => q34 (by rw [e]; rfl)
      by_cases q92 : c.toNat = 92
      · have hcc := (u8_eq c 92 (by omega)).1 q92
        have HQ : Hid (quoteB c = [92, 92]) := by show _ = _; rw [hcc]; rfl
        have i1 : ((s[k]'hlt).toNat : Int) = 92 := by rw [hcn, q92]; rfl
        clear hc hcl hcn hcc q92
        go_wp2_with (at_builtin; refine wpList_appB (v := v) (bs := 34 :: quoteM ((sl s).take k)) (sv := .slice (some ⟨wr.heap.size, 0, none⟩) 2 2) (l := [92, 92]) (B := w.heap.size) (by rfl) _ _ (by rfl) (by rfl) (HO.out.alloc _) (by rfl) (srcB_two wr 92 92) ?o3 ?o4 ?_)
        case o3 => simp; omega
        case o4 => simp; omega
        intro v6 w6 ho6 ha6
        have HO6 := Lib.hid ho6
        have HB6 := Lib.hid (ha6.below (HB.out.alloc hsz _) (by simp; omega) (fun j hj => (owns_lt HO.out j hj).1))
        clear ho6 ha6
        go_wp2_with fail
        go_roundw
        case rel => exact quo_next hlk HCL.out HQ.out HO6.out HB6.out rfl
        case measure => simp [intOf]; omega
      have e92 : (((s[k]'hlt).toNat : Int) == 92) = false := by simp; omega
      have n92 : c ≠ 92 := fun e => q92 (by rw [e]; rfl)
      by_cases q8 : c.toNat = 8
      · have hcc := (u8_eq c 8 (by omega)).1 q8
        have HQ : Hid (quoteB c = [92, 98]) := by show _ = _; rw [hcc]; rfl
        have i1 : ((s[k]'hlt).toNat : Int) = 8 := by rw [hcn, q8]; rfl
        clear hc hcl hcn hcc q8
        go_wp2_with (at_builtin; refine wpList_appB (v := v) (bs := 34 :: quoteM ((sl s).take k)) (sv := .slice (some ⟨wr.heap.size, 0, none⟩) 2 2) (l := [92, 98]) (B := w.heap.size) (by rfl) _ _ (by rfl) (by rfl) (HO.out.alloc _) (by rfl) (srcB_two wr 92 98) ?o3 ?o4 ?_)
        case o3 => simp; omega
        case o4 => simp; omega
        intro v6 w6 ho6 ha6
        have HO6 := Lib.hid ho6
        have HB6 := Lib.hid (ha6.below (HB.out.alloc hsz _) (by simp; omega) (fun j hj => (owns_lt HO.out j hj).1))
        clear ho6 ha6
        go_wp2_with fail
        go_roundw
        case rel => exact quo_next hlk HCL.out HQ.out HO6.out HB6.out rfl
        case measure => simp [intOf]; omega
      have e8 : (((s[k]'hlt).toNat : Int) == 8) = false := by simp; omega
      have n8 : c ≠ 8 := fun e => q8 (by rw [e]; rfl)
      by_cases q12 : c.toNat = 12
      · have hcc := (u8_eq c 12 (by omega)).1 q12
        have HQ : Hid (quoteB c = [92, 102]) := by show _ = _; rw [hcc]; rfl
        have i1 : ((s[k]'hlt).toNat : Int) = 12 := by rw [hcn, q12]; rfl
        clear hc hcl hcn hcc q12
        go_wp2_with (at_builtin; refine wpList_appB (v := v) (bs := 34 :: quoteM ((sl s).take k)) (sv := .slice (some ⟨wr.heap.size, 0, none⟩) 2 2) (l := [92, 102]) (B := w.heap.size) (by rfl) _ _ (by rfl) (by rfl) (HO.out.alloc _) (by rfl) (srcB_two wr 92 102) ?o3 ?o4 ?_)
        case o3 => simp; omega
        case o4 => simp; omega
        intro v6 w6 ho6 ha6
        have HO6 := Lib.hid ho6
        have HB6 := Lib.hid (ha6.below (HB.out.alloc hsz _) (by simp; omega) (fun j hj => (owns_lt HO.out j hj).1))
        clear ho6 ha6
        go_wp2_with fail
        go_roundw
        case rel => exact quo_next hlk HCL.out HQ.out HO6.out HB6.out rfl
        case measure => simp [intOf]; omega
      have e12 : (((s[k]'hlt).toNat : Int) == 12) = false := by simp; omega
      have n12 : c ≠ 12 := fun e => q12 (by rw [e]; rfl)
      by_cases q10 : c.toNat = 10
      · have hcc := (u8_eq c 10 (by omega)).1 q10
        have HQ : Hid (quoteB c = [92, 110]) := by show _ = _; rw [hcc]; rfl
        have i1 : ((s[k]'hlt).toNat : Int) = 10 := by rw [hcn, q10]; rfl
        clear hc hcl hcn hcc q10
        go_wp2_with (at_builtin; refine wpList_appB (v := v) (bs := 34 :: quoteM ((sl s).take k)) (sv := .slice (some ⟨wr.heap.size, 0, none⟩) 2 2) (l := [92, 110]) (B := w.heap.size) (by rfl) _ _ (by rfl) (by rfl) (HO.out.alloc _) (by rfl) (srcB_two wr 92 110) ?o3 ?o4 ?_)
        case o3 => simp; omega
        case o4 => simp; omega
        intro v6 w6 ho6 ha6
        have HO6 := Lib.hid ho6
        have HB6 := Lib.hid (ha6.below (HB.out.alloc hsz _) (by simp; omega) (fun j hj => (owns_lt HO.out j hj).1))
        clear ho6 ha6
        go_wp2_with fail
        go_roundw
        case rel => exact quo_next hlk HCL.out HQ.out HO6.out HB6.out rfl
        case measure => simp [intOf]; omega
      have e10 : (((s[k]'hlt).toNat : Int) == 10) = false := by simp; omega
      have n10 : c ≠ 10 := fun e => q10 (by rw [e]; rfl)
      by_cases q13 : c.toNat = 13
      · have hcc := (u8_eq c 13 (by omega)).1 q13
        have HQ : Hid (quoteB c = [92, 114]) := by show _ = _; rw [hcc]; rfl
        have i1 : ((s[k]'hlt).toNat : Int) = 13 := by rw [hcn, q13]; rfl
        clear hc hcl hcn hcc q13
        go_wp2_with (at_builtin; refine wpList_appB (v := v) (bs := 34 :: quoteM ((sl s).take k)) (sv := .slice (some ⟨wr.heap.size, 0, none⟩) 2 2) (l := [92, 114]) (B := w.heap.size) (by rfl) _ _ (by rfl) (by rfl) (HO.out.alloc _) (by rfl) (srcB_two wr 92 114) ?o3 ?o4 ?_)
        case o3 => simp; omega
        case o4 => simp; omega
        intro v6 w6 ho6 ha6
        have HO6 := Lib.hid ho6
        have HB6 := Lib.hid (ha6.below (HB.out.alloc hsz _) (by simp; omega) (fun j hj => (owns_lt HO.out j hj).1))
        clear ho6 ha6
        go_wp2_with fail
        go_roundw
        case rel => exact quo_next hlk HCL.out HQ.out HO6.out HB6.out rfl
        case measure => simp [intOf]; omega
      have e13 : (((s[k]'hlt).toNat : Int) == 13) = false := by simp; omega
      have n13 : c ≠ 13 := fun e => q13 (by rw [e]; rfl)
      by_cases q9 : c.toNat = 9
      · have hcc := (u8_eq c 9 (by omega)).1 q9
        have HQ : Hid (quoteB c = [92, 116]) := by show _ = _; rw [hcc]; rfl
        have i1 : ((s[k]'hlt).toNat : Int) = 9 := by rw [hcn, q9]; rfl
        clear hc hcl hcn hcc q9
        go_wp2_with (at_builtin; refine wpList_appB (v := v) (bs := 34 :: quoteM ((sl s).take k)) (sv := .slice (some ⟨wr.heap.size, 0, none⟩) 2 2) (l := [92, 116]) (B := w.heap.size) (by rfl) _ _ (by rfl) (by rfl) (HO.out.alloc _) (by rfl) (srcB_two wr 92 116) ?o3 ?o4 ?_)
        case o3 => simp; omega
        case o4 => simp; omega
        intro v6 w6 ho6 ha6
        have HO6 := Lib.hid ho6
        have HB6 := Lib.hid (ha6.below (HB.out.alloc hsz _) (by simp; omega) (fun j hj => (owns_lt HO.out j hj).1))
        clear ho6 ha6
        go_wp2_with fail
        go_roundw
        case rel => exact quo_next hlk HCL.out HQ.out HO6.out HB6.out rfl
        case measure => simp [intOf]; omega
      have e9 : (((s[k]'hlt).toNat : Int) == 9) = false := by simp; omega
      have n9 : c ≠ 9 := fun e => q9 (by rw [e]; rfl)
      by_cases q32 : c.toNat < 32
      · have HQ : Hid (quoteB c = [92, 117, 48, 48] ++ hexL [c]) := by
          show _ = _
          unfold quoteB
          rw [if_neg (by intro h; rcases h with h | h; exact n34 h; exact n92 h), if_neg n8, if_neg n12, if_neg n10, if_neg n13, if_neg n9, if_pos (by rw [UInt8.lt_iff_toNat_lt]; exact q32)]
          rfl
        have i1 : decide (((s[k]'hlt).toNat : Int) < 32) = true := by simp; omega
        have HCN := Lib.hid hcn
        clear hc hcl hcn n34 n92 n8 n12 n10 n13 n9 q34 q92 q8 q12 q10 q13 q9 q32
        go_wp2_with (at_builtin; refine wpList_appS (v := v) (bs := 34 :: quoteM ((sl s).take k)) (t := ⟨#[92, 117, 48, 48]⟩) (B := w.heap.size) (by rfl) _ _ (by rfl) (by rfl) HO.out (by rfl) ?o3 ?o4 ?_)
        case o3 => show _ + 4 ≤ _; simp; omega
        case o4 => exact hsz
        intro v5 w5 ho5 hg5
        have hB5 : Below w.heap.size w w5 := HB.out.grown hg5 hsz fun j hj => (owns_lt HO.out j hj).1
        have HB5 := Lib.hid hB5
        have HO5 := Lib.hid ho5
        have hs5 := hB5.size
        have hr5 : RdB (w5.alloc (.cells #[.int .u8 ((s[k]'hlt).toNat : Nat)] 5)) (some ⟨w5.heap.size, 0, none⟩) 1 [c] := by
          refine ⟨rfl, by omega, fun i hi => ⟨w5.heap.size, 0, rfl, ?_⟩⟩
          obtain rfl : i = 0 := by omega
          rw [HCN.out]
          simp [bAt]
        have CH := Lib.hid (hex_calls _ 1 1 [c] _ hr5 (by omega))
        clear ho5 hg5 hB5 hr5
        go_wp2_with fail
        refine CH.out.mono ?_
        rintro e w7 ⟨rfl, hb7⟩
        have hB7 := (HB5.out.alloc hs5 _).trans (hb7.mono (by simp; omega))
        have HB7 := Lib.hid hB7
        have HO7 : Hid (OwnB w7 w.heap.size v5 ((34 :: quoteM ((sl s).take k)) ++ sl ⟨#[92, 117, 48, 48]⟩)) := OwnB.keep (show OwnB (w5.alloc (.cells #[.int .u8 ((s[k]'hlt).toNat : Nat)] 5)) w.heap.size v5 ((34 :: quoteM ((sl s).take k)) ++ sl ⟨#[92, 117, 48, 48]⟩) from HO5.out.alloc _) hb7
        have hs7 := hB7.size
        clear hb7 hB7
        go_wp2_with (at_builtin; refine wpList_appS (v := v5) (bs := (34 :: quoteM ((sl s).take k)) ++ sl ⟨#[92, 117, 48, 48]⟩) (t := txt (hexL [c])) (B := w.heap.size) (by rfl) _ _ (by rfl) (by rfl) HO7.out (by rfl) ?o3 ?o4 ?_)
        case o3 => rw [txt_size, hexL_len, List.length_append, show (sl ⟨#[92, 117, 48, 48]⟩).length = 4 from rfl]; simp; omega
        case o4 => exact hs7
        intro v6 w6 ho6 hg6
        have HB6 : Hid (Below w.heap.size w w6) := HB7.out.grown hg6 hs7 fun j hj => (owns_lt HO7.out j hj).1
        have HO6 : Hid (OwnB w6 w.heap.size v6 ((34 :: quoteM ((sl s).take k)) ++ ([92, 117, 48, 48] ++ hexL [c]))) := by
          have e : (34 :: quoteM ((sl s).take k)) ++ ([92, 117, 48, 48] ++ hexL [c]) = 34 :: (quoteM ((sl s).take k) ++ (sl ⟨#[92, 117, 48, 48]⟩ ++ sl (txt (hexL [c])))) := by
            rw [sl_txt]; rfl
          show OwnB _ _ _ _
          rw [e]
          exact ho6
        clear ho6 hg6
        go_wp2_with fail
        go_roundw
        case rel => exact quo_next hlk HCL.out HQ.out HO6.out HB6.out rfl
        case measure => simp [intOf]; omega
      have e32 : decide (((s[k]'hlt).toNat : Int) < 32) = false := by simp; omega
      have HQ : Hid (quoteB c = [c]) := by
        show _ = _
        unfold quoteB
        rw [if_neg (by intro h; rcases h with h | h; exact n34 h; exact n92 h), if_neg n8, if_neg n12, if_neg n10, if_neg n13, if_neg n9, if_neg (by rw [UInt8.lt_iff_toNat_lt]; exact q32)]
      have HS1 : Hid (SrcB (wr.alloc (.cells #[.int .u8 ((s[k]'hlt).toNat : Nat)] 5)) (.slice (some ⟨wr.heap.size, 0, none⟩) 1 1) [c]) := by
        have := srcB_one wr (s[k]'hlt).toNat (UInt8.toNat_lt _)
        rw [show UInt8.ofNat (s[k]'hlt).toNat = c by rw [hcn]; simp] at this
        exact this
      clear hc hcl hcn n34 n92 n8 n12 n10 n13 n9 q34 q92 q8 q12 q10 q13 q9 q32
      go_wp2_with (at_builtin; refine wpList_appB (v := v) (bs := 34 :: quoteM ((sl s).take k)) (sv := .slice (some ⟨wr.heap.size, 0, none⟩) 1 1) (l := [c]) (B := w.heap.size) (by rfl) _ _ (by rfl) (by rfl) (HO.out.alloc _) (by rfl) (HS1.out) ?o3 ?o4 ?_)
      case o3 => simp; omega
      case o4 => simp; omega
      intro v6 w6 ho6 ha6
      have HO6 := Lib.hid ho6
      have HB6 := Lib.hid (ha6.below (HB.out.alloc hsz _) (by simp; omega) (fun j hj => (owns_lt HO.out j hj).1))
      clear ho6 ha6
      go_wp2_with fail
      go_roundw
      case rel => exact quo_next hlk HCL.out HQ.out HO6.out HB6.out rfl
      case measure => simp [intOf]; omega
    · obtain rfl : k = s.size := by omega
      have e : (sl s).take s.size = sl s := List.take_of_length_le (by rw [sl_len]; exact Nat.le_refl _)
      rw [e] at HO
      have hs1' := srcB_one wr 34 (by omega)
      have HS1 := Lib.hid hs1'
      rw [e] at hql2
      clear e hs1'
      go_wp2_with (at_builtin; refine wpList_appB (v := v) (bs := 34 :: quoteM (sl s)) (sv := .slice (some ⟨wr.heap.size, 0, none⟩) 1 1) (l := [34]) (B := w.heap.size) (by rfl) _ _ (by rfl) (by rfl) (HO.out.alloc _) (by rfl) HS1.out ?o3 ?o4 ?_)
      case o3 => simp; omega
      case o4 => simp; omega
      intro v6 w6 ho6 ha6
      have HB6 := Lib.hid (ha6.below (HB.out.alloc hsz _) (by simp; omega) (fun j hj => (owns_lt HO.out j hj).1))
      obtain ⟨a9, m9, c9, rfl, hcv⟩ := own_text (l := quoteL (sl s)) ho6
      clear ho6 ha6
      go_wp2_with fail
      go_ret2
      exact ⟨fun _ => rfl, fun h => absurd HW.out h, HB6.out⟩

end Go.Proofs.Ytamhdoijmkjngaa
