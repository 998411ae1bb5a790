/- The reference's Unbase, walked. -/
import Derived.Test.YtolmeimipchndaaBaseV
import Derived.Test.YtolmeimipchndaaBaseE
import Derived.BigQuiet
namespace Go.Proofs.Ytolmeimipchndaa
open Go.RowKit
set_option linter.unusedVariables false
set_option linter.unusedSimpArgs false

theorem un0_lt (c : UInt8) : un0 c < 64 := by
  unfold un0
  rcases un_cases c with h | ⟨i, hi, h, _⟩
  · omega
  · omega
theorem raw_append : ∀ (k : Nat) (l r : List UInt8), l.length = 4 * k → rawU (l ++ r) = rawU l ++ rawU r
  | 0, l, r, h => by
    have : l = [] := List.eq_nil_of_length_eq_zero (by omega)
    subst this; rfl
  | k + 1, a :: b :: c :: d :: l, r, h => by
    have := raw_append k l r (by simp only [List.length_cons] at h; omega)
    simp [rawU, this]
  | k + 1, [], r, h => by simp at h
  | k + 1, [_], r, h => by simp at h; omega
  | k + 1, [_, _], r, h => by simp at h; omega
  | k + 1, [_, _, _], r, h => by simp at h; omega
theorem raw_step (l : List UInt8) (p : Nat) (hp : p % 4 = 0) (h : p + 4 ≤ l.length) : rawU (l.take (p + 4)) = rawU (l.take p) ++ [UInt8.ofNat (v4 (l.getD p 0) (l.getD (p + 1) 0) (l.getD (p + 2) 0) (l.getD (p + 3) 0) / 65536), UInt8.ofNat (v4 (l.getD p 0) (l.getD (p + 1) 0) (l.getD (p + 2) 0) (l.getD (p + 3) 0) / 256 % 256), UInt8.ofNat (v4 (l.getD p 0) (l.getD (p + 1) 0) (l.getD (p + 2) 0) (l.getD (p + 3) 0) % 256)] := by
  rw [List.take_add, raw_append (p / 4) _ _ (by rw [List.length_take]; omega)]
  congr 1
  have hb : ∀ j, l.getD (p + j) 0 = (l.drop p).getD j 0 := by
    intro j
    simp [List.getD_eq_getElem?_getD, List.getElem?_drop]
  have h0 := hb 0
  rw [Nat.add_zero] at h0
  rw [h0, hb 1, hb 2, hb 3]
  have hl : 4 ≤ (l.drop p).length := by rw [List.length_drop]; omega
  generalize l.drop p = r at hl ⊢
  match r, hl with
  | a :: b :: c :: d :: s, _ => simp [rawU]
  | [], h => simp at h
  | [_], h => simp at h
  | [_, _], h => simp at h
  | [_, _, _], h => simp at h

theorem srcB_three (w : World) (a b c : Nat) (ha : a < 256) (hb : b < 256) (hc : c < 256) : SrcB (w.alloc (.cells #[.int .u8 (a : Nat), .int .u8 (b : Nat), .int .u8 (c : Nat)] 5)) (.slice (some ⟨w.heap.size, 0, none⟩) 3 3) [UInt8.ofNat a, UInt8.ofNat b, UInt8.ofNat c] := by
  refine ⟨_, _, _, rfl, ⟨rfl, by omega, fun i hi => ⟨w.heap.size, 0, rfl, ?_⟩⟩, by simp⟩
  have e : ∀ n, n < 256 → (UInt8.ofNat n).toNat = n := fun n h => by simp; omega
  rcases (by omega : i = 0 ∨ i = 1 ∨ i = 2) with rfl | rfl | rfl
  · simp [go_sem, bAt]; omega
  · simp [go_sem, bAt]; omega
  · simp [go_sem, bAt]; omega

/-- A row of the call's own, its last byte left out. -/
theorem OwnB.pre {w : World} {B : Nat} {a : Option Addr} {n c : Nat} {bs : List UInt8} (h : OwnB w B (.slice a n c) bs) (k : Nat) (hk : k ≤ n) : OwnB w B (.slice a k c) (bs.take k) := by
  obtain ⟨a', c', e, hr⟩ := h.reads
  simp only [Value.slice.injEq] at e
  obtain ⟨rfl, hn, rfl⟩ := e
  have hbl : bs.length = n := hn.symm
  unfold OwnB at h ⊢
  have hlen : (bs.take k).length = k := by rw [List.length_take]; omega
  have hbc : byteCells (bs.take k) = (byteCells bs).take k := by unfold byteCells; rw [List.map_take]
  rw [hlen, hbc]
  refine ⟨by rw [List.length_take]; have := h.1; simp only [Nat.mul_one] at this ⊢; omega, ?_⟩
  rcases h.2 with ⟨e, h0⟩ | ⟨g, cap, cur, e, hbg, hg, hnc, hcm, hcs, htake⟩
  · simp only [Value.slice.injEq] at e
    obtain ⟨rfl, e2, rfl⟩ := e
    exact .inl ⟨by rw [show k = 0 by omega], by omega⟩
  · simp only [Value.slice.injEq] at e
    obtain ⟨rfl, e2, rfl⟩ := e
    refine .inr ⟨g, c, cur, rfl, hbg, hg, by omega, hcm, hcs, ?_⟩
    rw [← htake, List.take_take, Nat.mul_one, Nat.mul_one, Nat.min_eq_left (by omega)]

/-- A reading's two results. -/
def ReadsTo (w : World) (ok : Bool) (t : List UInt8) (e : Ending) (w' : World) : Prop := ∃ v, e = .returned (.tuple #[v, .bool ok]) ∧ OwnB w' w.heap.size v t ∧ Below w.heap.size w w'

def UwRel (w : World) (l : List UInt8) (o i : Value) (wr : World) : Prop :=
  ∃ (u : Value) (p : Nat), u = o ∧ i = .int .i64 p ∧ p % 4 = 0 ∧ p ≤ l.length ∧ OwnB wr w.heap.size u (rawU (l.take p)) ∧ Below w.heap.size w wr
def UxRel (w : World) (l : List UInt8) (o k : Value) (wr : World) : Prop :=
  ∃ (u : Value) (j : Nat), u = o ∧ k = .int .i64 (j + 1 : Nat) ∧ j ≤ 2 ∧ (∀ i, i < j → 1 < l.length ∧ l.getD (l.length - (i + 1)) 0 = 61) ∧ OwnB wr w.heap.size u ((rawU l).take ((rawU l).length - j)) ∧ Below w.heap.size w wr

theorem unb_stop (l : List UInt8) (j : Nat) (hj : j ≤ 2) (h4 : l.length % 4 = 0) (h : ∀ i, i < j → 1 < l.length ∧ l.getD (l.length - (i + 1)) 0 = 61) (hs : j = 2 ∨ l.length ≤ j + 1 ∨ l.getD (l.length - (j + 1)) 0 ≠ 61) : (rawU l).take ((rawU l).length - j) = unbU l := by
  have hd : dropU l = j := by
    unfold dropU
    rcases (by omega : j = 0 ∨ j = 1 ∨ j = 2) with rfl | rfl | rfl
    · rcases hs with h1 | h1 | h1
      · omega
      · rw [if_neg (fun e => by omega)]
      · rw [if_neg (fun e => h1 e.2)]
    · have h0 := h 0 (by omega)
      rw [if_pos ⟨h0.1, h0.2⟩]
      rcases hs with h1 | h1 | h1
      · omega
      · omega
      · rw [if_neg (fun e => h1 e.2)]
    · have h0 := h 0 (by omega)
      have h1 := h 1 (by omega)
      rw [if_pos ⟨h0.1, h0.2⟩, if_pos ⟨by omega, h1.2⟩]
  unfold unbU
  rw [hd]

set_option maxRecDepth 100000 in
set_option maxHeartbeats 8000000 in
theorem unbase_calls (s : ByteArray) (hs : s.size ≤ 100000) (w : World) :
    Calls Try.prog 25 #[.string s] w fun e w' => ReadsTo w (decide (b64 (unbU (sl s)) = sl s)) (if b64 (unbU (sl s)) = sl s then unbU (sl s) else []) e w' := by
  obtain ⟨ok, hok⟩ : ∃ ok, ok = decide (b64 (unbU (sl s)) = sl s) := ⟨_, rfl⟩
  obtain ⟨t, ht⟩ : ∃ t, t = if b64 (unbU (sl s)) = sl s then unbU (sl s) else [] := ⟨_, rfl⟩
  rw [← hok, ← ht]
  have HOK := Lib.hid hok
  have HT := Lib.hid ht
  clear hok ht
  by_cases h4 : s.size % 4 = 0
  case neg =>
    have hno : b64 (unbU (sl s)) ≠ sl s := by
      intro e
      have := congrArg List.length e
      rw [b64_len, sl_len] at this
      omega
    have hok : ok = false := by rw [HOK.out]; simpa using hno
    have ht : t = [] := by rw [HT.out, if_neg hno]
    subst hok
    subst ht
    have e1 : ((s.size : Int).tmod 4 != 0) = true := by
      rw [show (s.size : Int).tmod 4 = ((s.size % 4 : Nat) : Int) from by rw [Int.tmod_eq_emod_of_nonneg (by omega)]; rfl]
      simp; omega
    have e2 : ((s.size : Int) % 4 != 0) = true := by simp; omega
    go_enter Try.func25, Try.ntmps25
    go_wp2_with fail
    go_ret2
    exact ⟨_, rfl, World.ownsRow_nil _ _ _ _, Below.refl _ _⟩
  have HLN := Lib.hid (show (sl s).length = s.size from sl_len s)
  have e1 : ((s.size : Int).tmod 4 != 0) = false := by
    rw [show (s.size : Int).tmod 4 = ((s.size % 4 : Nat) : Int) from by rw [Int.tmod_eq_emod_of_nonneg (by omega)]; rfl]
    simp; omega
  have e2 : ((s.size : Int) % 4 != 0) = false := by simp; omega
  go_enter Try.func25, Try.ntmps25
  go_wp2_with fail
  go_loopw [4, 5, 6] (fun o i _ wr => UwRel w (sl s) o i wr) (fun _ i _ _ => s.size - (intOf i).toNat)
  case atStart => exact ⟨_, 0, rfl, rfl, rfl, Nat.zero_le _, World.ownsRow_nil _ _ _ _, Below.refl _ _⟩
  case round =>
    obtain ⟨u, p, rfl, rfl, hp4, hpl, ho, hb⟩ := hrel
    rw [HLN.out] at hpl
    have HO := Lib.hid ho
    have HB := Lib.hid hb
    have hsz := hb.size
    clear ho hb
    by_cases hlt : p < s.size
    · have h1 : p + 1 < s.size := by omega
      have h2 : p + 2 < s.size := by omega
      have h3 : p + 3 < s.size := by omega
      have C0 := fun W => Lib.hid (rsign_calls (s[p]'hlt) W)
      have C1 := fun W => Lib.hid (rsign_calls (s[p + 1]'h1) W)
      have C2 := fun W => Lib.hid (rsign_calls (s[p + 2]'h2) W)
      have C3 := fun W => Lib.hid (rsign_calls (s[p + 3]'h3) W)
      have l0 := un0_lt (s[p]'hlt)
      have l1 := un0_lt (s[p + 1]'h1)
      have l2 := un0_lt (s[p + 2]'h2)
      have l3 := un0_lt (s[p + 3]'h3)
      have hstep := raw_step (sl s) p hp4 (by rw [HLN.out]; omega)
      rw [sl_at hlt, sl_at h1, sl_at h2, sl_at h3] at hstep
      have hV0 : v4 (s[p]'hlt) (s[p + 1]'h1) (s[p + 2]'h2) (s[p + 3]'h3) = ((un0 (s[p]'hlt) * 64 + un0 (s[p + 1]'h1)) * 64 + un0 (s[p + 2]'h2)) * 64 + un0 (s[p + 3]'h3) := rfl
      generalize v4 (s[p]'hlt) (s[p + 1]'h1) (s[p + 2]'h2) (s[p + 3]'h3) = V at hstep hV0
      generalize un0 (s[p]'hlt) = A at C0 l0 hV0
      generalize un0 (s[p + 1]'h1) = B at C1 l1 hV0
      generalize un0 (s[p + 2]'h2) = C at C2 l2 hV0
      generalize un0 (s[p + 3]'h3) = D at C3 l3 hV0
      have hVb : V < 16777216 := by omega
      have q1 : IntKind.i64.wrap ((A : Int) * 64) = (A : Int) * 64 := IntWalk.i64_in _ (by omega)
      have q2 : IntKind.i64.wrap ((A : Int) * 64 + (B : Int)) = (A : Int) * 64 + (B : Int) := IntWalk.i64_in _ (by omega)
      have q3 : IntKind.i64.wrap (((A : Int) * 64 + (B : Int)) * 64) = ((A : Int) * 64 + (B : Int)) * 64 := IntWalk.i64_in _ (by omega)
      have q4 : IntKind.i64.wrap (((A : Int) * 64 + (B : Int)) * 64 + (C : Int)) = ((A : Int) * 64 + (B : Int)) * 64 + (C : Int) := IntWalk.i64_in _ (by omega)
      have q5 : IntKind.i64.wrap ((((A : Int) * 64 + (B : Int)) * 64 + (C : Int)) * 64) = (((A : Int) * 64 + (B : Int)) * 64 + (C : Int)) * 64 := IntWalk.i64_in _ (by omega)
      have q6 : IntKind.i64.wrap ((((A : Int) * 64 + (B : Int)) * 64 + (C : Int)) * 64 + (D : Int)) = (V : Int) := by
        rw [show (((A : Int) * 64 + (B : Int)) * 64 + (C : Int)) * 64 + (D : Int) = (V : Int) from by rw [hV0]; simp]
        exact IntWalk.i64_in _ (by omega)
      have j1 : (p : Int) + 1 < (s.size : Int) := by omega
      have j2 : (p : Int) + 2 < (s.size : Int) := by omega
      have j3 : (p : Int) + 3 < (s.size : Int) := by omega
      have g1 : ((p : Int) + 1).toNat = p + 1 := by omega
      have g2 : ((p : Int) + 2).toNat = p + 2 := by omega
      have g3 : ((p : Int) + 3).toNat = p + 3 := by omega
      have g4 : (0 : Int) ≤ (p : Int) + 1 := by omega
      have g5 : (0 : Int) ≤ (p : Int) + 2 := by omega
      have g6 : (0 : Int) ≤ (p : Int) + 3 := by omega
      have q7 : IntKind.i64.wrap ((p : Int) + 1) = (p : Int) + 1 := IntWalk.i64_in _ (by omega)
      have q8 : IntKind.i64.wrap ((p : Int) + 2) = (p : Int) + 2 := IntWalk.i64_in _ (by omega)
      have q9 : IntKind.i64.wrap ((p : Int) + 3) = (p : Int) + 3 := IntWalk.i64_in _ (by omega)
      obtain ⟨y1, hy1⟩ : ∃ y, y = V / 65536 := ⟨_, rfl⟩
      obtain ⟨y2, hy2⟩ : ∃ y, y = V / 256 % 256 := ⟨_, rfl⟩
      obtain ⟨y3, hy3⟩ : ∃ y, y = V % 256 := ⟨_, rfl⟩
      rw [← hy1, ← hy2, ← hy3] at hstep
      have HST := Lib.hid hstep
      obtain ⟨e3, he3⟩ : ∃ i, i = V / 256 := ⟨_, rfl⟩
      have td : ∀ (n k : Nat), ((n : Int)).tdiv (k : Int) = ((n / k : Nat) : Int) := fun n k => by rw [Int.tdiv_eq_ediv_of_nonneg (by omega)]; rfl
      have tm : ∀ (n k : Nat), ((n : Int)).tmod (k : Int) = ((n % k : Nat) : Int) := fun n k => by rw [Int.tmod_eq_emod_of_nonneg (by omega)]; rfl
      have r1 : (V : Int).tdiv 65536 = (y1 : Int) := by rw [hy1]; exact td V 65536
      have r2 : (V : Int).tdiv 256 = (e3 : Int) := by rw [he3]; exact td V 256
      have r3 : (e3 : Int).tmod 256 = (y2 : Int) := by rw [hy2, ← he3]; exact tm e3 256
      have r4 : (V : Int).tmod 256 = (y3 : Int) := by rw [hy3]; exact tm V 256
      have z1 : y1 < 256 := by omega
      have z2 : y2 < 256 := by omega
      have z3 : y3 < 256 := by omega
      have x1 : IntKind.i64.wrap (y1 : Int) = (y1 : Int) := IntWalk.i64_in _ (by omega)
      have x2 : IntKind.i64.wrap (y2 : Int) = (y2 : Int) := IntWalk.i64_in _ (by omega)
      have x3 : IntKind.i64.wrap (y3 : Int) = (y3 : Int) := IntWalk.i64_in _ (by omega)
      have x4 : IntKind.i64.wrap (e3 : Int) = (e3 : Int) := IntWalk.i64_in _ (by omega)
      have v1 : IntKind.u8.wrap (y1 : Int) = (y1 : Int) := IntWalk.u8_in _ (by omega)
      have v2 : IntKind.u8.wrap (y2 : Int) = (y2 : Int) := IntWalk.u8_in _ (by omega)
      have v3 : IntKind.u8.wrap (y3 : Int) = (y3 : Int) := IntWalk.u8_in _ (by omega)
      clear hstep hV0 hy1 hy2 hy3 he3 td tm
      go_wp2_with fail
      go_quiet ((go_at_call 55; first | (with_reducible refine Calls.quiet_of_same ((C0 _).out.mono fun e w' h => ⟨h.1, h.2.symm⟩)) | (with_reducible refine Calls.quiet_of_same ((C1 _).out.mono fun e w' h => ⟨h.1, h.2.symm⟩)) | (with_reducible refine Calls.quiet_of_same ((C2 _).out.mono fun e w' h => ⟨h.1, h.2.symm⟩)) | (with_reducible refine Calls.quiet_of_same ((C3 _).out.mono fun e w' h => ⟨h.1, h.2.symm⟩))))
      go_wp2_with (at_builtin; refine wpList_appB (v := u) (bs := rawU ((sl s).take p)) (sv := .slice (some ⟨wr.heap.size, 0, none⟩) 3 3) (l := [UInt8.ofNat y1, UInt8.ofNat y2, UInt8.ofNat y3]) (B := w.heap.size) (by rfl) _ _ (by rfl) (by rfl) ((HO.out.keep (below_drewN wr nq _)).alloc _) (by rfl) (srcB_three _ y1 y2 y3 (by omega) (by omega) (by omega)) ?o3 ?o4 ?_)
      case o3 => rw [raw_len (p / 4) _ (by rw [List.length_take, HLN.out]; omega)]; simp; omega
      case o4 => simp; omega
      intro v6 w6 ho6 ha6
      rw [← HST.out] at ho6
      have HO6 := Lib.hid ho6
      have hB0 := HB.out.trans ((below_drewN wr nq wr.heap.size).mono hsz)
      have HB6 := Lib.hid (ha6.below (hB0.alloc hB0.size _) (by have := (below_drewN wr nq wr.heap.size).size; simp; omega) (fun j hj => (owns_lt HO.out j hj).1))
      clear ho6 ha6 hB0
      go_wp2_with fail
      go_roundw
      case rel => exact ⟨_, p + 4, rfl, by simp, by omega, by rw [HLN.out]; omega, HO6.out, HB6.out⟩
      case measure => simp [intOf]; omega
    have hO0 : OwnB wr w.heap.size u (rawU (sl s)) := by have := HO.out; rwa [List.take_of_length_le (by rw [HLN.out]; omega)] at this
    have HO0 := Lib.hid hO0
    have hrl : (rawU (sl s)).length = 3 * (s.size / 4) := raw_len _ _ (by rw [HLN.out]; omega)
    have HRL := Lib.hid hrl
    clear hO0 hrl HO
    obtain ⟨wo, rfl⟩ : ∃ wo : World, wo = wr := ⟨_, rfl⟩
    go_wp2_with fail
    go_loopw [4, 7] (fun o k wr => UxRel w (sl s) o k wr) (fun _ k _ => 4 - (intOf k).toNat)
    case atStart => exact ⟨_, 0, rfl, rfl, by omega, fun i hi => by omega, by rw [Nat.sub_zero, List.take_length]; exact HO0.out, HB.out⟩
    case round =>
      obtain ⟨u2, j, rfl, rfl, hj, hall, ho, hb⟩ := hrel
      rw [HLN.out] at hall
      have HALL := Lib.hid hall
      have HO2 := Lib.hid ho
      have HB2 := Lib.hid hb
      have hsz2 := hb.size
      clear ho hb hall
      have hend : ∀ (hs : j = 2 ∨ s.size ≤ j + 1 ∨ (sl s).getD (s.size - (j + 1)) 0 ≠ 61), (rawU (sl s)).take ((rawU (sl s)).length - j) = unbU (sl s) := by
        intro hs
        refine unb_stop (sl s) j hj (by rw [HLN.out]; exact h4) (fun i hi => by rw [HLN.out]; exact HALL.out i hi) (by rw [HLN.out]; exact hs)
      have HEND := Lib.hid hend
      clear hend
      obtain ⟨a2, c2, rfl, hr2⟩ := HO2.out.reads
      have hN := HO2.out.1
      obtain ⟨N, hNe⟩ : ∃ N, N = ((rawU (sl s)).take ((rawU (sl s)).length - j)).length := ⟨_, rfl⟩
      have HO3 : Hid (OwnB wr w.heap.size (.slice a2 N c2) ((rawU (sl s)).take ((rawU (sl s)).length - j))) := by rw [hNe]; exact HO2.out
      have hNv : N = 3 * (s.size / 4) - j := by rw [hNe, List.length_take, HRL.out]; omega
      have HR3 : Hid (RdB wr a2 N ((rawU (sl s)).take ((rawU (sl s)).length - j))) := by rw [hNe]; exact hr2
      rw [← hNe]
      have HNV := Lib.hid hNv
      have hNb : N ≤ 100000 := by omega
      clear hN hr2 hNe hNv
      have STOP : ∀ (hs : j = 2 ∨ s.size ≤ j + 1 ∨ (sl s).getD (s.size - (j + 1)) 0 ≠ 61), Hid (OwnB wr w.heap.size (.slice a2 N c2) (unbU (sl s)) ∧ RdB wr a2 N (unbU (sl s))) := by
        intro hs
        have e := HEND.out hs
        have h1 := HO3.out
        have h2 := HR3.out
        rw [e] at h1 h2
        exact Lib.hid ⟨h1, h2⟩
      by_cases hj2 : j = 2
      · have HS := STOP (.inl hj2)
        subst hj2
        have CBs := Lib.hid (rbase_calls a2 N c2 (unbU (sl s)) wr HS.out.2 hNb)
        obtain ⟨X, hX⟩ : ∃ X, X = txt (b64 (unbU (sl s))) := ⟨_, rfl⟩
        rw [← hX] at CBs
        have HXE : Hid ((X.toList == s.toList) = ok) := by
          show _ = _
          rw [HOK.out, hX, Bool.eq_iff_iff]
          simp only [beq_iff_eq, ByteArray.toList_eq, decide_eq_true_eq]
          exact Iff.rfl
        have xe := HXE.out
        have xn : (X.toList != s.toList) = !ok := by rw [bne, xe]
        have HT2 : Hid (ok = true → t = unbU (sl s)) := by
          show _ → _
          intro e
          rw [HT.out, if_pos (by have := HOK.out; rw [e] at this; simpa using this.symm)]
        have HT3 : Hid (ok = false → t = []) := by
          show _ → _
          intro e
          rw [HT.out, if_neg (by have := HOK.out; rw [e] at this; simpa using this.symm)]
        clear hX
        go_wp2_with fail
        refine CBs.out.mono ?_
        rintro e w3 ⟨rfl, hb3⟩
        have HB3 := Lib.hid (HB2.out.trans (hb3.mono hsz2))
        have HO4 := Lib.hid (HS.out.1.keep hb3)
        clear hb3
        cases ok with
        | true =>
          go_wp2_with fail
          go_ret2
          exact ⟨_, rfl, by rw [HT2.out (by simp)]; exact HO4.out, HB3.out⟩
        | false =>
          go_wp2_with fail
          go_ret2
          exact ⟨_, rfl, by rw [HT3.out (by simp)]; exact World.ownsRow_nil _ _ _ _, HB3.out⟩
      have k1 : (j : Int) + 1 ≤ 2 := by omega
      by_cases hsz4 : s.size ≤ j + 1
      · have HS := STOP (.inr (.inl hsz4))
        have k2 : ¬ ((j : Int) + 1 < (s.size : Int)) := by omega
        have CBs := Lib.hid (rbase_calls a2 N c2 (unbU (sl s)) wr HS.out.2 hNb)
        obtain ⟨X, hX⟩ : ∃ X, X = txt (b64 (unbU (sl s))) := ⟨_, rfl⟩
        rw [← hX] at CBs
        have HXE : Hid ((X.toList == s.toList) = ok) := by
          show _ = _
          rw [HOK.out, hX, Bool.eq_iff_iff]
          simp only [beq_iff_eq, ByteArray.toList_eq, decide_eq_true_eq]
          exact Iff.rfl
        have xe := HXE.out
        have xn : (X.toList != s.toList) = !ok := by rw [bne, xe]
        have HT2 : Hid (ok = true → t = unbU (sl s)) := by
          show _ → _
          intro e
          rw [HT.out, if_pos (by have := HOK.out; rw [e] at this; simpa using this.symm)]
        have HT3 : Hid (ok = false → t = []) := by
          show _ → _
          intro e
          rw [HT.out, if_neg (by have := HOK.out; rw [e] at this; simpa using this.symm)]
        clear hX
        go_wp2_with fail
        refine CBs.out.mono ?_
        rintro e w3 ⟨rfl, hb3⟩
        have HB3 := Lib.hid (HB2.out.trans (hb3.mono hsz2))
        have HO4 := Lib.hid (HS.out.1.keep hb3)
        clear hb3
        cases ok with
        | true =>
          go_wp2_with fail
          go_ret2
          exact ⟨_, rfl, by rw [HT2.out (by simp)]; exact HO4.out, HB3.out⟩
        | false =>
          go_wp2_with fail
          go_ret2
          exact ⟨_, rfl, by rw [HT3.out (by simp)]; exact World.ownsRow_nil _ _ _ _, HB3.out⟩
      have hlast : s.size - (j + 1) < s.size := by omega
      have k2 : (j : Int) + 1 < (s.size : Int) := by omega
      obtain ⟨q, hq⟩ : ∃ q, q = s.size - (j + 1) := ⟨_, rfl⟩
      have hat := sl_at (s := s) (p := q) (by omega)
      rw [← hq] at STOP
      have q1 : IntKind.i64.wrap ((s.size : Int) - ((j : Int) + 1)) = (q : Int) := by rw [show (s.size : Int) - ((j : Int) + 1) = (q : Int) by omega]; exact IntWalk.i64_in _ (by omega)
      have hqs : q < s.size := by omega
      have q2 : IntKind.i64.wrap ((j : Int) + 1) = (j : Int) + 1 := IntWalk.i64_in _ (by omega)
      by_cases h61 : (s[q]'hqs).toNat = 61
      · have i61 : (((s[q]'hqs).toNat : Int) == 61) = true := by rw [h61]; rfl
        have hN1 : 1 ≤ N := by have := HNV.out; omega
        have q3 : IntKind.i64.wrap ((N : Int) - 1) = ((N - 1 : Nat) : Int) := by rw [show (N : Int) - 1 = ((N - 1 : Nat) : Int) by omega]; exact IntWalk.i64_in _ (by omega)
        have hnew : OwnB wr w.heap.size (.slice a2 (N - 1) c2) ((rawU (sl s)).take ((rawU (sl s)).length - (j + 1))) := by
          have h1 := HO3.out.pre (N - 1) (by omega)
          rw [List.take_take] at h1
          rwa [show min (N - 1) ((rawU (sl s)).length - j) = (rawU (sl s)).length - (j + 1) by rw [HRL.out, HNV.out]; omega] at h1
        have hall2 : ∀ i, i < j + 1 → 1 < (sl s).length ∧ (sl s).getD ((sl s).length - (i + 1)) 0 = 61 := by
          intro i hi
          rw [HLN.out]
          by_cases e : i = j
          · subst e
            exact ⟨by omega, by rw [← hq, hat]; exact UInt8.toNat_inj.1 h61⟩
          · exact HALL.out i (by omega)
        have HNEW := Lib.hid hnew
        have HALL2 := Lib.hid hall2
        obtain ⟨N1, hN1e⟩ : ∃ N1, N1 = N - 1 := ⟨_, rfl⟩
        rw [← hN1e] at HNEW q3
        have hNN : N1 ≤ N := by omega
        have hc2 : N ≤ c2 := own_bytes HO3.out
        obtain ⟨b2, o2, hab⟩ : ∃ b o, a2 = some ⟨b, o, none⟩ := by
          obtain ⟨b, o, h1, _⟩ := HR3.out.at 0 (by omega)
          exact ⟨b, o, h1⟩
        subst hab
        clear hnew hall2 h61 hat hq hN1e STOP HEND
        go_wp2_with fail
        go_roundw
        case rel => exact ⟨_, j + 1, rfl, by simp, by omega, HALL2.out, HNEW.out, HB2.out⟩
        case measure => simp [intOf]; omega
      · have HS := STOP (.inr (.inr (by rw [hat]; intro e; exact h61 (by rw [e]; rfl))))
        have i61 : (((s[q]'hqs).toNat : Int) == 61) = false := by simp; omega
        clear h61 hat hq STOP HEND
        have CBs := Lib.hid (rbase_calls a2 N c2 (unbU (sl s)) wr HS.out.2 hNb)
        obtain ⟨X, hX⟩ : ∃ X, X = txt (b64 (unbU (sl s))) := ⟨_, rfl⟩
        rw [← hX] at CBs
        have HXE : Hid ((X.toList == s.toList) = ok) := by
          show _ = _
          rw [HOK.out, hX, Bool.eq_iff_iff]
          simp only [beq_iff_eq, ByteArray.toList_eq, decide_eq_true_eq]
          exact Iff.rfl
        have xe := HXE.out
        have xn : (X.toList != s.toList) = !ok := by rw [bne, xe]
        have HT2 : Hid (ok = true → t = unbU (sl s)) := by
          show _ → _
          intro e
          rw [HT.out, if_pos (by have := HOK.out; rw [e] at this; simpa using this.symm)]
        have HT3 : Hid (ok = false → t = []) := by
          show _ → _
          intro e
          rw [HT.out, if_neg (by have := HOK.out; rw [e] at this; simpa using this.symm)]
        clear hX
        go_wp2_with fail
        refine CBs.out.mono ?_
        rintro e w3 ⟨rfl, hb3⟩
        have HB3 := Lib.hid (HB2.out.trans (hb3.mono hsz2))
        have HO4 := Lib.hid (HS.out.1.keep hb3)
        clear hb3
        cases ok with
        | true =>
          go_wp2_with fail
          go_ret2
          exact ⟨_, rfl, by rw [HT2.out (by simp)]; exact HO4.out, HB3.out⟩
        | false =>
          go_wp2_with fail
          go_ret2
          exact ⟨_, rfl, by rw [HT3.out (by simp)]; exact World.ownsRow_nil _ _ _ _, HB3.out⟩

theorem unbase_yes (s : ByteArray) (hs : s.size ≤ 100000) (t : List UInt8) (h : b64 t = sl s) (w : World) : Calls Try.prog 25 #[.string s] w (ReadsTo w true t) := by
  have e : unbU (sl s) = t := by rw [← h]; exact unb_law t
  have := unbase_calls s hs w
  rw [e, if_pos h, decide_eq_true h] at this
  exact this
theorem unbase_no (s : ByteArray) (hs : s.size ≤ 100000) (h : ∀ t, b64 t ≠ sl s) (w : World) : Calls Try.prog 25 #[.string s] w (ReadsTo w false []) := by
  have := unbase_calls s hs w
  rw [if_neg (h _), decide_eq_false (h _)] at this
  exact this

end Go.Proofs.Ytolmeimipchndaa
