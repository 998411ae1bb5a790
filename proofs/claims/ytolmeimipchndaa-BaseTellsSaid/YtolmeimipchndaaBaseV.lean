/- The reference's Base, walked. -/
import Derived.Test.YtolmeimipchndaaBaseU
import Derived.Deep.RegionHeld3
import Derived.Deep.CutRange
namespace Go.Proofs.Ytolmeimipchndaa
open Go.RowKit
set_option linter.unusedVariables false
set_option linter.unusedSimpArgs false

/-- A chunk's number when k bytes are read, m bytes being there. -/
def vv (d : Nat → Nat) (m : Nat) : Nat → Nat
  | 0 => 0
  | k + 1 => vv d m k * 256 + (if k < m then d k else 0)
theorem vv_bd (d : Nat → Nat) (m : Nat) (hd : ∀ j, d j < 256) : ∀ k, vv d m k < 256 ^ k
  | 0 => by simp [vv]
  | k + 1 => by
    have h1 := vv_bd d m hd k
    have h2 := hd k
    simp only [vv, Nat.pow_succ]
    split <;> omega

/-- The four signs of a chunk. -/
def fourU (V m : Nat) : List UInt8 := [sg (V / 262144), sg (V / 4096 % 64), if m < 2 then 61 else sg (V / 64 % 64), if m < 3 then 61 else sg (V % 64)]

theorem chunk_law (l : List UInt8) (p : Nat) (hp : p % 3 = 0) (hlt : p < l.length) : b64 (l.take (p + 3)) = b64 (l.take p) ++ fourU (vv (fun j => bAt l (p + j)) (min 3 (l.length - p)) 3) (min 3 (l.length - p)) := by
  rw [List.take_add, b64_append (p / 3) _ _ (by rw [List.length_take]; omega)]
  congr 1
  have hb : ∀ j, bAt l (p + j) = ((l.drop p).getD j 0).toNat := by
    intro j
    unfold bAt
    simp [List.getD_eq_getElem?_getD, List.getElem?_drop]
  have hlen : l.length - p = (l.drop p).length := by rw [List.length_drop]
  simp only [hb, hlen]
  have hne : 0 < (l.drop p).length := by rw [List.length_drop]; omega
  generalize l.drop p = r at *
  match r, hne with
  | [x], _ =>
    have b1 := x.toNat_lt
    simp only [List.length_cons, List.length_nil, vv, List.take_succ_cons, List.take_nil, List.getD_cons_zero, b64, fourU]
    simp
    constructor
    · congr 1; omega
    · congr 1; omega
  | [x, y], _ =>
    have b1 := x.toNat_lt; have b2 := y.toNat_lt
    simp only [List.length_cons, List.length_nil, vv, List.take_succ_cons, List.take_nil, List.getD_cons_zero, List.getD_cons_succ, b64, fourU]
    simp
    refine ⟨?_, ?_, ?_⟩
    · congr 1; omega
    · congr 1; omega
    · congr 1; omega
  | x :: y :: z :: s, _ =>
    have b1 := x.toNat_lt; have b2 := y.toNat_lt; have b3 := z.toNat_lt
    have hm : min 3 (x :: y :: z :: s).length = 3 := by simp only [List.length_cons]; omega
    rw [hm]
    simp only [vv, List.take_succ_cons, List.take_zero, List.getD_cons_zero, List.getD_cons_succ, b64, fourU]
    simp
    refine ⟨?_, ?_, ?_, ?_⟩
    · congr 1; omega
    · congr 1; omega
    · congr 1; omega
    · congr 1; omega

def BwRel (w : World) (l : List UInt8) (o i : Value) (wr : World) : Prop :=
  ∃ (u : Value) (p : Nat), u = o ∧ i = .int .i64 p ∧ p % 3 = 0 ∧ p ≤ l.length + 2 ∧ OwnB wr w.heap.size u (b64 (l.take p)) ∧ Below w.heap.size w wr
def Four (W : World) (g : Nat) (a b c d : Nat) : Prop := W.cell? ⟨g, 0, none⟩ = some (.int .u8 (a : Nat)) ∧ W.cell? ⟨g, 1, none⟩ = some (.int .u8 (b : Nat)) ∧ W.cell? ⟨g, 2, none⟩ = some (.int .u8 (c : Nat)) ∧ W.cell? ⟨g, 3, none⟩ = some (.int .u8 (d : Nat)) ∧
  W.frozen? ⟨g, 0, none⟩ = false ∧ W.frozen? ⟨g, 1, none⟩ = false ∧ W.frozen? ⟨g, 2, none⟩ = false ∧ W.frozen? ⟨g, 3, none⟩ = false
def BwFour (wr : World) (s1 s2 s3 s4 : Nat) (q : Value) (W : World) : Prop := ∃ g, q = .slice (some ⟨g, 0, none⟩) 4 4 ∧ Four W g s1 s2 s3 s4 ∧ Below wr.heap.size wr W ∧ wr.heap.size ≤ g ∧ g < W.heap.size

theorem four_src {W : World} {g V m c d : Nat} (hc : c = if m < 2 then 61 else (sg (V / 64 % 64)).toNat) (hd : d = if m < 3 then 61 else (sg (V % 64)).toNat) (h : Four W g (sg (V / 262144)).toNat (sg (V / 4096 % 64)).toNat c d) : SrcB W (.slice (some ⟨g, 0, none⟩) 4 4) (fourU V m) := by
  obtain ⟨h0, h1, h2, h3, _⟩ := h
  refine ⟨_, _, _, rfl, ⟨rfl, by omega, fun i hi => ⟨g, 0, rfl, ?_⟩⟩, by simp⟩
  have e2 : bAt (fourU V m) 2 = c := by
    rw [hc]; unfold bAt fourU; simp only [List.getD_cons_succ, List.getD_cons_zero]; split <;> rfl
  have e3 : bAt (fourU V m) 3 = d := by
    rw [hd]; unfold bAt fourU; simp only [List.getD_cons_succ, List.getD_cons_zero]; split <;> rfl
  rcases (by omega : i = 0 ∨ i = 1 ∨ i = 2 ∨ i = 3) with rfl | rfl | rfl | rfl
  · exact h0
  · exact h1
  · show W.cell? ⟨g, 0 + 2, none⟩ = some (.int .u8 ((bAt (fourU V m) 2 : Nat) : Int))
    rw [e2]; exact h2
  · show W.cell? ⟨g, 0 + 3, none⟩ = some (.int .u8 ((bAt (fourU V m) 3 : Nat) : Int))
    rw [e3]; exact h3

set_option maxRecDepth 100000 in
set_option maxHeartbeats 8000000 in
theorem rbase_calls (a : Option Addr) (len cap : Nat) (l : List UInt8) (w : World) (h : RdB w a len l) (hb : len ≤ 100000) :
    Calls Try.prog 27 #[.slice a len cap] w fun e w' => e = .returned (.string (txt (b64 l))) ∧ Below w.heap.size w w' := by
  have H := Lib.hid h
  have hll := h.1
  have HL := Lib.hid hll
  clear h
  subst hll
  go_enter Try.func27, Try.ntmps27
  go_wp2_with fail
  go_loopw [3, 4, 5, 6, 7, 8, 9] (fun o i _ _ _ _ _ wr => BwRel w l o i wr) (fun _ i _ _ _ _ _ _ => l.length + 3 - (intOf i).toNat)
  case atStart => exact ⟨_, 0, rfl, rfl, rfl, by omega, World.ownsRow_nil _ _ _ _, Below.refl _ _⟩
  case round =>
    obtain ⟨u, p, rfl, rfl, hp3, hpl, ho, hbl⟩ := hrel
    have HO := Lib.hid ho
    have HB := Lib.hid hbl
    have hsz := hbl.size
    have HR := Lib.hid (H.out.keep hbl)
    clear ho hbl
    by_cases hlt : p < l.length
    case neg =>
      have hNX : OwnB wr w.heap.size u (b64 l) := by have := HO.out; rwa [List.take_of_length_le (by omega)] at this
      obtain ⟨a9, c9, rfl, hr9⟩ := hNX.reads
      have hcv0 := conv_str hr9 c9
      change (convert 22 9 (.slice a9 (b64 l).length c9)).run Try.prog wr = .ok _ wr at hcv0
      generalize (b64 l).length = n9 at hcv0 ⊢
      clear hNX hr9 HO
      go_wp2_with fail
      go_ret
      exact ⟨rfl, HB.out⟩
    obtain ⟨m, hm⟩ : ∃ m, m = min 3 (l.length - p) := ⟨_, rfl⟩
    obtain ⟨d, hd⟩ : ∃ d : Nat → Nat, d = fun j => bAt l (p + j) := ⟨_, rfl⟩
    have hd256 : ∀ j, d j < 256 := by
      intro j; rw [hd]; unfold bAt; exact UInt8.toNat_lt _
    have hbd := fun k => vv_bd d m hd256 k
    have HCH := Lib.hid (chunk_law l p hp3 hlt)
    rw [← hm, ← hd] at HCH
    have hm13 : 1 ≤ m ∧ m ≤ 3 := by omega
    obtain ⟨hm1, hm3⟩ := hm13
    have HBD := Lib.hid hbd
    have HD := Lib.hid hd
    have HM := Lib.hid hm
    clear hd hm hbd hd256
    go_wp2_with fail
    go_loop [5, 6, 7] (fun v n k => ∃ j : Nat, k = .int .i64 j ∧ j ≤ 3 ∧ v = .int .i64 (vv d m j : Nat) ∧ n = .int .i64 (min j m : Nat)) (fun _ _ k => 3 - (intOf k).toNat)
    case atStart => exact ⟨0, rfl, by omega, rfl, by simp⟩
    case round =>
      obtain ⟨j, rfl, hj, rfl, rfl⟩ := hrel
      by_cases hj3 : j < 3
      · have hb1 : vv d m j < 65536 := by
          have := HBD.out j
          have h2 : (256 : Nat) ^ j ≤ 256 ^ 2 := Nat.pow_le_pow_right (by omega) (by omega)
          omega
        have hstep : vv d m (j + 1) = vv d m j * 256 + (if j < m then d j else 0) := rfl
        obtain ⟨X, hX⟩ : ∃ X, X = vv d m j := ⟨_, rfl⟩
        rw [← hX] at hb1 hstep
        have HX := Lib.hid hX
        obtain ⟨N, hN⟩ : ∃ N, N = min j m := ⟨_, rfl⟩
        have HN := Lib.hid hN
        rw [← hX, ← hN]
        have hNb : N ≤ 3 := by omega
        have q1 : IntKind.i64.wrap ((X : Int) * 256) = (X : Int) * 256 := IntWalk.i64_in _ (by omega)
        have q2 : IntKind.i64.wrap ((p : Int) + (j : Int)) = (p : Int) + (j : Int) := IntWalk.i64_in _ (by omega)
        by_cases hpj : p + j < l.length
        · rw [if_pos (by have := HM.out; omega)] at hstep
          obtain ⟨b, o, hao, hc⟩ := HR.out.at (p + j) hpj
          obtain ⟨y, hy⟩ : ∃ y, y = bAt l (p + j) := ⟨_, rfl⟩
          rw [← hy] at hc
          have hdj : d j = y := by rw [HD.out, hy]
          rw [hdj] at hstep
          have hy256 : y < 256 := by rw [hy]; unfold bAt; exact UInt8.toNat_lt _
          have HSt := Lib.hid hstep
          have hNm : N + 1 = min (j + 1) m := by have := HM.out; omega
          have HNm := Lib.hid hNm
          subst hao
          have q3 : IntKind.i64.wrap ((X : Int) * 256 + (y : Int)) = (X : Int) * 256 + (y : Int) := IntWalk.i64_in _ (by omega)
          have e1 : (p : Int) + (j : Int) < (l.length : Int) := by omega
          have hc' : wr.cell? ⟨b, o + (p + j), none⟩ = some (.int .u8 (y : Nat)) := hc
          have e2 : ((p : Int) + (j : Int)).toNat = p + j := by omega
          clear hc hstep hX hN hy hdj hNm
          go_wp2_with fail
          go_round
          case rel => exact ⟨j + 1, by simp, by omega, by rw [HSt.out]; simp, by rw [← HNm.out]; simp⟩
          case measure => simp [intOf]; omega
        · rw [if_neg (by have := HM.out; omega)] at hstep
          have HSt := Lib.hid hstep
          have hNm : N = min (j + 1) m := by have := HM.out; omega
          have HNm := Lib.hid hNm
          have e1 : ¬ ((p : Int) + (j : Int) < (l.length : Int)) := by omega
          clear hstep hX hN hNm
          go_wp2_with fail
          go_round
          case rel => exact ⟨j + 1, by simp, by omega, by rw [HSt.out]; simp, by rw [← HNm.out]⟩
          case measure => simp [intOf]; omega
      obtain rfl : j = 3 := by omega
      have hV : vv d m 3 < 16777216 := HBD.out 3
      obtain ⟨V, hVe⟩ : ∃ V, V = vv d m 3 := ⟨_, rfl⟩
      have hmm : min 3 m = m := by omega
      rw [hmm, ← hVe]
      rw [← hVe] at HCH hV
      clear hVe hmm hj hj3
      obtain ⟨wo, rfl⟩ : ∃ wo : World, wo = wr := ⟨_, rfl⟩
      obtain ⟨i1, hi1⟩ : ∃ i, i = V / 262144 := ⟨_, rfl⟩
      obtain ⟨i2, hi2⟩ : ∃ i, i = V / 4096 % 64 := ⟨_, rfl⟩
      obtain ⟨i3, hi3⟩ : ∃ i, i = V / 64 % 64 := ⟨_, rfl⟩
      obtain ⟨i4, hi4⟩ : ∃ i, i = V % 64 := ⟨_, rfl⟩
      obtain ⟨e2, he2⟩ : ∃ i, i = V / 4096 := ⟨_, rfl⟩
      obtain ⟨e3, he3⟩ : ∃ i, i = V / 64 := ⟨_, rfl⟩
      have td : ∀ (n k : Nat), ((n : Int)).tdiv (k : Int) = ((n / k : Nat) : Int) := fun n k => by rw [Int.tdiv_eq_ediv_of_nonneg (by omega)]; rfl
      have tm : ∀ (n k : Nat), ((n : Int)).tmod (k : Int) = ((n % k : Nat) : Int) := fun n k => by rw [Int.tmod_eq_emod_of_nonneg (by omega)]; rfl
      have r1 : (V : Int).tdiv 262144 = (i1 : Int) := by rw [hi1]; exact td V 262144
      have r2 : (V : Int).tdiv 4096 = (e2 : Int) := by rw [he2]; exact td V 4096
      have r3 : (V : Int).tdiv 64 = (e3 : Int) := by rw [he3]; exact td V 64
      have r4 : (V : Int).tmod 64 = (i4 : Int) := by rw [hi4]; exact tm V 64
      have r5 : (e2 : Int).tmod 64 = (i2 : Int) := by rw [hi2, ← he2]; exact tm e2 64
      have r6 : (e3 : Int).tmod 64 = (i3 : Int) := by rw [hi3, ← he3]; exact tm e3 64
      have w1 : IntKind.i64.wrap (i1 : Int) = (i1 : Int) := IntWalk.i64_in _ (by omega)
      have w2 : IntKind.i64.wrap (i2 : Int) = (i2 : Int) := IntWalk.i64_in _ (by omega)
      have w3 : IntKind.i64.wrap (i3 : Int) = (i3 : Int) := IntWalk.i64_in _ (by omega)
      have w4 : IntKind.i64.wrap (i4 : Int) = (i4 : Int) := IntWalk.i64_in _ (by omega)
      have w5 : IntKind.i64.wrap (e2 : Int) = (e2 : Int) := IntWalk.i64_in _ (by omega)
      have w6 : IntKind.i64.wrap (e3 : Int) = (e3 : Int) := IntWalk.i64_in _ (by omega)
      have u1 : (i1 : Int) < 64 := by omega
      have u2 : (i2 : Int) < 64 := by omega
      have u3 : (i3 : Int) < 64 := by omega
      have u4 : (i4 : Int) < 64 := by omega
      have HI := Lib.hid (show i1 = V / 262144 ∧ i2 = V / 4096 % 64 ∧ i3 = V / 64 % 64 ∧ i4 = V % 64 from ⟨hi1, hi2, hi3, hi4⟩)
      clear hi1 hi2 hi3 hi4 he2 he3 td tm
      go_upto_region 13 with fail
      go_cut [8] from 10 to 65 (fun q W => BwFour wo (sg i1).toNat (sg i2).toNat (sg i3).toNat (sg i4).toNat q W)
      case first =>
        go_region
        all_goals
          go_wp2_with fail
          go_meet
          case rel =>
            refine ⟨_, rfl, ⟨?_, ?_, ?_, ?_, ?_, ?_, ?_, ?_⟩, ?_, ?_, ?_⟩
            · simp [go_sem]; exact congrArg (fun x : UInt8 => ((x.toNat : Nat) : Int)) (sgB_at i1 (by show i1 < 64; omega))
            · simp [go_sem]; exact congrArg (fun x : UInt8 => ((x.toNat : Nat) : Int)) (sgB_at i2 (by show i2 < 64; omega))
            · simp [go_sem]; exact congrArg (fun x : UInt8 => ((x.toNat : Nat) : Int)) (sgB_at i3 (by show i3 < 64; omega))
            · simp [go_sem]; exact congrArg (fun x : UInt8 => ((x.toNat : Nat) : Int)) (sgB_at i4 (by show i4 < 64; omega))
            · simp [go_sem]
            · simp [go_sem]
            · simp [go_sem]
            · simp [go_sem]
            · exact (Below.refl _ _).drew.alloc (Nat.le_refl _) _
            · simp
            · simp
      case rest =>
        obtain ⟨g, rfl, hf, hbW, hg, hg2⟩ := hcut
        have HBW := Lib.hid hbW
        have hszc : w.heap.size ≤ g := by omega
        obtain ⟨s1, hs1⟩ : ∃ x, x = (sg i1).toNat := ⟨_, rfl⟩
        obtain ⟨s2, hs2⟩ : ∃ x, x = (sg i2).toNat := ⟨_, rfl⟩
        obtain ⟨s3, hs3⟩ : ∃ x, x = (sg i3).toNat := ⟨_, rfl⟩
        obtain ⟨s4, hs4⟩ : ∃ x, x = (sg i4).toNat := ⟨_, rfl⟩
        rw [← hs1, ← hs2, ← hs3, ← hs4] at hf
        have HS := Lib.hid (show s1 = (sg i1).toNat ∧ s2 = (sg i2).toNat ∧ s3 = (sg i3).toNat ∧ s4 = (sg i4).toNat from ⟨hs1, hs2, hs3, hs4⟩)
        have HF := Lib.hid hf
        have hq : IntKind.i64.wrap ((m : Int) + 1) = (m : Int) + 1 := IntWalk.i64_in _ (by omega)
        have hgo : ∀ k, u.ownBlock = some k → w.heap.size ≤ k ∧ k < wo.heap.size := fun k hk => owns_lt HO.out k hk
        have HGO := Lib.hid hgo
        clear hs1 hs2 hs3 hs4 hf hbW u1 u2 u3 u4 r1 r2 r3 r4 r5 r6 w1 w2 w3 w4 w5 w6 hgo
        go_wp2_with fail
        go_loopw [9] (fun k wr => ∃ (j c d' : Nat), k = .int .i64 j ∧ m + 1 ≤ j ∧ j ≤ 4 ∧ Four wr g s1 s2 c d' ∧ Hid (c = (if m < 2 ∧ 2 < j then 61 else s3) ∧ d' = (if m < 3 ∧ 3 < j then 61 else s4)) ∧ Below g wc wr ∧ g < wr.heap.size) (fun k _ => 4 - (intOf k).toNat)
        case atStart => exact ⟨m + 1, s3, s4, by simp, by omega, by omega, HF.out, Lib.hid ⟨by rw [if_neg (by omega)], by rw [if_neg (by omega)]⟩, Below.refl _ _, hg2⟩
        case round =>
          obtain ⟨j, c, d', rfl, hj1, hj4, hf, hcd, hbx, hgx⟩ := hrel
          have HBX := Lib.hid hbx
          have HCD := hcd
          clear hbx
          by_cases hj : j < 4
          · obtain ⟨k0, k1, k2, k3, k4, k5, k6, k7⟩ := hf
            rcases (by omega : j = 2 ∨ j = 3) with rfl | rfl
            · have HN : Hid ((61 : Nat) = (if m < 2 ∧ 2 < 3 then 61 else s3) ∧ d' = (if m < 3 ∧ 3 < 3 then 61 else s4)) := by
                show _ ∧ _
                refine ⟨by rw [if_pos (by omega)], ?_⟩
                rw [HCD.out.2, if_neg (by omega), if_neg (by omega)]
              go_wp2_with fail
              go_roundw
              case rel =>
                refine ⟨3, 61, d', by simp, by omega, by omega, ⟨?_, ?_, ?_, ?_, ?_, ?_, ?_, ?_⟩, HN, ?_, by simpa using hgx⟩
                all_goals first | (simp [go_sem, *]; done) | exact HBX.out.setCell (by simp) _
              case measure => simp [intOf]
            · have HN : Hid (c = (if m < 2 ∧ 2 < 4 then 61 else s3) ∧ (61 : Nat) = (if m < 3 ∧ 3 < 4 then 61 else s4)) := by
                show _ ∧ _
                refine ⟨?_, by rw [if_pos (by omega)]⟩
                rw [HCD.out.1]
                by_cases h2 : m < 2
                · rw [if_pos (by omega), if_pos (by omega)]
                · rw [if_neg (by omega), if_neg (by omega)]
              go_wp2_with fail
              go_roundw
              case rel =>
                refine ⟨4, c, 61, by simp, by omega, by omega, ⟨?_, ?_, ?_, ?_, ?_, ?_, ?_, ?_⟩, HN, ?_, by simpa using hgx⟩
                all_goals first | (simp [go_sem, *]; done) | exact HBX.out.setCell (by simp) _
              case measure => simp [intOf]
          obtain rfl : j = 4 := by omega
          have hsrc : SrcB wr (.slice (some ⟨g, 0, none⟩) 4 4) (fourU V m) := by
            obtain ⟨e1, e2, e3, e4⟩ := HS.out
            obtain ⟨f1, f2, f3, f4⟩ := HI.out
            refine four_src (c := c) (d := d') ?_ ?_ ?_
            · rw [HCD.out.1, e3, f3]
              by_cases h2 : m < 2
              · rw [if_pos (by omega), if_pos h2]
              · rw [if_neg (by omega), if_neg h2]
            · rw [HCD.out.2, e4, f4]
              by_cases h2 : m < 3
              · rw [if_pos (by omega), if_pos h2]
              · rw [if_neg (by omega), if_neg h2]
            · rw [← f1, ← f2, ← e1, ← e2]; exact hf
          have HSRC := Lib.hid hsrc
          have hbw : Below wo.heap.size wo wr := HBW.out.trans (HBX.out.mono hg)
          have HO7 := Lib.hid (HO.out.keep hbw)
          have HB7 := Lib.hid (HB.out.trans (hbw.mono hsz))
          clear hsrc hf hbw
          go_wp2_with (at_builtin; refine wpList_appB (v := u) (bs := b64 (l.take p)) (sv := .slice (some ⟨g, 0, none⟩) 4 4) (l := fourU V m) (B := w.heap.size) (by rfl) _ _ (by rfl) (by rfl) HO7.out (by rfl) HSRC.out ?o3 ?o4 ?_)
          case o3 =>
            rw [b64_len]
            have h1 : (l.take p).length ≤ 100000 := by rw [List.length_take]; omega
            have h2 : (fourU V m).length = 4 := rfl
            omega
          case o4 => exact HB7.out.size
          intro v6 w6 ho6 ha6
          rw [← HCH.out] at ho6
          have HO6 := Lib.hid ho6
          have HB6 := Lib.hid (ha6.below HB7.out HB7.out.size (fun j hj => (HGO.out j hj).1))
          clear ho6 ha6
          go_wp2_with fail
          go_roundw
          case rel => exact ⟨_, p + 3, rfl, by simp, by omega, by omega, HO6.out, HB6.out⟩
          case measure => simp [intOf]; omega

end Go.Proofs.Ytolmeimipchndaa
