/- The program's Rune, walked. -/
import Derived.Test.YtambhapgjonmmaaUtf6
namespace Go.Proofs.Ytambhapgjonmmaa
open Go.RowKit
set_option linter.unusedVariables false
set_option linter.unusedSimpArgs false

/-- The way to 'none'. -/
theorem uto_none {ab : Option Addr} {len cap p : Nat} {l : List UInt8} {w : World} {a : Act} {A : Array Value} (hA : A.size = 96) (hr : runeAt l p = (0, 0)) (hl : 0 < umu 1 a w) :
    UL 0 ∧ UJ ab len cap p l w 0 ⟨A, []⟩ w ∧ umu 0 ⟨A, []⟩ w < umu 1 a w :=
  ⟨.inl rfl, ⟨_, UFr.of A hA, hr, rfl⟩, by show (if (0 : Nat) = 1 then _ else 0) < _; simpa using hl⟩

/-- On to the next byte. -/
theorem uto_next {ab : Option Addr} {len cap p : Nat} {l : List UInt8} {w : World} {a : Act} {A : Array Value} {m least k r0 rr : Nat} (hA : A.size = 96) (s0 : A.getD 0 undef = .slice ab len cap) (s1 : A.getD 1 undef = .int .i64 p) (s4 : A.getD 4 undef = .int .i64 rr)
    (s7 : A.getD 7 undef = .int .i64 m) (s8 : A.getD 8 undef = .int .i64 least) (s9 : A.getD 9 undef = .int .i64 ((k + 1 : Nat) : Int)) (km : k ≤ m) (m3 : m ≤ 3) (hp : p + m < len) (hres : runeAt l p = fin (tails l m (p + 1) r0) (m + 1) least)
    (hgot : tails l k (p + 1) r0 = some rr) (hbd : rr < 64 ^ (k + 1)) (hl : least ≤ 65536) (ha : a.tmps.getD 9 undef = .int .i64 (k : Nat)) :
    UL 1 ∧ UJ ab len cap p l w 1 ⟨A, []⟩ w ∧ umu 1 ⟨A, []⟩ w < umu 1 a w := by
  refine ⟨.inr rfl, ⟨_, m, least, k + 1, r0, rr, UFr.of A hA, ⟨s0, s1, s4, s7, s8, s9, by omega, by omega, m3, hp, hres, hgot, hbd, hl⟩, rfl⟩, ?_⟩
  unfold umu
  rw [if_pos rfl, if_pos rfl, s9, ha]
  simp only [intOf]
  omega

set_option maxRecDepth 100000 in
set_option maxHeartbeats 2000000 in
theorem upass1 (ab : Option Addr) (len cap p : Nat) (l : List UInt8) (w : World) (h : RdB w ab len l) (a : Act) (w' : World) (hJ : UJ ab len cap p l w 1 a w') :
    unext.wp Try.prog (JumpTo UL (fun l' a' w'' => UJ ab len cap p l w l' a' w'' ∧ umu l' a' w'' < umu 1 a w') (bodyPost Try.prog Try.f54 (RuneOut l p w))) a w' := by
  obtain ⟨u, m, least, k, r0, rr, rfl, ⟨s0, s1, s4, s7, s8, s9, k1, km, m3, hp, hres, hgot, hbd, hl⟩, rfl⟩ := hJ
  have hm := h.2.1
  have H := Lib.hid h
  have HRes := Lib.hid hres
  have HG := Lib.hid hgot
  have HBd := Lib.hid hbd
  have hbd2 : rr < 16777216 := Nat.lt_of_lt_of_le hbd (Nat.pow_le_pow_right (by decide) (show k ≤ 4 by omega))
  clear h hres hgot hbd
  have hmu : 0 < umu 1 (⟨((List.range 96).map u).toArray, []⟩ : Act) w := by
    unfold umu
    rw [if_pos rfl]
    have : (((List.range 96).map u).toArray.getD 9 undef) = u 9 := by simp
    show 0 < 10 - (intOf (((List.range 96).map u).toArray.getD 9 undef)).toNat
    rw [this, s9]; simp only [intOf]; omega
  have HMU := Lib.hid hmu
  clear hmu
  generalize hA0 : (⟨((List.range 96).map u).toArray, []⟩ : Act) = A0 at HMU ⊢
  have h9 : A0.tmps.getD 9 undef = .int .i64 (k : Nat) := by rw [← hA0]; simp [s9]
  have H9 := Lib.hid h9
  clear h9
  conv => arg 4; rw [← hA0]
  clear hA0
  simp only [List.range, List.range.loop, List.map_cons, List.map_nil, s0, s1, s4, s7, s8, s9]
  clear s0 s1 s4 s7 s8 s9
  by_cases hlt : k ≤ m
  · obtain ⟨b', o', rfl, hx⟩ := H.out.at (p + k) (by omega)
    have hxb := bAt_lt l (p + k)
    have hsn := tails_snoc l (k - 1) (p + 1) r0 rr HG.out
    rw [show k - 1 + 1 = k from by omega, show p + 1 + (k - 1) = p + k from by omega] at hsn
    generalize bAt l (p + k) = x at hx hxb hsn
    have j0 : (0 : Int) ≤ (p : Int) + (k : Int) := by omega
    have j1 : (p : Int) + (k : Int) < (len : Int) := by omega
    have j3 : ((p : Int) + (k : Int)).toNat = p + k := by omega
    have qa : bits BinOp.and IntKind.u8 (x : Int) 192 = ((x / 64 * 64 : Nat) : Int) := and_192f ⟨x, hxb⟩
    by_cases hx1 : 128 ≤ x ∧ x < 192
    · rw [if_pos hx1] at hsn
      obtain ⟨h3, h4⟩ := hx1
      have HS := Lib.hid hsn
      have e2 : x / 64 * 64 = 128 := by omega
      rw [e2] at qa
      obtain ⟨y, hy⟩ : ∃ y : Nat, y = x % 64 := ⟨_, rfl⟩
      have qb : bits BinOp.and IntKind.u8 (x : Int) 63 = (y : Int) := by rw [hy]; exact and_63uf ⟨x, hxb⟩
      have hy64 : y < 64 := by omega
      have hyx : y = x - 128 := by omega
      have qc := or_64u rr y (by omega) hy64
      have HN : Hid (rr * 64 + y < 64 ^ (k + 1)) := by
        show rr * 64 + y < 64 ^ (k + 1)
        rw [Nat.pow_succ]; have := HBd.out; omega
      have HY : Hid (tails l k (p + 1) r0 = some (rr * 64 + y)) := by show _ = _; rw [hsn, hyx]
      clear hsn hy hyx e2 hxb
      generalize hz : rr * 64 + y = z at qc HN HY
      clear hz
      conv => arg 2; whnf
      go_wp2_with fail
      go_step3
      exact uto_next rfl rfl rfl rfl rfl rfl (by simp) hlt m3 hp HRes.out HY.out HN.out hl H9.out
    · rw [if_neg hx1] at hsn
      have hn := tails_none l k (m - k) (p + 1) r0 hsn
      rw [show k + (m - k) = m from by omega] at hn
      have hr := HRes.out
      rw [hn] at hr
      have HR := Lib.hid (show runeAt l p = (0, 0) from hr)
      have d : ((x / 64 * 64 : Nat) : Int) ≠ 128 := by omega
      generalize x / 64 * 64 = y at qa d
      clear hsn hn hr hx1
      conv => arg 2; whnf
      go_wp2_with fail
      go_step3
      exact uto_none rfl HR.out HMU.out
  · obtain rfl : k = m + 1 := by omega
    have hg := HG.out
    rw [Nat.add_sub_cancel] at hg
    have hr := HRes.out
    rw [hg] at hr
    have CI := Lib.hid (is_calls (rr : Int) w)
    cases hi : isCh (rr : Int) with
    | true =>
      rw [hi] at CI
      by_cases hle : rr < least
      · have HR := Lib.hid (show runeAt l p = (0, 0) by rw [hr]; unfold fin; simp only; rw [if_pos (.inl hle)])
        clear hg hr hi
        conv => arg 2; whnf
        go_wp2_with (go_at_call 58; refine CI.out.mono ?_; rintro e w' ⟨rfl, rfl⟩)
        go_step3
        exact uto_none rfl HR.out HMU.out
      · have HR := Lib.hid (show runeAt l p = (rr, m + 1) by rw [hr]; unfold fin; simp only; rw [if_neg (by rw [hi]; simp; omega)])
        clear hg hr hi
        conv => arg 2; whnf
        go_wp2_with (go_at_call 58; refine CI.out.mono ?_; rintro e w' ⟨rfl, rfl⟩)
        simp only [JumpTo]
        go_ret2
        exact ⟨by rw [HR.out]; rfl, rfl⟩
    | false =>
      rw [hi] at CI
      have HR := Lib.hid (show runeAt l p = (0, 0) by rw [hr]; unfold fin; simp only; rw [if_pos (.inr hi)])
      clear hg hr hi
      by_cases hle : rr < least
      all_goals
        conv => arg 2; whnf
        go_wp2_with (go_at_call 58; refine CI.out.mono ?_; rintro e w' ⟨rfl, rfl⟩)
        go_step3
        exact uto_none rfl HR.out HMU.out

end Go.Proofs.Ytambhapgjonmmaa
