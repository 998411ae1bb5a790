/- The reference's CText; both Puts. -/
import Derived.Test.YthahhjmgjlkmfaaUtfA
import Derived.Laws.OwnMore
namespace Go.Proofs.Ythahhjmgjlkmfaa
open Go.RowKit
set_option linter.unusedVariables false
set_option linter.unusedSimpArgs false

set_option maxRecDepth 100000 in
set_option maxHeartbeats 1000000 in
theorem rctext_out (a : Option Addr) (len cap : Nat) (p : Int) (w : World) (hm : len ≤ 9223372036854775807) (h : p < 0 ∨ (len : Int) < p) :
    Calls Try.prog 33 #[.slice a len cap, .int .i64 p] w (CTextOut ([], 0, 1) w) := by
  by_cases h0 : p < 0
  · have d0 : decide (p < 0) = true := by simp; omega
    go_enter Try.func33, Try.ntmps33
    go_wp2_with fail
    go_ret3
    exact ⟨rfl, rfl⟩
  · have d0 : decide (p < 0) = false := by simp; omega
    have d1 : decide ((len : Int) < p) = true := by simp; omega
    go_enter Try.func33, Try.ntmps33
    go_wp2_with fail
    go_ret3
    exact ⟨rfl, rfl⟩

set_option maxRecDepth 100000 in
set_option maxHeartbeats 1000000 in
theorem rctext_calls (a : Option Addr) (len cap p : Nat) (w : World) (l : List UInt8) (h : RdB w a len l) (hc : len ≤ cap) :
    Calls Try.prog 33 #[.slice a len cap, .int .i64 p] w (CTextOut (cText l p) w) := by
  have hm := h.2.1
  have hL := h.1
  by_cases h0 : len < p
  · have e : cText l p = ([], 0, 1) := by unfold cText; simp only; rw [if_pos (by omega)]
    rw [e]
    exact rctext_out a len cap p w hm (.inr (by omega))
  have H := Lib.hid h
  have HE : Hid (cText l p = if p + zeroIn (l.drop p) = len then ([], 0, 2) else if wholeTo ((l.drop p).take (zeroIn (l.drop p))) = zeroIn (l.drop p) then ((l.drop p).take (zeroIn (l.drop p)), p + zeroIn (l.drop p) + 1, 0) else ([], 0, 4)) := by
    show _ = _
    unfold cText
    simp only
    rw [if_neg (by omega), hL]
  have HL := Lib.hid hL
  have d0 : decide ((p : Int) < 0) = false := by simp
  have d1 : decide ((len : Int) < (p : Int)) = false := by simp; omega
  clear h hL
  go_enter Try.func33, Try.ntmps33
  go_wp2_with fail
  go_loop [7] (fun x => ∃ q : Nat, x = .int .i64 q ∧ p ≤ q ∧ q ≤ len ∧ Hid (zeroIn (l.drop p) = q - p + zeroIn (l.drop q))) (fun x => len - (intOf x).toNat)
  case atStart => exact ⟨p, rfl, by omega, by omega, by show _ = _; omega⟩
  case round =>
    obtain ⟨q, rfl, hpq, hq, hz⟩ := hrel
    by_cases hlt : q < len
    · obtain ⟨b, o, rfl, hcc⟩ := H.out.at q hlt
      have hcb := bAt_lt l q
      have hdq := drop_getD l 0 q (by rw [HL.out]; exact hlt)
      have hbq : bAt l q = (l.getD q 0).toNat := rfl
      generalize l.getD q 0 = x at hdq hbq
      rw [hbq] at hcc hcb
      clear hbq
      by_cases hx0 : x = 0
      · subst hx0
        have hzq : zeroIn (l.drop p) = q - p := by rw [hz.out, hdq]; simp [zeroIn]
        have hE := HE.out
        have hd := rd_drop H.out p (by omega)
        have hT := rd_take hd (q - p) (by omega)
        rw [hzq, if_neg (by omega)] at hE
        have C2 := Lib.hid (rcheck_calls _ _ (cap - p) w _ hT)
        have HV := Lib.hid (fun W => conv_str (hT.keep (below_drewN w W _)) (cap - p))
        have i0 : (0 : Int) ≤ (p : Int) := by omega
        have i2 : ¬ cap = p := by omega
        have i3 : ¬ p = cap := by omega
        have j2 : (p : Int) ≤ (q : Int) := by omega
        have j3 : (q : Int) ≤ (cap : Int) := by omega
        have hz0 : (((0 : UInt8).toNat : Nat) : Int) = 0 := rfl
        rw [hz0] at hcc
        generalize (l.drop p).take (q - p) = t at C2 HV hE
        have hv := HV.out 0
        change (convert _ _ _).run Try.prog w = .ok _ w at hv
        obtain ⟨tt, htt⟩ : ∃ tt, tt = txt t := ⟨_, rfl⟩
        rw [← htt] at hv
        have HTT := Lib.hid htt
        by_cases hw : wholeTo t = q - p
        · rw [if_pos hw, show p + (q - p) + 1 = q + 1 by omega] at hE
          rw [hw, show ((q - p) == (q - p)) = true by simp] at C2
          have HE2 := Lib.hid hE
          clear hz HE hE hzq hdq hd hT HV htt hw hz0
          go_wp2_with (go_at_call 37; refine C2.out.mono ?_; rintro e w' ⟨rfl, rfl⟩)
          go_ret3
          exact ⟨by rw [HE2.out]; show _ = Ending.returned (.tuple #[.string (txt t), _, _]); rw [← HTT.out]; rfl, rfl⟩
        · rw [if_neg hw] at hE
          have e2 : (wholeTo t == (q - p)) = false := by simpa using hw
          rw [e2] at C2
          generalize wholeTo t = y at C2
          have HE2 := Lib.hid hE
          clear hz HE hE hzq hdq hd hT HV htt hw hz0 e2
          go_wp2_with (go_at_call 37; refine C2.out.mono ?_; rintro e w' ⟨rfl, rfl⟩)
          go_ret3
          exact ⟨by rw [HE2.out]; rfl, rfl⟩
      · have HZ : Hid (zeroIn (l.drop p) = q + 1 - p + zeroIn (l.drop (q + 1))) := by
          show _ = _
          rw [hz.out, hdq]
          simp only [zeroIn]
          rw [if_neg hx0]; omega
        have hxn : x.toNat ≠ 0 := by intro e; exact hx0 (UInt8.toNat_inj.1 e)
        clear hz hdq hx0
        generalize x.toNat = y at hxn hcc hcb
        have dy : ((y : Int) == 0) = false := by simp; omega
        have dy2 : ((y : Int) != 0) = true := by simp; omega
        go_wp2_with fail
        go_round
        case rel => exact ⟨q + 1, by simp, by omega, by omega, HZ⟩
        case measure => simp [intOf]; omega
    · obtain rfl : q = len := by omega
      have hzq : zeroIn (l.drop p) = q - p := by rw [hz.out, List.drop_of_length_le (by rw [HL.out]; omega)]; simp [zeroIn]
      have hE := HE.out
      rw [hzq, if_pos (by omega)] at hE
      have HE2 := Lib.hid hE
      clear hz HE hE hzq
      go_wp2_with fail
      go_ret3
      exact ⟨by rw [HE2.out]; rfl, rfl⟩

/-- A new row of bytes. -/
theorem ownB_new (w : World) (B : Nat) (hB : B ≤ w.heap.size) (bs : List UInt8) (hl : bs.length ≤ 1000000) (cs : Array Value) (hcs : cs = (byteCells bs).toArray) (n : Nat) (hn : n = bs.length) :
    OwnB (w.alloc (.cells cs 5)) B (.slice (some ⟨w.heap.size, 0, none⟩) n n) bs := by
  subst hcs hn
  have hs : (byteCells bs).toArray.size = bs.length := by simp [byteCells]
  have := World.ownsRow_lit (e := 5) (size := 1) w (byteCells bs).toArray bs.length hB (by unfold maxLen; omega) (by rw [hs, Nat.mul_one])
  simpa [OwnB] using this

/-- What Put answers. -/
def PutOut (r : Int) (w : World) (e : Ending) (w' : World) : Prop :=
  if isCh r = true then ∃ v, e = .returned (.tuple #[v, .bool true]) ∧ OwnB w' w.heap.size v (putL r.toNat) ∧ Below w.heap.size w w'
  else e = .returned (.tuple #[.slice none 0 0, .bool false]) ∧ w = w'

theorem put_out {r : Nat} {w : World} {cs : Array Value} {n : Nat} (h : isCh (r : Int) = true) (hcs : cs = (byteCells (putL r)).toArray) (hn : n = (putL r).length) :
    PutOut r w (.returned (.tuple #[.slice (some ⟨w.heap.size, 0, none⟩) n n, .bool true])) (w.alloc (.cells cs 5)) := by
  unfold PutOut
  rw [if_pos h]
  have := putL_len r
  exact ⟨_, rfl, ownB_new w _ (Nat.le_refl _) _ (by omega) _ hcs _ hn, (Below.refl _ _).alloc (Nat.le_refl _) _⟩

theorem cells1 (r : Nat) (h : r < 128) : (byteCells (putL r)).toArray = #[.int .u8 (r : Int)] := by
  unfold putL; rw [if_pos h]; simp only [byteCells, List.map_cons, List.map_nil]; rw [ofNat_lt _ (by omega)]
theorem cells2 (r : Nat) (h : ¬ r < 128) (h2 : r < 2048) : (byteCells (putL r)).toArray = #[.int .u8 ((192 + r / 64 : Nat) : Int), .int .u8 ((128 + r % 64 : Nat) : Int)] := by
  unfold putL; rw [if_neg h, if_pos h2]; simp only [byteCells, List.map_cons, List.map_nil]; rw [ofNat_lt _ (by omega), ofNat_lt _ (by omega)]
theorem cells3 (r : Nat) (h : ¬ r < 128) (h2 : ¬ r < 2048) (h3 : r < 65536) : (byteCells (putL r)).toArray = #[.int .u8 ((224 + r / 4096 : Nat) : Int), .int .u8 ((128 + r / 64 % 64 : Nat) : Int), .int .u8 ((128 + r % 64 : Nat) : Int)] := by
  unfold putL; rw [if_neg h, if_neg h2, if_pos h3]; simp only [byteCells, List.map_cons, List.map_nil]; rw [ofNat_lt _ (by omega), ofNat_lt _ (by omega), ofNat_lt _ (by omega)]
theorem cells4 (r : Nat) (h : ¬ r < 128) (h2 : ¬ r < 2048) (h3 : ¬ r < 65536) (h4 : r ≤ 1114111) : (byteCells (putL r)).toArray = #[.int .u8 ((240 + r / 262144 : Nat) : Int), .int .u8 ((128 + r / 4096 % 64 : Nat) : Int), .int .u8 ((128 + r / 64 % 64 : Nat) : Int), .int .u8 ((128 + r % 64 : Nat) : Int)] := by
  unfold putL; rw [if_neg h, if_neg h2, if_neg h3]; simp only [byteCells, List.map_cons, List.map_nil]; rw [ofNat_lt _ (by omega), ofNat_lt _ (by omega), ofNat_lt _ (by omega), ofNat_lt _ (by omega)]

theorem and_63i (r : Nat) (h : r < 1000000000) : bits BinOp.and IntKind.i64 (r : Int) 63 = ((r % 64 : Nat) : Int) := by
  have := bits_mask .i64 40 (by decide) (fun n h0 h1 => IntWalk.i64_in _ (by omega)) 6 (by decide) (r : Int) (by omega) (by omega)
  simpa using this
theorem or_192uf : ∀ y : Fin 32, bits BinOp.or IntKind.u8 192 ((y : Nat) : Int) = ((192 + (y : Nat) : Nat) : Int) := by decide +kernel
theorem or_192u (y : Nat) (h : y < 32) : bits BinOp.or IntKind.u8 192 (y : Int) = ((192 + y : Nat) : Int) := or_192uf ⟨y, h⟩
theorem or_224uf : ∀ y : Fin 16, bits BinOp.or IntKind.u8 224 ((y : Nat) : Int) = ((224 + (y : Nat) : Nat) : Int) := by decide +kernel
theorem or_224u (y : Nat) (h : y < 16) : bits BinOp.or IntKind.u8 224 (y : Int) = ((224 + y : Nat) : Int) := or_224uf ⟨y, h⟩
theorem or_240uf : ∀ y : Fin 8, bits BinOp.or IntKind.u8 240 ((y : Nat) : Int) = ((240 + (y : Nat) : Nat) : Int) := by decide +kernel
theorem or_240u (y : Nat) (h : y < 8) : bits BinOp.or IntKind.u8 240 (y : Int) = ((240 + y : Nat) : Int) := or_240uf ⟨y, h⟩
theorem or_128uf : ∀ y : Fin 64, bits BinOp.or IntKind.u8 128 ((y : Nat) : Int) = ((128 + (y : Nat) : Nat) : Int) := by decide +kernel
theorem or_128u (y : Nat) (h : y < 64) : bits BinOp.or IntKind.u8 128 (y : Int) = ((128 + y : Nat) : Int) := or_128uf ⟨y, h⟩
theorem wrap8 (y : Nat) (h : y < 256) : IntKind.u8.wrap (y : Int) = (y : Int) := by rw [IntKind.wrap_u8']; omega

set_option maxRecDepth 100000 in
set_option maxHeartbeats 1000000 in
theorem put_calls (r : Int) (w : World) : Calls Try.prog 40 #[.int .i64 r] w (PutOut r w) := by
  have C := Lib.hid (is_calls r w)
  cases hi : isCh r with
  | false =>
    rw [hi] at C
    have HP : ∀ e w', (e = .returned (.tuple #[.slice none 0 0, .bool false]) ∧ w = w') → PutOut r w e w' := fun e w' h => by unfold PutOut; rw [if_neg (by rw [hi]; simp)]; exact h
    refine Calls.mono ?_ HP
    clear hi HP
    go_enter Try.func40, Try.ntmps40
    go_wp2_with (go_at_call 46; refine C.out.mono ?_; rintro e w' ⟨rfl, rfl⟩)
    go_ret2
    exact ⟨rfl, rfl⟩
  | true =>
    rw [hi] at C
    have h0 : 0 ≤ r ∧ r ≤ 1114111 := by simp [isCh] at hi; omega
    obtain ⟨n, rfl⟩ : ∃ n : Nat, r = n := ⟨r.toNat, by omega⟩
    have HI := Lib.hid hi
    have hn : n ≤ 1114111 := by omega
    clear hi h0
    have qa := and_63i n (by omega)
    by_cases h1 : n < 128
    · have HC := Lib.hid (cells1 n h1)
      have q1 := wrap8 n (by omega)
      clear qa
      go_enter Try.func40, Try.ntmps40
      go_wp2_with (go_at_call 46; refine C.out.mono ?_; rintro e w' ⟨rfl, rfl⟩)
      go_ret2
      exact put_out HI.out HC.out.symm (by unfold putL; rw [if_pos h1]; rfl)
    by_cases h2 : n < 2048
    · have HC := Lib.hid (cells2 n h1 h2)
      have HN : Hid (2 = (putL n).length) := by show _ = _; unfold putL; rw [if_neg h1, if_pos h2]; rfl
      obtain ⟨y0, hy0⟩ : ∃ y : Nat, y = n % 64 := ⟨_, rfl⟩
      obtain ⟨y1, hy1⟩ : ∃ y : Nat, y = n / 64 := ⟨_, rfl⟩
      rw [← hy0] at qa HC
      rw [← hy1] at HC
      have b0 : y0 < 64 := by omega
      have b1 : y1 < 32 := by omega
      have q0 := wrap8 y0 (by omega)
      have q1 : IntKind.u8.wrap ((n : Int) / 64) = (y1 : Int) := by rw [IntKind.wrap_u8']; omega
      have o1 := or_192u y1 b1
      have o0 := or_128u y0 b0
      clear hy0 hy1
      go_enter Try.func40, Try.ntmps40
      go_wp2_with (go_at_call 46; refine C.out.mono ?_; rintro e w' ⟨rfl, rfl⟩)
      go_ret2
      exact put_out HI.out HC.out.symm HN.out
    by_cases h3 : n < 65536
    · have HC := Lib.hid (cells3 n h1 h2 h3)
      have HN : Hid (3 = (putL n).length) := by show _ = _; unfold putL; rw [if_neg h1, if_neg h2, if_pos h3]; rfl
      have qb := and_63i (n / 64) (by omega)
      obtain ⟨y0, hy0⟩ : ∃ y : Nat, y = n % 64 := ⟨_, rfl⟩
      obtain ⟨y1, hy1⟩ : ∃ y : Nat, y = n / 64 % 64 := ⟨_, rfl⟩
      obtain ⟨y2, hy2⟩ : ∃ y : Nat, y = n / 4096 := ⟨_, rfl⟩
      rw [← hy0] at qa HC
      rw [← hy1] at qb HC
      rw [← hy2] at HC
      change bits BinOp.and IntKind.i64 ((n : Int) / 64) 63 = (y1 : Int) at qb
      have b0 : y0 < 64 := by omega
      have b1 : y1 < 64 := by omega
      have b2 : y2 < 16 := by omega
      have q0 := wrap8 y0 (by omega)
      have q1 := wrap8 y1 (by omega)
      have q2 : IntKind.u8.wrap ((n : Int) / 4096) = (y2 : Int) := by rw [IntKind.wrap_u8']; omega
      have o2 := or_224u y2 b2
      have o1 := or_128u y1 b1
      have o0 := or_128u y0 b0
      clear hy0 hy1 hy2
      have g1 : decide ((n:Int) < 128) = false := by simp; omega
      have g2 : decide ((n:Int) < 2048) = false := by simp; omega
      have g3 : decide ((n:Int) < 65536) = true := by simp; omega
      clear h1 h2 h3 hn
      go_enter Try.func40, Try.ntmps40
      go_wp2_with (go_at_call 46; refine C.out.mono ?_; rintro e w' ⟨rfl, rfl⟩)
      go_ret2
      exact put_out HI.out HC.out.symm HN.out
    · have HC := Lib.hid (cells4 n h1 h2 h3 (by omega))
      have HN : Hid (4 = (putL n).length) := by show _ = _; unfold putL; rw [if_neg h1, if_neg h2, if_neg h3]; rfl
      have qb := and_63i (n / 64) (by omega)
      have qc := and_63i (n / 4096) (by omega)
      obtain ⟨y0, hy0⟩ : ∃ y : Nat, y = n % 64 := ⟨_, rfl⟩
      obtain ⟨y1, hy1⟩ : ∃ y : Nat, y = n / 64 % 64 := ⟨_, rfl⟩
      obtain ⟨y2, hy2⟩ : ∃ y : Nat, y = n / 4096 % 64 := ⟨_, rfl⟩
      obtain ⟨y3, hy3⟩ : ∃ y : Nat, y = n / 262144 := ⟨_, rfl⟩
      rw [← hy0] at qa HC
      rw [← hy1] at qb HC
      rw [← hy2] at qc HC
      rw [← hy3] at HC
      change bits BinOp.and IntKind.i64 ((n : Int) / 64) 63 = (y1 : Int) at qb
      change bits BinOp.and IntKind.i64 ((n : Int) / 4096) 63 = (y2 : Int) at qc
      have b0 : y0 < 64 := by omega
      have b1 : y1 < 64 := by omega
      have b2 : y2 < 64 := by omega
      have b3 : y3 < 8 := by omega
      have q0 := wrap8 y0 (by omega)
      have q1 := wrap8 y1 (by omega)
      have q2 := wrap8 y2 (by omega)
      have q3 : IntKind.u8.wrap ((n : Int) / 262144) = (y3 : Int) := by rw [IntKind.wrap_u8']; omega
      have o3 := or_240u y3 b3
      have o2 := or_128u y2 b2
      have o1 := or_128u y1 b1
      have o0 := or_128u y0 b0
      clear hy0 hy1 hy2 hy3
      have g1 : decide ((n:Int) < 128) = false := by simp; omega
      have g2 : decide ((n:Int) < 2048) = false := by simp; omega
      have g3 : decide ((n:Int) < 65536) = false := by simp; omega
      clear h1 h2 h3 hn
      go_enter Try.func40, Try.ntmps40
      go_wp2_with (go_at_call 46; refine C.out.mono ?_; rintro e w' ⟨rfl, rfl⟩)
      go_ret2
      exact put_out HI.out HC.out.symm HN.out

end Go.Proofs.Ythahhjmgjlkmfaa
