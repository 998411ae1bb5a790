/- The program's Text: bytes as signs. -/
import Derived.Test.YtolmeimipchndaaBaseP
import Derived.Test.YtolmeimipchndaaApp
import Derived.Test.YtolmeimipchndaaStr
import Derived.Deep.RegionHeld3
import Derived.Deep.DrawnRows
namespace Go.Proofs.Ytolmeimipchndaa
open Go.RowKit
set_option linter.unusedVariables false
set_option linter.unusedSimpArgs false
attribute [local go_sem ↓] Go.wp_at_zero Go.wp_at_succ

theorem srcB_four (w : World) (a b c d : UInt8) : SrcB (w.alloc (.cells #[.int .u8 (a.toNat : Nat), .int .u8 (b.toNat : Nat), .int .u8 (c.toNat : Nat), .int .u8 (d.toNat : Nat)] 5)) (.slice (some ⟨w.heap.size, 0, none⟩) 4 4) [a, b, c, d] := by
  refine ⟨some ⟨w.heap.size, 0, none⟩, 4, 4, rfl, ⟨rfl, by omega, fun i hi => ⟨w.heap.size, 0, rfl, ?_⟩⟩, by simp⟩
  match i, hi with
  | 0, _ | 1, _ | 2, _ | 3, _ => simp [bAt]

def sgB : ByteArray := ⟨#[65, 66, 67, 68, 69, 70, 71, 72, 73, 74, 75, 76, 77, 78, 79, 80, 81, 82, 83, 84, 85, 86, 87, 88, 89, 90, 97, 98, 99, 100, 101, 102, 103, 104, 105, 106, 107, 108, 109, 110, 111, 112, 113, 114, 115, 116, 117, 118, 119, 120, 121, 122, 48, 49, 50, 51, 52, 53, 54, 55, 56, 57, 43, 47]⟩

theorem sgB_at (i : Nat) (h : i < sgB.size) : sgB[i]'h = sg i := by
  have : i < 64 := h
  show sgl.toArray[i]'_ = sgl.getD i 0
  simp [List.getD_eq_getElem?_getD, List.getElem?_eq_getElem (show i < sgl.length from this)]
  rfl

theorem text_next {w1 : World} {B : Nat} {v : Value} {dn : List UInt8} {x y z a b c d : UInt8} {k : Nat} (hk : dn.length = 3 * k) (ho : OwnB w1 B v (b64 dn ++ [a, b, c, d])) (h1 : a = sg (x.toNat / 4)) (h2 : b = sg (x.toNat % 4 * 16 + y.toNat / 16))
    (h3 : c = sg (y.toNat % 16 * 4 + z.toNat / 64)) (h4 : d = sg (z.toNat % 64)) : OwnB w1 B v (b64 (dn ++ [x, y, z])) := by
  rw [b64_append k dn _ hk]
  subst h1 h2 h3 h4
  exact ho

theorem text_one {w1 : World} {B : Nat} {v : Value} {l dn : List UInt8} {x a b : UInt8} {k : Nat} (hl : l = dn ++ [x]) (hk : dn.length = 3 * k) (ho : OwnB w1 B v (b64 dn ++ [a, b, 61, 61])) (h1 : a = sg (x.toNat / 4)) (h2 : b = sg (x.toNat % 4 * 16)) : OwnB w1 B v (b64 l) := by
  rw [hl, b64_append k dn _ hk]
  subst h1 h2
  exact ho
theorem text_two {w1 : World} {B : Nat} {v : Value} {l dn : List UInt8} {x y a b c : UInt8} {k : Nat} (hl : l = dn ++ [x, y]) (hk : dn.length = 3 * k) (ho : OwnB w1 B v (b64 dn ++ [a, b, c, 61])) (h1 : a = sg (x.toNat / 4)) (h2 : b = sg (x.toNat % 4 * 16 + y.toNat / 16)) (h3 : c = sg (y.toNat % 16 * 4)) : OwnB w1 B v (b64 l) := by
  rw [hl, b64_append k dn _ hk]
  subst h1 h2 h3
  exact ho

theorem and_3f : ∀ x : Fin 256, bits BinOp.and IntKind.u8 ((x : Nat) : Int) 3 = (((x : Nat) % 4 : Nat) : Int) := by decide +kernel
theorem and_15f : ∀ x : Fin 256, bits BinOp.and IntKind.u8 ((x : Nat) : Int) 15 = (((x : Nat) % 16 : Nat) : Int) := by decide +kernel
theorem and_63f : ∀ x : Fin 256, bits BinOp.and IntKind.u8 ((x : Nat) : Int) 63 = (((x : Nat) % 64 : Nat) : Int) := by decide +kernel
theorem or_16f : ∀ (u : Fin 4) (y : Fin 256), bits BinOp.or IntKind.u8 (((u : Nat) * 16 : Nat) : Int) (((y : Nat) : Int) / 16) = (((u : Nat) * 16 + (y : Nat) / 16 : Nat) : Int) := by decide +kernel
theorem or_4f : ∀ (u : Fin 16) (y : Fin 256), bits BinOp.or IntKind.u8 (((u : Nat) * 4 : Nat) : Int) (((y : Nat) : Int) / 64) = (((u : Nat) * 4 + (y : Nat) / 64 : Nat) : Int) := by decide +kernel
theorem and_3 (x : Nat) (h : x < 256) : bits BinOp.and IntKind.u8 (x : Int) 3 = ((x % 4 : Nat) : Int) := and_3f ⟨x, h⟩
theorem and_15 (x : Nat) (h : x < 256) : bits BinOp.and IntKind.u8 (x : Int) 15 = ((x % 16 : Nat) : Int) := and_15f ⟨x, h⟩
theorem and_63 (x : Nat) (h : x < 256) : bits BinOp.and IntKind.u8 (x : Int) 63 = ((x % 64 : Nat) : Int) := and_63f ⟨x, h⟩
theorem or_16 (u y : Nat) (h : u < 4) (hy : y < 256) : bits BinOp.or IntKind.u8 ((u * 16 : Nat) : Int) ((y : Int) / 16) = ((u * 16 + y / 16 : Nat) : Int) := or_16f ⟨u, h⟩ ⟨y, hy⟩
theorem or_4 (u y : Nat) (h : u < 16) (hy : y < 256) : bits BinOp.or IntKind.u8 ((u * 4 : Nat) : Int) ((y : Int) / 64) = ((u * 4 + y / 64 : Nat) : Int) := or_4f ⟨u, h⟩ ⟨y, hy⟩

/-- What stands at the head of each round. -/
def TextRel (w : World) (l : List UInt8) (q o : Value) (wr : World) : Prop :=
  ∃ (v : Value) (dn rest : List UInt8) (a : Option Addr) (cap n k : Nat), v = o ∧ Hid (l = dn ++ rest) ∧ Hid (dn.length = 3 * k) ∧ q = .slice a n cap ∧ n ≤ cap ∧ n ≤ l.length ∧ RdB w a n rest ∧ OwnB wr w.heap.size v (b64 dn) ∧ Below w.heap.size w wr

theorem text_rel {w w6 : World} {l dn r : List UInt8} {x y z : UInt8} {v6 : Value} {b o n cap1 k : Nat} (hl : l = dn ++ (x :: y :: z :: r)) (hk : dn.length = 3 * k) (h3 : 3 ≤ n) (hnc : n ≤ cap1) (hnl : n ≤ l.length)
    (hr : RdB w (some ⟨b, o, none⟩) n (x :: y :: z :: r)) (ho : OwnB w6 w.heap.size v6 (b64 (dn ++ [x, y, z]))) (hb : Below w.heap.size w w6) :
    TextRel w l (.slice (if cap1 = 3 then some ⟨b, o, none⟩ else some ⟨b, o + 3, none⟩) (n - 3) (cap1 - 3)) v6 w6 := by
  refine ⟨v6, dn ++ [x, y, z], r, _, cap1 - 3, n - 3, k + 1, rfl, ?_, ?_, rfl, by omega, by omega, ?_, ho, hb⟩
  · show l = _
    rw [hl]; simp
  · show (dn ++ [x, y, z]).length = _
    simp [hk]; omega
  · have hd := rd_drop hr 3 h3
    simp only [List.drop_succ_cons, List.drop_zero] at hd
    split
    · have h0 : n - 3 = 0 := by omega
      rw [h0] at hd ⊢
      have : r = [] := List.eq_nil_of_length_eq_zero hd.1
      rw [this]
      exact RdB.nil _ _
    · exact hd

theorem srcB_eq1 (w : World) (a b : UInt8) : SrcB (w.alloc (.cells #[.int .u8 (a.toNat : Nat), .int .u8 (b.toNat : Nat), .int .u8 61, .int .u8 61] 5)) (.slice (some ⟨w.heap.size, 0, none⟩) 4 4) [a, b, 61, 61] := srcB_four w a b 61 61
theorem srcB_eq2 (w : World) (a b c : UInt8) : SrcB (w.alloc (.cells #[.int .u8 (a.toNat : Nat), .int .u8 (b.toNat : Nat), .int .u8 (c.toNat : Nat), .int .u8 61] 5)) (.slice (some ⟨w.heap.size, 0, none⟩) 4 4) [a, b, c, 61] := srcB_four w a b c 61

theorem text_end {w6 : World} {B : Nat} {v6 : Value} {l : List UInt8} (ho : OwnB w6 B v6 (b64 l)) :
    ∃ a m c, v6 = .slice a m c ∧ ∀ k, (convert 22 9 (.slice a m c)).run Try.prog (w6.drewN k) = .ok (.string (txt (b64 l))) (w6.drewN k) := by
  obtain ⟨a, c, rfl, hr⟩ := ho.reads
  exact ⟨a, _, c, rfl, fun k => conv_str (hr.keep (below_drewN w6 k _)) c⟩

set_option maxRecDepth 100000 in
set_option maxHeartbeats 8000000 in
theorem text_calls (a : Option Addr) (len cap : Nat) (l : List UInt8) (w : World) (h : RdB w a len l) (hc : len ≤ cap) (hb : len ≤ 100000) :
    Calls Try.prog 26 #[.slice a len cap] w fun e w' => e = .returned (.string (txt (b64 l))) ∧ Below w.heap.size w w' := by
  have H := Lib.hid h
  have HL := Lib.hid h.1
  clear h
  go_enter Try.func26, Try.ntmps26
  go_wp2_with fail
  go_loopw [0, 3] (fun q o wr => TextRel w l q o wr) (fun q _ _ => match q with | .slice _ n _ => n | _ => 0)
  case atStart => exact ⟨_, [], l, a, cap, len, 0, rfl, rfl, rfl, rfl, hc, by rw [HL.out]; exact Nat.le_refl _, H.out, World.ownsRow_nil _ _ _ _, Below.refl _ _⟩
  case round =>
    obtain ⟨v, dn, rest, a1, cap1, n, k, rfl, hl, hk, rfl, hnc, hnl, hr0, ho, hbl⟩ := hrel
    have hrl := hr0.1
    have HR0 := Lib.hid hr0
    have hr := hr0.keep hbl
    clear hr0
    by_cases h3 : 3 ≤ n
    · match rest, hrl with
      | x :: y :: z :: r, hrl =>
        obtain ⟨b, o, rfl, c0⟩ := hr.at 0 (by omega)
        obtain ⟨b', o', ha', c1⟩ := hr.at 1 (by omega)
        simp only [Option.some.injEq, Addr.mk.injEq, and_true] at ha'
        obtain ⟨rfl, rfl⟩ := ha'
        obtain ⟨b', o', ha', c2⟩ := hr.at 2 (by omega)
        simp only [Option.some.injEq, Addr.mk.injEq, and_true] at ha'
        obtain ⟨rfl, rfl⟩ := ha'
        have e0 : bAt (x :: y :: z :: r) 0 = x.toNat := rfl
        have e1 : bAt (x :: y :: z :: r) 1 = y.toNat := rfl
        have e2 : bAt (x :: y :: z :: r) 2 = z.toNat := rfl
        rw [e0, Nat.add_zero] at c0
        rw [e1] at c1
        rw [e2] at c2
        clear e0 e1 e2
        have HR := Lib.hid hr
        obtain ⟨b', o', ha', d0⟩ := HR0.out.at 0 (by omega)
        simp only [Option.some.injEq, Addr.mk.injEq, and_true] at ha'
        obtain ⟨rfl, rfl⟩ := ha'
        have hbw : b < w.heap.size := by simpa using cell_block d0
        have hdn : dn.length ≤ 100000 := by have := congrArg List.length hl.out; rw [List.length_append] at this; have := HL.out; omega
        have HO := Lib.hid ho
        have HB := Lib.hid hbl
        have hsz := hbl.size
        clear hr ho hbl
        have bx : (x.toNat : Int) < 256 := u8_lt x
        have by' : (y.toNat : Int) < 256 := u8_lt y
        have bz : (z.toNat : Int) < 256 := u8_lt z
        generalize hX : x.toNat = X at *
        generalize hY : y.toNat = Y at *
        generalize hZ : z.toNat = Z at *
        have HX := Lib.hid hX
        have HY := Lib.hid hY
        have HZ := Lib.hid hZ
        clear hX hY hZ
        have p0 : 0 < n := by omega
        have p1 : (1 : Int) < (n : Int) := by omega
        have p2 : (2 : Int) < (n : Int) := by omega
        obtain ⟨u1, hu1⟩ : ∃ u : Nat, u = X % 4 := ⟨_, rfl⟩
        obtain ⟨u2, hu2⟩ : ∃ u : Nat, u = u1 * 16 := ⟨_, rfl⟩
        obtain ⟨u3, hu3⟩ : ∃ u : Nat, u = u2 + Y / 16 := ⟨_, rfl⟩
        obtain ⟨v1, hv1⟩ : ∃ u : Nat, u = Y % 16 := ⟨_, rfl⟩
        obtain ⟨v2, hv2⟩ : ∃ u : Nat, u = v1 * 4 := ⟨_, rfl⟩
        obtain ⟨v3, hv3⟩ : ∃ u : Nat, u = v2 + Z / 64 := ⟨_, rfl⟩
        obtain ⟨z1, hz1⟩ : ∃ u : Nat, u = Z % 64 := ⟨_, rfl⟩
        have q1 : bits BinOp.and IntKind.u8 (X : Int) 3 = (u1 : Int) := by rw [hu1]; exact and_3 X (by omega)
        have q2 : IntKind.u8.wrap ((u1 : Int) * 16) = (u2 : Int) := by rw [IntKind.wrap_u8']; omega
        have q3 : bits BinOp.or IntKind.u8 (u2 : Int) ((Y : Int) / 16) = (u3 : Int) := by rw [hu3, hu2]; exact or_16 u1 Y (by omega) (by omega)
        have q4 : bits BinOp.and IntKind.u8 (Y : Int) 15 = (v1 : Int) := by rw [hv1]; exact and_15 Y (by omega)
        have q5 : IntKind.u8.wrap ((v1 : Int) * 4) = (v2 : Int) := by rw [IntKind.wrap_u8']; omega
        have q6 : bits BinOp.or IntKind.u8 (v2 : Int) ((Z : Int) / 64) = (v3 : Int) := by rw [hv3, hv2]; exact or_4 v1 Z (by omega) (by omega)
        have q7 : bits BinOp.and IntKind.u8 (Z : Int) 63 = (z1 : Int) := by rw [hz1]; exact and_63 Z (by omega)
        have b1 : (u3 : Int) < 64 := by omega
        have b2 : (v3 : Int) < 64 := by omega
        have b3 : (z1 : Int) < 64 := by omega
        have b4 : (X : Int) / 4 < 64 := by omega
        have HU := Lib.hid (show u3 = X % 4 * 16 + Y / 16 ∧ v3 = Y % 16 * 4 + Z / 64 ∧ z1 = Z % 64 by omega)
        clear hu1 hu2 hu3 hv1 hv2 hv3 hz1
        go_wp2_with fail
        have HK : Hid (∀ W, Below w.heap.size w W → W.cell? ⟨b, o, none⟩ = some (.int .u8 (X : Nat)) ∧ W.cell? ⟨b, o + 1, none⟩ = some (.int .u8 (Y : Nat)) ∧ W.cell? ⟨b, o + 2, none⟩ = some (.int .u8 (Z : Nat))) := fun W hW => by
          refine ⟨?_, ?_, ?_⟩
          · rw [hW.cell (p := ⟨b, o, none⟩) hbw, ← HB.out.cell (p := ⟨b, o, none⟩) hbw]; exact c0
          · rw [hW.cell (p := ⟨b, o + 1, none⟩) hbw, ← HB.out.cell (p := ⟨b, o + 1, none⟩) hbw]; exact c1
          · rw [hW.cell (p := ⟨b, o + 2, none⟩) hbw, ← HB.out.cell (p := ⟨b, o + 2, none⟩) hbw]; exact c2
        have i3 : n = 3 ∨ ¬ cap1 = 3 := by omega
        go_region_held3 (fun w' => w'.cell? ⟨b, o, none⟩ = some (.int .u8 (X : Nat)) ∧ w'.cell? ⟨b, o + 1, none⟩ = some (.int .u8 (Y : Nat)) ∧ w'.cell? ⟨b, o + 2, none⟩ = some (.int .u8 (Z : Nat))) (first | go_keep | exact HK.out _ hB6.out)
          ((refine step_appB (v := v) (bs := b64 dn) (l := [_, _, _, _]) (B := w.heap.size) (by rfl) _ _ (by rfl) (by rfl) (HO.out.alloc _) (by rfl) (srcB_four _ _ _ _ _) (by rw [b64_len]; simp; omega) (by simp; omega) ?_; intro v6 w6 ho6 ha6; have hB6 := Lib.hid (ha6.below ((HB.out.alloc hsz _).drew) (by simp; omega) (fun j hj => (owns_lt HO.out j hj).1)); have HO6 := Lib.hid ho6; clear ho6 ha6))
        all_goals
          have hNX := text_next (x := x) (y := y) (z := z) hk.out HO6.out ((sgB_at _ _).trans (by rw [HX.out]; first | (congr 1; done) | (congr 1; omega))) ((sgB_at _ _).trans (by rw [HU.out.1, HX.out, HY.out])) ((sgB_at _ _).trans (by rw [HU.out.2.1, HY.out, HZ.out])) ((sgB_at _ _).trans (by rw [HU.out.2.2, HZ.out]))
          have HNX := Lib.hid hNX
          clear HO6 hNX
          go_wp2_with fail
          exact ⟨text_rel hl.out hk.out h3 hnc hnl HR0.out HNX.out hB6.out, (by show n - 3 < n; omega)⟩
      | [], hrl => simp at hrl; omega
      | [_], hrl => simp at hrl; omega
      | [_, _], hrl => simp at hrl; omega
    · match rest, hrl with
      | [], hrl =>
        have hn0 : n = 0 := by simpa using hrl.symm
        subst hn0
        have hNX : OwnB wr w.heap.size v (b64 l) := by rw [hl.out, List.append_nil]; exact ho
        obtain ⟨a9, m9, c9, rfl, hcv⟩ := text_end hNX
        have hcv0 := hcv 0
        change (convert 22 9 (.slice a9 m9 c9)).run Try.prog wr = .ok _ wr at hcv0
        have HB := Lib.hid hbl
        clear hNX ho hbl hr
        go_wp2_with fail
        go_ret
        exact ⟨rfl, HB.out⟩
      | [x], hrl =>
        have hn0 : n = 1 := by simpa using hrl.symm
        subst hn0
        obtain ⟨b, o, rfl, c0⟩ := hr.at 0 (by omega)
        obtain ⟨b', o', ha', d0⟩ := HR0.out.at 0 (by omega)
        simp only [Option.some.injEq, Addr.mk.injEq, and_true] at ha'
        obtain ⟨rfl, rfl⟩ := ha'
        have hbw : b < w.heap.size := by simpa using cell_block d0
        have hdn : dn.length ≤ 100000 := by have := congrArg List.length hl.out; rw [List.length_append] at this; have := HL.out; omega
        have HO := Lib.hid ho
        have HB := Lib.hid hbl
        have hsz := hbl.size
        have e0 : bAt [x] 0 = x.toNat := rfl
        rw [e0, Nat.add_zero] at c0
        clear e0 ho hbl hr d0
        have bx : (x.toNat : Int) < 256 := u8_lt x
        generalize hX : x.toNat = X at *
        have HX := Lib.hid hX
        clear hX
        obtain ⟨u1, hu1⟩ : ∃ u : Nat, u = X % 4 := ⟨_, rfl⟩
        obtain ⟨u2, hu2⟩ : ∃ u : Nat, u = u1 * 16 := ⟨_, rfl⟩
        have q1 : bits BinOp.and IntKind.u8 (X : Int) 3 = (u1 : Int) := by rw [hu1]; exact and_3 X (by omega)
        have q2 : IntKind.u8.wrap ((u1 : Int) * 16) = (u2 : Int) := by rw [IntKind.wrap_u8']; omega
        have b1 : (u2 : Int) < 64 := by omega
        have b4 : (X : Int) / 4 < 64 := by omega
        have HU := Lib.hid (show u2 = X % 4 * 16 by omega)
        clear hu1 hu2
        have HK : Hid (∀ W, Below w.heap.size w W → W.cell? ⟨b, o, none⟩ = some (.int .u8 (X : Nat))) := fun W hW => by
          rw [hW.cell (p := ⟨b, o, none⟩) hbw, ← HB.out.cell (p := ⟨b, o, none⟩) hbw]; exact c0
        go_wp2_with fail
        go_region_held3 (fun w' => w'.cell? ⟨b, o, none⟩ = some (.int .u8 (X : Nat))) (first | go_keep | exact HK.out _ hB6.out)
          ((refine step_appB (v := v) (bs := b64 dn) (l := [_, _, 61, 61]) (B := w.heap.size) (by rfl) _ _ (by rfl) (by rfl) (HO.out.alloc _) (by rfl) (srcB_eq1 _ _ _) (by rw [b64_len]; simp; omega) (by simp; omega) ?_; intro v6 w6 ho6 ha6; have hB6 := Lib.hid (ha6.below ((HB.out.alloc hsz _).drew) (by simp; omega) (fun j hj => (owns_lt HO.out j hj).1)); have HO6 := Lib.hid ho6; clear ho6 ha6))
        all_goals
          have hNX : OwnB w6 w.heap.size v6 (b64 l) := text_one hl.out hk.out HO6.out ((sgB_at _ _).trans (by rw [HX.out]; first | (congr 1; done) | (congr 1; omega))) ((sgB_at _ _).trans (by rw [HU.out, HX.out]))
          obtain ⟨a9, m9, c9, rfl, hcv⟩ := text_end hNX
          have hcv0 := hcv 0
          change (convert 22 9 (.slice a9 m9 c9)).run Try.prog w6 = .ok _ w6 at hcv0
          clear HO6 hNX
          go_wp2_with fail
          go_ret
          exact ⟨rfl, by first | exact hB6.out | exact Below_drewN hB6.out⟩
      | [x, y], hrl =>
        have hn0 : n = 2 := by simpa using hrl.symm
        subst hn0
        obtain ⟨b, o, rfl, c0⟩ := hr.at 0 (by omega)
        obtain ⟨b', o', ha', d0⟩ := HR0.out.at 0 (by omega)
        simp only [Option.some.injEq, Addr.mk.injEq, and_true] at ha'
        obtain ⟨rfl, rfl⟩ := ha'
        have hbw : b < w.heap.size := by simpa using cell_block d0
        have hdn : dn.length ≤ 100000 := by have := congrArg List.length hl.out; rw [List.length_append] at this; have := HL.out; omega
        have HO := Lib.hid ho
        have HB := Lib.hid hbl
        have hsz := hbl.size
        obtain ⟨b', o', ha', c1⟩ := hr.at 1 (by omega)
        simp only [Option.some.injEq, Addr.mk.injEq, and_true] at ha'
        obtain ⟨rfl, rfl⟩ := ha'
        have e0 : bAt [x, y] 0 = x.toNat := rfl
        have e1 : bAt [x, y] 1 = y.toNat := rfl
        rw [e0, Nat.add_zero] at c0
        rw [e1] at c1
        clear e0 e1 ho hbl hr d0
        have bx : (x.toNat : Int) < 256 := u8_lt x
        have by' : (y.toNat : Int) < 256 := u8_lt y
        generalize hX : x.toNat = X at *
        generalize hY : y.toNat = Y at *
        have HX := Lib.hid hX
        have HY := Lib.hid hY
        clear hX hY
        obtain ⟨u1, hu1⟩ : ∃ u : Nat, u = X % 4 := ⟨_, rfl⟩
        obtain ⟨u2, hu2⟩ : ∃ u : Nat, u = u1 * 16 := ⟨_, rfl⟩
        obtain ⟨u3, hu3⟩ : ∃ u : Nat, u = u2 + Y / 16 := ⟨_, rfl⟩
        obtain ⟨v1, hv1⟩ : ∃ u : Nat, u = Y % 16 := ⟨_, rfl⟩
        obtain ⟨v2, hv2⟩ : ∃ u : Nat, u = v1 * 4 := ⟨_, rfl⟩
        have q1 : bits BinOp.and IntKind.u8 (X : Int) 3 = (u1 : Int) := by rw [hu1]; exact and_3 X (by omega)
        have q2 : IntKind.u8.wrap ((u1 : Int) * 16) = (u2 : Int) := by rw [IntKind.wrap_u8']; omega
        have q3 : bits BinOp.or IntKind.u8 (u2 : Int) ((Y : Int) / 16) = (u3 : Int) := by rw [hu3, hu2]; exact or_16 u1 Y (by omega) (by omega)
        have q4 : bits BinOp.and IntKind.u8 (Y : Int) 15 = (v1 : Int) := by rw [hv1]; exact and_15 Y (by omega)
        have q5 : IntKind.u8.wrap ((v1 : Int) * 4) = (v2 : Int) := by rw [IntKind.wrap_u8']; omega
        have b1 : (u3 : Int) < 64 := by omega
        have b2 : (v2 : Int) < 64 := by omega
        have b4 : (X : Int) / 4 < 64 := by omega
        have HU := Lib.hid (show u3 = X % 4 * 16 + Y / 16 ∧ v2 = Y % 16 * 4 by omega)
        clear hu1 hu2 hu3 hv1 hv2
        have HK : Hid (∀ W, Below w.heap.size w W → W.cell? ⟨b, o, none⟩ = some (.int .u8 (X : Nat)) ∧ W.cell? ⟨b, o + 1, none⟩ = some (.int .u8 (Y : Nat))) := fun W hW => by
          refine ⟨?_, ?_⟩
          · rw [hW.cell (p := ⟨b, o, none⟩) hbw, ← HB.out.cell (p := ⟨b, o, none⟩) hbw]; exact c0
          · rw [hW.cell (p := ⟨b, o + 1, none⟩) hbw, ← HB.out.cell (p := ⟨b, o + 1, none⟩) hbw]; exact c1
        go_wp2_with fail
        go_region_held3 (fun w' => w'.cell? ⟨b, o, none⟩ = some (.int .u8 (X : Nat)) ∧ w'.cell? ⟨b, o + 1, none⟩ = some (.int .u8 (Y : Nat))) (first | go_keep | exact HK.out _ hB6.out)
          ((refine step_appB (v := v) (bs := b64 dn) (l := [_, _, _, 61]) (B := w.heap.size) (by rfl) _ _ (by rfl) (by rfl) (HO.out.alloc _) (by rfl) (srcB_eq2 _ _ _ _) (by rw [b64_len]; simp; omega) (by simp; omega) ?_; intro v6 w6 ho6 ha6; have hB6 := Lib.hid (ha6.below ((HB.out.alloc hsz _).drew) (by simp; omega) (fun j hj => (owns_lt HO.out j hj).1)); have HO6 := Lib.hid ho6; clear ho6 ha6))
        all_goals
          have hNX : OwnB w6 w.heap.size v6 (b64 l) := text_two hl.out hk.out HO6.out ((sgB_at _ _).trans (by rw [HX.out]; first | (congr 1; done) | (congr 1; omega))) ((sgB_at _ _).trans (by rw [HU.out.1, HX.out, HY.out])) ((sgB_at _ _).trans (by rw [HU.out.2, HY.out]))
          obtain ⟨a9, m9, c9, rfl, hcv⟩ := text_end hNX
          have hcv0 := hcv 0
          change (convert 22 9 (.slice a9 m9 c9)).run Try.prog w6 = .ok _ w6 at hcv0
          clear HO6 hNX
          go_wp2_with fail
          go_ret
          exact ⟨rfl, by first | exact hB6.out | exact Below_drewN hB6.out⟩
      | _ :: _ :: _ :: _, hrl => simp at hrl; omega

end Go.Proofs.Ytolmeimipchndaa
