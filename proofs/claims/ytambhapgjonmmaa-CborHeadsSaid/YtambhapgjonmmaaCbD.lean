/- CborHeads, walked. -/
import Derived.Test.YtambhapgjonmmaaCbC
namespace Go.Proofs.Ytambhapgjonmmaa
open Go.RowKit
set_option linter.unusedVariables false
set_option linter.unusedSimpArgs false

def EncS (w : World) (l : List UInt8) (L : Nat) (e : Ending) (w' : World) : Prop := ∃ b o cp, e = .returned (.tuple #[.slice (some ⟨b, o, none⟩) L cp, .int .i64 0]) ∧ RdB w' (some ⟨b, o, none⟩) L l ∧ L ≤ cp ∧ Below w.heap.size w w'

theorem encS (x : I) (l : List UInt8) (hx : x.wt ≤ 100000) (he : errI x = 0) (hl : layI x = l) (L : Nat) (hL : l.length = L) (h0 : 0 < L) (w : World) (c : Array Value) (h : RdIt (fun _ => True) w x c) : Calls Try.prog 11 #[.agg c] w (EncS w l L) := by
  subst hL
  refine (encode28 x hx w c h).mono ?_
  rintro e w' ⟨a, m, cp, rfl, h1, h2, h3, h4⟩
  rw [he, if_pos rfl, hl] at h1
  obtain rfl := h1.1
  obtain ⟨b, o, rfl, _⟩ := h1.at 0 h0
  exact ⟨b, o, cp, by rw [he]; rfl, h1, h3, h4⟩

theorem enc_num (k : Int) (m : Nat) (hk : (k = 1 ∧ m = 0) ∨ (k = 2 ∧ m = 1)) (n : Nat) (hn : n < okSize) (L : Nat) (hL : L = 1 + needN n) (w : World) :
    Calls Try.prog 11 #[.agg #[.int .i64 k, .int .u64 (n : Nat), .slice none 0 0, .string ⟨#[]⟩, .slice none 0 0]] w (EncS w (headB m n) L) := by
  refine encS (.mk k n [] ⟨#[]⟩ .nil) _ ?_ (err_int k (by omega) n) ?_ L (by rw [headB_len, hL]) (by omega) w _ (int_rd k (by omega) n hn w)
  · simp only [I.wt, IL.wt, List.length_nil, show (⟨#[]⟩ : ByteArray).size = 0 from rfl]; omega
  · rcases hk with ⟨rfl, rfl⟩ | ⟨rfl, rfl⟩ <;> simp [layI, layIs]

theorem tag_rd (n m : Nat) (hn : n < okSize) (hm : m < okSize) (w : World) (t : TypeId) :
    RdIt (fun _ => True) (w.alloc (.cells #[.int .i64 1, .int .u64 (m : Nat), .slice none 0 0, .string ⟨#[]⟩, .slice none 0 0] t)) (.mk 7 n [] ⟨#[]⟩ (.cons (.mk 1 m [] ⟨#[]⟩ .nil) .nil))
      #[.int .i64 7, .int .u64 (n : Nat), .slice none 0 0, .string ⟨#[]⟩, .slice (some ⟨w.heap.size, 0, none⟩) 1 1] := by
  refine ⟨none, 0, 0, some ⟨w.heap.size, 0, none⟩, 1, 1, rfl, ⟨by omega, hn, by decide⟩, ⟨RdB.nil _ _, fun h => absurd h (by omega)⟩, rfl, ⟨by omega, ⟨by simp, by omega⟩, ⟨fun _ => rfl, by omega⟩⟩, ⟨⟨w.heap.size, 0, _, rfl, trivial, ?_, int_rd 1 (by omega) m hm _⟩, trivial⟩⟩
  intro j hj
  have : j = 0 ∨ j = 1 ∨ j = 2 ∨ j = 3 ∨ j = 4 := by omega
  rcases this with rfl | rfl | rfl | rfl | rfl <;> simp [go_sem]
theorem enc_tag (n m : Nat) (hn : n < okSize) (hm : m < okSize) (L : Nat) (hL : L = 1 + needN n + (1 + needN m)) (w : World) :
    Calls Try.prog 11 #[.agg #[.int .i64 7, .int .u64 (n : Nat), .slice none 0 0, .string ⟨#[]⟩, .slice (some ⟨w.heap.size, 0, none⟩) 1 1]] (w.alloc (.cells #[.int .i64 1, .int .u64 (m : Nat), .slice none 0 0, .string ⟨#[]⟩, .slice none 0 0] 26)) (EncS w (headB 6 n ++ headB 0 m) L) := by
  refine (encS (.mk 7 n [] ⟨#[]⟩ (.cons (.mk 1 m [] ⟨#[]⟩ .nil) .nil)) (headB 6 n ++ headB 0 m) ?_ ?_ ?_ L ?_ (by omega) _ _ (tag_rd n m hn hm w _)).mono ?_
  · simp only [I.wt, IL.wt, List.length_nil, show (⟨#[]⟩ : ByteArray).size = 0 from rfl]; omega
  · have h0 : wholeTo (sl ⟨#[]⟩) = 0 := by decide
    have h1 : (⟨#[]⟩ : ByteArray).size = 0 := rfl
    have h2 := err_int 1 (.inl rfl) m
    simp [errI, fieldsB, h0, h1, errIs, IL.len]
  · simp [layI, layIs]
  · simp only [List.length_append, headB_len]; omega
  · rintro e w' ⟨b, o, cp, h1, h2, h3, h5⟩
    exact ⟨b, o, cp, h1, h2, h3, ((Below.refl w.heap.size w).alloc (Nat.le_refl _) _).trans (h5.mono (by simp))⟩

theorem head_first (m n : Nat) (hm : m ≤ 7) : bAt (headB m n) 0 = 32 * m + codeN n := by
  have := codeN_le n
  show (UInt8.ofNat (32 * m + codeN n)).toNat = _
  simp only [UInt8.toNat_ofNat']
  omega
theorem wf_u64b {n : Int} (h : (Lit.int .u64 n).wf = true) : 0 ≤ n ∧ n.toNat < okSize := by
  simp [Lit.wf, IntKind.min, IntKind.max, IntKind.signed, IntKind.bits, okSize] at *; omega
theorem seg_rd2 {w : World} {b o n : Nat} {bs : List UInt8} (h : RdB w (some ⟨b, o, none⟩) n bs) (p k : Nat) (hl : bs.length = p + k) : RdB w (some ⟨b, o + p, none⟩) k (seg bs p k) := by
  obtain rfl := h.1
  exact seg_rd h p k (by omega)
theorem needN_mono (n m : Nat) (h : n ≤ m) : needN n ≤ needN m := by unfold needN; (repeat' split) <;> omega

theorem head_tail (k n m : Nat) : seg (headB k n ++ headB 0 m) (headB k n).length (headB 0 m).length = headB 0 m := by
  unfold seg
  rw [List.drop_left, List.take_length]

set_option maxRecDepth 100000 in
set_option maxHeartbeats 4000000 in
theorem CborHeads_walk (w : World) (n0 : Int) (hn0 : (Lit.int .u64 n0).wf = true) (m0 : Int) (hm0 : (Lit.int .u64 m0).wf = true) :
    Calls Try.prog 8 #[.int .u64 n0, .int .u64 m0] w fun e w' => e = .returned (.bool true) ∧ Below w.heap.size w w' := by
  obtain ⟨n, hn, rfl⟩ : ∃ n : Nat, n < okSize ∧ n0 = n := by have := wf_u64b hn0; exact ⟨n0.toNat, this.2, by omega⟩
  obtain ⟨m, hm, rfl⟩ : ∃ n : Nat, n < okSize ∧ m0 = n := by have := wf_u64b hm0; exact ⟨m0.toNat, this.2, by omega⟩
  have CA := Lib.hid awake28
  obtain ⟨La, hLa⟩ : ∃ L, L = 1 + needN n := ⟨_, rfl⟩
  obtain ⟨Ld, hLd⟩ : ∃ L, L = 1 + needN m := ⟨_, rfl⟩
  obtain ⟨Lc, hLc⟩ : ∃ L, L = La + Ld := ⟨_, rfl⟩
  have HL : Hid (La = 1 + needN n ∧ Ld = 1 + needN m ∧ Lc = La + Ld) := ⟨hLa, hLd, hLc⟩
  have C1 := Lib.hid (enc_num 1 0 (.inl ⟨rfl, rfl⟩) n hn La hLa)
  have C2 := Lib.hid (enc_num 2 1 (.inr ⟨rfl, rfl⟩) n hn La hLa)
  have C3 := Lib.hid (enc_tag n m hn hm Lc (by omega))
  have C4 := Lib.hid (enc_num 1 0 (.inl ⟨rfl, rfl⟩) m hm Ld hLd)
  have hq1 : 1 ≤ La ∧ La ≤ 9 := by have := needN_le n; omega
  have hq2 : 1 ≤ Ld ∧ Ld ≤ 9 := by have := needN_le m; omega
  obtain ⟨qa1, qa2⟩ := hq1
  obtain ⟨qd1, qd2⟩ := hq2
  clear hn0 hm0 hn hm hLa hLd hLc
  go_enter Try.func8, Try.ntmps8
  go_wp2_with fail
  refine (CA.out _).mono ?_
  rintro e w1 ⟨rfl, hb1⟩
  have HB1 := Lib.hid hb1
  clear hb1 CA
  go_wp2_with fail
  refine (C1.out _).mono ?_
  rintro e w2 ⟨b1, o1, p1, rfl, hr1, hp1, hb2⟩
  have HR1 := Lib.hid hr1
  have HB2 : Hid (Below w.heap.size w w2) := HB1.out.trans (hb2.mono HB1.out.size)
  have HK2 := Lib.hid (Below.refl w2.heap.size w2)
  clear hr1 hb2 C1
  go_wp2_with fail
  refine (C2.out _).mono ?_
  rintro e w3 ⟨b2, o2, p2, rfl, hr2, hp2, hb3⟩
  have HR2 := Lib.hid hr2
  have HK3 := Lib.hid hb3
  clear hr2 hb3 C2
  go_wp2_with fail
  refine (C3.out _).mono ?_
  rintro e w4 ⟨b3, o3, p3, rfl, hr3, hp3, hb4⟩
  have HR3 := Lib.hid hr3
  have HK4 := Lib.hid hb4
  clear hr3 hb4 C3
  go_wp2_with fail
  refine (C4.out _).mono ?_
  rintro e w5 ⟨b4, o4, p4, rfl, hr4, hp4, hb5⟩
  have HR4 := Lib.hid hr4
  have HK5 := Lib.hid hb5
  clear hr4 hb5 C4
  have HW25 : Hid (Below w2.heap.size w2 w5) := HK3.out.trans ((HK4.out.trans (HK5.out.mono HK4.out.size)).mono HK3.out.size)
  have HE : Hid (Below w.heap.size w w5) := HB2.out.trans (HW25.out.mono HB2.out.size)
  have r1 := HR1.out.keep HW25.out
  have r2 := HR2.out.keep (HK4.out.trans (HK5.out.mono HK4.out.size))
  have r3 := HR3.out.keep HK5.out
  have r4 := HR4.out
  have e1 := head_first 0 n (by omega)
  have e2 := head_first 1 n (by omega)
  have e3 : bAt (headB 6 n ++ headB 0 m) 0 = 32 * 6 + codeN n := head_first 6 n (by omega)
  obtain ⟨hLa, hLd, hLc⟩ := HL.out
  have hs := seg_rd2 r3 La Ld (by rw [← hLc]; exact r3.1)
  rw [show seg (headB 6 n ++ headB 0 m) La Ld = headB 0 m by have := head_tail 6 n m; rwa [headB_len, headB_len, ← hLa, ← hLd] at this] at hs
  have hmono := needN_mono n m
  have hc := codeN_le n
  obtain ⟨b1', o1', ha1, d1⟩ := r1.at 0 (by omega)
  obtain ⟨b2', o2', ha2, d2⟩ := r2.at 0 (by omega)
  obtain ⟨b3', o3', ha3, d3⟩ := r3.at 0 (by omega)
  simp only [Option.some.injEq, Addr.mk.injEq, and_true] at ha1 ha2 ha3
  obtain ⟨rfl, rfl⟩ := ha1
  obtain ⟨rfl, rfl⟩ := ha2
  obtain ⟨rfl, rfl⟩ := ha3
  rw [e1, Nat.mul_zero, Nat.zero_add] at d1
  rw [e2] at d2
  rw [e3] at d3
  rw [Nat.add_zero] at d1 d2 d3
  clear r1 r2 r3 e1 e2 e3
  obtain ⟨X, hX⟩ : ∃ X, X = codeN n := ⟨_, rfl⟩
  rw [← hX] at d1 d2 d3 hc
  obtain ⟨Y, hY⟩ : ∃ Y, Y = 32 * 1 + X := ⟨_, rfl⟩
  obtain ⟨Z, hZ⟩ : ∃ Z, Z = 32 * 6 + X := ⟨_, rfl⟩
  rw [← hY] at d2
  rw [← hZ] at d3
  have wy : IntKind.u8.wrap ((X : Int) + 32) = (Y : Int) := (IntWalk.u8_in _ (by omega)).trans (by omega)
  have wz : IntKind.u8.wrap ((X : Int) + 192) = (Z : Int) := (IntWalk.u8_in _ (by omega)).trans (by omega)
  have wl : IntKind.i64.wrap ((La : Int) + (Ld : Int)) = (Lc : Int) := (IntWalk.i64_in _ (by omega)).trans (by omega)
  have g1 : decide ((La : Int) < 1) = false := by simp; omega
  have i1 : (0 : Int) < (La : Int) := by omega
  have i3 : (0 : Int) < (Lc : Int) := by omega
  have i4 : (La : Int) ≤ (Lc : Int) := by omega
  have i5 : (Lc : Int) ≤ (p3 : Int) := by omega
  have j1 : 0 < La := by omega
  have j3 : 0 < Lc := by omega
  have i6 : Lc - La = Ld := by omega
  obtain ⟨T, hT⟩ : ∃ T, T = txt (headB 0 m) := ⟨_, rfl⟩
  have cv1 := fun nq => conv_str (hs.keep (below_drewN w5 nq w5.heap.size)) (p3 - La)
  have cv2 := fun nq => conv_str (r4.keep (below_drewN w5 nq w5.heap.size)) p4
  rw [← hT] at cv1 cv2
  have hnm : n ≤ m → La ≤ Ld := by intro h; have := hmono h; omega
  clear hX hY hZ hT hc hs r4 hmono hLa hLd hLc
  by_cases hlt : m < n
  · have g2 : decide ((m : Int) < (n : Int)) = true := by simp; omega
    have g4 : decide (m < n) = true := by simp; omega
    have g5 : m < n := hlt
    clear hlt hnm
    go_wp2_with fail
    go_quiet (fail)
    go_wp2_with fail
    go_ret
    exact ⟨rfl, HE.out.trans ((below_drewN _ _ _).mono HE.out.size)⟩
  · have g2 : decide ((m : Int) < (n : Int)) = false := by simp; omega
    have g3 : decide ((La : Int) ≤ (Ld : Int)) = true := by have := hnm (by omega); simp; omega
    have g4 : decide (m < n) = false := by simp; omega
    have g5 : decide (La ≤ Ld) = true := by have := hnm (by omega); simp; omega
    have g6 : La ≤ Ld := by have := hnm (by omega); omega
    clear hlt hnm
    go_wp2_with fail
    go_quiet (fail)
    go_wp2_with fail
    go_ret
    exact ⟨rfl, HE.out.trans ((below_drewN _ _ _).mono HE.out.size)⟩

end Go.Proofs.Ytambhapgjonmmaa
