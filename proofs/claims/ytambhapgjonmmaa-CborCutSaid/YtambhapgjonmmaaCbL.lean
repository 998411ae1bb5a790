/- cbor: how long a head is, a head, an item laid. -/
import Derived.Test.YtambhapgjonmmaaCbP
import Derived.Test.YtambhapgjonmmaaCbG
import Derived.Test.YtambhapgjonmmaaConv
namespace Go.Proofs.Ytambhapgjonmmaa
open Go.RowKit
set_option linter.unusedVariables false
set_option linter.unusedSimpArgs false

set_option maxRecDepth 100000 in
set_option maxHeartbeats 1000000 in
theorem need_calls (n : Nat) (w : World) : Calls Try.prog 48 #[.int .u64 (n : Nat)] w fun e w' => e = .returned (.int .i64 (needN n : Nat)) ∧ w = w' := by
  by_cases h0 : n < 24
  · have HE : Hid (needN n = 0) := by show _ = _; unfold needN; rw [if_pos h0]
    have d0 : decide ((n : Int) < 24) = true := by simp; omega
    clear h0
    go_enter Try.func48, Try.ntmps48
    go_wp2_with fail
    go_ret
    exact ⟨by rw [HE.out]; rfl, rfl⟩
  have d0 : decide ((n : Int) < 24) = false := by simp; omega
  by_cases h1 : n < 256
  · have HE : Hid (needN n = 1) := by show _ = _; unfold needN; rw [if_neg h0, if_pos h1]
    have d1 : decide ((n : Int) < 256) = true := by simp; omega
    clear h1
    go_enter Try.func48, Try.ntmps48
    go_wp2_with fail
    go_ret
    exact ⟨by rw [HE.out]; rfl, rfl⟩
  have d1 : decide ((n : Int) < 256) = false := by simp; omega
  by_cases h2 : n < 65536
  · have HE : Hid (needN n = 2) := by show _ = _; unfold needN; rw [if_neg h0, if_neg h1, if_pos h2]
    have d2 : decide ((n : Int) < 65536) = true := by simp; omega
    clear h2
    go_enter Try.func48, Try.ntmps48
    go_wp2_with fail
    go_ret
    exact ⟨by rw [HE.out]; rfl, rfl⟩
  have d2 : decide ((n : Int) < 65536) = false := by simp; omega
  by_cases h3 : n < 4294967296
  · have HE : Hid (needN n = 4) := by show _ = _; unfold needN; rw [if_neg h0, if_neg h1, if_neg h2, if_pos h3]
    have d3 : decide ((n : Int) < 4294967296) = true := by simp; omega
    clear h3
    go_enter Try.func48, Try.ntmps48
    go_wp2_with fail
    go_ret
    exact ⟨by rw [HE.out]; rfl, rfl⟩
  have d3 : decide ((n : Int) < 4294967296) = false := by simp; omega
  have HE : Hid (needN n = 8) := by show _ = _; unfold needN; rw [if_neg h0, if_neg h1, if_neg h2, if_neg h3]
  clear h0 h1 h2 h3
  go_enter Try.func48, Try.ntmps48
  go_wp2_with fail
  go_ret
  exact ⟨by rw [HE.out]; rfl, rfl⟩

theorem byte_mod (x : Nat) : UInt8.ofNat ((x : Int) % 256).toNat = UInt8.ofNat x := by
  have e : ((x : Int) % 256).toNat = x % 256 := by omega
  rw [e]
  apply UInt8.toNat_inj.1
  simp

set_option maxRecDepth 100000 in
set_option maxHeartbeats 2000000 in
theorem head_calls (g : Nat) (v : Value) (bs : List UInt8) (w : World) (B : Nat) (h : Wtr w B g v bs) (hB : B ≤ w.heap.size) (hn : bs.length ≤ 900000000) (m n : Nat) (hm : m ≤ 7) (hx : n < okSize) :
    Calls Try.prog 37 #[.pointer (some ⟨g, 0, none⟩), .int .i64 (m : Nat), .int .u64 (n : Nat)] w fun e w' => e = .returned (.tuple #[]) ∧ WStep w B g v (bs ++ headB m n) w' := by
  have H := Lib.hid h
  have CN := Lib.hid (need_calls n)
  have CB := Lib.hid (fun x => wbyte_calls g v bs w B h hB (by omega) x)
  have CH := Lib.hid (fun W vr l k (h : Wtr W B g vr l) hB hl h1 h8 => whigh_yes g vr l W B h hB hl n k hx h1 h8)
  have C0 := Lib.hid (fun W => whigh_no g W (n : Nat) 0 (by omega))
  have hs := (WGo.refl h)
  have HGO0 := Lib.hid hs
  have hlx : n < 18446744073709551616 := hx
  clear h hs
  obtain ⟨m32, hm32⟩ : ∃ x, x = 32 * m := ⟨_, rfl⟩
  have w1 : IntKind.i64.wrap (32 * (m : Int)) = (m32 : Int) := (IntWalk.i64_in _ (by omega)).trans (by omega)
  have HM := Lib.hid hm32
  by_cases h0 : n < 24
  · have HE : Hid (needN n = 0) := by show _ = _; unfold needN; rw [if_pos h0]
    have HC : Hid (codeN n = n) := by show _ = _; unfold codeN; rw [if_pos h0]
    rw [HE.out] at CN
    obtain ⟨X, hX⟩ : ∃ x, x = m32 + n := ⟨_, rfl⟩
    have w2 : IntKind.i64.wrap (n : Int) = (n : Int) := IntWalk.i64_in _ (by omega)
    have w3 : IntKind.i64.wrap ((m32 : Int) + (n : Int)) = (X : Int) := (IntWalk.i64_in _ (by omega)).trans (by omega)
    have HX : Hid (headB m n = UInt8.ofNat X :: (leBytes 0 n).reverse) := by
      show _ = _
      unfold headB
      rw [HE.out, HC.out, ← HM.out, hX]
    clear hX hm32 h0
    go_enter Try.func37, Try.ntmps37
    go_wp2_with fail
    refine (CN.out _).mono ?_
    rintro e w2' ⟨rfl, rfl⟩
    go_wp2_with fail
    refine (CB.out _).mono ?_
    rintro e w3' ⟨rfl, hst⟩
    rw [byte_mod] at hst
    obtain ⟨v3, hgo3⟩ := HGO0.out.step hst
    have HGO := Lib.hid hgo3
    clear hst hgo3
    go_wp2_with fail
    refine (C0.out _).mono ?_
    rintro e w4 ⟨rfl, rfl⟩
    go_wp2_with fail
    go_end0
    refine ⟨rfl, ?_⟩
    rw [HX.out]
    exact HGO.out.wstep
  by_cases h1 : n < 256
  · have HE : Hid (needN n = 1) := by show _ = _; unfold needN; rw [if_neg h0, if_pos h1]
    have HC : Hid (codeN n = 24) := by show _ = _; unfold codeN; rw [if_neg h0, if_pos h1]
    rw [HE.out] at CN
    obtain ⟨X, hX⟩ : ∃ x, x = m32 + 24 := ⟨_, rfl⟩
    have w3 : IntKind.i64.wrap ((m32 : Int) + 24) = (X : Int) := (IntWalk.i64_in _ (by omega)).trans (by omega)
    have HX : Hid (headB m n = UInt8.ofNat X :: (leBytes 1 n).reverse) := by
      show _ = _
      unfold headB
      rw [HE.out, HC.out, ← HM.out, hX]
    clear hX hm32 h1
    go_enter Try.func37, Try.ntmps37
    go_wp2_with fail
    refine (CN.out _).mono ?_
    rintro e w2' ⟨rfl, rfl⟩
    go_wp2_with fail
    refine (CB.out _).mono ?_
    rintro e w3' ⟨rfl, hst⟩
    rw [byte_mod] at hst
    obtain ⟨v3, hgo3⟩ := HGO0.out.step hst
    have HGO := Lib.hid hgo3
    clear hst hgo3
    go_wp2_with fail
    refine (CH.out w3' v3 _ 1 HGO.out.1 (Nat.le_trans hB HGO.out.2.1.size) (by simp; omega) (by omega) (by omega)).mono ?_
    rintro e w4 ⟨rfl, hst⟩
    obtain ⟨v4, hgo4⟩ := HGO.out.step hst
    have HGO4 := Lib.hid hgo4
    clear hst hgo4
    go_wp2_with fail
    go_end0
    refine ⟨rfl, ?_⟩
    rw [HX.out]
    have := HGO4.out.wstep
    rwa [List.append_assoc] at this
  by_cases h2 : n < 65536
  · have HE : Hid (needN n = 2) := by show _ = _; unfold needN; rw [if_neg h0, if_neg h1, if_pos h2]
    have HC : Hid (codeN n = 25) := by show _ = _; unfold codeN; rw [if_neg h0, if_neg h1, if_pos h2]
    rw [HE.out] at CN
    obtain ⟨X, hX⟩ : ∃ x, x = m32 + 25 := ⟨_, rfl⟩
    have w3 : IntKind.i64.wrap ((m32 : Int) + 25) = (X : Int) := (IntWalk.i64_in _ (by omega)).trans (by omega)
    have HX : Hid (headB m n = UInt8.ofNat X :: (leBytes 2 n).reverse) := by
      show _ = _
      unfold headB
      rw [HE.out, HC.out, ← HM.out, hX]
    clear hX hm32 h2
    go_enter Try.func37, Try.ntmps37
    go_wp2_with fail
    refine (CN.out _).mono ?_
    rintro e w2' ⟨rfl, rfl⟩
    go_wp2_with fail
    refine (CB.out _).mono ?_
    rintro e w3' ⟨rfl, hst⟩
    rw [byte_mod] at hst
    obtain ⟨v3, hgo3⟩ := HGO0.out.step hst
    have HGO := Lib.hid hgo3
    clear hst hgo3
    go_wp2_with fail
    refine (CH.out w3' v3 _ 2 HGO.out.1 (Nat.le_trans hB HGO.out.2.1.size) (by simp; omega) (by omega) (by omega)).mono ?_
    rintro e w4 ⟨rfl, hst⟩
    obtain ⟨v4, hgo4⟩ := HGO.out.step hst
    have HGO4 := Lib.hid hgo4
    clear hst hgo4
    go_wp2_with fail
    go_end0
    refine ⟨rfl, ?_⟩
    rw [HX.out]
    have := HGO4.out.wstep
    rwa [List.append_assoc] at this
  by_cases h3 : n < 4294967296
  · have HE : Hid (needN n = 4) := by show _ = _; unfold needN; rw [if_neg h0, if_neg h1, if_neg h2, if_pos h3]
    have HC : Hid (codeN n = 26) := by show _ = _; unfold codeN; rw [if_neg h0, if_neg h1, if_neg h2, if_pos h3]
    rw [HE.out] at CN
    obtain ⟨X, hX⟩ : ∃ x, x = m32 + 26 := ⟨_, rfl⟩
    have w3 : IntKind.i64.wrap ((m32 : Int) + 26) = (X : Int) := (IntWalk.i64_in _ (by omega)).trans (by omega)
    have HX : Hid (headB m n = UInt8.ofNat X :: (leBytes 4 n).reverse) := by
      show _ = _
      unfold headB
      rw [HE.out, HC.out, ← HM.out, hX]
    clear hX hm32 h3
    go_enter Try.func37, Try.ntmps37
    go_wp2_with fail
    refine (CN.out _).mono ?_
    rintro e w2' ⟨rfl, rfl⟩
    go_wp2_with fail
    refine (CB.out _).mono ?_
    rintro e w3' ⟨rfl, hst⟩
    rw [byte_mod] at hst
    obtain ⟨v3, hgo3⟩ := HGO0.out.step hst
    have HGO := Lib.hid hgo3
    clear hst hgo3
    go_wp2_with fail
    refine (CH.out w3' v3 _ 4 HGO.out.1 (Nat.le_trans hB HGO.out.2.1.size) (by simp; omega) (by omega) (by omega)).mono ?_
    rintro e w4 ⟨rfl, hst⟩
    obtain ⟨v4, hgo4⟩ := HGO.out.step hst
    have HGO4 := Lib.hid hgo4
    clear hst hgo4
    go_wp2_with fail
    go_end0
    refine ⟨rfl, ?_⟩
    rw [HX.out]
    have := HGO4.out.wstep
    rwa [List.append_assoc] at this
  have HE : Hid (needN n = 8) := by show _ = _; unfold needN; rw [if_neg h0, if_neg h1, if_neg h2, if_neg h3]
  have HC : Hid (codeN n = 27) := by show _ = _; unfold codeN; rw [if_neg h0, if_neg h1, if_neg h2, if_neg h3]
  rw [HE.out] at CN
  obtain ⟨X, hX⟩ : ∃ x, x = m32 + 27 := ⟨_, rfl⟩
  have w3 : IntKind.i64.wrap ((m32 : Int) + 27) = (X : Int) := (IntWalk.i64_in _ (by omega)).trans (by omega)
  have HX : Hid (headB m n = UInt8.ofNat X :: (leBytes 8 n).reverse) := by
    show _ = _
    unfold headB
    rw [HE.out, HC.out, ← HM.out, hX]
  clear hX hm32 h0 h1 h2 h3
  go_enter Try.func37, Try.ntmps37
  go_wp2_with fail
  refine (CN.out _).mono ?_
  rintro e w2' ⟨rfl, rfl⟩
  go_wp2_with fail
  refine (CB.out _).mono ?_
  rintro e w3' ⟨rfl, hst⟩
  rw [byte_mod] at hst
  obtain ⟨v3, hgo3⟩ := HGO0.out.step hst
  have HGO := Lib.hid hgo3
  clear hst hgo3
  go_wp2_with fail
  refine (CH.out w3' v3 _ 8 HGO.out.1 (Nat.le_trans hB HGO.out.2.1.size) (by simp; omega) (by omega) (by omega)).mono ?_
  rintro e w4 ⟨rfl, hst⟩
  obtain ⟨v4, hgo4⟩ := HGO.out.step hst
  have HGO4 := Lib.hid hgo4
  clear hst hgo4
  go_wp2_with fail
  go_end0
  refine ⟨rfl, ?_⟩
  rw [HX.out]
  have := HGO4.out.wstep
  rwa [List.append_assoc] at this

end Go.Proofs.Ytambhapgjonmmaa
