/- LexCodes: the walk. -/
import Derived.Test.YtamhdoijmkjngaaLexCp
import Derived.Test.YtamhdoijmkjngaaUtfC
namespace Go.Proofs.Ytamhdoijmkjngaa
open Go.RowKit
set_option linter.unusedVariables false
set_option linter.unusedSimpArgs false

theorem sl_append (a b : ByteArray) : sl (a ++ b) = sl a ++ sl b := by unfold sl; simp

theorem conv_keep {w0 : World} {B : Nat} {v : Value} {l : List UInt8} (ho : OwnB w0 B v l) : ∃ a m c, v = .slice a m c ∧ ∀ W, Below w0.heap.size w0 W → ∀ o1 o2, (convert 47 9 (.slice a m c)).run Try.prog ((W.alloc o1).alloc o2) = .ok (.string (txt l)) ((W.alloc o1).alloc o2) := by
  obtain ⟨a, c, rfl, hr⟩ := ho.reads
  refine ⟨a, _, c, rfl, fun W hW o1 o2 => conv_str (hr.keep ?_) c⟩
  exact (hW.alloc hW.size o1).alloc (by have := hW.size; simp; omega) o2

/-- A code's text, as a letter. -/
theorem code_of (r : Nat) (hr : r ≤ 2000000) (g : Bool) : ∃ S : ByteArray, sl S = codeT r g ∧ S.size = 6 ∧ ∀ W, Calls Try.prog 31 #[.int .i64 r, .bool g] W fun e w' => e = .returned (.string S) ∧ Below W.heap.size W w' :=
  ⟨txt (codeT r g), sl_txt _, by rw [txt_size]; rfl, fun W => lcode_calls r hr g W⟩

theorem next_of (b : ByteArray) (l : List UInt8) (R : LexR) (hl : sl b = l) (hR : nextS l = R) (hs : l.length ≤ 100) (W : World) : Calls Try.prog 26 #[.string b, .int .i64 0] W (LexOut W R) := by
  have h := next_calls b (by rw [← sl_len, hl]; omega) 0 (by omega) W
  rw [nextI_zero, hl, hR] at h
  exact h

set_option maxRecDepth 100000 in
set_option maxHeartbeats 8000000 in
theorem LexCodes_walk (w : World) (r : Int) (hr : (Lit.int .i64 r).wf = true) (g : Bool) :
    Calls Try.prog 7 #[.int .i64 r, .bool g] w fun e w' => e = .returned (.bool true) ∧ Below w.heap.size w w' := by
  have CA := fun W => Lib.hid (awake22 W)
  have CPu := fun W => Lib.hid (rput_calls r W)
  clear hr
  cases hi : isCh r with
  | false =>
    have CP' : ∀ W, Hid (Calls Try.prog 30 #[.int .i64 r] W fun e w' => e = .returned (.tuple #[.slice none 0 0, .bool false]) ∧ W = w') := fun W => Lib.hid ((CPu W).out.mono (by intro e w' h; unfold PutOut at h; rw [if_neg (by rw [hi]; simp)] at h; exact h))
    clear CPu hi
    go_enter Try.func7, Try.ntmps7
    go_wp2_with fail
    refine (CA _).out.mono ?_
    rintro e w1 ⟨rfl, hb1⟩
    have HB1 := Lib.hid hb1
    clear hb1
    go_wp2_with fail
    refine (CP' _).out.mono ?_
    rintro e w2 ⟨rfl, rfl⟩
    go_wp2_with fail
    go_ret
    exact ⟨rfl, HB1.out⟩
  | true =>
    have h0 : 0 ≤ r ∧ r ≤ 1114111 ∧ ¬ (55296 ≤ r ∧ r ≤ 57343) := by simp [isCh] at hi; omega
    have CP' : ∀ W, Hid (Calls Try.prog 30 #[.int .i64 r] W fun e w' => ∃ v, e = .returned (.tuple #[v, .bool true]) ∧ OwnB w' W.heap.size v (putL r.toNat) ∧ Below W.heap.size W w') := fun W => Lib.hid ((CPu W).out.mono (by intro e w' h; unfold PutOut at h; rw [if_pos hi] at h; exact h))
    obtain ⟨n, rfl⟩ : ∃ n : Nat, r = n := ⟨r.toNat, by omega⟩
    rw [Int.toNat_natCast] at CP'
    obtain ⟨P, hP⟩ : ∃ P, P = putL n := ⟨_, rfl⟩
    rw [← hP] at CP'
    obtain ⟨m, hm⟩ : ∃ m : Nat, m = n % 1024 := ⟨_, rfl⟩
    have q1 : (n : Int) % 1024 = (m : Int) := by omega
    have q2 : (n : Int).tmod 1024 = (m : Int) := by rw [Int.tmod_eq_emod_of_nonneg (by omega)]; omega
    obtain ⟨V1, hV1⟩ : ∃ v : Nat, v = 55296 + m := ⟨_, rfl⟩
    obtain ⟨V2, hV2⟩ : ∃ v : Nat, v = 56320 + m := ⟨_, rfl⟩
    have q3 : 55296 + (m : Int) = (V1 : Int) := by omega
    have q4 : 56320 + (m : Int) = (V2 : Int) := by omega
    have hm4 : (m : Int) < 1024 := by omega
    obtain ⟨S0, hS0, hz0, C0⟩ := code_of n (by omega) g
    obtain ⟨S1, hS1, hz1, C1⟩ := code_of V1 (by omega) g
    obtain ⟨S2, hS2, hz2, C2⟩ := code_of V2 (by omega) g
    have N1 := next_of (⟨#[34]⟩ ++ S1 ++ ⟨#[34]⟩) (34 :: (codeT V1 g ++ [34])) _ (by rw [sl_append, sl_append, hS1]; rfl) (next_codeC V1 g (by omega) (by omega)) (by simp [codeT, digs4])
    have N2 := next_of (⟨#[34, 120]⟩ ++ S2 ++ ⟨#[34]⟩) (34 :: 120 :: (codeT V2 g ++ [34])) _ (by rw [sl_append, sl_append, hS2]; rfl) (next_codeD V2 g (by omega) (by omega)) (by simp [codeT, digs4])
    have D0 := fun W => Lib.hid (C0 W)
    have D1 := fun W => Lib.hid (C1 W)
    have D2 := fun W => Lib.hid (C2 W)
    have M1 := fun W => Lib.hid (N1 W)
    have M2 := fun W => Lib.hid (N2 W)
    clear C0 C1 C2 N1 N2 hS1 hS2 CPu
    by_cases hbig : n < 65536
    · have N0 := next_of (⟨#[34]⟩ ++ S0 ++ ⟨#[34]⟩) (34 :: (codeT n g ++ [34])) _ (by rw [sl_append, sl_append, hS0]; rfl) (next_codeA n g hbig (by omega)) (by simp [codeT, digs4])
      rw [← hP] at N0
      have M0 := fun W => Lib.hid (N0 W)
      have d1 : decide ((65535 : Int) < n) = false := by simp; omega
      clear N0 hS0 hm hV1 hV2 hP hi h0 hbig
      go_enter Try.func7, Try.ntmps7
      go_wp2_with fail
      refine (CA _).out.mono ?_
      rintro e w1 ⟨rfl, hb1⟩
      have HB1 := Lib.hid hb1
      clear hb1
      go_wp2_with fail
      refine (CP' _).out.mono ?_
      rintro e w2 ⟨v0, rfl, ho2, hb2⟩
      have HB2 := Lib.hid (HB1.out.trans (hb2.mono HB1.out.size))
      obtain ⟨a0, m0, c0, rfl, hcv⟩ := conv_keep ho2
      have HCV := Lib.hid hcv
      clear hb2 ho2 hcv
      go_wp2_with fail
      refine (D0 _).out.mono ?_
      rintro e w3 ⟨rfl, hb3⟩
      have HB23 := Lib.hid hb3
      clear hb3
      go_wp2_with fail
      refine (M0 _).out.mono ?_
      rintro e w5 ⟨rfl, hb5⟩
      have HB25 := Lib.hid (HB23.out.trans (hb5.mono HB23.out.size))
      clear hb5
      simp only [tokV, errV]
      go_wp2_with fail
      refine (D1 _).out.mono ?_
      rintro e w6 ⟨rfl, hb6⟩
      have HB56 := Lib.hid hb6
      clear hb6
      go_wp2_with fail
      refine (M1 _).out.mono ?_
      rintro e w7 ⟨rfl, hb7⟩
      have HB57 := Lib.hid (HB56.out.trans (hb7.mono HB56.out.size))
      clear hb7
      simp only [tokV, errV]
      go_wp2_with fail
      refine (D2 _).out.mono ?_
      rintro e w8 ⟨rfl, hb8⟩
      have HB78 := Lib.hid hb8
      clear hb8
      go_wp2_with fail
      refine (M2 _).out.mono ?_
      rintro e w9 ⟨rfl, hb9⟩
      have HB79 := Lib.hid (HB78.out.trans (hb9.mono HB78.out.size))
      clear hb9
      obtain ⟨i0, i1, i2, i3, i4, i5, i6, i7⟩ := lex_keep HB57.out
      have hb59 : Below w5.heap.size w5 w9 := (lex_keep_below (Below.refl _ _) HB57.out).trans ((lex_keep_below (Below.refl _ _) HB79.out).mono (by omega))
      obtain ⟨k0, k1, k2, k3, k4, k5, k6, k7⟩ := lex_keep HB79.out
      have hb79 : Below w7.heap.size w7 w9 := lex_keep_below (Below.refl _ _) HB79.out
      have j0 := cell_two (cell_below hb79 i0)
      have j3 := cell_two (cell_below hb79 i3)
      have j4 := cell_two (cell_below hb79 i4)
      have j5 := cell_two k4
      have j6 := cell_two k5
      have hcv := HCV.out w9 (HB25.out.trans (hb59.mono HB25.out.size))
      have HB9 := Lib.hid (HB2.out.trans ((HB25.out.trans (hb59.mono HB25.out.size)).mono HB2.out.size))
      clear i0 i1 i2 i3 i4 i5 i6 k0 k1 k2 k3 k4 k5 k6 hb59 hb79
      simp only [tokV, errV]
      go_wp2_with fail
      go_ret
      exact ⟨rfl, (HB9.out.alloc (HB9.out.size) _).alloc (by have := HB9.out.size; simp; omega) _⟩
    · obtain ⟨d, hd⟩ : ∃ d : Nat, d = n - 65536 := ⟨_, rfl⟩
      obtain ⟨da, hda⟩ : ∃ a : Nat, a = d / 1024 := ⟨_, rfl⟩
      obtain ⟨db, hdb⟩ : ∃ b : Nat, b = d % 1024 := ⟨_, rfl⟩
      have q5 : (n : Int) - 65536 = (d : Int) := by omega
      have q6 : (d : Int) / 1024 = (da : Int) := by omega
      have q7 : (d : Int).tdiv 1024 = (da : Int) := by rw [Int.tdiv_eq_ediv_of_nonneg (by omega)]; omega
      have q8 : (d : Int) % 1024 = (db : Int) := by omega
      have q9 : (d : Int).tmod 1024 = (db : Int) := by rw [Int.tmod_eq_emod_of_nonneg (by omega)]; omega
      obtain ⟨V3, hV3⟩ : ∃ v : Nat, v = 55296 + da := ⟨_, rfl⟩
      obtain ⟨V4, hV4⟩ : ∃ v : Nat, v = 56320 + db := ⟨_, rfl⟩
      have q10 : 55296 + (da : Int) = (V3 : Int) := by omega
      have q11 : 56320 + (db : Int) = (V4 : Int) := by omega
      obtain ⟨S3, hS3, hz3, C3⟩ := code_of V3 (by omega) g
      obtain ⟨S4, hS4, hz4, C4⟩ := code_of V4 (by omega) g
      have N0 := next_of (⟨#[34]⟩ ++ (S3 ++ S4) ++ ⟨#[34]⟩) (34 :: (codeT V3 g ++ (codeT V4 g ++ [34]))) _ (by rw [sl_append, sl_append, sl_append, hS3, hS4, List.append_assoc, List.append_assoc]; rfl) (next_codeB V3 V4 n g (by omega) (by omega) (by omega) (by omega) (by omega)) (by simp [codeT, digs4])
      rw [← hP] at N0
      have M0 := fun W => Lib.hid (N0 W)
      have D3 := fun W => Lib.hid (C3 W)
      have D4 := fun W => Lib.hid (C4 W)
      have d1 : decide ((65535 : Int) < n) = true := by simp; omega
      have dd : (d : Int) < 2000000 := by omega
      have dda : (da : Int) < 2000 := by omega
      have ddb : (db : Int) < 2000 := by omega
      clear N0 C3 C4 hS0 hS3 hS4 hm hV1 hV2 hV3 hV4 hd hda hdb hP hi h0 hbig
      go_enter Try.func7, Try.ntmps7
      go_wp2_with fail
      refine (CA _).out.mono ?_
      rintro e w1 ⟨rfl, hb1⟩
      have HB1 := Lib.hid hb1
      clear hb1
      go_wp2_with fail
      refine (CP' _).out.mono ?_
      rintro e w2 ⟨v0, rfl, ho2, hb2⟩
      have HB2 := Lib.hid (HB1.out.trans (hb2.mono HB1.out.size))
      obtain ⟨a0, m0, c0, rfl, hcv⟩ := conv_keep ho2
      have HCV := Lib.hid hcv
      clear hb2 ho2 hcv
      go_wp2_with fail
      refine (D0 _).out.mono ?_
      rintro e w3 ⟨rfl, hb3⟩
      have HB23 := Lib.hid hb3
      clear hb3
      go_wp2_with fail
      refine (D3 _).out.mono ?_
      rintro e w31 ⟨rfl, hb31⟩
      have HB231 := Lib.hid (HB23.out.trans (hb31.mono HB23.out.size))
      clear hb31
      go_wp2_with fail
      refine (D4 _).out.mono ?_
      rintro e w32 ⟨rfl, hb32⟩
      have HB232 := Lib.hid (HB231.out.trans (hb32.mono HB231.out.size))
      clear hb32
      go_wp2_with fail
      refine (M0 _).out.mono ?_
      rintro e w5 ⟨rfl, hb5⟩
      have HB25 := Lib.hid (HB232.out.trans (hb5.mono HB232.out.size))
      clear hb5
      simp only [tokV, errV]
      go_wp2_with fail
      refine (D1 _).out.mono ?_
      rintro e w6 ⟨rfl, hb6⟩
      have HB56 := Lib.hid hb6
      clear hb6
      go_wp2_with fail
      refine (M1 _).out.mono ?_
      rintro e w7 ⟨rfl, hb7⟩
      have HB57 := Lib.hid (HB56.out.trans (hb7.mono HB56.out.size))
      clear hb7
      simp only [tokV, errV]
      go_wp2_with fail
      refine (D2 _).out.mono ?_
      rintro e w8 ⟨rfl, hb8⟩
      have HB78 := Lib.hid hb8
      clear hb8
      go_wp2_with fail
      refine (M2 _).out.mono ?_
      rintro e w9 ⟨rfl, hb9⟩
      have HB79 := Lib.hid (HB78.out.trans (hb9.mono HB78.out.size))
      clear hb9
      obtain ⟨i0, i1, i2, i3, i4, i5, i6, i7⟩ := lex_keep HB57.out
      have hb59 : Below w5.heap.size w5 w9 := (lex_keep_below (Below.refl _ _) HB57.out).trans ((lex_keep_below (Below.refl _ _) HB79.out).mono (by omega))
      obtain ⟨k0, k1, k2, k3, k4, k5, k6, k7⟩ := lex_keep HB79.out
      have hb79 : Below w7.heap.size w7 w9 := lex_keep_below (Below.refl _ _) HB79.out
      have j0 := cell_two (cell_below hb79 i0)
      have j3 := cell_two (cell_below hb79 i3)
      have j4 := cell_two (cell_below hb79 i4)
      have j5 := cell_two k4
      have j6 := cell_two k5
      have hcv := HCV.out w9 (HB25.out.trans (hb59.mono HB25.out.size))
      have HB9 := Lib.hid (HB2.out.trans ((HB25.out.trans (hb59.mono HB25.out.size)).mono HB2.out.size))
      clear i0 i1 i2 i3 i4 i5 i6 k0 k1 k2 k3 k4 k5 k6 hb59 hb79
      simp only [tokV, errV]
      go_wp2_with fail
      go_ret
      exact ⟨rfl, (HB9.out.alloc (HB9.out.size) _).alloc (by have := HB9.out.size; simp; omega) _⟩

end Go.Proofs.Ytamhdoijmkjngaa
