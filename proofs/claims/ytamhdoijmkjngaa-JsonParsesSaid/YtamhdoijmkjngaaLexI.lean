/- A text within quotes: from a sign on. -/
import Derived.Test.YtamhdoijmkjngaaLexI0
namespace Go.Proofs.Ytamhdoijmkjngaa
open Go.RowKit
set_option linter.unusedVariables false
set_option linter.unusedSimpArgs false

set_option maxRecDepth 100000 in
set_option maxHeartbeats 8000000 in
theorem tpass1 (s : ByteArray) (hs : s.size ≤ 1000000) (fr : Nat) (w : World) (R : LexR) (a : Act) (w' : World) (hJ : TJ s fr w R 1 a w') :
    (trest 1).wp Try.prog (JumpTo TL (fun l' a' w'' => TJ s fr w R l' a' w'' ∧ tmu s l' a' w'' < tmu s 1 a w') (bodyPost Try.prog Try.f47 (LexOut w R))) a w' := by
  obtain ⟨u, p, out, rfl, ⟨h0, h1, h4, h5, h12, hf, hp, hr, ho, hl, hb⟩⟩ := hJ
  have hm : 4 * (s.size - p) + 3 ≤ tmu s 1 ⟨((List.range 175).map u).toArray, []⟩ w' := by
    have e : (((List.range 175).map u).toArray).getD 12 undef = .int .i64 (p : Nat) := h12
    unfold tmu
    simp only [e, intOf]
    rw [if_neg (by omega)]
    omega
  generalize tmu s 1 ⟨((List.range 175).map u).toArray, []⟩ w' = m at hm ⊢
  have HR := Lib.hid hr
  have HB := Lib.hid hb
  have hsz : w.heap.size + 2 ≤ w'.heap.size := by have := hb.size; rw [lexW_size] at this; exact this
  obtain ⟨c0, c1, c2, c3, d0, d1, d2, f0, f1, f2, f3, g0, g1, g2, sz⟩ := lexM_of hb
  clear hr hb
  simp only [List.range, List.range.loop, List.map_cons, List.map_nil, h0, h1, h4, h5, h12]
  generalize hu6 : u 6 = vb at ho
  have HO := Lib.hid ho
  clear ho
  by_cases hlt : p < s.size
  · have hd := sl_drop hlt
    have hat := sl_at hlt
    obtain ⟨c, hc⟩ : ∃ c, c = s[p]'hlt := ⟨_, rfl⟩
    rw [← hc] at hd hat
    have ub := u8_lt (s[p]'hlt)
    have e0 : ((p : Int) == s.size) = false := by simp; omega
    have hcn : (s[p]'hlt).toNat = c.toNat := by rw [hc]
    by_cases q34 : c.toNat = 34
    · have hcc := (u8_eq c 34 (by omega)).1 q34
      have HRes : Hid (R = .tok 8 fr (p + 1) out) := HR.out.stop hf (by rw [hd, hcc]; simp [strStep])
      have e1 : ((s[p]'hlt).toNat : Int) = 34 := by rw [hcn, q34]; rfl
      obtain ⟨ab, cap, rfl, hrd⟩ := HO.out.reads
      have kc := conv_str hrd cap
      clear hrd hcc q34 hcn hc hd hat ub
      conv => arg 2; whnf
      go_wp2_with fail
      simp only [JumpTo]
      refine bodyPost_ret (v := .tuple #[tokV (.tok 8 fr (p + 1) out), errV (.tok 8 fr (p + 1) out)]) (by simp [tokV, errV, results, Try.results47, go_sem, c0, c1, c2, c3, d0, d1, d2]) rfl ?_
      exact ⟨by rw [HRes.out], lex_close HB.out _ _ _ _ _ _ _⟩
    have e1 : (((s[p]'hlt).toNat : Int) == 34) = false := by simp; omega
    have n34 : c ≠ 34 := fun e => q34 (by rw [e]; rfl)
    by_cases q32 : c.toNat < 32
    · have HRes : Hid (R = .err 3 p) := HR.out.bad hf (by omega) (by rw [hd]; unfold strStep; simp only; rw [if_neg n34, if_pos (by rw [UInt8.lt_iff_toNat_lt]; exact q32)])
      have e2 : decide (((s[p]'hlt).toNat : Int) < 32) = true := by simp; omega
      have CW := fun x W => Lib.hid (wrong_calls x p W)
      clear hc hd hat n34 q34 hcn q32 c0 c1 c2 c3 d0 d1 d2 f0 f1 f2 f3 g0 g1 g2 sz
      conv => arg 2; whnf
      go_wp2_with fail
      refine (CW _ _).out.mono ?_
      rintro e w1 ⟨rfl, hb1⟩
      have HB1 : Hid (Below (w.heap.size + 2) (lexW w) w1) := HB.out.trans (hb1.mono hsz)
      obtain ⟨c0, c1, c2, c3, d0, d1, d2, f0, f1, f2, f3, g0, g1, g2, sz⟩ := lexM_of HB1.out
      clear hb1
      go_wp2_with fail
      simp only [JumpTo]
      refine bodyPost_ret (v := .tuple #[tokV (.err 3 p), errV (.err 3 p)]) (by simp [tokV, errV, results, Try.results47, go_sem, c0, c1, c2, c3, d0, d1, d2]) rfl ?_
      exact ⟨by rw [HRes.out], lex_close HB1.out _ _ _ _ _ _ _⟩
    have e2 : decide (((s[p]'hlt).toNat : Int) < 32) = false := by simp; omega
    have n32 : ¬ c < 32 := by rw [UInt8.lt_iff_toNat_lt]; exact q32
    by_cases q92 : c.toNat = 92
    · have hcc := (u8_eq c 92 (by omega)).1 q92
      have HC : Hid ((sl s).getD p 0 = 92) := by show _ = _; rw [hat, hcc]; rfl
      have e3 : ((s[p]'hlt).toNat : Int) = 92 := by rw [hcn, q92]; rfl
      clear hc hd hat n34 q34 hcn q32 n32 hcc q92 e1 e2 c0 c1 c2 c3 d0 d1 d2 f0 f1 f2 f3 g0 g1 g2 sz
      conv => arg 2; whnf
      go_wp2_with fail
      go_step3
      exact to_back rfl rfl rfl rfl rfl rfl rfl hf hp HR.out HO.out hl HB.out hlt HC.out (by omega)
    have e3 : (((s[p]'hlt).toNat : Int) == 92) = false := by simp; omega
    have n92 : c ≠ 92 := fun e => q92 (by rw [e]; rfl)
    exact tchar s hs fr w R m w' u vb p out hm hf hp hl HR HB hsz HO hlt c hc hd n34 n32 n92 ub e0 e1 e2 e3 _ (by rfl)
  · obtain rfl : p = s.size := by omega
    have HRes : Hid (R = .err 2 fr) := HR.out.short (by rw [List.drop_of_length_le (by rw [sl_len]; omega)]; rfl)
    clear c0 c1 c2 c3 d0 d1 d2 f0 f1 f2 f3 g0 g1 g2 sz
    conv => arg 2; whnf
    go_wp2_with fail
    go_step3
    exact to_short rfl rfl rfl rfl HRes.out HB.out (by omega)

end Go.Proofs.Ytamhdoijmkjngaa
