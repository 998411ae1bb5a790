/- A text within quotes: a character. -/
import Derived.Test.YtamhdoijmkjngaaLexH
import Derived.Test.YtamhdoijmkjngaaConv
namespace Go.Proofs.Ytamhdoijmkjngaa
open Go.RowKit
set_option linter.unusedVariables false
set_option linter.unusedSimpArgs false

theorem strCells_bytes (t : ByteArray) : Lib.strCells t = byteCells (sl t) := rfl

theorem wpList_appS {w : World} {ops : Array Oper} {rest : List Oper} {o : Oper} {a : Act} {Q : Exit → Act → World → Prop} (hgd : o.guard = none) (s x : Operand)
    (ho : o.op = .call { callee := .builtin .append, args := #[s, x], argTypes := #[47, 9] })
    {B : Nat} {v : Value} {bs : List UInt8} (hs : a.eval s = v) (hown : OwnB w B v bs) {t : ByteArray} (hx : a.eval x = .string t)
    (hb : bs.length + t.size ≤ 100000000000) (hbase : B ≤ w.heap.size)
    (h : ∀ v' w', OwnB w' B v' (bs ++ sl t) → w.grownBy w' v.ownBlock → wpList Try.prog ops Q rest (a.put o.dst v') w') : wpList Try.prog ops Q (o :: rest) a w := by
  obtain ⟨i0, hi, hz0, hz1, hz2⟩ := info_parts infoU8
  refine Lib.wpList_append_own_string w hgd s x _ _ ho B 5 i0 Try.underlying47 Try.underlying9 hi hz0 hz1 hz2 v bs.length (byteCells bs) hs hown t hx (by unfold maxLen; omega) (by omega) hbase ?_
  intro v' w' h1 h2 _
  refine h v' w' ?_ h2
  unfold OwnB
  rw [byteCells_append, List.length_append, sl_len]
  rw [strCells_bytes] at h1
  exact h1

set_option maxRecDepth 100000 in
set_option maxHeartbeats 8000000 in
theorem tchar (s : ByteArray) (hs : s.size ≤ 1000000) (fr : Nat) (w : World) (R : LexR) (m : Nat) (w' : World) (u : Nat → Value) (vb : Value) (p : Nat) (out : List UInt8)
    (hm : 4 * (s.size - p) + 3 ≤ m) (hf : fr < p) (hp : p ≤ s.size) (hl : out.length ≤ p) (HR : Hid (TRes s fr p out R)) (HB : Hid (Below (w.heap.size + 2) (lexW w) w')) (hsz : w.heap.size + 2 ≤ w'.heap.size)
    (HO : Hid (OwnB w' (w.heap.size + 2) vb out)) (hlt : p < s.size) (c : UInt8) (hc : c = s[p]'hlt) (hd : (sl s).drop p = c :: (sl s).drop (p + 1))
    (n34 : c ≠ 34) (n32 : ¬ c < 32) (n92 : c ≠ 92) (ub : ((s[p]'hlt).toNat : Int) < 256) (e0 : ((p : Int) == s.size) = false) (e1 : (((s[p]'hlt).toNat : Int) == 34) = false) (e2 : decide (((s[p]'hlt).toNat : Int) < 32) = false) (e3 : (((s[p]'hlt).toNat : Int) == 92) = false)
    (a : Act) (ha : a = ⟨((List.range 175).map fun i => if i = 0 then .string s else if i = 1 then .int .i64 fr else if i = 4 then .pointer (some ⟨w.heap.size, 0, none⟩) else if i = 5 then .pointer (some ⟨w.heap.size + 1, 0, none⟩) else if i = 6 then vb else if i = 12 then .int .i64 p else u i).toArray, []⟩) :
    (trest 1).wp Try.prog (JumpTo TL (fun l' a' w'' => TJ s fr w R l' a' w'' ∧ tmu s l' a' w'' < m) (bodyPost Try.prog Try.f47 (LexOut w R))) a w' := by
  subst ha
  simp only [List.range, List.range.loop, List.map_cons, List.map_nil, Nat.reduceEqDiff, if_true, if_false]
  obtain ⟨M, K, hM, hM4⟩ : ∃ M K : Nat, M ≤ s.size ∧ ((p + 4 ≤ s.size ∧ M = p + 4 ∧ K = 4) ∨ (s.size < p + 4 ∧ M = s.size ∧ K = s.size - p)) := by
    by_cases h : p + 4 ≤ s.size
    · exact ⟨p + 4, 4, h, .inl ⟨h, rfl, rfl⟩⟩
    · exact ⟨s.size, s.size - p, Nat.le_refl _, .inr ⟨by omega, rfl, rfl⟩⟩
  have hxl : sl (s.extract p M) = ((sl s).drop p).take 4 := by
    rw [sl_ext]
    rcases hM4 with ⟨_, rfl, _⟩ | ⟨h, rfl, _⟩
    · congr 1; omega
    · rw [List.take_of_length_le (by rw [List.length_drop, sl_len]; omega), List.take_of_length_le (by rw [List.length_drop, sl_len]; omega)]
  have hxs : (s.extract p M).size = K := by rw [← sl_len, sl_ext, List.length_take, List.length_drop, sl_len]; omega
  obtain ⟨cap3, w3, hrun, hb3, hs3, hr3, hz1, hz2⟩ := conv_bytes w' (s.extract p M) (by omega)
  rw [hxs] at hrun hr3
  clear hz1 hz2
  obtain ⟨rv, hrv⟩ : ∃ rv : Nat, (runeAt (((sl s).drop p).take 4) 0).1 = rv := ⟨_, rfl⟩
  obtain ⟨n, hn⟩ : ∃ n : Nat, (runeAt (((sl s).drop p).take 4) 0).2 = n := ⟨_, rfl⟩
  have CR0 := rune_calls _ _ cap3 0 w3 _ hr3
  unfold RuneOut at CR0
  rw [hxl, hrv, hn] at CR0
  have CR := Lib.hid CR0
  have HB3 : Hid (Below (w.heap.size + 2) (lexW w) w3) := HB.out.trans (hb3.mono hsz)
  have HO3 : Hid (OwnB w3 (w.heap.size + 2) vb out) := HO.out.keep hb3
  have hstep : strStep ((sl s).drop p) = if n = 0 then .bad 4 else .go n (((sl s).drop p).take n) := by
    rw [hd] at hn ⊢
    unfold strStep
    simp only
    rw [if_neg n34, if_neg n32, if_neg n92, hn]
  have hnb : n ≠ 0 → p + n ≤ s.size ∧ n ≤ 4 := by
    intro h0
    have := (runeAt_bd (((sl s).drop p).take 4) 0).2
    rw [hn] at this
    have h2 := this.2 (by omega)
    rw [List.length_take, List.length_drop, sl_len] at h2
    omega
  clear hr3 hrv hn hxl hxs CR0
  by_cases hn0 : n = 0
  · subst hn0
    rw [if_pos rfl] at hstep
    have HRes : Hid (R = .err 4 p) := HR.out.bad hf (by omega) hstep
    have CW := fun x W => Lib.hid (wrong_calls x p W)
    clear hc hd n34 n32 n92 hstep hnb hb3
    rcases hM4 with ⟨k4, rfl, rfl⟩ | ⟨k4, rfl, rfl⟩
    all_goals
      conv => arg 2; whnf
      go_wp2_with fail
      refine CR.out.mono ?_
      rintro e w4 ⟨rfl, rfl⟩
      go_wp2_with fail
      refine (CW _ _).out.mono ?_
      rintro e w1 ⟨rfl, hb1⟩
      have HB1 : Hid (Below (w.heap.size + 2) (lexW w) w1) := HB3.out.trans (hb1.mono (by omega))
      obtain ⟨c0, c1, c2, c3, d0, d1, d2, f0, f1, f2, f3, g0, g1, g2, sz⟩ := lexM_of HB1.out
      clear hb1
      go_wp2_with fail
      simp only [JumpTo]
      refine bodyPost_ret (v := .tuple #[tokV (.err 4 p), errV (.err 4 p)]) (by simp [tokV, errV, results, Try.results47, go_sem, c0, c1, c2, c3, d0, d1, d2]) rfl ?_
      exact ⟨by rw [HRes.out], lex_close HB1.out _ _ _ _ _ _ _⟩
  · rw [if_neg hn0] at hstep
    obtain ⟨hpn, hn4⟩ := hnb hn0
    have HRes := Lib.hid (HR.out.go hf hp hstep)
    have hts : (s.extract p (p + n)).size = n := by rw [← sl_len, sl_ext, List.length_take, List.length_drop, sl_len]; omega
    have HTL : Hid (sl (s.extract p (p + n)) = ((sl s).drop p).take n) := by show _ = _; rw [sl_ext]; congr 1; omega
    have en : ((n : Int) == 0) = false := by simp; omega
    have hn1 : 1 ≤ n := by omega
    have HTS := Lib.hid hts
    clear hc hd n34 n32 n92 hstep hnb hb3 hn0 hts
    rcases hM4 with ⟨k4, rfl, rfl⟩ | ⟨k4, rfl, rfl⟩
    all_goals
      conv => arg 2; whnf
      go_wp2_with fail
      refine CR.out.mono ?_
      rintro e w4 ⟨rfl, rfl⟩
      go_wp2_with (at_builtin; refine wpList_appS (v := vb) (bs := out) (t := s.extract p (p + n)) (B := w.heap.size + 2) (by rfl) _ _ (by rfl) (by rfl) HO3.out (by rfl) ?o3 ?o4 ?_)
      case o3 => have := HTS.out; omega
      case o4 => omega
      intro v6 w6 ho6 hg6
      rw [HTL.out] at ho6
      have HO6 := Lib.hid ho6
      have HB6 : Hid (Below (w.heap.size + 2) (lexW w) w6) := HB3.out.grown hg6 (by omega) fun k hk => (HO3.out.lt k hk).1
      clear ho6 hg6
      go_wp2_with fail
      go_step3
      exact to_next (p := p + n) rfl rfl rfl rfl rfl rfl rfl (by omega) hpn HRes.out HO6.out (by rw [List.length_append, List.length_take]; omega) HB6.out (by omega)

end Go.Proofs.Ytamhdoijmkjngaa
