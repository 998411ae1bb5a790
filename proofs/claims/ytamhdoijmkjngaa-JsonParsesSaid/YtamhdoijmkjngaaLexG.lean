/- A token's memory; lex.number, walked. -/
import Derived.Test.YtamhdoijmkjngaaLexF
namespace Go.Proofs.Ytamhdoijmkjngaa
open Go.RowKit
set_option linter.unusedVariables false
set_option linter.unusedSimpArgs false

def tok0 : Obj := .cells #[.int .i64 0, .int .i64 0, .int .i64 0, .string { data := #[] }] 33
def err0 : Obj := .cells #[.int .i64 0, .int .i64 0, .slice none 0 0] 36
/-- With room for a token and an error. -/
def lexW (w : World) : World := (w.alloc (.cells #[.int .i64 0, .int .i64 0, .int .i64 0, .string { data := #[] }] 33)).alloc (.cells #[.int .i64 0, .int .i64 0, .slice none 0 0] 36)

theorem lexW_size (w : World) : (lexW w).heap.size = w.heap.size + 2 := by simp [lexW]

/-- A token's and an error's cells, as they were made. -/
structure LexM (w wr : World) : Prop where
  c0 : wr.cell? ⟨w.heap.size, 0, none⟩ = some (.int .i64 0)
  c1 : wr.cell? ⟨w.heap.size, 1, none⟩ = some (.int .i64 0)
  c2 : wr.cell? ⟨w.heap.size, 2, none⟩ = some (.int .i64 0)
  c3 : wr.cell? ⟨w.heap.size, 3, none⟩ = some (.string { data := #[] })
  d0 : wr.cell? ⟨w.heap.size + 1, 0, none⟩ = some (.int .i64 0)
  d1 : wr.cell? ⟨w.heap.size + 1, 1, none⟩ = some (.int .i64 0)
  d2 : wr.cell? ⟨w.heap.size + 1, 2, none⟩ = some (.slice none 0 0)
  f0 : wr.frozen? ⟨w.heap.size, 0, none⟩ = false
  f1 : wr.frozen? ⟨w.heap.size, 1, none⟩ = false
  f2 : wr.frozen? ⟨w.heap.size, 2, none⟩ = false
  f3 : wr.frozen? ⟨w.heap.size, 3, none⟩ = false
  g0 : wr.frozen? ⟨w.heap.size + 1, 0, none⟩ = false
  g1 : wr.frozen? ⟨w.heap.size + 1, 1, none⟩ = false
  g2 : wr.frozen? ⟨w.heap.size + 1, 2, none⟩ = false
  sz : w.heap.size + 2 ≤ wr.heap.size

theorem lexM_of {w wr : World} (hb : Below (w.heap.size + 2) (lexW w) wr) : LexM w wr := by
  constructor
  · rw [hb.cell (p := ⟨w.heap.size, 0, none⟩) (by simp)]; simp [lexW, go_sem]
  · rw [hb.cell (p := ⟨w.heap.size, 1, none⟩) (by simp)]; simp [lexW, go_sem]
  · rw [hb.cell (p := ⟨w.heap.size, 2, none⟩) (by simp)]; simp [lexW, go_sem]
  · rw [hb.cell (p := ⟨w.heap.size, 3, none⟩) (by simp)]; simp [lexW, go_sem]
  · rw [hb.cell (p := ⟨w.heap.size + 1, 0, none⟩) (by simp)]; simp [lexW, go_sem]
  · rw [hb.cell (p := ⟨w.heap.size + 1, 1, none⟩) (by simp)]; simp [lexW, go_sem]
  · rw [hb.cell (p := ⟨w.heap.size + 1, 2, none⟩) (by simp)]; simp [lexW, go_sem]
  · rw [hb.frozen (p := ⟨w.heap.size, 0, none⟩) (by simp)]; simp [lexW, go_sem]
  · rw [hb.frozen (p := ⟨w.heap.size, 1, none⟩) (by simp)]; simp [lexW, go_sem]
  · rw [hb.frozen (p := ⟨w.heap.size, 2, none⟩) (by simp)]; simp [lexW, go_sem]
  · rw [hb.frozen (p := ⟨w.heap.size, 3, none⟩) (by simp)]; simp [lexW, go_sem]
  · rw [hb.frozen (p := ⟨w.heap.size + 1, 0, none⟩) (by simp)]; simp [lexW, go_sem]
  · rw [hb.frozen (p := ⟨w.heap.size + 1, 1, none⟩) (by simp)]; simp [lexW, go_sem]
  · rw [hb.frozen (p := ⟨w.heap.size + 1, 2, none⟩) (by simp)]; simp [lexW, go_sem]
  · have := hb.size; rw [lexW_size] at this; exact this

theorem lexW_below (w : World) : Below w.heap.size w (lexW w) := ((Below.refl _ _).alloc (Nat.le_refl _) _).alloc (by simp) _

theorem lex_below {w wr : World} (hb : Below (w.heap.size + 2) (lexW w) wr) : Below w.heap.size w wr := (lexW_below w).trans (hb.mono (by omega))

theorem lex_close {w wr : World} (hb : Below (w.heap.size + 2) (lexW w) wr) (a b c d x y z : Value) :
    Below w.heap.size w (((((((wr.setCell ⟨w.heap.size, 0, none⟩ a).setCell ⟨w.heap.size, 1, none⟩ b).setCell ⟨w.heap.size, 2, none⟩ c).setCell ⟨w.heap.size, 3, none⟩ d).setCell ⟨w.heap.size + 1, 0, none⟩ x).setCell ⟨w.heap.size + 1, 1, none⟩ y).setCell ⟨w.heap.size + 1, 2, none⟩ z) :=
  (((((((lex_below hb).setCell (by simp) _).setCell (by simp) _).setCell (by simp) _).setCell (by simp) _).setCell (by simp) _).setCell (by simp) _).setCell (by simp) _

/-- A number's token. -/
def numR (l : List UInt8) : LexR := if lexeme (l.take (numLen l)) = 0 then .err 3 0 else if 300 < numLen l then .err 10 0 else .tok 9 0 (numLen l) (l.take (numLen l))

/-- As the program asks for a number's sign. -/
def numI (c : Nat) : Int := Lib.indexByte (sl ⟨#[48, 49, 50, 51, 52, 53, 54, 55, 56, 57, 43, 45, 46, 101, 69]⟩) ((c : Int).toNat.toUInt8)
theorem num_tab : ∀ c : Fin 256, numCh (UInt8.ofNat c) = decide (0 ≤ numI c) := by decide +kernel
theorem num_at (c : UInt8) : numCh c = decide (0 ≤ numI c.toNat) := by
  have := num_tab ⟨c.toNat, c.toNat_lt⟩
  simpa only [UInt8.ofNat_toNat] using this

set_option maxRecDepth 100000 in
set_option maxHeartbeats 2000000 in
theorem number_calls (s : ByteArray) (hs : s.size ≤ 1000000) (p : Nat) (hp : p ≤ s.size) (w : World) :
    Calls Try.prog 48 #[.string s, .int .i64 p] w (LexOut w ((numR ((sl s).drop p)).shift p)) := by
  obtain ⟨M, hM⟩ : ∃ M : Nat, M = numLen ((sl s).drop p) := ⟨_, rfl⟩
  have HM := Lib.hid hM
  clear hM
  go_enter Try.func48, Try.ntmps48
  go_wp2_with fail
  go_loop [6] (fun x => ∃ q : Nat, x = .int .i64 q ∧ p ≤ q ∧ q ≤ s.size ∧ Hid (p + M = q + numLen ((sl s).drop q))) (fun x => s.size - (intOf x).toNat)
  case atStart => exact ⟨p, rfl, by omega, hp, by show _ = _; rw [HM.out]⟩
  case round =>
    obtain ⟨q, rfl, hpq, hq, hz⟩ := hrel
    have fin : q = p + M → True := fun _ => trivial
    by_cases hlt : q < s.size
    · have hd := sl_drop hlt
      have Z := hz.out
      rw [hd] at Z
      simp only [numLen] at Z
      have C := fun W => Lib.hid (sidx_calls ⟨#[48, 49, 50, 51, 52, 53, 54, 55, 56, 57, 43, 45, 46, 101, 69]⟩ (((s[q]'hlt).toNat : Nat) : Int) W)
      obtain ⟨ix, hix⟩ : ∃ ix : Int, ix = numI (s[q]'hlt).toNat := ⟨_, rfl⟩
      rw [show Lib.indexByte (sl ⟨#[48, 49, 50, 51, 52, 53, 54, 55, 56, 57, 43, 45, 46, 101, 69]⟩) ((((s[q]'hlt).toNat : Nat) : Int).toNat.toUInt8) = numI (s[q]'hlt).toNat from rfl, ← hix] at C
      have hn := num_at (s[q]'hlt)
      rw [← hix] at hn
      clear hd hix
      by_cases h0 : 0 ≤ ix
      · rw [decide_eq_true h0] at hn
        rw [hn, if_pos rfl] at Z
        have HN : Hid (p + M = q + 1 + numLen ((sl s).drop (q + 1))) := by show _ = _; rw [Z]; omega
        clear Z hn
        go_wp2_with fail
        refine (C _).out.mono ?_
        rintro e w' ⟨rfl, rfl⟩
        go_wp2_with fail
        go_round
        case rel => exact ⟨q + 1, by simp, by omega, by omega, HN⟩
        case measure => simp [intOf]; omega
      · rw [decide_eq_false h0] at hn
        rw [hn, if_neg (by simp)] at Z
        have HQ : Hid (q = p + M) := by show _ = _; omega
        clear Z hn
        have hex : (s.extract p q).size = q - p := by rw [← sl_len, sl_ext, List.length_take, List.length_drop, sl_len]; omega
        have hkv : sl (s.extract p q) = ((sl s).drop p).take M := by rw [sl_ext, HQ.out]; congr 1; omega
        obtain ⟨k, hk⟩ : ∃ k, k = lexeme (((sl s).drop p).take M) := ⟨_, rfl⟩
        have CL := fun W => Lib.hid (lexeme_calls (s.extract p q) (by omega) W)
        rw [hkv, ← hk] at CL
        have HX : Hid (s.extract p q = txt (((sl s).drop p).take M)) := by show _ = _; rw [← hkv, txt_sl]
        have HRes : Hid ((numR ((sl s).drop p)).shift p = if k = 0 then .err 3 p else if 300 < M then .err 10 p else .tok 9 p q (((sl s).drop p).take M)) := by
          show _ = _
          unfold numR
          rw [← HM.out, ← hk]
          by_cases e1 : k = 0
          · rw [if_pos e1, if_pos e1]; rfl
          · rw [if_neg e1, if_neg e1]
            by_cases e2 : 300 < M
            · rw [if_pos e2, if_pos e2]; rfl
            · rw [if_neg e2, if_neg e2, HQ.out]; rfl
        have hqm1 : q ≤ p + M := by have := HQ.out; omega
        have hqm2 : p + M ≤ q := by have := HQ.out; omega
        clear hk hkv
        have CW := fun x W => Lib.hid (wrong_calls x p W)
        by_cases e1 : k = 0
        · subst e1
          rw [if_pos rfl] at HRes
          go_wp2_with fail
          refine (C _).out.mono ?_
          rintro e w' ⟨rfl, rfl⟩
          go_wp2_with fail
          refine (CL _).out.mono ?_
          rintro e w' ⟨rfl, rfl⟩
          go_wp2_with fail
          refine (CW _ _).out.mono ?_
          rintro e w1 ⟨rfl, hb1⟩
          have HB1 : Hid (Below (w.heap.size + 2) (lexW w) w1) := by rw [← lexW_size w]; exact hb1
          obtain ⟨c0, c1, c2, c3, d0, d1, d2, f0, f1, f2, f3, g0, g1, g2, sz⟩ := lexM_of HB1.out
          clear hb1
          go_wp2_with fail
          refine bodyPost_ret (v := .tuple #[tokV (.err 3 p), errV (.err 3 p)]) (by simp [tokV, errV, results, Try.results48, go_sem, c0, c1, c2, c3, d0, d1, d2]) rfl ?_
          exact ⟨by rw [HRes.out], lex_close HB1.out _ _ _ _ _ _ _⟩
        · rw [if_neg e1] at HRes
          have t1 : ((k : Int) == 0) = false := by simp; omega
          by_cases e2 : 300 < M
          · rw [if_pos e2] at HRes
            go_wp2_with fail
            refine (C _).out.mono ?_
            rintro e w' ⟨rfl, rfl⟩
            go_wp2_with fail
            refine (CL _).out.mono ?_
            rintro e w' ⟨rfl, rfl⟩
            go_wp2_with fail
            refine (CW _ _).out.mono ?_
            rintro e w1 ⟨rfl, hb1⟩
            have HB1 : Hid (Below (w.heap.size + 2) (lexW w) w1) := by rw [← lexW_size w]; exact hb1
            obtain ⟨c0, c1, c2, c3, d0, d1, d2, f0, f1, f2, f3, g0, g1, g2, sz⟩ := lexM_of HB1.out
            clear hb1
            go_wp2_with fail
            refine bodyPost_ret (v := .tuple #[tokV (.err 10 p), errV (.err 10 p)]) (by simp [tokV, errV, results, Try.results48, go_sem, c0, c1, c2, c3, d0, d1, d2]) rfl ?_
            exact ⟨by rw [HRes.out], lex_close HB1.out _ _ _ _ _ _ _⟩
          · rw [if_neg e2] at HRes
            go_wp2_with fail
            refine (C _).out.mono ?_
            rintro e w' ⟨rfl, rfl⟩
            go_wp2_with fail
            refine (CL _).out.mono ?_
            rintro e w' ⟨rfl, rfl⟩
            go_wp2_with fail
            refine bodyPost_ret (v := .tuple #[tokV (.tok 9 p q (((sl s).drop p).take M)), errV (.tok 9 p q (((sl s).drop p).take M))]) (by simp [tokV, errV, results, Try.results48, go_sem, ← HX.out]) rfl ?_
            exact ⟨by rw [HRes.out], ((Below.refl _ _).alloc (Nat.le_refl _) _).alloc (by simp) _⟩
    · have Z := hz.out
      rw [List.drop_of_length_le (by rw [sl_len]; omega)] at Z
      simp only [numLen] at Z
      have HQ : Hid (q = p + M) := by show _ = _; omega
      clear Z
      have hex : (s.extract p q).size = q - p := by rw [← sl_len, sl_ext, List.length_take, List.length_drop, sl_len]; omega
      have hkv : sl (s.extract p q) = ((sl s).drop p).take M := by rw [sl_ext, HQ.out]; congr 1; omega
      obtain ⟨k, hk⟩ : ∃ k, k = lexeme (((sl s).drop p).take M) := ⟨_, rfl⟩
      have CL := fun W => Lib.hid (lexeme_calls (s.extract p q) (by omega) W)
      rw [hkv, ← hk] at CL
      have HX : Hid (s.extract p q = txt (((sl s).drop p).take M)) := by show _ = _; rw [← hkv, txt_sl]
      have HRes : Hid ((numR ((sl s).drop p)).shift p = if k = 0 then .err 3 p else if 300 < M then .err 10 p else .tok 9 p q (((sl s).drop p).take M)) := by
        show _ = _
        unfold numR
        rw [← HM.out, ← hk]
        by_cases e1 : k = 0
        · rw [if_pos e1, if_pos e1]; rfl
        · rw [if_neg e1, if_neg e1]
          by_cases e2 : 300 < M
          · rw [if_pos e2, if_pos e2]; rfl
          · rw [if_neg e2, if_neg e2, HQ.out]; rfl
      have hqm1 : q ≤ p + M := by have := HQ.out; omega
      have hqm2 : p + M ≤ q := by have := HQ.out; omega
      clear hk hkv
      have CW := fun x W => Lib.hid (wrong_calls x p W)
      by_cases e1 : k = 0
      · subst e1
        rw [if_pos rfl] at HRes
        go_wp2_with fail
        refine (CL _).out.mono ?_
        rintro e w' ⟨rfl, rfl⟩
        go_wp2_with fail
        refine (CW _ _).out.mono ?_
        rintro e w1 ⟨rfl, hb1⟩
        have HB1 : Hid (Below (w.heap.size + 2) (lexW w) w1) := by rw [← lexW_size w]; exact hb1
        obtain ⟨c0, c1, c2, c3, d0, d1, d2, f0, f1, f2, f3, g0, g1, g2, sz⟩ := lexM_of HB1.out
        clear hb1
        go_wp2_with fail
        refine bodyPost_ret (v := .tuple #[tokV (.err 3 p), errV (.err 3 p)]) (by simp [tokV, errV, results, Try.results48, go_sem, c0, c1, c2, c3, d0, d1, d2]) rfl ?_
        exact ⟨by rw [HRes.out], lex_close HB1.out _ _ _ _ _ _ _⟩
      · rw [if_neg e1] at HRes
        have t1 : ((k : Int) == 0) = false := by simp; omega
        by_cases e2 : 300 < M
        · rw [if_pos e2] at HRes
          go_wp2_with fail
          refine (CL _).out.mono ?_
          rintro e w' ⟨rfl, rfl⟩
          go_wp2_with fail
          refine (CW _ _).out.mono ?_
          rintro e w1 ⟨rfl, hb1⟩
          have HB1 : Hid (Below (w.heap.size + 2) (lexW w) w1) := by rw [← lexW_size w]; exact hb1
          obtain ⟨c0, c1, c2, c3, d0, d1, d2, f0, f1, f2, f3, g0, g1, g2, sz⟩ := lexM_of HB1.out
          clear hb1
          go_wp2_with fail
          refine bodyPost_ret (v := .tuple #[tokV (.err 10 p), errV (.err 10 p)]) (by simp [tokV, errV, results, Try.results48, go_sem, c0, c1, c2, c3, d0, d1, d2]) rfl ?_
          exact ⟨by rw [HRes.out], lex_close HB1.out _ _ _ _ _ _ _⟩
        · rw [if_neg e2] at HRes
          go_wp2_with fail
          refine (CL _).out.mono ?_
          rintro e w' ⟨rfl, rfl⟩
          go_wp2_with fail
          refine bodyPost_ret (v := .tuple #[tokV (.tok 9 p q (((sl s).drop p).take M)), errV (.tok 9 p q (((sl s).drop p).take M))]) (by simp [tokV, errV, results, Try.results48, go_sem, ← HX.out]) rfl ?_
          exact ⟨by rw [HRes.out], ((Below.refl _ _).alloc (Nat.le_refl _) _).alloc (by simp) _⟩

end Go.Proofs.Ytamhdoijmkjngaa
