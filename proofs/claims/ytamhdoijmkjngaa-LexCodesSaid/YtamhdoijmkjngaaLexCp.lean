/- LexCodes: plainly; the law's code, walked. -/
import Derived.Test.YtamhdoijmkjngaaLexBl
import Derived.Test.YtamhdoijmkjngaaQuo
import Derived.Test.YtamhdoijmkjngaaAppG
import Derived.Lib.SlBytesConst
namespace Go.Proofs.Ytamhdoijmkjngaa
open Go.RowKit
set_option linter.unusedVariables false
set_option linter.unusedSimpArgs false

def upC (g : Bool) (c : UInt8) : UInt8 := if g = true ∧ 97 ≤ c.toNat then c - 32 else c
def dgC (g : Bool) (n : Nat) : UInt8 := upC g (hexC n)
theorem hexD_dg : ∀ (g : Bool) (n : Fin 16), hexD (dgC g n) = some (n : Nat) := by decide +kernel
/-- A number's four digits. -/
def digs4 (r : Nat) (g : Bool) : List UInt8 := [dgC g (r / 256 % 256 / 16), dgC g (r / 256 % 256 % 16), dgC g (r % 256 / 16), dgC g (r % 256 % 16)]
def codeT (r : Nat) (g : Bool) : List UInt8 := 92 :: 117 :: digs4 r g

theorem codeP_digs (r : Nat) (g : Bool) (h : r < 65536) (rest : List UInt8) : codeP 4 0 (digs4 r g ++ rest) = (r, 4) := by
  have h1 := hexD_dg g ⟨r / 256 % 256 / 16, by omega⟩
  have h2 := hexD_dg g ⟨r / 256 % 256 % 16, by omega⟩
  have h3 := hexD_dg g ⟨r % 256 / 16, by omega⟩
  have h4 := hexD_dg g ⟨r % 256 % 16, by omega⟩
  simp only at h1 h2 h3 h4
  simp only [digs4, List.cons_append, List.nil_append, codeP, h1, h2, h3, h4]
  congr 1
  omega

theorem step_codeA (r : Nat) (g : Bool) (h : r < 65536) (hs : ¬ (55296 ≤ r ∧ r ≤ 57343)) (rest : List UInt8) : strStep (codeT r g ++ rest) = .go 6 (putL r) :=
  (step_uni (digs4 r g ++ rest) r 4 (by rw [codeP_digs r g h]) (by rw [codeP_digs r g h])).2.2.1 rfl hs

theorem low_code (r : Nat) (g : Bool) (h1 : 56320 ≤ r) (h2 : r ≤ 57343) (rest : List UInt8) : lowHalf (codeT r g ++ rest) = some r := by
  rw [lowHalf_pre]
  have e : pre [92, 117] (codeT r g ++ rest) = true := by unfold pre codeT; simp
  have d : (codeT r g ++ rest).drop 2 = digs4 r g ++ rest := rfl
  rw [if_pos e, d, codeP_digs r g (by omega), if_pos ⟨rfl, h1, h2⟩]

theorem step_codeB (v w : Nat) (g : Bool) (h1 : 55296 ≤ v) (h2 : v ≤ 56319) (h3 : 56320 ≤ w) (h4 : w ≤ 57343) (rest : List UInt8) :
    strStep (codeT v g ++ (codeT w g ++ rest)) = .go 12 (putL (65536 + (v - 55296) * 1024 + (w - 56320))) :=
  (step_uni (digs4 v g ++ (codeT w g ++ rest)) v 4 (by rw [codeP_digs v g (by omega)]) (by rw [codeP_digs v g (by omega)])).2.2.2.2 rfl h1 h2 w (low_code w g h3 h4 rest)

theorem step_codeC (v : Nat) (g : Bool) (h1 : 55296 ≤ v) (h2 : v ≤ 57343) : strStep (codeT v g ++ [34]) = .bad 4 := by
  have h := (step_uni (digs4 v g ++ [34]) v 4 (by rw [codeP_digs v g (by omega)]) (by rw [codeP_digs v g (by omega)])).2.2.2.1 rfl h1 h2 (fun _ => by show lowHalf [34] = none; rfl)
  exact h

theorem next_quote (x : List UInt8) : nextS (34 :: x) = strGo (x.length + 2) x 1 [] := by
  have hb : blanks (34 :: x) = 0 := rfl
  unfold nextS
  rw [hb, List.drop_zero]
  have hp : (plainN (34 :: x)).1 = 0 := by
    unfold plainN words
    have p1 : ∀ k : UInt8, k ≠ 34 → pre [k] (34 :: x) = false := fun k hk => by rw [pre_one]; exact beq_eq_false_iff_ne.2 (Ne.symm hk)
    have p2 : ∀ (k : UInt8) (r : List UInt8), k ≠ 34 → pre (k :: r) (34 :: x) = false := fun k r hk => by
      unfold pre
      rw [beq_eq_false_iff_ne]
      intro e
      simp at e
      exact hk e.1.symm
    simp only [plainL, p2 123 [] (by decide), p2 125 [] (by decide), p2 91 [] (by decide), p2 93 [] (by decide), p2 58 [] (by decide), p2 44 [] (by decide), p2 116 _ (by decide), p2 102 _ (by decide), p2 110 _ (by decide)]
    rfl
  rw [(tok_plain 34 x).2 hp, if_pos rfl]
  unfold textR
  show LexR.shift 0 (strGo (x.length + 1 + 1) x 1 []) = _
  cases strGo (x.length + 1 + 1) x 1 [] <;> simp [LexR.shift]

theorem codeT_len (r : Nat) (g : Bool) : (codeT r g).length = 6 := rfl
theorem go_end (f p : Nat) (out : List UInt8) : strGo (f + 1) [34] p out = .tok 8 0 (p + 1) out := by
  rw [strGo]; simp [strStep]

theorem next_codeA (r : Nat) (g : Bool) (h : r < 65536) (hs : ¬ (55296 ≤ r ∧ r ≤ 57343)) : nextS (34 :: (codeT r g ++ [34])) = .tok 8 0 8 (putL r) := by
  have e : (codeT r g ++ [34] : List UInt8).length + 2 = 9 := rfl
  rw [next_quote, e, strGo, step_codeA r g h hs]
  simp only
  rw [List.drop_append, codeT_len, show List.drop 6 (codeT r g) = [] from rfl]
  simp only [List.nil_append]
  exact go_end 7 7 _
theorem next_codeB (v w z : Nat) (g : Bool) (h1 : 55296 ≤ v) (h2 : v ≤ 56319) (h3 : 56320 ≤ w) (h4 : w ≤ 57343) (hz : 65536 + (v - 55296) * 1024 + (w - 56320) = z) : nextS (34 :: (codeT v g ++ (codeT w g ++ [34]))) = .tok 8 0 14 (putL z) := by
  have e : (codeT v g ++ (codeT w g ++ [34]) : List UInt8).length + 2 = 14 + 1 := rfl
  have hst := step_codeB v w g h1 h2 h3 h4 [34]
  rw [hz] at hst
  have hd : List.drop 12 (codeT v g ++ (codeT w g ++ [34])) = [34] := rfl
  clear hz
  rw [next_quote, e, strGo, hst]
  simp only [hd, List.nil_append]
  exact go_end 13 13 (putL z)
theorem next_codeC (v : Nat) (g : Bool) (h1 : 55296 ≤ v) (h2 : v ≤ 57343) : nextS (34 :: (codeT v g ++ [34])) = .err 4 1 := by
  have e : (codeT v g ++ [34] : List UInt8).length + 2 = 9 := rfl
  rw [next_quote, e, strGo, step_codeC v g h1 h2]
  simp
theorem next_codeD (v : Nat) (g : Bool) (h1 : 55296 ≤ v) (h2 : v ≤ 57343) : nextS (34 :: 120 :: (codeT v g ++ [34])) = .err 4 2 := by
  have e : (120 :: (codeT v g ++ [34]) : List UInt8).length + 2 = 10 := rfl
  rw [next_quote, e, strGo, step_plain 120 _ (by decide) (by decide) (by decide) (by decide)]
  simp only [List.drop_succ_cons, List.drop_zero]
  rw [strGo, step_codeC v g h1 h2]
  simp

theorem digs_hex (r : Nat) (g : Bool) : (hexL [UInt8.ofNat (r / 256 % 256), UInt8.ofNat (r % 256)]).map (upC g) = digs4 r g := by
  have e1 : (UInt8.ofNat (r / 256 % 256)).toNat = r / 256 % 256 := by simp
  have e2 : (UInt8.ofNat (r % 256)).toNat = r % 256 := by simp
  simp only [hexL, List.map_cons, List.map_nil, List.flatten_cons, List.flatten_nil, List.cons_append, List.nil_append, e1, e2]
  rfl

theorem rd_two (w : World) (a b : Nat) (ha : a < 256) (hb : b < 256) : RdB (w.alloc (.cells #[.int .u8 (a : Nat), .int .u8 (b : Nat)] 5)) (some ⟨w.heap.size, 0, none⟩) 2 [UInt8.ofNat a, UInt8.ofNat b] := by
  have ea : a % 256 = a := by omega
  have eb : b % 256 = b := by omega
  refine ⟨rfl, by omega, fun i hi => ⟨w.heap.size, 0, rfl, ?_⟩⟩
  match i, hi with
  | 0, _ => simp [bAt, ea]
  | 1, _ => simp [bAt, eb]

theorem goes_const (w : World) (B x y : Nat) (hx : x < 256) (hy : y < 256) (C : Nat × Nat) : GoesB (w.alloc (.cells #[.int .u8 (x : Nat), .int .u8 (y : Nat)] 5 C)) B (.slice (some ⟨w.heap.size, 0, none⟩) 2 2) [UInt8.ofNat x, UInt8.ofNat y] := by
  have ex : x % 256 = x := by omega
  have ey : y % 256 = y := by omega
  refine .inr ⟨w.heap.size, rfl, rfl, by simp, fun i hi => ⟨w.heap.size, 0, rfl, ?_⟩⟩
  rw [Nat.zero_add, cell_of_row _ w.heap.size i _ _ C (heap_alloc_new w _)]
  match i, hi with
  | 0, _ => simp [bAt, ex]
  | 1, _ => simp [bAt, ey]

theorem goes_text {w6 : World} {B : Nat} {v6 : Value} {l : List UInt8} (ho : GoesB w6 B v6 l) :
    ∃ a m c, v6 = .slice a m c ∧ (convert 47 9 (.slice a m c)).run Try.prog w6 = .ok (.string (txt l)) w6 := by
  rcases ho with ho | ⟨g, rfl, hr⟩
  · exact own_text ho
  · exact ⟨_, _, _, rfl, conv_str hr _⟩

/-- What stands at the head of each round. -/
def CodRel (w : World) (l : List UInt8) (g : Bool) (v i : Value) (wr : World) : Prop := ∃ (u : Value) (k : Nat), u = v ∧ i = .int .i64 k ∧ k ≤ l.length ∧ GoesB wr w.heap.size u (92 :: 117 :: (l.map (upC g)).take k) ∧ Below w.heap.size w wr

theorem cod_next {w w6 : World} {v6 : Value} {l : List UInt8} {g : Bool} {k : Nat} {x : UInt8} {i : Value} (hk : k < l.length) (hy : x = upC g l[k]) (ho : OwnB w6 w.heap.size v6 (92 :: 117 :: ((l.map (upC g)).take k ++ [x]))) (hb : Below w.heap.size w w6) (hi : i = .int .i64 ((k : Int) + 1)) : CodRel w l g v6 i w6 := by
  refine ⟨v6, k + 1, rfl, by rw [hi]; simp, hk, ?_, hb⟩
  rw [List.take_succ_eq_append_getElem (by simpa using hk)]
  rw [hy] at ho
  simp only [List.getElem_map]
  exact .inl ho

set_option maxRecDepth 100000 in
set_option maxHeartbeats 8000000 in
theorem lcode_calls (r : Nat) (hr : r ≤ 2000000) (g : Bool) (w : World) :
    Calls Try.prog 31 #[.int .i64 r, .bool g] w fun e w' => e = .returned (.string (txt (codeT r g))) ∧ Below w.heap.size w w' := by
  obtain ⟨A0, hA0⟩ : ∃ A : Nat, A = r / 256 := ⟨_, rfl⟩
  obtain ⟨A, hA⟩ : ∃ A : Nat, A = r / 256 % 256 := ⟨_, rfl⟩
  obtain ⟨B, hB⟩ : ∃ B : Nat, B = r % 256 := ⟨_, rfl⟩
  have q1 : (r : Int) / 256 = (A0 : Int) := by omega
  have q2 : (r : Int) % 256 = (B : Int) := by omega
  have q3 : (r : Int).tdiv 256 = (A0 : Int) := by rw [Int.tdiv_eq_ediv_of_nonneg (by omega)]; omega
  have q4 : (r : Int).tmod 256 = (B : Int) := by rw [Int.tmod_eq_emod_of_nonneg (by omega)]; omega
  have q5 : IntKind.u8.wrap (A0 : Int) = (A : Int) := by rw [IntKind.wrap_u8']; omega
  have q6 : IntKind.u8.wrap (B : Int) = (B : Int) := by rw [IntKind.wrap_u8']; omega
  have hA8 : A < 256 := by omega
  have hB8 : B < 256 := by omega
  have HT : Hid (92 :: 117 :: (hexL [UInt8.ofNat A, UInt8.ofNat B]).map (upC g) = codeT r g) := by show _ = _; rw [hA, hB, digs_hex]; rfl
  have CH := fun W => Lib.hid (hex_calls _ 2 2 _ _ (rd_two W A B hA8 hB8) (by omega))
  have hhl := hexL_len [UInt8.ofNat A, UInt8.ofNat B]
  generalize hexL [UInt8.ofNat A, UInt8.ofNat B] = L at HT CH hhl
  have hL4 : L.length = 4 := hhl
  obtain ⟨S, hS⟩ : ∃ S, S = txt L := ⟨_, rfl⟩
  have hSs : S.size = 4 := by rw [hS, txt_size, hL4]
  have HSL : Hid (sl S = L) := by show _ = _; rw [hS]; rfl
  rw [← hS] at CH
  have kc := fun (w : World) (C : Array Value) (n c : Nat) => Lib.run_convert_bytes_const (P := Try.prog) w 47 5 C n c Try.underlying47 Try.underlying5
  clear hA hB hA0 hhl hS
  go_enter Try.func31, Try.ntmps31
  go_wp2_with fail
  refine (CH _).out.mono ?_
  rintro e w1 ⟨rfl, hb1⟩
  have hB1 := (((Below.refl w.heap.size w).alloc (Nat.le_refl _) _).trans (hb1.mono (by simp)))
  have HB1 := Lib.hid hB1
  have hs1 := hB1.size
  clear hb1 hB1
  go_wp2_with fail
  go_loopw [6, 7, 8] (fun v i _ wr => CodRel w L g v i wr) (fun _ i _ _ => 4 - (intOf i).toNat)
  case atStart => exact ⟨_, 0, rfl, rfl, Nat.zero_le _, goes_const w1 w.heap.size 92 117 (by omega) (by omega) _, HB1.out.alloc hs1 _⟩
  case round =>
    obtain ⟨v, k, rfl, rfl, hk, ho, hbl⟩ := hrel
    rw [hL4] at hk
    have HO := Lib.hid ho
    have HB := Lib.hid hbl
    have hsz := hbl.size
    clear ho hbl
    by_cases hlt : k < 4
    · have hlS : k < S.size := by omega
      have hlk : k < L.length := by omega
      obtain ⟨c, hc⟩ : ∃ c, c = S[k]'hlS := ⟨_, rfl⟩
      have hcl : L[k] = c := by
        rw [hc]
        have : (sl S)[k]'(by rw [sl_len]; exact hlS) = S[k]'hlS := rfl
        rw [← this]
        simp only [HSL.out]
      have hcn : (S[k]'hlS).toNat = c.toNat := by rw [hc]
      have HCL := Lib.hid hcl
      have ub := u8_lt (S[k]'hlS)
      have hsplit : (g = true ∧ 97 ≤ c.toNat) ∨ (g = true ∧ c.toNat < 97) ∨ g = false := by
        cases g with
        | false => exact .inr (.inr rfl)
        | true =>
          by_cases h : 97 ≤ c.toNat
          · exact .inl ⟨rfl, h⟩
          · exact .inr (.inl ⟨rfl, by omega⟩)
      rcases hsplit with ⟨rfl, hge⟩ | ⟨rfl, hlt97⟩ | rfl
      · obtain ⟨y, hy⟩ : ∃ y : Nat, y = c.toNat - 32 := ⟨_, rfl⟩
        have hy8 : y < 256 := by have := c.toNat_lt; omega
        have HQ : Hid (UInt8.ofNat y = upC true c) := by
          show _ = _
          unfold upC
          rw [if_pos ⟨rfl, hge⟩, hy]
          apply UInt8.toNat_inj.1
          rw [UInt8.toNat_sub_of_le c 32 (by rw [UInt8.le_iff_toNat_le]; show 32 ≤ _; omega)]
          have := c.toNat_lt
          simp
          omega
        have i1 : decide ((97 : Int) ≤ (S[k]'hlS).toNat) = true := by simp; omega
        have i2 : IntKind.u8.wrap (((S[k]'hlS).toNat : Int) - 32) = (y : Int) := by rw [IntKind.wrap_u8']; omega
        clear hc hcl hcn hge hy
        go_wp2_with (at_builtin; refine wpList_appG (v := v) (bs := 92 :: 117 :: (L.map (upC true)).take k) (sv := .slice (some ⟨wr.heap.size, 0, none⟩) 1 1) (l := [UInt8.ofNat y]) (B := w.heap.size) (by rfl) _ _ (by rfl) (by rfl) (HO.out.keep ((Below.refl _ _).alloc (Nat.le_refl _) _)) (by rfl) (srcB_one wr y hy8) (by simp) ?o3 ?o4 ?_)
        case o3 => simp; omega
        case o4 => simp; omega
        intro v6 w6 ho6 ha6
        have HO6 := Lib.hid ho6
        have HB6 := Lib.hid ((HB.out.alloc hsz _).trans ha6)
        clear ho6 ha6
        go_wp2_with fail
        go_roundw
        case rel => exact cod_next hlk (by rw [HCL.out]; exact HQ.out) HO6.out HB6.out rfl
        case measure => simp [intOf]; omega
      · have HQ : Hid (S[k]'hlS = upC true c) := by
          show _ = _
          unfold upC
          rw [if_neg (by intro h; have := h.2; omega), hc]
        have i1 : decide ((97 : Int) ≤ (S[k]'hlS).toNat) = false := by simp; omega
        have HS1 := Lib.hid (srcB_one wr (S[k]'hlS).toNat (UInt8.toNat_lt _))
        clear hc hcl hcn hlt97
        go_wp2_with (at_builtin; refine wpList_appG (v := v) (bs := 92 :: 117 :: (L.map (upC true)).take k) (sv := .slice (some ⟨wr.heap.size, 0, none⟩) 1 1) (l := [UInt8.ofNat (S[k]'hlS).toNat]) (B := w.heap.size) (by rfl) _ _ (by rfl) (by rfl) (HO.out.keep ((Below.refl _ _).alloc (Nat.le_refl _) _)) (by rfl) HS1.out (by simp) ?o3 ?o4 ?_)
        case o3 => simp; omega
        case o4 => simp; omega
        intro v6 w6 ho6 ha6
        have HO6 := Lib.hid ho6
        have HB6 := Lib.hid ((HB.out.alloc hsz _).trans ha6)
        clear ho6 ha6
        go_wp2_with fail
        go_roundw
        case rel => exact cod_next hlk (by rw [HCL.out]; exact HQ.out) HO6.out HB6.out rfl
        case measure => simp [intOf]; omega
      · have HQ : Hid (S[k]'hlS = upC false c) := by
          show _ = _
          unfold upC
          rw [if_neg (by simp), hc]
        have HS1 := Lib.hid (srcB_one wr (S[k]'hlS).toNat (UInt8.toNat_lt _))
        clear hc hcl hcn
        go_wp2_with (at_builtin; refine wpList_appG (v := v) (bs := 92 :: 117 :: (L.map (upC false)).take k) (sv := .slice (some ⟨wr.heap.size, 0, none⟩) 1 1) (l := [UInt8.ofNat (S[k]'hlS).toNat]) (B := w.heap.size) (by rfl) _ _ (by rfl) (by rfl) (HO.out.keep ((Below.refl _ _).alloc (Nat.le_refl _) _)) (by rfl) HS1.out (by simp) ?o3 ?o4 ?_)
        case o3 => simp; omega
        case o4 => simp; omega
        intro v6 w6 ho6 ha6
        have HO6 := Lib.hid ho6
        have HB6 := Lib.hid ((HB.out.alloc hsz _).trans ha6)
        clear ho6 ha6
        go_wp2_with fail
        go_roundw
        case rel => exact cod_next hlk (by rw [HCL.out]; exact HQ.out) HO6.out HB6.out rfl
        case measure => simp [intOf]; omega
    · obtain rfl : k = 4 := by omega
      have e : (L.map (upC g)).take 4 = L.map (upC g) := List.take_of_length_le (by rw [List.length_map]; omega)
      have ho' := HO.out
      rw [e, HT.out] at ho'
      obtain ⟨a9, m9, c9, rfl, hcv⟩ := goes_text ho'
      clear ho' e HO
      go_wp2_with fail
      go_ret
      exact ⟨rfl, HB.out⟩

end Go.Proofs.Ytamhdoijmkjngaa
