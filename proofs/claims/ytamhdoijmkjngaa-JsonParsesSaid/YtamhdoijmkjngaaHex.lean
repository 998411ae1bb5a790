/- The reference's Hex. -/
import Derived.Test.YtamhdoijmkjngaaLexP
import Derived.Test.YtamhdoijmkjngaaApp
import Derived.Test.YtamhdoijmkjngaaStr
import Derived.Deep.RegionHeld3
import Derived.Deep.DrawnRows
namespace Go.Proofs.Ytamhdoijmkjngaa
open Go.RowKit
set_option linter.unusedVariables false
set_option linter.unusedSimpArgs false
attribute [local go_sem ↓] Go.wp_at_zero Go.wp_at_succ

theorem srcB_two (w : World) (a b : UInt8) : SrcB (w.alloc (.cells #[.int .u8 (a.toNat : Nat), .int .u8 (b.toNat : Nat)] 5)) (.slice (some ⟨w.heap.size, 0, none⟩) 2 2) [a, b] := by
  refine ⟨some ⟨w.heap.size, 0, none⟩, 2, 2, rfl, ⟨rfl, by omega, fun i hi => ⟨w.heap.size, 0, rfl, ?_⟩⟩, by simp⟩
  match i, hi with
  | 0, _ | 1, _ => simp [bAt]

/-- Two signs a byte. -/
def hexL (l : List UInt8) : List UInt8 := (l.map fun c => [hexC (c.toNat / 16), hexC (c.toNat % 16)]).flatten

def hexB : ByteArray := ⟨#[48, 49, 50, 51, 52, 53, 54, 55, 56, 57, 97, 98, 99, 100, 101, 102]⟩
theorem hexB_at (i : Nat) (h : i < hexB.size) : hexB[i]'h = hexC i := by
  have h16 : i < 16 := h
  have key : ∀ i : Fin 16, ([48, 49, 50, 51, 52, 53, 54, 55, 56, 57, 97, 98, 99, 100, 101, 102] : List UInt8).getD i 0 = hexC i := by decide
  have := key ⟨i, h16⟩
  rw [← this]
  show ([48, 49, 50, 51, 52, 53, 54, 55, 56, 57, 97, 98, 99, 100, 101, 102] : List UInt8).toArray[i]'_ = _
  simp only [List.getElem_toArray]
  rw [List.getD_eq_getElem?_getD, List.getElem?_eq_getElem (by simpa using h16)]
  rfl

theorem hexL_snoc (l : List UInt8) (i : Nat) (h : i < l.length) : hexL (l.take (i + 1)) = hexL (l.take i) ++ [hexC (bAt l i / 16), hexC (bAt l i % 16)] := by
  rw [List.take_succ_eq_append_getElem h, hexL, List.map_append, List.flatten_append]
  simp only [hexL, List.map_cons, List.map_nil, List.flatten_cons, List.flatten_nil, List.append_nil, bAt_get l i h]

theorem hexL_len (l : List UInt8) : (hexL l).length = 2 * l.length := by
  induction l with
  | nil => rfl
  | cons c r ih => simp only [hexL, List.map_cons, List.flatten_cons, List.length_append, List.length_cons, List.length_nil] at ih ⊢; omega

/-- What stands at the head of each round. -/
def HexRel (w : World) (l : List UInt8) (v i : Value) (wr : World) : Prop := ∃ (u : Value) (k : Nat), u = v ∧ i = .int .i64 k ∧ k ≤ l.length ∧ OwnB wr w.heap.size u (hexL (l.take k)) ∧ Below w.heap.size w wr

theorem hex_next {w6 : World} {B : Nat} {v6 : Value} {l : List UInt8} {k X : Nat} {a b : UInt8} (hk : k < l.length) (hX : X = bAt l k) (ho : OwnB w6 B v6 (hexL (l.take k) ++ [a, b])) (h1 : a = hexC (X / 16)) (h2 : b = hexC (X % 16)) : OwnB w6 B v6 (hexL (l.take (k + 1))) := by
  rw [hexL_snoc l k hk, ← hX, ← h1, ← h2]; exact ho

set_option maxRecDepth 100000 in
set_option maxHeartbeats 8000000 in
theorem hex_calls (a : Option Addr) (len cap : Nat) (l : List UInt8) (w : World) (h : RdB w a len l) (hb : len ≤ 100000) :
    Calls Try.prog 53 #[.slice a len cap] w fun e w' => e = .returned (.string (txt (hexL l))) ∧ Below w.heap.size w w' := by
  have H := Lib.hid h
  have HL := Lib.hid h.1
  clear h
  go_enter Try.func53, Try.ntmps53
  go_wp2_with fail
  go_loopw [3, 4] (fun v i wr => HexRel w l v i wr) (fun _ i _ => len - (intOf i).toNat)
  case atStart => exact ⟨_, 0, rfl, rfl, Nat.zero_le _, World.ownsRow_nil _ _ _ _, Below.refl _ _⟩
  case round =>
    obtain ⟨v, k, rfl, rfl, hk, ho, hbl⟩ := hrel
    rw [HL.out] at hk
    have HO := Lib.hid ho
    have HB := Lib.hid hbl
    have hsz := hbl.size
    by_cases hlt : k < len
    · obtain ⟨b, o, rfl, c0⟩ := (H.out.keep hbl).at k hlt
      obtain ⟨b', o', ha', d0⟩ := H.out.at k hlt
      simp only [Option.some.injEq, Addr.mk.injEq, and_true] at ha'
      obtain ⟨rfl, rfl⟩ := ha'
      have hbw : b < w.heap.size := by simpa using cell_block d0
      have hx8 := bAt_lt l k
      obtain ⟨X, hX⟩ : ∃ X, X = bAt l k := ⟨_, rfl⟩
      rw [← hX] at c0 hx8
      have HX := Lib.hid hX
      have hX8 : (X : Int) < 256 := by omega
      obtain ⟨A, hA⟩ : ∃ A : Nat, A = X / 16 := ⟨_, rfl⟩
      obtain ⟨C, hC⟩ : ∃ C : Nat, C = X % 16 := ⟨_, rfl⟩
      have q1 : (X : Int) / 16 = (A : Int) := by omega
      have q2 : (X : Int) % 16 = (C : Int) := by omega
      have q3 : (X : Int).tdiv 16 = (A : Int) := by rw [Int.tdiv_eq_ediv_of_nonneg (by omega)]; omega
      have q4 : (X : Int).tmod 16 = (C : Int) := by rw [Int.tmod_eq_emod_of_nonneg (by omega)]; omega
      have b4 : (A : Int) < 16 := by omega
      have b5 : (C : Int) < 16 := by omega
      have q5 : IntKind.u8.wrap (A : Int) = (A : Int) := by rw [IntKind.wrap_u8']; omega
      have q6 : IntKind.u8.wrap (C : Int) = (C : Int) := by rw [IntKind.wrap_u8']; omega
      have b6 : A < 16 := by omega
      have b7 : C < 16 := by omega
      have HA := Lib.hid hA
      have HC := Lib.hid hC
      have hlen := hexL_len (l.take k)
      have HLN : Hid ((hexL (l.take k)).length ≤ 200000) := by show _ ≤ _; rw [hlen, List.length_take]; omega
      have HK : Hid (∀ W, Below w.heap.size w W → W.cell? ⟨b, o + k, none⟩ = some (.int .u8 (X : Nat))) := fun W hW => by
        rw [hW.cell (p := ⟨b, o + k, none⟩) hbw, ← HB.out.cell (p := ⟨b, o + k, none⟩) hbw]; exact c0
      clear ho hbl hX d0 hlen hx8 hA hC
      go_wp2_with fail
      go_region_held3 (fun w' => w'.cell? ⟨b, o + k, none⟩ = some (.int .u8 (X : Nat))) (first | go_keep | exact HK.out _ hB6.out)
        ((refine step_appB (v := v) (bs := hexL (l.take k)) (l := [_, _]) (B := w.heap.size) (by rfl) _ _ (by rfl) (by rfl) (HO.out.alloc _) (by rfl) (srcB_two _ _ _) (by have := HLN.out; simp; omega) (by simp; omega) ?_; intro v6 w6 ho6 ha6; have hB6 := Lib.hid (ha6.below ((HB.out.alloc hsz _).drew) (by simp; omega) (fun j hj => (owns_lt HO.out j hj).1)); have HO6 := Lib.hid ho6; clear ho6 ha6))
      all_goals
        have HNX := Lib.hid (hex_next (by rw [HL.out]; exact hlt) HX.out HO6.out ((hexB_at _ _).trans (by rw [← HA.out])) ((hexB_at _ _).trans (by rw [← HC.out])))
        clear HO6
        go_wp2_with fail
        go_roundw
        case rel => exact ⟨_, k + 1, rfl, by simp, by rw [HL.out]; omega, HNX.out, hB6.out⟩
        case measure => simp [intOf]; omega
    · obtain rfl : k = len := by omega
      have e : l.take k = l := List.take_of_length_le (by rw [HL.out]; exact Nat.le_refl _)
      rw [e] at ho
      obtain ⟨a9, c9, rfl, hr9⟩ := ho.reads
      have hcv := conv_str hr9 c9
      clear ho HO hr9 hbl e
      go_wp2_with fail
      go_ret
      exact ⟨rfl, HB.out⟩

end Go.Proofs.Ytamhdoijmkjngaa
