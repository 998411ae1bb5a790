/- propylonbook.Bent: bytes, one of which is turned. -/
import Derived.Test.YtkcfkdmffbhljaaBiB
import Derived.Test.YtkcfkdmffbhljaaPlc
namespace Go.Proofs.Ytkcfkdmffbhljaa
open Go.RowKit
set_option linter.unusedVariables false
set_option linter.unusedSimpArgs false

theorem ownB_empty3 {w : World} {B g : Nat} (h : w.heap[g]? = some (.cells #[] 5 (0, 0))) (hB : B ≤ g) : OwnB w B (.slice (some ⟨g, 0, none⟩) 0 0) [] := ⟨rfl, .inr ⟨g, 0, #[], rfl, hB, h, Nat.le_refl _, by unfold maxLen; omega, rfl, rfl⟩⟩

theorem own_byte {w : World} {B : Nat} {v : Value} {L : List UInt8} (h : OwnB w B v L) (h0 : 0 < L.length) :
    ∃ g c, v = .slice (some ⟨g, 0, none⟩) L.length c ∧ B ≤ g ∧ L.length ≤ c ∧ g < w.heap.size ∧ RdB w (some ⟨g, 0, none⟩) L.length L ∧ ∀ j, w.frozen? ⟨g, j, none⟩ = false := by
  obtain ⟨a, c, rfl, hrd⟩ := h.reads
  have hx := h.1
  rcases h.2 with ⟨e, h1⟩ | ⟨g, cp, cur, e, hB, hh, hn, hc, hs, hx⟩
  · omega
  · simp only [Value.slice.injEq] at e
    obtain ⟨rfl, -, rfl⟩ := e
    refine ⟨g, c, rfl, hB, hn, ?_, hrd, fun j => ?_⟩
    · have := (Array.getElem?_eq_some_iff.1 hh).1
      exact this
    · simp [World.frozen?, hh]

theorem bits_xor_u8_nat (a b : Nat) (ha : a < 256) (hb : b < 256) : bits .xor .u8 (a : Int) (b : Int) = ((a ^^^ b : Nat) : Int) := by
  have hx : a ^^^ b < 2 ^ 8 := Nat.xor_lt_two_pow (by omega) (by omega)
  have h1 : (BitVec.ofInt 8 (a : Int)).toNat = a := by
    rw [BitVec.ofInt_natCast, BitVec.toNat_ofNat]; exact Nat.mod_eq_of_lt (by omega)
  have h2 : (BitVec.ofInt 8 (b : Int)).toNat = b := by
    rw [BitVec.ofInt_natCast, BitVec.toNat_ofNat]; exact Nat.mod_eq_of_lt (by omega)
  show IntKind.u8.wrap ((BitVec.ofInt 8 (a : Int) ^^^ BitVec.ofInt 8 (b : Int)).toNat : Int) = _
  rw [BitVec.toNat_xor, h1, h2, IntKind.wrap_u8']
  omega
theorem xor_turns (a b : Nat) (hb : b ≠ 0) : a ^^^ b ≠ a := by
  intro h
  have h2 : a ^^^ (a ^^^ b) = a ^^^ a := by rw [h]
  rw [← Nat.xor_assoc, Nat.xor_self, Nat.zero_xor] at h2
  exact hb h2

/-- A byte is set. -/
theorem rd_set2 {w : World} {b n j : Nat} {l : List UInt8} {u : Value} (h : RdB w (some ⟨b, 0, none⟩) n l) (hc : w.cell? ⟨b, j, none⟩ = some u) (y : UInt8) :
    ∀ (W : World), (∀ i, W.cell? ⟨b, i, none⟩ = w.cell? ⟨b, i, none⟩) → RdB (W.setCell ⟨b, j, none⟩ (.int .u8 (y.toNat : Nat))) (some ⟨b, 0, none⟩) n (l.set j y) := by
  intro W hW
  refine ⟨by rw [List.length_set]; exact h.1, h.2.1, fun i hi => ⟨b, 0, rfl, ?_⟩⟩
  rw [Nat.zero_add]
  have hl := h.1
  by_cases e : i = j
  · subst e
    rw [World.cell?_setCell_same _ _ _ ((hW i).trans hc)]
    simp [bAt, List.getD_eq_getElem?_getD, List.getElem?_set, show i < l.length by omega]
  · rw [World.cell?_setCell_other _ _ _ _ (by simp; first | done | omega), hW]
    obtain ⟨b', o', ha, hcc⟩ := h.at i hi
    simp only [Option.some.injEq, Addr.mk.injEq, and_true] at ha
    obtain ⟨rfl, rfl⟩ := ha
    rw [Nat.zero_add] at hcc
    rw [hcc]
    simp [bAt, List.getD_eq_getElem?_getD, List.getElem?_set, Ne.symm e]

/-- Bytes, one of which is turned. -/
def bentL (L : List UInt8) (m y : Nat) : List UInt8 := L.set m (UInt8.ofNat (bAt L m ^^^ y))
theorem bentL_len (L : List UInt8) (m y : Nat) : (bentL L m y).length = L.length := by simp [bentL]
theorem bentL_ne (L : List UInt8) (m y : Nat) (hm : m < L.length) (hy : y < 256) (h0 : y ≠ 0) : bentL L m y ≠ L := by
  intro h
  have hx : bAt L m ^^^ y < 2 ^ 8 := Nat.xor_lt_two_pow (by have := bAt_lt L m; omega) (by omega)
  have h1 : bAt (bentL L m y) m = bAt L m ^^^ y := by
    unfold bentL
    simp only [bAt, List.getD_eq_getElem?_getD, List.getElem?_set, hm, if_true, Option.getD_some]
    rw [UInt8.toNat_ofNat']
    exact Nat.mod_eq_of_lt (by simpa [bAt, List.getD_eq_getElem?_getD] using hx)
  rw [h] at h1
  exact xor_turns _ _ h0 h1.symm

set_option maxRecDepth 100000 in
set_option maxHeartbeats 4000000 in
theorem bent_calls (b o n c : Nat) (L : List UInt8) (w : World) (h : RdB w (some ⟨b, o, none⟩) n L) (hn0 : 0 < n) (hn : n ≤ 1000000) (K : Int) (y : Nat) (hy : y < 256) :
    Calls Try.prog 22 #[.slice (some ⟨b, o, none⟩) n c, .int .i64 K, .int .u8 (y : Nat)] w fun e w' => ∃ a' c', e = .returned (.slice a' n c') ∧ RdB w' a' n (bentL L (placeN K n) y) ∧ n ≤ c' ∧ Below w.heap.size w w' := by
  have hL : L.length = n := h.1
  have HE : Hid (OwnB (w.alloc (.cells #[] 5)) w.heap.size (.slice (some ⟨w.heap.size, 0, none⟩) 0 0) []) := ownB_empty3 (heap_alloc_new w _) (Nat.le_refl _)
  have HSE : Hid (SrcB (w.alloc (.cells #[] 5)) (.slice (some ⟨b, o, none⟩) n c) L) := ⟨_, _, _, rfl, h.keep ((Below.refl _ _).alloc (Nat.le_refl _) _), by simp⟩
  have CP := Lib.hid (place_calls K n hn0 hn)
  have hm := place_lt K n hn0
  obtain ⟨m, hm2⟩ : ∃ x, x = placeN K n := ⟨_, rfl⟩
  rw [← hm2] at CP hm
  have HMM := Lib.hid hm2
  clear hm2 h
  go_enter Try.func22, Try.ntmps22
  go_wp2_with (at_builtin; refine wpList_appB (v := .slice (some ⟨w.heap.size, 0, none⟩) 0 0) (bs := []) (sv := .slice (some ⟨b, o, none⟩) n c) (l := L) (B := w.heap.size) (by rfl) _ _ (by rfl) (by rfl) HE.out (by rfl) HSE.out ?o2 ?o3 ?_)
  case o2 => simp only [List.length_nil]; omega
  case o3 => simp
  intro v1 w1 ho1 ha1
  have hbn : Below w.heap.size w w1 := ha1.below ((Below.refl _ _).alloc (Nat.le_refl _) _) (by simp) (fun i hi => by have : w.heap.size = i := Option.some.inj hi; omega)
  obtain ⟨g, c1, rfl, hB, hc1, hg, hrd, hfz⟩ := own_byte (L := L) ho1 (by omega)
  rw [hL] at hc1 hrd
  rw [hL]
  have HB1 := Lib.hid hbn
  have HRD := Lib.hid hrd
  have j0 : (0 : Int) ≤ (m : Int) := by omega
  have j1 : (m : Int) < (n : Int) := by omega
  have hcm := (hrd.at m hm)
  obtain ⟨b', o', e', hcm⟩ := hcm
  simp only [Option.some.injEq, Addr.mk.injEq, and_true] at e'
  obtain ⟨rfl, rfl⟩ := e'
  obtain ⟨X, hX⟩ : ∃ x, x = bAt L m := ⟨_, rfl⟩
  rw [← hX] at hcm
  rw [Nat.zero_add] at hcm
  have hfm := hfz m
  clear ho1 ha1 hbn hrd hfz
  go_wp2_with fail
  refine (CP.out _).mono ?_
  rintro e w2 ⟨rfl, rfl⟩
  go_wp2_with fail
  go_ret
  rw [← HMM.out, bits_xor_u8_nat _ _ (bAt_lt L m) hy]
  refine ⟨_, _, rfl, ?_, hc1, HB1.out.setCell hB _⟩
  have hx : bAt L m ^^^ y < 2 ^ 8 := Nat.xor_lt_two_pow (by have := bAt_lt L m; omega) (by omega)
  have e : (UInt8.ofNat (bAt L m ^^^ y)).toNat = bAt L m ^^^ y := by rw [UInt8.toNat_ofNat']; exact Nat.mod_eq_of_lt (by omega)
  have := rd_set2 HRD.out hcm (UInt8.ofNat (bAt L m ^^^ y)) w1 (fun _ => rfl)
  rw [e] at this
  exact this

end Go.Proofs.Ytkcfkdmffbhljaa
