/- SniffGuesses, SniffNames: the walks. -/
import Derived.Test.YtikjmlidgiphjaaDoorOpen2
import Derived.Test.YtikjmlidgiphjaaDoorSnC
import Derived.Test.YtikjmlidgiphjaaDoorSnD
namespace Go.Proofs.YtikjmlidgiphjaaDoor
open Go.RowKit
set_option linter.unusedVariables false
set_option linter.unusedSimpArgs false

theorem open_cap {H : Type} {enc : TypeId × Value → H} {P : Program} {W : World} {t e : TypeId} {a : Option Addr} {len cap : Nat} {d : DataW H} {p : List MemPlace}
    (ht : P.underlying t = some (.slice e)) (h : DataW.Trod enc P W 0 (fun _ => true) true t (.slice a len cap) d p) : cap ≤ 9223372036854775807 := by
  obtain ⟨fuel, hf⟩ := h
  rcases DataW.trod_slice ht hf with ⟨e, _⟩ | ⟨x, l, c, elems, rest, m, hm, e, _, _, hlc, hcm, hel, hat, _⟩
  · simp [Value.cells] at e
    omega
  · simp [Value.cells] at e
    obtain ⟨rfl, rfl, rfl⟩ := e
    unfold maxLen at hcm
    omega

set_option maxRecDepth 100000 in
set_option maxHeartbeats 4000000 in
theorem SniffGuesses_walk (w : World) (a : Option Addr) (n c : Nat) (L : List UInt8) (h : RdB w a n L) (hz : a = none → c = 0) (hc : n ≤ c) (hcap : c ≤ 9223372036854775807) :
    Calls Tryd.prog 3 #[.slice a n c] w fun e w' => e = .returned (.bool true) ∧ Below w.heap.size w w' := by
  have HRD := Lib.hid h
  have CG := Lib.hid (fun W (hW : RdB W a n L) (hn : n ≤ 2000) => guess_calls a n c L W hW hc hcap (by omega))
  have CR := Lib.hid (fun W (hW : RdB W a n L) (hn : n ≤ 2000) => rguess_calls a n c L W hW (by omega))
  obtain ⟨R, hR⟩ : ∃ R, R = guessN L := ⟨_, rfl⟩
  rw [← hR] at CG CR
  have hrr : ((R : Int) == (R : Int)) = true := by simp
  clear h hz hR
  go_enter Tryd.func3, Tryd.ntmps3
  go_wp2_with fail
  refine (awake32 _).mono ?_
  rintro e w1 ⟨rfl, hb1⟩
  have HB1 := Lib.hid hb1
  clear hb1
  by_cases hlen : 2000 < n
  · have d0 : decide (2000 < (n : Int)) = true := by simp; omega
    have d0n : decide (2000 < n) = true := by simp; omega
    clear hlen
    go_wp2_with fail
    go_ret
    exact ⟨rfl, HB1.out⟩
  have d0 : decide (2000 < (n : Int)) = false := by simp; omega
  have d0n : decide (2000 < n) = false := by simp; omega
  go_wp2_with fail
  refine (CG.out _ (HRD.out.keep HB1.out) (by omega)).mono ?_
  rintro e w2 ⟨rfl, hb2⟩
  have HB2 : Hid (Below w.heap.size w w2) := HB1.out.trans (hb2.mono HB1.out.size)
  clear hb2
  go_wp2_with fail
  refine (CR.out _ (HRD.out.keep HB2.out) (by omega)).mono ?_
  rintro e w3 ⟨rfl, rfl⟩
  go_wp2_with fail
  go_ret
  exact ⟨rfl, HB2.out⟩

set_option maxRecDepth 100000 in
set_option maxHeartbeats 8000000 in
theorem SniffNames_walk (w : World) (k : Int) (hk0 : (Lit.int .i64 k).wf = true) (s : ByteArray) (hs0 : s.size ≤ 9223372036854775807) :
    Calls Tryd.prog 4 #[.int .i64 k, .string s] w fun e w' => e = .returned (.bool true) ∧ Below w.heap.size w w' := by
  have hk := wf_i64 hk0
  have CN := Lib.hid (name_calls k)
  have CR := Lib.hid (fun i hi W => rname_calls i hi W)
  have CF := Lib.hid (format_calls s)
  obtain ⟨R, hR⟩ : ∃ R, R = formN s := ⟨_, rfl⟩
  rw [← hR] at CF
  have hnn : ((nameN k).toList == (nameN k).toList) = true := by simp
  have hrr : ((R : Int) == (R : Int)) = true := by simp
  obtain ⟨sz, hsz⟩ : ∃ x, x = s.size := ⟨_, rfl⟩
  go_enter Tryd.func4, Tryd.ntmps4
  go_wp2_with fail
  refine (awake32 _).mono ?_
  rintro e w1 ⟨rfl, hb1⟩
  have HB1 := Lib.hid hb1
  clear hb1
  by_cases hlen : 100 < s.size
  · have d0 : decide (100 < (s.size : Int)) = true := by simp; omega
    have d0n : decide (100 < s.size) = true := by simp; omega
    clear hlen
    go_wp2_with fail
    go_ret
    exact ⟨rfl, HB1.out⟩
  have d0 : decide (100 < (s.size : Int)) = false := by simp; omega
  have d0n : decide (100 < s.size) = false := by simp; omega
  go_wp2_with fail
  go_loopw [5, 6] (fun q i wr => ∃ j E : Nat, 1 ≤ j ∧ j ≤ 6 ∧ i = .int .i64 (j : Nat) ∧ q = .int .i64 (E : Nat) ∧ Hid ((∀ i : Nat, 1 ≤ i → i < j → ¬ nameN i = s) ∧ E = 0 ∨ (E < j ∧ R = E)) ∧ Below w.heap.size w wr) (fun _ i _ => 6 - (intOf i).toNat)
  case atStart => exact ⟨1, 0, by omega, by omega, rfl, rfl, Lib.hid (.inl ⟨fun i h1 h2 => by omega, rfl⟩), HB1.out⟩
  case round =>
    obtain ⟨j, E, hj1, hj6, rfl, rfl, hno, hbl⟩ := hrel
    have HBL := Lib.hid hbl
    clear hbl
    by_cases h6 : j = 6
    · subst h6
      have HE : Hid (E = R) := by
        show _ = _
        rcases hno.out with ⟨h1, h2⟩ | ⟨h1, h2⟩
        · rw [h2, hR]; exact (form_none s (fun i h3 h5 => h1 i h3 (by omega))).symm
        · exact h2.symm
      obtain rfl := HE.out
      clear hno hR
      go_wp2_with fail
      refine (CF.out _).mono ?_
      rintro e w2 ⟨rfl, rfl⟩
      go_wp2_with fail
      refine (CN.out _).mono ?_
      rintro e w3 ⟨rfl, rfl⟩
      go_wp2_with fail
      refine (CR.out k hk _).mono ?_
      rintro e w4 ⟨rfl, hb4⟩
      have HB4 := Lib.hid hb4
      clear hb4
      generalize nameN k = nm at hnn
      have hee : ∀ b : Bool, (b == b) = true := by simp
      go_wp2_with fail
      go_ret
      exact ⟨rfl, HBL.out.trans (HB4.out.mono HBL.out.size)⟩
    have d5 : decide ((j : Int) ≤ 5) = true := by simp; omega
    have d5n : decide (j ≤ 5) = true := by simp; omega
    have wj : IntKind.i64.wrap ((j : Int) + 1) = ((j + 1 : Nat) : Int) := (IntWalk.i64_in _ (by omega)).trans (by omega)
    obtain ⟨j2, hj2⟩ : ∃ x, x = j + 1 := ⟨_, rfl⟩
    rw [← hj2] at wj
    have HJ : Hid (j < j2 ∧ 1 ≤ j2 ∧ j2 ≤ 6) := by show _ ∧ _; omega
    go_wp2_with fail
    refine (CR.out (j : Int) (by omega) _).mono ?_
    rintro e w2 ⟨rfl, hb2⟩
    have HB2 : Hid (Below w.heap.size w w2) := HBL.out.trans (hb2.mono HBL.out.size)
    clear hb2
    by_cases hs : nameN j = s
    · have hb : ((nameN (j : Int)).toList == s.toList) = true := by rw [tl_beq]; simpa using hs
      have HX : Hid ((∀ i : Nat, 1 ≤ i → i < j2 → ¬ nameN i = s) ∧ j = 0 ∨ (j < j2 ∧ R = j)) := Lib.hid (.inr ⟨by omega, by rw [hR]; exact form_is s j ⟨hj1, by omega⟩ hs⟩)
      generalize nameN (j : Int) = nm at hb
      clear hno hs hj6 h6 hj2 hR
      go_wp2_with fail
      go_roundw
      case rel => exact ⟨j2, j, HJ.out.2.1, HJ.out.2.2, rfl, rfl, HX, HB2.out⟩
      case measure => have := HJ.out; simp only [intOf]; omega
    · have hb : ((nameN (j : Int)).toList == s.toList) = false := by rw [tl_beq]; simpa using hs
      have HX : Hid ((∀ i : Nat, 1 ≤ i → i < j2 → ¬ nameN i = s) ∧ E = 0 ∨ (E < j2 ∧ R = E)) := by
        refine Lib.hid ?_
        rcases hno.out with ⟨h1, h2⟩ | ⟨h1, h2⟩
        · exact .inl ⟨fun i h3 h4 => by
            by_cases e : i = j
            · rw [e]; exact hs
            · exact h1 i h3 (by omega), h2⟩
        · exact .inr ⟨by omega, h2⟩
      generalize nameN (j : Int) = nm at hb
      clear hno hs hj6 h6 hj2 hR
      go_wp2_with fail
      go_roundw
      case rel => exact ⟨j2, E, HJ.out.2.1, HJ.out.2.2, rfl, rfl, HX, HB2.out⟩
      case measure => have := HJ.out; simp only [intOf]; omega

end Go.Proofs.YtikjmlidgiphjaaDoor
