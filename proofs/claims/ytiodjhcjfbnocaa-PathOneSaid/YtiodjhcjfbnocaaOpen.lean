/- From the form's reading of an argument to what the walks ask. -/
import Derived.Test.YtiodjhcjfbnocaaLib
namespace Go.Proofs.Ytiodjhcjfbnocaa
open Go.ChangeShapes Go.WideShapes Go.ChangeAt Go.RowKit
set_option linter.unusedVariables false
set_option linter.unusedSimpArgs false

theorem add_at (b o i : Nat) : (⟨b, o, none⟩ : Addr).add i = ⟨b, o + i, none⟩ := by unfold Addr.add; split <;> simp_all

theorem row_of {w : World} {x : Addr} {n : Nat} {f : Nat → Value} (h : ∀ i, i < n → w.cell? (x.add i) = some (f i)) : RdF w (some x) n f := by
  intro i hi
  obtain ⟨b, o, s⟩ := x
  have hs : s = none := by
    have := World.cell?_spot (h 0 (by omega))
    simpa [Addr.add] using this
  subst hs
  exact ⟨b, o, rfl, by rw [← add_at]; exact h i hi⟩

theorem open_ints_row {H : Type} {enc : TypeId × Value → H} {P : Program} {W : World} {t e : TypeId} {k : IntKind} {a : Option Addr} {len cap : Nat} {d : DataW H} {p : List MemPlace}
    (ht : P.underlying t = some (.slice e)) (he : P.underlying e = some (.int k)) (hc : P.cellsOf e = 1) (h : DataW.Trod enc P W 0 (fun _ => true) true t (.slice a len cap) d p) : ∃ l, RdI k W a len l := by
  obtain ⟨fuel, hf⟩ := h
  rcases open_ints ht he hc hf with ⟨hcs, _⟩ | ⟨x, l, c, zs, hcs, _, hl, hm, hz, _, hcell, hwz⟩
  · simp [Value.cells] at hcs
    obtain ⟨rfl, rfl, rfl⟩ := hcs
    exact ⟨[], rfl, by omega, by simp, fun i hi => absurd hi (Nat.not_lt_zero i)⟩
  · simp [Value.cells] at hcs
    obtain ⟨rfl, rfl, rfl⟩ := hcs
    simp at hz
    refine ⟨zs.take len, by simp; omega, by unfold maxLen at hm; omega, fun n hn => hwz n (List.mem_of_mem_take hn), row_of fun i hi => ?_⟩
    rw [getD_take _ _ _ _ hi]
    exact hcell i (by omega)

theorem RdI.bytes {W : World} {a : Option Addr} {len : Nat} {l : List Int} (h : RdI .u8 W a len l) : RdB W a len (l.map fun n => UInt8.ofNat n.toNat) := by
  refine ⟨by simpa using h.1, h.2.1, fun i hi => ?_⟩
  obtain ⟨b, o, ha, hc⟩ := h.2.2.2 i hi
  refine ⟨b, o, ha, ?_⟩
  rw [hc]
  have hl : i < l.length := by rw [h.1]; exact hi
  have hw := h.2.2.1 (l.getD i 0) (by rw [List.getD_eq_getElem?_getD, List.getElem?_eq_getElem hl]; exact List.getElem_mem hl)
  simp only [Lit.wf, IntKind.min, IntKind.max, IntKind.signed, IntKind.bits, Bool.and_eq_true] at hw
  have e : bAt (l.map fun n => UInt8.ofNat n.toNat) i = (l.getD i 0).toNat := by
    unfold bAt
    rw [List.getD_eq_getElem?_getD, List.getElem?_map, List.getElem?_eq_getElem hl, List.getD_eq_getElem?_getD, List.getElem?_eq_getElem hl]
    rw [List.getD_eq_getElem?_getD, List.getElem?_eq_getElem hl] at hw
    simp at hw ⊢
    omega
  simp only [e]
  simp at hw
  congr 2
  simp
  omega

theorem open_bytes {H : Type} {enc : TypeId × Value → H} {P : Program} {W : World} {t e : TypeId} {a : Option Addr} {len cap : Nat} {d : DataW H} {p : List MemPlace}
    (ht : P.underlying t = some (.slice e)) (he : P.underlying e = some (.int .u8)) (hc : P.cellsOf e = 1) (h : DataW.Trod enc P W 0 (fun _ => true) true t (.slice a len cap) d p) : ∃ l, RdB W a len l := by
  obtain ⟨l, hl⟩ := open_ints_row ht he hc h
  exact ⟨_, hl.bytes⟩

theorem wf_i64 {n : Int} (h : (Lit.int .i64 n).wf = true) : -9223372036854775808 ≤ n ∧ n ≤ 9223372036854775807 := by
  simpa [Lit.wf, IntKind.min, IntKind.max, IntKind.signed, IntKind.bits] using h

end Go.Proofs.Ytiodjhcjfbnocaa
