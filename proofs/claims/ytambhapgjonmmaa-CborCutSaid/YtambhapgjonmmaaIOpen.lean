/- An argument that is an item reads as one. -/
import Derived.Test.YtambhapgjonmmaaOpen
import Derived.Test.YtambhapgjonmmaaITree
namespace Go.Proofs.Ytambhapgjonmmaa
open Go.ChangeShapes Go.WideShapes Go.ChangeAt Go.RowKit
set_option linter.unusedVariables false
set_option linter.unusedSimpArgs false

theorem items_of {w : World} {a : Option Addr} : ∀ (len k : Nat), (∀ i, i < len → ∃ x, KidI (fun _ => True) w a (k + i) x) → ∃ f : IL, f.len = len ∧ RdIs (fun _ => True) w a k f
  | 0, k, _ => ⟨.nil, rfl, trivial⟩
  | len + 1, k, h => by
    obtain ⟨x, h0⟩ := h 0 (by omega)
    obtain ⟨f, hl, hm⟩ := items_of len (k + 1) fun i hi => by
      obtain ⟨x, h1⟩ := h (i + 1) (by omega)
      exact ⟨x, by rwa [show k + 1 + i = k + (i + 1) from by omega]⟩
    exact ⟨.cons x f, by simp [IL.len, hl], h0, hm⟩

theorem cellsIt : Try.prog.cellsOf 26 = 5 := by kernel_rfl
theorem cellsI : Try.prog.cellsOf 3 = 1 := by kernel_rfl
theorem cellsU : Try.prog.cellsOf 22 = 1 := by kernel_rfl
theorem cellsB : Try.prog.cellsOf 23 = 1 := by kernel_rfl
theorem cellsS : Try.prog.cellsOf 9 = 1 := by kernel_rfl
theorem cellsK : Try.prog.cellsOf 24 = 1 := by kernel_rfl

theorem wf_u64 {n : Int} (h : (Lit.int .u64 n).wf = true) : 0 ≤ n ∧ n.toNat < okSize := by
  simp [Lit.wf, IntKind.min, IntKind.max, IntKind.signed, IntKind.bits] at h
  unfold okSize
  omega

section
variable {H : Type} {enc : TypeId × Value → H} {W : World}

theorem open_u64 {fuel : Nat} {v : Value} {x : DataW H × List MemPlace} (h : DataW.trod enc Try.prog W 0 (fun _ => true) true fuel 22 [v] = some x) : ∃ n : Nat, v = .int .u64 (n : Nat) ∧ n < okSize := by
  obtain ⟨n, e, _, hw⟩ := DataW.trod_int Try.underlying22 h
  simp at e
  obtain ⟨h0, h1⟩ := wf_u64 hw
  exact ⟨n.toNat, by rw [e, Int.toNat_of_nonneg h0], h1⟩
theorem open_i64 {fuel : Nat} {v : Value} {x : DataW H × List MemPlace} (h : DataW.trod enc Try.prog W 0 (fun _ => true) true fuel 3 [v] = some x) : ∃ n : Int, v = .int .i64 n ∧ (-9223372036854775808 ≤ n ∧ n ≤ 9223372036854775807) := by
  obtain ⟨n, e, _, hw⟩ := DataW.trod_int Try.underlying3 h
  simp at e
  exact ⟨n, e, wf_i64 hw⟩
theorem open_str {fuel : Nat} {v : Value} {x : DataW H × List MemPlace} (h : DataW.trod enc Try.prog W 0 (fun _ => true) true fuel 9 [v] = some x) : ∃ s : ByteArray, v = .string s ∧ s.size ≤ 9223372036854775807 := by
  obtain ⟨s, e, _, hw⟩ := DataW.trod_string Try.underlying9 h
  simp at e
  exact ⟨s, e, by unfold maxLen at hw; omega⟩
theorem open_bts {fuel : Nat} {v : Value} {x : DataW H × List MemPlace} (h : DataW.trod enc Try.prog W 0 (fun _ => true) true fuel 23 [v] = some x) : ∃ a n c l, v = .slice a n c ∧ RdB W a n l ∧ Roomy a n c := by
  rcases DataW.trod_slice Try.underlying23 h with ⟨e, _⟩ | ⟨a, len, cap, elems, rest, n, _, e, _, _, hlc, _⟩
  · simp at e
    exact ⟨none, 0, 0, [], e, .nil _ _, fun _ => rfl, by omega⟩
  · simp at e
    subst e
    obtain ⟨l, hl⟩ := open_bytes (enc := enc) (W := W) Try.underlying23 Try.underlying5 (by kernel_rfl) ⟨fuel, h⟩
    exact ⟨_, _, _, l, rfl, hl, by simp, hlc⟩
theorem five {l : List Value} (h : l.length = 5) : ∃ a b c d e, l = [a, b, c, d, e] := by
  match l, h with
  | [a, b, c, d, e], _ => exact ⟨a, b, c, d, e, rfl⟩

set_option maxRecDepth 100000 in
theorem open_itree : ∀ (fuel : Nat) (cs : List Value) (x : DataW H × List MemPlace), DataW.trod enc Try.prog W 0 (fun _ => true) true fuel 26 cs = some x → ∃ j, RdIt (fun _ => True) W j cs.toArray := by
  intro fuel
  induction fuel using Nat.strongRecOn with
  | ind fuel ih =>
    intro cs x h
    obtain ⟨xs, n, rfl, _, hlen, hxl, hg⟩ := DataW.trod_struct Try.underlying26 h
    rw [cellsIt] at hlen
    obtain ⟨c0, c1, c2, c3, c4, rfl⟩ := five hlen
    have hl5 : xs.length = 5 := hxl
    have sm : ∀ i, i < 5 → ∃ y, xs[i]? = some y := fun i hi => ⟨xs[i]'(by omega), List.getElem?_eq_getElem (by omega)⟩
    obtain ⟨y0, s0⟩ := sm 0 (by omega)
    obtain ⟨y1, s1⟩ := sm 1 (by omega)
    obtain ⟨y2, s2⟩ := sm 2 (by omega)
    obtain ⟨y3, s3⟩ := sm 3 (by omega)
    obtain ⟨y4, s4⟩ := sm 4 (by omega)
    have g0 := (hg 0 _ rfl).trans s0
    have g1 := (hg 1 _ rfl).trans s1
    have g2 := (hg 2 _ rfl).trans s2
    have g3 := (hg 3 _ rfl).trans s3
    have g4 := (hg 4 _ rfl).trans s4
    simp only [List.getElem_toArray, List.getElem_cons_zero, List.getElem_cons_succ, List.drop_zero, List.drop_succ_cons, List.take_succ_cons, List.take_zero, cellsI] at g0
    simp only [List.getElem_toArray, List.getElem_cons_zero, List.getElem_cons_succ, List.drop_zero, List.drop_succ_cons, List.take_succ_cons, List.take_zero, cellsU] at g1
    simp only [List.getElem_toArray, List.getElem_cons_zero, List.getElem_cons_succ, List.drop_zero, List.drop_succ_cons, List.take_succ_cons, List.take_zero, cellsB] at g2
    simp only [List.getElem_toArray, List.getElem_cons_zero, List.getElem_cons_succ, List.drop_zero, List.drop_succ_cons, List.take_succ_cons, List.take_zero, cellsS] at g3
    simp only [List.getElem_toArray, List.getElem_cons_zero, List.getElem_cons_succ, List.drop_zero, List.drop_succ_cons, List.take_succ_cons, List.take_zero, cellsK] at g4
    obtain ⟨k, rfl, k1⟩ := open_i64 g0
    obtain ⟨nn, rfl, n1⟩ := open_u64 g1
    obtain ⟨ab, nb, cb, bs, rfl, hbs, hrm⟩ := open_bts g2
    obtain ⟨text, rfl, b4⟩ := open_str g3
    have hkids : ∃ ak nk ck f, c4 = .slice ak nk ck ∧ IL.len f = nk ∧ (nk ≤ 9223372036854775807 ∧ Roomy ak nk ck) ∧ RdIs (fun _ => True) W ak 0 f := by
      rcases DataW.trod_slice Try.underlying24 g4 with ⟨e, _⟩ | ⟨a, len, cap, elems, rest, m, hm, e, _, _, hlc, hcm, hel, hat, _⟩
      · simp at e
        exact ⟨none, 0, 0, .nil, e, rfl, ⟨by omega, ⟨fun _ => rfl, by omega⟩⟩, trivial⟩
      · simp at e
        rw [cellsIt] at hat
        obtain ⟨f, hf, hk⟩ := items_of (w := W) (a := some a) len 0 fun i hi => by
          have hy : elems[i]? = some (elems[i]'(by omega)) := List.getElem?_eq_getElem (by omega)
          have ha := (hat i hi).trans hy
          obtain ⟨cs', hc, ht⟩ := Option.bind_eq_some_iff.1 ha
          obtain ⟨_, hcl, hcell⟩ := World.cells?_some hc
          obtain ⟨t, htt⟩ := ih m (by omega) _ _ ht
          obtain ⟨b, o, s⟩ := a
          have hs : s = none := by
            have h0 := hat 0 (by omega)
            have hy0 : elems[0]? = some (elems[0]'(by omega)) := List.getElem?_eq_getElem (by omega)
            obtain ⟨cs0, hc0, _⟩ := Option.bind_eq_some_iff.1 (h0.trans hy0)
            obtain ⟨_, hcl0, hcell0⟩ := World.cells?_some hc0
            have := hcell0 0 (by omega)
            rw [List.getElem?_eq_getElem (by omega)] at this
            have := World.cell?_spot this
            simpa [Addr.add] using this
          subst hs
          refine ⟨t, b, o, _, rfl, trivial, fun j hj => ?_, htt⟩
          have := hcell j (by omega)
          rw [add_at, add_at] at this
          rw [Nat.zero_add, this]
          simp
        exact ⟨_, _, _, f, e, hf, ⟨by unfold maxLen at hcm; omega, ⟨by simp, hlc⟩⟩, hk⟩
    obtain ⟨ak, nk, ck, f, rfl, hf1, hf2, hf3⟩ := hkids
    exact ⟨.mk k nn bs text f, ab, nb, cb, ak, nk, ck, rfl, ⟨k1, n1, b4⟩, ⟨hbs, fun _ _ _ => trivial⟩, hf1, ⟨hf2.1, hf2.2, hrm⟩, hf3⟩

set_option maxRecDepth 100000 in
theorem open_item {v : Value} {d : DataW H} {p : List MemPlace} {base : Nat} (hv : Value.okWide Try.prog W .any base 26 v) (h : DataW.Trod enc Try.prog W 0 (fun _ => true) true 26 v d p) : ∃ c x, v = .agg c ∧ RdIt (fun _ => True) W x c := by
  obtain ⟨cs, rfl, _⟩ := okWide_struct Try.underlying26 hv
  obtain ⟨fuel, hf⟩ := h
  obtain ⟨t, ht⟩ := open_itree fuel _ _ hf
  exact ⟨cs, t, rfl, by simpa [Value.cells] using ht⟩
end

end Go.Proofs.Ytambhapgjonmmaa
