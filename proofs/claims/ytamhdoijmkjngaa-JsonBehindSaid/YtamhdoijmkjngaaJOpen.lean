/- An argument that is a value of JSON reads as a tree. -/
import Derived.Test.YtamhdoijmkjngaaOpen
import Derived.Test.YtamhdoijmkjngaaJTree
namespace Go.Proofs.Ytamhdoijmkjngaa
open Go.ChangeShapes Go.WideShapes Go.ChangeAt Go.RowKit
set_option linter.unusedVariables false
set_option linter.unusedSimpArgs false

theorem members_of {w : World} {a : Option Addr} : ∀ (len k : Nat), (∀ i, i < len → ∃ n v, KidJ (fun _ => True) w a (k + i) n v) → ∃ m : M, m.len = len ∧ RdM (fun _ => True) w a k m
  | 0, k, _ => ⟨.nil, rfl, trivial⟩
  | len + 1, k, h => by
    obtain ⟨n, v, h0⟩ := h 0 (by omega)
    obtain ⟨m, hl, hm⟩ := members_of len (k + 1) fun i hi => by
      obtain ⟨n, v, h1⟩ := h (i + 1) (by omega)
      exact ⟨n, v, by rwa [show k + 1 + i = k + (i + 1) from by omega]⟩
    exact ⟨.cons n v m, by simp [M.len, hl], h0, hm⟩

theorem cellsJ : Try.prog.cellsOf 24 = 3 := by kernel_rfl
theorem cellsMem : Try.prog.cellsOf 62 = 4 := by kernel_rfl
theorem cellsI : Try.prog.cellsOf 3 = 1 := by kernel_rfl
theorem cellsS : Try.prog.cellsOf 9 = 1 := by kernel_rfl
theorem cellsK : Try.prog.cellsOf 22 = 1 := by kernel_rfl

section
variable {H : Type} {enc : TypeId × Value → H} {W : World}

theorem open_i64 {fuel : Nat} {v : Value} {x : DataW H × List MemPlace} (h : DataW.trod enc Try.prog W 0 (fun _ => true) true fuel 3 [v] = some x) : ∃ n : Int, v = .int .i64 n ∧ (-9223372036854775808 ≤ n ∧ n ≤ 9223372036854775807) := by
  obtain ⟨n, e, _, hw⟩ := DataW.trod_int Try.underlying3 h
  simp at e
  exact ⟨n, e, wf_i64 hw⟩

theorem open_str {fuel : Nat} {v : Value} {x : DataW H × List MemPlace} (h : DataW.trod enc Try.prog W 0 (fun _ => true) true fuel 9 [v] = some x) : ∃ s : ByteArray, v = .string s ∧ s.size ≤ 9223372036854775807 := by
  obtain ⟨s, e, _, hw⟩ := DataW.trod_string Try.underlying9 h
  simp at e
  exact ⟨s, e, by unfold maxLen at hw; omega⟩

theorem three {l : List Value} (h : l.length = 3) : ∃ a b c, l = [a, b, c] := by
  match l, h with
  | [a, b, c], _ => exact ⟨a, b, c, rfl⟩

set_option maxRecDepth 100000 in
theorem open_jtree : ∀ (fuel : Nat) (cs : List Value) (x : DataW H × List MemPlace), DataW.trod enc Try.prog W 0 (fun _ => true) true fuel 24 cs = some x → ∃ j, RdJ (fun _ => True) W j cs.toArray := by
  intro fuel
  induction fuel using Nat.strongRecOn with
  | ind fuel ih =>
    intro cs x h
    obtain ⟨xs, n, rfl, _, hlen, hxl, hg⟩ := DataW.trod_struct Try.underlying24 h
    rw [cellsJ] at hlen
    obtain ⟨c0, c1, c2, rfl⟩ := three hlen
    have hl3 : xs.length = 3 := hxl
    have sm : ∀ i, i < 3 → ∃ y, xs[i]? = some y := fun i hi => ⟨xs[i]'(by omega), List.getElem?_eq_getElem (by omega)⟩
    obtain ⟨y0, s0⟩ := sm 0 (by omega)
    obtain ⟨y1, s1⟩ := sm 1 (by omega)
    obtain ⟨y2, s2⟩ := sm 2 (by omega)
    have g0 := (hg 0 _ rfl).trans s0
    have g1 := (hg 1 _ rfl).trans s1
    have g2 := (hg 2 _ rfl).trans s2
    simp only [List.getElem_toArray, List.getElem_cons_zero, List.getElem_cons_succ, List.drop_zero, List.drop_succ_cons, List.take_succ_cons, List.take_zero, cellsI] at g0
    simp only [List.getElem_toArray, List.getElem_cons_zero, List.getElem_cons_succ, List.drop_zero, List.drop_succ_cons, List.take_succ_cons, List.take_zero, cellsS] at g1
    simp only [List.getElem_toArray, List.getElem_cons_zero, List.getElem_cons_succ, List.drop_zero, List.drop_succ_cons, List.take_succ_cons, List.take_zero, cellsK] at g2
    obtain ⟨k, rfl, k1⟩ := open_i64 g0
    obtain ⟨text, rfl, b4⟩ := open_str g1
    have hkids : ∃ ak nk ck m, c2 = .slice ak nk ck ∧ M.len m = nk ∧ (nk ≤ 9223372036854775807 ∧ RoomJ ak nk ck) ∧ RdM (fun _ => True) W ak 0 m := by
      rcases DataW.trod_slice Try.underlying22 g2 with ⟨e, _⟩ | ⟨a, len, cap, elems, rest, m, hm, e, _, _, hlc, hcm, hel, hat, _⟩
      · simp at e
        exact ⟨none, 0, 0, .nil, e, rfl, ⟨by omega, ⟨fun _ => rfl, by omega⟩⟩, trivial⟩
      · simp at e
        rw [cellsMem] at hat
        obtain ⟨f, hf, hk⟩ := members_of (w := W) (a := some a) len 0 fun i hi => by
          have hy : elems[i]? = some (elems[i]'(by omega)) := List.getElem?_eq_getElem (by omega)
          have ha := (hat i hi).trans hy
          obtain ⟨cs', hc, ht⟩ := Option.bind_eq_some_iff.1 ha
          obtain ⟨_, hcl, hcell⟩ := World.cells?_some hc
          obtain ⟨ys, m', hm', _, _, hyl, hgf⟩ := DataW.trod_struct Try.underlying62 ht
          have hy2 : ys.length = 2 := hyl
          have z0 := (hgf 0 _ rfl).trans (List.getElem?_eq_getElem (by omega))
          have z1 := (hgf 1 _ rfl).trans (List.getElem?_eq_getElem (by omega))
          simp only [List.getElem_toArray, List.getElem_cons_zero, List.getElem_cons_succ, cellsS] at z0
          simp only [List.getElem_toArray, List.getElem_cons_zero, List.getElem_cons_succ, cellsJ] at z1
          have hn : ((cs'.drop 0).take 1) = [cs'[0]'(by omega)] := by
            match cs', hcl with
            | a :: r, _ => rfl
          rw [hn] at z0
          obtain ⟨nm, en, hnm⟩ := open_str z0
          obtain ⟨t, htt⟩ := ih m' (by omega) _ _ z1
          obtain ⟨b, o, s⟩ := a
          have hs : s = none := by
            have h0 := hat 0 (by omega)
            have hy0 : elems[0]? = some (elems[0]'(by omega)) := List.getElem?_eq_getElem (by omega)
            obtain ⟨cs0, hc0, _⟩ := Option.bind_eq_some_iff.1 (h0.trans hy0)
            obtain ⟨_, hcl0, hcell0⟩ := World.cells?_some hc0
            have := hcell0 0 (by omega)
            rw [List.getElem?_eq_getElem (by omega)] at this
            have := World.cell?_spot this
            simpa [Addr.add] using this
          subst hs
          refine ⟨sl nm, t, b, o, _, nm, rfl, trivial, rfl, hnm, ?_, fun j hj => ?_, htt⟩
          · have := hcell 0 (by omega)
            rw [addr_at, addr_at, List.getElem?_eq_getElem (by omega), en] at this
            simpa using this
          · have := hcell (j + 1) (by omega)
            rw [addr_at, addr_at] at this
            rw [Nat.zero_add, this]
            simp [List.getElem?_take, hj, Nat.add_comm]
        exact ⟨_, _, _, f, e, hf, ⟨by unfold maxLen at hcm; omega, ⟨by simp, hlc⟩⟩, hk⟩
    obtain ⟨ak, nk, ck, f, rfl, hf1, hf2, hf3⟩ := hkids
    exact ⟨.mk k (sl text) f, text, ak, nk, ck, rfl, rfl, b4, k1, hf1, hf2, hf3⟩

set_option maxRecDepth 100000 in
theorem open_json {v : Value} {d : DataW H} {p : List MemPlace} {base : Nat} (hv : Value.okWide Try.prog W .any base 24 v) (h : DataW.Trod enc Try.prog W 0 (fun _ => true) true 24 v d p) : ∃ c j, v = .agg c ∧ RdJ (fun _ => True) W j c := by
  obtain ⟨cs, rfl, _⟩ := okWide_struct Try.underlying24 hv
  obtain ⟨fuel, hf⟩ := h
  obtain ⟨t, ht⟩ := open_jtree fuel _ _ hf
  exact ⟨cs, t, rfl, by simpa [Value.cells] using ht⟩
end

end Go.Proofs.Ytamhdoijmkjngaa
