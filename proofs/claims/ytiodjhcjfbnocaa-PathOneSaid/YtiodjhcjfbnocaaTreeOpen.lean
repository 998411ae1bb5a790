/- An argument that is a value of a document reads as a tree. -/
import Derived.Test.YtiodjhcjfbnocaaRows
import Derived.Test.YtiodjhcjfbnocaaTree
namespace Go.Proofs.Ytiodjhcjfbnocaa
open Go.ChangeShapes Go.WideShapes Go.ChangeAt Go.RowKit
set_option linter.unusedVariables false
set_option linter.unusedSimpArgs false

theorem forest_of {w : World} {a : Option Addr} : ∀ (len k : Nat), (∀ i, i < len → ∃ n t, KidAt w a (k + i) n t) → ∃ f : F, f.len = len ∧ RdKs w a k f
  | 0, k, _ => ⟨.nil, rfl, trivial⟩
  | len + 1, k, h => by
    obtain ⟨n, t, h0⟩ := h 0 (by omega)
    obtain ⟨f, hl, hf⟩ := forest_of len (k + 1) fun i hi => by
      obtain ⟨n, t, h1⟩ := h (i + 1) (by omega)
      exact ⟨n, t, by rwa [show k + 1 + i = k + (i + 1) from by omega]⟩
    exact ⟨.cons n t f, by simp [F.len, hl], h0, hf⟩

theorem cellsV : Try.prog.cellsOf 26 = 9 := by kernel_rfl
theorem cellsFd : Try.prog.cellsOf 28 = 10 := by kernel_rfl
theorem cellsI : Try.prog.cellsOf 3 = 1 := by kernel_rfl
theorem cellsU : Try.prog.cellsOf 22 = 1 := by kernel_rfl
theorem cellsS : Try.prog.cellsOf 9 = 1 := by kernel_rfl
theorem cellsB : Try.prog.cellsOf 23 = 1 := by kernel_rfl
theorem cellsK : Try.prog.cellsOf 24 = 1 := by kernel_rfl

theorem wf_u64 {n : Int} (h : (Lit.int .u64 n).wf = true) : 0 ≤ n ∧ n.toNat < okSize := by
  simp [Lit.wf, IntKind.min, IntKind.max, IntKind.signed, IntKind.bits] at h
  unfold okSize
  omega

section
variable {H : Type} {enc : TypeId × Value → H} {W : World}

theorem open_u64 {fuel : Nat} {v : Value} {x : DataW H × List MemPlace} (h : DataW.trod enc Try.prog W 0 (fun _ => true) true fuel 22 [v] = some x) : ∃ n : Nat, v = .int .u64 (n : Nat) ∧ n < okSize := by
  obtain ⟨n, e, _, hw⟩ := DataW.trod_int Try.underlying22 h
  simp at e
  obtain ⟨h0, h1⟩ := wf_u64 hw
  exact ⟨n.toNat, by rw [e, Int.toNat_of_nonneg h0], h1⟩

theorem open_i64 {fuel : Nat} {v : Value} {x : DataW H × List MemPlace} (h : DataW.trod enc Try.prog W 0 (fun _ => true) true fuel 3 [v] = some x) : ∃ n : Int, v = .int .i64 n ∧ (-9223372036854775808 ≤ n ∧ n ≤ 9223372036854775807) := by
  obtain ⟨n, e, _, hw⟩ := DataW.trod_int Try.underlying3 h
  simp at e
  exact ⟨n, e, wf_i64 hw⟩

theorem open_str {fuel : Nat} {v : Value} {x : DataW H × List MemPlace} (h : DataW.trod enc Try.prog W 0 (fun _ => true) true fuel 9 [v] = some x) : ∃ s : ByteArray, v = .string s ∧ s.size ≤ 9223372036854775807 := by
  obtain ⟨s, e, _, hw⟩ := DataW.trod_string Try.underlying9 h
  simp at e
  exact ⟨s, e, by unfold maxLen at hw; omega⟩

theorem open_bts {fuel : Nat} {v : Value} {x : DataW H × List MemPlace} (h : DataW.trod enc Try.prog W 0 (fun _ => true) true fuel 23 [v] = some x) : ∃ a n c l, v = .slice a n c ∧ RdB W a n l ∧ Roomy a n c := by
  rcases DataW.trod_slice Try.underlying23 h with ⟨e, _⟩ | ⟨a, len, cap, elems, rest, n, _, e, _, _, hlc, _⟩
  · simp at e
    exact ⟨none, 0, 0, [], e, .nil _ _, fun _ => rfl, by omega⟩
  · simp at e
    subst e
    obtain ⟨l, hl⟩ := open_bytes (enc := enc) (W := W) Try.underlying23 Try.underlying5 (by kernel_rfl) ⟨fuel, h⟩
    exact ⟨_, _, _, l, rfl, hl, by simp, hlc⟩

theorem nine {l : List Value} (h : l.length = 9) : ∃ a b c d e f g i j, l = [a, b, c, d, e, f, g, i, j] := by
  match l, h with
  | [a, b, c, d, e, f, g, i, j], _ => exact ⟨a, b, c, d, e, f, g, i, j, rfl⟩

set_option maxRecDepth 100000 in
theorem open_tree : ∀ (fuel : Nat) (cs : List Value) (x : DataW H × List MemPlace), DataW.trod enc Try.prog W 0 (fun _ => true) true fuel 26 cs = some x → ∃ t, RdT W t cs.toArray := by
  intro fuel
  induction fuel using Nat.strongRecOn with
  | ind fuel ih =>
    intro cs x h
    obtain ⟨xs, n, rfl, _, hlen, hxl, hg⟩ := DataW.trod_struct Try.underlying26 h
    rw [cellsV] at hlen
    obtain ⟨c0, c1, c2, c3, c4, c5, c6, c7, c8, rfl⟩ := nine hlen
    have get : ∀ (i : Nat) (f : Field), Try.prog.underlying 26 = Try.prog.underlying 26 → xs.length = 9 → i < 9 → ∃ y, xs[i]? = some y := fun i f _ hl hi => ⟨xs[i], List.getElem?_eq_getElem _⟩
    have hl9 : xs.length = 9 := hxl
    have sm : ∀ i, i < 9 → ∃ y, xs[i]? = some y := fun i hi => ⟨xs[i]'(by omega), List.getElem?_eq_getElem (by omega)⟩
    obtain ⟨y0, s0⟩ := sm 0 (by omega)
    obtain ⟨y1, s1⟩ := sm 1 (by omega)
    obtain ⟨y2, s2⟩ := sm 2 (by omega)
    obtain ⟨y3, s3⟩ := sm 3 (by omega)
    obtain ⟨y4, s4⟩ := sm 4 (by omega)
    obtain ⟨y5, s5⟩ := sm 5 (by omega)
    obtain ⟨y6, s6⟩ := sm 6 (by omega)
    obtain ⟨y7, s7⟩ := sm 7 (by omega)
    obtain ⟨y8, s8⟩ := sm 8 (by omega)
    have g0 := (hg 0 _ rfl).trans s0
    have g1 := (hg 1 _ rfl).trans s1
    have g2 := (hg 2 _ rfl).trans s2
    have g3 := (hg 3 _ rfl).trans s3
    have g4 := (hg 4 _ rfl).trans s4
    have g5 := (hg 5 _ rfl).trans s5
    have g6 := (hg 6 _ rfl).trans s6
    have g7 := (hg 7 _ rfl).trans s7
    have g8 := (hg 8 _ rfl).trans s8
    simp only [List.getElem_toArray, List.getElem_cons_zero, List.getElem_cons_succ, List.drop_zero, List.drop_succ_cons, List.take_succ_cons, List.take_zero, cellsI] at g0 g6
    simp only [List.getElem_toArray, List.getElem_cons_zero, List.getElem_cons_succ, List.drop_zero, List.drop_succ_cons, List.take_succ_cons, List.take_zero, cellsU] at g1 g2 g3
    simp only [List.getElem_toArray, List.getElem_cons_zero, List.getElem_cons_succ, List.drop_zero, List.drop_succ_cons, List.take_succ_cons, List.take_zero, cellsS] at g4 g5
    simp only [List.getElem_toArray, List.getElem_cons_zero, List.getElem_cons_succ, List.drop_zero, List.drop_succ_cons, List.take_succ_cons, List.take_zero, cellsB] at g7
    simp only [List.getElem_toArray, List.getElem_cons_zero, List.getElem_cons_succ, List.drop_zero, List.drop_succ_cons, List.take_succ_cons, List.take_zero, cellsK] at g8
    obtain ⟨k, rfl, k1⟩ := open_i64 g0
    obtain ⟨bits, rfl, b1⟩ := open_u64 g1
    obtain ⟨hi, rfl, b2⟩ := open_u64 g2
    obtain ⟨lo, rfl, b3⟩ := open_u64 g3
    obtain ⟨text, rfl, b4⟩ := open_str g4
    obtain ⟨more, rfl, b5⟩ := open_str g5
    obtain ⟨sub, rfl, b6⟩ := open_i64 g6
    obtain ⟨ab, nb, cb, bs, rfl, hbs, hrm⟩ := open_bts g7
    have hkids : ∃ ak nk ck f, c8 = .slice ak nk ck ∧ F.len f = nk ∧ (nk ≤ 9223372036854775807 ∧ Roomy ak nk ck ∧ Roomy ab nb cb) ∧ RdKs W ak 0 f := by
      rcases DataW.trod_slice Try.underlying24 g8 with ⟨e, _⟩ | ⟨a, len, cap, elems, rest, m, hm, e, _, _, hlc, hcm, hel, hat, _⟩
      · simp at e
        exact ⟨none, 0, 0, .nil, e, rfl, ⟨by omega, ⟨fun _ => rfl, by omega⟩, hrm⟩, trivial⟩
      · simp at e
        rw [cellsFd] at hat
        obtain ⟨f, hf, hk⟩ := forest_of (w := W) (a := some a) len 0 fun i hi => by
          have hy : elems[i]? = some (elems[i]'(by omega)) := List.getElem?_eq_getElem (by omega)
          have ha := (hat i hi).trans hy
          obtain ⟨cs', hc, ht⟩ := Option.bind_eq_some_iff.1 ha
          obtain ⟨_, hcl, hcell⟩ := World.cells?_some hc
          obtain ⟨ys, m', hm', _, _, hyl, hgf⟩ := DataW.trod_struct Try.underlying28 ht
          have hy2 : ys.length = 2 := hyl
          have z0 := (hgf 0 _ rfl).trans (List.getElem?_eq_getElem (by omega))
          have z1 := (hgf 1 _ rfl).trans (List.getElem?_eq_getElem (by omega))
          simp only [List.getElem_toArray, List.getElem_cons_zero, List.getElem_cons_succ, cellsS] at z0
          simp only [List.getElem_toArray, List.getElem_cons_zero, List.getElem_cons_succ, cellsV] at z1
          have hn : ((cs'.drop 0).take 1) = [cs'[0]'(by omega)] := by
            match cs', hcl with
            | a :: r, _ => rfl
          rw [hn] at z0
          obtain ⟨nm, en, hnm⟩ := open_str z0
          obtain ⟨t, htt⟩ := ih m' (by omega) _ _ z1
          obtain ⟨b, o, s⟩ := a
          have hs : s = none := by
            have h0 := hat 0 (by omega)
            have hy0 : elems[0]? = some (elems[0]'(by omega)) := List.getElem?_eq_getElem (by omega)
            obtain ⟨cs0, hc0, _⟩ := Option.bind_eq_some_iff.1 (h0.trans hy0)
            obtain ⟨_, hcl0, hcell0⟩ := World.cells?_some hc0
            have := hcell0 0 (by omega)
            rw [List.getElem?_eq_getElem (by omega)] at this
            have := World.cell?_spot this
            simpa [Addr.add] using this
          subst hs
          refine ⟨nm, t, b, o, _, rfl, hnm, ?_, fun j hj => ?_, htt⟩
          · have := hcell 0 (by omega)
            rw [add_at, add_at, List.getElem?_eq_getElem (by omega), en] at this
            simpa using this
          · have := hcell (j + 1) (by omega)
            rw [add_at, add_at] at this
            rw [Nat.zero_add, this]
            simp [List.getElem?_take, hj, Nat.add_comm]
        exact ⟨_, _, _, f, e, hf, ⟨by unfold maxLen at hcm; omega, ⟨by simp, hlc⟩, hrm⟩, hk⟩
    obtain ⟨ak, nk, ck, f, rfl, hf1, hf2, hf3⟩ := hkids
    exact ⟨.mk k bits hi lo text more sub bs f, ab, nb, cb, ak, nk, ck, rfl, ⟨k1, b1, b2, b3, b4, b5, b6⟩, hbs, hf1, hf2, hf3⟩

set_option maxRecDepth 100000 in
theorem open_value {v : Value} {d : DataW H} {p : List MemPlace} {base : Nat} (hv : Value.okWide Try.prog W .any base 26 v) (h : DataW.Trod enc Try.prog W 0 (fun _ => true) true 26 v d p) : ∃ c t, v = .agg c ∧ RdT W t c := by
  obtain ⟨cs, rfl, _⟩ := okWide_struct Try.underlying26 hv
  obtain ⟨fuel, hf⟩ := h
  obtain ⟨t, ht⟩ := open_tree fuel _ _ hf
  exact ⟨cs, t, rfl, by simpa [Value.cells] using ht⟩
end

end Go.Proofs.Ytiodjhcjfbnocaa
