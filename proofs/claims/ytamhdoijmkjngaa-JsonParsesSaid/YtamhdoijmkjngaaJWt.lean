/- The weight of a tree of JSON; what is printed is no longer than that times eight. -/
import Derived.Test.YtamhdoijmkjngaaJTree
import Derived.Test.YtamhdoijmkjngaaQuo
namespace Go.Proofs.Ytamhdoijmkjngaa
open Go.RowKit
set_option linter.unusedVariables false
set_option linter.unusedSimpArgs false

mutual
def wtJ : J → Nat
  | .mk _ t m => 2 + t.length + wtM m
def wtM : M → Nat
  | .nil => 0
  | .cons n v r => n.length + wtJ v + wtM r
end

mutual
theorem print_wt : ∀ j : J, (printJ j).length + 4 ≤ 8 * wtJ j
  | .mk k t m => by
    have h1 := quoteL_len t
    have h2 := quoteM_len t
    have h3 := printM_wt true true m
    have h4 := printM_wt false true m
    simp only [printJ, wtJ]
    repeat' split
    all_goals try simp only [List.length_cons, List.length_nil, List.length_append]
    all_goals omega
theorem printM_wt : ∀ (obj fst : Bool) (m : M), (printM obj fst m).length ≤ 8 * wtM m
  | _, _, .nil => by simp [printM]
  | obj, fst, .cons n v r => by
    have h1 := quoteL_len n
    have h2 := quoteM_len n
    have h3 := print_wt v
    have h4 := printM_wt obj false r
    have h5 : (named obj n).length ≤ 6 * n.length + 3 := by
      unfold named
      cases obj
      · simp
      · simp only [if_true, List.length_append, List.length_cons, List.length_nil]; omega
    have h6 : (if fst then ([] : List UInt8) else [44]).length ≤ 1 := by cases fst <;> simp
    simp only [printM, wtM, List.length_append]
    omega
end

theorem wtM_get : ∀ (m : M) (i : Nat) (n : List UInt8) (v : J), m.get? i = some (n, v) → n.length + wtJ v + wtM (m.drop (i + 1)) ≤ wtM (m.drop i) ∧ wtM (m.drop i) ≤ wtM m
  | .nil, i, n, v, h => by simp [M.get?] at h
  | .cons n' v' r, 0, n, v, h => by
    simp only [M.get?, Option.some.injEq, Prod.mk.injEq] at h
    obtain ⟨rfl, rfl⟩ := h
    simp [M.drop, wtM]
  | .cons n' v' r, i + 1, n, v, h => by
    have := wtM_get r i n v h
    simp only [M.drop, wtM] at this ⊢
    omega

theorem checkM_get : ∀ (m : M) (i : Nat) (n : List UInt8) (v : J), checkM m = 0 → m.get? i = some (n, v) → wholeTo n = n.length ∧ checkJ v = 0
  | .nil, i, n, v, _, h => by simp [M.get?] at h
  | .cons n' v' r, 0, n, v, hc, h => by
    simp only [M.get?, Option.some.injEq, Prod.mk.injEq] at h
    obtain ⟨rfl, rfl⟩ := h
    exact ⟨(check_cons hc).1, (check_cons hc).2.1⟩
  | .cons n' v' r, i + 1, n, v, hc, h => checkM_get r i n v (check_cons hc).2.2 h

theorem wtM_len : ∀ m : M, 2 * m.len ≤ wtM m
  | .nil => by simp [M.len]
  | .cons n v r => by
    have := wtM_len r
    have h : 2 ≤ wtJ v := by cases v; simp only [wtJ]; omega
    simp only [M.len, wtM]
    omega

end Go.Proofs.Ytamhdoijmkjngaa
