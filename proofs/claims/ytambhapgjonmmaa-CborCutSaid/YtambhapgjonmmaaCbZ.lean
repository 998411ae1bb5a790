/- Rows of items while a reader goes on. -/
import Derived.Test.YtambhapgjonmmaaCbX
namespace Go.Proofs.Ytambhapgjonmmaa
open Go.RowKit
set_option linter.unusedVariables false
set_option linter.unusedSimpArgs false

theorem OwnI.chg {w w' : World} {B : Nat} {L S' : Nat → Prop} {v : Value} {f : IL} (h : OwnI w B L v f) (hc : Chg S' w w') (hL : ∀ k, L k → ¬ S' k) (hv : ∀ k, v.ownBlock = some k → ¬ S' k) : OwnI w' B L v f := by
  obtain ⟨xs, S, h1, h2, h3⟩ := h
  refine ⟨xs, S, ?_, h2.keep (KeepS.chg hc fun k hk => hL k (h3 k hk).1), h3⟩
  refine ⟨h1.1, ?_⟩
  rcases h1.2 with h4 | ⟨g, cap, cur, rfl, hb, hg, r⟩
  · exact .inl h4
  · refine .inr ⟨g, cap, cur, rfl, hb, ?_, r⟩
    have hlt : g < w.heap.size := (Array.getElem?_eq_some_iff.1 hg).1
    rw [hc.block g hlt (hv g rfl)]
    exact hg

/-- Where a reader's bytes lie: below B. -/
def RdrB (w : World) (r : Nat) (bs : List UInt8) (p B : Nat) : Prop := Rdr w r bs p ∧ ∀ a cap, w.cell? ⟨r, 0, none⟩ = some (.slice a bs.length cap) → 0 < bs.length → ∀ x, a = some x → x.block < B
theorem RdrB.new {w : World} {r : Nat} {bs : List UInt8} {p : Nat} (h : Rdr w r bs p) : RdrB w r bs p w.heap.size := by
  refine ⟨h, ?_⟩
  obtain ⟨a, cap, h1, h2, h3, h4, h5⟩ := h
  intro a' cap' e h0 x hx
  rw [h1] at e
  simp only [Option.some.injEq, Value.slice.injEq] at e
  obtain ⟨rfl, -, -⟩ := e
  obtain ⟨b, o, ha, hc⟩ := h4.at 0 h0
  rw [hx] at ha
  obtain rfl := Option.some.inj ha
  have := cell_block hc
  simpa using this
theorem RdrB.step {w w' : World} {r : Nat} {bs : List UInt8} {p q B : Nat} (h : RdrB w r bs p B) (hr : Rdr w' r bs q) (he : w'.cell? ⟨r, 0, none⟩ = w.cell? ⟨r, 0, none⟩) : RdrB w' r bs q B :=
  ⟨hr, fun a cap e => h.2 a cap (by rw [← he]; exact e)⟩
theorem RdrB.chg {S : Nat → Prop} {w w' : World} {r : Nat} {bs : List UInt8} {p B : Nat} (h : RdrB w r bs p B) (hc : Chg S w w') (hr : ¬ S r) (hS : ∀ k, S k → B ≤ k) : RdrB w' r bs p B := by
  obtain ⟨hr0, hb⟩ := h
  obtain ⟨a, cap, h1, h2, h3, h4, h5⟩ := hr0
  have hrl : r < w.heap.size := by simpa using cell_block h1
  refine ⟨⟨a, cap, hc.cell hr h1, hc.cell hr h2, by rw [hc.frozen (p := ⟨r, 1, none⟩) hr hrl]; exact h3, ?_, h5⟩, ?_⟩
  · by_cases h0 : bs.length = 0
    · exact ⟨h4.1, h4.2.1, fun i hi => by omega⟩
    · refine h4.chg hc fun x hx hs => ?_
      have h6 := hb a cap h1 (by omega) x hx
      have h7 := hS _ hs
      omega
  · intro a' cap' e h0 x hx
    have e2 := hc.cell hr h1
    rw [e2] at e
    simp only [Option.some.injEq, Value.slice.injEq] at e
    obtain ⟨rfl, -, -⟩ := e
    exact hb a cap h1 h0 x hx

/-- What is left of so many items, behind those that were read. -/
def wrapK (k : Int) (n : Nat) (acc : IL) : Rs IL → Rs I
  | .error e => .error e
  | .ok (f, q) => .ok (.mk k n [] ⟨#[]⟩ (acc.append f), q)
theorem wrapK_nil (k : Int) (n : Nat) (R : Rs IL) : withKids k n R = wrapK k n .nil R := by cases R <;> rfl
theorem wrapK_err {rd : Nat → Rs I} {k : Int} {n : Nat} {acc : IL} {c p : Nat} {e : Nat × Nat} (h : rd p = .error e) : wrapK k n acc (kidsW rd (c + 1) p) = .error e := by
  simp only [kidsW, h]; rfl
theorem wrapK_ok {rd : Nat → Rs I} {k : Int} {n : Nat} {acc : IL} {c p q : Nat} {x : I} (h : rd p = .ok (x, q)) : wrapK k n acc (kidsW rd (c + 1) p) = wrapK k n (acc.append (.cons x .nil)) (kidsW rd c q) := by
  simp only [kidsW, h, thenKids]
  cases kidsW rd c q with
  | error e => rfl
  | ok y => obtain ⟨f, t⟩ := y; simp only [andKid, wrapK, IL.append_assoc, IL.append]
theorem wrapK_end {rd : Nat → Rs I} {k : Int} {n : Nat} {acc : IL} {p : Nat} : wrapK k n acc (kidsW rd 0 p) = .ok (.mk k n [] ⟨#[]⟩ acc, p) := by simp only [kidsW, wrapK, IL.append_nil]
/-- An item takes one byte or more. -/
theorem readQ_more (b : List UInt8) (d p : Nat) (x : I) (q : Nat) (hp : p ≤ b.length) (h : readQ b d p = .ok (x, q)) : p < q := by
  cases d with
  | zero => simp [readQ] at h
  | succ d =>
    rw [readQ] at h
    split at h
    · simp at h
    split at h
    · simp at h
    split at h
    · simp at h
    rename_i h1 h2 h3
    have hf := behQ_fine (rd := readQ b d) b (p + 1) (bAt b p / 32) (bAt b p % 32) (numL b p (bAt b p % 32)) (p + 1 + sizeL (bAt b p % 32)) (readQ_fine b d) (by omega) (by omega) (by omega)
    have he : ∀ q', q' = p + 1 ∨ q' = p → (∀ y, behQ (readQ b d) b q' (bAt b p / 32) (bAt b p % 32) (numL b p (bAt b p % 32)) (p + 1 + sizeL (bAt b p % 32)) = .ok y ↔ behQ (readQ b d) b p (bAt b p / 32) (bAt b p % 32) (numL b p (bAt b p % 32)) (p + 1 + sizeL (bAt b p % 32)) = .ok y) := by
      intro q' hq' y
      unfold behQ rowQ
      (repeat' split) <;> simp_all
    rw [((he (p + 1) (.inl rfl)) (x, q)).2 h] at hf
    have := hf.1
    omega

end Go.Proofs.Ytambhapgjonmmaa
