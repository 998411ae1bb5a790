/- A document with one Kid more: its bytes, plainly. -/
import Derived.Test.YtkcfkdmffbhljaaMI
import Derived.Test.YtkcfkdmffbhljaaMA
namespace Go.Proofs.Ytkcfkdmffbhljaa
set_option linter.unusedVariables false
set_option linter.unusedSimpArgs false

theorem kidsB_append : ∀ f g : F, kidsB (f.append g) = kidsB f ++ kidsB g
  | .nil, g => rfl
  | .cons n t r, g => by simp only [F.append, kidsB, kidsB_append r g, List.append_assoc]
mutual
theorem checkT_any : ∀ (t : T) (nm : ByteArray) (p q : List Int), checkT t nm p = none → checkT t nm q = none
  | .mk k bits hi lo s m sub l f, nm, p, q, h => by
    obtain ⟨c1, c2, c3, c4, c5, c6⟩ := check_parts h
    simp only [checkT, c1, c2, c3, c4, c5]
    simpa using checkF_any f 0 0 p q c6
theorem checkF_any : ∀ (f : F) (i j : Nat) (p q : List Int), checkF f i p = none → checkF f j q = none
  | .nil, i, j, p, q, h => rfl
  | .cons n t r, i, j, p, q, h => by
    obtain ⟨h1, h2⟩ := checkF_parts h
    simp only [checkF]
    rw [checkT_any t n _ (q ++ [(j : Int)]) h1]
    exact checkF_any r _ _ _ _ h2
end
theorem checkF_append : ∀ (f g : F) (i : Nat) (p : List Int), checkF f i p = none → checkF g i p = none → checkF (f.append g) i p = none
  | .nil, g, i, p, h, h2 => h2
  | .cons n t r, g, i, p, h, h2 => by
    obtain ⟨h1, h3⟩ := checkF_parts h
    simp only [F.append, checkF]
    rw [h1]
    exact checkF_append r g _ _ h3 (checkF_any g _ _ _ _ h2)
/-- What BoutGoes says. -/
theorem enc_goes {k : Int} {bits hi lo : Nat} {s m : ByteArray} {sub : Int} {l : List UInt8} {f : F} {nm : ByteArray} {t : T}
    (h1 : encE (.mk k bits hi lo s m sub l f) = 0) (h2 : encE (.mk 3 0 0 0 nt nt 0 [] (.cons nm t .nil)) = 0) :
    encE (.mk k bits hi lo s m sub l (f.append (.cons nm t .nil))) = 0 ∧
    (encB (.mk k bits hi lo s m sub l (f.append (.cons nm t .nil)))).length + 5 = (encB (.mk k bits hi lo s m sub l f)).length + (encB (.mk 3 0 0 0 nt nt 0 [] (.cons nm t .nil))).length ∧
    5 ≤ (encB (.mk k bits hi lo s m sub l f)).length ∧ 5 ≤ (encB (.mk 3 0 0 0 nt nt 0 [] (.cons nm t .nil))).length ∧
    (encB (.mk k bits hi lo s m sub l (f.append (.cons nm t .nil)))).drop 4 = ((encB (.mk k bits hi lo s m sub l f)).drop 4).take ((encB (.mk k bits hi lo s m sub l f)).length - 5) ++ (encB (.mk 3 0 0 0 nt nt 0 [] (.cons nm t .nil))).drop 4 := by
  obtain ⟨hs, hc⟩ := doc_shape h1
  obtain ⟨hs2, hc2⟩ := doc_shape h2
  have hc := hc 0 [] rfl rfl
  have hc2 := hc2 0 [] rfl rfl
  simp only [T.mk.injEq] at hs
  obtain ⟨rfl, rfl, rfl, rfl, rfl, rfl, rfl, rfl, -⟩ := hs
  have hca := checkF_append f (.cons nm t .nil) 0 [] hc hc2
  have h3 : encE (.mk 3 0 0 0 nt nt 0 [] (f.append (.cons nm t .nil))) = 0 := by
    refine enc_ok.2 ⟨?_, rfl⟩
    have hn := text_nil
    have e : sl (⟨#[]⟩ : ByteArray) = [] := rfl
    unfold chk
    simp only [checkT, sl_nt, e, hn, hca]
    simp [knownK, fieldsOf, okK, hasBits, hasWide, hasText, hasMore, hasSub, hasBytes, hasKids, nt_list]
  have b1 : encB (.mk 3 0 0 0 nt nt 0 [] f) = docOf (kidsB f) := by unfold encB; rw [if_pos h1]; rfl
  have b2 : encB (.mk 3 0 0 0 nt nt 0 [] (.cons nm t .nil)) = docOf (kidsB (.cons nm t .nil)) := by unfold encB; rw [if_pos h2]; rfl
  have b3 : encB (.mk 3 0 0 0 nt nt 0 [] (f.append (.cons nm t .nil))) = docOf (kidsB f ++ kidsB (.cons nm t .nil)) := by unfold encB; rw [if_pos h3, ← kidsB_append]; rfl
  have hd : ∀ l, (docOf l).drop 4 = l ++ [0] := fun l => by
    unfold docOf
    rw [List.append_assoc]
    exact List.drop_left' (leB_len _ _)
  rw [b1, b2, b3]
  refine ⟨h3, ?_, ?_, ?_, ?_⟩
  · simp only [docOf_len, List.length_append]; omega
  · rw [docOf_len]; omega
  · rw [docOf_len]; omega
  · rw [hd, hd, hd, docOf_len, show (kidsB f).length + 5 - 5 = (kidsB f).length from by omega]
    simp

end Go.Proofs.Ytkcfkdmffbhljaa
