/- The law's awake (chapter 20); a document without Kids. -/
import Derived.Test.YtkcfkdmffbhljaaBoG
import Derived.Test.YtkcfkdmffbhljaaMA
import Derived.Test.YtkcfkdmffbhljaaMI
namespace Go.Proofs.Ytkcfkdmffbhljaa
open Go.RowKit
set_option linter.unusedVariables false
set_option linter.unusedSimpArgs false


/-- A document without Kids. -/
def noKids : T := .mk 3 0 0 0 ⟨#[]⟩ ⟨#[]⟩ 0 [] .nil
theorem noKids_rd (w : World) : RdT w noKids (valCells 3 0 0 0 ⟨#[]⟩ ⟨#[]⟩ 0 none 0 0 none 0 0) :=
  ⟨none, 0, 0, none, 0, 0, rfl, ⟨by omega, by unfold okSize; omega, by unfold okSize; omega, by unfold okSize; omega, by decide, by decide, by omega⟩, RdB.nil _ _, rfl, ⟨by omega, ⟨fun _ => rfl, Nat.le_refl _⟩, ⟨fun _ => rfl, Nat.le_refl _⟩⟩, trivial⟩
theorem noKids_chk : chk noKids = none := by
  have e : sl (⟨#[]⟩ : ByteArray) = [] := rfl
  have l : (⟨#[]⟩ : ByteArray).toList = [] := by rw [toList_sl, e]
  unfold chk noKids
  simp only [checkT, e, text_nil, checkF]
  simp [knownK, fieldsOf, okK, hasBits, hasWide, hasText, hasMore, hasSub, hasBytes, hasKids, l, F.len]
theorem noKids_enc : encE noKids = 0 ∧ encB noKids = [5, 0, 0, 0, 0] := by
  have e : encE noKids = 0 := by unfold encE; rw [noKids_chk]; rfl
  refine ⟨e, ?_⟩
  unfold encB
  rw [e]
  rfl

set_option maxRecDepth 100000 in
set_option maxHeartbeats 2000000 in
theorem awake20 (w : World) : Calls Try.prog 27 #[] w fun e w' => e = .returned (.bool true) ∧ Below w.heap.size w w' := by
  have CE := Lib.hid (encode_calls noKids w _ (noKids_rd w) (by decide))
  have HE := Lib.hid noKids_enc
  have HP : Hid (errP (chk noKids) = []) := by show _ = _; rw [noKids_chk]; rfl
  go_enter Try.func27, Try.ntmps27
  go_wp2_with fail
  refine CE.out.mono ?_
  rintro e w1 ⟨a, n, c, aP, nP, cP, rfl, hrd, hac, hnP, hmP, hrP, hcP, hb⟩
  rw [HE.out.1]
  rw [HE.out.2] at hrd
  rw [HP.out] at hnP hrP
  subst hnP
  have HB := Lib.hid hb
  have hcv := conv_str (hrd.keep ((Below.refl w1.heap.size w1).alloc (Nat.le_refl _) (.cells #[.int .i64 0, .int .i64 0, .slice aP 0 cP] 34))) c
  have hcm : ((txt [5, 0, 0, 0, 0]).toList == [5, 0, 0, 0, 0]) = true := by rw [toList_sl, sl_txt]; rfl
  clear hrd hrP hb
  go_wp2_with fail
  go_ret
  exact ⟨rfl, HB.out.trans (((Below.refl _ _).alloc (Nat.le_refl _) _).mono HB.out.size)⟩

end Go.Proofs.Ytkcfkdmffbhljaa
