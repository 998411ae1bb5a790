/- A text's bytes. No program in sight. -/
import Derived.Test.YtambhapgjonmmaaLexP
import Derived.Test.YtambhapgjonmmaaStr
namespace Go.Proofs.Ytambhapgjonmmaa

def sl (s : ByteArray) : List UInt8 := s.data.toList
theorem sl_len (s : ByteArray) : (sl s).length = s.size := by unfold sl; simp
theorem sl_at {s : ByteArray} {p : Nat} (h : p < s.size) : (sl s).getD p 0 = s[p]'h := by
  rw [List.getD_eq_getElem?_getD, List.getElem?_eq_getElem (by rw [sl_len]; exact h)]
  rfl
theorem sl_drop {s : ByteArray} {p : Nat} (h : p < s.size) : (sl s).drop p = (s[p]'h) :: (sl s).drop (p + 1) := by
  rw [drop_getD _ 0 p (by rw [sl_len]; exact h), sl_at h]
theorem sl_txt (l : List UInt8) : sl (txt l) = l := rfl
theorem txt_sl (s : ByteArray) : txt (sl s) = s := rfl
theorem txt_size (l : List UInt8) : (txt l).size = l.length := by simp [txt, ByteArray.size]

end Go.Proofs.Ytambhapgjonmmaa
