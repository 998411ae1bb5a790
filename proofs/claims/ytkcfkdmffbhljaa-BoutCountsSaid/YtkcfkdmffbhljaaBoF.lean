/- tree.fields: has a value what its Kind has, and nothing else? -/
import Derived.Test.YtkcfkdmffbhljaaTree
import Derived.Test.YtkcfkdmffbhljaaBoX
import Derived.Deep.CutBlock
namespace Go.Proofs.Ytkcfkdmffbhljaa
open Go.RowKit
set_option linter.unusedVariables false
set_option linter.unusedSimpArgs false

def hasBits (k : Int) : Bool := k == 1 || k == 9 || k == 17 || k == 18 || k == 16 || k == 8
def hasWide (k : Int) : Bool := k == 19
def hasText (k : Int) : Bool := k == 2 || k == 13 || k == 14 || k == 11 || k == 12 || k == 15
def hasMore (k : Int) : Bool := k == 11
def hasSub (k : Int) : Bool := k == 5
def hasBytes (k : Int) : Bool := k == 5 || k == 7 || k == 12
def hasKids (k : Int) : Bool := k == 3 || k == 4 || k == 15
/-- Bounds of what a Kind has. -/
def okK (k : Int) (bits : Nat) (sub : Int) (nb : Nat) : Bool := !(k == 16 && decide (4294967296 ≤ bits)) && !(k == 8 && decide (2 ≤ bits)) && !(k == 5 && !(decide (0 ≤ sub) && decide (sub ≤ 255))) && !((k == 7 || k == 12) && !(nb == 12))
def fieldsOf (k : Int) (bits hi lo : Nat) (text more : ByteArray) (sub : Int) (nb nk : Nat) : Bool :=
  okK k bits sub nb && (hasBits k || bits == 0) && (hasWide k || hi == 0) && (hasWide k || lo == 0) && (hasText k || text.toList == []) && (hasMore k || more.toList == []) && (hasSub k || sub == 0) && (hasBytes k || nb == 0) && (hasKids k || nk == 0)

def FCut (w : World) (r : Bool) (p3 : Value) (W : World) : Prop :=
  ∃ (k2 : Int) (bits2 hi2 lo2 : Nat) (text2 more2 : ByteArray) (sub2 : Int) (ab2 : Option Addr) (nb2 cb2 : Nat) (ak2 : Option Addr) (nk2 ck2 : Nat) (ok : Bool), p3 = .bool ok ∧ BoxV W w.heap.size (valCells k2 bits2 hi2 lo2 text2 more2 sub2 ab2 nb2 cb2 ak2 nk2 ck2) ∧ Below w.heap.size w W ∧
    Hid (r = (ok && bits2 == 0 && hi2 == 0 && lo2 == 0 && text2.toList == [] && more2.toList == [] && sub2 == 0 && nb2 == 0 && nk2 == 0))

set_option maxRecDepth 100000 in
set_option maxHeartbeats 16000000 in
theorem fields_calls (w : World) (k : Int) (bits hi lo : Nat) (text more : ByteArray) (sub : Int) (ab : Option Addr) (nb cb : Nat) (ak : Option Addr) (nk ck : Nat) :
    Calls Try.prog 84 #[.agg (valCells k bits hi lo text more sub ab nb cb ak nk ck)] w fun e w' => e = .returned (.bool (fieldsOf k bits hi lo text more sub nb nk)) ∧ Below w.heap.size w w' := by
  obtain ⟨r, hr⟩ : ∃ r, r = fieldsOf k bits hi lo text more sub nb nk := ⟨_, rfl⟩
  rw [← hr]
  have HR := Lib.hid hr
  clear hr
  go_enter Try.func84, Try.ntmps84
  go_upto_block 0 with fail
  go_cut [3] from 4 (fun p3 W => FCut w r p3 W)
  case first =>
    by_cases h1 : k = 1
    · subst h1
      · go_wp2_with fail
        go_meet
        case rel => exact ⟨1, 0, hi, lo, text, more, sub, ab, nb, cb, ak, nk, ck, true, rfl, BoxV.new w (valCells 1 0 hi lo text more sub ab nb cb ak nk ck) 26, (Below.refl _ _).alloc (Nat.le_refl _) _, by show _ = _; rw [HR.out]; simp [fieldsOf, okK, hasBits, hasWide, hasText, hasMore, hasSub, hasBytes, hasKids]⟩
    by_cases h9 : k = 9
    · subst h9
      · go_wp2_with fail
        go_meet
        case rel => exact ⟨9, 0, hi, lo, text, more, sub, ab, nb, cb, ak, nk, ck, true, rfl, BoxV.new w (valCells 9 0 hi lo text more sub ab nb cb ak nk ck) 26, (Below.refl _ _).alloc (Nat.le_refl _) _, by show _ = _; rw [HR.out]; simp [fieldsOf, okK, hasBits, hasWide, hasText, hasMore, hasSub, hasBytes, hasKids]⟩
    by_cases h17 : k = 17
    · subst h17
      · go_wp2_with fail
        go_meet
        case rel => exact ⟨17, 0, hi, lo, text, more, sub, ab, nb, cb, ak, nk, ck, true, rfl, BoxV.new w (valCells 17 0 hi lo text more sub ab nb cb ak nk ck) 26, (Below.refl _ _).alloc (Nat.le_refl _) _, by show _ = _; rw [HR.out]; simp [fieldsOf, okK, hasBits, hasWide, hasText, hasMore, hasSub, hasBytes, hasKids]⟩
    by_cases h18 : k = 18
    · subst h18
      · go_wp2_with fail
        go_meet
        case rel => exact ⟨18, 0, hi, lo, text, more, sub, ab, nb, cb, ak, nk, ck, true, rfl, BoxV.new w (valCells 18 0 hi lo text more sub ab nb cb ak nk ck) 26, (Below.refl _ _).alloc (Nat.le_refl _) _, by show _ = _; rw [HR.out]; simp [fieldsOf, okK, hasBits, hasWide, hasText, hasMore, hasSub, hasBytes, hasKids]⟩
    by_cases h16 : k = 16
    · subst h16
      have f0 : (decide (4294967296 ≤ bits)) = !(decide ((bits : Int) < 4294967296)) := by rw [Bool.eq_iff_iff]; simp; try omega
      cases e0 : decide ((bits : Int) < 4294967296)
      · go_wp2_with fail
        go_meet
        case rel => exact ⟨16, 0, hi, lo, text, more, sub, ab, nb, cb, ak, nk, ck, false, rfl, BoxV.new w (valCells 16 0 hi lo text more sub ab nb cb ak nk ck) 26, (Below.refl _ _).alloc (Nat.le_refl _) _, by show _ = _; rw [HR.out]; simp [fieldsOf, okK, hasBits, hasWide, hasText, hasMore, hasSub, hasBytes, hasKids, f0, e0]⟩
      · go_wp2_with fail
        go_meet
        case rel => exact ⟨16, 0, hi, lo, text, more, sub, ab, nb, cb, ak, nk, ck, true, rfl, BoxV.new w (valCells 16 0 hi lo text more sub ab nb cb ak nk ck) 26, (Below.refl _ _).alloc (Nat.le_refl _) _, by show _ = _; rw [HR.out]; simp [fieldsOf, okK, hasBits, hasWide, hasText, hasMore, hasSub, hasBytes, hasKids, f0, e0]⟩
    by_cases h8 : k = 8
    · subst h8
      have f0 : (decide (2 ≤ bits)) = !(decide ((bits : Int) < 2)) := by rw [Bool.eq_iff_iff]; simp; try omega
      cases e0 : decide ((bits : Int) < 2)
      · go_wp2_with fail
        go_meet
        case rel => exact ⟨8, 0, hi, lo, text, more, sub, ab, nb, cb, ak, nk, ck, false, rfl, BoxV.new w (valCells 8 0 hi lo text more sub ab nb cb ak nk ck) 26, (Below.refl _ _).alloc (Nat.le_refl _) _, by show _ = _; rw [HR.out]; simp [fieldsOf, okK, hasBits, hasWide, hasText, hasMore, hasSub, hasBytes, hasKids, f0, e0]⟩
      · go_wp2_with fail
        go_meet
        case rel => exact ⟨8, 0, hi, lo, text, more, sub, ab, nb, cb, ak, nk, ck, true, rfl, BoxV.new w (valCells 8 0 hi lo text more sub ab nb cb ak nk ck) 26, (Below.refl _ _).alloc (Nat.le_refl _) _, by show _ = _; rw [HR.out]; simp [fieldsOf, okK, hasBits, hasWide, hasText, hasMore, hasSub, hasBytes, hasKids, f0, e0]⟩
    by_cases h19 : k = 19
    · subst h19
      · go_wp2_with fail
        go_meet
        case rel => exact ⟨19, bits, 0, 0, text, more, sub, ab, nb, cb, ak, nk, ck, true, rfl, BoxV.new w (valCells 19 bits 0 0 text more sub ab nb cb ak nk ck) 26, (Below.refl _ _).alloc (Nat.le_refl _) _, by show _ = _; rw [HR.out]; simp [fieldsOf, okK, hasBits, hasWide, hasText, hasMore, hasSub, hasBytes, hasKids]⟩
    by_cases h2 : k = 2
    · subst h2
      · go_wp2_with fail
        go_meet
        case rel => exact ⟨2, bits, hi, lo, ⟨#[]⟩, more, sub, ab, nb, cb, ak, nk, ck, true, rfl, BoxV.new w (valCells 2 bits hi lo ⟨#[]⟩ more sub ab nb cb ak nk ck) 26, (Below.refl _ _).alloc (Nat.le_refl _) _, by show _ = _; rw [HR.out]; simp [fieldsOf, okK, hasBits, hasWide, hasText, hasMore, hasSub, hasBytes, hasKids]⟩
    by_cases h13 : k = 13
    · subst h13
      · go_wp2_with fail
        go_meet
        case rel => exact ⟨13, bits, hi, lo, ⟨#[]⟩, more, sub, ab, nb, cb, ak, nk, ck, true, rfl, BoxV.new w (valCells 13 bits hi lo ⟨#[]⟩ more sub ab nb cb ak nk ck) 26, (Below.refl _ _).alloc (Nat.le_refl _) _, by show _ = _; rw [HR.out]; simp [fieldsOf, okK, hasBits, hasWide, hasText, hasMore, hasSub, hasBytes, hasKids]⟩
    by_cases h14 : k = 14
    · subst h14
      · go_wp2_with fail
        go_meet
        case rel => exact ⟨14, bits, hi, lo, ⟨#[]⟩, more, sub, ab, nb, cb, ak, nk, ck, true, rfl, BoxV.new w (valCells 14 bits hi lo ⟨#[]⟩ more sub ab nb cb ak nk ck) 26, (Below.refl _ _).alloc (Nat.le_refl _) _, by show _ = _; rw [HR.out]; simp [fieldsOf, okK, hasBits, hasWide, hasText, hasMore, hasSub, hasBytes, hasKids]⟩
    by_cases h11 : k = 11
    · subst h11
      · go_wp2_with fail
        go_meet
        case rel => exact ⟨11, bits, hi, lo, ⟨#[]⟩, ⟨#[]⟩, sub, ab, nb, cb, ak, nk, ck, true, rfl, BoxV.new w (valCells 11 bits hi lo ⟨#[]⟩ ⟨#[]⟩ sub ab nb cb ak nk ck) 26, (Below.refl _ _).alloc (Nat.le_refl _) _, by show _ = _; rw [HR.out]; simp [fieldsOf, okK, hasBits, hasWide, hasText, hasMore, hasSub, hasBytes, hasKids]⟩
    by_cases h5 : k = 5
    · subst h5
      cases e0 : decide (0 ≤ sub)
      · go_wp2_with fail
        go_meet
        case rel => exact ⟨5, bits, hi, lo, text, more, 0, none, 0, 0, ak, nk, ck, false, rfl, BoxV.new w (valCells 5 bits hi lo text more 0 none 0 0 ak nk ck) 26, (Below.refl _ _).alloc (Nat.le_refl _) _, by show _ = _; rw [HR.out]; simp [fieldsOf, okK, e0]⟩
      · cases e1 : decide (sub ≤ 255)
        · go_wp2_with fail
          go_meet
          case rel => exact ⟨5, bits, hi, lo, text, more, 0, none, 0, 0, ak, nk, ck, false, rfl, BoxV.new w (valCells 5 bits hi lo text more 0 none 0 0 ak nk ck) 26, (Below.refl _ _).alloc (Nat.le_refl _) _, by show _ = _; rw [HR.out]; simp [fieldsOf, okK, e0, e1]⟩
        · go_wp2_with fail
          go_meet
          case rel => exact ⟨5, bits, hi, lo, text, more, 0, none, 0, 0, ak, nk, ck, true, rfl, BoxV.new w (valCells 5 bits hi lo text more 0 none 0 0 ak nk ck) 26, (Below.refl _ _).alloc (Nat.le_refl _) _, by show _ = _; rw [HR.out]; simp [fieldsOf, okK, e0, e1, hasBits, hasWide, hasText, hasMore, hasSub, hasBytes, hasKids]⟩
    by_cases h7 : k = 7
    · subst h7
      have f0 : (nb == 12) = ((nb : Int) == 12) := by rw [Bool.eq_iff_iff]; simp; try omega
      cases e0 : ((nb : Int) == 12)
      · go_wp2_with fail
        go_meet
        case rel => exact ⟨7, bits, hi, lo, text, more, sub, none, 0, 0, ak, nk, ck, false, rfl, BoxV.new w (valCells 7 bits hi lo text more sub none 0 0 ak nk ck) 26, (Below.refl _ _).alloc (Nat.le_refl _) _, by show _ = _; rw [HR.out]; simp [fieldsOf, okK, hasBits, hasWide, hasText, hasMore, hasSub, hasBytes, hasKids, f0, e0]⟩
      · go_wp2_with fail
        go_meet
        case rel => exact ⟨7, bits, hi, lo, text, more, sub, none, 0, 0, ak, nk, ck, true, rfl, BoxV.new w (valCells 7 bits hi lo text more sub none 0 0 ak nk ck) 26, (Below.refl _ _).alloc (Nat.le_refl _) _, by show _ = _; rw [HR.out]; simp [fieldsOf, okK, hasBits, hasWide, hasText, hasMore, hasSub, hasBytes, hasKids, f0, e0]⟩
    by_cases h12 : k = 12
    · subst h12
      have f0 : (nb == 12) = ((nb : Int) == 12) := by rw [Bool.eq_iff_iff]; simp; try omega
      cases e0 : ((nb : Int) == 12)
      · go_wp2_with fail
        go_meet
        case rel => exact ⟨12, bits, hi, lo, ⟨#[]⟩, more, sub, none, 0, 0, ak, nk, ck, false, rfl, BoxV.new w (valCells 12 bits hi lo ⟨#[]⟩ more sub none 0 0 ak nk ck) 26, (Below.refl _ _).alloc (Nat.le_refl _) _, by show _ = _; rw [HR.out]; simp [fieldsOf, okK, hasBits, hasWide, hasText, hasMore, hasSub, hasBytes, hasKids, f0, e0]⟩
      · go_wp2_with fail
        go_meet
        case rel => exact ⟨12, bits, hi, lo, ⟨#[]⟩, more, sub, none, 0, 0, ak, nk, ck, true, rfl, BoxV.new w (valCells 12 bits hi lo ⟨#[]⟩ more sub none 0 0 ak nk ck) 26, (Below.refl _ _).alloc (Nat.le_refl _) _, by show _ = _; rw [HR.out]; simp [fieldsOf, okK, hasBits, hasWide, hasText, hasMore, hasSub, hasBytes, hasKids, f0, e0]⟩
    by_cases h3 : k = 3
    · subst h3
      · go_wp2_with fail
        go_meet
        case rel => exact ⟨3, bits, hi, lo, text, more, sub, ab, nb, cb, none, 0, 0, true, rfl, BoxV.new w (valCells 3 bits hi lo text more sub ab nb cb none 0 0) 26, (Below.refl _ _).alloc (Nat.le_refl _) _, by show _ = _; rw [HR.out]; simp [fieldsOf, okK, hasBits, hasWide, hasText, hasMore, hasSub, hasBytes, hasKids]⟩
    by_cases h4 : k = 4
    · subst h4
      · go_wp2_with fail
        go_meet
        case rel => exact ⟨4, bits, hi, lo, text, more, sub, ab, nb, cb, none, 0, 0, true, rfl, BoxV.new w (valCells 4 bits hi lo text more sub ab nb cb none 0 0) 26, (Below.refl _ _).alloc (Nat.le_refl _) _, by show _ = _; rw [HR.out]; simp [fieldsOf, okK, hasBits, hasWide, hasText, hasMore, hasSub, hasBytes, hasKids]⟩
    by_cases h15 : k = 15
    · subst h15
      · go_wp2_with fail
        go_meet
        case rel => exact ⟨15, bits, hi, lo, ⟨#[]⟩, more, sub, ab, nb, cb, none, 0, 0, true, rfl, BoxV.new w (valCells 15 bits hi lo ⟨#[]⟩ more sub ab nb cb none 0 0) 26, (Below.refl _ _).alloc (Nat.le_refl _) _, by show _ = _; rw [HR.out]; simp [fieldsOf, okK, hasBits, hasWide, hasText, hasMore, hasSub, hasBytes, hasKids]⟩
    have n1 : (k == 1) = false := by simpa using h1
    have n9 : (k == 9) = false := by simpa using h9
    have n17 : (k == 17) = false := by simpa using h17
    have n18 : (k == 18) = false := by simpa using h18
    have n16 : (k == 16) = false := by simpa using h16
    have n8 : (k == 8) = false := by simpa using h8
    have n19 : (k == 19) = false := by simpa using h19
    have n2 : (k == 2) = false := by simpa using h2
    have n13 : (k == 13) = false := by simpa using h13
    have n14 : (k == 14) = false := by simpa using h14
    have n11 : (k == 11) = false := by simpa using h11
    have n5 : (k == 5) = false := by simpa using h5
    have n7 : (k == 7) = false := by simpa using h7
    have n12 : (k == 12) = false := by simpa using h12
    have n3 : (k == 3) = false := by simpa using h3
    have n4 : (k == 4) = false := by simpa using h4
    have n15 : (k == 15) = false := by simpa using h15
    go_wp2_with fail
    go_meet
    case rel => exact ⟨k, bits, hi, lo, text, more, sub, ab, nb, cb, ak, nk, ck, true, rfl, BoxV.new w (valCells k bits hi lo text more sub ab nb cb ak nk ck) 26, (Below.refl _ _).alloc (Nat.le_refl _) _, by show _ = _; rw [HR.out]; simp [fieldsOf, okK, hasBits, hasWide, hasText, hasMore, hasSub, hasBytes, hasKids, n1, n9, n17, n18, n16, n8, n19, n2, n13, n14, n11, n5, n7, n12, n3, n4, n15]⟩
  case rest =>
    obtain ⟨k2, bits2, hi2, lo2, text2, more2, sub2, ab2, nb2, cb2, ak2, nk2, ck2, ok, rfl, hx, hb, hrr⟩ := hcut
    have HRR := Lib.hid hrr.out
    obtain ⟨f0, f1, f2, f3, f4, f5, f6, f7, f8, l0⟩ := hx.nine
    have HB := Lib.hid hb
    clear HR hrr hx hb
    have key : ∀ b, r = b → Hid (r = b) := fun b h => h
    cases ok with
    | false =>
      have HF : Hid (r = false) := by show _ = _; rw [HRR.out]; rfl
      clear HRR key
      go_wp2_with fail
      go_ret
      exact ⟨by rw [HF.out]; rfl, HB.out⟩
    | true =>
      have c0 : (bits2 == 0) = ((bits2 : Int) == 0) := by rw [Bool.eq_iff_iff]; simp
      rw [c0] at HRR
      cases t0 : ((bits2 : Int) == 0) with
      | false =>
        have HF : Hid (r = false) := by show _ = _; rw [HRR.out, t0]; simp
        clear HRR key
        go_wp2_with fail
        go_ret
        exact ⟨by rw [HF.out]; rfl, HB.out⟩
      | true =>
      have c1 : (hi2 == 0) = ((hi2 : Int) == 0) := by rw [Bool.eq_iff_iff]; simp
      rw [c1] at HRR
      cases t1 : ((hi2 : Int) == 0) with
      | false =>
        have HF : Hid (r = false) := by show _ = _; rw [HRR.out, t0, t1]; simp
        clear HRR key
        go_wp2_with fail
        go_ret
        exact ⟨by rw [HF.out]; rfl, HB.out⟩
      | true =>
      have c2 : (lo2 == 0) = ((lo2 : Int) == 0) := by rw [Bool.eq_iff_iff]; simp
      rw [c2] at HRR
      cases t2 : ((lo2 : Int) == 0) with
      | false =>
        have HF : Hid (r = false) := by show _ = _; rw [HRR.out, t0, t1, t2]; simp
        clear HRR key
        go_wp2_with fail
        go_ret
        exact ⟨by rw [HF.out]; rfl, HB.out⟩
      | true =>
      cases t3 : (text2.toList == []) with
      | false =>
        have HF : Hid (r = false) := by show _ = _; rw [HRR.out, t0, t1, t2, t3]; simp
        clear HRR key
        go_wp2_with fail
        go_ret
        exact ⟨by rw [HF.out]; rfl, HB.out⟩
      | true =>
      cases t4 : (more2.toList == []) with
      | false =>
        have HF : Hid (r = false) := by show _ = _; rw [HRR.out, t0, t1, t2, t3, t4]; simp
        clear HRR key
        go_wp2_with fail
        go_ret
        exact ⟨by rw [HF.out]; rfl, HB.out⟩
      | true =>
      cases t5 : (sub2 == 0) with
      | false =>
        have HF : Hid (r = false) := by show _ = _; rw [HRR.out, t0, t1, t2, t3, t4, t5]; simp
        clear HRR key
        go_wp2_with fail
        go_ret
        exact ⟨by rw [HF.out]; rfl, HB.out⟩
      | true =>
      have c6 : (nb2 == 0) = ((nb2 : Int) == 0) := by rw [Bool.eq_iff_iff]; simp
      rw [c6] at HRR
      cases t6 : ((nb2 : Int) == 0) with
      | false =>
        have HF : Hid (r = false) := by show _ = _; rw [HRR.out, t0, t1, t2, t3, t4, t5, t6]; simp
        clear HRR key
        go_wp2_with fail
        go_ret
        exact ⟨by rw [HF.out]; rfl, HB.out⟩
      | true =>
      have c7 : (nk2 == 0) = ((nk2 : Int) == 0) := by rw [Bool.eq_iff_iff]; simp
      rw [c7] at HRR
      cases t7 : ((nk2 : Int) == 0) with
      | false =>
        have HF : Hid (r = false) := by show _ = _; rw [HRR.out, t0, t1, t2, t3, t4, t5, t6, t7]; simp
        clear HRR key
        go_wp2_with fail
        go_ret
        exact ⟨by rw [HF.out]; rfl, HB.out⟩
      | true =>
      have HF : Hid (r = true) := by show _ = _; rw [HRR.out, t0, t1, t2, t3, t4, t5, t6, t7]; rfl
      clear HRR key
      go_wp2_with fail
      go_ret
      exact ⟨by rw [HF.out]; rfl, HB.out⟩

end Go.Proofs.Ytkcfkdmffbhljaa
