/- What bytes look like, plainly; bytes.TrimLeft and HasPrefix. -/
import Derived.Test.YtikjmlidgiphjaaDoorSnL
import Derived.Test.YtikjmlidgiphjaaDoorNum
import Derived.Test.YtikjmlidgiphjaaDoorOpen
import Derived.Test.YtikjmlidgiphjaaDoorStr
import Derived.BigQuiet
import Derived.Shelf.Strings.SlTrimAscii
import Derived.Lib.SlBytesConst
namespace Go.Proofs.YtikjmlidgiphjaaDoor
open Go.RowKit
set_option linter.unusedVariables false
set_option linter.unusedSimpArgs false

def blank (x : UInt8) : Bool := [32, 9, 10, 13].contains x
/-- How many blanks stand ahead. -/
def lead : List UInt8 → Nat
  | [] => 0
  | x :: r => if blank x = true then lead r + 1 else 0
theorem lead_le : ∀ L : List UInt8, lead L ≤ L.length
  | [] => Nat.le_refl _
  | x :: r => by have := lead_le r; simp only [lead, List.length_cons]; split <;> omega
theorem trim_lead : ∀ L : List UInt8, L.length - (Lib.trimLeftS L [32, 9, 10, 13]).length = lead L
  | [] => rfl
  | x :: r => by
    have h := trim_lead r
    have hl := lead_le r
    unfold Lib.trimLeftS at h ⊢
    have hm : (r.dropWhile ([32, 9, 10, 13].contains ·)).length ≤ r.length := (List.dropWhile_sublist _).length_le
    by_cases hx : blank x = true
    · have hx' : ([32, 9, 10, 13].contains x) = true := hx
      rw [List.dropWhile_cons, if_pos hx']
      simp only [lead, if_pos hx, List.length_cons]; omega
    · have hx' : ¬ ([32, 9, 10, 13].contains x) = true := hx
      rw [List.dropWhile_cons, if_neg hx']
      simp only [lead, if_neg hx]; omega
theorem blank_iff (x : UInt8) : blank x = true ↔ (x.toNat = 9 ∨ x.toNat = 10 ∨ x.toNat = 13 ∨ x.toNat = 32) := by
  simp only [blank, List.contains_cons, List.contains_nil, Bool.or_eq_true, beq_iff_eq, Bool.or_false]
  constructor
  · rintro (rfl | rfl | rfl | rfl) <;> simp
  · intro h
    rcases h with h | h | h | h
    · exact .inr (.inl (UInt8.toNat_inj.1 h))
    · exact .inr (.inr (.inl (UInt8.toNat_inj.1 h)))
    · exact .inr (.inr (.inr (UInt8.toNat_inj.1 h)))
    · exact .inl (UInt8.toNat_inj.1 h)
theorem lead_at : ∀ (L : List UInt8) (k : Nat), k < lead L → blank (L.getD k 0) = true
  | [], k, h => by simp [lead] at h
  | x :: r, 0, h => by simp only [lead] at h; split at h <;> simp_all
  | x :: r, k + 1, h => by
    simp only [lead] at h
    split at h
    · exact lead_at r k (by omega)
    · omega
theorem lead_end : ∀ (L : List UInt8), lead L < L.length → blank (L.getD (lead L) 0) = false
  | [], h => by simp at h
  | x :: r, h => by
    by_cases hx : blank x = true
    · simp only [lead, if_pos hx, List.length_cons] at h ⊢
      exact lead_end r (by omega)
    · simp only [lead, if_neg hx]
      simpa using hx
def brace (L : List UInt8) : Bool := decide (lead L < L.length) && (bAt L (lead L) == 123)
/-- Which format bytes look like. -/
def guessN (L : List UInt8) : Nat :=
  if 5 ≤ L.length ∧ bAt L (L.length - 1) = 0 ∧ le (seg L 0 4) = L.length then 1 else if brace L = true then 2 else if L.length = 0 then 0 else
  if 160 ≤ bAt L 0 ∧ bAt L 0 ≤ 187 then 4 else if (128 ≤ bAt L 0 ∧ bAt L 0 ≤ 143) ∨ bAt L 0 = 222 ∨ bAt L 0 = 223 then 5 else 0

theorem i64_or_nat (a b : Nat) (ha : a < 4611686018427387904) (hb : b < 4611686018427387904) : bits .or .i64 (a : Int) (b : Int) = ((a ||| b : Nat) : Int) := by
  have hx : a ||| b < 2 ^ 62 := Nat.or_lt_two_pow (by omega) (by omega)
  show IntKind.i64.wrap ((BitVec.ofInt 64 (a : Int) ||| BitVec.ofInt 64 (b : Int)).toNat : Int) = _
  rw [BitVec.toNat_or, BitVec.ofInt_natCast, BitVec.toNat_ofNat, BitVec.ofInt_natCast, BitVec.toNat_ofNat, Nat.mod_eq_of_lt (by omega), Nat.mod_eq_of_lt (by omega)]
  exact IntWalk.i64_in _ (by omega)
theorem or_four64 (a b c d : Nat) (ha : a < 256) (hb : b < 256) (hc : c < 256) (hd : d < 256) :
    bits BinOp.or IntKind.i64 (bits BinOp.or IntKind.i64 (bits BinOp.or IntKind.i64 (a : Int) ((b : Int) * 256)) ((c : Int) * 65536)) ((d : Int) * 16777216) = ((a + 256 * (b + 256 * (c + 256 * d)) : Nat) : Int) := by
  rw [show (b : Int) * 256 = ((b * 256 : Nat) : Int) from by omega, show (c : Int) * 65536 = ((c * 65536 : Nat) : Int) from by omega, show (d : Int) * 16777216 = ((d * 16777216 : Nat) : Int) from by omega]
  rw [i64_or_nat a (b * 256) (by omega) (by omega), Nat.or_comm, nat_join 8 (b * 256) a (by omega) (by omega)]
  rw [i64_or_nat _ (c * 65536) (by omega) (by omega), Nat.or_comm, nat_join 16 (c * 65536) _ (by omega) (by omega)]
  rw [i64_or_nat _ (d * 16777216) (by omega) (by omega), Nat.or_comm, nat_join 24 (d * 16777216) _ (by omega) (by omega)]
  omega
theorem le_seg4 (l : List UInt8) (p : Nat) (h : p + 4 ≤ l.length) : le (seg l p 4) = bAt l p + 256 * (bAt l (p + 1) + 256 * (bAt l (p + 2) + 256 * bAt l (p + 3))) := by
  have e0 := le_seg_drop l p 4 0 h (by omega)
  have e1 := le_seg_drop l p 4 1 h (by omega)
  have e2 := le_seg_drop l p 4 2 h (by omega)
  have e3 := le_seg_drop l p 4 3 h (by omega)
  have e4 : (seg l p 4).drop 4 = [] := List.drop_of_length_le (by rw [seg_length _ _ _ h]; omega)
  simp only [Nat.reduceAdd, List.drop_zero, Nat.add_zero] at e0 e1 e2 e3
  rw [e4] at e3
  simp only [le] at e3
  omega

/-- What TrimLeft hands back. -/
def TrimV (a : Option Addr) (n cap : Nat) (L : List UInt8) : Value := Lib.leftV a n cap (lead L)
theorem trim_calls (a : Option Addr) (n cap : Nat) (L : List UInt8) (w : World) (h : RdB w a n L) (hc : n ≤ cap) (hb : cap ≤ 9223372036854775807) :
    Calls Tryd.prog 12 #[.slice a n cap, .string ⟨#[32, 9, 10, 13]⟩] w fun e w' => e = .returned (TrimV a n cap L) ∧ Below w.heap.size w w' := by
  have h27 : (Tryd.prog.info? (trimLays_ren.t 27)).map (fun i => (i.zero, i.size)) = some (some (.agg (Array.replicate 256 (.bool false))), 256) := by kernel_rfl
  have hcon := Any.bytes_TrimLeft_ascii trimLays (zero_of_info h27).1 (zero_of_info h27).2 a n cap L ⟨#[32, 9, 10, 13]⟩ w h.1 hc hb (fun h0 => ?_) (by decide) (ascii_of_all (by decide))
  · refine Calls.mono hcon fun e w' h2 => ⟨?_, h2.2⟩
    rw [h2.1]
    unfold TrimV
    rw [← trim_lead L, h.1]
  · obtain ⟨b, o, rfl, _⟩ := h.at 0 h0
    refine ⟨b, o, rfl, fun i hi => ?_⟩
    obtain ⟨b2, o2, e, hcell⟩ := h.at i hi
    simp only [Option.some.injEq, Addr.mk.injEq, and_true] at e
    obtain ⟨rfl, rfl⟩ := e
    exact hcell
set_option maxRecDepth 100000 in
set_option maxHeartbeats 1000000 in
theorem equal_calls (a b : Option Addr) (m n c d : Nat) (L K : List UInt8) (w : World) (h : RdB w a m L) (k : RdB w b n K) :
    Calls Tryd.prog 14 #[.slice a m c, .slice b n d] w fun e w' => e = .returned (.bool ((txt L).toList == (txt K).toList)) ∧ w = w' := by
  have h1 := conv_str h c
  have h2 := conv_str k d
  generalize txt L = S at h1 ⊢
  generalize txt K = T at h2 ⊢
  clear h k
  go_enter Tryd.func14, Tryd.ntmps14
  go_wp2_with fail
  go_ret
  exact ⟨rfl, rfl⟩
theorem one_text (x : UInt8) : ((txt [x]).toList == (txt [123]).toList) = (x == 123) := by
  have e : ∀ y : UInt8, (txt [y]).toList = [y] := fun y => by rw [ByteArray.toList_eq]; rfl
  rw [e, e]
  simp

set_option maxRecDepth 100000 in
set_option maxHeartbeats 1000000 in
/-- HasPrefix of an open brace, at no bytes. -/
theorem pre_none (b : Option Addr) (d : Nat) (w : World) (k : RdB w b 1 [123]) :
    Calls Tryd.prog 11 #[.slice none 0 0, .slice b 1 d] w fun e w' => e = .returned (.bool false) ∧ w = w' := by
  clear k
  go_enter Tryd.func11, Tryd.ntmps11
  go_wp2_with fail
  go_ret
  exact ⟨rfl, rfl⟩
set_option maxRecDepth 100000 in
set_option maxHeartbeats 1000000 in
theorem pre_some (a b : Option Addr) (m c d : Nat) (L : List UInt8) (w : World) (h : RdB w a m L) (hm : 1 ≤ m) (hc : m ≤ c) (k : RdB w b 1 [123]) :
    Calls Tryd.prog 11 #[.slice a m c, .slice b 1 d] w fun e w' => e = .returned (.bool (L.getD 0 0 == 123)) ∧ w = w' := by
  have ht : RdB w a 1 [L.getD 0 0] := by
    refine ⟨rfl, by omega, fun i hi => ?_⟩
    obtain rfl : i = 0 := by omega
    exact h.2.2 0 (by omega)
  have C := Lib.hid (equal_calls a b 1 1 c d _ _ w ht k)
  rw [one_text] at C
  have hm0 : decide ((1 : Int) ≤ (m : Int)) = true := by simp; omega
  have hm1 : decide (1 ≤ m) = true := by simp; omega
  have hc1 : (1 : Int) ≤ (c : Int) := by omega
  generalize (L.getD 0 0 == 123) = B at C ⊢
  clear ht h k
  go_enter Tryd.func11, Tryd.ntmps11
  go_wp2_with fail
  refine C.out.mono ?_
  rintro e w1 ⟨rfl, rfl⟩
  cases B <;> (go_wp2_with fail; go_ret; exact ⟨rfl, rfl⟩)
/-- Both together: does an open brace stand behind the blanks? -/
theorem brace_calls (a b : Option Addr) (n cap d : Nat) (L : List UInt8) (w : World) (h : RdB w a n L) (hc : n ≤ cap) (k : RdB w b 1 [123]) :
    ∃ x m c, TrimV a n cap L = .slice x m c ∧ Calls Tryd.prog 11 #[.slice x m c, .slice b 1 d] w fun e w' => e = .returned (.bool (brace L)) ∧ w = w' := by
  have hl := lead_le L
  have hL := h.1
  unfold TrimV Lib.leftV
  by_cases hk : lead L = n
  · rw [if_pos hk]
    refine ⟨none, 0, 0, rfl, ?_⟩
    have hb : brace L = false := by unfold brace; rw [decide_eq_false (by omega)]; rfl
    rw [hb]
    exact pre_none b d w k
  · rw [if_neg hk]
    unfold Lib.fromV
    rw [if_neg (by omega)]
    obtain ⟨b0, o0, rfl, -⟩ := h.at 0 (by omega)
    refine ⟨_, _, _, rfl, ?_⟩
    have hr : RdB w (some ⟨b0, o0 + lead L, none⟩) (n - lead L) (L.drop (lead L)) := by
      refine ⟨by rw [List.length_drop, hL], by have := h.2.1; omega, fun i hi => ?_⟩
      obtain ⟨b2, o2, e, hcell⟩ := h.at (lead L + i) (by omega)
      simp only [Option.some.injEq, Addr.mk.injEq, and_true] at e
      obtain ⟨rfl, rfl⟩ := e
      refine ⟨_, _, rfl, ?_⟩
      rw [show o0 + lead L + i = o0 + (lead L + i) from by omega, hcell]
      simp [bAt]
    have hd : brace L = ((L.drop (lead L)).getD 0 0 == 123) := by
      unfold brace
      rw [decide_eq_true (by omega), Bool.true_and]
      have e : (L.drop (lead L)).getD 0 0 = L.getD (lead L) 0 := by simp
      rw [e]
      unfold bAt
      rw [Bool.eq_iff_iff, beq_iff_eq, beq_iff_eq]
      exact ⟨fun h => UInt8.toNat_inj.1 h, fun h => by rw [h]; rfl⟩
    rw [hd]
    have hr2 : RdB w (Option.map (fun x => x.add (lead L)) (some (⟨b0, o0, none⟩ : Addr))) (n - lead L) (L.drop (lead L)) := by
      rw [Option.map_some, add_at]; exact hr
    exact pre_some _ b _ _ d _ w hr2 (by omega) (by omega) k

end Go.Proofs.YtikjmlidgiphjaaDoor
