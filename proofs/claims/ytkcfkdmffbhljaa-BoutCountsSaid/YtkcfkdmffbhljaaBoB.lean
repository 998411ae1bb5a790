/- bout: ended, text. -/
import Derived.Test.YtkcfkdmffbhljaaBoW
import Derived.Test.YtkcfkdmffbhljaaConv
namespace Go.Proofs.Ytkcfkdmffbhljaa
open Go.RowKit
set_option linter.unusedVariables false
set_option linter.unusedSimpArgs false

theorem WStep.below {w w3 w' : World} {B g : Nat} {v : Value} {bs : List UInt8} (hb : Below w.heap.size w w3) (h : WStep w3 B g v bs w') : WStep w B g v bs w' :=
  WStep.trans (Chg.of_below hb) (fun k hk => .inl hk) h
theorem Wtr.below {w w3 : World} {B g : Nat} {v : Value} {bs : List UInt8} (h : Wtr w B g v bs) (hb : Below w.heap.size w w3) : Wtr w3 B g v bs :=
  h.chg (S := fun _ => False) (Chg.of_below hb) (fun h => h) (fun _ _ h => h)
theorem byte0 : UInt8.ofNat ((0 : Int) % 256).toNat = 0 := rfl

set_option maxRecDepth 100000 in
set_option maxHeartbeats 4000000 in
theorem ended_calls (g : Nat) (v : Value) (bs : List UInt8) (w : World) (B : Nat) (h : Wtr w B g v bs) (hB : B ≤ w.heap.size) (hn : bs.length ≤ 100000000) (s : ByteArray) (hs : s.size ≤ 1000000) :
    Calls Try.prog 62 #[.pointer (some ⟨g, 0, none⟩), .string s] w fun e w' => e = .returned (.tuple #[]) ∧ WStep w B g v (bs ++ sl s ++ [0]) w' := by
  obtain ⟨cap3, w3, hrun, hb3, hs3, hr3, hz1, hz2⟩ := conv_bytes w s (by omega)
  have hsl := sl_len s
  have C1 := Lib.hid (wraw_calls g v bs (sl s) w3 B (h.below hb3) (Nat.le_trans hB hb3.size) (by omega) (.slice (some ⟨w.heap.size, 0, none⟩) s.size cap3) ⟨_, _, _, rfl, hr3, by simp⟩ (by omega))
  have C2 := Lib.hid (fun W v4 (h4 : Wtr W B g v4 (bs ++ sl s)) hB4 => wbyte_calls g v4 (bs ++ sl s) W B h4 hB4 (by simp; omega) 0)
  rw [byte0] at C2
  have HB3 := Lib.hid hb3
  clear hr3 hz1 hz2 hb3 hsl
  go_enter Try.func62, Try.ntmps62
  go_wp2_with fail
  refine C1.out.mono ?_
  rintro e w4 ⟨rfl, v4, h4, hc4, hv4⟩
  have H4 := Lib.hid h4
  have HC4 := Lib.hid hc4
  have HV4 := Lib.hid hv4
  have hs4 := hc4.size
  clear h4 hc4 hv4
  go_wp2_with fail
  refine (C2.out w4 v4 H4.out (by have := HB3.out.size; omega)).mono ?_
  rintro e w5 ⟨rfl, hst⟩
  have HST := Lib.hid hst
  clear hst
  go_wp2_with fail
  go_end0
  exact ⟨rfl, (WStep.trans HC4.out HV4.out HST.out).below HB3.out⟩

/-- A text with its length. -/
def textB (s : ByteArray) : List UInt8 := leBytes 4 (s.size + 1) ++ sl s ++ [0]

set_option maxRecDepth 100000 in
set_option maxHeartbeats 4000000 in
theorem btext_calls (g : Nat) (v : Value) (bs : List UInt8) (w : World) (B : Nat) (h : Wtr w B g v bs) (hB : B ≤ w.heap.size) (hn : bs.length ≤ 90000000) (s : ByteArray) (hs : s.size ≤ 1000000) :
    Calls Try.prog 88 #[.pointer (some ⟨g, 0, none⟩), .string s] w fun e w' => e = .returned (.tuple #[]) ∧ WStep w B g v (bs ++ textB s) w' := by
  have C1 := Lib.hid (wlow_yes g v bs w B h hB (by omega) (s.size + 1) 4 (by unfold okSize; omega) (by omega) (by omega))
  have C2 := Lib.hid (fun W v4 (h4 : Wtr W B g v4 (bs ++ leBytes 4 (s.size + 1))) hB4 => ended_calls g v4 (bs ++ leBytes 4 (s.size + 1)) W B h4 hB4 (by simp [leBytes_length]; omega) s hs)
  have e1 : IntKind.i64.wrap ((s.size : Int) + 1) = (s.size : Int) + 1 := IntWalk.i64_in _ (by omega)
  have e2 : IntKind.u64.wrap ((s.size : Int) + 1) = (s.size : Int) + 1 := wrap_u64_of (by omega) (by omega)
  have hB' := hB
  clear h
  go_enter Try.func88, Try.ntmps88
  go_wp2_with fail
  refine C1.out.mono ?_
  rintro e w4 ⟨rfl, v4, h4, hc4, hv4⟩
  have H4 := Lib.hid h4
  have HC4 := Lib.hid hc4
  have HV4 := Lib.hid hv4
  have hs4 := hc4.size
  clear h4 hc4 hv4
  go_wp2_with fail
  refine (C2.out w4 v4 H4.out (by omega)).mono ?_
  rintro e w5 ⟨rfl, hst⟩
  have HST := Lib.hid hst
  clear hst
  go_wp2_with fail
  go_end0
  refine ⟨rfl, ?_⟩
  have := WStep.trans HC4.out HV4.out HST.out
  unfold textB
  rwa [← List.append_assoc, ← List.append_assoc]

end Go.Proofs.Ytkcfkdmffbhljaa
