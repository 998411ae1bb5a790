/- The statements' own look (awake), and SizeTells. -/
import Derived.Test.YtiodjhcjfbnocaaSizeR
import Derived.Test.YtiodjhcjfbnocaaTreeOpen
namespace Go.Proofs.Ytiodjhcjfbnocaa
open Go.RowKit
set_option linter.unusedVariables false
set_option linter.unusedSimpArgs false

/-- A value of a kind, all else zero. -/
def bareT (k : Int) : T := .mk k 0 0 0 ByteArray.empty ByteArray.empty 0 [] .nil

theorem bare_rd (k : Int) (hk : -9223372036854775808 ≤ k ∧ k ≤ 9223372036854775807) (w : World) : RdT w (bareT k) (valCells k 0 0 0 ByteArray.empty ByteArray.empty 0 none 0 0 none 0 0) :=
  ⟨none, 0, 0, none, 0, 0, rfl, ⟨hk, by unfold okSize; omega, by unfold okSize; omega, by unfold okSize; omega, by simp, by simp, by omega⟩, .nil _ _, rfl, ⟨by omega, ⟨fun _ => rfl, by omega⟩, fun _ => rfl, by omega⟩, trivial⟩

set_option maxRecDepth 100000 in
set_option maxHeartbeats 1000000 in
theorem awake19 (w : World) : Calls Try.prog 10 #[] w fun e w' => e = .returned (.bool true) ∧ Below w.heap.size w w' := by
  have C := Lib.hid (of_all 2 (by omega) (bareT 3) (by decide +kernel) w _ (bare_rd 3 (by omega) w))
  have e : Hid (sizeT (bareT 3) = 5) := by show _ = _; decide +kernel
  rw [e.out] at C
  go_enter Try.func10, Try.ntmps10
  go_wp2_with fail
  refine C.out.mono ?_
  rintro e w1 ⟨rfl, hb⟩
  have HB := Lib.hid hb
  clear hb
  go_wp2
  go_ret
  refine ⟨rfl, ?_⟩
  first | exact HB.out | exact HB.out.alloc HB.out.size _ | exact (HB.out.alloc HB.out.size _).alloc (by have := HB.out.size; simp; omega) _

theorem hT_next {W w' : World} {t : T} {c : Array Value} (hb : Below W.heap.size W w') (h : Hid (RdT W t c)) : Hid (RdT w' t c) := h.out.keep hb
theorem hT_drew {W : World} {t : T} {c : Array Value} (h : Hid (RdT W t c)) : Hid (RdT W.drew t c) := h.out.keep (Below.refl _ _).drew
theorem hB_next {a W w' : World} (hb : Below W.heap.size W w') (h : Hid (Below a.heap.size a W)) : Hid (Below a.heap.size a w') := h.out.trans (hb.mono h.out.size)
theorem hB_drew {a W : World} (h : Hid (Below a.heap.size a W)) : Hid (Below a.heap.size a W.drew) := h.out.drew

end Go.Proofs.Ytiodjhcjfbnocaa
