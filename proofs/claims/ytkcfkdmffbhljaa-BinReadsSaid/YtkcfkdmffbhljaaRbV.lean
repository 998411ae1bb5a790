/- The reference's value, for every Kind. -/
import Derived.Test.YtkcfkdmffbhljaaRbV1
import Derived.Test.YtkcfkdmffbhljaaRbV2
import Derived.Test.YtkcfkdmffbhljaaRbV3
import Derived.Test.YtkcfkdmffbhljaaRbV4
namespace Go.Proofs.Ytkcfkdmffbhljaa
open Go.RowKit
set_option linter.unusedVariables false
set_option linter.unusedSimpArgs false

theorem rvl_step (dd : Nat) (hof : RDcSaid dd) (hsc : RScSaid dd) : RVlSaid dd := by
  intro rb b o n c L d w h k q z win hk hq hz hd hw
  rcases knK hk with rfl | rfl | rfl | rfl | rfl | rfl | rfl | rfl | rfl | rfl | rfl | rfl | rfl | rfl | rfl | rfl | rfl | rfl | rfl | rfl | rfl
  · exact rvl_1 dd hof hsc h q z win hq hz hd hw
  · exact rvl_2 dd hof hsc h q z win hq hz hd hw
  · exact rvl_3 dd hof hsc h q z win hq hz hd hw
  · exact rvl_4 dd hof hsc h q z win hq hz hd hw
  · exact rvl_5 dd hof hsc h q z win hq hz hd hw
  · exact rvl_6 dd hof hsc h q z win hq hz hd hw
  · exact rvl_7 dd hof hsc h q z win hq hz hd hw
  · exact rvl_8 dd hof hsc h q z win hq hz hd hw
  · exact rvl_9 dd hof hsc h q z win hq hz hd hw
  · exact rvl_10 dd hof hsc h q z win hq hz hd hw
  · exact rvl_11 dd hof hsc h q z win hq hz hd hw
  · exact rvl_12 dd hof hsc h q z win hq hz hd hw
  · exact rvl_13 dd hof hsc h q z win hq hz hd hw
  · exact rvl_14 dd hof hsc h q z win hq hz hd hw
  · exact rvl_15 dd hof hsc h q z win hq hz hd hw
  · exact rvl_16 dd hof hsc h q z win hq hz hd hw
  · exact rvl_17 dd hof hsc h q z win hq hz hd hw
  · exact rvl_18 dd hof hsc h q z win hq hz hd hw
  · exact rvl_19 dd hof hsc h q z win hq hz hd hw
  · exact rvl_127 dd hof hsc h q z win hq hz hd hw
  · exact rvl_255 dd hof hsc h q z win hq hz hd hw

end Go.Proofs.Ytkcfkdmffbhljaa
