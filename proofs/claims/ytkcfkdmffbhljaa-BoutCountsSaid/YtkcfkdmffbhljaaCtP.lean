/- The text that a byte 0 ends, plainly; the number of four bytes. -/
import Derived.Test.YtkcfkdmffbhljaaBoZ
import Derived.Test.YtkcfkdmffbhljaaUtf2
import Derived.Test.YtkcfkdmffbhljaaNum
namespace Go.Proofs.Ytkcfkdmffbhljaa
set_option linter.unusedVariables false
set_option linter.unusedSimpArgs false

/-- The text that a byte 0 ends, the place behind it, the error. -/
def cText (l : List UInt8) (p : Nat) : List UInt8 × Nat × Nat :=
  let z := zeroIn (l.drop p)
  if l.length < p then ([], 0, 1) else if p + z = l.length then ([], 0, 2) else if wholeTo ((l.drop p).take z) = z then ((l.drop p).take z, p + z + 1, 0) else ([], 0, 4)

/-- The number of four bytes, with its sign. -/
def len4 (l : List UInt8) (p : Nat) : Int := if le (seg l p 4) < 2147483648 then (le (seg l p 4) : Int) else (le (seg l p 4) : Int) - 4294967296

theorem txt_nil : txt [] = ByteArray.empty := rfl

end Go.Proofs.Ytkcfkdmffbhljaa
