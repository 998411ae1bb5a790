/-
  NARROWER THAN 'FOR EVERY INPUT', by the rows' own cells (each row's printed sentence says how): SizeAdds: loops · PathAll: loops · PathGets: loops · SizeFits: loops · SizeEdges: loops · PathDiffs: loops · PathOne: loops.
  DERIVED. THE GIVEN ROWS OF THIS SEAT. 7 by the template 'for every input the law returns true; each argument reads behind the call as it read before'; 0 by the template 'total and deterministic' (their statements: YtiodjhcjfbnocaaTotals.lean).
  GIVEN WITH THE SEED: the statements are not yours to turn. If you find one false, say at which input.
  Laid BY PROGRAM, IN A SANDBOX (cutbox-rows.mjs): the forced cells as the released guide's own fill.sh prints them over the translation 03ad901533267c05… (all of the seat's roots in one cut). By AI agents, Wed Nov 11 2026. No macro, syntax, notation, axiom, sorry.
-/
import Derived.Test.YtiodjhcjfbnocaaChecked
import GoSem.Claim
import GoSem.ClaimJoined
import GoSem.ClaimMapViews
import Derived.JoinedTies
import Derived.KernelRfl
namespace Go.Proofs.Ytiodjhcjfbnocaa
/- THE CELL 'sum', in the pinned program and in every row, IS THE sha256 OF THE DUMP (.gsa) THAT YtiodjhcjfbnocaaProg.lean LOADS. Nothing in Lean hashes anything: it is a label: what it is worth is what the hold of that sum in a sandbox is worth. -/
noncomputable def Try.pinned : Pinned := { name := "ytiodjhcjfbnocaa", sum := "03ad901533267c056b046f9c8927350f4d045dee75e1eff1061b15c388fe9a45", checked := Try.checked }
namespace Rows
def none {H : Type} : Left H := { results := [], args := [] }

/-- 'propylonlaw19.SizeAdds': WHATEVER THE INPUT: true; the input reads as it did. -/
def sizeAddsSpec : ChangeSpec := { name := "sizeAdds", fn := fun _ => fun
  | [d1, d2] => { results := [.lit (.bool true)], args := [d1, d2] }
  | _ => none }
def sizeAddsRow : OpenClaim := { program := "ytiodjhcjfbnocaa", sum := "03ad901533267c056b046f9c8927350f4d045dee75e1eff1061b15c388fe9a45", func := "propylon/propylonlaw19.SizeAdds", spec := "sizeAdds", recurses := true, loops := true, apart := false }
def SizeAddsSaid : Prop := sizeAddsRow.holds Try.pinned (OpenSpec.ofChange sizeAddsSpec)

/-- ITS FALSE NEIGHBOUR: 'it returns false'. Refute it at one input. -/
def sizeAddsWrong : ChangeSpec := { name := "sizeAdds", fn := fun _ => fun
  | [d1, d2] => { results := [.lit (.bool false)], args := [d1, d2] }
  | _ => none }
def SizeAddsWrongFalsely : Prop := sizeAddsRow.holds Try.pinned (OpenSpec.ofChange sizeAddsWrong)

/-- 'propylonlaw18.PathAll': WHATEVER THE INPUT: true; the input reads as it did. -/
def pathAllSpec : ChangeSpec := { name := "pathAll", fn := fun _ => fun
  | [d] => { results := [.lit (.bool true)], args := [d] }
  | _ => none }
def pathAllRow : OpenClaim := { program := "ytiodjhcjfbnocaa", sum := "03ad901533267c056b046f9c8927350f4d045dee75e1eff1061b15c388fe9a45", func := "propylon/propylonlaw18.PathAll", spec := "pathAll", recurses := true, loops := true, apart := false }
def PathAllSaid : Prop := pathAllRow.holds Try.pinned (OpenSpec.ofChange pathAllSpec)

/-- ITS FALSE NEIGHBOUR: 'it returns false'. Refute it at one input. -/
def pathAllWrong : ChangeSpec := { name := "pathAll", fn := fun _ => fun
  | [d] => { results := [.lit (.bool false)], args := [d] }
  | _ => none }
def PathAllWrongFalsely : Prop := pathAllRow.holds Try.pinned (OpenSpec.ofChange pathAllWrong)

/-- 'propylonlaw18.PathGets': WHATEVER THE INPUT: true; the input reads as it did. -/
def pathGetsSpec : ChangeSpec := { name := "pathGets", fn := fun _ => fun
  | [d1, d2] => { results := [.lit (.bool true)], args := [d1, d2] }
  | _ => none }
def pathGetsRow : OpenClaim := { program := "ytiodjhcjfbnocaa", sum := "03ad901533267c056b046f9c8927350f4d045dee75e1eff1061b15c388fe9a45", func := "propylon/propylonlaw18.PathGets", spec := "pathGets", recurses := true, loops := true, apart := false }
def PathGetsSaid : Prop := pathGetsRow.holds Try.pinned (OpenSpec.ofChange pathGetsSpec)

/-- ITS FALSE NEIGHBOUR: 'it returns false'. Refute it at one input. -/
def pathGetsWrong : ChangeSpec := { name := "pathGets", fn := fun _ => fun
  | [d1, d2] => { results := [.lit (.bool false)], args := [d1, d2] }
  | _ => none }
def PathGetsWrongFalsely : Prop := pathGetsRow.holds Try.pinned (OpenSpec.ofChange pathGetsWrong)

/-- 'propylonlaw19.SizeFits': WHATEVER THE INPUT: true; the input reads as it did. -/
def sizeFitsSpec : ChangeSpec := { name := "sizeFits", fn := fun _ => fun
  | [d1, d2] => { results := [.lit (.bool true)], args := [d1, d2] }
  | _ => none }
def sizeFitsRow : OpenClaim := { program := "ytiodjhcjfbnocaa", sum := "03ad901533267c056b046f9c8927350f4d045dee75e1eff1061b15c388fe9a45", func := "propylon/propylonlaw19.SizeFits", spec := "sizeFits", recurses := true, loops := true, apart := false }
def SizeFitsSaid : Prop := sizeFitsRow.holds Try.pinned (OpenSpec.ofChange sizeFitsSpec)

/-- ITS FALSE NEIGHBOUR: 'it returns false'. Refute it at one input. -/
def sizeFitsWrong : ChangeSpec := { name := "sizeFits", fn := fun _ => fun
  | [d1, d2] => { results := [.lit (.bool false)], args := [d1, d2] }
  | _ => none }
def SizeFitsWrongFalsely : Prop := sizeFitsRow.holds Try.pinned (OpenSpec.ofChange sizeFitsWrong)

/-- 'propylonlaw19.SizeEdges': WHATEVER THE INPUT: true; the input reads as it did. -/
def sizeEdgesSpec : ChangeSpec := { name := "sizeEdges", fn := fun _ => fun
  | [d] => { results := [.lit (.bool true)], args := [d] }
  | _ => none }
def sizeEdgesRow : OpenClaim := { program := "ytiodjhcjfbnocaa", sum := "03ad901533267c056b046f9c8927350f4d045dee75e1eff1061b15c388fe9a45", func := "propylon/propylonlaw19.SizeEdges", spec := "sizeEdges", recurses := true, loops := true, apart := false }
def SizeEdgesSaid : Prop := sizeEdgesRow.holds Try.pinned (OpenSpec.ofChange sizeEdgesSpec)

/-- ITS FALSE NEIGHBOUR: 'it returns false'. Refute it at one input. -/
def sizeEdgesWrong : ChangeSpec := { name := "sizeEdges", fn := fun _ => fun
  | [d] => { results := [.lit (.bool false)], args := [d] }
  | _ => none }
def SizeEdgesWrongFalsely : Prop := sizeEdgesRow.holds Try.pinned (OpenSpec.ofChange sizeEdgesWrong)

/-- 'propylonlaw18.PathDiffs': WHATEVER THE INPUT: true; the input reads as it did. -/
def pathDiffsSpec : ChangeSpec := { name := "pathDiffs", fn := fun _ => fun
  | [d1, d2] => { results := [.lit (.bool true)], args := [d1, d2] }
  | _ => none }
def pathDiffsRow : OpenClaim := { program := "ytiodjhcjfbnocaa", sum := "03ad901533267c056b046f9c8927350f4d045dee75e1eff1061b15c388fe9a45", func := "propylon/propylonlaw18.PathDiffs", spec := "pathDiffs", recurses := true, loops := true, apart := false }
def PathDiffsSaid : Prop := pathDiffsRow.holds Try.pinned (OpenSpec.ofChange pathDiffsSpec)

/-- ITS FALSE NEIGHBOUR: 'it returns false'. Refute it at one input. -/
def pathDiffsWrong : ChangeSpec := { name := "pathDiffs", fn := fun _ => fun
  | [d1, d2] => { results := [.lit (.bool false)], args := [d1, d2] }
  | _ => none }
def PathDiffsWrongFalsely : Prop := pathDiffsRow.holds Try.pinned (OpenSpec.ofChange pathDiffsWrong)

/-- 'propylonlaw18.PathOne': WHATEVER THE INPUT: true; the input reads as it did. -/
def pathOneSpec : ChangeSpec := { name := "pathOne", fn := fun _ => fun
  | [d1, d2] => { results := [.lit (.bool true)], args := [d1, d2] }
  | _ => none }
def pathOneRow : OpenClaim := { program := "ytiodjhcjfbnocaa", sum := "03ad901533267c056b046f9c8927350f4d045dee75e1eff1061b15c388fe9a45", func := "propylon/propylonlaw18.PathOne", spec := "pathOne", recurses := true, loops := true, apart := false }
def PathOneSaid : Prop := pathOneRow.holds Try.pinned (OpenSpec.ofChange pathOneSpec)

/-- ITS FALSE NEIGHBOUR: 'it returns false'. Refute it at one input. -/
def pathOneWrong : ChangeSpec := { name := "pathOne", fn := fun _ => fun
  | [d1, d2] => { results := [.lit (.bool false)], args := [d1, d2] }
  | _ => none }
def PathOneWrongFalsely : Prop := pathOneRow.holds Try.pinned (OpenSpec.ofChange pathOneWrong)

/- THE SECOND FORM. 'bulk': how many values and letters a reading holds, each counted each time it is reached (what is shared counts as often as it is met; a slice's spare places count too). A statement '..UptoSaid' is the law's where the arguments, and the package variables that the reading takes, are together of bulk at most 1048576: NARROWER than '..Said'. Prove '..Said' where nothing that the law and all that it calls make is longer than what came in: it says more and counts as full. Else prove '..UptoSaid'. A law counts once. -/
mutual
def uptoBulk {H : Type} : DataW H → Nat
  | .lit (.string bytes) => bytes.length + 1
  | .lit _ => 1
  | .nil => 1
  | .ptr d => uptoBulk d + 1
  | .slice elems spare => uptoBulkAll elems + uptoBulkAll spare + 1
  | .agg parts => uptoBulkAll parts + 1
  | .iface _ d => uptoBulk d + 1
  | .map entries => uptoBulkEntries entries + 1
  | .held _ => 1
def uptoBulkAll {H : Type} : List (DataW H) → Nat
  | [] => 0
  | d :: r => uptoBulk d + uptoBulkAll r
def uptoBulkEntries {H : Type} : List (Lit × DataW H) → Nat
  | [] => 0
  | x :: r => uptoBulkEntry x + uptoBulkEntries r
def uptoBulkEntry {H : Type} : Lit × DataW H → Nat
  | (.string bytes, d) => bytes.length + uptoBulk d + 1
  | (_, d) => uptoBulk d + 1
 end
def uptoSmall : (H : Type) → List (DataW H) → Bool := fun _ ds => decide (uptoBulkAll ds ≤ 1048576)
def OpenSpec.upto (s : _root_.Go.ChangeSpec) : _root_.Go.OpenSpec := { _root_.Go.OpenSpec.ofChange s with cond := some uptoSmall }

/-- 'propylonlaw19.SizeAdds', WHERE WHAT IT READS IS OF BULK AT MOST 1048576: true; the input reads as it did. -/
def sizeAddsUptoRow : OpenClaim := { program := "ytiodjhcjfbnocaa", sum := "03ad901533267c056b046f9c8927350f4d045dee75e1eff1061b15c388fe9a45", func := "propylon/propylonlaw19.SizeAdds", spec := "sizeAdds", recurses := true, loops := true, apart := false, narrowed := true }
def SizeAddsUptoSaid : Prop := sizeAddsUptoRow.holds Try.pinned (OpenSpec.upto sizeAddsSpec)

/-- 'propylonlaw18.PathAll', WHERE WHAT IT READS IS OF BULK AT MOST 1048576: true; the input reads as it did. -/
def pathAllUptoRow : OpenClaim := { program := "ytiodjhcjfbnocaa", sum := "03ad901533267c056b046f9c8927350f4d045dee75e1eff1061b15c388fe9a45", func := "propylon/propylonlaw18.PathAll", spec := "pathAll", recurses := true, loops := true, apart := false, narrowed := true }
def PathAllUptoSaid : Prop := pathAllUptoRow.holds Try.pinned (OpenSpec.upto pathAllSpec)

/-- 'propylonlaw18.PathGets', WHERE WHAT IT READS IS OF BULK AT MOST 1048576: true; the input reads as it did. -/
def pathGetsUptoRow : OpenClaim := { program := "ytiodjhcjfbnocaa", sum := "03ad901533267c056b046f9c8927350f4d045dee75e1eff1061b15c388fe9a45", func := "propylon/propylonlaw18.PathGets", spec := "pathGets", recurses := true, loops := true, apart := false, narrowed := true }
def PathGetsUptoSaid : Prop := pathGetsUptoRow.holds Try.pinned (OpenSpec.upto pathGetsSpec)

/-- 'propylonlaw19.SizeFits', WHERE WHAT IT READS IS OF BULK AT MOST 1048576: true; the input reads as it did. -/
def sizeFitsUptoRow : OpenClaim := { program := "ytiodjhcjfbnocaa", sum := "03ad901533267c056b046f9c8927350f4d045dee75e1eff1061b15c388fe9a45", func := "propylon/propylonlaw19.SizeFits", spec := "sizeFits", recurses := true, loops := true, apart := false, narrowed := true }
def SizeFitsUptoSaid : Prop := sizeFitsUptoRow.holds Try.pinned (OpenSpec.upto sizeFitsSpec)

/-- 'propylonlaw19.SizeEdges', WHERE WHAT IT READS IS OF BULK AT MOST 1048576: true; the input reads as it did. -/
def sizeEdgesUptoRow : OpenClaim := { program := "ytiodjhcjfbnocaa", sum := "03ad901533267c056b046f9c8927350f4d045dee75e1eff1061b15c388fe9a45", func := "propylon/propylonlaw19.SizeEdges", spec := "sizeEdges", recurses := true, loops := true, apart := false, narrowed := true }
def SizeEdgesUptoSaid : Prop := sizeEdgesUptoRow.holds Try.pinned (OpenSpec.upto sizeEdgesSpec)

/-- 'propylonlaw18.PathDiffs', WHERE WHAT IT READS IS OF BULK AT MOST 1048576: true; the input reads as it did. -/
def pathDiffsUptoRow : OpenClaim := { program := "ytiodjhcjfbnocaa", sum := "03ad901533267c056b046f9c8927350f4d045dee75e1eff1061b15c388fe9a45", func := "propylon/propylonlaw18.PathDiffs", spec := "pathDiffs", recurses := true, loops := true, apart := false, narrowed := true }
def PathDiffsUptoSaid : Prop := pathDiffsUptoRow.holds Try.pinned (OpenSpec.upto pathDiffsSpec)

/-- 'propylonlaw18.PathOne', WHERE WHAT IT READS IS OF BULK AT MOST 1048576: true; the input reads as it did. -/
def pathOneUptoRow : OpenClaim := { program := "ytiodjhcjfbnocaa", sum := "03ad901533267c056b046f9c8927350f4d045dee75e1eff1061b15c388fe9a45", func := "propylon/propylonlaw18.PathOne", spec := "pathOne", recurses := true, loops := true, apart := false, narrowed := true }
def PathOneUptoSaid : Prop := pathOneUptoRow.holds Try.pinned (OpenSpec.upto pathOneSpec)

end Rows
end Go.Proofs.Ytiodjhcjfbnocaa
