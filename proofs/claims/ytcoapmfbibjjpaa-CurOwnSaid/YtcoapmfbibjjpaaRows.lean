/-
  NARROWER THAN 'FOR EVERY INPUT', by the rows' own cells (each row's printed sentence says how): SizeTells: loops · SizeAdds: loops · PathAll: loops · PathGets: loops.
  DERIVED. THE GIVEN ROWS OF THIS SEAT. 12 by the template 'for every input the law returns true; each argument reads behind the call as it read before'; 0 by the template 'total and deterministic' (their statements: YtcoapmfbibjjpaaTotals.lean).
  GIVEN WITH THE SEED: the statements are not yours to turn. If you find one false, say at which input.
  Laid BY PROGRAM, IN A SANDBOX (cutbox-rows.mjs): the forced cells as the released guide's own fill.sh prints them over the translation a01e26de5881f3d6… (all of the seat's roots in one cut). By AI agents, Wed Nov 11 2026. No macro, syntax, notation, axiom, sorry.
-/
import Derived.Test.YtcoapmfbibjjpaaChecked
import GoSem.Claim
import GoSem.ClaimJoined
import GoSem.ClaimMapViews
import Derived.JoinedTies
import Derived.KernelRfl
namespace Go.Proofs.Ytcoapmfbibjjpaa
/- THE CELL 'sum', in the pinned program and in every row, IS THE sha256 OF THE DUMP (.gsa) THAT YtcoapmfbibjjpaaProg.lean LOADS. Nothing in Lean hashes anything: it is a label: what it is worth is what the hold of that sum in a sandbox is worth. -/
noncomputable def Try.pinned : Pinned := { name := "ytcoapmfbibjjpaa", sum := "a01e26de5881f3d6e39e9259397d085241fa69dba8e00dbbcc6da98d5d7a95b0", checked := Try.checked }
namespace Rows
def none {H : Type} : Left H := { results := [], args := [] }

/-- 'propylonlaw34.FramesLengths': WHATEVER THE INPUT: true; the input reads as it did. -/
def framesLengthsSpec : ChangeSpec := { name := "framesLengths", fn := fun _ => fun
  | [d1, d2] => { results := [.lit (.bool true)], args := [d1, d2] }
  | _ => none }
def framesLengthsRow : OpenClaim := { program := "ytcoapmfbibjjpaa", sum := "a01e26de5881f3d6e39e9259397d085241fa69dba8e00dbbcc6da98d5d7a95b0", func := "propylon/propylonlaw34.FramesLengths", spec := "framesLengths", apart := false }
def FramesLengthsSaid : Prop := framesLengthsRow.holds Try.pinned (OpenSpec.ofChange framesLengthsSpec)

/-- ITS FALSE NEIGHBOUR: 'it returns false'. Refute it at one input. -/
def framesLengthsWrong : ChangeSpec := { name := "framesLengths", fn := fun _ => fun
  | [d1, d2] => { results := [.lit (.bool false)], args := [d1, d2] }
  | _ => none }
def FramesLengthsWrongFalsely : Prop := framesLengthsRow.holds Try.pinned (OpenSpec.ofChange framesLengthsWrong)

/-- 'propylonlaw34.FramesCuts': WHATEVER THE INPUT: true; the input reads as it did. -/
def framesCutsSpec : ChangeSpec := { name := "framesCuts", fn := fun _ => fun
  | [d1, d2] => { results := [.lit (.bool true)], args := [d1, d2] }
  | _ => none }
def framesCutsRow : OpenClaim := { program := "ytcoapmfbibjjpaa", sum := "a01e26de5881f3d6e39e9259397d085241fa69dba8e00dbbcc6da98d5d7a95b0", func := "propylon/propylonlaw34.FramesCuts", spec := "framesCuts", apart := false }
def FramesCutsSaid : Prop := framesCutsRow.holds Try.pinned (OpenSpec.ofChange framesCutsSpec)

/-- ITS FALSE NEIGHBOUR: 'it returns false'. Refute it at one input. -/
def framesCutsWrong : ChangeSpec := { name := "framesCuts", fn := fun _ => fun
  | [d1, d2] => { results := [.lit (.bool false)], args := [d1, d2] }
  | _ => none }
def FramesCutsWrongFalsely : Prop := framesCutsRow.holds Try.pinned (OpenSpec.ofChange framesCutsWrong)

/-- 'propylonlaw34.FramesRow': WHATEVER THE INPUT: true; the input reads as it did. -/
def framesRowSpec : ChangeSpec := { name := "framesRow", fn := fun _ => fun
  | [d1, d2] => { results := [.lit (.bool true)], args := [d1, d2] }
  | _ => none }
def framesRowRow : OpenClaim := { program := "ytcoapmfbibjjpaa", sum := "a01e26de5881f3d6e39e9259397d085241fa69dba8e00dbbcc6da98d5d7a95b0", func := "propylon/propylonlaw34.FramesRow", spec := "framesRow", apart := false }
def FramesRowSaid : Prop := framesRowRow.holds Try.pinned (OpenSpec.ofChange framesRowSpec)

/-- ITS FALSE NEIGHBOUR: 'it returns false'. Refute it at one input. -/
def framesRowWrong : ChangeSpec := { name := "framesRow", fn := fun _ => fun
  | [d1, d2] => { results := [.lit (.bool false)], args := [d1, d2] }
  | _ => none }
def FramesRowWrongFalsely : Prop := framesRowRow.holds Try.pinned (OpenSpec.ofChange framesRowWrong)

/-- 'propylonlaw34.FramesJoin': WHATEVER THE INPUT: true; the input reads as it did. -/
def framesJoinSpec : ChangeSpec := { name := "framesJoin", fn := fun _ => fun
  | [d1, d2] => { results := [.lit (.bool true)], args := [d1, d2] }
  | _ => none }
def framesJoinRow : OpenClaim := { program := "ytcoapmfbibjjpaa", sum := "a01e26de5881f3d6e39e9259397d085241fa69dba8e00dbbcc6da98d5d7a95b0", func := "propylon/propylonlaw34.FramesJoin", spec := "framesJoin", apart := false }
def FramesJoinSaid : Prop := framesJoinRow.holds Try.pinned (OpenSpec.ofChange framesJoinSpec)

/-- ITS FALSE NEIGHBOUR: 'it returns false'. Refute it at one input. -/
def framesJoinWrong : ChangeSpec := { name := "framesJoin", fn := fun _ => fun
  | [d1, d2] => { results := [.lit (.bool false)], args := [d1, d2] }
  | _ => none }
def FramesJoinWrongFalsely : Prop := framesJoinRow.holds Try.pinned (OpenSpec.ofChange framesJoinWrong)

/-- 'propylonlaw19.SizeTells': WHATEVER THE INPUT: true; the input reads as it did. -/
def sizeTellsSpec : ChangeSpec := { name := "sizeTells", fn := fun _ => fun
  | [d] => { results := [.lit (.bool true)], args := [d] }
  | _ => none }
def sizeTellsRow : OpenClaim := { program := "ytcoapmfbibjjpaa", sum := "a01e26de5881f3d6e39e9259397d085241fa69dba8e00dbbcc6da98d5d7a95b0", func := "propylon/propylonlaw19.SizeTells", spec := "sizeTells", recurses := true, loops := true, apart := false }
def SizeTellsSaid : Prop := sizeTellsRow.holds Try.pinned (OpenSpec.ofChange sizeTellsSpec)

/-- ITS FALSE NEIGHBOUR: 'it returns false'. Refute it at one input. -/
def sizeTellsWrong : ChangeSpec := { name := "sizeTells", fn := fun _ => fun
  | [d] => { results := [.lit (.bool false)], args := [d] }
  | _ => none }
def SizeTellsWrongFalsely : Prop := sizeTellsRow.holds Try.pinned (OpenSpec.ofChange sizeTellsWrong)

/-- 'propylonlaw19.SizeAdds': WHATEVER THE INPUT: true; the input reads as it did. -/
def sizeAddsSpec : ChangeSpec := { name := "sizeAdds", fn := fun _ => fun
  | [d1, d2] => { results := [.lit (.bool true)], args := [d1, d2] }
  | _ => none }
def sizeAddsRow : OpenClaim := { program := "ytcoapmfbibjjpaa", sum := "a01e26de5881f3d6e39e9259397d085241fa69dba8e00dbbcc6da98d5d7a95b0", func := "propylon/propylonlaw19.SizeAdds", spec := "sizeAdds", recurses := true, loops := true, apart := false }
def SizeAddsSaid : Prop := sizeAddsRow.holds Try.pinned (OpenSpec.ofChange sizeAddsSpec)

/-- ITS FALSE NEIGHBOUR: 'it returns false'. Refute it at one input. -/
def sizeAddsWrong : ChangeSpec := { name := "sizeAdds", fn := fun _ => fun
  | [d1, d2] => { results := [.lit (.bool false)], args := [d1, d2] }
  | _ => none }
def SizeAddsWrongFalsely : Prop := sizeAddsRow.holds Try.pinned (OpenSpec.ofChange sizeAddsWrong)

/-- 'propylonlaw18.PathAll': WHATEVER THE INPUT: true; the input reads as it did. -/
def pathAllSpec : ChangeSpec := { name := "pathAll", fn := fun _ => fun
  | [d] => { results := [.lit (.bool true)], args := [d] }
  | _ => none }
def pathAllRow : OpenClaim := { program := "ytcoapmfbibjjpaa", sum := "a01e26de5881f3d6e39e9259397d085241fa69dba8e00dbbcc6da98d5d7a95b0", func := "propylon/propylonlaw18.PathAll", spec := "pathAll", recurses := true, loops := true, apart := false }
def PathAllSaid : Prop := pathAllRow.holds Try.pinned (OpenSpec.ofChange pathAllSpec)

/-- ITS FALSE NEIGHBOUR: 'it returns false'. Refute it at one input. -/
def pathAllWrong : ChangeSpec := { name := "pathAll", fn := fun _ => fun
  | [d] => { results := [.lit (.bool false)], args := [d] }
  | _ => none }
def PathAllWrongFalsely : Prop := pathAllRow.holds Try.pinned (OpenSpec.ofChange pathAllWrong)

/-- 'propylonlaw18.PathGets': WHATEVER THE INPUT: true; the input reads as it did. -/
def pathGetsSpec : ChangeSpec := { name := "pathGets", fn := fun _ => fun
  | [d1, d2] => { results := [.lit (.bool true)], args := [d1, d2] }
  | _ => none }
def pathGetsRow : OpenClaim := { program := "ytcoapmfbibjjpaa", sum := "a01e26de5881f3d6e39e9259397d085241fa69dba8e00dbbcc6da98d5d7a95b0", func := "propylon/propylonlaw18.PathGets", spec := "pathGets", recurses := true, loops := true, apart := false }
def PathGetsSaid : Prop := pathGetsRow.holds Try.pinned (OpenSpec.ofChange pathGetsSpec)

/-- ITS FALSE NEIGHBOUR: 'it returns false'. Refute it at one input. -/
def pathGetsWrong : ChangeSpec := { name := "pathGets", fn := fun _ => fun
  | [d1, d2] => { results := [.lit (.bool false)], args := [d1, d2] }
  | _ => none }
def PathGetsWrongFalsely : Prop := pathGetsRow.holds Try.pinned (OpenSpec.ofChange pathGetsWrong)

/-- 'propylonlaw1.CurBack': WHATEVER THE INPUT: true; the input reads as it did. -/
def curBackSpec : ChangeSpec := { name := "curBack", fn := fun _ => fun
  | [d1, d2] => { results := [.lit (.bool true)], args := [d1, d2] }
  | _ => none }
def curBackRow : OpenClaim := { program := "ytcoapmfbibjjpaa", sum := "a01e26de5881f3d6e39e9259397d085241fa69dba8e00dbbcc6da98d5d7a95b0", func := "propylon/propylonlaw1.CurBack", spec := "curBack", apart := false }
def CurBackSaid : Prop := curBackRow.holds Try.pinned (OpenSpec.ofChange curBackSpec)

/-- ITS FALSE NEIGHBOUR: 'it returns false'. Refute it at one input. -/
def curBackWrong : ChangeSpec := { name := "curBack", fn := fun _ => fun
  | [d1, d2] => { results := [.lit (.bool false)], args := [d1, d2] }
  | _ => none }
def CurBackWrongFalsely : Prop := curBackRow.holds Try.pinned (OpenSpec.ofChange curBackWrong)

/-- 'propylonlaw1.CurOwn': WHATEVER THE INPUT: true; the input reads as it did. -/
def curOwnSpec : ChangeSpec := { name := "curOwn", fn := fun _ => fun
  | [d1, d2] => { results := [.lit (.bool true)], args := [d1, d2] }
  | _ => none }
def curOwnRow : OpenClaim := { program := "ytcoapmfbibjjpaa", sum := "a01e26de5881f3d6e39e9259397d085241fa69dba8e00dbbcc6da98d5d7a95b0", func := "propylon/propylonlaw1.CurOwn", spec := "curOwn", apart := false }
def CurOwnSaid : Prop := curOwnRow.holds Try.pinned (OpenSpec.ofChange curOwnSpec)

/-- ITS FALSE NEIGHBOUR: 'it returns false'. Refute it at one input. -/
def curOwnWrong : ChangeSpec := { name := "curOwn", fn := fun _ => fun
  | [d1, d2] => { results := [.lit (.bool false)], args := [d1, d2] }
  | _ => none }
def CurOwnWrongFalsely : Prop := curOwnRow.holds Try.pinned (OpenSpec.ofChange curOwnWrong)

/-- 'propylonlaw1.CurReads': WHATEVER THE INPUT: true; the input reads as it did. -/
def curReadsSpec : ChangeSpec := { name := "curReads", fn := fun _ => fun
  | [d1, d2] => { results := [.lit (.bool true)], args := [d1, d2] }
  | _ => none }
def curReadsRow : OpenClaim := { program := "ytcoapmfbibjjpaa", sum := "a01e26de5881f3d6e39e9259397d085241fa69dba8e00dbbcc6da98d5d7a95b0", func := "propylon/propylonlaw1.CurReads", spec := "curReads", apart := false }
def CurReadsSaid : Prop := curReadsRow.holds Try.pinned (OpenSpec.ofChange curReadsSpec)

/-- ITS FALSE NEIGHBOUR: 'it returns false'. Refute it at one input. -/
def curReadsWrong : ChangeSpec := { name := "curReads", fn := fun _ => fun
  | [d1, d2] => { results := [.lit (.bool false)], args := [d1, d2] }
  | _ => none }
def CurReadsWrongFalsely : Prop := curReadsRow.holds Try.pinned (OpenSpec.ofChange curReadsWrong)

/-- 'propylonlaw1.CurWrites': WHATEVER THE INPUT: true; the input reads as it did. -/
def curWritesSpec : ChangeSpec := { name := "curWrites", fn := fun _ => fun
  | [d] => { results := [.lit (.bool true)], args := [d] }
  | _ => none }
def curWritesRow : OpenClaim := { program := "ytcoapmfbibjjpaa", sum := "a01e26de5881f3d6e39e9259397d085241fa69dba8e00dbbcc6da98d5d7a95b0", func := "propylon/propylonlaw1.CurWrites", spec := "curWrites", apart := false }
def CurWritesSaid : Prop := curWritesRow.holds Try.pinned (OpenSpec.ofChange curWritesSpec)

/-- ITS FALSE NEIGHBOUR: 'it returns false'. Refute it at one input. -/
def curWritesWrong : ChangeSpec := { name := "curWrites", fn := fun _ => fun
  | [d] => { results := [.lit (.bool false)], args := [d] }
  | _ => none }
def CurWritesWrongFalsely : Prop := curWritesRow.holds Try.pinned (OpenSpec.ofChange curWritesWrong)

/- THE SECOND FORM. 'bulk': how many values and letters a reading holds, each counted each time it is reached (what is shared counts as often as it is met; a slice's spare places count too). A statement '..UptoSaid' is the law's where the arguments, and the package variables that the reading takes, are together of bulk at most 1048576: NARROWER than '..Said'. Prove '..Said' where nothing that the law and all that it calls make is longer than what came in: it says more and counts as full. Else prove '..UptoSaid'. A law counts once. -/
mutual
def uptoBulk {H : Type} : DataW H → Nat
  | .lit (.string bytes) => bytes.length + 1
  | .lit _ => 1
  | .nil => 1
  | .ptr d => uptoBulk d + 1
  | .slice elems spare => uptoBulkAll elems + uptoBulkAll spare + 1
  | .agg parts => uptoBulkAll parts + 1
  | .iface _ d => uptoBulk d + 1
  | .map entries => uptoBulkEntries entries + 1
  | .held _ => 1
def uptoBulkAll {H : Type} : List (DataW H) → Nat
  | [] => 0
  | d :: r => uptoBulk d + uptoBulkAll r
def uptoBulkEntries {H : Type} : List (Lit × DataW H) → Nat
  | [] => 0
  | x :: r => uptoBulkEntry x + uptoBulkEntries r
def uptoBulkEntry {H : Type} : Lit × DataW H → Nat
  | (.string bytes, d) => bytes.length + uptoBulk d + 1
  | (_, d) => uptoBulk d + 1
 end
def uptoSmall : (H : Type) → List (DataW H) → Bool := fun _ ds => decide (uptoBulkAll ds ≤ 1048576)
def OpenSpec.upto (s : _root_.Go.ChangeSpec) : _root_.Go.OpenSpec := { _root_.Go.OpenSpec.ofChange s with cond := some uptoSmall }

/-- 'propylonlaw34.FramesLengths', WHERE WHAT IT READS IS OF BULK AT MOST 1048576: true; the input reads as it did. -/
def framesLengthsUptoRow : OpenClaim := { program := "ytcoapmfbibjjpaa", sum := "a01e26de5881f3d6e39e9259397d085241fa69dba8e00dbbcc6da98d5d7a95b0", func := "propylon/propylonlaw34.FramesLengths", spec := "framesLengths", apart := false, narrowed := true }
def FramesLengthsUptoSaid : Prop := framesLengthsUptoRow.holds Try.pinned (OpenSpec.upto framesLengthsSpec)

/-- 'propylonlaw34.FramesCuts', WHERE WHAT IT READS IS OF BULK AT MOST 1048576: true; the input reads as it did. -/
def framesCutsUptoRow : OpenClaim := { program := "ytcoapmfbibjjpaa", sum := "a01e26de5881f3d6e39e9259397d085241fa69dba8e00dbbcc6da98d5d7a95b0", func := "propylon/propylonlaw34.FramesCuts", spec := "framesCuts", apart := false, narrowed := true }
def FramesCutsUptoSaid : Prop := framesCutsUptoRow.holds Try.pinned (OpenSpec.upto framesCutsSpec)

/-- 'propylonlaw34.FramesRow', WHERE WHAT IT READS IS OF BULK AT MOST 1048576: true; the input reads as it did. -/
def framesRowUptoRow : OpenClaim := { program := "ytcoapmfbibjjpaa", sum := "a01e26de5881f3d6e39e9259397d085241fa69dba8e00dbbcc6da98d5d7a95b0", func := "propylon/propylonlaw34.FramesRow", spec := "framesRow", apart := false, narrowed := true }
def FramesRowUptoSaid : Prop := framesRowUptoRow.holds Try.pinned (OpenSpec.upto framesRowSpec)

/-- 'propylonlaw34.FramesJoin', WHERE WHAT IT READS IS OF BULK AT MOST 1048576: true; the input reads as it did. -/
def framesJoinUptoRow : OpenClaim := { program := "ytcoapmfbibjjpaa", sum := "a01e26de5881f3d6e39e9259397d085241fa69dba8e00dbbcc6da98d5d7a95b0", func := "propylon/propylonlaw34.FramesJoin", spec := "framesJoin", apart := false, narrowed := true }
def FramesJoinUptoSaid : Prop := framesJoinUptoRow.holds Try.pinned (OpenSpec.upto framesJoinSpec)

/-- 'propylonlaw19.SizeTells', WHERE WHAT IT READS IS OF BULK AT MOST 1048576: true; the input reads as it did. -/
def sizeTellsUptoRow : OpenClaim := { program := "ytcoapmfbibjjpaa", sum := "a01e26de5881f3d6e39e9259397d085241fa69dba8e00dbbcc6da98d5d7a95b0", func := "propylon/propylonlaw19.SizeTells", spec := "sizeTells", recurses := true, loops := true, apart := false, narrowed := true }
def SizeTellsUptoSaid : Prop := sizeTellsUptoRow.holds Try.pinned (OpenSpec.upto sizeTellsSpec)

/-- 'propylonlaw19.SizeAdds', WHERE WHAT IT READS IS OF BULK AT MOST 1048576: true; the input reads as it did. -/
def sizeAddsUptoRow : OpenClaim := { program := "ytcoapmfbibjjpaa", sum := "a01e26de5881f3d6e39e9259397d085241fa69dba8e00dbbcc6da98d5d7a95b0", func := "propylon/propylonlaw19.SizeAdds", spec := "sizeAdds", recurses := true, loops := true, apart := false, narrowed := true }
def SizeAddsUptoSaid : Prop := sizeAddsUptoRow.holds Try.pinned (OpenSpec.upto sizeAddsSpec)

/-- 'propylonlaw18.PathAll', WHERE WHAT IT READS IS OF BULK AT MOST 1048576: true; the input reads as it did. -/
def pathAllUptoRow : OpenClaim := { program := "ytcoapmfbibjjpaa", sum := "a01e26de5881f3d6e39e9259397d085241fa69dba8e00dbbcc6da98d5d7a95b0", func := "propylon/propylonlaw18.PathAll", spec := "pathAll", recurses := true, loops := true, apart := false, narrowed := true }
def PathAllUptoSaid : Prop := pathAllUptoRow.holds Try.pinned (OpenSpec.upto pathAllSpec)

/-- 'propylonlaw18.PathGets', WHERE WHAT IT READS IS OF BULK AT MOST 1048576: true; the input reads as it did. -/
def pathGetsUptoRow : OpenClaim := { program := "ytcoapmfbibjjpaa", sum := "a01e26de5881f3d6e39e9259397d085241fa69dba8e00dbbcc6da98d5d7a95b0", func := "propylon/propylonlaw18.PathGets", spec := "pathGets", recurses := true, loops := true, apart := false, narrowed := true }
def PathGetsUptoSaid : Prop := pathGetsUptoRow.holds Try.pinned (OpenSpec.upto pathGetsSpec)

/-- 'propylonlaw1.CurBack', WHERE WHAT IT READS IS OF BULK AT MOST 1048576: true; the input reads as it did. -/
def curBackUptoRow : OpenClaim := { program := "ytcoapmfbibjjpaa", sum := "a01e26de5881f3d6e39e9259397d085241fa69dba8e00dbbcc6da98d5d7a95b0", func := "propylon/propylonlaw1.CurBack", spec := "curBack", apart := false, narrowed := true }
def CurBackUptoSaid : Prop := curBackUptoRow.holds Try.pinned (OpenSpec.upto curBackSpec)

/-- 'propylonlaw1.CurOwn', WHERE WHAT IT READS IS OF BULK AT MOST 1048576: true; the input reads as it did. -/
def curOwnUptoRow : OpenClaim := { program := "ytcoapmfbibjjpaa", sum := "a01e26de5881f3d6e39e9259397d085241fa69dba8e00dbbcc6da98d5d7a95b0", func := "propylon/propylonlaw1.CurOwn", spec := "curOwn", apart := false, narrowed := true }
def CurOwnUptoSaid : Prop := curOwnUptoRow.holds Try.pinned (OpenSpec.upto curOwnSpec)

/-- 'propylonlaw1.CurReads', WHERE WHAT IT READS IS OF BULK AT MOST 1048576: true; the input reads as it did. -/
def curReadsUptoRow : OpenClaim := { program := "ytcoapmfbibjjpaa", sum := "a01e26de5881f3d6e39e9259397d085241fa69dba8e00dbbcc6da98d5d7a95b0", func := "propylon/propylonlaw1.CurReads", spec := "curReads", apart := false, narrowed := true }
def CurReadsUptoSaid : Prop := curReadsUptoRow.holds Try.pinned (OpenSpec.upto curReadsSpec)

/-- 'propylonlaw1.CurWrites', WHERE WHAT IT READS IS OF BULK AT MOST 1048576: true; the input reads as it did. -/
def curWritesUptoRow : OpenClaim := { program := "ytcoapmfbibjjpaa", sum := "a01e26de5881f3d6e39e9259397d085241fa69dba8e00dbbcc6da98d5d7a95b0", func := "propylon/propylonlaw1.CurWrites", spec := "curWrites", apart := false, narrowed := true }
def CurWritesUptoSaid : Prop := curWritesUptoRow.holds Try.pinned (OpenSpec.upto curWritesSpec)

end Rows
end Go.Proofs.Ytcoapmfbibjjpaa
