/-
  NARROWER THAN 'FOR EVERY INPUT', by the rows' own cells (each row's printed sentence says how): SizeFits: loops · SizeEdges: loops · PathDiffs: loops · PathOne: loops.
  DERIVED. THE GIVEN ROWS OF THIS SEAT. 12 by the template 'for every input the law returns true; each argument reads behind the call as it read before'; 0 by the template 'total and deterministic' (their statements: YtolmeimipchndaaTotals.lean).
  GIVEN WITH THE SEED: the statements are not yours to turn. If you find one false, say at which input.
  Laid BY PROGRAM, IN A SANDBOX (cutbox-rows.mjs): the forced cells as the released guide's own fill.sh prints them over the translation e0d89508e4fdefba… (all of the seat's roots in one cut). By AI agents, Wed Nov 11 2026. No macro, syntax, notation, axiom, sorry.
-/
import Derived.Test.YtolmeimipchndaaChecked
import GoSem.Claim
import GoSem.ClaimJoined
import GoSem.ClaimMapViews
import Derived.JoinedTies
import Derived.KernelRfl
namespace Go.Proofs.Ytolmeimipchndaa
/- THE CELL 'sum', in the pinned program and in every row, IS THE sha256 OF THE DUMP (.gsa) THAT YtolmeimipchndaaProg.lean LOADS. Nothing in Lean hashes anything: it is a label: what it is worth is what the hold of that sum in a sandbox is worth. -/
noncomputable def Try.pinned : Pinned := { name := "ytolmeimipchndaa", sum := "e0d89508e4fdefbae3655dc83fc9100bf652f46b214cce3d28d15f551dfaeb8a", checked := Try.checked }
namespace Rows
def none {H : Type} : Left H := { results := [], args := [] }

/-- 'propylonlaw1.CurSets': WHATEVER THE INPUT: true; the input reads as it did. -/
def curSetsSpec : ChangeSpec := { name := "curSets", fn := fun _ => fun
  | [d1, d2, d3] => { results := [.lit (.bool true)], args := [d1, d2, d3] }
  | _ => none }
def curSetsRow : OpenClaim := { program := "ytolmeimipchndaa", sum := "e0d89508e4fdefbae3655dc83fc9100bf652f46b214cce3d28d15f551dfaeb8a", func := "propylon/propylonlaw1.CurSets", spec := "curSets", apart := false }
def CurSetsSaid : Prop := curSetsRow.holds Try.pinned (OpenSpec.ofChange curSetsSpec)

/-- ITS FALSE NEIGHBOUR: 'it returns false'. Refute it at one input. -/
def curSetsWrong : ChangeSpec := { name := "curSets", fn := fun _ => fun
  | [d1, d2, d3] => { results := [.lit (.bool false)], args := [d1, d2, d3] }
  | _ => none }
def CurSetsWrongFalsely : Prop := curSetsRow.holds Try.pinned (OpenSpec.ofChange curSetsWrong)

/-- 'propylonlaw4.BaseTells': WHATEVER THE INPUT: true; the input reads as it did. -/
def baseTellsSpec : ChangeSpec := { name := "baseTells", fn := fun _ => fun
  | [d1, d2] => { results := [.lit (.bool true)], args := [d1, d2] }
  | _ => none }
def baseTellsRow : OpenClaim := { program := "ytolmeimipchndaa", sum := "e0d89508e4fdefbae3655dc83fc9100bf652f46b214cce3d28d15f551dfaeb8a", func := "propylon/propylonlaw4.BaseTells", spec := "baseTells", apart := false }
def BaseTellsSaid : Prop := baseTellsRow.holds Try.pinned (OpenSpec.ofChange baseTellsSpec)

/-- ITS FALSE NEIGHBOUR: 'it returns false'. Refute it at one input. -/
def baseTellsWrong : ChangeSpec := { name := "baseTells", fn := fun _ => fun
  | [d1, d2] => { results := [.lit (.bool false)], args := [d1, d2] }
  | _ => none }
def BaseTellsWrongFalsely : Prop := baseTellsRow.holds Try.pinned (OpenSpec.ofChange baseTellsWrong)

/-- 'propylonlaw4.BaseBack': WHATEVER THE INPUT: true; the input reads as it did. -/
def baseBackSpec : ChangeSpec := { name := "baseBack", fn := fun _ => fun
  | [d] => { results := [.lit (.bool true)], args := [d] }
  | _ => none }
def baseBackRow : OpenClaim := { program := "ytolmeimipchndaa", sum := "e0d89508e4fdefbae3655dc83fc9100bf652f46b214cce3d28d15f551dfaeb8a", func := "propylon/propylonlaw4.BaseBack", spec := "baseBack", apart := false }
def BaseBackSaid : Prop := baseBackRow.holds Try.pinned (OpenSpec.ofChange baseBackSpec)

/-- ITS FALSE NEIGHBOUR: 'it returns false'. Refute it at one input. -/
def baseBackWrong : ChangeSpec := { name := "baseBack", fn := fun _ => fun
  | [d] => { results := [.lit (.bool false)], args := [d] }
  | _ => none }
def BaseBackWrongFalsely : Prop := baseBackRow.holds Try.pinned (OpenSpec.ofChange baseBackWrong)

/-- 'propylonlaw4.BaseOne': WHATEVER THE INPUT: true; the input reads as it did. -/
def baseOneSpec : ChangeSpec := { name := "baseOne", fn := fun _ => fun
  | [d] => { results := [.lit (.bool true)], args := [d] }
  | _ => none }
def baseOneRow : OpenClaim := { program := "ytolmeimipchndaa", sum := "e0d89508e4fdefbae3655dc83fc9100bf652f46b214cce3d28d15f551dfaeb8a", func := "propylon/propylonlaw4.BaseOne", spec := "baseOne", apart := false }
def BaseOneSaid : Prop := baseOneRow.holds Try.pinned (OpenSpec.ofChange baseOneSpec)

/-- ITS FALSE NEIGHBOUR: 'it returns false'. Refute it at one input. -/
def baseOneWrong : ChangeSpec := { name := "baseOne", fn := fun _ => fun
  | [d] => { results := [.lit (.bool false)], args := [d] }
  | _ => none }
def BaseOneWrongFalsely : Prop := baseOneRow.holds Try.pinned (OpenSpec.ofChange baseOneWrong)

/-- 'propylonlaw4.BaseApart': WHATEVER THE INPUT: true; the input reads as it did. -/
def baseApartSpec : ChangeSpec := { name := "baseApart", fn := fun _ => fun
  | [d1, d2] => { results := [.lit (.bool true)], args := [d1, d2] }
  | _ => none }
def baseApartRow : OpenClaim := { program := "ytolmeimipchndaa", sum := "e0d89508e4fdefbae3655dc83fc9100bf652f46b214cce3d28d15f551dfaeb8a", func := "propylon/propylonlaw4.BaseApart", spec := "baseApart", apart := false }
def BaseApartSaid : Prop := baseApartRow.holds Try.pinned (OpenSpec.ofChange baseApartSpec)

/-- ITS FALSE NEIGHBOUR: 'it returns false'. Refute it at one input. -/
def baseApartWrong : ChangeSpec := { name := "baseApart", fn := fun _ => fun
  | [d1, d2] => { results := [.lit (.bool false)], args := [d1, d2] }
  | _ => none }
def BaseApartWrongFalsely : Prop := baseApartRow.holds Try.pinned (OpenSpec.ofChange baseApartWrong)

/-- 'propylonlaw4.BaseJoins': WHATEVER THE INPUT: true; the input reads as it did. -/
def baseJoinsSpec : ChangeSpec := { name := "baseJoins", fn := fun _ => fun
  | [d1, d2] => { results := [.lit (.bool true)], args := [d1, d2] }
  | _ => none }
def baseJoinsRow : OpenClaim := { program := "ytolmeimipchndaa", sum := "e0d89508e4fdefbae3655dc83fc9100bf652f46b214cce3d28d15f551dfaeb8a", func := "propylon/propylonlaw4.BaseJoins", spec := "baseJoins", apart := false }
def BaseJoinsSaid : Prop := baseJoinsRow.holds Try.pinned (OpenSpec.ofChange baseJoinsSpec)

/-- ITS FALSE NEIGHBOUR: 'it returns false'. Refute it at one input. -/
def baseJoinsWrong : ChangeSpec := { name := "baseJoins", fn := fun _ => fun
  | [d1, d2] => { results := [.lit (.bool false)], args := [d1, d2] }
  | _ => none }
def BaseJoinsWrongFalsely : Prop := baseJoinsRow.holds Try.pinned (OpenSpec.ofChange baseJoinsWrong)

/-- 'propylonlaw4.BaseSpoilt': WHATEVER THE INPUT: true; the input reads as it did. -/
def baseSpoiltSpec : ChangeSpec := { name := "baseSpoilt", fn := fun _ => fun
  | [d1, d2, d3] => { results := [.lit (.bool true)], args := [d1, d2, d3] }
  | _ => none }
def baseSpoiltRow : OpenClaim := { program := "ytolmeimipchndaa", sum := "e0d89508e4fdefbae3655dc83fc9100bf652f46b214cce3d28d15f551dfaeb8a", func := "propylon/propylonlaw4.BaseSpoilt", spec := "baseSpoilt", apart := false }
def BaseSpoiltSaid : Prop := baseSpoiltRow.holds Try.pinned (OpenSpec.ofChange baseSpoiltSpec)

/-- ITS FALSE NEIGHBOUR: 'it returns false'. Refute it at one input. -/
def baseSpoiltWrong : ChangeSpec := { name := "baseSpoilt", fn := fun _ => fun
  | [d1, d2, d3] => { results := [.lit (.bool false)], args := [d1, d2, d3] }
  | _ => none }
def BaseSpoiltWrongFalsely : Prop := baseSpoiltRow.holds Try.pinned (OpenSpec.ofChange baseSpoiltWrong)

/-- 'propylonlaw19.SizeFits': WHATEVER THE INPUT: true; the input reads as it did. -/
def sizeFitsSpec : ChangeSpec := { name := "sizeFits", fn := fun _ => fun
  | [d1, d2] => { results := [.lit (.bool true)], args := [d1, d2] }
  | _ => none }
def sizeFitsRow : OpenClaim := { program := "ytolmeimipchndaa", sum := "e0d89508e4fdefbae3655dc83fc9100bf652f46b214cce3d28d15f551dfaeb8a", func := "propylon/propylonlaw19.SizeFits", spec := "sizeFits", recurses := true, loops := true, apart := false }
def SizeFitsSaid : Prop := sizeFitsRow.holds Try.pinned (OpenSpec.ofChange sizeFitsSpec)

/-- ITS FALSE NEIGHBOUR: 'it returns false'. Refute it at one input. -/
def sizeFitsWrong : ChangeSpec := { name := "sizeFits", fn := fun _ => fun
  | [d1, d2] => { results := [.lit (.bool false)], args := [d1, d2] }
  | _ => none }
def SizeFitsWrongFalsely : Prop := sizeFitsRow.holds Try.pinned (OpenSpec.ofChange sizeFitsWrong)

/-- 'propylonlaw19.SizeEdges': WHATEVER THE INPUT: true; the input reads as it did. -/
def sizeEdgesSpec : ChangeSpec := { name := "sizeEdges", fn := fun _ => fun
  | [d] => { results := [.lit (.bool true)], args := [d] }
  | _ => none }
def sizeEdgesRow : OpenClaim := { program := "ytolmeimipchndaa", sum := "e0d89508e4fdefbae3655dc83fc9100bf652f46b214cce3d28d15f551dfaeb8a", func := "propylon/propylonlaw19.SizeEdges", spec := "sizeEdges", recurses := true, loops := true, apart := false }
def SizeEdgesSaid : Prop := sizeEdgesRow.holds Try.pinned (OpenSpec.ofChange sizeEdgesSpec)

/-- ITS FALSE NEIGHBOUR: 'it returns false'. Refute it at one input. -/
def sizeEdgesWrong : ChangeSpec := { name := "sizeEdges", fn := fun _ => fun
  | [d] => { results := [.lit (.bool false)], args := [d] }
  | _ => none }
def SizeEdgesWrongFalsely : Prop := sizeEdgesRow.holds Try.pinned (OpenSpec.ofChange sizeEdgesWrong)

/-- 'propylonlaw18.PathDiffs': WHATEVER THE INPUT: true; the input reads as it did. -/
def pathDiffsSpec : ChangeSpec := { name := "pathDiffs", fn := fun _ => fun
  | [d1, d2] => { results := [.lit (.bool true)], args := [d1, d2] }
  | _ => none }
def pathDiffsRow : OpenClaim := { program := "ytolmeimipchndaa", sum := "e0d89508e4fdefbae3655dc83fc9100bf652f46b214cce3d28d15f551dfaeb8a", func := "propylon/propylonlaw18.PathDiffs", spec := "pathDiffs", recurses := true, loops := true, apart := false }
def PathDiffsSaid : Prop := pathDiffsRow.holds Try.pinned (OpenSpec.ofChange pathDiffsSpec)

/-- ITS FALSE NEIGHBOUR: 'it returns false'. Refute it at one input. -/
def pathDiffsWrong : ChangeSpec := { name := "pathDiffs", fn := fun _ => fun
  | [d1, d2] => { results := [.lit (.bool false)], args := [d1, d2] }
  | _ => none }
def PathDiffsWrongFalsely : Prop := pathDiffsRow.holds Try.pinned (OpenSpec.ofChange pathDiffsWrong)

/-- 'propylonlaw18.PathOne': WHATEVER THE INPUT: true; the input reads as it did. -/
def pathOneSpec : ChangeSpec := { name := "pathOne", fn := fun _ => fun
  | [d1, d2] => { results := [.lit (.bool true)], args := [d1, d2] }
  | _ => none }
def pathOneRow : OpenClaim := { program := "ytolmeimipchndaa", sum := "e0d89508e4fdefbae3655dc83fc9100bf652f46b214cce3d28d15f551dfaeb8a", func := "propylon/propylonlaw18.PathOne", spec := "pathOne", recurses := true, loops := true, apart := false }
def PathOneSaid : Prop := pathOneRow.holds Try.pinned (OpenSpec.ofChange pathOneSpec)

/-- ITS FALSE NEIGHBOUR: 'it returns false'. Refute it at one input. -/
def pathOneWrong : ChangeSpec := { name := "pathOne", fn := fun _ => fun
  | [d1, d2] => { results := [.lit (.bool false)], args := [d1, d2] }
  | _ => none }
def PathOneWrongFalsely : Prop := pathOneRow.holds Try.pinned (OpenSpec.ofChange pathOneWrong)

/-- 'propylonlaw2.UtfCuts': WHATEVER THE INPUT: true; the input reads as it did. -/
def utfCutsSpec : ChangeSpec := { name := "utfCuts", fn := fun _ => fun
  | [d1, d2] => { results := [.lit (.bool true)], args := [d1, d2] }
  | _ => none }
def utfCutsRow : OpenClaim := { program := "ytolmeimipchndaa", sum := "e0d89508e4fdefbae3655dc83fc9100bf652f46b214cce3d28d15f551dfaeb8a", func := "propylon/propylonlaw2.UtfCuts", spec := "utfCuts", inPlace := ["internal/bytealg.IndexByte"], apart := false }
def UtfCutsSaid : Prop := utfCutsRow.holds Try.pinned (OpenSpec.ofChange utfCutsSpec)

/-- ITS FALSE NEIGHBOUR: 'it returns false'. Refute it at one input. -/
def utfCutsWrong : ChangeSpec := { name := "utfCuts", fn := fun _ => fun
  | [d1, d2] => { results := [.lit (.bool false)], args := [d1, d2] }
  | _ => none }
def UtfCutsWrongFalsely : Prop := utfCutsRow.holds Try.pinned (OpenSpec.ofChange utfCutsWrong)

/- THE SECOND FORM. 'bulk': how many values and letters a reading holds, each counted each time it is reached (what is shared counts as often as it is met; a slice's spare places count too). A statement '..UptoSaid' is the law's where the arguments, and the package variables that the reading takes, are together of bulk at most 1048576: NARROWER than '..Said'. Prove '..Said' where nothing that the law and all that it calls make is longer than what came in: it says more and counts as full. Else prove '..UptoSaid'. A law counts once. -/
mutual
def uptoBulk {H : Type} : DataW H → Nat
  | .lit (.string bytes) => bytes.length + 1
  | .lit _ => 1
  | .nil => 1
  | .ptr d => uptoBulk d + 1
  | .slice elems spare => uptoBulkAll elems + uptoBulkAll spare + 1
  | .agg parts => uptoBulkAll parts + 1
  | .iface _ d => uptoBulk d + 1
  | .map entries => uptoBulkEntries entries + 1
  | .held _ => 1
def uptoBulkAll {H : Type} : List (DataW H) → Nat
  | [] => 0
  | d :: r => uptoBulk d + uptoBulkAll r
def uptoBulkEntries {H : Type} : List (Lit × DataW H) → Nat
  | [] => 0
  | x :: r => uptoBulkEntry x + uptoBulkEntries r
def uptoBulkEntry {H : Type} : Lit × DataW H → Nat
  | (.string bytes, d) => bytes.length + uptoBulk d + 1
  | (_, d) => uptoBulk d + 1
 end
def uptoSmall : (H : Type) → List (DataW H) → Bool := fun _ ds => decide (uptoBulkAll ds ≤ 1048576)
def OpenSpec.upto (s : _root_.Go.ChangeSpec) : _root_.Go.OpenSpec := { _root_.Go.OpenSpec.ofChange s with cond := some uptoSmall }

/-- 'propylonlaw1.CurSets', WHERE WHAT IT READS IS OF BULK AT MOST 1048576: true; the input reads as it did. -/
def curSetsUptoRow : OpenClaim := { program := "ytolmeimipchndaa", sum := "e0d89508e4fdefbae3655dc83fc9100bf652f46b214cce3d28d15f551dfaeb8a", func := "propylon/propylonlaw1.CurSets", spec := "curSets", apart := false, narrowed := true }
def CurSetsUptoSaid : Prop := curSetsUptoRow.holds Try.pinned (OpenSpec.upto curSetsSpec)

/-- 'propylonlaw4.BaseTells', WHERE WHAT IT READS IS OF BULK AT MOST 1048576: true; the input reads as it did. -/
def baseTellsUptoRow : OpenClaim := { program := "ytolmeimipchndaa", sum := "e0d89508e4fdefbae3655dc83fc9100bf652f46b214cce3d28d15f551dfaeb8a", func := "propylon/propylonlaw4.BaseTells", spec := "baseTells", apart := false, narrowed := true }
def BaseTellsUptoSaid : Prop := baseTellsUptoRow.holds Try.pinned (OpenSpec.upto baseTellsSpec)

/-- 'propylonlaw4.BaseBack', WHERE WHAT IT READS IS OF BULK AT MOST 1048576: true; the input reads as it did. -/
def baseBackUptoRow : OpenClaim := { program := "ytolmeimipchndaa", sum := "e0d89508e4fdefbae3655dc83fc9100bf652f46b214cce3d28d15f551dfaeb8a", func := "propylon/propylonlaw4.BaseBack", spec := "baseBack", apart := false, narrowed := true }
def BaseBackUptoSaid : Prop := baseBackUptoRow.holds Try.pinned (OpenSpec.upto baseBackSpec)

/-- 'propylonlaw4.BaseOne', WHERE WHAT IT READS IS OF BULK AT MOST 1048576: true; the input reads as it did. -/
def baseOneUptoRow : OpenClaim := { program := "ytolmeimipchndaa", sum := "e0d89508e4fdefbae3655dc83fc9100bf652f46b214cce3d28d15f551dfaeb8a", func := "propylon/propylonlaw4.BaseOne", spec := "baseOne", apart := false, narrowed := true }
def BaseOneUptoSaid : Prop := baseOneUptoRow.holds Try.pinned (OpenSpec.upto baseOneSpec)

/-- 'propylonlaw4.BaseApart', WHERE WHAT IT READS IS OF BULK AT MOST 1048576: true; the input reads as it did. -/
def baseApartUptoRow : OpenClaim := { program := "ytolmeimipchndaa", sum := "e0d89508e4fdefbae3655dc83fc9100bf652f46b214cce3d28d15f551dfaeb8a", func := "propylon/propylonlaw4.BaseApart", spec := "baseApart", apart := false, narrowed := true }
def BaseApartUptoSaid : Prop := baseApartUptoRow.holds Try.pinned (OpenSpec.upto baseApartSpec)

/-- 'propylonlaw4.BaseJoins', WHERE WHAT IT READS IS OF BULK AT MOST 1048576: true; the input reads as it did. -/
def baseJoinsUptoRow : OpenClaim := { program := "ytolmeimipchndaa", sum := "e0d89508e4fdefbae3655dc83fc9100bf652f46b214cce3d28d15f551dfaeb8a", func := "propylon/propylonlaw4.BaseJoins", spec := "baseJoins", apart := false, narrowed := true }
def BaseJoinsUptoSaid : Prop := baseJoinsUptoRow.holds Try.pinned (OpenSpec.upto baseJoinsSpec)

/-- 'propylonlaw4.BaseSpoilt', WHERE WHAT IT READS IS OF BULK AT MOST 1048576: true; the input reads as it did. -/
def baseSpoiltUptoRow : OpenClaim := { program := "ytolmeimipchndaa", sum := "e0d89508e4fdefbae3655dc83fc9100bf652f46b214cce3d28d15f551dfaeb8a", func := "propylon/propylonlaw4.BaseSpoilt", spec := "baseSpoilt", apart := false, narrowed := true }
def BaseSpoiltUptoSaid : Prop := baseSpoiltUptoRow.holds Try.pinned (OpenSpec.upto baseSpoiltSpec)

/-- 'propylonlaw19.SizeFits', WHERE WHAT IT READS IS OF BULK AT MOST 1048576: true; the input reads as it did. -/
def sizeFitsUptoRow : OpenClaim := { program := "ytolmeimipchndaa", sum := "e0d89508e4fdefbae3655dc83fc9100bf652f46b214cce3d28d15f551dfaeb8a", func := "propylon/propylonlaw19.SizeFits", spec := "sizeFits", recurses := true, loops := true, apart := false, narrowed := true }
def SizeFitsUptoSaid : Prop := sizeFitsUptoRow.holds Try.pinned (OpenSpec.upto sizeFitsSpec)

/-- 'propylonlaw19.SizeEdges', WHERE WHAT IT READS IS OF BULK AT MOST 1048576: true; the input reads as it did. -/
def sizeEdgesUptoRow : OpenClaim := { program := "ytolmeimipchndaa", sum := "e0d89508e4fdefbae3655dc83fc9100bf652f46b214cce3d28d15f551dfaeb8a", func := "propylon/propylonlaw19.SizeEdges", spec := "sizeEdges", recurses := true, loops := true, apart := false, narrowed := true }
def SizeEdgesUptoSaid : Prop := sizeEdgesUptoRow.holds Try.pinned (OpenSpec.upto sizeEdgesSpec)

/-- 'propylonlaw18.PathDiffs', WHERE WHAT IT READS IS OF BULK AT MOST 1048576: true; the input reads as it did. -/
def pathDiffsUptoRow : OpenClaim := { program := "ytolmeimipchndaa", sum := "e0d89508e4fdefbae3655dc83fc9100bf652f46b214cce3d28d15f551dfaeb8a", func := "propylon/propylonlaw18.PathDiffs", spec := "pathDiffs", recurses := true, loops := true, apart := false, narrowed := true }
def PathDiffsUptoSaid : Prop := pathDiffsUptoRow.holds Try.pinned (OpenSpec.upto pathDiffsSpec)

/-- 'propylonlaw18.PathOne', WHERE WHAT IT READS IS OF BULK AT MOST 1048576: true; the input reads as it did. -/
def pathOneUptoRow : OpenClaim := { program := "ytolmeimipchndaa", sum := "e0d89508e4fdefbae3655dc83fc9100bf652f46b214cce3d28d15f551dfaeb8a", func := "propylon/propylonlaw18.PathOne", spec := "pathOne", recurses := true, loops := true, apart := false, narrowed := true }
def PathOneUptoSaid : Prop := pathOneUptoRow.holds Try.pinned (OpenSpec.upto pathOneSpec)

/-- 'propylonlaw2.UtfCuts', WHERE WHAT IT READS IS OF BULK AT MOST 1048576: true; the input reads as it did. -/
def utfCutsUptoRow : OpenClaim := { program := "ytolmeimipchndaa", sum := "e0d89508e4fdefbae3655dc83fc9100bf652f46b214cce3d28d15f551dfaeb8a", func := "propylon/propylonlaw2.UtfCuts", spec := "utfCuts", inPlace := ["internal/bytealg.IndexByte"], apart := false, narrowed := true }
def UtfCutsUptoSaid : Prop := utfCutsUptoRow.holds Try.pinned (OpenSpec.upto utfCutsSpec)

end Rows
end Go.Proofs.Ytolmeimipchndaa
