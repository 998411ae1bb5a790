/-
  No cell of these rows narrows 'for every input' (looked for: loops, veiled, ifaces, maps, wideKeys, modest, calm, conditions, laid).
  DERIVED. THE GIVEN ROWS OF THIS SEAT. 8 by the template 'for every input the law returns true; each argument reads behind the call as it read before'; 0 by the template 'total and deterministic' (their statements: YthahhjmgjlkmfaaTotals.lean).
  GIVEN WITH THE SEED: the statements are not yours to turn. If you find one false, say at which input.
  Laid BY PROGRAM, IN A SANDBOX (cutbox-rows.mjs): the forced cells as the released guide's own fill.sh prints them over the translation 2dd72cb9391ec064… (all of the seat's roots in one cut). By AI agents, Wed Nov 11 2026. No macro, syntax, notation, axiom, sorry.
-/
import Derived.Test.YthahhjmgjlkmfaaChecked
import GoSem.Claim
import GoSem.ClaimJoined
import GoSem.ClaimMapViews
import Derived.JoinedTies
import Derived.KernelRfl
namespace Go.Proofs.Ythahhjmgjlkmfaa
/- THE CELL 'sum', in the pinned program and in every row, IS THE sha256 OF THE DUMP (.gsa) THAT YthahhjmgjlkmfaaProg.lean LOADS. Nothing in Lean hashes anything: it is a label: what it is worth is what the hold of that sum in a sandbox is worth. -/
noncomputable def Try.pinned : Pinned := { name := "ythahhjmgjlkmfaa", sum := "2dd72cb9391ec064c6e62c0b757c7deb457ff2e42b44be4d46d87047ce87f7a9", checked := Try.checked }
namespace Rows
def none {H : Type} : Left H := { results := [], args := [] }

/-- 'propylonlaw1.CurReads': WHATEVER THE INPUT: true; the input reads as it did. -/
def curReadsSpec : ChangeSpec := { name := "curReads", fn := fun _ => fun
  | [d1, d2] => { results := [.lit (.bool true)], args := [d1, d2] }
  | _ => none }
def curReadsRow : OpenClaim := { program := "ythahhjmgjlkmfaa", sum := "2dd72cb9391ec064c6e62c0b757c7deb457ff2e42b44be4d46d87047ce87f7a9", func := "propylon/propylonlaw1.CurReads", spec := "curReads", apart := false }
def CurReadsSaid : Prop := curReadsRow.holds Try.pinned (OpenSpec.ofChange curReadsSpec)

/-- ITS FALSE NEIGHBOUR: 'it returns false'. Refute it at one input. -/
def curReadsWrong : ChangeSpec := { name := "curReads", fn := fun _ => fun
  | [d1, d2] => { results := [.lit (.bool false)], args := [d1, d2] }
  | _ => none }
def CurReadsWrongFalsely : Prop := curReadsRow.holds Try.pinned (OpenSpec.ofChange curReadsWrong)

/-- 'propylonlaw1.CurWrites': WHATEVER THE INPUT: true; the input reads as it did. -/
def curWritesSpec : ChangeSpec := { name := "curWrites", fn := fun _ => fun
  | [d] => { results := [.lit (.bool true)], args := [d] }
  | _ => none }
def curWritesRow : OpenClaim := { program := "ythahhjmgjlkmfaa", sum := "2dd72cb9391ec064c6e62c0b757c7deb457ff2e42b44be4d46d87047ce87f7a9", func := "propylon/propylonlaw1.CurWrites", spec := "curWrites", apart := false }
def CurWritesSaid : Prop := curWritesRow.holds Try.pinned (OpenSpec.ofChange curWritesSpec)

/-- ITS FALSE NEIGHBOUR: 'it returns false'. Refute it at one input. -/
def curWritesWrong : ChangeSpec := { name := "curWrites", fn := fun _ => fun
  | [d] => { results := [.lit (.bool false)], args := [d] }
  | _ => none }
def CurWritesWrongFalsely : Prop := curWritesRow.holds Try.pinned (OpenSpec.ofChange curWritesWrong)

/-- 'propylonlaw1.CurSets': WHATEVER THE INPUT: true; the input reads as it did. -/
def curSetsSpec : ChangeSpec := { name := "curSets", fn := fun _ => fun
  | [d1, d2, d3] => { results := [.lit (.bool true)], args := [d1, d2, d3] }
  | _ => none }
def curSetsRow : OpenClaim := { program := "ythahhjmgjlkmfaa", sum := "2dd72cb9391ec064c6e62c0b757c7deb457ff2e42b44be4d46d87047ce87f7a9", func := "propylon/propylonlaw1.CurSets", spec := "curSets", apart := false }
def CurSetsSaid : Prop := curSetsRow.holds Try.pinned (OpenSpec.ofChange curSetsSpec)

/-- ITS FALSE NEIGHBOUR: 'it returns false'. Refute it at one input. -/
def curSetsWrong : ChangeSpec := { name := "curSets", fn := fun _ => fun
  | [d1, d2, d3] => { results := [.lit (.bool false)], args := [d1, d2, d3] }
  | _ => none }
def CurSetsWrongFalsely : Prop := curSetsRow.holds Try.pinned (OpenSpec.ofChange curSetsWrong)

/-- 'propylonlaw2.UtfCuts': WHATEVER THE INPUT: true; the input reads as it did. -/
def utfCutsSpec : ChangeSpec := { name := "utfCuts", fn := fun _ => fun
  | [d1, d2] => { results := [.lit (.bool true)], args := [d1, d2] }
  | _ => none }
def utfCutsRow : OpenClaim := { program := "ythahhjmgjlkmfaa", sum := "2dd72cb9391ec064c6e62c0b757c7deb457ff2e42b44be4d46d87047ce87f7a9", func := "propylon/propylonlaw2.UtfCuts", spec := "utfCuts", inPlace := ["internal/bytealg.IndexByte"], apart := false }
def UtfCutsSaid : Prop := utfCutsRow.holds Try.pinned (OpenSpec.ofChange utfCutsSpec)

/-- ITS FALSE NEIGHBOUR: 'it returns false'. Refute it at one input. -/
def utfCutsWrong : ChangeSpec := { name := "utfCuts", fn := fun _ => fun
  | [d1, d2] => { results := [.lit (.bool false)], args := [d1, d2] }
  | _ => none }
def UtfCutsWrongFalsely : Prop := utfCutsRow.holds Try.pinned (OpenSpec.ofChange utfCutsWrong)

/-- 'propylonlaw2.UtfTells': WHATEVER THE INPUT: true; the input reads as it did. -/
def utfTellsSpec : ChangeSpec := { name := "utfTells", fn := fun _ => fun
  | [d1, d2] => { results := [.lit (.bool true)], args := [d1, d2] }
  | _ => none }
def utfTellsRow : OpenClaim := { program := "ythahhjmgjlkmfaa", sum := "2dd72cb9391ec064c6e62c0b757c7deb457ff2e42b44be4d46d87047ce87f7a9", func := "propylon/propylonlaw2.UtfTells", spec := "utfTells", inPlace := ["internal/bytealg.IndexByte"], apart := false }
def UtfTellsSaid : Prop := utfTellsRow.holds Try.pinned (OpenSpec.ofChange utfTellsSpec)

/-- ITS FALSE NEIGHBOUR: 'it returns false'. Refute it at one input. -/
def utfTellsWrong : ChangeSpec := { name := "utfTells", fn := fun _ => fun
  | [d1, d2] => { results := [.lit (.bool false)], args := [d1, d2] }
  | _ => none }
def UtfTellsWrongFalsely : Prop := utfTellsRow.holds Try.pinned (OpenSpec.ofChange utfTellsWrong)

/-- 'propylonlaw2.UtfJoin': WHATEVER THE INPUT: true; the input reads as it did. -/
def utfJoinSpec : ChangeSpec := { name := "utfJoin", fn := fun _ => fun
  | [d1, d2] => { results := [.lit (.bool true)], args := [d1, d2] }
  | _ => none }
def utfJoinRow : OpenClaim := { program := "ythahhjmgjlkmfaa", sum := "2dd72cb9391ec064c6e62c0b757c7deb457ff2e42b44be4d46d87047ce87f7a9", func := "propylon/propylonlaw2.UtfJoin", spec := "utfJoin", inPlace := ["internal/bytealg.IndexByte"], apart := false }
def UtfJoinSaid : Prop := utfJoinRow.holds Try.pinned (OpenSpec.ofChange utfJoinSpec)

/-- ITS FALSE NEIGHBOUR: 'it returns false'. Refute it at one input. -/
def utfJoinWrong : ChangeSpec := { name := "utfJoin", fn := fun _ => fun
  | [d1, d2] => { results := [.lit (.bool false)], args := [d1, d2] }
  | _ => none }
def UtfJoinWrongFalsely : Prop := utfJoinRow.holds Try.pinned (OpenSpec.ofChange utfJoinWrong)

/-- 'propylonlaw2.UtfPuts': WHATEVER THE INPUT: true; the input reads as it did. -/
def utfPutsSpec : ChangeSpec := { name := "utfPuts", fn := fun _ => fun
  | [d] => { results := [.lit (.bool true)], args := [d] }
  | _ => none }
def utfPutsRow : OpenClaim := { program := "ythahhjmgjlkmfaa", sum := "2dd72cb9391ec064c6e62c0b757c7deb457ff2e42b44be4d46d87047ce87f7a9", func := "propylon/propylonlaw2.UtfPuts", spec := "utfPuts", inPlace := ["internal/bytealg.IndexByte"], apart := false }
def UtfPutsSaid : Prop := utfPutsRow.holds Try.pinned (OpenSpec.ofChange utfPutsSpec)

/-- ITS FALSE NEIGHBOUR: 'it returns false'. Refute it at one input. -/
def utfPutsWrong : ChangeSpec := { name := "utfPuts", fn := fun _ => fun
  | [d] => { results := [.lit (.bool false)], args := [d] }
  | _ => none }
def UtfPutsWrongFalsely : Prop := utfPutsRow.holds Try.pinned (OpenSpec.ofChange utfPutsWrong)

/-- 'propylonlaw2.UtfBack': WHATEVER THE INPUT: true; the input reads as it did. -/
def utfBackSpec : ChangeSpec := { name := "utfBack", fn := fun _ => fun
  | [d] => { results := [.lit (.bool true)], args := [d] }
  | _ => none }
def utfBackRow : OpenClaim := { program := "ythahhjmgjlkmfaa", sum := "2dd72cb9391ec064c6e62c0b757c7deb457ff2e42b44be4d46d87047ce87f7a9", func := "propylon/propylonlaw2.UtfBack", spec := "utfBack", inPlace := ["internal/bytealg.IndexByte"], apart := false }
def UtfBackSaid : Prop := utfBackRow.holds Try.pinned (OpenSpec.ofChange utfBackSpec)

/-- ITS FALSE NEIGHBOUR: 'it returns false'. Refute it at one input. -/
def utfBackWrong : ChangeSpec := { name := "utfBack", fn := fun _ => fun
  | [d] => { results := [.lit (.bool false)], args := [d] }
  | _ => none }
def UtfBackWrongFalsely : Prop := utfBackRow.holds Try.pinned (OpenSpec.ofChange utfBackWrong)

/- THE SECOND FORM. 'bulk': how many values and letters a reading holds, each counted each time it is reached (what is shared counts as often as it is met; a slice's spare places count too). A statement '..UptoSaid' is the law's where the arguments, and the package variables that the reading takes, are together of bulk at most 1048576: NARROWER than '..Said'. Prove '..Said' where nothing that the law and all that it calls make is longer than what came in: it says more and counts as full. Else prove '..UptoSaid'. A law counts once. -/
mutual
def uptoBulk {H : Type} : DataW H → Nat
  | .lit (.string bytes) => bytes.length + 1
  | .lit _ => 1
  | .nil => 1
  | .ptr d => uptoBulk d + 1
  | .slice elems spare => uptoBulkAll elems + uptoBulkAll spare + 1
  | .agg parts => uptoBulkAll parts + 1
  | .iface _ d => uptoBulk d + 1
  | .map entries => uptoBulkEntries entries + 1
  | .held _ => 1
def uptoBulkAll {H : Type} : List (DataW H) → Nat
  | [] => 0
  | d :: r => uptoBulk d + uptoBulkAll r
def uptoBulkEntries {H : Type} : List (Lit × DataW H) → Nat
  | [] => 0
  | x :: r => uptoBulkEntry x + uptoBulkEntries r
def uptoBulkEntry {H : Type} : Lit × DataW H → Nat
  | (.string bytes, d) => bytes.length + uptoBulk d + 1
  | (_, d) => uptoBulk d + 1
 end
def uptoSmall : (H : Type) → List (DataW H) → Bool := fun _ ds => decide (uptoBulkAll ds ≤ 1048576)
def OpenSpec.upto (s : _root_.Go.ChangeSpec) : _root_.Go.OpenSpec := { _root_.Go.OpenSpec.ofChange s with cond := some uptoSmall }

/-- 'propylonlaw1.CurReads', WHERE WHAT IT READS IS OF BULK AT MOST 1048576: true; the input reads as it did. -/
def curReadsUptoRow : OpenClaim := { program := "ythahhjmgjlkmfaa", sum := "2dd72cb9391ec064c6e62c0b757c7deb457ff2e42b44be4d46d87047ce87f7a9", func := "propylon/propylonlaw1.CurReads", spec := "curReads", apart := false, narrowed := true }
def CurReadsUptoSaid : Prop := curReadsUptoRow.holds Try.pinned (OpenSpec.upto curReadsSpec)

/-- 'propylonlaw1.CurWrites', WHERE WHAT IT READS IS OF BULK AT MOST 1048576: true; the input reads as it did. -/
def curWritesUptoRow : OpenClaim := { program := "ythahhjmgjlkmfaa", sum := "2dd72cb9391ec064c6e62c0b757c7deb457ff2e42b44be4d46d87047ce87f7a9", func := "propylon/propylonlaw1.CurWrites", spec := "curWrites", apart := false, narrowed := true }
def CurWritesUptoSaid : Prop := curWritesUptoRow.holds Try.pinned (OpenSpec.upto curWritesSpec)

/-- 'propylonlaw1.CurSets', WHERE WHAT IT READS IS OF BULK AT MOST 1048576: true; the input reads as it did. -/
def curSetsUptoRow : OpenClaim := { program := "ythahhjmgjlkmfaa", sum := "2dd72cb9391ec064c6e62c0b757c7deb457ff2e42b44be4d46d87047ce87f7a9", func := "propylon/propylonlaw1.CurSets", spec := "curSets", apart := false, narrowed := true }
def CurSetsUptoSaid : Prop := curSetsUptoRow.holds Try.pinned (OpenSpec.upto curSetsSpec)

/-- 'propylonlaw2.UtfCuts', WHERE WHAT IT READS IS OF BULK AT MOST 1048576: true; the input reads as it did. -/
def utfCutsUptoRow : OpenClaim := { program := "ythahhjmgjlkmfaa", sum := "2dd72cb9391ec064c6e62c0b757c7deb457ff2e42b44be4d46d87047ce87f7a9", func := "propylon/propylonlaw2.UtfCuts", spec := "utfCuts", inPlace := ["internal/bytealg.IndexByte"], apart := false, narrowed := true }
def UtfCutsUptoSaid : Prop := utfCutsUptoRow.holds Try.pinned (OpenSpec.upto utfCutsSpec)

/-- 'propylonlaw2.UtfTells', WHERE WHAT IT READS IS OF BULK AT MOST 1048576: true; the input reads as it did. -/
def utfTellsUptoRow : OpenClaim := { program := "ythahhjmgjlkmfaa", sum := "2dd72cb9391ec064c6e62c0b757c7deb457ff2e42b44be4d46d87047ce87f7a9", func := "propylon/propylonlaw2.UtfTells", spec := "utfTells", inPlace := ["internal/bytealg.IndexByte"], apart := false, narrowed := true }
def UtfTellsUptoSaid : Prop := utfTellsUptoRow.holds Try.pinned (OpenSpec.upto utfTellsSpec)

/-- 'propylonlaw2.UtfJoin', WHERE WHAT IT READS IS OF BULK AT MOST 1048576: true; the input reads as it did. -/
def utfJoinUptoRow : OpenClaim := { program := "ythahhjmgjlkmfaa", sum := "2dd72cb9391ec064c6e62c0b757c7deb457ff2e42b44be4d46d87047ce87f7a9", func := "propylon/propylonlaw2.UtfJoin", spec := "utfJoin", inPlace := ["internal/bytealg.IndexByte"], apart := false, narrowed := true }
def UtfJoinUptoSaid : Prop := utfJoinUptoRow.holds Try.pinned (OpenSpec.upto utfJoinSpec)

/-- 'propylonlaw2.UtfPuts', WHERE WHAT IT READS IS OF BULK AT MOST 1048576: true; the input reads as it did. -/
def utfPutsUptoRow : OpenClaim := { program := "ythahhjmgjlkmfaa", sum := "2dd72cb9391ec064c6e62c0b757c7deb457ff2e42b44be4d46d87047ce87f7a9", func := "propylon/propylonlaw2.UtfPuts", spec := "utfPuts", inPlace := ["internal/bytealg.IndexByte"], apart := false, narrowed := true }
def UtfPutsUptoSaid : Prop := utfPutsUptoRow.holds Try.pinned (OpenSpec.upto utfPutsSpec)

/-- 'propylonlaw2.UtfBack', WHERE WHAT IT READS IS OF BULK AT MOST 1048576: true; the input reads as it did. -/
def utfBackUptoRow : OpenClaim := { program := "ythahhjmgjlkmfaa", sum := "2dd72cb9391ec064c6e62c0b757c7deb457ff2e42b44be4d46d87047ce87f7a9", func := "propylon/propylonlaw2.UtfBack", spec := "utfBack", inPlace := ["internal/bytealg.IndexByte"], apart := false, narrowed := true }
def UtfBackUptoSaid : Prop := utfBackUptoRow.holds Try.pinned (OpenSpec.upto utfBackSpec)

end Rows
end Go.Proofs.Ythahhjmgjlkmfaa
