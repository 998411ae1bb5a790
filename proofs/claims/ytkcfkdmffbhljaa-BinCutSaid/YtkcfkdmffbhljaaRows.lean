/-
  NARROWER THAN 'FOR EVERY INPUT', by the rows' own cells (each row's printed sentence says how): BinBack: loops · BinCut: loops · BinBent: loops · BoutWrites: loops · BoutCounts: loops · BoutApart: loops · BoutGoes: loops.
  DERIVED. THE GIVEN ROWS OF THIS SEAT. 10 by the template 'for every input the law returns true; each argument reads behind the call as it read before'; 0 by the template 'total and deterministic' (their statements: YtkcfkdmffbhljaaTotals.lean).
  GIVEN WITH THE SEED: the statements are not yours to turn. If you find one false, say at which input.
  Laid BY PROGRAM, IN A SANDBOX (cutbox-rows.mjs): the forced cells as the released guide's own fill.sh prints them over the translation 5c843907c63b9334… (all of the seat's roots in one cut). By AI agents, Wed Nov 11 2026. No macro, syntax, notation, axiom, sorry.
-/
import Derived.Test.YtkcfkdmffbhljaaChecked
import GoSem.Claim
import GoSem.ClaimJoined
import GoSem.ClaimMapViews
import Derived.JoinedTies
import Derived.KernelRfl
namespace Go.Proofs.Ytkcfkdmffbhljaa
/- THE CELL 'sum', in the pinned program and in every row, IS THE sha256 OF THE DUMP (.gsa) THAT YtkcfkdmffbhljaaProg.lean LOADS. Nothing in Lean hashes anything: it is a label: what it is worth is what the hold of that sum in a sandbox is worth. -/
noncomputable def Try.pinned : Pinned := { name := "ytkcfkdmffbhljaa", sum := "5c843907c63b93348831a0ac04789f4c39f094dd61e609875a22acd4d2b31169", checked := Try.checked }
namespace Rows
def none {H : Type} : Left H := { results := [], args := [] }

/-- 'propylonlaw21.BinBack': WHATEVER THE INPUT: true; the input reads as it did. -/
def binBackSpec : ChangeSpec := { name := "binBack", fn := fun _ => fun
  | [d1, d2] => { results := [.lit (.bool true)], args := [d1, d2] }
  | _ => none }
def binBackRow : OpenClaim := { program := "ytkcfkdmffbhljaa", sum := "5c843907c63b93348831a0ac04789f4c39f094dd61e609875a22acd4d2b31169", func := "propylon/propylonlaw21.BinBack", spec := "binBack", inPlace := ["internal/bytealg.IndexByte"], recurses := true, loops := true, apart := false }
def BinBackSaid : Prop := binBackRow.holds Try.pinned (OpenSpec.ofChange binBackSpec)

/-- ITS FALSE NEIGHBOUR: 'it returns false'. Refute it at one input. -/
def binBackWrong : ChangeSpec := { name := "binBack", fn := fun _ => fun
  | [d1, d2] => { results := [.lit (.bool false)], args := [d1, d2] }
  | _ => none }
def BinBackWrongFalsely : Prop := binBackRow.holds Try.pinned (OpenSpec.ofChange binBackWrong)

/-- 'propylonlaw21.BinCut': WHATEVER THE INPUT: true; the input reads as it did. -/
def binCutSpec : ChangeSpec := { name := "binCut", fn := fun _ => fun
  | [d1, d2, d3] => { results := [.lit (.bool true)], args := [d1, d2, d3] }
  | _ => none }
def binCutRow : OpenClaim := { program := "ytkcfkdmffbhljaa", sum := "5c843907c63b93348831a0ac04789f4c39f094dd61e609875a22acd4d2b31169", func := "propylon/propylonlaw21.BinCut", spec := "binCut", inPlace := ["internal/bytealg.IndexByte"], recurses := true, loops := true, apart := false }
def BinCutSaid : Prop := binCutRow.holds Try.pinned (OpenSpec.ofChange binCutSpec)

/-- ITS FALSE NEIGHBOUR: 'it returns false'. Refute it at one input. -/
def binCutWrong : ChangeSpec := { name := "binCut", fn := fun _ => fun
  | [d1, d2, d3] => { results := [.lit (.bool false)], args := [d1, d2, d3] }
  | _ => none }
def BinCutWrongFalsely : Prop := binCutRow.holds Try.pinned (OpenSpec.ofChange binCutWrong)

/-- 'propylonlaw21.BinBent': WHATEVER THE INPUT: true; the input reads as it did. -/
def binBentSpec : ChangeSpec := { name := "binBent", fn := fun _ => fun
  | [d1, d2, d3] => { results := [.lit (.bool true)], args := [d1, d2, d3] }
  | _ => none }
def binBentRow : OpenClaim := { program := "ytkcfkdmffbhljaa", sum := "5c843907c63b93348831a0ac04789f4c39f094dd61e609875a22acd4d2b31169", func := "propylon/propylonlaw21.BinBent", spec := "binBent", inPlace := ["internal/bytealg.IndexByte"], recurses := true, loops := true, apart := false }
def BinBentSaid : Prop := binBentRow.holds Try.pinned (OpenSpec.ofChange binBentSpec)

/-- ITS FALSE NEIGHBOUR: 'it returns false'. Refute it at one input. -/
def binBentWrong : ChangeSpec := { name := "binBent", fn := fun _ => fun
  | [d1, d2, d3] => { results := [.lit (.bool false)], args := [d1, d2, d3] }
  | _ => none }
def BinBentWrongFalsely : Prop := binBentRow.holds Try.pinned (OpenSpec.ofChange binBentWrong)

/-- 'propylonlaw21.BinWider': WHATEVER THE INPUT: true; the input reads as it did. -/
def binWiderSpec : ChangeSpec := { name := "binWider", fn := fun _ => fun
  | [d1, d2, d3] => { results := [.lit (.bool true)], args := [d1, d2, d3] }
  | _ => none }
def binWiderRow : OpenClaim := { program := "ytkcfkdmffbhljaa", sum := "5c843907c63b93348831a0ac04789f4c39f094dd61e609875a22acd4d2b31169", func := "propylon/propylonlaw21.BinWider", spec := "binWider", inPlace := ["internal/bytealg.IndexByte"], recurses := true, apart := false }
def BinWiderSaid : Prop := binWiderRow.holds Try.pinned (OpenSpec.ofChange binWiderSpec)

/-- ITS FALSE NEIGHBOUR: 'it returns false'. Refute it at one input. -/
def binWiderWrong : ChangeSpec := { name := "binWider", fn := fun _ => fun
  | [d1, d2, d3] => { results := [.lit (.bool false)], args := [d1, d2, d3] }
  | _ => none }
def BinWiderWrongFalsely : Prop := binWiderRow.holds Try.pinned (OpenSpec.ofChange binWiderWrong)

/-- 'propylonlaw21.BinReads': WHATEVER THE INPUT: true; the input reads as it did. -/
def binReadsSpec : ChangeSpec := { name := "binReads", fn := fun _ => fun
  | [d1, d2] => { results := [.lit (.bool true)], args := [d1, d2] }
  | _ => none }
def binReadsRow : OpenClaim := { program := "ytkcfkdmffbhljaa", sum := "5c843907c63b93348831a0ac04789f4c39f094dd61e609875a22acd4d2b31169", func := "propylon/propylonlaw21.BinReads", spec := "binReads", inPlace := ["internal/bytealg.IndexByte"], recurses := true, apart := false }
def BinReadsSaid : Prop := binReadsRow.holds Try.pinned (OpenSpec.ofChange binReadsSpec)

/-- ITS FALSE NEIGHBOUR: 'it returns false'. Refute it at one input. -/
def binReadsWrong : ChangeSpec := { name := "binReads", fn := fun _ => fun
  | [d1, d2] => { results := [.lit (.bool false)], args := [d1, d2] }
  | _ => none }
def BinReadsWrongFalsely : Prop := binReadsRow.holds Try.pinned (OpenSpec.ofChange binReadsWrong)

/-- 'propylonlaw20.BoutWrites': WHATEVER THE INPUT: true; the input reads as it did. -/
def boutWritesSpec : ChangeSpec := { name := "boutWrites", fn := fun _ => fun
  | [d] => { results := [.lit (.bool true)], args := [d] }
  | _ => none }
def boutWritesRow : OpenClaim := { program := "ytkcfkdmffbhljaa", sum := "5c843907c63b93348831a0ac04789f4c39f094dd61e609875a22acd4d2b31169", func := "propylon/propylonlaw20.BoutWrites", spec := "boutWrites", inPlace := ["internal/bytealg.IndexByteString", "internal/bytealg.IndexString"], recurses := true, named := ["internal/bytealg.MaxLen"], loops := true, apart := false }
def BoutWritesSaid : Prop := boutWritesRow.holds Try.pinned (OpenSpec.ofChange boutWritesSpec)

/-- ITS FALSE NEIGHBOUR: 'it returns false'. Refute it at one input. -/
def boutWritesWrong : ChangeSpec := { name := "boutWrites", fn := fun _ => fun
  | [d] => { results := [.lit (.bool false)], args := [d] }
  | _ => none }
def BoutWritesWrongFalsely : Prop := boutWritesRow.holds Try.pinned (OpenSpec.ofChange boutWritesWrong)

/-- 'propylonlaw20.BoutCounts': WHATEVER THE INPUT: true; the input reads as it did. -/
def boutCountsSpec : ChangeSpec := { name := "boutCounts", fn := fun _ => fun
  | [d] => { results := [.lit (.bool true)], args := [d] }
  | _ => none }
def boutCountsRow : OpenClaim := { program := "ytkcfkdmffbhljaa", sum := "5c843907c63b93348831a0ac04789f4c39f094dd61e609875a22acd4d2b31169", func := "propylon/propylonlaw20.BoutCounts", spec := "boutCounts", inPlace := ["internal/bytealg.IndexByteString", "internal/bytealg.IndexString"], recurses := true, named := ["internal/bytealg.MaxLen"], loops := true, apart := false }
def BoutCountsSaid : Prop := boutCountsRow.holds Try.pinned (OpenSpec.ofChange boutCountsSpec)

/-- ITS FALSE NEIGHBOUR: 'it returns false'. Refute it at one input. -/
def boutCountsWrong : ChangeSpec := { name := "boutCounts", fn := fun _ => fun
  | [d] => { results := [.lit (.bool false)], args := [d] }
  | _ => none }
def BoutCountsWrongFalsely : Prop := boutCountsRow.holds Try.pinned (OpenSpec.ofChange boutCountsWrong)

/-- 'propylonlaw20.BoutApart': WHATEVER THE INPUT: true; the input reads as it did. -/
def boutApartSpec : ChangeSpec := { name := "boutApart", fn := fun _ => fun
  | [d1, d2] => { results := [.lit (.bool true)], args := [d1, d2] }
  | _ => none }
def boutApartRow : OpenClaim := { program := "ytkcfkdmffbhljaa", sum := "5c843907c63b93348831a0ac04789f4c39f094dd61e609875a22acd4d2b31169", func := "propylon/propylonlaw20.BoutApart", spec := "boutApart", inPlace := ["internal/bytealg.IndexByteString", "internal/bytealg.IndexString"], recurses := true, named := ["internal/bytealg.MaxLen"], loops := true, apart := false }
def BoutApartSaid : Prop := boutApartRow.holds Try.pinned (OpenSpec.ofChange boutApartSpec)

/-- ITS FALSE NEIGHBOUR: 'it returns false'. Refute it at one input. -/
def boutApartWrong : ChangeSpec := { name := "boutApart", fn := fun _ => fun
  | [d1, d2] => { results := [.lit (.bool false)], args := [d1, d2] }
  | _ => none }
def BoutApartWrongFalsely : Prop := boutApartRow.holds Try.pinned (OpenSpec.ofChange boutApartWrong)

/-- 'propylonlaw20.BoutGoes': WHATEVER THE INPUT: true; the input reads as it did. -/
def boutGoesSpec : ChangeSpec := { name := "boutGoes", fn := fun _ => fun
  | [d1, d2] => { results := [.lit (.bool true)], args := [d1, d2] }
  | _ => none }
def boutGoesRow : OpenClaim := { program := "ytkcfkdmffbhljaa", sum := "5c843907c63b93348831a0ac04789f4c39f094dd61e609875a22acd4d2b31169", func := "propylon/propylonlaw20.BoutGoes", spec := "boutGoes", inPlace := ["internal/bytealg.IndexByteString", "internal/bytealg.IndexString"], recurses := true, named := ["internal/bytealg.MaxLen"], loops := true, apart := false }
def BoutGoesSaid : Prop := boutGoesRow.holds Try.pinned (OpenSpec.ofChange boutGoesSpec)

/-- ITS FALSE NEIGHBOUR: 'it returns false'. Refute it at one input. -/
def boutGoesWrong : ChangeSpec := { name := "boutGoes", fn := fun _ => fun
  | [d1, d2] => { results := [.lit (.bool false)], args := [d1, d2] }
  | _ => none }
def BoutGoesWrongFalsely : Prop := boutGoesRow.holds Try.pinned (OpenSpec.ofChange boutGoesWrong)

/-- 'propylonlaw21.BinJust': WHATEVER THE INPUT: true; the input reads as it did. -/
def binJustSpec : ChangeSpec := { name := "binJust", fn := fun _ => fun
  | [d1, d2] => { results := [.lit (.bool true)], args := [d1, d2] }
  | _ => none }
def binJustRow : OpenClaim := { program := "ytkcfkdmffbhljaa", sum := "5c843907c63b93348831a0ac04789f4c39f094dd61e609875a22acd4d2b31169", func := "propylon/propylonlaw21.BinJust", spec := "binJust", inPlace := ["internal/bytealg.IndexByte", "internal/bytealg.IndexByteString", "internal/bytealg.IndexString"], recurses := true, named := ["internal/bytealg.MaxLen"], apart := false }
def BinJustSaid : Prop := binJustRow.holds Try.pinned (OpenSpec.ofChange binJustSpec)

/-- ITS FALSE NEIGHBOUR: 'it returns false'. Refute it at one input. -/
def binJustWrong : ChangeSpec := { name := "binJust", fn := fun _ => fun
  | [d1, d2] => { results := [.lit (.bool false)], args := [d1, d2] }
  | _ => none }
def BinJustWrongFalsely : Prop := binJustRow.holds Try.pinned (OpenSpec.ofChange binJustWrong)

/- THE SECOND FORM. 'bulk': how many values and letters a reading holds, each counted each time it is reached (what is shared counts as often as it is met; a slice's spare places count too). A statement '..UptoSaid' is the law's where the arguments, and the package variables that the reading takes, are together of bulk at most 1048576: NARROWER than '..Said'. Prove '..Said' where nothing that the law and all that it calls make is longer than what came in: it says more and counts as full. Else prove '..UptoSaid'. A law counts once. -/
mutual
def uptoBulk {H : Type} : DataW H → Nat
  | .lit (.string bytes) => bytes.length + 1
  | .lit _ => 1
  | .nil => 1
  | .ptr d => uptoBulk d + 1
  | .slice elems spare => uptoBulkAll elems + uptoBulkAll spare + 1
  | .agg parts => uptoBulkAll parts + 1
  | .iface _ d => uptoBulk d + 1
  | .map entries => uptoBulkEntries entries + 1
  | .held _ => 1
def uptoBulkAll {H : Type} : List (DataW H) → Nat
  | [] => 0
  | d :: r => uptoBulk d + uptoBulkAll r
def uptoBulkEntries {H : Type} : List (Lit × DataW H) → Nat
  | [] => 0
  | x :: r => uptoBulkEntry x + uptoBulkEntries r
def uptoBulkEntry {H : Type} : Lit × DataW H → Nat
  | (.string bytes, d) => bytes.length + uptoBulk d + 1
  | (_, d) => uptoBulk d + 1
 end
def uptoSmall : (H : Type) → List (DataW H) → Bool := fun _ ds => decide (uptoBulkAll ds ≤ 1048576)
def OpenSpec.upto (s : _root_.Go.ChangeSpec) : _root_.Go.OpenSpec := { _root_.Go.OpenSpec.ofChange s with cond := some uptoSmall }

/-- 'propylonlaw21.BinBack', WHERE WHAT IT READS IS OF BULK AT MOST 1048576: true; the input reads as it did. -/
def binBackUptoRow : OpenClaim := { program := "ytkcfkdmffbhljaa", sum := "5c843907c63b93348831a0ac04789f4c39f094dd61e609875a22acd4d2b31169", func := "propylon/propylonlaw21.BinBack", spec := "binBack", inPlace := ["internal/bytealg.IndexByte"], recurses := true, loops := true, apart := false, narrowed := true }
def BinBackUptoSaid : Prop := binBackUptoRow.holds Try.pinned (OpenSpec.upto binBackSpec)

/-- 'propylonlaw21.BinCut', WHERE WHAT IT READS IS OF BULK AT MOST 1048576: true; the input reads as it did. -/
def binCutUptoRow : OpenClaim := { program := "ytkcfkdmffbhljaa", sum := "5c843907c63b93348831a0ac04789f4c39f094dd61e609875a22acd4d2b31169", func := "propylon/propylonlaw21.BinCut", spec := "binCut", inPlace := ["internal/bytealg.IndexByte"], recurses := true, loops := true, apart := false, narrowed := true }
def BinCutUptoSaid : Prop := binCutUptoRow.holds Try.pinned (OpenSpec.upto binCutSpec)

/-- 'propylonlaw21.BinBent', WHERE WHAT IT READS IS OF BULK AT MOST 1048576: true; the input reads as it did. -/
def binBentUptoRow : OpenClaim := { program := "ytkcfkdmffbhljaa", sum := "5c843907c63b93348831a0ac04789f4c39f094dd61e609875a22acd4d2b31169", func := "propylon/propylonlaw21.BinBent", spec := "binBent", inPlace := ["internal/bytealg.IndexByte"], recurses := true, loops := true, apart := false, narrowed := true }
def BinBentUptoSaid : Prop := binBentUptoRow.holds Try.pinned (OpenSpec.upto binBentSpec)

/-- 'propylonlaw21.BinWider', WHERE WHAT IT READS IS OF BULK AT MOST 1048576: true; the input reads as it did. -/
def binWiderUptoRow : OpenClaim := { program := "ytkcfkdmffbhljaa", sum := "5c843907c63b93348831a0ac04789f4c39f094dd61e609875a22acd4d2b31169", func := "propylon/propylonlaw21.BinWider", spec := "binWider", inPlace := ["internal/bytealg.IndexByte"], recurses := true, apart := false, narrowed := true }
def BinWiderUptoSaid : Prop := binWiderUptoRow.holds Try.pinned (OpenSpec.upto binWiderSpec)

/-- 'propylonlaw21.BinReads', WHERE WHAT IT READS IS OF BULK AT MOST 1048576: true; the input reads as it did. -/
def binReadsUptoRow : OpenClaim := { program := "ytkcfkdmffbhljaa", sum := "5c843907c63b93348831a0ac04789f4c39f094dd61e609875a22acd4d2b31169", func := "propylon/propylonlaw21.BinReads", spec := "binReads", inPlace := ["internal/bytealg.IndexByte"], recurses := true, apart := false, narrowed := true }
def BinReadsUptoSaid : Prop := binReadsUptoRow.holds Try.pinned (OpenSpec.upto binReadsSpec)

/-- 'propylonlaw20.BoutWrites', WHERE WHAT IT READS IS OF BULK AT MOST 1048576: true; the input reads as it did. -/
def boutWritesUptoRow : OpenClaim := { program := "ytkcfkdmffbhljaa", sum := "5c843907c63b93348831a0ac04789f4c39f094dd61e609875a22acd4d2b31169", func := "propylon/propylonlaw20.BoutWrites", spec := "boutWrites", inPlace := ["internal/bytealg.IndexByteString", "internal/bytealg.IndexString"], recurses := true, named := ["internal/bytealg.MaxLen"], loops := true, apart := false, narrowed := true }
def BoutWritesUptoSaid : Prop := boutWritesUptoRow.holds Try.pinned (OpenSpec.upto boutWritesSpec)

/-- 'propylonlaw20.BoutCounts', WHERE WHAT IT READS IS OF BULK AT MOST 1048576: true; the input reads as it did. -/
def boutCountsUptoRow : OpenClaim := { program := "ytkcfkdmffbhljaa", sum := "5c843907c63b93348831a0ac04789f4c39f094dd61e609875a22acd4d2b31169", func := "propylon/propylonlaw20.BoutCounts", spec := "boutCounts", inPlace := ["internal/bytealg.IndexByteString", "internal/bytealg.IndexString"], recurses := true, named := ["internal/bytealg.MaxLen"], loops := true, apart := false, narrowed := true }
def BoutCountsUptoSaid : Prop := boutCountsUptoRow.holds Try.pinned (OpenSpec.upto boutCountsSpec)

/-- 'propylonlaw20.BoutApart', WHERE WHAT IT READS IS OF BULK AT MOST 1048576: true; the input reads as it did. -/
def boutApartUptoRow : OpenClaim := { program := "ytkcfkdmffbhljaa", sum := "5c843907c63b93348831a0ac04789f4c39f094dd61e609875a22acd4d2b31169", func := "propylon/propylonlaw20.BoutApart", spec := "boutApart", inPlace := ["internal/bytealg.IndexByteString", "internal/bytealg.IndexString"], recurses := true, named := ["internal/bytealg.MaxLen"], loops := true, apart := false, narrowed := true }
def BoutApartUptoSaid : Prop := boutApartUptoRow.holds Try.pinned (OpenSpec.upto boutApartSpec)

/-- 'propylonlaw20.BoutGoes', WHERE WHAT IT READS IS OF BULK AT MOST 1048576: true; the input reads as it did. -/
def boutGoesUptoRow : OpenClaim := { program := "ytkcfkdmffbhljaa", sum := "5c843907c63b93348831a0ac04789f4c39f094dd61e609875a22acd4d2b31169", func := "propylon/propylonlaw20.BoutGoes", spec := "boutGoes", inPlace := ["internal/bytealg.IndexByteString", "internal/bytealg.IndexString"], recurses := true, named := ["internal/bytealg.MaxLen"], loops := true, apart := false, narrowed := true }
def BoutGoesUptoSaid : Prop := boutGoesUptoRow.holds Try.pinned (OpenSpec.upto boutGoesSpec)

/-- 'propylonlaw21.BinJust', WHERE WHAT IT READS IS OF BULK AT MOST 1048576: true; the input reads as it did. -/
def binJustUptoRow : OpenClaim := { program := "ytkcfkdmffbhljaa", sum := "5c843907c63b93348831a0ac04789f4c39f094dd61e609875a22acd4d2b31169", func := "propylon/propylonlaw21.BinJust", spec := "binJust", inPlace := ["internal/bytealg.IndexByte", "internal/bytealg.IndexByteString", "internal/bytealg.IndexString"], recurses := true, named := ["internal/bytealg.MaxLen"], apart := false, narrowed := true }
def BinJustUptoSaid : Prop := binJustUptoRow.holds Try.pinned (OpenSpec.upto binJustSpec)

end Rows
end Go.Proofs.Ytkcfkdmffbhljaa
