/-
  NARROWER THAN 'FOR EVERY INPUT', by the rows' own cells (each row's printed sentence says how): CborWrites: loops · CborBack: loops · CborCut: loops.
  DERIVED. THE GIVEN ROWS OF THIS SEAT. 6 by the template 'for every input the law returns true; each argument reads behind the call as it read before'; 0 by the template 'total and deterministic' (their statements: YtambhapgjonmmaaTotals.lean).
  GIVEN WITH THE SEED: the statements are not yours to turn. If you find one false, say at which input.
  Laid BY PROGRAM, IN A SANDBOX (cutbox-rows.mjs): the forced cells as the released guide's own fill.sh prints them over the translation 20807e0e0cfce06d… (all of the seat's roots in one cut). By AI agents, Wed Nov 11 2026. No macro, syntax, notation, axiom, sorry.
-/
import Derived.Test.YtambhapgjonmmaaChecked
import GoSem.Claim
import GoSem.ClaimJoined
import GoSem.ClaimMapViews
import Derived.JoinedTies
import Derived.KernelRfl
namespace Go.Proofs.Ytambhapgjonmmaa
/- THE CELL 'sum', in the pinned program and in every row, IS THE sha256 OF THE DUMP (.gsa) THAT YtambhapgjonmmaaProg.lean LOADS. Nothing in Lean hashes anything: it is a label: what it is worth is what the hold of that sum in a sandbox is worth. -/
noncomputable def Try.pinned : Pinned := { name := "ytambhapgjonmmaa", sum := "20807e0e0cfce06d17824047f2beaa5b55828d879f5efed60680a6c5c396e053", checked := Try.checked }
namespace Rows
def none {H : Type} : Left H := { results := [], args := [] }

/-- 'propylonlaw28.CborWrites': WHATEVER THE INPUT: true; the input reads as it did. -/
def cborWritesSpec : ChangeSpec := { name := "cborWrites", fn := fun _ => fun
  | [d] => { results := [.lit (.bool true)], args := [d] }
  | _ => none }
def cborWritesRow : OpenClaim := { program := "ytambhapgjonmmaa", sum := "20807e0e0cfce06d17824047f2beaa5b55828d879f5efed60680a6c5c396e053", func := "propylon/propylonlaw28.CborWrites", spec := "cborWrites", recurses := true, loops := true, apart := false }
def CborWritesSaid : Prop := cborWritesRow.holds Try.pinned (OpenSpec.ofChange cborWritesSpec)

/-- ITS FALSE NEIGHBOUR: 'it returns false'. Refute it at one input. -/
def cborWritesWrong : ChangeSpec := { name := "cborWrites", fn := fun _ => fun
  | [d] => { results := [.lit (.bool false)], args := [d] }
  | _ => none }
def CborWritesWrongFalsely : Prop := cborWritesRow.holds Try.pinned (OpenSpec.ofChange cborWritesWrong)

/-- 'propylonlaw28.CborReads': WHATEVER THE INPUT: true; the input reads as it did. -/
def cborReadsSpec : ChangeSpec := { name := "cborReads", fn := fun _ => fun
  | [d1, d2] => { results := [.lit (.bool true)], args := [d1, d2] }
  | _ => none }
def cborReadsRow : OpenClaim := { program := "ytambhapgjonmmaa", sum := "20807e0e0cfce06d17824047f2beaa5b55828d879f5efed60680a6c5c396e053", func := "propylon/propylonlaw28.CborReads", spec := "cborReads", recurses := true, apart := false }
def CborReadsSaid : Prop := cborReadsRow.holds Try.pinned (OpenSpec.ofChange cborReadsSpec)

/-- ITS FALSE NEIGHBOUR: 'it returns false'. Refute it at one input. -/
def cborReadsWrong : ChangeSpec := { name := "cborReads", fn := fun _ => fun
  | [d1, d2] => { results := [.lit (.bool false)], args := [d1, d2] }
  | _ => none }
def CborReadsWrongFalsely : Prop := cborReadsRow.holds Try.pinned (OpenSpec.ofChange cborReadsWrong)

/-- 'propylonlaw28.CborBack': WHATEVER THE INPUT: true; the input reads as it did. -/
def cborBackSpec : ChangeSpec := { name := "cborBack", fn := fun _ => fun
  | [d] => { results := [.lit (.bool true)], args := [d] }
  | _ => none }
def cborBackRow : OpenClaim := { program := "ytambhapgjonmmaa", sum := "20807e0e0cfce06d17824047f2beaa5b55828d879f5efed60680a6c5c396e053", func := "propylon/propylonlaw28.CborBack", spec := "cborBack", recurses := true, loops := true, apart := false }
def CborBackSaid : Prop := cborBackRow.holds Try.pinned (OpenSpec.ofChange cborBackSpec)

/-- ITS FALSE NEIGHBOUR: 'it returns false'. Refute it at one input. -/
def cborBackWrong : ChangeSpec := { name := "cborBack", fn := fun _ => fun
  | [d] => { results := [.lit (.bool false)], args := [d] }
  | _ => none }
def CborBackWrongFalsely : Prop := cborBackRow.holds Try.pinned (OpenSpec.ofChange cborBackWrong)

/-- 'propylonlaw28.CborJust': WHATEVER THE INPUT: true; the input reads as it did. -/
def cborJustSpec : ChangeSpec := { name := "cborJust", fn := fun _ => fun
  | [d1, d2] => { results := [.lit (.bool true)], args := [d1, d2] }
  | _ => none }
def cborJustRow : OpenClaim := { program := "ytambhapgjonmmaa", sum := "20807e0e0cfce06d17824047f2beaa5b55828d879f5efed60680a6c5c396e053", func := "propylon/propylonlaw28.CborJust", spec := "cborJust", recurses := true, apart := false }
def CborJustSaid : Prop := cborJustRow.holds Try.pinned (OpenSpec.ofChange cborJustSpec)

/-- ITS FALSE NEIGHBOUR: 'it returns false'. Refute it at one input. -/
def cborJustWrong : ChangeSpec := { name := "cborJust", fn := fun _ => fun
  | [d1, d2] => { results := [.lit (.bool false)], args := [d1, d2] }
  | _ => none }
def CborJustWrongFalsely : Prop := cborJustRow.holds Try.pinned (OpenSpec.ofChange cborJustWrong)

/-- 'propylonlaw28.CborCut': WHATEVER THE INPUT: true; the input reads as it did. -/
def cborCutSpec : ChangeSpec := { name := "cborCut", fn := fun _ => fun
  | [d1, d2, d3] => { results := [.lit (.bool true)], args := [d1, d2, d3] }
  | _ => none }
def cborCutRow : OpenClaim := { program := "ytambhapgjonmmaa", sum := "20807e0e0cfce06d17824047f2beaa5b55828d879f5efed60680a6c5c396e053", func := "propylon/propylonlaw28.CborCut", spec := "cborCut", recurses := true, loops := true, apart := false }
def CborCutSaid : Prop := cborCutRow.holds Try.pinned (OpenSpec.ofChange cborCutSpec)

/-- ITS FALSE NEIGHBOUR: 'it returns false'. Refute it at one input. -/
def cborCutWrong : ChangeSpec := { name := "cborCut", fn := fun _ => fun
  | [d1, d2, d3] => { results := [.lit (.bool false)], args := [d1, d2, d3] }
  | _ => none }
def CborCutWrongFalsely : Prop := cborCutRow.holds Try.pinned (OpenSpec.ofChange cborCutWrong)

/-- 'propylonlaw28.CborHeads': WHATEVER THE INPUT: true; the input reads as it did. -/
def cborHeadsSpec : ChangeSpec := { name := "cborHeads", fn := fun _ => fun
  | [d1, d2] => { results := [.lit (.bool true)], args := [d1, d2] }
  | _ => none }
def cborHeadsRow : OpenClaim := { program := "ytambhapgjonmmaa", sum := "20807e0e0cfce06d17824047f2beaa5b55828d879f5efed60680a6c5c396e053", func := "propylon/propylonlaw28.CborHeads", spec := "cborHeads", recurses := true, apart := false }
def CborHeadsSaid : Prop := cborHeadsRow.holds Try.pinned (OpenSpec.ofChange cborHeadsSpec)

/-- ITS FALSE NEIGHBOUR: 'it returns false'. Refute it at one input. -/
def cborHeadsWrong : ChangeSpec := { name := "cborHeads", fn := fun _ => fun
  | [d1, d2] => { results := [.lit (.bool false)], args := [d1, d2] }
  | _ => none }
def CborHeadsWrongFalsely : Prop := cborHeadsRow.holds Try.pinned (OpenSpec.ofChange cborHeadsWrong)

/- THE SECOND FORM. 'bulk': how many values and letters a reading holds, each counted each time it is reached (what is shared counts as often as it is met; a slice's spare places count too). A statement '..UptoSaid' is the law's where the arguments, and the package variables that the reading takes, are together of bulk at most 1048576: NARROWER than '..Said'. Prove '..Said' where nothing that the law and all that it calls make is longer than what came in: it says more and counts as full. Else prove '..UptoSaid'. A law counts once. -/
mutual
def uptoBulk {H : Type} : DataW H → Nat
  | .lit (.string bytes) => bytes.length + 1
  | .lit _ => 1
  | .nil => 1
  | .ptr d => uptoBulk d + 1
  | .slice elems spare => uptoBulkAll elems + uptoBulkAll spare + 1
  | .agg parts => uptoBulkAll parts + 1
  | .iface _ d => uptoBulk d + 1
  | .map entries => uptoBulkEntries entries + 1
  | .held _ => 1
def uptoBulkAll {H : Type} : List (DataW H) → Nat
  | [] => 0
  | d :: r => uptoBulk d + uptoBulkAll r
def uptoBulkEntries {H : Type} : List (Lit × DataW H) → Nat
  | [] => 0
  | x :: r => uptoBulkEntry x + uptoBulkEntries r
def uptoBulkEntry {H : Type} : Lit × DataW H → Nat
  | (.string bytes, d) => bytes.length + uptoBulk d + 1
  | (_, d) => uptoBulk d + 1
 end
def uptoSmall : (H : Type) → List (DataW H) → Bool := fun _ ds => decide (uptoBulkAll ds ≤ 1048576)
def OpenSpec.upto (s : _root_.Go.ChangeSpec) : _root_.Go.OpenSpec := { _root_.Go.OpenSpec.ofChange s with cond := some uptoSmall }

/-- 'propylonlaw28.CborWrites', WHERE WHAT IT READS IS OF BULK AT MOST 1048576: true; the input reads as it did. -/
def cborWritesUptoRow : OpenClaim := { program := "ytambhapgjonmmaa", sum := "20807e0e0cfce06d17824047f2beaa5b55828d879f5efed60680a6c5c396e053", func := "propylon/propylonlaw28.CborWrites", spec := "cborWrites", recurses := true, loops := true, apart := false, narrowed := true }
def CborWritesUptoSaid : Prop := cborWritesUptoRow.holds Try.pinned (OpenSpec.upto cborWritesSpec)

/-- 'propylonlaw28.CborReads', WHERE WHAT IT READS IS OF BULK AT MOST 1048576: true; the input reads as it did. -/
def cborReadsUptoRow : OpenClaim := { program := "ytambhapgjonmmaa", sum := "20807e0e0cfce06d17824047f2beaa5b55828d879f5efed60680a6c5c396e053", func := "propylon/propylonlaw28.CborReads", spec := "cborReads", recurses := true, apart := false, narrowed := true }
def CborReadsUptoSaid : Prop := cborReadsUptoRow.holds Try.pinned (OpenSpec.upto cborReadsSpec)

/-- 'propylonlaw28.CborBack', WHERE WHAT IT READS IS OF BULK AT MOST 1048576: true; the input reads as it did. -/
def cborBackUptoRow : OpenClaim := { program := "ytambhapgjonmmaa", sum := "20807e0e0cfce06d17824047f2beaa5b55828d879f5efed60680a6c5c396e053", func := "propylon/propylonlaw28.CborBack", spec := "cborBack", recurses := true, loops := true, apart := false, narrowed := true }
def CborBackUptoSaid : Prop := cborBackUptoRow.holds Try.pinned (OpenSpec.upto cborBackSpec)

/-- 'propylonlaw28.CborJust', WHERE WHAT IT READS IS OF BULK AT MOST 1048576: true; the input reads as it did. -/
def cborJustUptoRow : OpenClaim := { program := "ytambhapgjonmmaa", sum := "20807e0e0cfce06d17824047f2beaa5b55828d879f5efed60680a6c5c396e053", func := "propylon/propylonlaw28.CborJust", spec := "cborJust", recurses := true, apart := false, narrowed := true }
def CborJustUptoSaid : Prop := cborJustUptoRow.holds Try.pinned (OpenSpec.upto cborJustSpec)

/-- 'propylonlaw28.CborCut', WHERE WHAT IT READS IS OF BULK AT MOST 1048576: true; the input reads as it did. -/
def cborCutUptoRow : OpenClaim := { program := "ytambhapgjonmmaa", sum := "20807e0e0cfce06d17824047f2beaa5b55828d879f5efed60680a6c5c396e053", func := "propylon/propylonlaw28.CborCut", spec := "cborCut", recurses := true, loops := true, apart := false, narrowed := true }
def CborCutUptoSaid : Prop := cborCutUptoRow.holds Try.pinned (OpenSpec.upto cborCutSpec)

/-- 'propylonlaw28.CborHeads', WHERE WHAT IT READS IS OF BULK AT MOST 1048576: true; the input reads as it did. -/
def cborHeadsUptoRow : OpenClaim := { program := "ytambhapgjonmmaa", sum := "20807e0e0cfce06d17824047f2beaa5b55828d879f5efed60680a6c5c396e053", func := "propylon/propylonlaw28.CborHeads", spec := "cborHeads", recurses := true, apart := false, narrowed := true }
def CborHeadsUptoSaid : Prop := cborHeadsUptoRow.holds Try.pinned (OpenSpec.upto cborHeadsSpec)

end Rows
end Go.Proofs.Ytambhapgjonmmaa
