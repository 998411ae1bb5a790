/-
  NARROWER THAN 'FOR EVERY INPUT', by the rows' own cells (each row's printed sentence says how): JoutPrints: loops · JoutApart: loops · JsonBack: loops · JsonBehind: loops · JsonCut: loops · JoutBack: loops.
  DERIVED. THE GIVEN ROWS OF THIS SEAT. 15 by the template 'for every input the law returns true; each argument reads behind the call as it read before'; 0 by the template 'total and deterministic' (their statements: YtamhdoijmkjngaaTotals.lean).
  GIVEN WITH THE SEED: the statements are not yours to turn. If you find one false, say at which input.
  Laid BY PROGRAM, IN A SANDBOX (cutbox-rows.mjs): the forced cells as the released guide's own fill.sh prints them over the translation 6132433a416dc6a1… (all of the seat's roots in one cut). By AI agents, Wed Nov 11 2026. No macro, syntax, notation, axiom, sorry.
-/
import Derived.Test.YtamhdoijmkjngaaChecked
import GoSem.Claim
import GoSem.ClaimJoined
import GoSem.ClaimMapViews
import Derived.JoinedTies
import Derived.KernelRfl
namespace Go.Proofs.Ytamhdoijmkjngaa
/- THE CELL 'sum', in the pinned program and in every row, IS THE sha256 OF THE DUMP (.gsa) THAT YtamhdoijmkjngaaProg.lean LOADS. Nothing in Lean hashes anything: it is a label: what it is worth is what the hold of that sum in a sandbox is worth. -/
noncomputable def Try.pinned : Pinned := { name := "ytamhdoijmkjngaa", sum := "6132433a416dc6a1a68e3bba3379dda6a0c407aea4c251995ca40e6bac2a3df1", checked := Try.checked }
namespace Rows
def none {H : Type} : Left H := { results := [], args := [] }

/-- 'propylonlaw24.JoutPrints': WHATEVER THE INPUT: true; the input reads as it did. -/
def joutPrintsSpec : ChangeSpec := { name := "joutPrints", fn := fun _ => fun
  | [d] => { results := [.lit (.bool true)], args := [d] }
  | _ => none }
def joutPrintsRow : OpenClaim := { program := "ytamhdoijmkjngaa", sum := "6132433a416dc6a1a68e3bba3379dda6a0c407aea4c251995ca40e6bac2a3df1", func := "propylon/propylonlaw24.JoutPrints", spec := "joutPrints", inPlace := ["internal/bytealg.IndexByteString"], recurses := true, loops := true, apart := false }
def JoutPrintsSaid : Prop := joutPrintsRow.holds Try.pinned (OpenSpec.ofChange joutPrintsSpec)

/-- ITS FALSE NEIGHBOUR: 'it returns false'. Refute it at one input. -/
def joutPrintsWrong : ChangeSpec := { name := "joutPrints", fn := fun _ => fun
  | [d] => { results := [.lit (.bool false)], args := [d] }
  | _ => none }
def JoutPrintsWrongFalsely : Prop := joutPrintsRow.holds Try.pinned (OpenSpec.ofChange joutPrintsWrong)

/-- 'propylonlaw24.JoutApart': WHATEVER THE INPUT: true; the input reads as it did. -/
def joutApartSpec : ChangeSpec := { name := "joutApart", fn := fun _ => fun
  | [d1, d2] => { results := [.lit (.bool true)], args := [d1, d2] }
  | _ => none }
def joutApartRow : OpenClaim := { program := "ytamhdoijmkjngaa", sum := "6132433a416dc6a1a68e3bba3379dda6a0c407aea4c251995ca40e6bac2a3df1", func := "propylon/propylonlaw24.JoutApart", spec := "joutApart", inPlace := ["internal/bytealg.IndexByteString"], recurses := true, loops := true, apart := false }
def JoutApartSaid : Prop := joutApartRow.holds Try.pinned (OpenSpec.ofChange joutApartSpec)

/-- ITS FALSE NEIGHBOUR: 'it returns false'. Refute it at one input. -/
def joutApartWrong : ChangeSpec := { name := "joutApart", fn := fun _ => fun
  | [d1, d2] => { results := [.lit (.bool false)], args := [d1, d2] }
  | _ => none }
def JoutApartWrongFalsely : Prop := joutApartRow.holds Try.pinned (OpenSpec.ofChange joutApartWrong)

/-- 'propylonlaw22.LexNext': WHATEVER THE INPUT: true; the input reads as it did. -/
def lexNextSpec : ChangeSpec := { name := "lexNext", fn := fun _ => fun
  | [d1, d2] => { results := [.lit (.bool true)], args := [d1, d2] }
  | _ => none }
def lexNextRow : OpenClaim := { program := "ytamhdoijmkjngaa", sum := "6132433a416dc6a1a68e3bba3379dda6a0c407aea4c251995ca40e6bac2a3df1", func := "propylon/propylonlaw22.LexNext", spec := "lexNext", inPlace := ["internal/bytealg.IndexByteString"], apart := false }
def LexNextSaid : Prop := lexNextRow.holds Try.pinned (OpenSpec.ofChange lexNextSpec)

/-- ITS FALSE NEIGHBOUR: 'it returns false'. Refute it at one input. -/
def lexNextWrong : ChangeSpec := { name := "lexNext", fn := fun _ => fun
  | [d1, d2] => { results := [.lit (.bool false)], args := [d1, d2] }
  | _ => none }
def LexNextWrongFalsely : Prop := lexNextRow.holds Try.pinned (OpenSpec.ofChange lexNextWrong)

/-- 'propylonlaw22.LexStrs': WHATEVER THE INPUT: true; the input reads as it did. -/
def lexStrsSpec : ChangeSpec := { name := "lexStrs", fn := fun _ => fun
  | [d1, d2] => { results := [.lit (.bool true)], args := [d1, d2] }
  | _ => none }
def lexStrsRow : OpenClaim := { program := "ytamhdoijmkjngaa", sum := "6132433a416dc6a1a68e3bba3379dda6a0c407aea4c251995ca40e6bac2a3df1", func := "propylon/propylonlaw22.LexStrs", spec := "lexStrs", inPlace := ["internal/bytealg.IndexByteString"], apart := false }
def LexStrsSaid : Prop := lexStrsRow.holds Try.pinned (OpenSpec.ofChange lexStrsSpec)

/-- ITS FALSE NEIGHBOUR: 'it returns false'. Refute it at one input. -/
def lexStrsWrong : ChangeSpec := { name := "lexStrs", fn := fun _ => fun
  | [d1, d2] => { results := [.lit (.bool false)], args := [d1, d2] }
  | _ => none }
def LexStrsWrongFalsely : Prop := lexStrsRow.holds Try.pinned (OpenSpec.ofChange lexStrsWrong)

/-- 'propylonlaw22.LexCodes': WHATEVER THE INPUT: true; the input reads as it did. -/
def lexCodesSpec : ChangeSpec := { name := "lexCodes", fn := fun _ => fun
  | [d1, d2] => { results := [.lit (.bool true)], args := [d1, d2] }
  | _ => none }
def lexCodesRow : OpenClaim := { program := "ytamhdoijmkjngaa", sum := "6132433a416dc6a1a68e3bba3379dda6a0c407aea4c251995ca40e6bac2a3df1", func := "propylon/propylonlaw22.LexCodes", spec := "lexCodes", inPlace := ["internal/bytealg.IndexByteString"], apart := false }
def LexCodesSaid : Prop := lexCodesRow.holds Try.pinned (OpenSpec.ofChange lexCodesSpec)

/-- ITS FALSE NEIGHBOUR: 'it returns false'. Refute it at one input. -/
def lexCodesWrong : ChangeSpec := { name := "lexCodes", fn := fun _ => fun
  | [d1, d2] => { results := [.lit (.bool false)], args := [d1, d2] }
  | _ => none }
def LexCodesWrongFalsely : Prop := lexCodesRow.holds Try.pinned (OpenSpec.ofChange lexCodesWrong)

/-- 'propylonlaw22.LexBlanks': WHATEVER THE INPUT: true; the input reads as it did. -/
def lexBlanksSpec : ChangeSpec := { name := "lexBlanks", fn := fun _ => fun
  | [d1, d2] => { results := [.lit (.bool true)], args := [d1, d2] }
  | _ => none }
def lexBlanksRow : OpenClaim := { program := "ytamhdoijmkjngaa", sum := "6132433a416dc6a1a68e3bba3379dda6a0c407aea4c251995ca40e6bac2a3df1", func := "propylon/propylonlaw22.LexBlanks", spec := "lexBlanks", inPlace := ["internal/bytealg.IndexByteString"], apart := false }
def LexBlanksSaid : Prop := lexBlanksRow.holds Try.pinned (OpenSpec.ofChange lexBlanksSpec)

/-- ITS FALSE NEIGHBOUR: 'it returns false'. Refute it at one input. -/
def lexBlanksWrong : ChangeSpec := { name := "lexBlanks", fn := fun _ => fun
  | [d1, d2] => { results := [.lit (.bool false)], args := [d1, d2] }
  | _ => none }
def LexBlanksWrongFalsely : Prop := lexBlanksRow.holds Try.pinned (OpenSpec.ofChange lexBlanksWrong)

/-- 'propylonlaw22.LexWalks': WHATEVER THE INPUT: true; the input reads as it did. -/
def lexWalksSpec : ChangeSpec := { name := "lexWalks", fn := fun _ => fun
  | [d] => { results := [.lit (.bool true)], args := [d] }
  | _ => none }
def lexWalksRow : OpenClaim := { program := "ytamhdoijmkjngaa", sum := "6132433a416dc6a1a68e3bba3379dda6a0c407aea4c251995ca40e6bac2a3df1", func := "propylon/propylonlaw22.LexWalks", spec := "lexWalks", inPlace := ["internal/bytealg.IndexByteString"], apart := false }
def LexWalksSaid : Prop := lexWalksRow.holds Try.pinned (OpenSpec.ofChange lexWalksSpec)

/-- ITS FALSE NEIGHBOUR: 'it returns false'. Refute it at one input. -/
def lexWalksWrong : ChangeSpec := { name := "lexWalks", fn := fun _ => fun
  | [d] => { results := [.lit (.bool false)], args := [d] }
  | _ => none }
def LexWalksWrongFalsely : Prop := lexWalksRow.holds Try.pinned (OpenSpec.ofChange lexWalksWrong)

/-- 'propylonlaw23.JsonParses': WHATEVER THE INPUT: true; the input reads as it did. -/
def jsonParsesSpec : ChangeSpec := { name := "jsonParses", fn := fun _ => fun
  | [d1, d2] => { results := [.lit (.bool true)], args := [d1, d2] }
  | _ => none }
def jsonParsesRow : OpenClaim := { program := "ytamhdoijmkjngaa", sum := "6132433a416dc6a1a68e3bba3379dda6a0c407aea4c251995ca40e6bac2a3df1", func := "propylon/propylonlaw23.JsonParses", spec := "jsonParses", inPlace := ["internal/bytealg.IndexByteString"], recurses := true, apart := false }
def JsonParsesSaid : Prop := jsonParsesRow.holds Try.pinned (OpenSpec.ofChange jsonParsesSpec)

/-- ITS FALSE NEIGHBOUR: 'it returns false'. Refute it at one input. -/
def jsonParsesWrong : ChangeSpec := { name := "jsonParses", fn := fun _ => fun
  | [d1, d2] => { results := [.lit (.bool false)], args := [d1, d2] }
  | _ => none }
def JsonParsesWrongFalsely : Prop := jsonParsesRow.holds Try.pinned (OpenSpec.ofChange jsonParsesWrong)

/-- 'propylonlaw23.JsonBack': WHATEVER THE INPUT: true; the input reads as it did. -/
def jsonBackSpec : ChangeSpec := { name := "jsonBack", fn := fun _ => fun
  | [d] => { results := [.lit (.bool true)], args := [d] }
  | _ => none }
def jsonBackRow : OpenClaim := { program := "ytamhdoijmkjngaa", sum := "6132433a416dc6a1a68e3bba3379dda6a0c407aea4c251995ca40e6bac2a3df1", func := "propylon/propylonlaw23.JsonBack", spec := "jsonBack", inPlace := ["internal/bytealg.IndexByteString"], recurses := true, loops := true, apart := false }
def JsonBackSaid : Prop := jsonBackRow.holds Try.pinned (OpenSpec.ofChange jsonBackSpec)

/-- ITS FALSE NEIGHBOUR: 'it returns false'. Refute it at one input. -/
def jsonBackWrong : ChangeSpec := { name := "jsonBack", fn := fun _ => fun
  | [d] => { results := [.lit (.bool false)], args := [d] }
  | _ => none }
def JsonBackWrongFalsely : Prop := jsonBackRow.holds Try.pinned (OpenSpec.ofChange jsonBackWrong)

/-- 'propylonlaw23.JsonBehind': WHATEVER THE INPUT: true; the input reads as it did. -/
def jsonBehindSpec : ChangeSpec := { name := "jsonBehind", fn := fun _ => fun
  | [d1, d2] => { results := [.lit (.bool true)], args := [d1, d2] }
  | _ => none }
def jsonBehindRow : OpenClaim := { program := "ytamhdoijmkjngaa", sum := "6132433a416dc6a1a68e3bba3379dda6a0c407aea4c251995ca40e6bac2a3df1", func := "propylon/propylonlaw23.JsonBehind", spec := "jsonBehind", inPlace := ["internal/bytealg.IndexByteString"], recurses := true, loops := true, apart := false }
def JsonBehindSaid : Prop := jsonBehindRow.holds Try.pinned (OpenSpec.ofChange jsonBehindSpec)

/-- ITS FALSE NEIGHBOUR: 'it returns false'. Refute it at one input. -/
def jsonBehindWrong : ChangeSpec := { name := "jsonBehind", fn := fun _ => fun
  | [d1, d2] => { results := [.lit (.bool false)], args := [d1, d2] }
  | _ => none }
def JsonBehindWrongFalsely : Prop := jsonBehindRow.holds Try.pinned (OpenSpec.ofChange jsonBehindWrong)

/-- 'propylonlaw23.JsonDeep': WHATEVER THE INPUT: true; the input reads as it did. -/
def jsonDeepSpec : ChangeSpec := { name := "jsonDeep", fn := fun _ => fun
  | [d1, d2] => { results := [.lit (.bool true)], args := [d1, d2] }
  | _ => none }
def jsonDeepRow : OpenClaim := { program := "ytamhdoijmkjngaa", sum := "6132433a416dc6a1a68e3bba3379dda6a0c407aea4c251995ca40e6bac2a3df1", func := "propylon/propylonlaw23.JsonDeep", spec := "jsonDeep", inPlace := ["internal/bytealg.IndexByteString"], recurses := true, apart := false }
def JsonDeepSaid : Prop := jsonDeepRow.holds Try.pinned (OpenSpec.ofChange jsonDeepSpec)

/-- ITS FALSE NEIGHBOUR: 'it returns false'. Refute it at one input. -/
def jsonDeepWrong : ChangeSpec := { name := "jsonDeep", fn := fun _ => fun
  | [d1, d2] => { results := [.lit (.bool false)], args := [d1, d2] }
  | _ => none }
def JsonDeepWrongFalsely : Prop := jsonDeepRow.holds Try.pinned (OpenSpec.ofChange jsonDeepWrong)

/-- 'propylonlaw23.JsonCut': WHATEVER THE INPUT: true; the input reads as it did. -/
def jsonCutSpec : ChangeSpec := { name := "jsonCut", fn := fun _ => fun
  | [d1, d2] => { results := [.lit (.bool true)], args := [d1, d2] }
  | _ => none }
def jsonCutRow : OpenClaim := { program := "ytamhdoijmkjngaa", sum := "6132433a416dc6a1a68e3bba3379dda6a0c407aea4c251995ca40e6bac2a3df1", func := "propylon/propylonlaw23.JsonCut", spec := "jsonCut", inPlace := ["internal/bytealg.IndexByteString"], recurses := true, loops := true, apart := false }
def JsonCutSaid : Prop := jsonCutRow.holds Try.pinned (OpenSpec.ofChange jsonCutSpec)

/-- ITS FALSE NEIGHBOUR: 'it returns false'. Refute it at one input. -/
def jsonCutWrong : ChangeSpec := { name := "jsonCut", fn := fun _ => fun
  | [d1, d2] => { results := [.lit (.bool false)], args := [d1, d2] }
  | _ => none }
def JsonCutWrongFalsely : Prop := jsonCutRow.holds Try.pinned (OpenSpec.ofChange jsonCutWrong)

/-- 'propylonlaw24.JoutQuotes': WHATEVER THE INPUT: true; the input reads as it did. -/
def joutQuotesSpec : ChangeSpec := { name := "joutQuotes", fn := fun _ => fun
  | [d] => { results := [.lit (.bool true)], args := [d] }
  | _ => none }
def joutQuotesRow : OpenClaim := { program := "ytamhdoijmkjngaa", sum := "6132433a416dc6a1a68e3bba3379dda6a0c407aea4c251995ca40e6bac2a3df1", func := "propylon/propylonlaw24.JoutQuotes", spec := "joutQuotes", inPlace := ["internal/bytealg.IndexByteString"], recurses := true, apart := false }
def JoutQuotesSaid : Prop := joutQuotesRow.holds Try.pinned (OpenSpec.ofChange joutQuotesSpec)

/-- ITS FALSE NEIGHBOUR: 'it returns false'. Refute it at one input. -/
def joutQuotesWrong : ChangeSpec := { name := "joutQuotes", fn := fun _ => fun
  | [d] => { results := [.lit (.bool false)], args := [d] }
  | _ => none }
def JoutQuotesWrongFalsely : Prop := joutQuotesRow.holds Try.pinned (OpenSpec.ofChange joutQuotesWrong)

/-- 'propylonlaw24.JoutBack': WHATEVER THE INPUT: true; the input reads as it did. -/
def joutBackSpec : ChangeSpec := { name := "joutBack", fn := fun _ => fun
  | [d] => { results := [.lit (.bool true)], args := [d] }
  | _ => none }
def joutBackRow : OpenClaim := { program := "ytamhdoijmkjngaa", sum := "6132433a416dc6a1a68e3bba3379dda6a0c407aea4c251995ca40e6bac2a3df1", func := "propylon/propylonlaw24.JoutBack", spec := "joutBack", inPlace := ["internal/bytealg.IndexByteString"], recurses := true, loops := true, apart := false }
def JoutBackSaid : Prop := joutBackRow.holds Try.pinned (OpenSpec.ofChange joutBackSpec)

/-- ITS FALSE NEIGHBOUR: 'it returns false'. Refute it at one input. -/
def joutBackWrong : ChangeSpec := { name := "joutBack", fn := fun _ => fun
  | [d] => { results := [.lit (.bool false)], args := [d] }
  | _ => none }
def JoutBackWrongFalsely : Prop := joutBackRow.holds Try.pinned (OpenSpec.ofChange joutBackWrong)

/-- 'propylonlaw24.JoutTwice': WHATEVER THE INPUT: true; the input reads as it did. -/
def joutTwiceSpec : ChangeSpec := { name := "joutTwice", fn := fun _ => fun
  | [d] => { results := [.lit (.bool true)], args := [d] }
  | _ => none }
def joutTwiceRow : OpenClaim := { program := "ytamhdoijmkjngaa", sum := "6132433a416dc6a1a68e3bba3379dda6a0c407aea4c251995ca40e6bac2a3df1", func := "propylon/propylonlaw24.JoutTwice", spec := "joutTwice", inPlace := ["internal/bytealg.IndexByteString"], recurses := true, apart := false }
def JoutTwiceSaid : Prop := joutTwiceRow.holds Try.pinned (OpenSpec.ofChange joutTwiceSpec)

/-- ITS FALSE NEIGHBOUR: 'it returns false'. Refute it at one input. -/
def joutTwiceWrong : ChangeSpec := { name := "joutTwice", fn := fun _ => fun
  | [d] => { results := [.lit (.bool false)], args := [d] }
  | _ => none }
def JoutTwiceWrongFalsely : Prop := joutTwiceRow.holds Try.pinned (OpenSpec.ofChange joutTwiceWrong)

/- THE SECOND FORM. 'bulk': how many values and letters a reading holds, each counted each time it is reached (what is shared counts as often as it is met; a slice's spare places count too). A statement '..UptoSaid' is the law's where the arguments, and the package variables that the reading takes, are together of bulk at most 1048576: NARROWER than '..Said'. Prove '..Said' where nothing that the law and all that it calls make is longer than what came in: it says more and counts as full. Else prove '..UptoSaid'. A law counts once. -/
mutual
def uptoBulk {H : Type} : DataW H → Nat
  | .lit (.string bytes) => bytes.length + 1
  | .lit _ => 1
  | .nil => 1
  | .ptr d => uptoBulk d + 1
  | .slice elems spare => uptoBulkAll elems + uptoBulkAll spare + 1
  | .agg parts => uptoBulkAll parts + 1
  | .iface _ d => uptoBulk d + 1
  | .map entries => uptoBulkEntries entries + 1
  | .held _ => 1
def uptoBulkAll {H : Type} : List (DataW H) → Nat
  | [] => 0
  | d :: r => uptoBulk d + uptoBulkAll r
def uptoBulkEntries {H : Type} : List (Lit × DataW H) → Nat
  | [] => 0
  | x :: r => uptoBulkEntry x + uptoBulkEntries r
def uptoBulkEntry {H : Type} : Lit × DataW H → Nat
  | (.string bytes, d) => bytes.length + uptoBulk d + 1
  | (_, d) => uptoBulk d + 1
 end
def uptoSmall : (H : Type) → List (DataW H) → Bool := fun _ ds => decide (uptoBulkAll ds ≤ 1048576)
def OpenSpec.upto (s : _root_.Go.ChangeSpec) : _root_.Go.OpenSpec := { _root_.Go.OpenSpec.ofChange s with cond := some uptoSmall }

/-- 'propylonlaw24.JoutPrints', WHERE WHAT IT READS IS OF BULK AT MOST 1048576: true; the input reads as it did. -/
def joutPrintsUptoRow : OpenClaim := { program := "ytamhdoijmkjngaa", sum := "6132433a416dc6a1a68e3bba3379dda6a0c407aea4c251995ca40e6bac2a3df1", func := "propylon/propylonlaw24.JoutPrints", spec := "joutPrints", inPlace := ["internal/bytealg.IndexByteString"], recurses := true, loops := true, apart := false, narrowed := true }
def JoutPrintsUptoSaid : Prop := joutPrintsUptoRow.holds Try.pinned (OpenSpec.upto joutPrintsSpec)

/-- 'propylonlaw24.JoutApart', WHERE WHAT IT READS IS OF BULK AT MOST 1048576: true; the input reads as it did. -/
def joutApartUptoRow : OpenClaim := { program := "ytamhdoijmkjngaa", sum := "6132433a416dc6a1a68e3bba3379dda6a0c407aea4c251995ca40e6bac2a3df1", func := "propylon/propylonlaw24.JoutApart", spec := "joutApart", inPlace := ["internal/bytealg.IndexByteString"], recurses := true, loops := true, apart := false, narrowed := true }
def JoutApartUptoSaid : Prop := joutApartUptoRow.holds Try.pinned (OpenSpec.upto joutApartSpec)

/-- 'propylonlaw22.LexNext', WHERE WHAT IT READS IS OF BULK AT MOST 1048576: true; the input reads as it did. -/
def lexNextUptoRow : OpenClaim := { program := "ytamhdoijmkjngaa", sum := "6132433a416dc6a1a68e3bba3379dda6a0c407aea4c251995ca40e6bac2a3df1", func := "propylon/propylonlaw22.LexNext", spec := "lexNext", inPlace := ["internal/bytealg.IndexByteString"], apart := false, narrowed := true }
def LexNextUptoSaid : Prop := lexNextUptoRow.holds Try.pinned (OpenSpec.upto lexNextSpec)

/-- 'propylonlaw22.LexStrs', WHERE WHAT IT READS IS OF BULK AT MOST 1048576: true; the input reads as it did. -/
def lexStrsUptoRow : OpenClaim := { program := "ytamhdoijmkjngaa", sum := "6132433a416dc6a1a68e3bba3379dda6a0c407aea4c251995ca40e6bac2a3df1", func := "propylon/propylonlaw22.LexStrs", spec := "lexStrs", inPlace := ["internal/bytealg.IndexByteString"], apart := false, narrowed := true }
def LexStrsUptoSaid : Prop := lexStrsUptoRow.holds Try.pinned (OpenSpec.upto lexStrsSpec)

/-- 'propylonlaw22.LexCodes', WHERE WHAT IT READS IS OF BULK AT MOST 1048576: true; the input reads as it did. -/
def lexCodesUptoRow : OpenClaim := { program := "ytamhdoijmkjngaa", sum := "6132433a416dc6a1a68e3bba3379dda6a0c407aea4c251995ca40e6bac2a3df1", func := "propylon/propylonlaw22.LexCodes", spec := "lexCodes", inPlace := ["internal/bytealg.IndexByteString"], apart := false, narrowed := true }
def LexCodesUptoSaid : Prop := lexCodesUptoRow.holds Try.pinned (OpenSpec.upto lexCodesSpec)

/-- 'propylonlaw22.LexBlanks', WHERE WHAT IT READS IS OF BULK AT MOST 1048576: true; the input reads as it did. -/
def lexBlanksUptoRow : OpenClaim := { program := "ytamhdoijmkjngaa", sum := "6132433a416dc6a1a68e3bba3379dda6a0c407aea4c251995ca40e6bac2a3df1", func := "propylon/propylonlaw22.LexBlanks", spec := "lexBlanks", inPlace := ["internal/bytealg.IndexByteString"], apart := false, narrowed := true }
def LexBlanksUptoSaid : Prop := lexBlanksUptoRow.holds Try.pinned (OpenSpec.upto lexBlanksSpec)

/-- 'propylonlaw22.LexWalks', WHERE WHAT IT READS IS OF BULK AT MOST 1048576: true; the input reads as it did. -/
def lexWalksUptoRow : OpenClaim := { program := "ytamhdoijmkjngaa", sum := "6132433a416dc6a1a68e3bba3379dda6a0c407aea4c251995ca40e6bac2a3df1", func := "propylon/propylonlaw22.LexWalks", spec := "lexWalks", inPlace := ["internal/bytealg.IndexByteString"], apart := false, narrowed := true }
def LexWalksUptoSaid : Prop := lexWalksUptoRow.holds Try.pinned (OpenSpec.upto lexWalksSpec)

/-- 'propylonlaw23.JsonParses', WHERE WHAT IT READS IS OF BULK AT MOST 1048576: true; the input reads as it did. -/
def jsonParsesUptoRow : OpenClaim := { program := "ytamhdoijmkjngaa", sum := "6132433a416dc6a1a68e3bba3379dda6a0c407aea4c251995ca40e6bac2a3df1", func := "propylon/propylonlaw23.JsonParses", spec := "jsonParses", inPlace := ["internal/bytealg.IndexByteString"], recurses := true, apart := false, narrowed := true }
def JsonParsesUptoSaid : Prop := jsonParsesUptoRow.holds Try.pinned (OpenSpec.upto jsonParsesSpec)

/-- 'propylonlaw23.JsonBack', WHERE WHAT IT READS IS OF BULK AT MOST 1048576: true; the input reads as it did. -/
def jsonBackUptoRow : OpenClaim := { program := "ytamhdoijmkjngaa", sum := "6132433a416dc6a1a68e3bba3379dda6a0c407aea4c251995ca40e6bac2a3df1", func := "propylon/propylonlaw23.JsonBack", spec := "jsonBack", inPlace := ["internal/bytealg.IndexByteString"], recurses := true, loops := true, apart := false, narrowed := true }
def JsonBackUptoSaid : Prop := jsonBackUptoRow.holds Try.pinned (OpenSpec.upto jsonBackSpec)

/-- 'propylonlaw23.JsonBehind', WHERE WHAT IT READS IS OF BULK AT MOST 1048576: true; the input reads as it did. -/
def jsonBehindUptoRow : OpenClaim := { program := "ytamhdoijmkjngaa", sum := "6132433a416dc6a1a68e3bba3379dda6a0c407aea4c251995ca40e6bac2a3df1", func := "propylon/propylonlaw23.JsonBehind", spec := "jsonBehind", inPlace := ["internal/bytealg.IndexByteString"], recurses := true, loops := true, apart := false, narrowed := true }
def JsonBehindUptoSaid : Prop := jsonBehindUptoRow.holds Try.pinned (OpenSpec.upto jsonBehindSpec)

/-- 'propylonlaw23.JsonDeep', WHERE WHAT IT READS IS OF BULK AT MOST 1048576: true; the input reads as it did. -/
def jsonDeepUptoRow : OpenClaim := { program := "ytamhdoijmkjngaa", sum := "6132433a416dc6a1a68e3bba3379dda6a0c407aea4c251995ca40e6bac2a3df1", func := "propylon/propylonlaw23.JsonDeep", spec := "jsonDeep", inPlace := ["internal/bytealg.IndexByteString"], recurses := true, apart := false, narrowed := true }
def JsonDeepUptoSaid : Prop := jsonDeepUptoRow.holds Try.pinned (OpenSpec.upto jsonDeepSpec)

/-- 'propylonlaw23.JsonCut', WHERE WHAT IT READS IS OF BULK AT MOST 1048576: true; the input reads as it did. -/
def jsonCutUptoRow : OpenClaim := { program := "ytamhdoijmkjngaa", sum := "6132433a416dc6a1a68e3bba3379dda6a0c407aea4c251995ca40e6bac2a3df1", func := "propylon/propylonlaw23.JsonCut", spec := "jsonCut", inPlace := ["internal/bytealg.IndexByteString"], recurses := true, loops := true, apart := false, narrowed := true }
def JsonCutUptoSaid : Prop := jsonCutUptoRow.holds Try.pinned (OpenSpec.upto jsonCutSpec)

/-- 'propylonlaw24.JoutQuotes', WHERE WHAT IT READS IS OF BULK AT MOST 1048576: true; the input reads as it did. -/
def joutQuotesUptoRow : OpenClaim := { program := "ytamhdoijmkjngaa", sum := "6132433a416dc6a1a68e3bba3379dda6a0c407aea4c251995ca40e6bac2a3df1", func := "propylon/propylonlaw24.JoutQuotes", spec := "joutQuotes", inPlace := ["internal/bytealg.IndexByteString"], recurses := true, apart := false, narrowed := true }
def JoutQuotesUptoSaid : Prop := joutQuotesUptoRow.holds Try.pinned (OpenSpec.upto joutQuotesSpec)

/-- 'propylonlaw24.JoutBack', WHERE WHAT IT READS IS OF BULK AT MOST 1048576: true; the input reads as it did. -/
def joutBackUptoRow : OpenClaim := { program := "ytamhdoijmkjngaa", sum := "6132433a416dc6a1a68e3bba3379dda6a0c407aea4c251995ca40e6bac2a3df1", func := "propylon/propylonlaw24.JoutBack", spec := "joutBack", inPlace := ["internal/bytealg.IndexByteString"], recurses := true, loops := true, apart := false, narrowed := true }
def JoutBackUptoSaid : Prop := joutBackUptoRow.holds Try.pinned (OpenSpec.upto joutBackSpec)

/-- 'propylonlaw24.JoutTwice', WHERE WHAT IT READS IS OF BULK AT MOST 1048576: true; the input reads as it did. -/
def joutTwiceUptoRow : OpenClaim := { program := "ytamhdoijmkjngaa", sum := "6132433a416dc6a1a68e3bba3379dda6a0c407aea4c251995ca40e6bac2a3df1", func := "propylon/propylonlaw24.JoutTwice", spec := "joutTwice", inPlace := ["internal/bytealg.IndexByteString"], recurses := true, apart := false, narrowed := true }
def JoutTwiceUptoSaid : Prop := joutTwiceUptoRow.holds Try.pinned (OpenSpec.upto joutTwiceSpec)

end Rows
end Go.Proofs.Ytamhdoijmkjngaa
