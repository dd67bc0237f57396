/-
  No cell of these rows narrows 'for every input' (looked for: loops, veiled, ifaces, maps, wideKeys, modest, calm, conditions, laid).
  DERIVED. THE GIVEN ROWS OF THIS SEAT. 8 by the template 'for every input the law returns true; each argument reads behind the call as it read before'; 0 by the template 'total and deterministic' (their statements: YtebjdlimboifaaaTotals.lean).
  GIVEN WITH THE SEED: the statements are not yours to turn. If you find one false, say at which input.
  Laid BY PROGRAM, IN A SANDBOX (cutbox-rows.mjs): the forced cells as the released guide's own fill.sh prints them over the translation 8dd9d1a78301c093… (all of the seat's roots in one cut). By AI agents, Wed Nov 11 2026. No macro, syntax, notation, axiom, sorry.
-/
import Derived.Test.YtebjdlimboifaaaChecked
import GoSem.Claim
import GoSem.ClaimJoined
import GoSem.ClaimMapViews
import Derived.JoinedTies
import Derived.KernelRfl
namespace Go.Proofs.Ytebjdlimboifaaa
/- THE CELL 'sum', in the pinned program and in every row, IS THE sha256 OF THE DUMP (.gsa) THAT YtebjdlimboifaaaProg.lean LOADS. Nothing in Lean hashes anything: it is a label: what it is worth is what the hold of that sum in a sandbox is worth. -/
noncomputable def Try.pinned : Pinned := { name := "ytebjdlimboifaaa", sum := "8dd9d1a78301c09302e344f9fd95fe680fa1ef6116887f01dea1d052b740d325", checked := Try.checked }
namespace Rows
def none {H : Type} : Left H := { results := [], args := [] }

/-- 'evergreenlaw05.DigestTexts': WHATEVER THE INPUT: true; the input reads as it did. -/
def digestTextsSpec : ChangeSpec := { name := "digestTexts", fn := fun _ => fun
  | [d] => { results := [.lit (.bool true)], args := [d] }
  | _ => none }
def digestTextsRow : OpenClaim := { program := "ytebjdlimboifaaa", sum := "8dd9d1a78301c09302e344f9fd95fe680fa1ef6116887f01dea1d052b740d325", func := "evergreen/evergreenlaw05.DigestTexts", spec := "digestTexts", apart := false }
def DigestTextsSaid : Prop := digestTextsRow.holds Try.pinned (OpenSpec.ofChange digestTextsSpec)

/-- ITS FALSE NEIGHBOUR: 'it returns false'. Refute it at one input. -/
def digestTextsWrong : ChangeSpec := { name := "digestTexts", fn := fun _ => fun
  | [d] => { results := [.lit (.bool false)], args := [d] }
  | _ => none }
def DigestTextsWrongFalsely : Prop := digestTextsRow.holds Try.pinned (OpenSpec.ofChange digestTextsWrong)

/-- 'evergreenlaw05.DigestJoins': WHATEVER THE INPUT: true; the input reads as it did. -/
def digestJoinsSpec : ChangeSpec := { name := "digestJoins", fn := fun _ => fun
  | [d1, d2, d3, d4] => { results := [.lit (.bool true)], args := [d1, d2, d3, d4] }
  | _ => none }
def digestJoinsRow : OpenClaim := { program := "ytebjdlimboifaaa", sum := "8dd9d1a78301c09302e344f9fd95fe680fa1ef6116887f01dea1d052b740d325", func := "evergreen/evergreenlaw05.DigestJoins", spec := "digestJoins", apart := false }
def DigestJoinsSaid : Prop := digestJoinsRow.holds Try.pinned (OpenSpec.ofChange digestJoinsSpec)

/-- ITS FALSE NEIGHBOUR: 'it returns false'. Refute it at one input. -/
def digestJoinsWrong : ChangeSpec := { name := "digestJoins", fn := fun _ => fun
  | [d1, d2, d3, d4] => { results := [.lit (.bool false)], args := [d1, d2, d3, d4] }
  | _ => none }
def DigestJoinsWrongFalsely : Prop := digestJoinsRow.holds Try.pinned (OpenSpec.ofChange digestJoinsWrong)

/-- 'evergreenlaw05.DigestGroups': WHATEVER THE INPUT: true; the input reads as it did. -/
def digestGroupsSpec : ChangeSpec := { name := "digestGroups", fn := fun _ => fun
  | [d1, d2, d3] => { results := [.lit (.bool true)], args := [d1, d2, d3] }
  | _ => none }
def digestGroupsRow : OpenClaim := { program := "ytebjdlimboifaaa", sum := "8dd9d1a78301c09302e344f9fd95fe680fa1ef6116887f01dea1d052b740d325", func := "evergreen/evergreenlaw05.DigestGroups", spec := "digestGroups", apart := false }
def DigestGroupsSaid : Prop := digestGroupsRow.holds Try.pinned (OpenSpec.ofChange digestGroupsSpec)

/-- ITS FALSE NEIGHBOUR: 'it returns false'. Refute it at one input. -/
def digestGroupsWrong : ChangeSpec := { name := "digestGroups", fn := fun _ => fun
  | [d1, d2, d3] => { results := [.lit (.bool false)], args := [d1, d2, d3] }
  | _ => none }
def DigestGroupsWrongFalsely : Prop := digestGroupsRow.holds Try.pinned (OpenSpec.ofChange digestGroupsWrong)

/-- 'evergreenlaw05.DigestLetters': WHATEVER THE INPUT: true; the input reads as it did. -/
def digestLettersSpec : ChangeSpec := { name := "digestLetters", fn := fun _ => fun
  | [d1, d2, d3] => { results := [.lit (.bool true)], args := [d1, d2, d3] }
  | _ => none }
def digestLettersRow : OpenClaim := { program := "ytebjdlimboifaaa", sum := "8dd9d1a78301c09302e344f9fd95fe680fa1ef6116887f01dea1d052b740d325", func := "evergreen/evergreenlaw05.DigestLetters", spec := "digestLetters", apart := false }
def DigestLettersSaid : Prop := digestLettersRow.holds Try.pinned (OpenSpec.ofChange digestLettersSpec)

/-- ITS FALSE NEIGHBOUR: 'it returns false'. Refute it at one input. -/
def digestLettersWrong : ChangeSpec := { name := "digestLetters", fn := fun _ => fun
  | [d1, d2, d3] => { results := [.lit (.bool false)], args := [d1, d2, d3] }
  | _ => none }
def DigestLettersWrongFalsely : Prop := digestLettersRow.holds Try.pinned (OpenSpec.ofChange digestLettersWrong)

/-- 'evergreenlaw05.DigestRepeats': WHATEVER THE INPUT: true; the input reads as it did. -/
def digestRepeatsSpec : ChangeSpec := { name := "digestRepeats", fn := fun _ => fun
  | [d1, d2, d3, d4, d5] => { results := [.lit (.bool true)], args := [d1, d2, d3, d4, d5] }
  | _ => none }
def digestRepeatsRow : OpenClaim := { program := "ytebjdlimboifaaa", sum := "8dd9d1a78301c09302e344f9fd95fe680fa1ef6116887f01dea1d052b740d325", func := "evergreen/evergreenlaw05.DigestRepeats", spec := "digestRepeats", apart := false }
def DigestRepeatsSaid : Prop := digestRepeatsRow.holds Try.pinned (OpenSpec.ofChange digestRepeatsSpec)

/-- ITS FALSE NEIGHBOUR: 'it returns false'. Refute it at one input. -/
def digestRepeatsWrong : ChangeSpec := { name := "digestRepeats", fn := fun _ => fun
  | [d1, d2, d3, d4, d5] => { results := [.lit (.bool false)], args := [d1, d2, d3, d4, d5] }
  | _ => none }
def DigestRepeatsWrongFalsely : Prop := digestRepeatsRow.holds Try.pinned (OpenSpec.ofChange digestRepeatsWrong)

/-- 'evergreenlaw05.DigestRests': WHATEVER THE INPUT: true; the input reads as it did. -/
def digestRestsSpec : ChangeSpec := { name := "digestRests", fn := fun _ => fun
  | [d1, d2] => { results := [.lit (.bool true)], args := [d1, d2] }
  | _ => none }
def digestRestsRow : OpenClaim := { program := "ytebjdlimboifaaa", sum := "8dd9d1a78301c09302e344f9fd95fe680fa1ef6116887f01dea1d052b740d325", func := "evergreen/evergreenlaw05.DigestRests", spec := "digestRests", apart := false }
def DigestRestsSaid : Prop := digestRestsRow.holds Try.pinned (OpenSpec.ofChange digestRestsSpec)

/-- ITS FALSE NEIGHBOUR: 'it returns false'. Refute it at one input. -/
def digestRestsWrong : ChangeSpec := { name := "digestRests", fn := fun _ => fun
  | [d1, d2] => { results := [.lit (.bool false)], args := [d1, d2] }
  | _ => none }
def DigestRestsWrongFalsely : Prop := digestRestsRow.holds Try.pinned (OpenSpec.ofChange digestRestsWrong)

/-- 'evergreenlaw05.DigestParts': WHATEVER THE INPUT: true; the input reads as it did. -/
def digestPartsSpec : ChangeSpec := { name := "digestParts", fn := fun _ => fun
  | [d1, d2] => { results := [.lit (.bool true)], args := [d1, d2] }
  | _ => none }
def digestPartsRow : OpenClaim := { program := "ytebjdlimboifaaa", sum := "8dd9d1a78301c09302e344f9fd95fe680fa1ef6116887f01dea1d052b740d325", func := "evergreen/evergreenlaw05.DigestParts", spec := "digestParts", apart := false }
def DigestPartsSaid : Prop := digestPartsRow.holds Try.pinned (OpenSpec.ofChange digestPartsSpec)

/-- ITS FALSE NEIGHBOUR: 'it returns false'. Refute it at one input. -/
def digestPartsWrong : ChangeSpec := { name := "digestParts", fn := fun _ => fun
  | [d1, d2] => { results := [.lit (.bool false)], args := [d1, d2] }
  | _ => none }
def DigestPartsWrongFalsely : Prop := digestPartsRow.holds Try.pinned (OpenSpec.ofChange digestPartsWrong)

/-- 'evergreenlaw05.DigestBytes': WHATEVER THE INPUT: true; the input reads as it did. -/
def digestBytesSpec : ChangeSpec := { name := "digestBytes", fn := fun _ => fun
  | [d1, d2] => { results := [.lit (.bool true)], args := [d1, d2] }
  | _ => none }
def digestBytesRow : OpenClaim := { program := "ytebjdlimboifaaa", sum := "8dd9d1a78301c09302e344f9fd95fe680fa1ef6116887f01dea1d052b740d325", func := "evergreen/evergreenlaw05.DigestBytes", spec := "digestBytes", apart := false }
def DigestBytesSaid : Prop := digestBytesRow.holds Try.pinned (OpenSpec.ofChange digestBytesSpec)

/-- ITS FALSE NEIGHBOUR: 'it returns false'. Refute it at one input. -/
def digestBytesWrong : ChangeSpec := { name := "digestBytes", fn := fun _ => fun
  | [d1, d2] => { results := [.lit (.bool false)], args := [d1, d2] }
  | _ => none }
def DigestBytesWrongFalsely : Prop := digestBytesRow.holds Try.pinned (OpenSpec.ofChange digestBytesWrong)

/- THE SECOND FORM. 'bulk': how many values and letters a reading holds, each counted each time it is reached (what is shared counts as often as it is met; a slice's spare places count too). A statement '..UptoSaid' is the law's where the arguments, and the package variables that the reading takes, are together of bulk at most 1048576: NARROWER than '..Said'. Prove '..Said' where nothing that the law and all that it calls make is longer than what came in: it says more and counts as full. Else prove '..UptoSaid'. A law counts once. -/
mutual
def uptoBulk {H : Type} : DataW H → Nat
  | .lit (.string bytes) => bytes.length + 1
  | .lit _ => 1
  | .nil => 1
  | .ptr d => uptoBulk d + 1
  | .slice elems spare => uptoBulkAll elems + uptoBulkAll spare + 1
  | .agg parts => uptoBulkAll parts + 1
  | .iface _ d => uptoBulk d + 1
  | .map entries => uptoBulkEntries entries + 1
  | .held _ => 1
def uptoBulkAll {H : Type} : List (DataW H) → Nat
  | [] => 0
  | d :: r => uptoBulk d + uptoBulkAll r
def uptoBulkEntries {H : Type} : List (Lit × DataW H) → Nat
  | [] => 0
  | x :: r => uptoBulkEntry x + uptoBulkEntries r
def uptoBulkEntry {H : Type} : Lit × DataW H → Nat
  | (.string bytes, d) => bytes.length + uptoBulk d + 1
  | (_, d) => uptoBulk d + 1
 end
def uptoSmall : (H : Type) → List (DataW H) → Bool := fun _ ds => decide (uptoBulkAll ds ≤ 1048576)
def OpenSpec.upto (s : _root_.Go.ChangeSpec) : _root_.Go.OpenSpec := { _root_.Go.OpenSpec.ofChange s with cond := some uptoSmall }

/-- 'evergreenlaw05.DigestTexts', WHERE WHAT IT READS IS OF BULK AT MOST 1048576: true; the input reads as it did. -/
def digestTextsUptoRow : OpenClaim := { program := "ytebjdlimboifaaa", sum := "8dd9d1a78301c09302e344f9fd95fe680fa1ef6116887f01dea1d052b740d325", func := "evergreen/evergreenlaw05.DigestTexts", spec := "digestTexts", apart := false, narrowed := true }
def DigestTextsUptoSaid : Prop := digestTextsUptoRow.holds Try.pinned (OpenSpec.upto digestTextsSpec)

/-- 'evergreenlaw05.DigestJoins', WHERE WHAT IT READS IS OF BULK AT MOST 1048576: true; the input reads as it did. -/
def digestJoinsUptoRow : OpenClaim := { program := "ytebjdlimboifaaa", sum := "8dd9d1a78301c09302e344f9fd95fe680fa1ef6116887f01dea1d052b740d325", func := "evergreen/evergreenlaw05.DigestJoins", spec := "digestJoins", apart := false, narrowed := true }
def DigestJoinsUptoSaid : Prop := digestJoinsUptoRow.holds Try.pinned (OpenSpec.upto digestJoinsSpec)

/-- 'evergreenlaw05.DigestGroups', WHERE WHAT IT READS IS OF BULK AT MOST 1048576: true; the input reads as it did. -/
def digestGroupsUptoRow : OpenClaim := { program := "ytebjdlimboifaaa", sum := "8dd9d1a78301c09302e344f9fd95fe680fa1ef6116887f01dea1d052b740d325", func := "evergreen/evergreenlaw05.DigestGroups", spec := "digestGroups", apart := false, narrowed := true }
def DigestGroupsUptoSaid : Prop := digestGroupsUptoRow.holds Try.pinned (OpenSpec.upto digestGroupsSpec)

/-- 'evergreenlaw05.DigestLetters', WHERE WHAT IT READS IS OF BULK AT MOST 1048576: true; the input reads as it did. -/
def digestLettersUptoRow : OpenClaim := { program := "ytebjdlimboifaaa", sum := "8dd9d1a78301c09302e344f9fd95fe680fa1ef6116887f01dea1d052b740d325", func := "evergreen/evergreenlaw05.DigestLetters", spec := "digestLetters", apart := false, narrowed := true }
def DigestLettersUptoSaid : Prop := digestLettersUptoRow.holds Try.pinned (OpenSpec.upto digestLettersSpec)

/-- 'evergreenlaw05.DigestRepeats', WHERE WHAT IT READS IS OF BULK AT MOST 1048576: true; the input reads as it did. -/
def digestRepeatsUptoRow : OpenClaim := { program := "ytebjdlimboifaaa", sum := "8dd9d1a78301c09302e344f9fd95fe680fa1ef6116887f01dea1d052b740d325", func := "evergreen/evergreenlaw05.DigestRepeats", spec := "digestRepeats", apart := false, narrowed := true }
def DigestRepeatsUptoSaid : Prop := digestRepeatsUptoRow.holds Try.pinned (OpenSpec.upto digestRepeatsSpec)

/-- 'evergreenlaw05.DigestRests', WHERE WHAT IT READS IS OF BULK AT MOST 1048576: true; the input reads as it did. -/
def digestRestsUptoRow : OpenClaim := { program := "ytebjdlimboifaaa", sum := "8dd9d1a78301c09302e344f9fd95fe680fa1ef6116887f01dea1d052b740d325", func := "evergreen/evergreenlaw05.DigestRests", spec := "digestRests", apart := false, narrowed := true }
def DigestRestsUptoSaid : Prop := digestRestsUptoRow.holds Try.pinned (OpenSpec.upto digestRestsSpec)

/-- 'evergreenlaw05.DigestParts', WHERE WHAT IT READS IS OF BULK AT MOST 1048576: true; the input reads as it did. -/
def digestPartsUptoRow : OpenClaim := { program := "ytebjdlimboifaaa", sum := "8dd9d1a78301c09302e344f9fd95fe680fa1ef6116887f01dea1d052b740d325", func := "evergreen/evergreenlaw05.DigestParts", spec := "digestParts", apart := false, narrowed := true }
def DigestPartsUptoSaid : Prop := digestPartsUptoRow.holds Try.pinned (OpenSpec.upto digestPartsSpec)

/-- 'evergreenlaw05.DigestBytes', WHERE WHAT IT READS IS OF BULK AT MOST 1048576: true; the input reads as it did. -/
def digestBytesUptoRow : OpenClaim := { program := "ytebjdlimboifaaa", sum := "8dd9d1a78301c09302e344f9fd95fe680fa1ef6116887f01dea1d052b740d325", func := "evergreen/evergreenlaw05.DigestBytes", spec := "digestBytes", apart := false, narrowed := true }
def DigestBytesUptoSaid : Prop := digestBytesUptoRow.holds Try.pinned (OpenSpec.upto digestBytesSpec)

end Rows
end Go.Proofs.Ytebjdlimboifaaa
