/-
  No cell of these rows narrows 'for every input' (looked for: loops, veiled, ifaces, maps, wideKeys, modest, calm, conditions, laid).
  DERIVED. THE GIVEN ROWS OF THIS SEAT. 12 by the template 'for every input the law returns true; each argument reads behind the call as it read before'; 0 by the template 'total and deterministic' (their statements: YtcbahojefglakaaTotals.lean).
  GIVEN WITH THE SEED: the statements are not yours to turn. If you find one false, say at which input.
  Laid BY PROGRAM, IN A SANDBOX (cutbox-rows.mjs): the forced cells as the released guide's own fill.sh prints them over the translation e4a90012103d4a90… (all of the seat's roots in one cut). By AI agents, Wed Nov 11 2026. No macro, syntax, notation, axiom, sorry.
-/
import Derived.Test.YtcbahojefglakaaChecked
import GoSem.Claim
import GoSem.ClaimJoined
import GoSem.ClaimMapViews
import Derived.JoinedTies
import Derived.KernelRfl
namespace Go.Proofs.Ytcbahojefglakaa
/- THE CELL 'sum', in the pinned program and in every row, IS THE sha256 OF THE DUMP (.gsa) THAT YtcbahojefglakaaProg.lean LOADS. Nothing in Lean hashes anything: it is a label: what it is worth is what the hold of that sum in a sandbox is worth. -/
noncomputable def Try.pinned : Pinned := { name := "ytcbahojefglakaa", sum := "e4a90012103d4a901f8ac9be1e55892d146a598451b0f9c5d3baaea76885407d", checked := Try.checked }
namespace Rows
def none {H : Type} : Left H := { results := [], args := [] }

/-- 'evergreenlaw11.GrammarExpands': WHATEVER THE INPUT: true; the input reads as it did. -/
def grammarExpandsSpec : ChangeSpec := { name := "grammarExpands", fn := fun _ => fun
  | [d1, d2] => { results := [.lit (.bool true)], args := [d1, d2] }
  | _ => none }
def grammarExpandsRow : OpenClaim := { program := "ytcbahojefglakaa", sum := "e4a90012103d4a901f8ac9be1e55892d146a598451b0f9c5d3baaea76885407d", func := "evergreen/evergreenlaw11.GrammarExpands", spec := "grammarExpands", recurses := true, plainKeys := false, apart := false }
def GrammarExpandsSaid : Prop := grammarExpandsRow.holds Try.pinned (OpenSpec.ofChange grammarExpandsSpec)

/-- ITS FALSE NEIGHBOUR: 'it returns false'. Refute it at one input. -/
def grammarExpandsWrong : ChangeSpec := { name := "grammarExpands", fn := fun _ => fun
  | [d1, d2] => { results := [.lit (.bool false)], args := [d1, d2] }
  | _ => none }
def GrammarExpandsWrongFalsely : Prop := grammarExpandsRow.holds Try.pinned (OpenSpec.ofChange grammarExpandsWrong)

/-- 'evergreenlaw11.GrammarDepths': WHATEVER THE INPUT: true; the input reads as it did. -/
def grammarDepthsSpec : ChangeSpec := { name := "grammarDepths", fn := fun _ => fun
  | [d] => { results := [.lit (.bool true)], args := [d] }
  | _ => none }
def grammarDepthsRow : OpenClaim := { program := "ytcbahojefglakaa", sum := "e4a90012103d4a901f8ac9be1e55892d146a598451b0f9c5d3baaea76885407d", func := "evergreen/evergreenlaw11.GrammarDepths", spec := "grammarDepths", plainKeys := false, apart := false }
def GrammarDepthsSaid : Prop := grammarDepthsRow.holds Try.pinned (OpenSpec.ofChange grammarDepthsSpec)

/-- ITS FALSE NEIGHBOUR: 'it returns false'. Refute it at one input. -/
def grammarDepthsWrong : ChangeSpec := { name := "grammarDepths", fn := fun _ => fun
  | [d] => { results := [.lit (.bool false)], args := [d] }
  | _ => none }
def GrammarDepthsWrongFalsely : Prop := grammarDepthsRow.holds Try.pinned (OpenSpec.ofChange grammarDepthsWrong)

/-- 'evergreenlaw11.GrammarUses': WHATEVER THE INPUT: true; the input reads as it did. -/
def grammarUsesSpec : ChangeSpec := { name := "grammarUses", fn := fun _ => fun
  | [d] => { results := [.lit (.bool true)], args := [d] }
  | _ => none }
def grammarUsesRow : OpenClaim := { program := "ytcbahojefglakaa", sum := "e4a90012103d4a901f8ac9be1e55892d146a598451b0f9c5d3baaea76885407d", func := "evergreen/evergreenlaw11.GrammarUses", spec := "grammarUses", plainKeys := false, apart := false }
def GrammarUsesSaid : Prop := grammarUsesRow.holds Try.pinned (OpenSpec.ofChange grammarUsesSpec)

/-- ITS FALSE NEIGHBOUR: 'it returns false'. Refute it at one input. -/
def grammarUsesWrong : ChangeSpec := { name := "grammarUses", fn := fun _ => fun
  | [d] => { results := [.lit (.bool false)], args := [d] }
  | _ => none }
def GrammarUsesWrongFalsely : Prop := grammarUsesRow.holds Try.pinned (OpenSpec.ofChange grammarUsesWrong)

/-- 'evergreenlaw11.GrammarTexts': WHATEVER THE INPUT: true; the input reads as it did. -/
def grammarTextsSpec : ChangeSpec := { name := "grammarTexts", fn := fun _ => fun
  | [d1, d2] => { results := [.lit (.bool true)], args := [d1, d2] }
  | _ => none }
def grammarTextsRow : OpenClaim := { program := "ytcbahojefglakaa", sum := "e4a90012103d4a901f8ac9be1e55892d146a598451b0f9c5d3baaea76885407d", func := "evergreen/evergreenlaw11.GrammarTexts", spec := "grammarTexts", unfollowed := true, recurses := true, plainKeys := false, apart := false }
def GrammarTextsSaid : Prop := grammarTextsRow.holds Try.pinned (OpenSpec.ofChange grammarTextsSpec)

/-- ITS FALSE NEIGHBOUR: 'it returns false'. Refute it at one input. -/
def grammarTextsWrong : ChangeSpec := { name := "grammarTexts", fn := fun _ => fun
  | [d1, d2] => { results := [.lit (.bool false)], args := [d1, d2] }
  | _ => none }
def GrammarTextsWrongFalsely : Prop := grammarTextsRow.holds Try.pinned (OpenSpec.ofChange grammarTextsWrong)

/-- 'evergreenlaw11.GrammarTrims': WHATEVER THE INPUT: true; the input reads as it did. -/
def grammarTrimsSpec : ChangeSpec := { name := "grammarTrims", fn := fun _ => fun
  | [d] => { results := [.lit (.bool true)], args := [d] }
  | _ => none }
def grammarTrimsRow : OpenClaim := { program := "ytcbahojefglakaa", sum := "e4a90012103d4a901f8ac9be1e55892d146a598451b0f9c5d3baaea76885407d", func := "evergreen/evergreenlaw11.GrammarTrims", spec := "grammarTrims", plainKeys := false, apart := false }
def GrammarTrimsSaid : Prop := grammarTrimsRow.holds Try.pinned (OpenSpec.ofChange grammarTrimsSpec)

/-- ITS FALSE NEIGHBOUR: 'it returns false'. Refute it at one input. -/
def grammarTrimsWrong : ChangeSpec := { name := "grammarTrims", fn := fun _ => fun
  | [d] => { results := [.lit (.bool false)], args := [d] }
  | _ => none }
def GrammarTrimsWrongFalsely : Prop := grammarTrimsRow.holds Try.pinned (OpenSpec.ofChange grammarTrimsWrong)

/-- 'evergreenlaw11.GrammarJoins': WHATEVER THE INPUT: true; the input reads as it did. -/
def grammarJoinsSpec : ChangeSpec := { name := "grammarJoins", fn := fun _ => fun
  | [d1, d2, d3] => { results := [.lit (.bool true)], args := [d1, d2, d3] }
  | _ => none }
def grammarJoinsRow : OpenClaim := { program := "ytcbahojefglakaa", sum := "e4a90012103d4a901f8ac9be1e55892d146a598451b0f9c5d3baaea76885407d", func := "evergreen/evergreenlaw11.GrammarJoins", spec := "grammarJoins", plainKeys := false, apart := false }
def GrammarJoinsSaid : Prop := grammarJoinsRow.holds Try.pinned (OpenSpec.ofChange grammarJoinsSpec)

/-- ITS FALSE NEIGHBOUR: 'it returns false'. Refute it at one input. -/
def grammarJoinsWrong : ChangeSpec := { name := "grammarJoins", fn := fun _ => fun
  | [d1, d2, d3] => { results := [.lit (.bool false)], args := [d1, d2, d3] }
  | _ => none }
def GrammarJoinsWrongFalsely : Prop := grammarJoinsRow.holds Try.pinned (OpenSpec.ofChange grammarJoinsWrong)

/-- 'evergreenlaw11.GrammarConcatenates': WHATEVER THE INPUT: true; the input reads as it did. -/
def grammarConcatenatesSpec : ChangeSpec := { name := "grammarConcatenates", fn := fun _ => fun
  | [d1, d2, d3] => { results := [.lit (.bool true)], args := [d1, d2, d3] }
  | _ => none }
def grammarConcatenatesRow : OpenClaim := { program := "ytcbahojefglakaa", sum := "e4a90012103d4a901f8ac9be1e55892d146a598451b0f9c5d3baaea76885407d", func := "evergreen/evergreenlaw11.GrammarConcatenates", spec := "grammarConcatenates", plainKeys := false, apart := false }
def GrammarConcatenatesSaid : Prop := grammarConcatenatesRow.holds Try.pinned (OpenSpec.ofChange grammarConcatenatesSpec)

/-- ITS FALSE NEIGHBOUR: 'it returns false'. Refute it at one input. -/
def grammarConcatenatesWrong : ChangeSpec := { name := "grammarConcatenates", fn := fun _ => fun
  | [d1, d2, d3] => { results := [.lit (.bool false)], args := [d1, d2, d3] }
  | _ => none }
def GrammarConcatenatesWrongFalsely : Prop := grammarConcatenatesRow.holds Try.pinned (OpenSpec.ofChange grammarConcatenatesWrong)

/-- 'evergreenlaw11.GrammarCodes': WHATEVER THE INPUT: true; the input reads as it did. -/
def grammarCodesSpec : ChangeSpec := { name := "grammarCodes", fn := fun _ => fun
  | [d] => { results := [.lit (.bool true)], args := [d] }
  | _ => none }
def grammarCodesRow : OpenClaim := { program := "ytcbahojefglakaa", sum := "e4a90012103d4a901f8ac9be1e55892d146a598451b0f9c5d3baaea76885407d", func := "evergreen/evergreenlaw11.GrammarCodes", spec := "grammarCodes", plainKeys := false, apart := false }
def GrammarCodesSaid : Prop := grammarCodesRow.holds Try.pinned (OpenSpec.ofChange grammarCodesSpec)

/-- ITS FALSE NEIGHBOUR: 'it returns false'. Refute it at one input. -/
def grammarCodesWrong : ChangeSpec := { name := "grammarCodes", fn := fun _ => fun
  | [d] => { results := [.lit (.bool false)], args := [d] }
  | _ => none }
def GrammarCodesWrongFalsely : Prop := grammarCodesRow.holds Try.pinned (OpenSpec.ofChange grammarCodesWrong)

/-- 'evergreenlaw11.GrammarDecodes': WHATEVER THE INPUT: true; the input reads as it did. -/
def grammarDecodesSpec : ChangeSpec := { name := "grammarDecodes", fn := fun _ => fun
  | [d] => { results := [.lit (.bool true)], args := [d] }
  | _ => none }
def grammarDecodesRow : OpenClaim := { program := "ytcbahojefglakaa", sum := "e4a90012103d4a901f8ac9be1e55892d146a598451b0f9c5d3baaea76885407d", func := "evergreen/evergreenlaw11.GrammarDecodes", spec := "grammarDecodes", plainKeys := false, apart := false }
def GrammarDecodesSaid : Prop := grammarDecodesRow.holds Try.pinned (OpenSpec.ofChange grammarDecodesSpec)

/-- ITS FALSE NEIGHBOUR: 'it returns false'. Refute it at one input. -/
def grammarDecodesWrong : ChangeSpec := { name := "grammarDecodes", fn := fun _ => fun
  | [d] => { results := [.lit (.bool false)], args := [d] }
  | _ => none }
def GrammarDecodesWrongFalsely : Prop := grammarDecodesRow.holds Try.pinned (OpenSpec.ofChange grammarDecodesWrong)

/-- 'evergreenlaw11.GrammarWeights': WHATEVER THE INPUT: true; the input reads as it did. -/
def grammarWeightsSpec : ChangeSpec := { name := "grammarWeights", fn := fun _ => fun
  | [d] => { results := [.lit (.bool true)], args := [d] }
  | _ => none }
def grammarWeightsRow : OpenClaim := { program := "ytcbahojefglakaa", sum := "e4a90012103d4a901f8ac9be1e55892d146a598451b0f9c5d3baaea76885407d", func := "evergreen/evergreenlaw11.GrammarWeights", spec := "grammarWeights", recurses := true, plainKeys := false, apart := false }
def GrammarWeightsSaid : Prop := grammarWeightsRow.holds Try.pinned (OpenSpec.ofChange grammarWeightsSpec)

/-- ITS FALSE NEIGHBOUR: 'it returns false'. Refute it at one input. -/
def grammarWeightsWrong : ChangeSpec := { name := "grammarWeights", fn := fun _ => fun
  | [d] => { results := [.lit (.bool false)], args := [d] }
  | _ => none }
def GrammarWeightsWrongFalsely : Prop := grammarWeightsRow.holds Try.pinned (OpenSpec.ofChange grammarWeightsWrong)

/-- 'evergreenlaw11.GrammarTrimmed': WHATEVER THE INPUT: true; the input reads as it did. -/
def grammarTrimmedSpec : ChangeSpec := { name := "grammarTrimmed", fn := fun _ => fun
  | [d] => { results := [.lit (.bool true)], args := [d] }
  | _ => none }
def grammarTrimmedRow : OpenClaim := { program := "ytcbahojefglakaa", sum := "e4a90012103d4a901f8ac9be1e55892d146a598451b0f9c5d3baaea76885407d", func := "evergreen/evergreenlaw11.GrammarTrimmed", spec := "grammarTrimmed", plainKeys := false, apart := false }
def GrammarTrimmedSaid : Prop := grammarTrimmedRow.holds Try.pinned (OpenSpec.ofChange grammarTrimmedSpec)

/-- ITS FALSE NEIGHBOUR: 'it returns false'. Refute it at one input. -/
def grammarTrimmedWrong : ChangeSpec := { name := "grammarTrimmed", fn := fun _ => fun
  | [d] => { results := [.lit (.bool false)], args := [d] }
  | _ => none }
def GrammarTrimmedWrongFalsely : Prop := grammarTrimmedRow.holds Try.pinned (OpenSpec.ofChange grammarTrimmedWrong)

/-- 'evergreenlaw11.GrammarChecks': WHATEVER THE INPUT: true; the input reads as it did. -/
def grammarChecksSpec : ChangeSpec := { name := "grammarChecks", fn := fun _ => fun
  | [d] => { results := [.lit (.bool true)], args := [d] }
  | _ => none }
def grammarChecksRow : OpenClaim := { program := "ytcbahojefglakaa", sum := "e4a90012103d4a901f8ac9be1e55892d146a598451b0f9c5d3baaea76885407d", func := "evergreen/evergreenlaw11.GrammarChecks", spec := "grammarChecks", plainKeys := false, apart := false }
def GrammarChecksSaid : Prop := grammarChecksRow.holds Try.pinned (OpenSpec.ofChange grammarChecksSpec)

/-- ITS FALSE NEIGHBOUR: 'it returns false'. Refute it at one input. -/
def grammarChecksWrong : ChangeSpec := { name := "grammarChecks", fn := fun _ => fun
  | [d] => { results := [.lit (.bool false)], args := [d] }
  | _ => none }
def GrammarChecksWrongFalsely : Prop := grammarChecksRow.holds Try.pinned (OpenSpec.ofChange grammarChecksWrong)

/- THE SECOND FORM. 'bulk': how many values and letters a reading holds, each counted each time it is reached (what is shared counts as often as it is met; a slice's spare places count too). A statement '..UptoSaid' is the law's where the arguments, and the package variables that the reading takes, are together of bulk at most 1048576: NARROWER than '..Said'. Prove '..Said' where nothing that the law and all that it calls make is longer than what came in: it says more and counts as full. Else prove '..UptoSaid'. A law counts once. -/
mutual
def uptoBulk {H : Type} : DataW H → Nat
  | .lit (.string bytes) => bytes.length + 1
  | .lit _ => 1
  | .nil => 1
  | .ptr d => uptoBulk d + 1
  | .slice elems spare => uptoBulkAll elems + uptoBulkAll spare + 1
  | .agg parts => uptoBulkAll parts + 1
  | .iface _ d => uptoBulk d + 1
  | .map entries => uptoBulkEntries entries + 1
  | .held _ => 1
def uptoBulkAll {H : Type} : List (DataW H) → Nat
  | [] => 0
  | d :: r => uptoBulk d + uptoBulkAll r
def uptoBulkEntries {H : Type} : List (Lit × DataW H) → Nat
  | [] => 0
  | x :: r => uptoBulkEntry x + uptoBulkEntries r
def uptoBulkEntry {H : Type} : Lit × DataW H → Nat
  | (.string bytes, d) => bytes.length + uptoBulk d + 1
  | (_, d) => uptoBulk d + 1
 end
def uptoSmall : (H : Type) → List (DataW H) → Bool := fun _ ds => decide (uptoBulkAll ds ≤ 1048576)
def OpenSpec.upto (s : _root_.Go.ChangeSpec) : _root_.Go.OpenSpec := { _root_.Go.OpenSpec.ofChange s with cond := some uptoSmall }

/-- 'evergreenlaw11.GrammarExpands', WHERE WHAT IT READS IS OF BULK AT MOST 1048576: true; the input reads as it did. -/
def grammarExpandsUptoRow : OpenClaim := { program := "ytcbahojefglakaa", sum := "e4a90012103d4a901f8ac9be1e55892d146a598451b0f9c5d3baaea76885407d", func := "evergreen/evergreenlaw11.GrammarExpands", spec := "grammarExpands", recurses := true, plainKeys := false, apart := false, narrowed := true }
def GrammarExpandsUptoSaid : Prop := grammarExpandsUptoRow.holds Try.pinned (OpenSpec.upto grammarExpandsSpec)

/-- 'evergreenlaw11.GrammarDepths', WHERE WHAT IT READS IS OF BULK AT MOST 1048576: true; the input reads as it did. -/
def grammarDepthsUptoRow : OpenClaim := { program := "ytcbahojefglakaa", sum := "e4a90012103d4a901f8ac9be1e55892d146a598451b0f9c5d3baaea76885407d", func := "evergreen/evergreenlaw11.GrammarDepths", spec := "grammarDepths", plainKeys := false, apart := false, narrowed := true }
def GrammarDepthsUptoSaid : Prop := grammarDepthsUptoRow.holds Try.pinned (OpenSpec.upto grammarDepthsSpec)

/-- 'evergreenlaw11.GrammarUses', WHERE WHAT IT READS IS OF BULK AT MOST 1048576: true; the input reads as it did. -/
def grammarUsesUptoRow : OpenClaim := { program := "ytcbahojefglakaa", sum := "e4a90012103d4a901f8ac9be1e55892d146a598451b0f9c5d3baaea76885407d", func := "evergreen/evergreenlaw11.GrammarUses", spec := "grammarUses", plainKeys := false, apart := false, narrowed := true }
def GrammarUsesUptoSaid : Prop := grammarUsesUptoRow.holds Try.pinned (OpenSpec.upto grammarUsesSpec)

/-- 'evergreenlaw11.GrammarTexts', WHERE WHAT IT READS IS OF BULK AT MOST 1048576: true; the input reads as it did. -/
def grammarTextsUptoRow : OpenClaim := { program := "ytcbahojefglakaa", sum := "e4a90012103d4a901f8ac9be1e55892d146a598451b0f9c5d3baaea76885407d", func := "evergreen/evergreenlaw11.GrammarTexts", spec := "grammarTexts", unfollowed := true, recurses := true, plainKeys := false, apart := false, narrowed := true }
def GrammarTextsUptoSaid : Prop := grammarTextsUptoRow.holds Try.pinned (OpenSpec.upto grammarTextsSpec)

/-- 'evergreenlaw11.GrammarTrims', WHERE WHAT IT READS IS OF BULK AT MOST 1048576: true; the input reads as it did. -/
def grammarTrimsUptoRow : OpenClaim := { program := "ytcbahojefglakaa", sum := "e4a90012103d4a901f8ac9be1e55892d146a598451b0f9c5d3baaea76885407d", func := "evergreen/evergreenlaw11.GrammarTrims", spec := "grammarTrims", plainKeys := false, apart := false, narrowed := true }
def GrammarTrimsUptoSaid : Prop := grammarTrimsUptoRow.holds Try.pinned (OpenSpec.upto grammarTrimsSpec)

/-- 'evergreenlaw11.GrammarJoins', WHERE WHAT IT READS IS OF BULK AT MOST 1048576: true; the input reads as it did. -/
def grammarJoinsUptoRow : OpenClaim := { program := "ytcbahojefglakaa", sum := "e4a90012103d4a901f8ac9be1e55892d146a598451b0f9c5d3baaea76885407d", func := "evergreen/evergreenlaw11.GrammarJoins", spec := "grammarJoins", plainKeys := false, apart := false, narrowed := true }
def GrammarJoinsUptoSaid : Prop := grammarJoinsUptoRow.holds Try.pinned (OpenSpec.upto grammarJoinsSpec)

/-- 'evergreenlaw11.GrammarConcatenates', WHERE WHAT IT READS IS OF BULK AT MOST 1048576: true; the input reads as it did. -/
def grammarConcatenatesUptoRow : OpenClaim := { program := "ytcbahojefglakaa", sum := "e4a90012103d4a901f8ac9be1e55892d146a598451b0f9c5d3baaea76885407d", func := "evergreen/evergreenlaw11.GrammarConcatenates", spec := "grammarConcatenates", plainKeys := false, apart := false, narrowed := true }
def GrammarConcatenatesUptoSaid : Prop := grammarConcatenatesUptoRow.holds Try.pinned (OpenSpec.upto grammarConcatenatesSpec)

/-- 'evergreenlaw11.GrammarCodes', WHERE WHAT IT READS IS OF BULK AT MOST 1048576: true; the input reads as it did. -/
def grammarCodesUptoRow : OpenClaim := { program := "ytcbahojefglakaa", sum := "e4a90012103d4a901f8ac9be1e55892d146a598451b0f9c5d3baaea76885407d", func := "evergreen/evergreenlaw11.GrammarCodes", spec := "grammarCodes", plainKeys := false, apart := false, narrowed := true }
def GrammarCodesUptoSaid : Prop := grammarCodesUptoRow.holds Try.pinned (OpenSpec.upto grammarCodesSpec)

/-- 'evergreenlaw11.GrammarDecodes', WHERE WHAT IT READS IS OF BULK AT MOST 1048576: true; the input reads as it did. -/
def grammarDecodesUptoRow : OpenClaim := { program := "ytcbahojefglakaa", sum := "e4a90012103d4a901f8ac9be1e55892d146a598451b0f9c5d3baaea76885407d", func := "evergreen/evergreenlaw11.GrammarDecodes", spec := "grammarDecodes", plainKeys := false, apart := false, narrowed := true }
def GrammarDecodesUptoSaid : Prop := grammarDecodesUptoRow.holds Try.pinned (OpenSpec.upto grammarDecodesSpec)

/-- 'evergreenlaw11.GrammarWeights', WHERE WHAT IT READS IS OF BULK AT MOST 1048576: true; the input reads as it did. -/
def grammarWeightsUptoRow : OpenClaim := { program := "ytcbahojefglakaa", sum := "e4a90012103d4a901f8ac9be1e55892d146a598451b0f9c5d3baaea76885407d", func := "evergreen/evergreenlaw11.GrammarWeights", spec := "grammarWeights", recurses := true, plainKeys := false, apart := false, narrowed := true }
def GrammarWeightsUptoSaid : Prop := grammarWeightsUptoRow.holds Try.pinned (OpenSpec.upto grammarWeightsSpec)

/-- 'evergreenlaw11.GrammarTrimmed', WHERE WHAT IT READS IS OF BULK AT MOST 1048576: true; the input reads as it did. -/
def grammarTrimmedUptoRow : OpenClaim := { program := "ytcbahojefglakaa", sum := "e4a90012103d4a901f8ac9be1e55892d146a598451b0f9c5d3baaea76885407d", func := "evergreen/evergreenlaw11.GrammarTrimmed", spec := "grammarTrimmed", plainKeys := false, apart := false, narrowed := true }
def GrammarTrimmedUptoSaid : Prop := grammarTrimmedUptoRow.holds Try.pinned (OpenSpec.upto grammarTrimmedSpec)

/-- 'evergreenlaw11.GrammarChecks', WHERE WHAT IT READS IS OF BULK AT MOST 1048576: true; the input reads as it did. -/
def grammarChecksUptoRow : OpenClaim := { program := "ytcbahojefglakaa", sum := "e4a90012103d4a901f8ac9be1e55892d146a598451b0f9c5d3baaea76885407d", func := "evergreen/evergreenlaw11.GrammarChecks", spec := "grammarChecks", plainKeys := false, apart := false, narrowed := true }
def GrammarChecksUptoSaid : Prop := grammarChecksUptoRow.holds Try.pinned (OpenSpec.upto grammarChecksSpec)

end Rows
end Go.Proofs.Ytcbahojefglakaa
