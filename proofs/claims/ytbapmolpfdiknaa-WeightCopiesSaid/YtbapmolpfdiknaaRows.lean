/-
  No cell of these rows narrows 'for every input' (looked for: loops, veiled, ifaces, maps, wideKeys, modest, calm, conditions, laid).
  DERIVED. THE GIVEN ROWS OF THIS SEAT. 8 by the template 'for every input the law returns true; each argument reads behind the call as it read before'; 0 by the template 'total and deterministic' (their statements: YtbapmolpfdiknaaTotals.lean).
  GIVEN WITH THE SEED: the statements are not yours to turn. If you find one false, say at which input.
  Laid BY PROGRAM, IN A SANDBOX (cutbox-rows.mjs): the forced cells as the released guide's own fill.sh prints them over the translation 4da47ea67053ab0c… (all of the seat's roots in one cut). By AI agents, Wed Nov 11 2026. No macro, syntax, notation, axiom, sorry.
-/
import Derived.Test.YtbapmolpfdiknaaChecked
import GoSem.Claim
import GoSem.ClaimJoined
import GoSem.ClaimMapViews
import Derived.JoinedTies
import Derived.KernelRfl
namespace Go.Proofs.Ytbapmolpfdiknaa
/- THE CELL 'sum', in the pinned program and in every row, IS THE sha256 OF THE DUMP (.gsa) THAT YtbapmolpfdiknaaProg.lean LOADS. Nothing in Lean hashes anything: it is a label: what it is worth is what the hold of that sum in a sandbox is worth. -/
noncomputable def Try.pinned : Pinned := { name := "ytbapmolpfdiknaa", sum := "4da47ea67053ab0c30abdb7aac5c1a537c46cc67c6cf09441aae708677cdf656", checked := Try.checked }
namespace Rows
def none {H : Type} : Left H := { results := [], args := [] }

/-- 'evergreenlaw06.WeightValid': WHATEVER THE INPUT: true; the input reads as it did. -/
def weightValidSpec : ChangeSpec := { name := "weightValid", fn := fun _ => fun
  | [d] => { results := [.lit (.bool true)], args := [d] }
  | _ => none }
def weightValidRow : OpenClaim := { program := "ytbapmolpfdiknaa", sum := "4da47ea67053ab0c30abdb7aac5c1a537c46cc67c6cf09441aae708677cdf656", func := "evergreen/evergreenlaw06.WeightValid", spec := "weightValid", apart := false }
def WeightValidSaid : Prop := weightValidRow.holds Try.pinned (OpenSpec.ofChange weightValidSpec)

/-- ITS FALSE NEIGHBOUR: 'it returns false'. Refute it at one input. -/
def weightValidWrong : ChangeSpec := { name := "weightValid", fn := fun _ => fun
  | [d] => { results := [.lit (.bool false)], args := [d] }
  | _ => none }
def WeightValidWrongFalsely : Prop := weightValidRow.holds Try.pinned (OpenSpec.ofChange weightValidWrong)

/-- 'evergreenlaw06.WeightOf': WHATEVER THE INPUT: true; the input reads as it did. -/
def weightOfSpec : ChangeSpec := { name := "weightOf", fn := fun _ => fun
  | [d1, d2] => { results := [.lit (.bool true)], args := [d1, d2] }
  | _ => none }
def weightOfRow : OpenClaim := { program := "ytbapmolpfdiknaa", sum := "4da47ea67053ab0c30abdb7aac5c1a537c46cc67c6cf09441aae708677cdf656", func := "evergreen/evergreenlaw06.WeightOf", spec := "weightOf", apart := false }
def WeightOfSaid : Prop := weightOfRow.holds Try.pinned (OpenSpec.ofChange weightOfSpec)

/-- ITS FALSE NEIGHBOUR: 'it returns false'. Refute it at one input. -/
def weightOfWrong : ChangeSpec := { name := "weightOf", fn := fun _ => fun
  | [d1, d2] => { results := [.lit (.bool false)], args := [d1, d2] }
  | _ => none }
def WeightOfWrongFalsely : Prop := weightOfRow.holds Try.pinned (OpenSpec.ofChange weightOfWrong)

/-- 'evergreenlaw06.WeightJoins': WHATEVER THE INPUT: true; the input reads as it did. -/
def weightJoinsSpec : ChangeSpec := { name := "weightJoins", fn := fun _ => fun
  | [d1, d2] => { results := [.lit (.bool true)], args := [d1, d2] }
  | _ => none }
def weightJoinsRow : OpenClaim := { program := "ytbapmolpfdiknaa", sum := "4da47ea67053ab0c30abdb7aac5c1a537c46cc67c6cf09441aae708677cdf656", func := "evergreen/evergreenlaw06.WeightJoins", spec := "weightJoins", apart := false }
def WeightJoinsSaid : Prop := weightJoinsRow.holds Try.pinned (OpenSpec.ofChange weightJoinsSpec)

/-- ITS FALSE NEIGHBOUR: 'it returns false'. Refute it at one input. -/
def weightJoinsWrong : ChangeSpec := { name := "weightJoins", fn := fun _ => fun
  | [d1, d2] => { results := [.lit (.bool false)], args := [d1, d2] }
  | _ => none }
def WeightJoinsWrongFalsely : Prop := weightJoinsRow.holds Try.pinned (OpenSpec.ofChange weightJoinsWrong)

/-- 'evergreenlaw06.WeightParts': WHATEVER THE INPUT: true; the input reads as it did. -/
def weightPartsSpec : ChangeSpec := { name := "weightParts", fn := fun _ => fun
  | [d1, d2] => { results := [.lit (.bool true)], args := [d1, d2] }
  | _ => none }
def weightPartsRow : OpenClaim := { program := "ytbapmolpfdiknaa", sum := "4da47ea67053ab0c30abdb7aac5c1a537c46cc67c6cf09441aae708677cdf656", func := "evergreen/evergreenlaw06.WeightParts", spec := "weightParts", apart := false }
def WeightPartsSaid : Prop := weightPartsRow.holds Try.pinned (OpenSpec.ofChange weightPartsSpec)

/-- ITS FALSE NEIGHBOUR: 'it returns false'. Refute it at one input. -/
def weightPartsWrong : ChangeSpec := { name := "weightParts", fn := fun _ => fun
  | [d1, d2] => { results := [.lit (.bool false)], args := [d1, d2] }
  | _ => none }
def WeightPartsWrongFalsely : Prop := weightPartsRow.holds Try.pinned (OpenSpec.ofChange weightPartsWrong)

/-- 'evergreenlaw06.WeightAssociates': WHATEVER THE INPUT: true; the input reads as it did. -/
def weightAssociatesSpec : ChangeSpec := { name := "weightAssociates", fn := fun _ => fun
  | [d] => { results := [.lit (.bool true)], args := [d] }
  | _ => none }
def weightAssociatesRow : OpenClaim := { program := "ytbapmolpfdiknaa", sum := "4da47ea67053ab0c30abdb7aac5c1a537c46cc67c6cf09441aae708677cdf656", func := "evergreen/evergreenlaw06.WeightAssociates", spec := "weightAssociates", apart := false }
def WeightAssociatesSaid : Prop := weightAssociatesRow.holds Try.pinned (OpenSpec.ofChange weightAssociatesSpec)

/-- ITS FALSE NEIGHBOUR: 'it returns false'. Refute it at one input. -/
def weightAssociatesWrong : ChangeSpec := { name := "weightAssociates", fn := fun _ => fun
  | [d] => { results := [.lit (.bool false)], args := [d] }
  | _ => none }
def WeightAssociatesWrongFalsely : Prop := weightAssociatesRow.holds Try.pinned (OpenSpec.ofChange weightAssociatesWrong)

/-- 'evergreenlaw06.WeightRepeats': WHATEVER THE INPUT: true; the input reads as it did. -/
def weightRepeatsSpec : ChangeSpec := { name := "weightRepeats", fn := fun _ => fun
  | [d1, d2] => { results := [.lit (.bool true)], args := [d1, d2] }
  | _ => none }
def weightRepeatsRow : OpenClaim := { program := "ytbapmolpfdiknaa", sum := "4da47ea67053ab0c30abdb7aac5c1a537c46cc67c6cf09441aae708677cdf656", func := "evergreen/evergreenlaw06.WeightRepeats", spec := "weightRepeats", recurses := true, apart := false }
def WeightRepeatsSaid : Prop := weightRepeatsRow.holds Try.pinned (OpenSpec.ofChange weightRepeatsSpec)

/-- ITS FALSE NEIGHBOUR: 'it returns false'. Refute it at one input. -/
def weightRepeatsWrong : ChangeSpec := { name := "weightRepeats", fn := fun _ => fun
  | [d1, d2] => { results := [.lit (.bool false)], args := [d1, d2] }
  | _ => none }
def WeightRepeatsWrongFalsely : Prop := weightRepeatsRow.holds Try.pinned (OpenSpec.ofChange weightRepeatsWrong)

/-- 'evergreenlaw06.WeightCopies': WHATEVER THE INPUT: true; the input reads as it did. -/
def weightCopiesSpec : ChangeSpec := { name := "weightCopies", fn := fun _ => fun
  | [d1, d2] => { results := [.lit (.bool true)], args := [d1, d2] }
  | _ => none }
def weightCopiesRow : OpenClaim := { program := "ytbapmolpfdiknaa", sum := "4da47ea67053ab0c30abdb7aac5c1a537c46cc67c6cf09441aae708677cdf656", func := "evergreen/evergreenlaw06.WeightCopies", spec := "weightCopies", apart := false }
def WeightCopiesSaid : Prop := weightCopiesRow.holds Try.pinned (OpenSpec.ofChange weightCopiesSpec)

/-- ITS FALSE NEIGHBOUR: 'it returns false'. Refute it at one input. -/
def weightCopiesWrong : ChangeSpec := { name := "weightCopies", fn := fun _ => fun
  | [d1, d2] => { results := [.lit (.bool false)], args := [d1, d2] }
  | _ => none }
def WeightCopiesWrongFalsely : Prop := weightCopiesRow.holds Try.pinned (OpenSpec.ofChange weightCopiesWrong)

/-- 'evergreenlaw06.WeightPowers': WHATEVER THE INPUT: true; the input reads as it did. -/
def weightPowersSpec : ChangeSpec := { name := "weightPowers", fn := fun _ => fun
  | [d1, d2, d3] => { results := [.lit (.bool true)], args := [d1, d2, d3] }
  | _ => none }
def weightPowersRow : OpenClaim := { program := "ytbapmolpfdiknaa", sum := "4da47ea67053ab0c30abdb7aac5c1a537c46cc67c6cf09441aae708677cdf656", func := "evergreen/evergreenlaw06.WeightPowers", spec := "weightPowers", apart := false }
def WeightPowersSaid : Prop := weightPowersRow.holds Try.pinned (OpenSpec.ofChange weightPowersSpec)

/-- ITS FALSE NEIGHBOUR: 'it returns false'. Refute it at one input. -/
def weightPowersWrong : ChangeSpec := { name := "weightPowers", fn := fun _ => fun
  | [d1, d2, d3] => { results := [.lit (.bool false)], args := [d1, d2, d3] }
  | _ => none }
def WeightPowersWrongFalsely : Prop := weightPowersRow.holds Try.pinned (OpenSpec.ofChange weightPowersWrong)

/- THE SECOND FORM. 'bulk': how many values and letters a reading holds, each counted each time it is reached (what is shared counts as often as it is met; a slice's spare places count too). A statement '..UptoSaid' is the law's where the arguments, and the package variables that the reading takes, are together of bulk at most 1048576: NARROWER than '..Said'. Prove '..Said' where nothing that the law and all that it calls make is longer than what came in: it says more and counts as full. Else prove '..UptoSaid'. A law counts once. -/
mutual
def uptoBulk {H : Type} : DataW H → Nat
  | .lit (.string bytes) => bytes.length + 1
  | .lit _ => 1
  | .nil => 1
  | .ptr d => uptoBulk d + 1
  | .slice elems spare => uptoBulkAll elems + uptoBulkAll spare + 1
  | .agg parts => uptoBulkAll parts + 1
  | .iface _ d => uptoBulk d + 1
  | .map entries => uptoBulkEntries entries + 1
  | .held _ => 1
def uptoBulkAll {H : Type} : List (DataW H) → Nat
  | [] => 0
  | d :: r => uptoBulk d + uptoBulkAll r
def uptoBulkEntries {H : Type} : List (Lit × DataW H) → Nat
  | [] => 0
  | x :: r => uptoBulkEntry x + uptoBulkEntries r
def uptoBulkEntry {H : Type} : Lit × DataW H → Nat
  | (.string bytes, d) => bytes.length + uptoBulk d + 1
  | (_, d) => uptoBulk d + 1
 end
def uptoSmall : (H : Type) → List (DataW H) → Bool := fun _ ds => decide (uptoBulkAll ds ≤ 1048576)
def OpenSpec.upto (s : _root_.Go.ChangeSpec) : _root_.Go.OpenSpec := { _root_.Go.OpenSpec.ofChange s with cond := some uptoSmall }

/-- 'evergreenlaw06.WeightValid', WHERE WHAT IT READS IS OF BULK AT MOST 1048576: true; the input reads as it did. -/
def weightValidUptoRow : OpenClaim := { program := "ytbapmolpfdiknaa", sum := "4da47ea67053ab0c30abdb7aac5c1a537c46cc67c6cf09441aae708677cdf656", func := "evergreen/evergreenlaw06.WeightValid", spec := "weightValid", apart := false, narrowed := true }
def WeightValidUptoSaid : Prop := weightValidUptoRow.holds Try.pinned (OpenSpec.upto weightValidSpec)

/-- 'evergreenlaw06.WeightOf', WHERE WHAT IT READS IS OF BULK AT MOST 1048576: true; the input reads as it did. -/
def weightOfUptoRow : OpenClaim := { program := "ytbapmolpfdiknaa", sum := "4da47ea67053ab0c30abdb7aac5c1a537c46cc67c6cf09441aae708677cdf656", func := "evergreen/evergreenlaw06.WeightOf", spec := "weightOf", apart := false, narrowed := true }
def WeightOfUptoSaid : Prop := weightOfUptoRow.holds Try.pinned (OpenSpec.upto weightOfSpec)

/-- 'evergreenlaw06.WeightJoins', WHERE WHAT IT READS IS OF BULK AT MOST 1048576: true; the input reads as it did. -/
def weightJoinsUptoRow : OpenClaim := { program := "ytbapmolpfdiknaa", sum := "4da47ea67053ab0c30abdb7aac5c1a537c46cc67c6cf09441aae708677cdf656", func := "evergreen/evergreenlaw06.WeightJoins", spec := "weightJoins", apart := false, narrowed := true }
def WeightJoinsUptoSaid : Prop := weightJoinsUptoRow.holds Try.pinned (OpenSpec.upto weightJoinsSpec)

/-- 'evergreenlaw06.WeightParts', WHERE WHAT IT READS IS OF BULK AT MOST 1048576: true; the input reads as it did. -/
def weightPartsUptoRow : OpenClaim := { program := "ytbapmolpfdiknaa", sum := "4da47ea67053ab0c30abdb7aac5c1a537c46cc67c6cf09441aae708677cdf656", func := "evergreen/evergreenlaw06.WeightParts", spec := "weightParts", apart := false, narrowed := true }
def WeightPartsUptoSaid : Prop := weightPartsUptoRow.holds Try.pinned (OpenSpec.upto weightPartsSpec)

/-- 'evergreenlaw06.WeightAssociates', WHERE WHAT IT READS IS OF BULK AT MOST 1048576: true; the input reads as it did. -/
def weightAssociatesUptoRow : OpenClaim := { program := "ytbapmolpfdiknaa", sum := "4da47ea67053ab0c30abdb7aac5c1a537c46cc67c6cf09441aae708677cdf656", func := "evergreen/evergreenlaw06.WeightAssociates", spec := "weightAssociates", apart := false, narrowed := true }
def WeightAssociatesUptoSaid : Prop := weightAssociatesUptoRow.holds Try.pinned (OpenSpec.upto weightAssociatesSpec)

/-- 'evergreenlaw06.WeightRepeats', WHERE WHAT IT READS IS OF BULK AT MOST 1048576: true; the input reads as it did. -/
def weightRepeatsUptoRow : OpenClaim := { program := "ytbapmolpfdiknaa", sum := "4da47ea67053ab0c30abdb7aac5c1a537c46cc67c6cf09441aae708677cdf656", func := "evergreen/evergreenlaw06.WeightRepeats", spec := "weightRepeats", recurses := true, apart := false, narrowed := true }
def WeightRepeatsUptoSaid : Prop := weightRepeatsUptoRow.holds Try.pinned (OpenSpec.upto weightRepeatsSpec)

/-- 'evergreenlaw06.WeightCopies', WHERE WHAT IT READS IS OF BULK AT MOST 1048576: true; the input reads as it did. -/
def weightCopiesUptoRow : OpenClaim := { program := "ytbapmolpfdiknaa", sum := "4da47ea67053ab0c30abdb7aac5c1a537c46cc67c6cf09441aae708677cdf656", func := "evergreen/evergreenlaw06.WeightCopies", spec := "weightCopies", apart := false, narrowed := true }
def WeightCopiesUptoSaid : Prop := weightCopiesUptoRow.holds Try.pinned (OpenSpec.upto weightCopiesSpec)

/-- 'evergreenlaw06.WeightPowers', WHERE WHAT IT READS IS OF BULK AT MOST 1048576: true; the input reads as it did. -/
def weightPowersUptoRow : OpenClaim := { program := "ytbapmolpfdiknaa", sum := "4da47ea67053ab0c30abdb7aac5c1a537c46cc67c6cf09441aae708677cdf656", func := "evergreen/evergreenlaw06.WeightPowers", spec := "weightPowers", apart := false, narrowed := true }
def WeightPowersUptoSaid : Prop := weightPowersUptoRow.holds Try.pinned (OpenSpec.upto weightPowersSpec)

end Rows
end Go.Proofs.Ytbapmolpfdiknaa
