/-
  No cell of these rows narrows 'for every input' (looked for: loops, veiled, ifaces, maps, wideKeys, modest, calm, conditions, laid).
  DERIVED. THE GIVEN ROWS OF THIS SEAT. 10 by the template 'for every input the law returns true; each argument reads behind the call as it read before'; 0 by the template 'total and deterministic' (their statements: YtjeicnbnlffllaaTotals.lean).
  GIVEN WITH THE SEED: the statements are not yours to turn. If you find one false, say at which input.
  Laid BY PROGRAM, IN A SANDBOX (cutbox-rows.mjs): the forced cells as the released guide's own fill.sh prints them over the translation 22872c5e331b24a7… (all of the seat's roots in one cut). By AI agents, Wed Nov 11 2026. No macro, syntax, notation, axiom, sorry.
-/
import Derived.Test.YtjeicnbnlffllaaChecked
import GoSem.Claim
import GoSem.ClaimJoined
import GoSem.ClaimMapViews
import Derived.JoinedTies
import Derived.KernelRfl
namespace Go.Proofs.Ytjeicnbnlffllaa
/- THE CELL 'sum', in the pinned program and in every row, IS THE sha256 OF THE DUMP (.gsa) THAT YtjeicnbnlffllaaProg.lean LOADS. Nothing in Lean hashes anything: it is a label: what it is worth is what the hold of that sum in a sandbox is worth. -/
noncomputable def Try.pinned : Pinned := { name := "ytjeicnbnlffllaa", sum := "22872c5e331b24a79400987c211d825e8c3f918440d07a15a34edfdfe8789542", checked := Try.checked }
namespace Rows
def none {H : Type} : Left H := { results := [], args := [] }

/-- 'evergreenlaw04.ModularReduces': WHATEVER THE INPUT: true; the input reads as it did. -/
def modularReducesSpec : ChangeSpec := { name := "modularReduces", fn := fun _ => fun
  | [d] => { results := [.lit (.bool true)], args := [d] }
  | _ => none }
def modularReducesRow : OpenClaim := { program := "ytjeicnbnlffllaa", sum := "22872c5e331b24a79400987c211d825e8c3f918440d07a15a34edfdfe8789542", func := "evergreen/evergreenlaw04.ModularReduces", spec := "modularReduces", apart := false }
def ModularReducesSaid : Prop := modularReducesRow.holds Try.pinned (OpenSpec.ofChange modularReducesSpec)

/-- ITS FALSE NEIGHBOUR: 'it returns false'. Refute it at one input. -/
def modularReducesWrong : ChangeSpec := { name := "modularReduces", fn := fun _ => fun
  | [d] => { results := [.lit (.bool false)], args := [d] }
  | _ => none }
def ModularReducesWrongFalsely : Prop := modularReducesRow.holds Try.pinned (OpenSpec.ofChange modularReducesWrong)

/-- 'evergreenlaw04.ModularMultiplies': WHATEVER THE INPUT: true; the input reads as it did. -/
def modularMultipliesSpec : ChangeSpec := { name := "modularMultiplies", fn := fun _ => fun
  | [d1, d2] => { results := [.lit (.bool true)], args := [d1, d2] }
  | _ => none }
def modularMultipliesRow : OpenClaim := { program := "ytjeicnbnlffllaa", sum := "22872c5e331b24a79400987c211d825e8c3f918440d07a15a34edfdfe8789542", func := "evergreen/evergreenlaw04.ModularMultiplies", spec := "modularMultiplies", apart := false }
def ModularMultipliesSaid : Prop := modularMultipliesRow.holds Try.pinned (OpenSpec.ofChange modularMultipliesSpec)

/-- ITS FALSE NEIGHBOUR: 'it returns false'. Refute it at one input. -/
def modularMultipliesWrong : ChangeSpec := { name := "modularMultiplies", fn := fun _ => fun
  | [d1, d2] => { results := [.lit (.bool false)], args := [d1, d2] }
  | _ => none }
def ModularMultipliesWrongFalsely : Prop := modularMultipliesRow.holds Try.pinned (OpenSpec.ofChange modularMultipliesWrong)

/-- 'evergreenlaw04.ModularRing': WHATEVER THE INPUT: true; the input reads as it did. -/
def modularRingSpec : ChangeSpec := { name := "modularRing", fn := fun _ => fun
  | [d1, d2, d3] => { results := [.lit (.bool true)], args := [d1, d2, d3] }
  | _ => none }
def modularRingRow : OpenClaim := { program := "ytjeicnbnlffllaa", sum := "22872c5e331b24a79400987c211d825e8c3f918440d07a15a34edfdfe8789542", func := "evergreen/evergreenlaw04.ModularRing", spec := "modularRing", apart := false }
def ModularRingSaid : Prop := modularRingRow.holds Try.pinned (OpenSpec.ofChange modularRingSpec)

/-- ITS FALSE NEIGHBOUR: 'it returns false'. Refute it at one input. -/
def modularRingWrong : ChangeSpec := { name := "modularRing", fn := fun _ => fun
  | [d1, d2, d3] => { results := [.lit (.bool false)], args := [d1, d2, d3] }
  | _ => none }
def ModularRingWrongFalsely : Prop := modularRingRow.holds Try.pinned (OpenSpec.ofChange modularRingWrong)

/-- 'evergreenlaw04.ModularAdds': WHATEVER THE INPUT: true; the input reads as it did. -/
def modularAddsSpec : ChangeSpec := { name := "modularAdds", fn := fun _ => fun
  | [d1, d2] => { results := [.lit (.bool true)], args := [d1, d2] }
  | _ => none }
def modularAddsRow : OpenClaim := { program := "ytjeicnbnlffllaa", sum := "22872c5e331b24a79400987c211d825e8c3f918440d07a15a34edfdfe8789542", func := "evergreen/evergreenlaw04.ModularAdds", spec := "modularAdds", apart := false }
def ModularAddsSaid : Prop := modularAddsRow.holds Try.pinned (OpenSpec.ofChange modularAddsSpec)

/-- ITS FALSE NEIGHBOUR: 'it returns false'. Refute it at one input. -/
def modularAddsWrong : ChangeSpec := { name := "modularAdds", fn := fun _ => fun
  | [d1, d2] => { results := [.lit (.bool false)], args := [d1, d2] }
  | _ => none }
def ModularAddsWrongFalsely : Prop := modularAddsRow.holds Try.pinned (OpenSpec.ofChange modularAddsWrong)

/-- 'evergreenlaw04.ModularHorners': WHATEVER THE INPUT: true; the input reads as it did. -/
def modularHornersSpec : ChangeSpec := { name := "modularHorners", fn := fun _ => fun
  | [d1, d2] => { results := [.lit (.bool true)], args := [d1, d2] }
  | _ => none }
def modularHornersRow : OpenClaim := { program := "ytjeicnbnlffllaa", sum := "22872c5e331b24a79400987c211d825e8c3f918440d07a15a34edfdfe8789542", func := "evergreen/evergreenlaw04.ModularHorners", spec := "modularHorners", apart := false }
def ModularHornersSaid : Prop := modularHornersRow.holds Try.pinned (OpenSpec.ofChange modularHornersSpec)

/-- ITS FALSE NEIGHBOUR: 'it returns false'. Refute it at one input. -/
def modularHornersWrong : ChangeSpec := { name := "modularHorners", fn := fun _ => fun
  | [d1, d2] => { results := [.lit (.bool false)], args := [d1, d2] }
  | _ => none }
def ModularHornersWrongFalsely : Prop := modularHornersRow.holds Try.pinned (OpenSpec.ofChange modularHornersWrong)

/-- 'evergreenlaw04.ModularPowers': WHATEVER THE INPUT: true; the input reads as it did. -/
def modularPowersSpec : ChangeSpec := { name := "modularPowers", fn := fun _ => fun
  | [d1, d2] => { results := [.lit (.bool true)], args := [d1, d2] }
  | _ => none }
def modularPowersRow : OpenClaim := { program := "ytjeicnbnlffllaa", sum := "22872c5e331b24a79400987c211d825e8c3f918440d07a15a34edfdfe8789542", func := "evergreen/evergreenlaw04.ModularPowers", spec := "modularPowers", apart := false }
def ModularPowersSaid : Prop := modularPowersRow.holds Try.pinned (OpenSpec.ofChange modularPowersSpec)

/-- ITS FALSE NEIGHBOUR: 'it returns false'. Refute it at one input. -/
def modularPowersWrong : ChangeSpec := { name := "modularPowers", fn := fun _ => fun
  | [d1, d2] => { results := [.lit (.bool false)], args := [d1, d2] }
  | _ => none }
def ModularPowersWrongFalsely : Prop := modularPowersRow.holds Try.pinned (OpenSpec.ofChange modularPowersWrong)

/-- 'evergreenlaw04.ModularFermat': WHATEVER THE INPUT: true; the input reads as it did. -/
def modularFermatSpec : ChangeSpec := { name := "modularFermat", fn := fun _ => fun
  | [d1, d2, d3] => { results := [.lit (.bool true)], args := [d1, d2, d3] }
  | _ => none }
def modularFermatRow : OpenClaim := { program := "ytjeicnbnlffllaa", sum := "22872c5e331b24a79400987c211d825e8c3f918440d07a15a34edfdfe8789542", func := "evergreen/evergreenlaw04.ModularFermat", spec := "modularFermat", apart := false }
def ModularFermatSaid : Prop := modularFermatRow.holds Try.pinned (OpenSpec.ofChange modularFermatSpec)

/-- ITS FALSE NEIGHBOUR: 'it returns false'. Refute it at one input. -/
def modularFermatWrong : ChangeSpec := { name := "modularFermat", fn := fun _ => fun
  | [d1, d2, d3] => { results := [.lit (.bool false)], args := [d1, d2, d3] }
  | _ => none }
def ModularFermatWrongFalsely : Prop := modularFermatRow.holds Try.pinned (OpenSpec.ofChange modularFermatWrong)

/-- 'evergreenlaw04.ModularInverts': WHATEVER THE INPUT: true; the input reads as it did. -/
def modularInvertsSpec : ChangeSpec := { name := "modularInverts", fn := fun _ => fun
  | [d] => { results := [.lit (.bool true)], args := [d] }
  | _ => none }
def modularInvertsRow : OpenClaim := { program := "ytjeicnbnlffllaa", sum := "22872c5e331b24a79400987c211d825e8c3f918440d07a15a34edfdfe8789542", func := "evergreen/evergreenlaw04.ModularInverts", spec := "modularInverts", apart := false }
def ModularInvertsSaid : Prop := modularInvertsRow.holds Try.pinned (OpenSpec.ofChange modularInvertsSpec)

/-- ITS FALSE NEIGHBOUR: 'it returns false'. Refute it at one input. -/
def modularInvertsWrong : ChangeSpec := { name := "modularInverts", fn := fun _ => fun
  | [d] => { results := [.lit (.bool false)], args := [d] }
  | _ => none }
def ModularInvertsWrongFalsely : Prop := modularInvertsRow.holds Try.pinned (OpenSpec.ofChange modularInvertsWrong)

/-- 'evergreenlaw04.ModularMixes': WHATEVER THE INPUT: true; the input reads as it did. -/
def modularMixesSpec : ChangeSpec := { name := "modularMixes", fn := fun _ => fun
  | [d1, d2, d3] => { results := [.lit (.bool true)], args := [d1, d2, d3] }
  | _ => none }
def modularMixesRow : OpenClaim := { program := "ytjeicnbnlffllaa", sum := "22872c5e331b24a79400987c211d825e8c3f918440d07a15a34edfdfe8789542", func := "evergreen/evergreenlaw04.ModularMixes", spec := "modularMixes", apart := false }
def ModularMixesSaid : Prop := modularMixesRow.holds Try.pinned (OpenSpec.ofChange modularMixesSpec)

/-- ITS FALSE NEIGHBOUR: 'it returns false'. Refute it at one input. -/
def modularMixesWrong : ChangeSpec := { name := "modularMixes", fn := fun _ => fun
  | [d1, d2, d3] => { results := [.lit (.bool false)], args := [d1, d2, d3] }
  | _ => none }
def ModularMixesWrongFalsely : Prop := modularMixesRow.holds Try.pinned (OpenSpec.ofChange modularMixesWrong)

/-- 'evergreenlaw04.ModularUnlike': WHATEVER THE INPUT: true; the input reads as it did. -/
def modularUnlikeSpec : ChangeSpec := { name := "modularUnlike", fn := fun _ => fun
  | [d1, d2, d3] => { results := [.lit (.bool true)], args := [d1, d2, d3] }
  | _ => none }
def modularUnlikeRow : OpenClaim := { program := "ytjeicnbnlffllaa", sum := "22872c5e331b24a79400987c211d825e8c3f918440d07a15a34edfdfe8789542", func := "evergreen/evergreenlaw04.ModularUnlike", spec := "modularUnlike", apart := false }
def ModularUnlikeSaid : Prop := modularUnlikeRow.holds Try.pinned (OpenSpec.ofChange modularUnlikeSpec)

/-- ITS FALSE NEIGHBOUR: 'it returns false'. Refute it at one input. -/
def modularUnlikeWrong : ChangeSpec := { name := "modularUnlike", fn := fun _ => fun
  | [d1, d2, d3] => { results := [.lit (.bool false)], args := [d1, d2, d3] }
  | _ => none }
def ModularUnlikeWrongFalsely : Prop := modularUnlikeRow.holds Try.pinned (OpenSpec.ofChange modularUnlikeWrong)

/- THE SECOND FORM. 'bulk': how many values and letters a reading holds, each counted each time it is reached (what is shared counts as often as it is met; a slice's spare places count too). A statement '..UptoSaid' is the law's where the arguments, and the package variables that the reading takes, are together of bulk at most 1048576: NARROWER than '..Said'. Prove '..Said' where nothing that the law and all that it calls make is longer than what came in: it says more and counts as full. Else prove '..UptoSaid'. A law counts once. -/
mutual
def uptoBulk {H : Type} : DataW H → Nat
  | .lit (.string bytes) => bytes.length + 1
  | .lit _ => 1
  | .nil => 1
  | .ptr d => uptoBulk d + 1
  | .slice elems spare => uptoBulkAll elems + uptoBulkAll spare + 1
  | .agg parts => uptoBulkAll parts + 1
  | .iface _ d => uptoBulk d + 1
  | .map entries => uptoBulkEntries entries + 1
  | .held _ => 1
def uptoBulkAll {H : Type} : List (DataW H) → Nat
  | [] => 0
  | d :: r => uptoBulk d + uptoBulkAll r
def uptoBulkEntries {H : Type} : List (Lit × DataW H) → Nat
  | [] => 0
  | x :: r => uptoBulkEntry x + uptoBulkEntries r
def uptoBulkEntry {H : Type} : Lit × DataW H → Nat
  | (.string bytes, d) => bytes.length + uptoBulk d + 1
  | (_, d) => uptoBulk d + 1
 end
def uptoSmall : (H : Type) → List (DataW H) → Bool := fun _ ds => decide (uptoBulkAll ds ≤ 1048576)
def OpenSpec.upto (s : _root_.Go.ChangeSpec) : _root_.Go.OpenSpec := { _root_.Go.OpenSpec.ofChange s with cond := some uptoSmall }

/-- 'evergreenlaw04.ModularReduces', WHERE WHAT IT READS IS OF BULK AT MOST 1048576: true; the input reads as it did. -/
def modularReducesUptoRow : OpenClaim := { program := "ytjeicnbnlffllaa", sum := "22872c5e331b24a79400987c211d825e8c3f918440d07a15a34edfdfe8789542", func := "evergreen/evergreenlaw04.ModularReduces", spec := "modularReduces", apart := false, narrowed := true }
def ModularReducesUptoSaid : Prop := modularReducesUptoRow.holds Try.pinned (OpenSpec.upto modularReducesSpec)

/-- 'evergreenlaw04.ModularMultiplies', WHERE WHAT IT READS IS OF BULK AT MOST 1048576: true; the input reads as it did. -/
def modularMultipliesUptoRow : OpenClaim := { program := "ytjeicnbnlffllaa", sum := "22872c5e331b24a79400987c211d825e8c3f918440d07a15a34edfdfe8789542", func := "evergreen/evergreenlaw04.ModularMultiplies", spec := "modularMultiplies", apart := false, narrowed := true }
def ModularMultipliesUptoSaid : Prop := modularMultipliesUptoRow.holds Try.pinned (OpenSpec.upto modularMultipliesSpec)

/-- 'evergreenlaw04.ModularRing', WHERE WHAT IT READS IS OF BULK AT MOST 1048576: true; the input reads as it did. -/
def modularRingUptoRow : OpenClaim := { program := "ytjeicnbnlffllaa", sum := "22872c5e331b24a79400987c211d825e8c3f918440d07a15a34edfdfe8789542", func := "evergreen/evergreenlaw04.ModularRing", spec := "modularRing", apart := false, narrowed := true }
def ModularRingUptoSaid : Prop := modularRingUptoRow.holds Try.pinned (OpenSpec.upto modularRingSpec)

/-- 'evergreenlaw04.ModularAdds', WHERE WHAT IT READS IS OF BULK AT MOST 1048576: true; the input reads as it did. -/
def modularAddsUptoRow : OpenClaim := { program := "ytjeicnbnlffllaa", sum := "22872c5e331b24a79400987c211d825e8c3f918440d07a15a34edfdfe8789542", func := "evergreen/evergreenlaw04.ModularAdds", spec := "modularAdds", apart := false, narrowed := true }
def ModularAddsUptoSaid : Prop := modularAddsUptoRow.holds Try.pinned (OpenSpec.upto modularAddsSpec)

/-- 'evergreenlaw04.ModularHorners', WHERE WHAT IT READS IS OF BULK AT MOST 1048576: true; the input reads as it did. -/
def modularHornersUptoRow : OpenClaim := { program := "ytjeicnbnlffllaa", sum := "22872c5e331b24a79400987c211d825e8c3f918440d07a15a34edfdfe8789542", func := "evergreen/evergreenlaw04.ModularHorners", spec := "modularHorners", apart := false, narrowed := true }
def ModularHornersUptoSaid : Prop := modularHornersUptoRow.holds Try.pinned (OpenSpec.upto modularHornersSpec)

/-- 'evergreenlaw04.ModularPowers', WHERE WHAT IT READS IS OF BULK AT MOST 1048576: true; the input reads as it did. -/
def modularPowersUptoRow : OpenClaim := { program := "ytjeicnbnlffllaa", sum := "22872c5e331b24a79400987c211d825e8c3f918440d07a15a34edfdfe8789542", func := "evergreen/evergreenlaw04.ModularPowers", spec := "modularPowers", apart := false, narrowed := true }
def ModularPowersUptoSaid : Prop := modularPowersUptoRow.holds Try.pinned (OpenSpec.upto modularPowersSpec)

/-- 'evergreenlaw04.ModularFermat', WHERE WHAT IT READS IS OF BULK AT MOST 1048576: true; the input reads as it did. -/
def modularFermatUptoRow : OpenClaim := { program := "ytjeicnbnlffllaa", sum := "22872c5e331b24a79400987c211d825e8c3f918440d07a15a34edfdfe8789542", func := "evergreen/evergreenlaw04.ModularFermat", spec := "modularFermat", apart := false, narrowed := true }
def ModularFermatUptoSaid : Prop := modularFermatUptoRow.holds Try.pinned (OpenSpec.upto modularFermatSpec)

/-- 'evergreenlaw04.ModularInverts', WHERE WHAT IT READS IS OF BULK AT MOST 1048576: true; the input reads as it did. -/
def modularInvertsUptoRow : OpenClaim := { program := "ytjeicnbnlffllaa", sum := "22872c5e331b24a79400987c211d825e8c3f918440d07a15a34edfdfe8789542", func := "evergreen/evergreenlaw04.ModularInverts", spec := "modularInverts", apart := false, narrowed := true }
def ModularInvertsUptoSaid : Prop := modularInvertsUptoRow.holds Try.pinned (OpenSpec.upto modularInvertsSpec)

/-- 'evergreenlaw04.ModularMixes', WHERE WHAT IT READS IS OF BULK AT MOST 1048576: true; the input reads as it did. -/
def modularMixesUptoRow : OpenClaim := { program := "ytjeicnbnlffllaa", sum := "22872c5e331b24a79400987c211d825e8c3f918440d07a15a34edfdfe8789542", func := "evergreen/evergreenlaw04.ModularMixes", spec := "modularMixes", apart := false, narrowed := true }
def ModularMixesUptoSaid : Prop := modularMixesUptoRow.holds Try.pinned (OpenSpec.upto modularMixesSpec)

/-- 'evergreenlaw04.ModularUnlike', WHERE WHAT IT READS IS OF BULK AT MOST 1048576: true; the input reads as it did. -/
def modularUnlikeUptoRow : OpenClaim := { program := "ytjeicnbnlffllaa", sum := "22872c5e331b24a79400987c211d825e8c3f918440d07a15a34edfdfe8789542", func := "evergreen/evergreenlaw04.ModularUnlike", spec := "modularUnlike", apart := false, narrowed := true }
def ModularUnlikeUptoSaid : Prop := modularUnlikeUptoRow.holds Try.pinned (OpenSpec.upto modularUnlikeSpec)

end Rows
end Go.Proofs.Ytjeicnbnlffllaa
