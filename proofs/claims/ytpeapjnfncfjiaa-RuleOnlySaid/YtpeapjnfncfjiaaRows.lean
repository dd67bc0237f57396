/-
  No cell of these rows narrows 'for every input' (looked for: loops, veiled, ifaces, maps, wideKeys, modest, calm, conditions, laid).
  DERIVED. THE GIVEN ROWS OF THIS SEAT. 9 by the template 'for every input the law returns true; each argument reads behind the call as it read before'; 0 by the template 'total and deterministic' (their statements: YtpeapjnfncfjiaaTotals.lean).
  GIVEN WITH THE SEED: the statements are not yours to turn. If you find one false, say at which input.
  Laid BY PROGRAM, IN A SANDBOX (cutbox-rows.mjs): the forced cells as the released guide's own fill.sh prints them over the translation 058996922a1ac720… (all of the seat's roots in one cut). By AI agents, Wed Nov 11 2026. No macro, syntax, notation, axiom, sorry.
-/
import Derived.Test.YtpeapjnfncfjiaaChecked
import GoSem.Claim
import GoSem.ClaimJoined
import GoSem.ClaimMapViews
import Derived.JoinedTies
import Derived.KernelRfl
namespace Go.Proofs.Ytpeapjnfncfjiaa
/- THE CELL 'sum', in the pinned program and in every row, IS THE sha256 OF THE DUMP (.gsa) THAT YtpeapjnfncfjiaaProg.lean LOADS. Nothing in Lean hashes anything: it is a label: what it is worth is what the hold of that sum in a sandbox is worth. -/
noncomputable def Try.pinned : Pinned := { name := "ytpeapjnfncfjiaa", sum := "058996922a1ac720a882fc96b48ce181d4636e5f166d1fd89ec612d6b12b8083", checked := Try.checked }
namespace Rows
def none {H : Type} : Left H := { results := [], args := [] }

/-- 'evergreenlaw09.RuleRefs': WHATEVER THE INPUT: true; the input reads as it did. -/
def ruleRefsSpec : ChangeSpec := { name := "ruleRefs", fn := fun _ => fun
  | [d] => { results := [.lit (.bool true)], args := [d] }
  | _ => none }
def ruleRefsRow : OpenClaim := { program := "ytpeapjnfncfjiaa", sum := "058996922a1ac720a882fc96b48ce181d4636e5f166d1fd89ec612d6b12b8083", func := "evergreen/evergreenlaw09.RuleRefs", spec := "ruleRefs", apart := false }
def RuleRefsSaid : Prop := ruleRefsRow.holds Try.pinned (OpenSpec.ofChange ruleRefsSpec)

/-- ITS FALSE NEIGHBOUR: 'it returns false'. Refute it at one input. -/
def ruleRefsWrong : ChangeSpec := { name := "ruleRefs", fn := fun _ => fun
  | [d] => { results := [.lit (.bool false)], args := [d] }
  | _ => none }
def RuleRefsWrongFalsely : Prop := ruleRefsRow.holds Try.pinned (OpenSpec.ofChange ruleRefsWrong)

/-- 'evergreenlaw09.RuleMoves': WHATEVER THE INPUT: true; the input reads as it did. -/
def ruleMovesSpec : ChangeSpec := { name := "ruleMoves", fn := fun _ => fun
  | [d1, d2] => { results := [.lit (.bool true)], args := [d1, d2] }
  | _ => none }
def ruleMovesRow : OpenClaim := { program := "ytpeapjnfncfjiaa", sum := "058996922a1ac720a882fc96b48ce181d4636e5f166d1fd89ec612d6b12b8083", func := "evergreen/evergreenlaw09.RuleMoves", spec := "ruleMoves", apart := false }
def RuleMovesSaid : Prop := ruleMovesRow.holds Try.pinned (OpenSpec.ofChange ruleMovesSpec)

/-- ITS FALSE NEIGHBOUR: 'it returns false'. Refute it at one input. -/
def ruleMovesWrong : ChangeSpec := { name := "ruleMoves", fn := fun _ => fun
  | [d1, d2] => { results := [.lit (.bool false)], args := [d1, d2] }
  | _ => none }
def RuleMovesWrongFalsely : Prop := ruleMovesRow.holds Try.pinned (OpenSpec.ofChange ruleMovesWrong)

/-- 'evergreenlaw09.RuleChecks': WHATEVER THE INPUT: true; the input reads as it did. -/
def ruleChecksSpec : ChangeSpec := { name := "ruleChecks", fn := fun _ => fun
  | [d1, d2] => { results := [.lit (.bool true)], args := [d1, d2] }
  | _ => none }
def ruleChecksRow : OpenClaim := { program := "ytpeapjnfncfjiaa", sum := "058996922a1ac720a882fc96b48ce181d4636e5f166d1fd89ec612d6b12b8083", func := "evergreen/evergreenlaw09.RuleChecks", spec := "ruleChecks", apart := false }
def RuleChecksSaid : Prop := ruleChecksRow.holds Try.pinned (OpenSpec.ofChange ruleChecksSpec)

/-- ITS FALSE NEIGHBOUR: 'it returns false'. Refute it at one input. -/
def ruleChecksWrong : ChangeSpec := { name := "ruleChecks", fn := fun _ => fun
  | [d1, d2] => { results := [.lit (.bool false)], args := [d1, d2] }
  | _ => none }
def RuleChecksWrongFalsely : Prop := ruleChecksRow.holds Try.pinned (OpenSpec.ofChange ruleChecksWrong)

/-- 'evergreenlaw09.RuleOrder': WHATEVER THE INPUT: true; the input reads as it did. -/
def ruleOrderSpec : ChangeSpec := { name := "ruleOrder", fn := fun _ => fun
  | [d] => { results := [.lit (.bool true)], args := [d] }
  | _ => none }
def ruleOrderRow : OpenClaim := { program := "ytpeapjnfncfjiaa", sum := "058996922a1ac720a882fc96b48ce181d4636e5f166d1fd89ec612d6b12b8083", func := "evergreen/evergreenlaw09.RuleOrder", spec := "ruleOrder", apart := false }
def RuleOrderSaid : Prop := ruleOrderRow.holds Try.pinned (OpenSpec.ofChange ruleOrderSpec)

/-- ITS FALSE NEIGHBOUR: 'it returns false'. Refute it at one input. -/
def ruleOrderWrong : ChangeSpec := { name := "ruleOrder", fn := fun _ => fun
  | [d] => { results := [.lit (.bool false)], args := [d] }
  | _ => none }
def RuleOrderWrongFalsely : Prop := ruleOrderRow.holds Try.pinned (OpenSpec.ofChange ruleOrderWrong)

/-- 'evergreenlaw09.RulePuts': WHATEVER THE INPUT: true; the input reads as it did. -/
def rulePutsSpec : ChangeSpec := { name := "rulePuts", fn := fun _ => fun
  | [d1, d2] => { results := [.lit (.bool true)], args := [d1, d2] }
  | _ => none }
def rulePutsRow : OpenClaim := { program := "ytpeapjnfncfjiaa", sum := "058996922a1ac720a882fc96b48ce181d4636e5f166d1fd89ec612d6b12b8083", func := "evergreen/evergreenlaw09.RulePuts", spec := "rulePuts", recurses := true, apart := false }
def RulePutsSaid : Prop := rulePutsRow.holds Try.pinned (OpenSpec.ofChange rulePutsSpec)

/-- ITS FALSE NEIGHBOUR: 'it returns false'. Refute it at one input. -/
def rulePutsWrong : ChangeSpec := { name := "rulePuts", fn := fun _ => fun
  | [d1, d2] => { results := [.lit (.bool false)], args := [d1, d2] }
  | _ => none }
def RulePutsWrongFalsely : Prop := rulePutsRow.holds Try.pinned (OpenSpec.ofChange rulePutsWrong)

/-- 'evergreenlaw09.RuleShifts': WHATEVER THE INPUT: true; the input reads as it did. -/
def ruleShiftsSpec : ChangeSpec := { name := "ruleShifts", fn := fun _ => fun
  | [d1, d2, d3] => { results := [.lit (.bool true)], args := [d1, d2, d3] }
  | _ => none }
def ruleShiftsRow : OpenClaim := { program := "ytpeapjnfncfjiaa", sum := "058996922a1ac720a882fc96b48ce181d4636e5f166d1fd89ec612d6b12b8083", func := "evergreen/evergreenlaw09.RuleShifts", spec := "ruleShifts", apart := false }
def RuleShiftsSaid : Prop := ruleShiftsRow.holds Try.pinned (OpenSpec.ofChange ruleShiftsSpec)

/-- ITS FALSE NEIGHBOUR: 'it returns false'. Refute it at one input. -/
def ruleShiftsWrong : ChangeSpec := { name := "ruleShifts", fn := fun _ => fun
  | [d1, d2, d3] => { results := [.lit (.bool false)], args := [d1, d2, d3] }
  | _ => none }
def RuleShiftsWrongFalsely : Prop := ruleShiftsRow.holds Try.pinned (OpenSpec.ofChange ruleShiftsWrong)

/-- 'evergreenlaw09.RuleTakes': WHATEVER THE INPUT: true; the input reads as it did. -/
def ruleTakesSpec : ChangeSpec := { name := "ruleTakes", fn := fun _ => fun
  | [d1, d2] => { results := [.lit (.bool true)], args := [d1, d2] }
  | _ => none }
def ruleTakesRow : OpenClaim := { program := "ytpeapjnfncfjiaa", sum := "058996922a1ac720a882fc96b48ce181d4636e5f166d1fd89ec612d6b12b8083", func := "evergreen/evergreenlaw09.RuleTakes", spec := "ruleTakes", apart := false }
def RuleTakesSaid : Prop := ruleTakesRow.holds Try.pinned (OpenSpec.ofChange ruleTakesSpec)

/-- ITS FALSE NEIGHBOUR: 'it returns false'. Refute it at one input. -/
def ruleTakesWrong : ChangeSpec := { name := "ruleTakes", fn := fun _ => fun
  | [d1, d2] => { results := [.lit (.bool false)], args := [d1, d2] }
  | _ => none }
def RuleTakesWrongFalsely : Prop := ruleTakesRow.holds Try.pinned (OpenSpec.ofChange ruleTakesWrong)

/-- 'evergreenlaw09.RuleBack': WHATEVER THE INPUT: true; the input reads as it did. -/
def ruleBackSpec : ChangeSpec := { name := "ruleBack", fn := fun _ => fun
  | [d1, d2, d3] => { results := [.lit (.bool true)], args := [d1, d2, d3] }
  | _ => none }
def ruleBackRow : OpenClaim := { program := "ytpeapjnfncfjiaa", sum := "058996922a1ac720a882fc96b48ce181d4636e5f166d1fd89ec612d6b12b8083", func := "evergreen/evergreenlaw09.RuleBack", spec := "ruleBack", apart := false }
def RuleBackSaid : Prop := ruleBackRow.holds Try.pinned (OpenSpec.ofChange ruleBackSpec)

/-- ITS FALSE NEIGHBOUR: 'it returns false'. Refute it at one input. -/
def ruleBackWrong : ChangeSpec := { name := "ruleBack", fn := fun _ => fun
  | [d1, d2, d3] => { results := [.lit (.bool false)], args := [d1, d2, d3] }
  | _ => none }
def RuleBackWrongFalsely : Prop := ruleBackRow.holds Try.pinned (OpenSpec.ofChange ruleBackWrong)

/-- 'evergreenlaw09.RuleOnly': WHATEVER THE INPUT: true; the input reads as it did. -/
def ruleOnlySpec : ChangeSpec := { name := "ruleOnly", fn := fun _ => fun
  | [d1, d2] => { results := [.lit (.bool true)], args := [d1, d2] }
  | _ => none }
def ruleOnlyRow : OpenClaim := { program := "ytpeapjnfncfjiaa", sum := "058996922a1ac720a882fc96b48ce181d4636e5f166d1fd89ec612d6b12b8083", func := "evergreen/evergreenlaw09.RuleOnly", spec := "ruleOnly", apart := false }
def RuleOnlySaid : Prop := ruleOnlyRow.holds Try.pinned (OpenSpec.ofChange ruleOnlySpec)

/-- ITS FALSE NEIGHBOUR: 'it returns false'. Refute it at one input. -/
def ruleOnlyWrong : ChangeSpec := { name := "ruleOnly", fn := fun _ => fun
  | [d1, d2] => { results := [.lit (.bool false)], args := [d1, d2] }
  | _ => none }
def RuleOnlyWrongFalsely : Prop := ruleOnlyRow.holds Try.pinned (OpenSpec.ofChange ruleOnlyWrong)

/- THE SECOND FORM. 'bulk': how many values and letters a reading holds, each counted each time it is reached (what is shared counts as often as it is met; a slice's spare places count too). A statement '..UptoSaid' is the law's where the arguments, and the package variables that the reading takes, are together of bulk at most 1048576: NARROWER than '..Said'. Prove '..Said' where nothing that the law and all that it calls make is longer than what came in: it says more and counts as full. Else prove '..UptoSaid'. A law counts once. -/
mutual
def uptoBulk {H : Type} : DataW H → Nat
  | .lit (.string bytes) => bytes.length + 1
  | .lit _ => 1
  | .nil => 1
  | .ptr d => uptoBulk d + 1
  | .slice elems spare => uptoBulkAll elems + uptoBulkAll spare + 1
  | .agg parts => uptoBulkAll parts + 1
  | .iface _ d => uptoBulk d + 1
  | .map entries => uptoBulkEntries entries + 1
  | .held _ => 1
def uptoBulkAll {H : Type} : List (DataW H) → Nat
  | [] => 0
  | d :: r => uptoBulk d + uptoBulkAll r
def uptoBulkEntries {H : Type} : List (Lit × DataW H) → Nat
  | [] => 0
  | x :: r => uptoBulkEntry x + uptoBulkEntries r
def uptoBulkEntry {H : Type} : Lit × DataW H → Nat
  | (.string bytes, d) => bytes.length + uptoBulk d + 1
  | (_, d) => uptoBulk d + 1
 end
def uptoSmall : (H : Type) → List (DataW H) → Bool := fun _ ds => decide (uptoBulkAll ds ≤ 1048576)
def OpenSpec.upto (s : _root_.Go.ChangeSpec) : _root_.Go.OpenSpec := { _root_.Go.OpenSpec.ofChange s with cond := some uptoSmall }

/-- 'evergreenlaw09.RuleRefs', WHERE WHAT IT READS IS OF BULK AT MOST 1048576: true; the input reads as it did. -/
def ruleRefsUptoRow : OpenClaim := { program := "ytpeapjnfncfjiaa", sum := "058996922a1ac720a882fc96b48ce181d4636e5f166d1fd89ec612d6b12b8083", func := "evergreen/evergreenlaw09.RuleRefs", spec := "ruleRefs", apart := false, narrowed := true }
def RuleRefsUptoSaid : Prop := ruleRefsUptoRow.holds Try.pinned (OpenSpec.upto ruleRefsSpec)

/-- 'evergreenlaw09.RuleMoves', WHERE WHAT IT READS IS OF BULK AT MOST 1048576: true; the input reads as it did. -/
def ruleMovesUptoRow : OpenClaim := { program := "ytpeapjnfncfjiaa", sum := "058996922a1ac720a882fc96b48ce181d4636e5f166d1fd89ec612d6b12b8083", func := "evergreen/evergreenlaw09.RuleMoves", spec := "ruleMoves", apart := false, narrowed := true }
def RuleMovesUptoSaid : Prop := ruleMovesUptoRow.holds Try.pinned (OpenSpec.upto ruleMovesSpec)

/-- 'evergreenlaw09.RuleChecks', WHERE WHAT IT READS IS OF BULK AT MOST 1048576: true; the input reads as it did. -/
def ruleChecksUptoRow : OpenClaim := { program := "ytpeapjnfncfjiaa", sum := "058996922a1ac720a882fc96b48ce181d4636e5f166d1fd89ec612d6b12b8083", func := "evergreen/evergreenlaw09.RuleChecks", spec := "ruleChecks", apart := false, narrowed := true }
def RuleChecksUptoSaid : Prop := ruleChecksUptoRow.holds Try.pinned (OpenSpec.upto ruleChecksSpec)

/-- 'evergreenlaw09.RuleOrder', WHERE WHAT IT READS IS OF BULK AT MOST 1048576: true; the input reads as it did. -/
def ruleOrderUptoRow : OpenClaim := { program := "ytpeapjnfncfjiaa", sum := "058996922a1ac720a882fc96b48ce181d4636e5f166d1fd89ec612d6b12b8083", func := "evergreen/evergreenlaw09.RuleOrder", spec := "ruleOrder", apart := false, narrowed := true }
def RuleOrderUptoSaid : Prop := ruleOrderUptoRow.holds Try.pinned (OpenSpec.upto ruleOrderSpec)

/-- 'evergreenlaw09.RulePuts', WHERE WHAT IT READS IS OF BULK AT MOST 1048576: true; the input reads as it did. -/
def rulePutsUptoRow : OpenClaim := { program := "ytpeapjnfncfjiaa", sum := "058996922a1ac720a882fc96b48ce181d4636e5f166d1fd89ec612d6b12b8083", func := "evergreen/evergreenlaw09.RulePuts", spec := "rulePuts", recurses := true, apart := false, narrowed := true }
def RulePutsUptoSaid : Prop := rulePutsUptoRow.holds Try.pinned (OpenSpec.upto rulePutsSpec)

/-- 'evergreenlaw09.RuleShifts', WHERE WHAT IT READS IS OF BULK AT MOST 1048576: true; the input reads as it did. -/
def ruleShiftsUptoRow : OpenClaim := { program := "ytpeapjnfncfjiaa", sum := "058996922a1ac720a882fc96b48ce181d4636e5f166d1fd89ec612d6b12b8083", func := "evergreen/evergreenlaw09.RuleShifts", spec := "ruleShifts", apart := false, narrowed := true }
def RuleShiftsUptoSaid : Prop := ruleShiftsUptoRow.holds Try.pinned (OpenSpec.upto ruleShiftsSpec)

/-- 'evergreenlaw09.RuleTakes', WHERE WHAT IT READS IS OF BULK AT MOST 1048576: true; the input reads as it did. -/
def ruleTakesUptoRow : OpenClaim := { program := "ytpeapjnfncfjiaa", sum := "058996922a1ac720a882fc96b48ce181d4636e5f166d1fd89ec612d6b12b8083", func := "evergreen/evergreenlaw09.RuleTakes", spec := "ruleTakes", apart := false, narrowed := true }
def RuleTakesUptoSaid : Prop := ruleTakesUptoRow.holds Try.pinned (OpenSpec.upto ruleTakesSpec)

/-- 'evergreenlaw09.RuleBack', WHERE WHAT IT READS IS OF BULK AT MOST 1048576: true; the input reads as it did. -/
def ruleBackUptoRow : OpenClaim := { program := "ytpeapjnfncfjiaa", sum := "058996922a1ac720a882fc96b48ce181d4636e5f166d1fd89ec612d6b12b8083", func := "evergreen/evergreenlaw09.RuleBack", spec := "ruleBack", apart := false, narrowed := true }
def RuleBackUptoSaid : Prop := ruleBackUptoRow.holds Try.pinned (OpenSpec.upto ruleBackSpec)

/-- 'evergreenlaw09.RuleOnly', WHERE WHAT IT READS IS OF BULK AT MOST 1048576: true; the input reads as it did. -/
def ruleOnlyUptoRow : OpenClaim := { program := "ytpeapjnfncfjiaa", sum := "058996922a1ac720a882fc96b48ce181d4636e5f166d1fd89ec612d6b12b8083", func := "evergreen/evergreenlaw09.RuleOnly", spec := "ruleOnly", apart := false, narrowed := true }
def RuleOnlyUptoSaid : Prop := ruleOnlyUptoRow.holds Try.pinned (OpenSpec.upto ruleOnlySpec)

end Rows
end Go.Proofs.Ytpeapjnfncfjiaa
