/-
  No cell of these rows narrows 'for every input' (looked for: loops, veiled, ifaces, maps, wideKeys, modest, calm, conditions, laid).
  DERIVED. THE GIVEN ROWS OF THIS SEAT. 9 by the template 'for every input the law returns true; each argument reads behind the call as it read before'; 0 by the template 'total and deterministic' (their statements: YtdpnlhjdekepbaaTotals.lean).
  GIVEN WITH THE SEED: the statements are not yours to turn. If you find one false, say at which input.
  Laid BY PROGRAM, IN A SANDBOX (cutbox-rows.mjs): the forced cells as the released guide's own fill.sh prints them over the translation 7df388ca169553b5… (all of the seat's roots in one cut). By AI agents, Wed Nov 11 2026. No macro, syntax, notation, axiom, sorry.
-/
import Derived.Test.YtdpnlhjdekepbaaChecked
import GoSem.Claim
import GoSem.ClaimJoined
import GoSem.ClaimMapViews
import Derived.JoinedTies
import Derived.KernelRfl
namespace Go.Proofs.Ytdpnlhjdekepbaa
/- THE CELL 'sum', in the pinned program and in every row, IS THE sha256 OF THE DUMP (.gsa) THAT YtdpnlhjdekepbaaProg.lean LOADS. Nothing in Lean hashes anything: it is a label: what it is worth is what the hold of that sum in a sandbox is worth. -/
noncomputable def Try.pinned : Pinned := { name := "ytdpnlhjdekepbaa", sum := "7df388ca169553b5d2f1e099d7cef259284f9eba9cb15e0e21ee5c358de883a9", checked := Try.checked }
namespace Rows
def none {H : Type} : Left H := { results := [], args := [] }

/-- 'evergreenlaw01.LengthAdds': WHATEVER THE INPUT: true; the input reads as it did. -/
def lengthAddsSpec : ChangeSpec := { name := "lengthAdds", fn := fun _ => fun
  | [d1, d2] => { results := [.lit (.bool true)], args := [d1, d2] }
  | _ => none }
def lengthAddsRow : OpenClaim := { program := "ytdpnlhjdekepbaa", sum := "7df388ca169553b5d2f1e099d7cef259284f9eba9cb15e0e21ee5c358de883a9", func := "evergreen/evergreenlaw01.LengthAdds", spec := "lengthAdds", apart := false }
def LengthAddsSaid : Prop := lengthAddsRow.holds Try.pinned (OpenSpec.ofChange lengthAddsSpec)

/-- ITS FALSE NEIGHBOUR: 'it returns false'. Refute it at one input. -/
def lengthAddsWrong : ChangeSpec := { name := "lengthAdds", fn := fun _ => fun
  | [d1, d2] => { results := [.lit (.bool false)], args := [d1, d2] }
  | _ => none }
def LengthAddsWrongFalsely : Prop := lengthAddsRow.holds Try.pinned (OpenSpec.ofChange lengthAddsWrong)

/-- 'evergreenlaw01.LengthLogs': WHATEVER THE INPUT: true; the input reads as it did. -/
def lengthLogsSpec : ChangeSpec := { name := "lengthLogs", fn := fun _ => fun
  | [d] => { results := [.lit (.bool true)], args := [d] }
  | _ => none }
def lengthLogsRow : OpenClaim := { program := "ytdpnlhjdekepbaa", sum := "7df388ca169553b5d2f1e099d7cef259284f9eba9cb15e0e21ee5c358de883a9", func := "evergreen/evergreenlaw01.LengthLogs", spec := "lengthLogs", apart := false }
def LengthLogsSaid : Prop := lengthLogsRow.holds Try.pinned (OpenSpec.ofChange lengthLogsSpec)

/-- ITS FALSE NEIGHBOUR: 'it returns false'. Refute it at one input. -/
def lengthLogsWrong : ChangeSpec := { name := "lengthLogs", fn := fun _ => fun
  | [d] => { results := [.lit (.bool false)], args := [d] }
  | _ => none }
def LengthLogsWrongFalsely : Prop := lengthLogsRow.holds Try.pinned (OpenSpec.ofChange lengthLogsWrong)

/-- 'evergreenlaw01.LengthSubtracts': WHATEVER THE INPUT: true; the input reads as it did. -/
def lengthSubtractsSpec : ChangeSpec := { name := "lengthSubtracts", fn := fun _ => fun
  | [d1, d2] => { results := [.lit (.bool true)], args := [d1, d2] }
  | _ => none }
def lengthSubtractsRow : OpenClaim := { program := "ytdpnlhjdekepbaa", sum := "7df388ca169553b5d2f1e099d7cef259284f9eba9cb15e0e21ee5c358de883a9", func := "evergreen/evergreenlaw01.LengthSubtracts", spec := "lengthSubtracts", apart := false }
def LengthSubtractsSaid : Prop := lengthSubtractsRow.holds Try.pinned (OpenSpec.ofChange lengthSubtractsSpec)

/-- ITS FALSE NEIGHBOUR: 'it returns false'. Refute it at one input. -/
def lengthSubtractsWrong : ChangeSpec := { name := "lengthSubtracts", fn := fun _ => fun
  | [d1, d2] => { results := [.lit (.bool false)], args := [d1, d2] }
  | _ => none }
def LengthSubtractsWrongFalsely : Prop := lengthSubtractsRow.holds Try.pinned (OpenSpec.ofChange lengthSubtractsWrong)

/-- 'evergreenlaw01.LengthRanges': WHATEVER THE INPUT: true; the input reads as it did. -/
def lengthRangesSpec : ChangeSpec := { name := "lengthRanges", fn := fun _ => fun
  | [d1, d2, d3] => { results := [.lit (.bool true)], args := [d1, d2, d3] }
  | _ => none }
def lengthRangesRow : OpenClaim := { program := "ytdpnlhjdekepbaa", sum := "7df388ca169553b5d2f1e099d7cef259284f9eba9cb15e0e21ee5c358de883a9", func := "evergreen/evergreenlaw01.LengthRanges", spec := "lengthRanges", apart := false }
def LengthRangesSaid : Prop := lengthRangesRow.holds Try.pinned (OpenSpec.ofChange lengthRangesSpec)

/-- ITS FALSE NEIGHBOUR: 'it returns false'. Refute it at one input. -/
def lengthRangesWrong : ChangeSpec := { name := "lengthRanges", fn := fun _ => fun
  | [d1, d2, d3] => { results := [.lit (.bool false)], args := [d1, d2, d3] }
  | _ => none }
def LengthRangesWrongFalsely : Prop := lengthRangesRow.holds Try.pinned (OpenSpec.ofChange lengthRangesWrong)

/-- 'evergreenlaw01.LengthUndoes': WHATEVER THE INPUT: true; the input reads as it did. -/
def lengthUndoesSpec : ChangeSpec := { name := "lengthUndoes", fn := fun _ => fun
  | [d1, d2] => { results := [.lit (.bool true)], args := [d1, d2] }
  | _ => none }
def lengthUndoesRow : OpenClaim := { program := "ytdpnlhjdekepbaa", sum := "7df388ca169553b5d2f1e099d7cef259284f9eba9cb15e0e21ee5c358de883a9", func := "evergreen/evergreenlaw01.LengthUndoes", spec := "lengthUndoes", apart := false }
def LengthUndoesSaid : Prop := lengthUndoesRow.holds Try.pinned (OpenSpec.ofChange lengthUndoesSpec)

/-- ITS FALSE NEIGHBOUR: 'it returns false'. Refute it at one input. -/
def lengthUndoesWrong : ChangeSpec := { name := "lengthUndoes", fn := fun _ => fun
  | [d1, d2] => { results := [.lit (.bool false)], args := [d1, d2] }
  | _ => none }
def LengthUndoesWrongFalsely : Prop := lengthUndoesRow.holds Try.pinned (OpenSpec.ofChange lengthUndoesWrong)

/-- 'evergreenlaw01.LengthClips': WHATEVER THE INPUT: true; the input reads as it did. -/
def lengthClipsSpec : ChangeSpec := { name := "lengthClips", fn := fun _ => fun
  | [d1, d2, d3] => { results := [.lit (.bool true)], args := [d1, d2, d3] }
  | _ => none }
def lengthClipsRow : OpenClaim := { program := "ytdpnlhjdekepbaa", sum := "7df388ca169553b5d2f1e099d7cef259284f9eba9cb15e0e21ee5c358de883a9", func := "evergreen/evergreenlaw01.LengthClips", spec := "lengthClips", apart := false }
def LengthClipsSaid : Prop := lengthClipsRow.holds Try.pinned (OpenSpec.ofChange lengthClipsSpec)

/-- ITS FALSE NEIGHBOUR: 'it returns false'. Refute it at one input. -/
def lengthClipsWrong : ChangeSpec := { name := "lengthClips", fn := fun _ => fun
  | [d1, d2, d3] => { results := [.lit (.bool false)], args := [d1, d2, d3] }
  | _ => none }
def LengthClipsWrongFalsely : Prop := lengthClipsRow.holds Try.pinned (OpenSpec.ofChange lengthClipsWrong)

/-- 'evergreenlaw01.LengthSums': WHATEVER THE INPUT: true; the input reads as it did. -/
def lengthSumsSpec : ChangeSpec := { name := "lengthSums", fn := fun _ => fun
  | [d] => { results := [.lit (.bool true)], args := [d] }
  | _ => none }
def lengthSumsRow : OpenClaim := { program := "ytdpnlhjdekepbaa", sum := "7df388ca169553b5d2f1e099d7cef259284f9eba9cb15e0e21ee5c358de883a9", func := "evergreen/evergreenlaw01.LengthSums", spec := "lengthSums", apart := false }
def LengthSumsSaid : Prop := lengthSumsRow.holds Try.pinned (OpenSpec.ofChange lengthSumsSpec)

/-- ITS FALSE NEIGHBOUR: 'it returns false'. Refute it at one input. -/
def lengthSumsWrong : ChangeSpec := { name := "lengthSums", fn := fun _ => fun
  | [d] => { results := [.lit (.bool false)], args := [d] }
  | _ => none }
def LengthSumsWrongFalsely : Prop := lengthSumsRow.holds Try.pinned (OpenSpec.ofChange lengthSumsWrong)

/-- 'evergreenlaw01.LengthMultiplies': WHATEVER THE INPUT: true; the input reads as it did. -/
def lengthMultipliesSpec : ChangeSpec := { name := "lengthMultiplies", fn := fun _ => fun
  | [d1, d2] => { results := [.lit (.bool true)], args := [d1, d2] }
  | _ => none }
def lengthMultipliesRow : OpenClaim := { program := "ytdpnlhjdekepbaa", sum := "7df388ca169553b5d2f1e099d7cef259284f9eba9cb15e0e21ee5c358de883a9", func := "evergreen/evergreenlaw01.LengthMultiplies", spec := "lengthMultiplies", apart := false }
def LengthMultipliesSaid : Prop := lengthMultipliesRow.holds Try.pinned (OpenSpec.ofChange lengthMultipliesSpec)

/-- ITS FALSE NEIGHBOUR: 'it returns false'. Refute it at one input. -/
def lengthMultipliesWrong : ChangeSpec := { name := "lengthMultiplies", fn := fun _ => fun
  | [d1, d2] => { results := [.lit (.bool false)], args := [d1, d2] }
  | _ => none }
def LengthMultipliesWrongFalsely : Prop := lengthMultipliesRow.holds Try.pinned (OpenSpec.ofChange lengthMultipliesWrong)

/-- 'evergreenlaw01.LengthDistributes': WHATEVER THE INPUT: true; the input reads as it did. -/
def lengthDistributesSpec : ChangeSpec := { name := "lengthDistributes", fn := fun _ => fun
  | [d1, d2, d3] => { results := [.lit (.bool true)], args := [d1, d2, d3] }
  | _ => none }
def lengthDistributesRow : OpenClaim := { program := "ytdpnlhjdekepbaa", sum := "7df388ca169553b5d2f1e099d7cef259284f9eba9cb15e0e21ee5c358de883a9", func := "evergreen/evergreenlaw01.LengthDistributes", spec := "lengthDistributes", apart := false }
def LengthDistributesSaid : Prop := lengthDistributesRow.holds Try.pinned (OpenSpec.ofChange lengthDistributesSpec)

/-- ITS FALSE NEIGHBOUR: 'it returns false'. Refute it at one input. -/
def lengthDistributesWrong : ChangeSpec := { name := "lengthDistributes", fn := fun _ => fun
  | [d1, d2, d3] => { results := [.lit (.bool false)], args := [d1, d2, d3] }
  | _ => none }
def LengthDistributesWrongFalsely : Prop := lengthDistributesRow.holds Try.pinned (OpenSpec.ofChange lengthDistributesWrong)

/- THE SECOND FORM. 'bulk': how many values and letters a reading holds, each counted each time it is reached (what is shared counts as often as it is met; a slice's spare places count too). A statement '..UptoSaid' is the law's where the arguments, and the package variables that the reading takes, are together of bulk at most 1048576: NARROWER than '..Said'. Prove '..Said' where nothing that the law and all that it calls make is longer than what came in: it says more and counts as full. Else prove '..UptoSaid'. A law counts once. -/
mutual
def uptoBulk {H : Type} : DataW H → Nat
  | .lit (.string bytes) => bytes.length + 1
  | .lit _ => 1
  | .nil => 1
  | .ptr d => uptoBulk d + 1
  | .slice elems spare => uptoBulkAll elems + uptoBulkAll spare + 1
  | .agg parts => uptoBulkAll parts + 1
  | .iface _ d => uptoBulk d + 1
  | .map entries => uptoBulkEntries entries + 1
  | .held _ => 1
def uptoBulkAll {H : Type} : List (DataW H) → Nat
  | [] => 0
  | d :: r => uptoBulk d + uptoBulkAll r
def uptoBulkEntries {H : Type} : List (Lit × DataW H) → Nat
  | [] => 0
  | x :: r => uptoBulkEntry x + uptoBulkEntries r
def uptoBulkEntry {H : Type} : Lit × DataW H → Nat
  | (.string bytes, d) => bytes.length + uptoBulk d + 1
  | (_, d) => uptoBulk d + 1
 end
def uptoSmall : (H : Type) → List (DataW H) → Bool := fun _ ds => decide (uptoBulkAll ds ≤ 1048576)
def OpenSpec.upto (s : _root_.Go.ChangeSpec) : _root_.Go.OpenSpec := { _root_.Go.OpenSpec.ofChange s with cond := some uptoSmall }

/-- 'evergreenlaw01.LengthAdds', WHERE WHAT IT READS IS OF BULK AT MOST 1048576: true; the input reads as it did. -/
def lengthAddsUptoRow : OpenClaim := { program := "ytdpnlhjdekepbaa", sum := "7df388ca169553b5d2f1e099d7cef259284f9eba9cb15e0e21ee5c358de883a9", func := "evergreen/evergreenlaw01.LengthAdds", spec := "lengthAdds", apart := false, narrowed := true }
def LengthAddsUptoSaid : Prop := lengthAddsUptoRow.holds Try.pinned (OpenSpec.upto lengthAddsSpec)

/-- 'evergreenlaw01.LengthLogs', WHERE WHAT IT READS IS OF BULK AT MOST 1048576: true; the input reads as it did. -/
def lengthLogsUptoRow : OpenClaim := { program := "ytdpnlhjdekepbaa", sum := "7df388ca169553b5d2f1e099d7cef259284f9eba9cb15e0e21ee5c358de883a9", func := "evergreen/evergreenlaw01.LengthLogs", spec := "lengthLogs", apart := false, narrowed := true }
def LengthLogsUptoSaid : Prop := lengthLogsUptoRow.holds Try.pinned (OpenSpec.upto lengthLogsSpec)

/-- 'evergreenlaw01.LengthSubtracts', WHERE WHAT IT READS IS OF BULK AT MOST 1048576: true; the input reads as it did. -/
def lengthSubtractsUptoRow : OpenClaim := { program := "ytdpnlhjdekepbaa", sum := "7df388ca169553b5d2f1e099d7cef259284f9eba9cb15e0e21ee5c358de883a9", func := "evergreen/evergreenlaw01.LengthSubtracts", spec := "lengthSubtracts", apart := false, narrowed := true }
def LengthSubtractsUptoSaid : Prop := lengthSubtractsUptoRow.holds Try.pinned (OpenSpec.upto lengthSubtractsSpec)

/-- 'evergreenlaw01.LengthRanges', WHERE WHAT IT READS IS OF BULK AT MOST 1048576: true; the input reads as it did. -/
def lengthRangesUptoRow : OpenClaim := { program := "ytdpnlhjdekepbaa", sum := "7df388ca169553b5d2f1e099d7cef259284f9eba9cb15e0e21ee5c358de883a9", func := "evergreen/evergreenlaw01.LengthRanges", spec := "lengthRanges", apart := false, narrowed := true }
def LengthRangesUptoSaid : Prop := lengthRangesUptoRow.holds Try.pinned (OpenSpec.upto lengthRangesSpec)

/-- 'evergreenlaw01.LengthUndoes', WHERE WHAT IT READS IS OF BULK AT MOST 1048576: true; the input reads as it did. -/
def lengthUndoesUptoRow : OpenClaim := { program := "ytdpnlhjdekepbaa", sum := "7df388ca169553b5d2f1e099d7cef259284f9eba9cb15e0e21ee5c358de883a9", func := "evergreen/evergreenlaw01.LengthUndoes", spec := "lengthUndoes", apart := false, narrowed := true }
def LengthUndoesUptoSaid : Prop := lengthUndoesUptoRow.holds Try.pinned (OpenSpec.upto lengthUndoesSpec)

/-- 'evergreenlaw01.LengthClips', WHERE WHAT IT READS IS OF BULK AT MOST 1048576: true; the input reads as it did. -/
def lengthClipsUptoRow : OpenClaim := { program := "ytdpnlhjdekepbaa", sum := "7df388ca169553b5d2f1e099d7cef259284f9eba9cb15e0e21ee5c358de883a9", func := "evergreen/evergreenlaw01.LengthClips", spec := "lengthClips", apart := false, narrowed := true }
def LengthClipsUptoSaid : Prop := lengthClipsUptoRow.holds Try.pinned (OpenSpec.upto lengthClipsSpec)

/-- 'evergreenlaw01.LengthSums', WHERE WHAT IT READS IS OF BULK AT MOST 1048576: true; the input reads as it did. -/
def lengthSumsUptoRow : OpenClaim := { program := "ytdpnlhjdekepbaa", sum := "7df388ca169553b5d2f1e099d7cef259284f9eba9cb15e0e21ee5c358de883a9", func := "evergreen/evergreenlaw01.LengthSums", spec := "lengthSums", apart := false, narrowed := true }
def LengthSumsUptoSaid : Prop := lengthSumsUptoRow.holds Try.pinned (OpenSpec.upto lengthSumsSpec)

/-- 'evergreenlaw01.LengthMultiplies', WHERE WHAT IT READS IS OF BULK AT MOST 1048576: true; the input reads as it did. -/
def lengthMultipliesUptoRow : OpenClaim := { program := "ytdpnlhjdekepbaa", sum := "7df388ca169553b5d2f1e099d7cef259284f9eba9cb15e0e21ee5c358de883a9", func := "evergreen/evergreenlaw01.LengthMultiplies", spec := "lengthMultiplies", apart := false, narrowed := true }
def LengthMultipliesUptoSaid : Prop := lengthMultipliesUptoRow.holds Try.pinned (OpenSpec.upto lengthMultipliesSpec)

/-- 'evergreenlaw01.LengthDistributes', WHERE WHAT IT READS IS OF BULK AT MOST 1048576: true; the input reads as it did. -/
def lengthDistributesUptoRow : OpenClaim := { program := "ytdpnlhjdekepbaa", sum := "7df388ca169553b5d2f1e099d7cef259284f9eba9cb15e0e21ee5c358de883a9", func := "evergreen/evergreenlaw01.LengthDistributes", spec := "lengthDistributes", apart := false, narrowed := true }
def LengthDistributesUptoSaid : Prop := lengthDistributesUptoRow.holds Try.pinned (OpenSpec.upto lengthDistributesSpec)

end Rows
end Go.Proofs.Ytdpnlhjdekepbaa
