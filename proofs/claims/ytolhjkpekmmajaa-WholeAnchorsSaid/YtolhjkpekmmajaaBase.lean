/- The walks of evergreenbase.Num and Is. -/
import Derived.Test.YtolhjkpekmmajaaProg
import Derived.WalkKit
import Derived.WalkSpells
import Derived.WalkLawsBesides
import Derived.Lib.Hide
namespace Go.Proofs.Ytolhjkpekmmajaa
set_option linter.unusedVariables false
set_option linter.unusedSimpArgs false
open Go.RowKit Go.Lib

theorem retb {a b : Bool} (h : a = b) : Ending.returned (.bool a) = .returned (.bool b) := by rw [h]
theorem reti {k : IntKind} {a b : Int} (h : a = b) : Ending.returned (.int k a) = .returned (.int k b) := by rw [h]
/-- an error of the program: its number; 0 is nil. -/
def errv (k : Int) : Value := if k = 0 then .nilIface else .iface 72 (.int .i64 k)
theorem errv_zero : errv 0 = .nilIface := rfl
theorem errv_pos (k : Int) (h : k ≠ 0) : errv k = .iface 72 (.int .i64 k) := if_neg h

theorem as_errno (v : Value) (w : World) : (Instr.typeAssert (.iface 72 v) 38 72 true).run Try.prog w = .ok (.tuple #[v, .bool true]) w := by
  simp [Instr.typeAssert, run_underlying Try.underlying72]
end Go.Proofs.Ytolhjkpekmmajaa
