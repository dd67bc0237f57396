/- The walks of evergreenbase.Num and Is. -/
import Derived.Test.YtcbahojefglakaaProg
import Derived.WalkKit
import Derived.WalkSpells
import Derived.WalkLawsBesides
import Derived.Lib.Hide
namespace Go.Proofs.Ytcbahojefglakaa
set_option linter.unusedVariables false
set_option linter.unusedSimpArgs false
open Go.RowKit Go.Lib

theorem retb {a b : Bool} (h : a = b) : Ending.returned (.bool a) = .returned (.bool b) := by rw [h]
theorem reti {k : IntKind} {a b : Int} (h : a = b) : Ending.returned (.int k a) = .returned (.int k b) := by rw [h]
/-- an error of the program: its number; 0 is nil. -/
def errv (k : Int) : Value := if k = 0 then .nilIface else .iface 50 (.int .i64 k)
theorem errv_zero : errv 0 = .nilIface := rfl
theorem errv_pos (k : Int) (h : k ≠ 0) : errv k = .iface 50 (.int .i64 k) := if_neg h

theorem as_errno (v : Value) (w : World) : (Instr.typeAssert (.iface 50 v) 29 50 true).run Try.prog w = .ok (.tuple #[v, .bool true]) w := by
  simp [Instr.typeAssert, run_underlying Try.underlying50]
theorem num_nil (w : World) : Calls Try.prog 20 #[.nilIface] w fun e w' => e = .returned (.int .i64 0) ∧ w = w' := by
  go_enter Try.func20, Try.ntmps20
  go_wp2
  go_ret
  exact ⟨rfl, rfl⟩
theorem num_err (k : Int) (w : World) : Calls Try.prog 20 #[.iface 50 (.int .i64 k)] w fun e w' => e = .returned (.int .i64 k) ∧ w = w' := by
  have ha := as_errno
  go_enter Try.func20, Try.ntmps20
  go_wp2
  go_ret
  exact ⟨rfl, rfl⟩
theorem num_any (k : Int) (w : World) : Calls Try.prog 20 #[errv k] w fun e w' => e = .returned (.int .i64 k) ∧ w = w' := by
  by_cases h : k = 0
  · subst h; exact num_nil w
  · rw [errv_pos k h]; exact num_err k w
theorem is_yes (k : Int) (hk : (k == 0) = false) (w : World) : Calls Try.prog 29 #[.iface 50 (.int .i64 k), .int .i64 k] w fun e w' => e = .returned (.bool true) ∧ w = w' := by
  have hn : (k != 0) = true := by rw [bne_iff_ne]; exact beq_eq_false_iff_ne.1 hk
  go_enter Try.func29, Try.ntmps29
  go_wp2_with fail
  (with_reducible refine (num_err k _).mono ?_)
  rintro e w' ⟨rfl, rfl⟩
  go_wp2_with fail
  go_ret
  exact ⟨rfl, rfl⟩
end Go.Proofs.Ytcbahojefglakaa
