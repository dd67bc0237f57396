/- The walk of the law RuleChecks. -/
import Derived.Test.YtpeapjnfncfjiaaRuleCheck
import Derived.Deep.RegionHeld3
import Derived.Deep.DrawnRows
namespace Go.Proofs.Ytpeapjnfncfjiaa
set_option linter.unusedVariables false
set_option linter.unusedSimpArgs false
open Go.RowKit Go.Lib

attribute [local go_sem ↓] Go.wp_at_zero Go.wp_at_succ
set_option maxHeartbeats 1000000 in
theorem law_checks (kd lt lf rg tm n : Int) (n0 : -9223372036854775808 ≤ n) (n1 : n ≤ 9223372036854775807) (w : World) :
    Calls Try.prog 5 #[.agg #[.int .i64 kd, .int .u8 lt, .int .i64 lf, .int .i64 rg, .int .i64 tm], .int .i64 n] w fun e w' => e = .returned (.bool true) ∧ Below w.heap.size w w' := by
  have c4 : ∀ W : World, Calls Try.prog 18 #[.agg #[.int .i64 0, .int .u8 0, .int .i64 0, .int .i64 0, .int .i64 0], .int .i64 1] W fun e w' => e = .returned (.iface 40 (.int .i64 4)) ∧ Below W.heap.size W w' := fun W => check_any 0 0 0 0 0 1 (by omega) (by omega) W
  have C4 := Lib.hid c4
  clear c4
  go_enter Try.func5, Try.ntmps5
  go_wp2_with fail
  go_region_held3 (fun w' => w'.cell? ⟨w.heap.size, 0, none⟩ = some (.int .i64 kd) ∧ w'.cell? ⟨w.heap.size, 1, none⟩ = some (.int .u8 lt) ∧ w'.cell? ⟨w.heap.size, 2, none⟩ = some (.int .i64 lf) ∧ w'.cell? ⟨w.heap.size, 3, none⟩ = some (.int .i64 rg) ∧ w'.cell? ⟨w.heap.size, 4, none⟩ = some (.int .i64 tm)) (go_keep)
    (first
      | (go_at_call 18; ((with_reducible refine (C4.out _).mono ?_)); rintro e wd ⟨rfl, Bd⟩; obtain ⟨qd, _⟩ := bcell Bd; have bz : Below w.heap.size w wd := (by (refine Below.trans (by assumption) (Bd.mono ?_); omega)))
      | (go_at_call 18; ((with_reducible refine (check_any kd lt lf rg tm n n0 n1 _).mono ?_)); rintro e wa ⟨rfl, Ba⟩; obtain ⟨qa, _⟩ := bcell Ba; have za : w.heap.size < wa.heap.size := (by (have hz := Ba.size; (try simp at hz); omega)); have bm := Ba.mono (B' := w.heap.size) (by first | (simp; done) | omega); have bw : Below w.heap.size w wa := (by (refine Below.trans ?_ bm; first | assumption | exact (Below.refl _ _).alloc (Nat.le_refl _) _ | exact ((Below.refl _ _).alloc (Nat.le_refl _) _).drew)))
      | (go_at_call 19; ((with_reducible refine (rcheck_any kd lt lf rg tm n n0 n1 _).mono ?_)); rintro e wa ⟨rfl, Ba⟩; obtain ⟨qa, _⟩ := bcell Ba; have za : w.heap.size < wa.heap.size := (by (have hz := Ba.size; (try simp at hz); omega)); have bm := Ba.mono (B' := w.heap.size) (by first | (simp; done) | omega); have bw : Below w.heap.size w wa := (by (refine Below.trans ?_ bm; first | assumption | exact (Below.refl _ _).alloc (Nat.le_refl _) _ | exact ((Below.refl _ _).alloc (Nat.le_refl _) _).drew)))
      | (go_at_call 17; ((with_reducible refine (num_any _ _).mono ?_)); rintro e wn ⟨rfl, rfl⟩)
      | (go_at_call 20; ((with_reducible refine (is_yes 4 (by decide) _).mono ?_)); rintro e wn ⟨rfl, rfl⟩))
  all_goals (go_wp2; go_ret; exact ⟨rfl, bz⟩)
end Go.Proofs.Ytpeapjnfncfjiaa
