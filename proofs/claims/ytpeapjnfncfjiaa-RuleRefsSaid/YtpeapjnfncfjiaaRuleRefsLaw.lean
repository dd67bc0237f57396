/- The walk of the law RuleRefs. -/
import Derived.Test.YtpeapjnfncfjiaaRuleRefs
import Derived.Deep.RegionHeld3
import Derived.Deep.DrawnRows
namespace Go.Proofs.Ytpeapjnfncfjiaa
set_option linter.unusedVariables false
set_option linter.unusedSimpArgs false
open Go.RowKit Go.Lib

attribute [local go_sem ↓] Go.wp_at_zero Go.wp_at_succ
set_option maxHeartbeats 1000000 in
theorem law_refs (kd lt lf rg tm : Int) (w : World) : Calls Try.prog 3 #[.agg #[.int .i64 kd, .int .u8 lt, .int .i64 lf, .int .i64 rg, .int .i64 tm]] w fun e w' => e = .returned (.bool true) ∧ Below w.heap.size w w' := by
  go_enter Try.func3, Try.ntmps3
  go_wp2_with fail
  go_region_held3 (fun w' => w'.cell? ⟨w.heap.size, 0, none⟩ = some (.int .i64 kd) ∧ w'.cell? ⟨w.heap.size, 1, none⟩ = some (.int .u8 lt) ∧ w'.cell? ⟨w.heap.size, 2, none⟩ = some (.int .i64 lf) ∧ w'.cell? ⟨w.heap.size, 3, none⟩ = some (.int .i64 rg) ∧ w'.cell? ⟨w.heap.size, 4, none⟩ = some (.int .i64 tm)) (go_keep)
    (first
      | (go_at_call 12; ((with_reducible refine (refs_any _ _ _ _ _ _).mono ?_)); rintro e wa ⟨Aa, ca, rfl, Ra, Ba⟩; obtain ⟨qa, _⟩ := bcell Ba; have za : w.heap.size < wa.heap.size := (by (have hz := Ba.size; (try simp at hz); omega)); have bm := Ba.mono (B' := w.heap.size) (by first | (simp; done) | omega); have bw : Below w.heap.size w wa := (by (refine Below.trans ?_ bm; first | assumption | exact (Below.refl _ _).alloc (Nat.le_refl _) _ | exact ((Below.refl _ _).alloc (Nat.le_refl _) _).drew)))
      | (go_at_call 14; ((with_reducible refine (rrefs_any _ _ _ _ _ _).mono ?_)); rintro e wb ⟨Ab, cb, rfl, Rb, Bb⟩; obtain ⟨qb, _⟩ := bcell Bb; have zb : w.heap.size < wb.heap.size := (by (have hz := Bb.size; (try simp at hz); omega)); have bx : Below w.heap.size w wb := bw.trans (Bb.mono (by omega)))
      | (go_at_call 13; ((with_reducible refine (ids_same _ _ _ _ (refsOf kd lf rg) _ rfl (by have := refsOf_le kd lf rg; omega) _ (Ra.below Bb (Nat.le_refl _)) Rb).mono ?_)); rintro e wc ⟨rfl, qq, rfl⟩))
  go_wp2
  go_ret
  exact ⟨rfl, below_drewN bx _⟩

end Go.Proofs.Ytpeapjnfncfjiaa
