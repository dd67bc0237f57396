/- The walk of intern.New. -/
import Derived.Test.YtolhjkpekmmajaaStWeight
namespace Go.Proofs.Ytolhjkpekmmajaa
set_option linter.unusedVariables false
set_option linter.unusedSimpArgs false
open Go.RowKit Go.Lib Go.Maps
attribute [local go_sem ↓] Go.wp_at_zero Go.wp_at_succ
theorem clip_most (w : World) : Calls Try.prog 36 #[.int .i64 1048576, .int .i64 0, .int .i64 1048576] w fun e w' => e = .returned (.int .i64 1048576) ∧ w = w' := by
  go_enter Try.func36, Try.ntmps36
  go_wp2
  go_ret
  exact ⟨rfl, rfl⟩
set_option maxRecDepth 100000 in
set_option maxHeartbeats 4000000 in
theorem new_store (w : World) : Calls Try.prog 16 #[.int .i64 1048576] w fun r w' => ∃ S G B, r = .returned (.pointer (some ⟨S, 0, none⟩)) ∧ St w' B S G [] ∧ Below w.heap.size w w' ∧ w.heap.size ≤ S ∧ w.heap.size ≤ G ∧ B = w'.heap.size := by
  have hmm := @run_makeMap Try.prog
  go_enter Try.func16, Try.ntmps16
  go_wp2_with fail
  (with_reducible refine (clip_most _).mono ?_)
  rintro e w' ⟨rfl, rfl⟩
  go_wp2_with fail
  clear hmm
  go_ret
  refine ⟨w.heap.size + 1, w.heap.size, w.heap.size + 1 + 1, rfl, ⟨⟨none, 0, box_new_ (by simp), by simp [ec], .inl ⟨rfl, rfl⟩⟩, (first_made w).alloc _, ⟨by omega, by omega, by simp⟩, by omega⟩, balloc (balloc (Below.refl _ _) _) _, by omega, Nat.le_refl _, by simp⟩
end Go.Proofs.Ytolhjkpekmmajaa
