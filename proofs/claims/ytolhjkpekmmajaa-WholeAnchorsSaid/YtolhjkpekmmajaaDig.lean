/- The walks of digest.Unit, Letter, Join. -/
import Derived.Test.YtolhjkpekmmajaaModWalk
import Derived.Test.YtolhjkpekmmajaaWords
import Derived.Deep.RegionHeld3
import Derived.Deep.DrawnRows
namespace Go.Proofs.Ytolhjkpekmmajaa
set_option linter.unusedVariables false
set_option linter.unusedSimpArgs false
open Go.RowKit Go.Lib

theorem unit_any (w : World) : Calls Try.prog 81 #[] w fun e w' => e = .returned (.agg #[.int .u64 0, .int .u64 1]) ∧ Below w.heap.size w w' := by
  go_enter Try.func81, Try.ntmps81
  go_wp2
  refine bodyPost_ret (v := .agg #[.int .u64 0, .int .u64 1]) ?_ rfl ⟨rfl, ?_⟩
  · simp only [results, Try.results81]
    simp [go_sem]
  · repeat (first | exact Below.refl _ _ | (with_reducible refine Below.drew ?_) | (with_reducible refine Below.alloc ?_ (by first | (simp; done) | (simp; omega)) _) | (with_reducible refine Below.setCell ?_ (by simp) _))
theorem letter_any (b : Int) (b0 : 0 ≤ b) (b1 : b ≤ 255) (w : World) : Calls Try.prog 82 #[.int .u8 b] w fun e w' => e = .returned (.agg #[.int .u64 (b + 1), .int .u64 1103515245]) ∧ Below w.heap.size w w' := by
  go_enter Try.func82, Try.ntmps82
  go_wp2
  refine bodyPost_ret (v := .agg #[.int .u64 (b + 1), .int .u64 1103515245]) ?_ rfl ⟨rfl, ?_⟩
  · simp only [results, Try.results82]
    simp [go_sem]
  · repeat (first | exact Below.refl _ _ | (with_reducible refine Below.drew ?_) | (with_reducible refine Below.alloc ?_ (by first | (simp; done) | (simp; omega)) _) | (with_reducible refine Below.setCell ?_ (by simp) _))

structure U (x : Int) : Prop where
  lo : 0 ≤ x
  hi : x < 18446744073709551616
theorem u_red (x : Int) : U (red x) := ⟨rl x, rh x⟩

attribute [local go_sem ↓] Go.wp_at_zero Go.wp_at_succ
set_option maxHeartbeats 1000000 in
theorem join_any (a1 a2 b1 b2 : Int) (ha1 : U a1) (ha2 : U a2) (hb1 : U b1) (hb2 : U b2) (w : World) :
    Calls Try.prog 84 #[.agg #[.int .u64 a1, .int .u64 a2], .agg #[.int .u64 b1, .int .u64 b2]] w fun e w' => e = .returned (.agg #[.int .u64 (red (a1 * b2 + b1)), .int .u64 (red (a2 * b2))]) ∧ Below w.heap.size w w' := by
  have e1 : red (red (a1 * b2) + b1) = red (a1 * b2 + b1) := red_add_l _ _
  rw [← e1]
  clear e1
  have n1 : w.heap.size < w.heap.size + 1 + 1 := by omega
  have n2 : w.heap.size < w.heap.size + 1 + 1 + 1 := by omega
  have n3 : w.heap.size + 1 < w.heap.size + 1 + 1 + 1 := by omega
  go_enter Try.func84, Try.ntmps84
  go_wp2_with fail
  go_region_held3 (fun w' => w'.cell? ⟨w.heap.size, 0, none⟩ = some (.int .u64 a1) ∧ w'.cell? ⟨w.heap.size, 1, none⟩ = some (.int .u64 a2) ∧ w'.cell? ⟨w.heap.size + 1, 0, none⟩ = some (.int .u64 b1) ∧ w'.cell? ⟨w.heap.size + 1, 1, none⟩ = some (.int .u64 b2)) (go_keep)
    (first
      | (go_at_call 89; ((with_reducible refine (mul_any _ _ ?p1 ?p2 ?p3 ?p4 _).mono ?_)); (case p1 => first | exact ha1.lo | exact ha2.lo); (case p2 => first | exact ha1.hi | exact ha2.hi); (case p3 => exact hb2.lo); (case p4 => exact hb2.hi); rintro e wa ⟨rfl, rfl⟩)
      | (go_at_call 88; ((with_reducible refine (add_any _ _ (rl _) (rh _) hb1.lo hb1.hi _).mono ?_)); rintro e wa ⟨rfl, rfl⟩))
  all_goals
    go_wp2
    refine bodyPost_ret (v := .agg #[.int .u64 (red (red (a1 * b2) + b1)), .int .u64 (red (a2 * b2))]) ?_ rfl ⟨rfl, ?_⟩
    · simp only [results, Try.results84]
      simp [go_sem]
    · repeat (first | exact Below.refl _ _ | (with_reducible refine Below.drew ?_) | (with_reducible refine Below.alloc ?_ (by first | (simp; done) | (simp; omega)) _) | (with_reducible refine Below.setCell ?_ (by first | (simp; done) | (simp; omega)) _))
end Go.Proofs.Ytolhjkpekmmajaa
