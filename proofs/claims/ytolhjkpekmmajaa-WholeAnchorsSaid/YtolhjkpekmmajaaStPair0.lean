/- The walk of the store's Pair where one side is empty; Weight of the ID 0. -/
import Derived.Test.YtolhjkpekmmajaaStNew
namespace Go.Proofs.Ytolhjkpekmmajaa
set_option linter.unusedVariables false
set_option linter.unusedSimpArgs false
open Go.RowKit Go.Lib Go.Maps
attribute [local go_sem ↓] Go.wp_at_zero Go.wp_at_succ
set_option maxRecDepth 100000 in
theorem pair_left0 (L : List En) (x : Int) (h0 : 0 ≤ x) (h1 : x ≤ L.length) (B S G : Nat) (w : World) (st : St w B S G L) :
    Calls Try.prog 63 #[.pointer (some ⟨S, 0, none⟩), .int .i64 0, .int .i64 x] w fun r w' => r = .returned (.tuple #[.int .i64 x, .nilIface]) ∧ w = w' := by
  have HK := Lib.hid (fun w st => known_yes L x h0 h1 B S G w st)
  have HK0 := Lib.hid (fun w st => known_yes L 0 (by omega) (by omega) B S G w st)
  have HST := Lib.hid st
  clear h0 h1 st
  go_enter Try.func63, Try.ntmps63
  go_wp2_with fail
  (with_reducible refine (HK0.out _ HST.out).mono ?_)
  rintro e w' ⟨rfl, rfl⟩
  go_wp2_with fail
  (with_reducible refine (HK.out _ HST.out).mono ?_)
  rintro e w' ⟨rfl, rfl⟩
  go_wp2_with fail
  go_ret2
  exact ⟨rfl, rfl⟩
set_option maxRecDepth 100000 in
theorem pair_right0 (L : List En) (x : Int) (h0 : 1 ≤ x) (h1 : x ≤ L.length) (B S G : Nat) (w : World) (st : St w B S G L) :
    Calls Try.prog 63 #[.pointer (some ⟨S, 0, none⟩), .int .i64 x, .int .i64 0] w fun r w' => r = .returned (.tuple #[.int .i64 x, .nilIface]) ∧ w = w' := by
  have HK := Lib.hid (fun w st => known_yes L x (by omega) h1 B S G w st)
  have HK0 := Lib.hid (fun w st => known_yes L 0 (by omega) (by omega) B S G w st)
  have HST := Lib.hid st
  have xz : (x == 0) = false := by rw [beq_eq_false_iff_ne]; omega
  clear h0 h1 st
  go_enter Try.func63, Try.ntmps63
  go_wp2_with fail
  (with_reducible refine (HK.out _ HST.out).mono ?_)
  rintro e w' ⟨rfl, rfl⟩
  go_wp2_with fail
  (with_reducible refine (HK0.out _ HST.out).mono ?_)
  rintro e w' ⟨rfl, rfl⟩
  go_wp2_with fail
  go_ret2
  exact ⟨rfl, rfl⟩
end Go.Proofs.Ytolhjkpekmmajaa
