/- The walks of modular.Sub, Inverse. -/
import Derived.Test.YtebjdlimboifaaaModPow
namespace Go.Proofs.Ytebjdlimboifaaa
set_option linter.unusedVariables false
set_option linter.unusedSimpArgs false
open Go.RowKit Go.Lib

theorem sub_any (a b : Int) (ha0 : 0 ≤ a) (ha : a < 18446744073709551616) (hb0 : 0 ≤ b) (hb : b < 18446744073709551616) (w : World) :
    Calls Try.prog 35 #[.int .u64 a, .int .u64 b] w fun e w' => e = .returned (.int .u64 (red (a - b))) ∧ w = w' := by
  have a0 := red_lo a; have a1 := red_hi a; have b0 := red_lo b; have b1 := red_hi b
  go_enter Try.func35, Try.ntmps35
  go_wp2_with fail
  (with_reducible refine (reduce_any a ha0 ha _).mono ?_)
  rintro e w' ⟨rfl, rfl⟩
  go_wp2_with fail
  (with_reducible refine (reduce_any b hb0 hb _).mono ?_)
  rintro e w' ⟨rfl, rfl⟩
  go_wp2_with fail
  (with_reducible refine (reduce_any (red a + 2305843009213693951 - red b) (by omega) (by omega) _).mono ?_)
  rintro e w' ⟨rfl, rfl⟩
  go_wp2
  go_ret
  exact ⟨ret_u64 (by unfold red; omega), rfl⟩

theorem inverse_zero (a : Int) (ha0 : 0 ≤ a) (ha : a < 18446744073709551616) (hz : red a = 0) (w : World) :
    Calls Try.prog 33 #[.int .u64 a] w fun e w' => e = .returned (.tuple #[.int .u64 0, .iface 48 (.int .i64 1)]) ∧ w = w' := by
  have hz' : (red a == 0) = true := by rw [beq_iff_eq]; exact hz
  have HZ := Lib.hid hz
  clear hz
  go_enter Try.func33, Try.ntmps33
  go_wp2_with fail
  (with_reducible refine (reduce_any a ha0 ha _).mono ?_)
  rintro e w' ⟨rfl, rfl⟩
  go_wp2_with fail
  go_ret2
  exact ⟨rfl, rfl⟩

theorem inverse_some (a : Int) (ha0 : 0 ≤ a) (ha : a < 18446744073709551616) (hz : red a ≠ 0) (w : World) :
    Calls Try.prog 33 #[.int .u64 a] w fun e w' => e = .returned (.tuple #[.int .u64 (red (a ^ 2305843009213693949)), .nilIface]) ∧ w = w' := by
  have hz' : (red a == 0) = false := by rw [beq_eq_false_iff_ne]; exact hz
  have HZ := Lib.hid hz
  clear hz
  go_enter Try.func33, Try.ntmps33
  go_wp2_with fail
  (with_reducible refine (reduce_any a ha0 ha _).mono ?_)
  rintro e w' ⟨rfl, rfl⟩
  go_wp2_with fail
  (with_reducible refine (pow_any a 2305843009213693949 ha0 ha (by omega) (by omega) _).mono ?_)
  rintro e w' ⟨rfl, rfl⟩
  go_wp2_with fail
  go_ret2
  exact ⟨rfl, rfl⟩
end Go.Proofs.Ytebjdlimboifaaa
