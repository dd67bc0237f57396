/- The arithmetic of x modulo P = 2^61 - 1, over Int, in the walk's own spelling. No walk in this text. -/
import Derived.Test.YtolhjkpekmmajaaProg
import Derived.WalkKit
import Derived.Laws.Bits64b
import Derived.Lib.Mul64
import Derived.Lib.Hide
namespace Go.Proofs.Ytolhjkpekmmajaa
set_option linter.unusedVariables false
set_option linter.unusedSimpArgs false
open Go.RowKit Go.Lib
/-- x modulo P. -/
def red (x : Int) : Int := x % 2305843009213693951
theorem red_lo (x : Int) : 0 ≤ red x := by unfold red; omega
theorem red_hi (x : Int) : red x < 2305843009213693951 := by unfold red; omega
theorem red_red (x : Int) : red (red x) = red x := by unfold red; omega
theorem red_small (x : Int) (h0 : 0 ≤ x) (h1 : x < 2305843009213693951) : red x = x := by unfold red; omega
theorem red_add_l (x y : Int) : red (red x + y) = red (x + y) := by unfold red; omega
theorem red_add_r (x y : Int) : red (x + red y) = red (x + y) := by unfold red; omega
theorem red_sub_l (x y : Int) : red (red x - y) = red (x - y) := by unfold red; omega
theorem red_sub_r (x y : Int) : red (x - red y) = red (x - y) := by unfold red; omega
theorem red_mul_l (x y : Int) : red (red x * y) = red (x * y) := by unfold red; rw [Int.mul_emod, Int.emod_emod_of_dvd _ (Int.dvd_refl _), ← Int.mul_emod]
theorem red_mul_r (x y : Int) : red (x * red y) = red (x * y) := by rw [Int.mul_comm, red_mul_l, Int.mul_comm]
theorem red_pow (x : Int) (n : Nat) : red (red x ^ n) = red (x ^ n) := by
  induction n with
  | zero => rw [Int.pow_zero, Int.pow_zero]
  | succ n ih => rw [Int.pow_succ, Int.pow_succ, red_mul_r, ← red_mul_l, ih, red_mul_l]
theorem rl (x : Int) : 0 ≤ red x := red_lo x
theorem rh (x : Int) : red x < 18446744073709551616 := by have := red_hi x; omega
theorem maskP (x : Int) (h0 : 0 ≤ x) (h1 : x < 18446744073709551616) : bits .and .u64 x 2305843009213693951 = x % 2305843009213693952 := by
  obtain ⟨n, rfl⟩ := Int.eq_ofNat_of_zero_le h0
  have h := bits_and_u64_nat n 2305843009213693951 (by omega) (by omega)
  have e : n &&& 2305843009213693951 = n % 2305843009213693952 := Nat.and_two_pow_sub_one_eq_mod n 61
  rw [e] at h
  exact h.trans (by omega)
theorem maskN (a : Nat) (ha : a < 18446744073709551616) : bits .and .u64 (a : Int) 4294967295 = ((a % 4294967296 : Nat) : Int) := by
  have h := bits_and_u64_nat a 4294967295 ha (by omega)
  have e : a &&& 4294967295 = a % 4294967296 := Nat.and_two_pow_sub_one_eq_mod a 32
  rw [e] at h
  exact h
theorem divN (a : Nat) : (a : Int) / 4294967296 = ((a / 4294967296 : Nat) : Int) := by omega
theorem mulN (a b : Nat) : (a : Int) * (b : Int) = ((a * b : Nat) : Int) := (Int.natCast_mul a b).symm
theorem addN (a b : Nat) : (a : Int) + (b : Int) = ((a + b : Nat) : Int) := (Int.natCast_add a b).symm
theorem wrapN (a : Nat) (ha : a < 18446744073709551616) : IntKind.u64.wrap (a : Int) = (a : Int) := by rw [IntKind.wrap_u64]; omega
theorem wrapM (a : Nat) : IntKind.u64.wrap (a : Int) = ((a % 18446744073709551616 : Nat) : Int) := by rw [IntKind.wrap_u64]; omega
theorem ret_u64 {a b : Int} (h : a = b) : Ending.returned (.int .u64 a) = .returned (.int .u64 b) := by rw [h]
theorem ret_bool {a b : Bool} (h : a = b) : Ending.returned (.bool a) = .returned (.bool b) := by rw [h]
theorem ret_int {k : IntKind} {a b : Int} (h : a = b) : Ending.returned (.int k a) = .returned (.int k b) := by rw [h]
/-- the product of two residues, as an Int below 2^122. -/
theorem mul_lt (x y : Int) : 0 ≤ red x * red y ∧ red x * red y ≤ 5316911983139663482391856204266602500 := by
  have a := red_lo x; have b := red_hi x; have c := red_lo y; have d := red_hi y
  refine ⟨Int.mul_nonneg a c, ?_⟩
  exact Int.mul_le_mul (show red x ≤ 2305843009213693950 by omega) (show red y ≤ 2305843009213693950 by omega) c (by omega)
end Go.Proofs.Ytolhjkpekmmajaa
