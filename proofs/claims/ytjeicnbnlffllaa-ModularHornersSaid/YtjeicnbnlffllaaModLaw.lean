/- The walks of the laws of chapter 4 over integers alone. -/
import Derived.Test.YtjeicnbnlffllaaModMore
import Derived.Test.YtjeicnbnlffllaaModRefMore
import Derived.Test.YtjeicnbnlffllaaPlainP
import Derived.Laws.Pointers
import Derived.WalkLawsBesides
namespace Go.Proofs.Ytjeicnbnlffllaa
open Go.RowKit Go.Lib

theorem rl (x : Int) : 0 ≤ red x := red_lo x
theorem rh (x : Int) : red x < 18446744073709551616 := by have := red_hi x; omega

theorem awake_any (w : World) : Calls Try.prog 13 #[] w fun e w' => e = .returned (.bool true) ∧ w = w' := by
  have h1 : (red (2305843009213693950 + 5) == 4) = true := by decide
  have h2 : (red (1152921504606846976 * 4) == 2) = true := by decide
  go_enter Try.func13, Try.ntmps13
  go_wp2_with fail
  (with_reducible refine (add_any 2305843009213693950 5 (by omega) (by omega) (by omega) (by omega) _).mono ?_)
  rintro e w' ⟨rfl, rfl⟩
  go_wp2_with fail
  (with_reducible refine (mul_any 1152921504606846976 4 (by omega) (by omega) (by omega) (by omega) _).mono ?_)
  rintro e w' ⟨rfl, rfl⟩
  go_wp2_with fail
  go_ret
  exact ⟨rfl, rfl⟩

theorem law_reduces (a : Int) (a0 : 0 ≤ a) (a1 : a < 18446744073709551616) (w : World) : Calls Try.prog 3 #[.int .u64 a] w fun e w' => e = .returned (.bool true) ∧ w = w' := by
  have h : (red a == a % 2305843009213693951) = true := by rw [beq_iff_eq]; rfl
  go_enter Try.func3, Try.ntmps3
  go_wp2_with fail
  (with_reducible refine (awake_any _).mono ?_)
  rintro e w' ⟨rfl, rfl⟩
  go_wp2_with fail
  (with_reducible refine (reduce_any a a0 a1 _).mono ?_)
  rintro e w' ⟨rfl, rfl⟩
  go_wp2_with fail
  go_ret
  exact ⟨rfl, rfl⟩

theorem law_multiplies (a b : Int) (a0 : 0 ≤ a) (a1 : a < 18446744073709551616) (b0 : 0 ≤ b) (b1 : b < 18446744073709551616) (w : World) :
    Calls Try.prog 4 #[.int .u64 a, .int .u64 b] w fun e w' => e = .returned (.bool true) ∧ w = w' := by
  go_enter Try.func4, Try.ntmps4
  go_wp2_with fail
  (with_reducible refine (awake_any _).mono ?_)
  rintro e w' ⟨rfl, rfl⟩
  go_wp2_with fail
  (with_reducible refine (mul_any a b a0 a1 b0 b1 _).mono ?_)
  rintro e w' ⟨rfl, rfl⟩
  go_wp2_with fail
  (with_reducible refine (refmul_any a b a0 a1 b0 b1 _).mono ?_)
  rintro e w' ⟨rfl, rfl⟩
  go_wp2_with fail
  go_ret
  exact ⟨rfl, rfl⟩

theorem neg_any (a : Int) (a0 : 0 ≤ a) (a1 : a < 18446744073709551616) (w : World) : Calls Try.prog 21 #[.int .u64 a] w fun e w' => e = .returned (.int .u64 (red (-a))) ∧ w = w' := by
  go_enter Try.func21, Try.ntmps21
  go_wp2_with fail
  (with_reducible refine (sub_any 0 a (by omega) (by omega) a0 a1 _).mono ?_)
  rintro e w' ⟨rfl, rfl⟩
  go_wp2_with fail
  go_ret
  exact ⟨rfl, rfl⟩

theorem law_adds (a b : Int) (a0 : 0 ≤ a) (a1 : a < 18446744073709551616) (b0 : 0 ≤ b) (b1 : b < 18446744073709551616) (w : World) :
    Calls Try.prog 6 #[.int .u64 a, .int .u64 b] w fun e w' => e = .returned (.bool true) ∧ w = w' := by
  go_enter Try.func6, Try.ntmps6
  go_wp2_with fail
  (with_reducible refine (awake_any _).mono ?_)
  rintro e w' ⟨rfl, rfl⟩
  go_wp2_with fail
  (with_reducible refine (add_any a b a0 a1 b0 b1 _).mono ?_)
  rintro e w' ⟨rfl, rfl⟩
  go_wp2_with fail
  (with_reducible refine (refadd_any a b a0 a1 b0 b1 _).mono ?_)
  rintro e w' ⟨rfl, rfl⟩
  go_wp2_with fail
  (with_reducible refine (sub_any a b a0 a1 b0 b1 _).mono ?_)
  rintro e w' ⟨rfl, rfl⟩
  go_wp2_with fail
  (with_reducible refine (refsub_any a b a0 a1 b0 b1 _).mono ?_)
  rintro e w' ⟨rfl, rfl⟩
  go_wp2_with fail
  (with_reducible refine (neg_any a a0 a1 _).mono ?_)
  rintro e w' ⟨rfl, rfl⟩
  go_wp2_with fail
  (with_reducible refine (refsub_any 0 a (by omega) (by omega) a0 a1 _).mono ?_)
  rintro e w' ⟨rfl, rfl⟩
  go_wp2_with fail
  go_ret
  exact ⟨rfl, rfl⟩

theorem law_powers (a b : Int) (a0 : 0 ≤ a) (a1 : a < 18446744073709551616) (b0 : 0 ≤ b) (b1 : b < 18446744073709551616) (w : World) :
    Calls Try.prog 8 #[.int .u64 a, .int .u64 b] w fun e w' => e = .returned (.bool true) ∧ w = w' := by
  go_enter Try.func8, Try.ntmps8
  go_wp2_with fail
  (with_reducible refine (awake_any _).mono ?_)
  rintro e w' ⟨rfl, rfl⟩
  go_wp2_with fail
  (with_reducible refine (pow_any a b a0 a1 b0 b1 _).mono ?_)
  rintro e w' ⟨rfl, rfl⟩
  go_wp2_with fail
  (with_reducible refine (refpow_any a b a0 a1 b0 b1 _).mono ?_)
  rintro e w' ⟨rfl, rfl⟩
  go_wp2_with fail
  go_ret
  exact ⟨rfl, rfl⟩

theorem law_ring (a b c : Int) (a0 : 0 ≤ a) (a1 : a < 18446744073709551616) (b0 : 0 ≤ b) (b1 : b < 18446744073709551616) (c0 : 0 ≤ c) (c1 : c < 18446744073709551616) (w : World) :
    Calls Try.prog 5 #[.int .u64 a, .int .u64 b, .int .u64 c] w fun e w' => e = .returned (.bool true) ∧ w = w' := by
  have e1 : (red (a + b) != red (b + a)) = false := by rw [Int.add_comm]; simp
  have e2 : (red (a * b) != red (b * a)) = false := by rw [Int.mul_comm]; simp
  have e3 : (red (red (a + b) + c) != red (a + red (b + c))) = false := by rw [red_add_l, red_add_r, Int.add_assoc]; simp
  have e4 : (red (red (a * b) * c) != red (a * red (b * c))) = false := by rw [red_mul_l, red_mul_r, Int.mul_assoc]; simp
  have e5 : (red (a * red (b + c)) == red (red (a * b) + red (a * c))) = true := by rw [red_mul_r, red_add_l, red_add_r, Int.mul_add]; simp
  go_enter Try.func5, Try.ntmps5
  go_wp2_with fail
  (with_reducible refine (awake_any _).mono ?_)
  rintro e w' ⟨rfl, rfl⟩
  go_wp2_with fail
  (with_reducible refine (add_any a b a0 a1 b0 b1 _).mono ?_)
  rintro e w' ⟨rfl, rfl⟩
  go_wp2_with fail
  (with_reducible refine (add_any b a b0 b1 a0 a1 _).mono ?_)
  rintro e w' ⟨rfl, rfl⟩
  go_wp2_with fail
  (with_reducible refine (mul_any a b a0 a1 b0 b1 _).mono ?_)
  rintro e w' ⟨rfl, rfl⟩
  go_wp2_with fail
  (with_reducible refine (mul_any b a b0 b1 a0 a1 _).mono ?_)
  rintro e w' ⟨rfl, rfl⟩
  go_wp2_with fail
  (with_reducible refine (add_any a b a0 a1 b0 b1 _).mono ?_)
  rintro e w' ⟨rfl, rfl⟩
  go_wp2_with fail
  (with_reducible refine (add_any (red (a + b)) c (rl _) (rh _) c0 c1 _).mono ?_)
  rintro e w' ⟨rfl, rfl⟩
  go_wp2_with fail
  (with_reducible refine (add_any b c b0 b1 c0 c1 _).mono ?_)
  rintro e w' ⟨rfl, rfl⟩
  go_wp2_with fail
  (with_reducible refine (add_any a (red (b + c)) a0 a1 (rl _) (rh _) _).mono ?_)
  rintro e w' ⟨rfl, rfl⟩
  go_wp2_with fail
  (with_reducible refine (mul_any a b a0 a1 b0 b1 _).mono ?_)
  rintro e w' ⟨rfl, rfl⟩
  go_wp2_with fail
  (with_reducible refine (mul_any (red (a * b)) c (rl _) (rh _) c0 c1 _).mono ?_)
  rintro e w' ⟨rfl, rfl⟩
  go_wp2_with fail
  (with_reducible refine (mul_any b c b0 b1 c0 c1 _).mono ?_)
  rintro e w' ⟨rfl, rfl⟩
  go_wp2_with fail
  (with_reducible refine (mul_any a (red (b * c)) a0 a1 (rl _) (rh _) _).mono ?_)
  rintro e w' ⟨rfl, rfl⟩
  go_wp2_with fail
  (with_reducible refine (add_any b c b0 b1 c0 c1 _).mono ?_)
  rintro e w' ⟨rfl, rfl⟩
  go_wp2_with fail
  (with_reducible refine (mul_any a (red (b + c)) a0 a1 (rl _) (rh _) _).mono ?_)
  rintro e w' ⟨rfl, rfl⟩
  go_wp2_with fail
  (with_reducible refine (mul_any a b a0 a1 b0 b1 _).mono ?_)
  rintro e w' ⟨rfl, rfl⟩
  go_wp2_with fail
  (with_reducible refine (mul_any a c a0 a1 c0 c1 _).mono ?_)
  rintro e w' ⟨rfl, rfl⟩
  go_wp2_with fail
  (with_reducible refine (add_any (red (a * b)) (red (a * c)) (rl _) (rh _) (rl _) (rh _) _).mono ?_)
  rintro e w' ⟨rfl, rfl⟩
  go_wp2_with fail
  go_ret
  exact ⟨rfl, rfl⟩

/-- the linear form to the seventeenth power. -/
def mixed (k x y : Int) : Int := red (red (k + red (red (1234567890123456789 * x) + red (987654321987654321 * y))) ^ 17)

theorem mix_any (k x y : Int) (k0 : 0 ≤ k) (k1 : k < 18446744073709551616) (x0 : 0 ≤ x) (x1 : x < 18446744073709551616) (y0 : 0 ≤ y) (y1 : y < 18446744073709551616) (w : World) :
    Calls Try.prog 28 #[.int .u64 k, .int .u64 x, .int .u64 y] w fun e w' => e = .returned (.int .u64 (mixed k x y)) ∧ w = w' := by
  go_enter Try.func28, Try.ntmps28
  go_wp2_with fail
  (with_reducible refine (mul_any 1234567890123456789 x (by omega) (by omega) x0 x1 _).mono ?_)
  rintro e w' ⟨rfl, rfl⟩
  go_wp2_with fail
  (with_reducible refine (mul_any 987654321987654321 y (by omega) (by omega) y0 y1 _).mono ?_)
  rintro e w' ⟨rfl, rfl⟩
  go_wp2_with fail
  (with_reducible refine (add_any (red (1234567890123456789 * x)) (red (987654321987654321 * y)) (rl _) (rh _) (rl _) (rh _) _).mono ?_)
  rintro e w' ⟨rfl, rfl⟩
  go_wp2_with fail
  (with_reducible refine (add_any k (red (red (1234567890123456789 * x) + red (987654321987654321 * y))) k0 k1 (rl _) (rh _) _).mono ?_)
  rintro e w' ⟨rfl, rfl⟩
  go_wp2_with fail
  (with_reducible refine (pow_any (red (k + red (red (1234567890123456789 * x) + red (987654321987654321 * y)))) 17 (rl _) (rh _) (by omega) (by omega) _).mono ?_)
  rintro e w' ⟨rfl, rfl⟩
  go_wp2_with fail
  go_ret
  exact ⟨rfl, rfl⟩

theorem rmix_any (k x y : Int) (k0 : 0 ≤ k) (k1 : k < 18446744073709551616) (x0 : 0 ≤ x) (x1 : x < 18446744073709551616) (y0 : 0 ≤ y) (y1 : y < 18446744073709551616) (w : World) :
    Calls Try.prog 29 #[.int .u64 k, .int .u64 x, .int .u64 y] w fun e w' => e = .returned (.int .u64 (mixed k x y)) ∧ w = w' := by
  go_enter Try.func29, Try.ntmps29
  go_wp2_with fail
  (with_reducible refine (refmul_any 1234567890123456789 x (by omega) (by omega) x0 x1 _).mono ?_)
  rintro e w' ⟨rfl, rfl⟩
  go_wp2_with fail
  (with_reducible refine (refmul_any 987654321987654321 y (by omega) (by omega) y0 y1 _).mono ?_)
  rintro e w' ⟨rfl, rfl⟩
  go_wp2_with fail
  (with_reducible refine (refadd_any (red (1234567890123456789 * x)) (red (987654321987654321 * y)) (rl _) (rh _) (rl _) (rh _) _).mono ?_)
  rintro e w' ⟨rfl, rfl⟩
  go_wp2_with fail
  (with_reducible refine (refadd_any k (red (red (1234567890123456789 * x) + red (987654321987654321 * y))) k0 k1 (rl _) (rh _) _).mono ?_)
  rintro e w' ⟨rfl, rfl⟩
  go_wp2_with fail
  (with_reducible refine (refpow_any (red (k + red (red (1234567890123456789 * x) + red (987654321987654321 * y)))) 17 (rl _) (rh _) (by omega) (by omega) _).mono ?_)
  rintro e w' ⟨rfl, rfl⟩
  go_wp2_with fail
  go_ret
  exact ⟨rfl, rfl⟩

theorem law_mixes (k x y : Int) (k0 : 0 ≤ k) (k1 : k < 18446744073709551616) (x0 : 0 ≤ x) (x1 : x < 18446744073709551616) (y0 : 0 ≤ y) (y1 : y < 18446744073709551616) (w : World) :
    Calls Try.prog 11 #[.int .u64 k, .int .u64 x, .int .u64 y] w fun e w' => e = .returned (.bool true) ∧ w = w' := by
  go_enter Try.func11, Try.ntmps11
  go_wp2_with fail
  (with_reducible refine (awake_any _).mono ?_)
  rintro e w' ⟨rfl, rfl⟩
  go_wp2_with fail
  (with_reducible refine (mix_any k x y k0 k1 x0 x1 y0 y1 _).mono ?_)
  rintro e w' ⟨rfl, rfl⟩
  go_wp2_with fail
  (with_reducible refine (rmix_any k x y k0 k1 x0 x1 y0 y1 _).mono ?_)
  rintro e w' ⟨rfl, rfl⟩
  go_wp2_with fail
  go_ret
  exact ⟨rfl, rfl⟩
end Go.Proofs.Ytjeicnbnlffllaa
