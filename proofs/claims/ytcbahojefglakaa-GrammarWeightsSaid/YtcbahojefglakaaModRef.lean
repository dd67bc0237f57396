/- The walks of evergreenref04: Add, Sub, Mul, Pow: the same numbers modulo P. -/
import Derived.Test.YtcbahojefglakaaModPlain
import Derived.WalkSpells
namespace Go.Proofs.Ytcbahojefglakaa
set_option linter.unusedVariables false
set_option linter.unusedSimpArgs false
open Go.RowKit Go.Lib

theorem and_one (y : Int) (h0 : 0 ≤ y) (h1 : y < 18446744073709551616) : bits .and .u64 y 1 = y % 2 := by
  obtain ⟨n, rfl⟩ := Int.eq_ofNat_of_zero_le h0
  have h := bits_and_u64_nat n 1 (by omega) (by omega)
  have e : n &&& 1 = n % 2 := Nat.and_two_pow_sub_one_eq_mod n 1
  rw [e] at h
  exact h.trans (by omega)
theorem two_pos (k : Nat) : (0 : Int) < 2 ^ k := Int.pow_pos (by decide)
theorem half_lt (b : Int) (k : Nat) (h0 : 0 ≤ b) (h1 : b < 18446744073709551616) : 0 ≤ b / 2 ^ k ∧ b / 2 ^ k < 18446744073709551616 :=
  ⟨Int.ediv_nonneg h0 (Int.le_of_lt (two_pos k)), Int.lt_of_le_of_lt (Int.ediv_le_self _ h0) h1⟩
theorem half_step (b : Int) (k : Nat) (hk : 0 < k) : b / 2 ^ k = b / 2 ^ (k - 1) / 2 := by
  have e : k = (k - 1) + 1 := by omega
  conv => lhs; rw [e, Int.pow_succ]
  rw [Int.ediv_ediv_of_nonneg (Int.le_of_lt (two_pos _))]
theorem test_yes (b : Int) (k : Nat) (h0 : 0 ≤ b) (h1 : b < 18446744073709551616) (h : b / 2 ^ k % 2 = 1) : (bits .and .u64 (b / 2 ^ k) 1 == 1) = true := by
  rw [and_one _ (half_lt b k h0 h1).1 (half_lt b k h0 h1).2, beq_iff_eq]; exact h
theorem test_no (b : Int) (k : Nat) (h0 : 0 ≤ b) (h1 : b < 18446744073709551616) (h : ¬ b / 2 ^ k % 2 = 1) : (bits .and .u64 (b / 2 ^ k) 1 == 1) = false := by
  rw [and_one _ (half_lt b k h0 h1).1 (half_lt b k h0 h1).2, beq_eq_false_iff_ne]; exact h
theorem dbl_odd (a b r : Int) (k : Nat) (hk : 0 < k) (h : b / 2 ^ (k - 1) % 2 = 1) (hr : r = red (a * (b / 2 ^ k))) : red (red (r + r) + a) = red (a * (b / 2 ^ (k - 1))) := by
  have e : b / 2 ^ (k - 1) = 2 * (b / 2 ^ k) + 1 := by rw [half_step b k hk]; omega
  rw [e, red_add_l, hr, Int.mul_add, Int.mul_one, ← Int.mul_assoc, Int.mul_comm a 2, Int.mul_assoc]
  unfold red
  omega
theorem dbl_even (a b r : Int) (k : Nat) (hk : 0 < k) (h : ¬ b / 2 ^ (k - 1) % 2 = 1) (hr : r = red (a * (b / 2 ^ k))) : red (r + r) = red (a * (b / 2 ^ (k - 1))) := by
  have e : b / 2 ^ (k - 1) = 2 * (b / 2 ^ k) := by rw [half_step b k hk]; omega
  rw [e, hr, ← Int.mul_assoc, Int.mul_comm a 2, Int.mul_assoc]
  unfold red
  omega
theorem sqr_odd (a : Int) (n r : Int) (k : Nat) (hk : 0 < k) (hn : 0 ≤ n) (h : n / 2 ^ (k - 1) % 2 = 1) (hr : r = red (a ^ (n / 2 ^ k).toNat)) : red (red (r * r) * a) = red (a ^ (n / 2 ^ (k - 1)).toNat) := by
  have hp : 0 ≤ n / 2 ^ k := Int.ediv_nonneg hn (Int.le_of_lt (two_pos k))
  have e : (n / 2 ^ (k - 1)).toNat = (n / 2 ^ k).toNat + (n / 2 ^ k).toNat + 1 := by
    have := half_step n k hk
    omega
  rw [e, Int.pow_succ, Int.pow_add, red_mul_l, hr, ← red_mul_l, red_mul_l (a ^ (n / 2 ^ k).toNat), red_mul_r, red_mul_l]
theorem sqr_even (a : Int) (n r : Int) (k : Nat) (hk : 0 < k) (hn : 0 ≤ n) (h : ¬ n / 2 ^ (k - 1) % 2 = 1) (hr : r = red (a ^ (n / 2 ^ k).toNat)) : red (r * r) = red (a ^ (n / 2 ^ (k - 1)).toNat) := by
  have hp : 0 ≤ n / 2 ^ k := Int.ediv_nonneg hn (Int.le_of_lt (two_pos k))
  have e : (n / 2 ^ (k - 1)).toNat = (n / 2 ^ k).toNat + (n / 2 ^ k).toNat := by
    have := half_step n k hk
    omega
  rw [e, Int.pow_add, hr, red_mul_l, red_mul_r]

theorem refadd_any (a b : Int) (ha0 : 0 ≤ a) (ha : a < 18446744073709551616) (hb0 : 0 ≤ b) (hb : b < 18446744073709551616) (w : World) :
    Calls Try.prog 62 #[.int .u64 a, .int .u64 b] w fun e w' => e = .returned (.int .u64 (red (a + b))) ∧ w = w' := by
  go_enter Try.func62, Try.ntmps62
  go_wp2
  go_ret
  exact ⟨ret_u64 (by unfold red; omega), rfl⟩

set_option maxHeartbeats 400000 in
theorem refmul_any (a b : Int) (ha0 : 0 ≤ a) (ha : a < 18446744073709551616) (hb0 : 0 ≤ b) (hb : b < 18446744073709551616) (w : World) :
    Calls Try.prog 63 #[.int .u64 a, .int .u64 b] w fun e w' => e = .returned (.int .u64 (red (a * b))) ∧ w = w' := by
  have B0 : 0 ≤ b % 2305843009213693951 := by omega
  have B1 : b % 2305843009213693951 < 18446744073709551616 := by omega
  have B2 : b % 2305843009213693951 < 2305843009213693952 := by omega
  go_enter Try.func63, Try.ntmps63
  go_wp2_with fail
  go_loop [5, 6] (fun so si => ∃ (k : Nat) (r : Int), si = .int .i64 ((k : Int) - 1) ∧ k ≤ 61 ∧ so = .int .u64 r ∧ 0 ≤ r ∧ r < 2305843009213693951 ∧ Hid (r = red (a * (b % 2305843009213693951 / 2 ^ k)))) (fun _ si => (intOf si + 1).toNat)
  case atStart => exact ⟨61, 0, rfl, by omega, rfl, by omega, by omega, Lib.hid (by rw [show (2 : Int) ^ 61 = 2305843009213693952 from by decide, Int.ediv_eq_zero_of_lt B0 B2, Int.mul_zero]; decide)⟩
  case round =>
    obtain ⟨k, r, rfl, hk, rfl, r0, r1, H⟩ := hrel
    by_cases hz : 0 < k
    · have hz' : (0 : Int) ≤ (k : Int) - 1 := by omega
      have hk' : (k : Int) - 1 ≤ 60 := by omega
      have rr0 := red_lo (r + r); have rr1 := red_hi (r + r)
      by_cases hb : b % 2305843009213693951 / 2 ^ (k - 1) % 2 = 1
      · have T := test_yes _ (k - 1) B0 B1 hb
        have H' := Lib.hid (dbl_odd a _ r k hz hb H.out)
        have ra0 := red_lo (red (r + r) + a); have ra1 := red_hi (red (r + r) + a)
        clear H hb
        go_wp2_with fail
        (with_reducible refine (refadd_any r r (by omega) (by omega) (by omega) (by omega) _).mono ?_)
        rintro e w' ⟨rfl, rfl⟩
        go_wp2_with fail
        (with_reducible refine (refadd_any (red (r + r)) a (by omega) (by omega) (by omega) (by omega) _).mono ?_)
        rintro e w' ⟨rfl, rfl⟩
        go_wp2_with fail
        go_round
        case rel => exact ⟨k - 1, red (red (r + r) + a), by go_num, by omega, rfl, ra0, ra1, H'⟩
        case measure => simp [intOf]; omega
      · have T := test_no _ (k - 1) B0 B1 hb
        have H' := Lib.hid (dbl_even a _ r k hz hb H.out)
        clear H hb
        go_wp2_with fail
        (with_reducible refine (refadd_any r r (by omega) (by omega) (by omega) (by omega) _).mono ?_)
        rintro e w' ⟨rfl, rfl⟩
        go_wp2_with fail
        go_round
        case rel => exact ⟨k - 1, red (r + r), by go_num, by omega, rfl, rr0, rr1, H'⟩
        case measure => simp [intOf]; omega
    · obtain rfl : k = 0 := by omega
      have e : r = red (a * b) := by
        have := H.out
        rw [Int.pow_zero, Int.ediv_one] at this
        exact this.trans (red_mul_r a b)
      have E := Lib.hid e
      clear H e
      go_wp2_with fail
      go_ret
      exact ⟨ret_u64 E.out, rfl⟩
end Go.Proofs.Ytcbahojefglakaa
