/- The walk of modular.Pow: the power modulo P. -/
import Derived.Test.YtolhjkpekmmajaaModWalk
namespace Go.Proofs.Ytolhjkpekmmajaa
set_option linter.unusedVariables false
set_option linter.unusedSimpArgs false
open Go.RowKit Go.Lib

theorem pow_odd (r x : Int) (m : Nat) (h : m % 2 = 1) : red (red (r * x) * red (x * x) ^ (m / 2)) = red (r * x ^ m) := by
  rw [red_mul_l, ← red_mul_r, red_pow, red_mul_r]
  have e : m = 2 * (m / 2) + 1 := by omega
  have : x ^ m = x * (x * x) ^ (m / 2) := by
    conv => lhs; rw [e, Int.pow_succ, Int.pow_mul, show x ^ 2 = x * x from by rw [Int.pow_succ, Int.pow_succ, Int.pow_zero, Int.one_mul], Int.mul_comm]
  rw [this, Int.mul_assoc]
theorem pow_even (r x : Int) (m : Nat) (h : m % 2 = 0) : red (r * red (x * x) ^ (m / 2)) = red (r * x ^ m) := by
  rw [← red_mul_r, red_pow, red_mul_r]
  have e : m = 2 * (m / 2) := by omega
  have : x ^ m = (x * x) ^ (m / 2) := by
    conv => lhs; rw [e, Int.pow_mul, show x ^ 2 = x * x from by rw [Int.pow_succ, Int.pow_succ, Int.pow_zero, Int.one_mul]]
  rw [this]

set_option maxHeartbeats 400000 in
theorem pow_any (a n : Int) (ha0 : 0 ≤ a) (ha : a < 18446744073709551616) (hn0 : 0 ≤ n) (hn : n < 18446744073709551616) (w : World) :
    Calls Try.prog 87 #[.int .u64 a, .int .u64 n] w fun e w' => e = .returned (.int .u64 (red (a ^ n.toNat))) ∧ w = w' := by
  obtain ⟨n, rfl⟩ := Int.eq_ofNat_of_zero_le hn0
  rw [Int.toNat_natCast]
  have b0 := red_lo a; have b1 := red_hi a
  go_enter Try.func87, Try.ntmps87
  go_wp2_with fail
  (with_reducible refine (reduce_any a ha0 ha _).mono ?_)
  rintro e w' ⟨rfl, rfl⟩
  go_wp2_with fail
  go_loop [0, 1, 5] (fun sa sn sr => ∃ (m : Nat) (r x : Int), sa = .int .u64 x ∧ sn = .int .u64 m ∧ sr = .int .u64 r ∧ m < 18446744073709551616 ∧ 0 ≤ x ∧ x < 2305843009213693951 ∧ 0 ≤ r ∧ r < 2305843009213693951 ∧ Hid (red (r * x ^ m) = red (a ^ n))) (fun _ sn _ => (intOf sn).toNat)
  case atStart => exact ⟨n, 1, red a, rfl, rfl, rfl, by omega, b0, b1, by omega, by omega, Lib.hid (by rw [Int.one_mul, red_pow])⟩
  case round =>
    obtain ⟨m, r, x, rfl, rfl, rfl, hm, x0, x1, r0, r1, H⟩ := hrel
    by_cases hz : 0 < m
    · have hz' : (0 : Int) < (m : Int) := by omega
      have xx0 := red_lo (x * x); have xx1 := red_hi (x * x)
      have rx0 := red_lo (r * x); have rx1 := red_hi (r * x)
      by_cases ho : m % 2 = 1
      · have ho' : ((m : Int) % 2 == 1) = true := by rw [beq_iff_eq]; omega
        have H' : Hid (red (red (r * x) * red (x * x) ^ (m / 2)) = red (a ^ n)) := by rw [pow_odd r x m ho]; exact H.out
        have HO := Lib.hid ho
        clear H ho
        go_wp2_with fail
        (with_reducible refine (mul_any r x (by omega) (by omega) (by omega) (by omega) _).mono ?_)
        rintro e w' ⟨rfl, rfl⟩
        go_wp2_with fail
        (with_reducible refine (mul_any x x (by omega) (by omega) (by omega) (by omega) _).mono ?_)
        rintro e w' ⟨rfl, rfl⟩
        go_wp2_with fail
        go_round
        case rel => exact ⟨m / 2, red (r * x), red (x * x), rfl, by go_num, rfl, by omega, xx0, xx1, rx0, rx1, H'⟩
        case measure => simp [intOf]; omega
      · have ho' : ((m : Int) % 2 == 1) = false := by rw [beq_eq_false_iff_ne]; omega
        have H' : Hid (red (r * red (x * x) ^ (m / 2)) = red (a ^ n)) := by rw [pow_even r x m (by omega)]; exact H.out
        clear H ho
        go_wp2_with fail
        (with_reducible refine (mul_any x x (by omega) (by omega) (by omega) (by omega) _).mono ?_)
        rintro e w' ⟨rfl, rfl⟩
        go_wp2_with fail
        go_round
        case rel => exact ⟨m / 2, r, red (x * x), rfl, by go_num, rfl, by omega, xx0, xx1, r0, r1, H'⟩
        case measure => simp [intOf]; omega
    · obtain rfl : m = 0 := by omega
      have e : r = red (a ^ n) := by
        have := H.out
        rw [Int.pow_zero, Int.mul_one, red_small r r0 r1] at this
        exact this
      have E := Lib.hid e
      clear H e
      go_wp2_with fail
      go_ret
      exact ⟨ret_u64 E.out, rfl⟩
end Go.Proofs.Ytolhjkpekmmajaa
