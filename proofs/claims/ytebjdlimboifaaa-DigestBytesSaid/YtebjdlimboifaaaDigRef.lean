/- The walks of evergreenref05: Add, Mul, Join, Reduced. -/
import Derived.Test.YtebjdlimboifaaaDig
namespace Go.Proofs.Ytebjdlimboifaaa
set_option linter.unusedVariables false
set_option linter.unusedSimpArgs false
open Go.RowKit Go.Lib

theorem radd_any (a b : Int) (h0 : 0 ≤ a) (h1 : 0 ≤ b) (h2 : a + b < 18446744073709551616) (w : World) :
    Calls Try.prog 29 #[.int .u64 a, .int .u64 b] w fun e w' => e = .returned (.int .u64 (red (a + b))) ∧ w = w' := by
  go_enter Try.func29, Try.ntmps29
  go_wp2
  go_ret
  exact ⟨ret_u64 (by unfold red; omega), rfl⟩
theorem dbl_odd5 (n a b : Int) (h : b % 2 = 1) : red (red (n + a) + red (a + a) * (b / 2)) = red (n + a * b) := by
  rw [red_add_l, ← red_add_r, red_mul_l, red_add_r]
  have e : a * b = a + (a + a) * (b / 2) := by
    have : b = 2 * (b / 2) + 1 := by omega
    conv => lhs; rw [this, Int.mul_add, Int.mul_one, ← Int.mul_assoc, Int.mul_comm a 2, Int.two_mul]
    rw [Int.add_comm]
  rw [e, Int.add_assoc]
theorem dbl_even5 (n a b : Int) (h : b % 2 = 0) : red (n + red (a + a) * (b / 2)) = red (n + a * b) := by
  rw [← red_add_r, red_mul_l, red_add_r]
  have e : a * b = (a + a) * (b / 2) := by
    have : b = 2 * (b / 2) := by omega
    conv => lhs; rw [this, ← Int.mul_assoc, Int.mul_comm a 2, Int.two_mul]
  rw [e]
set_option maxHeartbeats 400000 in
theorem rmul_any (A B : Int) (a0 : 0 ≤ A) (a1 : A < 18446744073709551616) (b0 : 0 ≤ B) (b1 : B < 18446744073709551616) (w : World) :
    Calls Try.prog 30 #[.int .u64 A, .int .u64 B] w fun e w' => e = .returned (.int .u64 (red (A * B))) ∧ w = w' := by
  have A0 : 0 ≤ A % 2305843009213693951 := by omega
  have A1 : A % 2305843009213693951 < 2305843009213693951 := by omega
  have B0 : 0 ≤ B % 2305843009213693951 := by omega
  have B1 : B % 2305843009213693951 < 2305843009213693951 := by omega
  have S0 : Hid (red (0 + A % 2305843009213693951 * (B % 2305843009213693951)) = red (A * B)) := Lib.hid (by rw [Int.zero_add]; exact (red_mul_l A (red B)).trans (red_mul_r A B))
  go_enter Try.func30, Try.ntmps30
  go_wp2_with fail
  go_loop [0, 1, 5] (fun sa sb sn => ∃ (b : Nat) (n a : Int), sa = .int .u64 a ∧ sb = .int .u64 b ∧ sn = .int .u64 n ∧ b < 18446744073709551616 ∧ 0 ≤ a ∧ a < 2305843009213693951 ∧ 0 ≤ n ∧ n < 2305843009213693951 ∧ Hid (red (n + a * b) = red (A * B))) (fun _ sb _ => (intOf sb).toNat)
  case atStart =>
    obtain ⟨q, hq⟩ := Int.eq_ofNat_of_zero_le B0
    exact ⟨q, 0, _, rfl, by rw [hq], rfl, by omega, A0, A1, by omega, by omega, by rw [hq] at S0; exact S0⟩
  case round =>
    obtain ⟨b, n, a, rfl, rfl, rfl, hb, x0, x1, r0, r1, H⟩ := hrel
    by_cases hz : 0 < b
    · have hz' : (0 : Int) < (b : Int) := by omega
      have xx0 := red_lo (a + a); have xx1 := red_hi (a + a)
      have rx0 := red_lo (n + a); have rx1 := red_hi (n + a)
      by_cases ho : b % 2 = 1
      · have ho' : ((b : Int) % 2 == 1) = true := by rw [beq_iff_eq]; omega
        have H' : Hid (red (red (n + a) + red (a + a) * ((b / 2 : Nat) : Int)) = red (A * B)) := Lib.hid (by rw [← H.out, ← dbl_odd5 n a b (by omega)]; rfl)
        clear H ho
        go_wp2_with fail
        (with_reducible refine (radd_any n a (by omega) (by omega) (by omega) _).mono ?_)
        rintro e w' ⟨rfl, rfl⟩
        go_wp2_with fail
        (with_reducible refine (radd_any a a (by omega) (by omega) (by omega) _).mono ?_)
        rintro e w' ⟨rfl, rfl⟩
        go_wp2_with fail
        go_round
        case rel => exact ⟨b / 2, red (n + a), red (a + a), rfl, by go_num, rfl, by omega, xx0, xx1, rx0, rx1, H'⟩
        case measure => simp [intOf]; omega
      · have ho' : ((b : Int) % 2 == 1) = false := by rw [beq_eq_false_iff_ne]; omega
        have H' : Hid (red (n + red (a + a) * ((b / 2 : Nat) : Int)) = red (A * B)) := Lib.hid (by rw [← H.out, ← dbl_even5 n a b (by omega)]; rfl)
        clear H ho
        go_wp2_with fail
        (with_reducible refine (radd_any a a (by omega) (by omega) (by omega) _).mono ?_)
        rintro e w' ⟨rfl, rfl⟩
        go_wp2_with fail
        go_round
        case rel => exact ⟨b / 2, n, red (a + a), rfl, by go_num, rfl, by omega, xx0, xx1, r0, r1, H'⟩
        case measure => simp [intOf]; omega
    · obtain rfl : b = 0 := by omega
      have E : Hid (n = red (A * B)) := Lib.hid (by
        have := H.out
        rw [show ((0 : Nat) : Int) = 0 from rfl, Int.mul_zero, Int.add_zero, red_small n r0 r1] at this
        exact this)
      clear H
      go_wp2_with fail
      go_ret
      exact ⟨ret_u64 E.out, rfl⟩

attribute [local go_sem ↓] Go.wp_at_zero Go.wp_at_succ
set_option maxHeartbeats 1000000 in
theorem rjoin_any (a1 a2 b1 b2 : Int) (ha1 : U a1) (ha2 : U a2) (hb1 : U b1) (hb2 : U b2) (w : World) :
    Calls Try.prog 17 #[.agg #[.int .u64 a1, .int .u64 a2], .agg #[.int .u64 b1, .int .u64 b2]] w fun e w' => e = .returned (.agg #[.int .u64 (red (a1 * b2 + b1)), .int .u64 (red (a2 * b2))]) ∧ Below w.heap.size w w' := by
  have e1 : red (red (a1 * b2) + b1 % 2305843009213693951) = red (a1 * b2 + b1) := (red_add_r _ b1).trans (red_add_l _ _)
  have m0 : 0 ≤ b1 % 2305843009213693951 := by omega
  have m1 : b1 % 2305843009213693951 < 2305843009213693951 := by omega
  have l0 := red_lo (a1 * b2); have l1 := red_hi (a1 * b2)
  rw [← e1]
  clear e1
  have n1 : w.heap.size < w.heap.size + 1 + 1 := by omega
  have n2 : w.heap.size < w.heap.size + 1 + 1 + 1 := by omega
  have n3 : w.heap.size + 1 < w.heap.size + 1 + 1 + 1 := by omega
  have tm : b1.tmod 2305843009213693951 = b1 % 2305843009213693951 := Int.tmod_eq_emod_of_nonneg hb1.lo
  go_enter Try.func17, Try.ntmps17
  go_wp2_with fail
  go_region_held3 (fun w' => w'.cell? ⟨w.heap.size, 0, none⟩ = some (.int .u64 a1) ∧ w'.cell? ⟨w.heap.size, 1, none⟩ = some (.int .u64 a2) ∧ w'.cell? ⟨w.heap.size + 1, 0, none⟩ = some (.int .u64 b1) ∧ w'.cell? ⟨w.heap.size + 1, 1, none⟩ = some (.int .u64 b2)) (go_keep)
    (first
      | (go_at_call 30; ((with_reducible refine (rmul_any _ _ ?p1 ?p2 ?p3 ?p4 _).mono ?_)); (case p1 => first | exact ha1.lo | exact ha2.lo); (case p2 => first | exact ha1.hi | exact ha2.hi); (case p3 => exact hb2.lo); (case p4 => exact hb2.hi); rintro e wa ⟨rfl, rfl⟩)
      | (go_at_call 29; ((with_reducible refine (radd_any (red (a1 * b2)) (b1 % 2305843009213693951) l0 m0 (by omega) _).mono ?_)); rintro e wa ⟨rfl, rfl⟩))
  all_goals
    go_wp2
    refine bodyPost_ret (v := .agg #[.int .u64 (red (red (a1 * b2) + b1 % 2305843009213693951)), .int .u64 (red (a2 * b2))]) ?_ rfl ⟨rfl, ?_⟩
    · simp only [results, Try.results17]
      simp [go_sem]
    · repeat (first | exact Below.refl _ _ | (with_reducible refine Below.drew ?_) | (with_reducible refine Below.alloc ?_ (by first | (simp; done) | (simp; omega)) _) | (with_reducible refine Below.setCell ?_ (by first | (simp; done) | (simp; omega)) _))
theorem rred_any (a1 a2 : Int) (ha1 : U a1) (ha2 : U a2) (w : World) :
    Calls Try.prog 19 #[.agg #[.int .u64 a1, .int .u64 a2]] w fun e w' => e = .returned (.agg #[.int .u64 (red a1), .int .u64 (red a2)]) ∧ Below w.heap.size w w' := by
  have x0 := ha1.lo; have x1 := ha1.hi; have y0 := ha2.lo; have y1 := ha2.hi
  show Calls Try.prog 19 #[.agg #[.int .u64 a1, .int .u64 a2]] w fun e w' => e = .returned (.agg #[.int .u64 (a1 % 2305843009213693951), .int .u64 (a2 % 2305843009213693951)]) ∧ Below w.heap.size w w'
  go_enter Try.func19, Try.ntmps19
  go_wp2
  refine bodyPost_ret (v := .agg #[.int .u64 (a1 % 2305843009213693951), .int .u64 (a2 % 2305843009213693951)]) ?_ rfl ⟨rfl, ?_⟩
  · simp only [results, Try.results19]
    simp [go_sem]
  · repeat (first | exact Below.refl _ _ | (with_reducible refine Below.drew ?_) | (with_reducible refine Below.alloc ?_ (by first | (simp; done) | (simp; omega)) _) | (with_reducible refine Below.setCell ?_ (by simp) _))
end Go.Proofs.Ytebjdlimboifaaa
