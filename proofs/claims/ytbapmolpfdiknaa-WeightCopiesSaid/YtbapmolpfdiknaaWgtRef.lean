/- The walks of evergreenref06: mul, Scale, Valid. -/
import Derived.Test.YtbapmolpfdiknaaWgt
namespace Go.Proofs.Ytbapmolpfdiknaa
set_option linter.unusedVariables false
set_option linter.unusedSimpArgs false
open Go.RowKit Go.Lib

theorem dbl_odd6 (n a b : Int) (h : b % 2 = 1) : red (red (n + a) + red (a + a) * (b / 2)) = red (n + a * b) := by
  rw [red_add_l, ← red_add_r, red_mul_l, red_add_r]
  have e : a * b = a + (a + a) * (b / 2) := by
    have : b = 2 * (b / 2) + 1 := by omega
    conv => lhs; rw [this, Int.mul_add, Int.mul_one, ← Int.mul_assoc, Int.mul_comm a 2, Int.two_mul]
    rw [Int.add_comm]
  rw [e, Int.add_assoc]
theorem dbl_even6 (n a b : Int) (h : b % 2 = 0) : red (n + red (a + a) * (b / 2)) = red (n + a * b) := by
  rw [← red_add_r, red_mul_l, red_add_r]
  have e : a * b = (a + a) * (b / 2) := by
    have : b = 2 * (b / 2) := by omega
    conv => lhs; rw [this, ← Int.mul_assoc, Int.mul_comm a 2, Int.two_mul]
  rw [e]
set_option maxHeartbeats 400000 in
theorem rmul_any (A : Int) (B : Int) (a0 : 0 ≤ A) (a1 : A < 2305843009213693951) (b0 : 0 ≤ B) (b1 : B < 18446744073709551616) (w : World) :
    Calls Try.prog 31 #[.int .u64 A, .int .u64 B] w fun e w' => e = .returned (.int .u64 (red (A * B))) ∧ w = w' := by
  obtain ⟨B, rfl⟩ := Int.eq_ofNat_of_zero_le b0
  go_enter Try.func31, Try.ntmps31
  go_wp2_with fail
  go_loop [0, 1, 5] (fun sa sb sn => ∃ (b : Nat) (n a : Int), sa = .int .u64 a ∧ sb = .int .u64 b ∧ sn = .int .u64 n ∧ b < 18446744073709551616 ∧ 0 ≤ a ∧ a < 2305843009213693951 ∧ 0 ≤ n ∧ n < 2305843009213693951 ∧ Hid (red (n + a * b) = red (A * B))) (fun _ sb _ => (intOf sb).toNat)
  case atStart => exact ⟨B, 0, A, rfl, rfl, rfl, by omega, a0, a1, by omega, by omega, Lib.hid (by rw [Int.zero_add])⟩
  case round =>
    obtain ⟨b, n, a, rfl, rfl, rfl, hb, x0, x1, r0, r1, H⟩ := hrel
    by_cases hz : 0 < b
    · have hz' : (0 : Int) < (b : Int) := by omega
      have xx0 := red_lo (a + a); have xx1 := red_hi (a + a)
      have rx0 := red_lo (n + a); have rx1 := red_hi (n + a)
      by_cases ho : b % 2 = 1
      · have ho' : ((b : Int) % 2 == 1) = true := by rw [beq_iff_eq]; omega
        have H' : Hid (red (red (n + a) + red (a + a) * ((b / 2 : Nat) : Int)) = red (A * B)) := Lib.hid (by rw [← H.out, ← dbl_odd6 n a b (by omega)]; rfl)
        clear H ho
        go_wp2_with fail
        go_round
        case rel => exact ⟨b / 2, red (n + a), red (a + a), rfl, by go_num, rfl, by omega, xx0, xx1, rx0, rx1, H'⟩
        case measure => simp [intOf]; omega
      · have ho' : ((b : Int) % 2 == 1) = false := by rw [beq_eq_false_iff_ne]; omega
        have H' : Hid (red (n + red (a + a) * ((b / 2 : Nat) : Int)) = red (A * B)) := Lib.hid (by rw [← H.out, ← dbl_even6 n a b (by omega)]; rfl)
        clear H ho
        go_wp2_with fail
        go_round
        case rel => exact ⟨b / 2, n, red (a + a), rfl, by go_num, rfl, by omega, xx0, xx1, r0, r1, H'⟩
        case measure => simp [intOf]; omega
    · obtain rfl : b = 0 := by omega
      have E : Hid (n = red (A * B)) := Lib.hid (by
        have := H.out
        rw [show ((0 : Nat) : Int) = 0 from rfl, Int.mul_zero, Int.add_zero, red_small n r0 r1] at this
        exact this)
      clear H
      go_wp2_with fail
      go_ret
      exact ⟨reti E.out, rfl⟩
set_option maxHeartbeats 400000 in
theorem rscale_any (n : Int) (h0 : 0 ≤ n) (h1 : n ≤ 9223372036854775807) (w : World) :
    Calls Try.prog 29 #[.int .i64 n] w fun e w' => e = .returned (.int .u64 (scB n)) ∧ w = w' := by
  obtain ⟨n, rfl⟩ := Int.eq_ofNat_of_zero_le h0
  unfold scB
  rw [Int.toNat_natCast]
  go_enter Try.func29, Try.ntmps29
  go_wp2_with fail
  go_loop [0, 3, 4] (fun sn sr sa => ∃ (m : Nat) (r x : Int), sn = .int .i64 m ∧ sr = .int .u64 r ∧ sa = .int .u64 x ∧ m ≤ 9223372036854775807 ∧ 0 ≤ x ∧ x < 2305843009213693951 ∧ 0 ≤ r ∧ r < 2305843009213693951 ∧ Hid (red (r * x ^ m) = red (1103515245 ^ n))) (fun sn _ _ => (intOf sn).toNat)
  case atStart => exact ⟨n, 1, 1103515245, rfl, rfl, rfl, by omega, by omega, by omega, by omega, by omega, Lib.hid (by rw [Int.one_mul])⟩
  case round =>
    obtain ⟨m, r, x, rfl, rfl, rfl, hm, x0, x1, r0, r1, H⟩ := hrel
    by_cases hz : 0 < m
    · have hz' : (0 : Int) < (m : Int) := by omega
      have xx0 := red_lo (x * x); have xx1 := red_hi (x * x)
      have rx0 := red_lo (r * x); have rx1 := red_hi (r * x)
      by_cases ho : m % 2 = 1
      · have ho' : ((m : Int) % 2 == 1) = true := by rw [beq_iff_eq]; omega
        have H' := Lib.hid ((pow_odd r x m ho).trans H.out)
        clear H ho
        go_wp2_with fail
        (with_reducible refine (rmul_any r x r0 r1 x0 (by omega) _).mono ?_)
        rintro e w' ⟨rfl, rfl⟩
        go_wp2_with fail
        (with_reducible refine (rmul_any x x x0 x1 x0 (by omega) _).mono ?_)
        rintro e w' ⟨rfl, rfl⟩
        go_wp2_with fail
        go_round
        case rel => exact ⟨m / 2, red (r * x), red (x * x), by go_num, rfl, rfl, by omega, xx0, xx1, rx0, rx1, H'⟩
        case measure => simp [intOf]; omega
      · have ho' : ((m : Int) % 2 == 1) = false := by rw [beq_eq_false_iff_ne]; omega
        have H' := Lib.hid ((pow_even r x m (by omega)).trans H.out)
        clear H ho
        go_wp2_with fail
        (with_reducible refine (rmul_any x x x0 x1 x0 (by omega) _).mono ?_)
        rintro e w' ⟨rfl, rfl⟩
        go_wp2_with fail
        go_round
        case rel => exact ⟨m / 2, r, red (x * x), by go_num, rfl, rfl, by omega, xx0, xx1, r0, r1, H'⟩
        case measure => simp [intOf]; omega
    · obtain rfl : m = 0 := by omega
      have E : Hid (r = red (1103515245 ^ n)) := Lib.hid (by
        have := H.out
        rw [Int.pow_zero, Int.mul_one, red_small r r0 r1] at this
        exact this)
      clear H
      go_wp2_with fail
      go_ret
      exact ⟨reti E.out, rfl⟩

theorem vB_sc {n l h t v s : Int} (e : (s == scB n) = false) : false = vB n l h t v s := by unfold vB; simp [e]
theorem vB_yes {n l h t v s : Int} (H : fitW n l h t v) (e : (s == scB n) = true) : true = vB n l h t v s := by unfold vB; simp [H, e]
theorem c5 (n v s : Int) : (decide (v < 2305843009213693951) = false ∧ Hid (¬ v < 2305843009213693951)) ∨ (decide (v < 2305843009213693951) = true ∧ Hid (v < 2305843009213693951) ∧ (s == scB n) = false) ∨
    (decide (v < 2305843009213693951) = true ∧ Hid (v < 2305843009213693951) ∧ (s == scB n) = true ∧ decide (0 < n) = true ∧ Hid (0 < n)) ∨
    (decide (v < 2305843009213693951) = true ∧ Hid (v < 2305843009213693951) ∧ (s == scB n) = true ∧ decide (0 < n) = false ∧ Hid (¬ 0 < n) ∧ (v == 0) = true ∧ Hid (v = 0)) ∨
    (decide (v < 2305843009213693951) = true ∧ Hid (v < 2305843009213693951) ∧ (s == scB n) = true ∧ decide (0 < n) = false ∧ Hid (¬ 0 < n) ∧ (v == 0) = false ∧ Hid (v ≠ 0)) := by
  by_cases h1 : v < 2305843009213693951
  · have d1 : decide (v < 2305843009213693951) = true := decide_eq_true h1
    cases h2 : (s == scB n) with
    | false => exact .inr (.inl ⟨d1, h1, rfl⟩)
    | true =>
      by_cases h3 : 0 < n
      · exact .inr (.inr (.inl ⟨d1, h1, rfl, decide_eq_true h3, h3⟩))
      · by_cases h4 : v = 0
        · exact .inr (.inr (.inr (.inl ⟨d1, h1, rfl, decide_eq_false h3, h3, by rw [beq_iff_eq]; exact h4, h4⟩)))
        · exact .inr (.inr (.inr (.inr ⟨d1, h1, rfl, decide_eq_false h3, h3, by rw [beq_eq_false_iff_ne]; exact h4, h4⟩)))
  · exact .inl ⟨decide_eq_false h1, h1⟩
attribute [local go_sem ↓] Go.wp_at_zero Go.wp_at_succ
set_option maxHeartbeats 4000000 in
theorem rvalid_any (n l h t v s : Int) (n0 : -9223372036854775808 ≤ n) (n1 : n ≤ 9223372036854775807) (l0 : -9223372036854775808 ≤ l) (l1 : l ≤ 9223372036854775807) (h0 : -9223372036854775808 ≤ h) (h1 : h ≤ 9223372036854775807)
    (t0 : -9223372036854775808 ≤ t) (t1 : t ≤ 9223372036854775807) (uv : U v) (us : U s) (w : World) :
    Calls Try.prog 13 #[.agg #[.int .i64 n, .int .i64 l, .int .i64 h, .int .i64 t, .int .u64 v, .int .u64 s]] w fun e w' => e = .returned (.bool (vB n l h t v s)) ∧ Below w.heap.size w w' := by
  go_enter Try.func13, Try.ntmps13
  go_wp2_with fail
  all_goals first
    | (go_ret; refine ⟨retb (vB_no ?_), balloc (Below.refl _ _) _⟩; go_light; (try simp only [bne_iff_ne, beq_iff_eq, ne_eq, bne_eq_false_iff_eq, beq_eq_false_iff_ne] at *); unfold fitW; omega)
    | (rcases c5 n v s with ⟨d1, H1⟩ | ⟨d1, H1, d2⟩ | ⟨d1, H1, d2, d3, H3⟩ | ⟨d1, H1, d2, d3, H3, d4, H4⟩ | ⟨d1, H1, d2, d3, H3, d4, H4⟩
       · go_quiet (fail)
         go_wp2
         go_ret
         refine ⟨retb (vB_no ?_), below_drewN (balloc (Below.refl _ _) _) _⟩
         have h2 := H1.out
         unfold fitW
         omega
       · go_quiet ((go_at_call 29; (refine quiet_left1 (rscale_any _ ?_ ?_ _) <;> omega)))
         go_wp2
         go_ret
         exact ⟨retb (vB_sc d2), below_drewN (balloc (Below.refl _ _) _) _⟩
       · go_quiet ((go_at_call 29; (refine quiet_left1 (rscale_any _ ?_ ?_ _) <;> omega)))
         go_wp2
         go_ret
         refine ⟨retb (vB_yes ?_ d2), below_drewN (balloc (Below.refl _ _) _) _⟩
         have h2 := H1.out; have h3 := H3.out
         go_light
         (try simp only [bne_iff_ne, beq_iff_eq, ne_eq, bne_eq_false_iff_eq, beq_eq_false_iff_ne] at *)
         unfold fitW
         omega
       · go_quiet ((go_at_call 29; (refine quiet_left1 (rscale_any _ ?_ ?_ _) <;> omega)))
         go_wp2
         go_ret
         refine ⟨retb (vB_yes ?_ d2), below_drewN (balloc (Below.refl _ _) _) _⟩
         have h2 := H1.out; have h3 := H3.out; have h4 := H4.out
         go_light
         (try simp only [bne_iff_ne, beq_iff_eq, ne_eq, bne_eq_false_iff_eq, beq_eq_false_iff_ne] at *)
         unfold fitW
         omega
       · go_quiet ((go_at_call 29; (refine quiet_left1 (rscale_any _ ?_ ?_ _) <;> omega)))
         go_wp2
         go_ret
         refine ⟨retb (vB_no ?_), below_drewN (balloc (Below.refl _ _) _) _⟩
         have h2 := H1.out; have h3 := H3.out; have h4 := H4.out
         go_light
         (try simp only [bne_iff_ne, beq_iff_eq, ne_eq, bne_eq_false_iff_eq, beq_eq_false_iff_ne] at *)
         unfold fitW
         omega)
end Go.Proofs.Ytbapmolpfdiknaa
