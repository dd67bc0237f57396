/- The walks of evergreenref04: Sub, Pow. -/
import Derived.Test.YtjeicnbnlffllaaModRef
namespace Go.Proofs.Ytjeicnbnlffllaa
open Go.RowKit Go.Lib

theorem refsub_any (a b : Int) (ha0 : 0 ≤ a) (ha : a < 18446744073709551616) (hb0 : 0 ≤ b) (hb : b < 18446744073709551616) (w : World) :
    Calls Try.prog 20 #[.int .u64 a, .int .u64 b] w fun e w' => e = .returned (.int .u64 (red (a - b))) ∧ w = w' := by
  go_enter Try.func20, Try.ntmps20
  go_wp2
  go_ret
  exact ⟨ret_u64 (by unfold red; omega), rfl⟩

set_option maxHeartbeats 400000 in
theorem refpow_any (a n : Int) (ha0 : 0 ≤ a) (ha : a < 18446744073709551616) (hb0 : 0 ≤ n) (hb : n < 18446744073709551616) (w : World) :
    Calls Try.prog 25 #[.int .u64 a, .int .u64 n] w fun e w' => e = .returned (.int .u64 (red (a ^ n.toNat))) ∧ w = w' := by
  go_enter Try.func25, Try.ntmps25
  go_wp2_with fail
  go_loop [5, 6] (fun so si => ∃ (k : Nat) (r : Int), si = .int .i64 ((k : Int) - 1) ∧ k ≤ 64 ∧ so = .int .u64 r ∧ 0 ≤ r ∧ r < 2305843009213693951 ∧ Hid (r = red (a ^ (n / 2 ^ k).toNat))) (fun _ si => (intOf si + 1).toNat)
  case atStart => exact ⟨64, 1, rfl, by omega, rfl, by omega, by omega, Lib.hid (by rw [show (2 : Int) ^ 64 = 18446744073709551616 from by decide, Int.ediv_eq_zero_of_lt hb0 hb, Int.toNat_zero, Int.pow_zero]; decide)⟩
  case round =>
    obtain ⟨k, r, rfl, hk, rfl, r0, r1, H⟩ := hrel
    by_cases hz : 0 < k
    · have hz' : (0 : Int) ≤ (k : Int) - 1 := by omega
      have hk' : (k : Int) - 1 ≤ 63 := by omega
      have rr0 := red_lo (r * r); have rr1 := red_hi (r * r)
      by_cases hbt : n / 2 ^ (k - 1) % 2 = 1
      · have T := test_yes _ (k - 1) hb0 hb hbt
        have H' := Lib.hid (sqr_odd a n r k hz hb0 hbt H.out)
        have ra0 := red_lo (red (r * r) * a); have ra1 := red_hi (red (r * r) * a)
        clear H hbt
        go_wp2_with fail
        (with_reducible refine (refmul_any r r (by omega) (by omega) (by omega) (by omega) _).mono ?_)
        rintro e w' ⟨rfl, rfl⟩
        go_wp2_with fail
        (with_reducible refine (refmul_any (red (r * r)) a (by omega) (by omega) (by omega) (by omega) _).mono ?_)
        rintro e w' ⟨rfl, rfl⟩
        go_wp2_with fail
        go_round
        case rel => exact ⟨k - 1, red (red (r * r) * a), by go_num, by omega, rfl, ra0, ra1, H'⟩
        case measure => simp [intOf]; omega
      · have T := test_no _ (k - 1) hb0 hb hbt
        have H' := Lib.hid (sqr_even a n r k hz hb0 hbt H.out)
        clear H hbt
        go_wp2_with fail
        (with_reducible refine (refmul_any r r (by omega) (by omega) (by omega) (by omega) _).mono ?_)
        rintro e w' ⟨rfl, rfl⟩
        go_wp2_with fail
        go_round
        case rel => exact ⟨k - 1, red (r * r), by go_num, by omega, rfl, rr0, rr1, H'⟩
        case measure => simp [intOf]; omega
    · obtain rfl : k = 0 := by omega
      have e : r = red (a ^ n.toNat) := by
        have := H.out
        rw [Int.pow_zero, Int.ediv_one] at this
        exact this
      have E := Lib.hid e
      clear H e
      go_wp2_with fail
      go_ret
      exact ⟨ret_u64 E.out, rfl⟩
end Go.Proofs.Ytjeicnbnlffllaa
