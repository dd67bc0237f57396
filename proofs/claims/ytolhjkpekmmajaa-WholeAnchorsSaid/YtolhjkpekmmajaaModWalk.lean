/- The walks of modular.Reduce, Mul64, Add, Mul. -/
import Derived.Test.YtolhjkpekmmajaaModPlain
import Derived.WalkSpells
namespace Go.Proofs.Ytolhjkpekmmajaa
set_option linter.unusedVariables false
set_option linter.unusedSimpArgs false
open Go.RowKit Go.Lib

theorem reduce_any (x : Int) (h0 : 0 ≤ x) (h1 : x < 18446744073709551616) (w : World) :
    Calls Try.prog 90 #[.int .u64 x] w fun e w' => e = .returned (.int .u64 (red x)) ∧ w = w' := by
  have hm := maskP x h0 h1
  go_enter Try.func90, Try.ntmps90
  go_wp2
  all_goals go_ret
  all_goals exact ⟨ret_u64 (by unfold red; omega), rfl⟩

theorem mul64_any (x y : Int) (hx0 : 0 ≤ x) (hx : x < 18446744073709551616) (hy0 : 0 ≤ y) (hy : y < 18446744073709551616) (w : World) :
    Calls Try.prog 91 #[.int .u64 x, .int .u64 y] w fun e w' => e = .returned (.tuple #[.int .u64 (x * y / 18446744073709551616), .int .u64 (x * y % 18446744073709551616)]) ∧ w = w' := by
  obtain ⟨x, rfl⟩ := Int.eq_ofNat_of_zero_le hx0
  obtain ⟨y, rfl⟩ := Int.eq_ofNat_of_zero_le hy0
  replace hx : x < 18446744073709551616 := by omega
  replace hy : y < 18446744073709551616 := by omega
  clear hx0 hy0
  obtain ⟨bd, bt, bw, hhi⟩ := Lib.mul64_hi x y hx hy
  have ba := Lib.half_mul_le (a := x / 4294967296) (b := y / 4294967296) (by omega) (by omega)
  have bb := Lib.half_mul_le (a := x / 4294967296) (b := y % 4294967296) (by omega) (by omega)
  have bc := Lib.half_mul_le (a := x % 4294967296) (b := y / 4294967296) (by omega) (by omega)
  have ba' : x / 4294967296 * (y / 4294967296) < 18446744073709551616 := by omega
  have bb' : x / 4294967296 * (y % 4294967296) < 18446744073709551616 := by omega
  have bc' : x % 4294967296 * (y / 4294967296) < 18446744073709551616 := by omega
  have bh1 : x / 4294967296 * (y / 4294967296) + (x / 4294967296 * (y % 4294967296) + x % 4294967296 * (y % 4294967296) / 4294967296) / 4294967296 < 18446744073709551616 := by omega
  have bh : x / 4294967296 * (y / 4294967296) + (x / 4294967296 * (y % 4294967296) + x % 4294967296 * (y % 4294967296) / 4294967296) / 4294967296 + ((x / 4294967296 * (y % 4294967296) + x % 4294967296 * (y % 4294967296) / 4294967296) % 4294967296 + x % 4294967296 * (y / 4294967296)) / 4294967296 < 18446744073709551616 := by omega
  go_enter Try.func91, Try.ntmps91
  go_wp2
  simp only [maskN x hx, maskN y hy, divN, mulN, addN, wrapN _ bd, wrapN _ bb', wrapN _ bt, maskN _ bt, wrapN _ bc', wrapN _ bw, wrapN _ ba', wrapN _ bh1, wrapN _ bh, wrapM (x * y)]
  rw [hhi]
  go_ret2
  exact ⟨by congr 5 <;> omega, rfl⟩

theorem add_any (a b : Int) (ha0 : 0 ≤ a) (ha : a < 18446744073709551616) (hb0 : 0 ≤ b) (hb : b < 18446744073709551616) (w : World) :
    Calls Try.prog 88 #[.int .u64 a, .int .u64 b] w fun e w' => e = .returned (.int .u64 (red (a + b))) ∧ w = w' := by
  have a0 := red_lo a; have a1 := red_hi a; have b0 := red_lo b; have b1 := red_hi b
  go_enter Try.func88, Try.ntmps88
  go_wp2_with fail
  refine (reduce_any a ha0 ha _).mono ?_
  rintro e w' ⟨rfl, rfl⟩
  go_wp2_with fail
  refine (reduce_any b hb0 hb _).mono ?_
  rintro e w' ⟨rfl, rfl⟩
  go_wp2_with fail
  refine (reduce_any (red a + red b) (by omega) (by omega) _).mono ?_
  rintro e w' ⟨rfl, rfl⟩
  go_wp2
  go_ret
  exact ⟨ret_u64 (by rw [red_add_l, red_add_r]), rfl⟩

theorem mul_fold (n : Int) (h0 : 0 ≤ n) (h1 : n ≤ 5316911983139663482391856204266602500) :
    0 ≤ n / 18446744073709551616 * 8 + n % 18446744073709551616 / 2305843009213693952 + n % 2305843009213693952 ∧
    n / 18446744073709551616 * 8 + n % 18446744073709551616 / 2305843009213693952 + n % 2305843009213693952 < 18446744073709551616 ∧
    red (n / 18446744073709551616 * 8 + n % 18446744073709551616 / 2305843009213693952 + n % 2305843009213693952) = red n := by
  unfold red
  refine ⟨by omega, by omega, by omega⟩

theorem mul_any (a b : Int) (ha0 : 0 ≤ a) (ha : a < 18446744073709551616) (hb0 : 0 ≤ b) (hb : b < 18446744073709551616) (w : World) :
    Calls Try.prog 89 #[.int .u64 a, .int .u64 b] w fun e w' => e = .returned (.int .u64 (red (a * b))) ∧ w = w' := by
  have a0 := red_lo a; have a1 := red_hi a; have b0 := red_lo b; have b1 := red_hi b
  obtain ⟨n0, n1⟩ := mul_lt a b
  obtain ⟨n, hn⟩ : ∃ n, n = red a * red b := ⟨_, rfl⟩
  rw [← hn] at n0 n1
  obtain ⟨f0, f1, f2⟩ := mul_fold n n0 n1
  have hl0 : 0 ≤ n % 18446744073709551616 := by omega
  have hl1 : n % 18446744073709551616 < 18446744073709551616 := by omega
  have hh0 : 0 ≤ n / 18446744073709551616 := by omega
  have hh1 : n / 18446744073709551616 ≤ 288230376151711744 := by omega
  have hm : bits .and .u64 (n % 18446744073709551616) 2305843009213693951 = n % 2305843009213693952 := (maskP _ hl0 hl1).trans (by omega)
  have F2 := Lib.hid f2
  have HN := Lib.hid hn
  clear f2 hn
  go_enter Try.func89, Try.ntmps89
  go_wp2_with fail
  refine (reduce_any a ha0 ha _).mono ?_
  rintro e w' ⟨rfl, rfl⟩
  go_wp2_with fail
  refine (reduce_any b hb0 hb _).mono ?_
  rintro e w' ⟨rfl, rfl⟩
  go_wp2_with fail
  refine (mul64_any (red a) (red b) a0 (by omega) b0 (by omega) _).mono ?_
  rw [← HN.out]
  rintro e w' ⟨rfl, rfl⟩
  go_wp2_with fail
  (with_reducible refine (reduce_any _ f0 f1 _).mono ?_)
  rintro e w' ⟨rfl, rfl⟩
  go_wp2
  go_ret
  exact ⟨ret_u64 (by rw [F2.out, HN.out, red_mul_l, red_mul_r]), rfl⟩
end Go.Proofs.Ytolhjkpekmmajaa
