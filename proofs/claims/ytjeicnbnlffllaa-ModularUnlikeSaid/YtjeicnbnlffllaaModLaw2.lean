/- The walks of the laws of chapter 4 that lean on Fermat: ModularFermat, ModularInverts, ModularUnlike. -/
import Derived.Test.YtjeicnbnlffllaaModLaw
import Derived.Test.YtjeicnbnlffllaaBase
namespace Go.Proofs.Ytjeicnbnlffllaa
open Go.RowKit Go.Lib

theorem red_nat (n : Nat) : red (n : Int) = ((n % PlainP.P : Nat) : Int) := by unfold red PlainP.P; omega
theorem red_natpow (n k : Nat) : red ((n : Int) ^ k) = ((n ^ k % PlainP.P : Nat) : Int) := by
  rw [← red_nat, Int.natCast_pow]
theorem fermat_red (a : Int) (h : 0 ≤ a) : red (a ^ 2305843009213693951) = red a := by
  obtain ⟨n, rfl⟩ := Int.eq_ofNat_of_zero_le h
  exact (red_natpow n PlainP.P).trans ((congrArg Int.ofNat (PlainP.fermat n)).trans (red_nat n).symm)
theorem red_ne (n : Nat) (h : red (n : Int) ≠ 0) : n % PlainP.P ≠ 0 := by
  intro e; rw [red_nat, e] at h; exact h rfl
theorem inverse_red (a : Int) (h : 0 ≤ a) (hz : red a ≠ 0) : red (a * red (a ^ 2305843009213693949)) = 1 := by
  obtain ⟨n, rfl⟩ := Int.eq_ofNat_of_zero_le h
  rw [red_mul_r, Int.mul_comm]
  have e : ((n : Int) ^ 2305843009213693949 * (n : Int)) = ((n ^ (PlainP.P - 2) * n : Nat) : Int) := by
    rw [Int.natCast_mul, Int.natCast_pow]; rfl
  rw [e, red_nat, PlainP.inverse n (red_ne n hz)]
  rfl
theorem pow17_red (a b : Int) (ha : 0 ≤ a) (hb : 0 ≤ b) (h : red (a ^ 17) = red (b ^ 17)) : red a = red b := by
  obtain ⟨n, rfl⟩ := Int.eq_ofNat_of_zero_le ha
  obtain ⟨m, rfl⟩ := Int.eq_ofNat_of_zero_le hb
  rw [red_natpow, red_natpow] at h
  rw [red_nat, red_nat, PlainP.pow17 n m (by exact Int.ofNat.inj h)]
theorem mul_inj (c d x y : Int) (h : red (c * d) = 1) (e : red (c * x) = red (c * y)) : red x = red y := by
  have k : ∀ z, red (d * red (c * z)) = red z := by
    intro z
    rw [red_mul_r, ← Int.mul_assoc, Int.mul_comm d c, ← red_mul_l, h, Int.one_mul]
  rw [← k x, ← k y, e]
theorem add_inj_l (x y z : Int) (e : red (z + x) = red (z + y)) : red x = red y := by unfold red at *; omega
theorem add_inj_r (x y z : Int) (e : red (x + z) = red (y + z)) : red x = red y := by unfold red at *; omega
theorem cong_l (x y z : Int) (e : red x = red y) : red (z + x) = red (z + y) := by unfold red at *; omega
theorem red_cong_mul (c x y : Int) (e : red x = red y) : red (c * x) = red (c * y) := by rw [← red_mul_r, e, red_mul_r]
theorem c1_inv : red (1234567890123456789 * 2179019607881955056) = 1 := by decide
theorem c2_inv : red (987654321987654321 * 702030373931533610) = 1 := by decide

theorem mixed_one (k x y l u v : Int) : mixed k x y = mixed l u v ↔ red (k + red (red (1234567890123456789 * x) + red (987654321987654321 * y))) = red (l + red (red (1234567890123456789 * u) + red (987654321987654321 * v))) := by
  constructor
  · intro h
    have := pow17_red _ _ (red_lo _) (red_lo _) h
    rwa [red_red, red_red] at this
  · intro h
    unfold mixed
    rw [h]
theorem mixed_x (z x y c : Int) : mixed z x c = mixed z y c ↔ red x = red y := by
  rw [mixed_one]
  constructor
  · intro h
    have h1 := add_inj_l _ _ _ h
    rw [red_red, red_red] at h1
    have h2 := add_inj_r _ _ _ h1
    rw [red_red, red_red] at h2
    exact mul_inj _ _ _ _ c1_inv h2
  · intro h
    rw [red_cong_mul _ _ _ h]
theorem mixed_y (z x y c : Int) : mixed c z x = mixed c z y ↔ red x = red y := by
  rw [mixed_one]
  constructor
  · intro h
    have h1 := add_inj_l _ _ _ h
    rw [red_red, red_red] at h1
    have h2 := add_inj_l _ _ _ h1
    rw [red_red, red_red] at h2
    exact mul_inj _ _ _ _ c2_inv h2
  · intro h
    rw [red_cong_mul _ _ _ h]
theorem mixed_k (z x y c : Int) : mixed x z c = mixed y z c ↔ red x = red y := by
  rw [mixed_one]
  constructor
  · intro h
    exact add_inj_r _ _ _ h
  · intro h
    rw [Int.add_comm x, Int.add_comm y]
    exact cong_l _ _ _ h
theorem beq_of_iff (a b : Int) (p : Prop) (h : a = b ↔ p) (hp : p) : (a == b) = true := by rw [beq_iff_eq]; exact h.2 hp
theorem beq_of_not (a b : Int) (p : Prop) (h : a = b ↔ p) (hp : ¬ p) : (a == b) = false := by rw [beq_eq_false_iff_ne]; exact fun e => hp (h.1 e)
theorem mixed_lo (k x y : Int) : 0 ≤ mixed k x y := red_lo _

theorem law_unlike (x y z : Int) (x0 : 0 ≤ x) (x1 : x < 18446744073709551616) (y0 : 0 ≤ y) (y1 : y < 18446744073709551616) (z0 : 0 ≤ z) (z1 : z < 18446744073709551616) (w : World) :
    Calls Try.prog 12 #[.int .u64 x, .int .u64 y, .int .u64 z] w fun e w' => e = .returned (.bool true) ∧ w = w' := by
  by_cases h : red x = red y
  · have s : (x % 2305843009213693951 == y % 2305843009213693951) = true := by rw [beq_iff_eq]; exact h
    have e1 := beq_of_iff _ _ _ (mixed_x z x y 5) h
    have e2 := beq_of_iff _ _ _ (mixed_y z x y 3) h
    have e3 := beq_of_iff _ _ _ (mixed_k z x y z) h
    clear h
    go_enter Try.func12, Try.ntmps12
    go_wp2_with fail
    (with_reducible refine (awake_any _).mono ?_)
    rintro e w' ⟨rfl, rfl⟩
    go_wp2_with fail
    (with_reducible refine (mix_any z x 5 z0 z1 x0 x1 (by omega) (by omega) _).mono ?_)
    rintro e w' ⟨rfl, rfl⟩
    go_wp2_with fail
    (with_reducible refine (mix_any z y 5 z0 z1 y0 y1 (by omega) (by omega) _).mono ?_)
    rintro e w' ⟨rfl, rfl⟩
    go_wp2_with fail
    (with_reducible refine (mix_any 3 z x (by omega) (by omega) z0 z1 x0 x1 _).mono ?_)
    rintro e w' ⟨rfl, rfl⟩
    go_wp2_with fail
    (with_reducible refine (mix_any 3 z y (by omega) (by omega) z0 z1 y0 y1 _).mono ?_)
    rintro e w' ⟨rfl, rfl⟩
    go_wp2_with fail
    (with_reducible refine (mix_any x z z x0 x1 z0 z1 z0 z1 _).mono ?_)
    rintro e w' ⟨rfl, rfl⟩
    go_wp2_with fail
    (with_reducible refine (mix_any y z z y0 y1 z0 z1 z0 z1 _).mono ?_)
    rintro e w' ⟨rfl, rfl⟩
    go_wp2_with fail
    go_ret
    exact ⟨rfl, rfl⟩
  · have s : (x % 2305843009213693951 == y % 2305843009213693951) = false := by rw [beq_eq_false_iff_ne]; exact h
    have e1 := beq_of_not _ _ _ (mixed_x z x y 5) h
    have e2 := beq_of_not _ _ _ (mixed_y z x y 3) h
    have e3 := beq_of_not _ _ _ (mixed_k z x y z) h
    clear h
    go_enter Try.func12, Try.ntmps12
    go_wp2_with fail
    (with_reducible refine (awake_any _).mono ?_)
    rintro e w' ⟨rfl, rfl⟩
    go_wp2_with fail
    (with_reducible refine (mix_any z x 5 z0 z1 x0 x1 (by omega) (by omega) _).mono ?_)
    rintro e w' ⟨rfl, rfl⟩
    go_wp2_with fail
    (with_reducible refine (mix_any z y 5 z0 z1 y0 y1 (by omega) (by omega) _).mono ?_)
    rintro e w' ⟨rfl, rfl⟩
    go_wp2_with fail
    (with_reducible refine (mix_any 3 z x (by omega) (by omega) z0 z1 x0 x1 _).mono ?_)
    rintro e w' ⟨rfl, rfl⟩
    go_wp2_with fail
    (with_reducible refine (mix_any 3 z y (by omega) (by omega) z0 z1 y0 y1 _).mono ?_)
    rintro e w' ⟨rfl, rfl⟩
    go_wp2_with fail
    (with_reducible refine (mix_any x z z x0 x1 z0 z1 z0 z1 _).mono ?_)
    rintro e w' ⟨rfl, rfl⟩
    go_wp2_with fail
    (with_reducible refine (mix_any y z z y0 y1 z0 z1 z0 z1 _).mono ?_)
    rintro e w' ⟨rfl, rfl⟩
    go_wp2_with fail
    go_ret
    exact ⟨rfl, rfl⟩

theorem law_inverts (a : Int) (a0 : 0 ≤ a) (a1 : a < 18446744073709551616) (w : World) :
    Calls Try.prog 10 #[.int .u64 a] w fun e w' => e = .returned (.bool true) ∧ w = w' := by
  by_cases h : red a = 0
  · have s : (a % 2305843009213693951 == 0) = true := by rw [beq_iff_eq]; exact h
    have H := Lib.hid h
    clear h
    go_enter Try.func10, Try.ntmps10
    go_wp2_with fail
    (with_reducible refine (inverse_zero a a0 a1 H.out _).mono ?_)
    rintro e w' ⟨rfl, rfl⟩
    go_wp2_with fail
    (with_reducible refine (awake_any _).mono ?_)
    rintro e w' ⟨rfl, rfl⟩
    go_wp2_with fail
    (with_reducible refine (is_yes 1 (by decide) _).mono ?_)
    rintro e w' ⟨rfl, rfl⟩
    go_wp2_with fail
    go_ret
    exact ⟨rfl, rfl⟩
  · have s : (a % 2305843009213693951 == 0) = false := by rw [beq_eq_false_iff_ne]; exact h
    have e1 : (red (a * red (a ^ 2305843009213693949)) == 1) = true := by rw [beq_iff_eq]; exact inverse_red a a0 h
    have b1 := red_hi (a ^ 2305843009213693949)
    have H := Lib.hid h
    clear h
    go_enter Try.func10, Try.ntmps10
    go_wp2_with fail
    (with_reducible refine (inverse_some a a0 a1 H.out _).mono ?_)
    rintro e w' ⟨rfl, rfl⟩
    go_wp2_with fail
    (with_reducible refine (awake_any _).mono ?_)
    rintro e w' ⟨rfl, rfl⟩
    go_wp2_with fail
    (with_reducible refine (mul_any a (red (a ^ 2305843009213693949)) a0 a1 (rl _) (rh _) _).mono ?_)
    rintro e w' ⟨rfl, rfl⟩
    go_wp2_with fail
    go_ret
    exact ⟨rfl, rfl⟩

theorem law_fermat (a n m : Int) (a0 : 0 ≤ a) (a1 : a < 18446744073709551616) (n0 : 0 ≤ n) (n1 : n < 4294967296) (m0 : 0 ≤ m) (m1 : m < 4294967296) (w : World) :
    Calls Try.prog 9 #[.int .u64 a, .int .u32 n, .int .u32 m] w fun e w' => e = .returned (.bool true) ∧ w = w' := by
  have e1 : (red (a ^ 2305843009213693951) != red a) = false := by rw [fermat_red a a0]; simp
  have e2 : (red (a ^ (n + m).toNat) == red (red (a ^ n.toNat) * red (a ^ m.toNat))) = true := by
    rw [red_mul_l, red_mul_r, ← Int.pow_add, ← Int.toNat_add n0 m0]; simp
  go_enter Try.func9, Try.ntmps9
  go_wp2_with fail
  (with_reducible refine (awake_any _).mono ?_)
  rintro e w' ⟨rfl, rfl⟩
  go_wp2_with fail
  (with_reducible refine (pow_any a 2305843009213693951 a0 a1 (by omega) (by omega) _).mono ?_)
  rintro e w' ⟨rfl, rfl⟩
  go_wp2_with fail
  (with_reducible refine (reduce_any a a0 a1 _).mono ?_)
  rintro e w' ⟨rfl, rfl⟩
  go_wp2_with fail
  (with_reducible refine (pow_any a (n + m) a0 a1 (by omega) (by omega) _).mono ?_)
  rintro e w' ⟨rfl, rfl⟩
  go_wp2_with fail
  (with_reducible refine (pow_any a n a0 a1 (by omega) (by omega) _).mono ?_)
  rintro e w' ⟨rfl, rfl⟩
  go_wp2_with fail
  (with_reducible refine (pow_any a m a0 a1 (by omega) (by omega) _).mono ?_)
  rintro e w' ⟨rfl, rfl⟩
  go_wp2_with fail
  (with_reducible refine (mul_any (red (a ^ n.toNat)) (red (a ^ m.toNat)) (rl _) (rh _) (rl _) (rh _) _).mono ?_)
  rintro e w' ⟨rfl, rfl⟩
  go_wp2_with fail
  go_ret
  exact ⟨rfl, rfl⟩
end Go.Proofs.Ytjeicnbnlffllaa
