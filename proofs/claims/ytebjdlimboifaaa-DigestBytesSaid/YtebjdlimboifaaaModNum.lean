/- Fermat's theorem and its kin, over Int. -/
import Derived.Test.YtebjdlimboifaaaModPlain
import Derived.Test.YtebjdlimboifaaaPlainP
namespace Go.Proofs.Ytebjdlimboifaaa
set_option linter.unusedVariables false
set_option linter.unusedSimpArgs false
open Go.RowKit Go.Lib

theorem red_nat (n : Nat) : red (n : Int) = ((n % PlainP.P : Nat) : Int) := by unfold red PlainP.P; omega
theorem red_natpow (n k : Nat) : red ((n : Int) ^ k) = ((n ^ k % PlainP.P : Nat) : Int) := by
  rw [← red_nat, Int.natCast_pow]
theorem fermat_red (a : Int) (h : 0 ≤ a) : red (a ^ 2305843009213693951) = red a := by
  obtain ⟨n, rfl⟩ := Int.eq_ofNat_of_zero_le h
  exact (red_natpow n PlainP.P).trans ((congrArg Int.ofNat (PlainP.fermat n)).trans (red_nat n).symm)
theorem red_ne (n : Nat) (h : red (n : Int) ≠ 0) : n % PlainP.P ≠ 0 := by
  intro e; rw [red_nat, e] at h; exact h rfl
theorem inverse_red (a : Int) (h : 0 ≤ a) (hz : red a ≠ 0) : red (a * red (a ^ 2305843009213693949)) = 1 := by
  obtain ⟨n, rfl⟩ := Int.eq_ofNat_of_zero_le h
  rw [red_mul_r, Int.mul_comm]
  have e : ((n : Int) ^ 2305843009213693949 * (n : Int)) = ((n ^ (PlainP.P - 2) * n : Nat) : Int) := by
    rw [Int.natCast_mul, Int.natCast_pow]; rfl
  rw [e, red_nat, PlainP.inverse n (red_ne n hz)]
  rfl
theorem pow17_red (a b : Int) (ha : 0 ≤ a) (hb : 0 ≤ b) (h : red (a ^ 17) = red (b ^ 17)) : red a = red b := by
  obtain ⟨n, rfl⟩ := Int.eq_ofNat_of_zero_le ha
  obtain ⟨m, rfl⟩ := Int.eq_ofNat_of_zero_le hb
  rw [red_natpow, red_natpow] at h
  rw [red_nat, red_nat, PlainP.pow17 n m (by exact Int.ofNat.inj h)]
theorem mul_inj (c d x y : Int) (h : red (c * d) = 1) (e : red (c * x) = red (c * y)) : red x = red y := by
  have k : ∀ z, red (d * red (c * z)) = red z := by
    intro z
    rw [red_mul_r, ← Int.mul_assoc, Int.mul_comm d c, ← red_mul_l, h, Int.one_mul]
  rw [← k x, ← k y, e]
theorem add_inj_l (x y z : Int) (e : red (z + x) = red (z + y)) : red x = red y := by unfold red at *; omega
theorem add_inj_r (x y z : Int) (e : red (x + z) = red (y + z)) : red x = red y := by unfold red at *; omega
theorem cong_l (x y z : Int) (e : red x = red y) : red (z + x) = red (z + y) := by unfold red at *; omega
theorem red_cong_mul (c x y : Int) (e : red x = red y) : red (c * x) = red (c * y) := by rw [← red_mul_r, e, red_mul_r]
end Go.Proofs.Ytebjdlimboifaaa
