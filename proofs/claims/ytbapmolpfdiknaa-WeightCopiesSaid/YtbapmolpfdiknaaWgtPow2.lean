/- The law WeightPowers, joined. -/
import Derived.Test.YtbapmolpfdiknaaWgtPowers
namespace Go.Proofs.Ytbapmolpfdiknaa
set_option linter.unusedVariables false
set_option linter.unusedSimpArgs false
open Go.RowKit Go.Lib
theorem cr_ok (a : Wt) (ha : WOk a) (ea : vW a = true) (k : Int) (k0 : 0 ≤ k) (k1 : k ≤ 9223372036854775807) (h : a.n * k ≤ 1152921504606846976) : CR a k (repU a k.toNat) .nilIface := fun w => by
  have := wrep_any a k ha (by omega) k1 w
  simpa [repW, ea, k0, h, errv] using this
theorem cr_long (a : Wt) (ha : WOk a) (ea : vW a = true) (k : Int) (k0 : 0 ≤ k) (k1 : k ≤ 9223372036854775807) (h : ¬ a.n * k ≤ 1152921504606846976) : CR a k zW (.iface 52 (.int .i64 2)) := fun w => by
  have := wrep_any a k ha (by omega) k1 w
  simpa [repW, ea, k0, h, errv] using this
theorem cr_bad (a : Wt) (ha : WOk a) (ea : vW a = false) (k : Int) (k0 : 0 ≤ k) (k1 : k ≤ 9223372036854775807) : CR a k zW (.iface 52 (.int .i64 4)) := fun w => by
  have := wrep_any a k ha (by omega) k1 w
  simpa [repW, ea, errv] using this
theorem law_wpowers (a : Wt) (i j : Int) (ha : WOk a) (i0 : -9223372036854775808 ≤ i) (i1 : i ≤ 9223372036854775807) (j0 : -9223372036854775808 ≤ j) (j1 : j ≤ 9223372036854775807) (w : World) :
    Calls Try.prog 10 #[.agg #[.int .i64 a.n, .int .i64 a.l, .int .i64 a.h, .int .i64 a.t, .int .u64 a.v, .int .u64 a.s], .int .i64 i, .int .i64 j] w fun e w' => e = .returned (.bool true) ∧ Below w.heap.size w w' := by
  by_cases ho : i < 0 ∨ j < 0 ∨ 1073741824 < i ∨ 1073741824 < j
  · exact powers_out a i j i0 i1 j0 j1 ho w
  · clear i0 i1 j0 j1
    have i0 : 0 ≤ i := by omega
    have i1 : i ≤ 1073741824 := by omega
    have j0 : 0 ≤ j := by omega
    have j1 : j ≤ 1073741824 := by omega
    clear ho
    have m0 : 0 ≤ i * j := Int.mul_nonneg i0 j0
    have m1 : i * j ≤ 1152921504606846976 := by
      have := Int.mul_le_mul i1 j1 j0 (by omega : (0:Int) ≤ 1073741824)
      omega
    cases ea : vW a with
    | false => exact powers_ne a a a a a i j 4 4 i0 i1 j0 j1 (Lib.hid m0) (Lib.hid m1) (Lib.hid (cr_bad a ha ea _ (by omega) (by omega))) (by decide) (Lib.hid (cr_bad a ha ea _ m0 (by omega))) w
    | true =>
      obtain ⟨_, _, _, an0, an1⟩ := fit_facts ea
      obtain ⟨I, rfl⟩ := Int.eq_ofNat_of_zero_le i0
      obtain ⟨J, rfl⟩ := Int.eq_ofNat_of_zero_le j0
      have eij : ((I : Int) * (J : Int)).toNat = I * J := by rw [← Int.natCast_mul]; rfl
      have eaj : ((I : Int) + (J : Int)).toNat = I + J := by rw [← Int.natCast_add]; rfl
      have hd : a.n * ((I : Int) + (J : Int)) = a.n * I + a.n * J := Int.mul_add ..
      have p1 : 0 ≤ a.n * (I : Int) := Int.mul_nonneg an0 i0
      have p2 : 0 ≤ a.n * (J : Int) := Int.mul_nonneg an0 j0
      by_cases hs : a.n * ((I : Int) + (J : Int)) ≤ 1152921504606846976
      · have S := cr_ok a ha ea _ (by omega : (0:Int) ≤ (I : Int) + (J : Int)) (by omega) hs
        have P := cr_ok a ha ea I i0 (by omega) (by omega)
        have Q := cr_ok a ha ea J j0 (by omega) (by omega)
        have vp := rep_valid a ea ha.uv.lo I (by omega)
        have vq := rep_valid a ea ha.uv.lo J (by omega)
        have C := cw_ok (repU a I) (repU a J) vp vq (rep_v0 a I) (rep_v0 a J) (by rw [rep_n, rep_n]; omega)
        rw [eaj, rep_add a ea ha.uv.lo I J (by omega)] at S
        simp only [Int.toNat_natCast] at P Q
        by_cases hp : a.n * ((I : Int) * (J : Int)) ≤ 1152921504606846976
        · have M := cr_ok a ha ea _ m0 (by omega) hp
          rw [eij] at M
          have R := cr_ok (repU a I) (ok_of vp (rep_v0 a I)) vp J j0 (by omega) (by rw [rep_n, Int.mul_assoc]; exact hp)
          simp only [Int.toNat_natCast] at R
          rw [rep_mul a ea ha.uv.lo I J (by rw [Int.natCast_mul]; exact hp)] at R
          exact powers_so a _ _ _ _ I J 0 0 i0 i1 j0 j1 (Lib.hid m0) (Lib.hid m1) (Lib.hid S) (Lib.hid P) (Lib.hid Q) (Lib.hid C) (Lib.hid M) (Lib.hid R) w
        · have M := cr_long a ha ea _ m0 (by omega) hp
          exact powers_se a _ _ _ a I J 0 2 i0 i1 j0 j1 (Lib.hid m0) (Lib.hid m1) (Lib.hid S) (Lib.hid P) (Lib.hid Q) (Lib.hid C) (Lib.hid M) w
      · have S := cr_long a ha ea _ (by omega : (0:Int) ≤ (I : Int) + (J : Int)) (by omega) hs
        by_cases hp : a.n * ((I : Int) * (J : Int)) ≤ 1152921504606846976
        · have M := cr_ok a ha ea _ m0 (by omega) hp
          rw [eij] at M
          by_cases hi : a.n * (I : Int) ≤ 1152921504606846976
          · have P := cr_ok a ha ea I i0 (by omega) hi
            have vp := rep_valid a ea ha.uv.lo I hi
            have R := cr_ok (repU a I) (ok_of vp (rep_v0 a I)) vp J j0 (by omega) (by rw [rep_n, Int.mul_assoc]; exact hp)
            simp only [Int.toNat_natCast] at P R
            rw [rep_mul a ea ha.uv.lo I J (by rw [Int.natCast_mul]; exact hp)] at R
            exact powers_no a a _ a _ I J 2 0 i0 i1 j0 j1 (Lib.hid m0) (Lib.hid m1) (Lib.hid S) (by decide) (Lib.hid M) (Lib.hid P) (Lib.hid R) w
          · have F := cr_long a ha ea I i0 (by omega) hi
            have jz : ((J : Int) == 0) = true := by
              by_cases h0 : J = 0
              · subst h0; rfl
              · exfalso
                have : a.n * (I : Int) * 1 ≤ a.n * (I : Int) * (J : Int) := Int.mul_le_mul_of_nonneg_left (by omega) p1
                rw [Int.mul_assoc a.n (I : Int) (J : Int)] at this
                omega
            exact powers_nl a a a a _ I J 2 0 i0 i1 j0 j1 (Lib.hid m0) (Lib.hid m1) (Lib.hid S) (by decide) (Lib.hid M) (Lib.hid F) jz w
        · have M := cr_long a ha ea _ m0 (by omega) hp
          exact powers_ne a a a a a I J 2 2 i0 i1 j0 j1 (Lib.hid m0) (Lib.hid m1) (Lib.hid S) (by decide) (Lib.hid M) w
end Go.Proofs.Ytbapmolpfdiknaa
