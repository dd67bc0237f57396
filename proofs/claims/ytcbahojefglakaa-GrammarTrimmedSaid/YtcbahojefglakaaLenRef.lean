/- The walks of evergreenref01: Valid, Add, Sub, Mul, Range, Clip. -/
import Derived.Test.YtcbahojefglakaaLen
namespace Go.Proofs.Ytcbahojefglakaa
set_option linter.unusedVariables false
set_option linter.unusedSimpArgs false
open Go.RowKit Go.Lib

theorem rvalid_any (n : Int) (w : World) : Calls Try.prog 65 #[.int .i64 n] w fun e w' => e = .returned (.bool (vld n)) ∧ w = w' := by
  by_cases h0 : 0 ≤ n
  · by_cases h1 : n ≤ 1152921504606846976
    · have H := Lib.hid (vld_yes n h0 h1)
      go_enter Try.func65, Try.ntmps65
      go_wp2_with fail
      go_ret
      exact ⟨by rw [H.out]; rfl, rfl⟩
    · have H := Lib.hid (vld_no n (fun h => h1 h.2))
      have h1' : 1152921504606846976 < n := by omega
      clear h1
      go_enter Try.func65, Try.ntmps65
      go_wp2_with fail
      go_ret
      exact ⟨retb (by rw [H.out]; simp; omega), rfl⟩
  · have H := Lib.hid (vld_no n (fun h => h0 h.1))
    have h0' : n < 0 := by omega
    clear h0
    go_enter Try.func65, Try.ntmps65
    go_wp2_with fail
    go_ret
    exact ⟨by rw [H.out]; rfl, rfl⟩

theorem refadd1_any (a b : Int) (w : World) : Calls Try.prog 43 #[.int .i64 a, .int .i64 b] w fun e w' => e = .returned (.tuple #[.int .i64 (lenAdd a b).1, .int .i64 (lenAdd a b).2]) ∧ w = w' := by
  rcases vld_cases a with ⟨va, a0, a1⟩ | ⟨va, ha⟩
  · rcases vld_cases b with ⟨vb, b0, b1⟩ | ⟨vb, hb⟩
    · by_cases hs : a + b ≤ 1152921504606846976
      · have H := Lib.hid (show lenAdd a b = (a + b, 0) by unfold lenAdd; simp [va, vb, hs])
        go_enter Try.func43, Try.ntmps43
        go_wp2_with fail
        (with_reducible refine (rvalid_any a _).mono ?_)
        rintro e w' ⟨rfl, rfl⟩
        go_wp2_with fail
        (with_reducible refine (rvalid_any b _).mono ?_)
        rintro e w' ⟨rfl, rfl⟩
        go_wp2_with fail
        go_ret2
        exact ⟨by rw [H.out]; rfl, rfl⟩
      · have H := Lib.hid (show lenAdd a b = (0, 2) by unfold lenAdd; simp [va, vb, hs])
        have hs' : 1152921504606846976 < a + b := by omega
        clear hs
        go_enter Try.func43, Try.ntmps43
        go_wp2_with fail
        (with_reducible refine (rvalid_any a _).mono ?_)
        rintro e w' ⟨rfl, rfl⟩
        go_wp2_with fail
        (with_reducible refine (rvalid_any b _).mono ?_)
        rintro e w' ⟨rfl, rfl⟩
        go_wp2_with fail
        go_ret2
        exact ⟨by rw [H.out]; rfl, rfl⟩
    · have H := Lib.hid (show lenAdd a b = (0, 1) by unfold lenAdd; simp [vb])
      clear hb
      go_enter Try.func43, Try.ntmps43
      go_wp2_with fail
      (with_reducible refine (rvalid_any a _).mono ?_)
      rintro e w' ⟨rfl, rfl⟩
      go_wp2_with fail
      (with_reducible refine (rvalid_any b _).mono ?_)
      rintro e w' ⟨rfl, rfl⟩
      go_wp2_with fail
      go_ret2
      exact ⟨by rw [H.out]; rfl, rfl⟩
  · have H := Lib.hid (show lenAdd a b = (0, 1) by unfold lenAdd; simp [va])
    clear ha
    go_enter Try.func43, Try.ntmps43
    go_wp2_with fail
    (with_reducible refine (rvalid_any a _).mono ?_)
    rintro e w' ⟨rfl, rfl⟩
    go_wp2_with fail
    go_ret2
    exact ⟨by rw [H.out]; rfl, rfl⟩


theorem refmul1_any (a k : Int) (w : World) : Calls Try.prog 44 #[.int .i64 a, .int .i64 k] w fun e w' => e = .returned (.tuple #[.int .i64 (lenMul a k).1, .int .i64 (lenMul a k).2]) ∧ w = w' := by
  rcases vld_cases a with ⟨va, a0, a1⟩ | ⟨va, ha⟩
  · by_cases hk : 0 ≤ k
    · by_cases hz : a = 0
      · subst hz
        have H := Lib.hid (show lenMul 0 k = (0, 0) by unfold lenMul; simp [va, hk])
        go_enter Try.func44, Try.ntmps44
        go_wp2_with fail
        (with_reducible refine (rvalid_any 0 _).mono ?_)
        rintro e w' ⟨rfl, rfl⟩
        go_wp2_with fail
        go_ret2
        exact ⟨by rw [H.out]; rfl, rfl⟩
      · have hp : 1 ≤ a := by omega
        have hp' : (0 : Int) < a := by omega
        have hd : decide (0 < a) = true := by simp; omega
        have q0 : 0 ≤ 1152921504606846976 / a := Int.ediv_nonneg (by omega) a0
        have q1 : 1152921504606846976 / a ≤ 1152921504606846976 := Int.ediv_le_self _ (by omega)
        by_cases hs : a * k ≤ 1152921504606846976
        · have H := Lib.hid (show lenMul a k = (a * k, 0) by unfold lenMul; simp [va, hk, hs])
          have hs' : k ≤ 1152921504606846976 / a := (mul_le_iff a k (by omega)).1 hs
          have hs0 : 0 ≤ a * k := Int.mul_nonneg a0 hk
          clear hz
          go_enter Try.func44, Try.ntmps44
          go_wp2_with fail
          (with_reducible refine (rvalid_any a _).mono ?_)
          rintro e w' ⟨rfl, rfl⟩
          go_wp2_with fail
          go_ret2
          exact ⟨by rw [H.out]; rfl, rfl⟩
        · have H := Lib.hid (show lenMul a k = (0, 2) by unfold lenMul; simp [va, hk, hs])
          have hs' : 1152921504606846976 / a < k := by have := mul_le_iff a k (by omega); omega
          clear hs hz
          go_enter Try.func44, Try.ntmps44
          go_wp2_with fail
          (with_reducible refine (rvalid_any a _).mono ?_)
          rintro e w' ⟨rfl, rfl⟩
          go_wp2_with fail
          go_ret2
          exact ⟨by rw [H.out]; rfl, rfl⟩
    · have H := Lib.hid (show lenMul a k = (0, 1) by unfold lenMul; simp [hk])
      have hk' : k < 0 := by omega
      clear hk
      go_enter Try.func44, Try.ntmps44
      go_wp2_with fail
      (with_reducible refine (rvalid_any a _).mono ?_)
      rintro e w' ⟨rfl, rfl⟩
      go_wp2_with fail
      go_ret2
      exact ⟨by rw [H.out]; rfl, rfl⟩
  · have H := Lib.hid (show lenMul a k = (0, 1) by unfold lenMul; simp [va])
    clear ha
    go_enter Try.func44, Try.ntmps44
    go_wp2_with fail
    (with_reducible refine (rvalid_any a _).mono ?_)
    rintro e w' ⟨rfl, rfl⟩
    go_wp2_with fail
    go_ret2
    exact ⟨by rw [H.out]; rfl, rfl⟩
end Go.Proofs.Ytcbahojefglakaa
