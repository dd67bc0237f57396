/- The walks of package length: Valid, Add, Sub, Mul. What they compute: lenAdd, lenSub, lenMul: a number and an error's number (0: nil). -/
import Derived.Test.YtolhjkpekmmajaaBase
namespace Go.Proofs.Ytolhjkpekmmajaa
set_option linter.unusedVariables false
set_option linter.unusedSimpArgs false
open Go.RowKit Go.Lib

/-- is n the length of a text? -/
def vld (n : Int) : Bool := decide (0 ≤ n) && decide (n ≤ 1152921504606846976)
theorem vld_yes (n : Int) (h0 : 0 ≤ n) (h1 : n ≤ 1152921504606846976) : vld n = true := by unfold vld; simp [h0, h1]
theorem vld_iff (n : Int) : vld n = true ↔ 0 ≤ n ∧ n ≤ 1152921504606846976 := by unfold vld; simp
theorem vld_no (n : Int) (h : ¬ (0 ≤ n ∧ n ≤ 1152921504606846976)) : vld n = false := by
  cases e : vld n
  · rfl
  · exact absurd ((vld_iff n).1 e) h
theorem vld_cases (n : Int) : (vld n = true ∧ 0 ≤ n ∧ n ≤ 1152921504606846976) ∨ (vld n = false ∧ ¬ (0 ≤ n ∧ n ≤ 1152921504606846976)) := by
  by_cases h : 0 ≤ n ∧ n ≤ 1152921504606846976
  · exact .inl ⟨vld_yes n h.1 h.2, h⟩
  · exact .inr ⟨vld_no n h, h⟩

def lenAdd (a b : Int) : Int × Int := if vld a && vld b then (if a + b ≤ 1152921504606846976 then (a + b, 0) else (0, 2)) else (0, 1)
def lenSub (a b : Int) : Int × Int := if vld a && vld b && decide (b ≤ a) then (a - b, 0) else (0, 1)
def lenMul (a k : Int) : Int × Int := if vld a && decide (0 ≤ k) then (if a * k ≤ 1152921504606846976 then (a * k, 0) else (0, 2)) else (0, 1)

theorem valid_any (n : Int) (w : World) : Calls Try.prog 20 #[.int .i64 n] w fun e w' => e = .returned (.bool (vld n)) ∧ w = w' := by
  by_cases h0 : 0 ≤ n
  · by_cases h1 : n ≤ 1152921504606846976
    · have H := Lib.hid (vld_yes n h0 h1)
      go_enter Try.func20, Try.ntmps20
      go_wp2_with fail
      go_ret
      exact ⟨by rw [H.out]; rfl, rfl⟩
    · have H := Lib.hid (vld_no n (fun h => h1 h.2))
      have h1' : 1152921504606846976 < n := by omega
      clear h1
      go_enter Try.func20, Try.ntmps20
      go_wp2_with fail
      go_ret
      exact ⟨retb (by rw [H.out]; simp; omega), rfl⟩
  · have H := Lib.hid (vld_no n (fun h => h0 h.1))
    have h0' : n < 0 := by omega
    clear h0
    go_enter Try.func20, Try.ntmps20
    go_wp2_with fail
    go_ret
    exact ⟨by rw [H.out]; rfl, rfl⟩

theorem lenadd_any (a b : Int) (w : World) : Calls Try.prog 40 #[.int .i64 a, .int .i64 b] w fun e w' => e = .returned (.tuple #[.int .i64 (lenAdd a b).1, errv (lenAdd a b).2]) ∧ w = w' := by
  rcases vld_cases a with ⟨va, a0, a1⟩ | ⟨va, ha⟩
  · rcases vld_cases b with ⟨vb, b0, b1⟩ | ⟨vb, hb⟩
    · by_cases hs : a + b ≤ 1152921504606846976
      · have H := Lib.hid (show lenAdd a b = (a + b, 0) by unfold lenAdd; simp [va, vb, hs])
        have hs' : a ≤ 1152921504606846976 - b := by omega
        clear hs
        go_enter Try.func40, Try.ntmps40
        go_wp2_with fail
        (with_reducible refine (valid_any a _).mono ?_)
        rintro e w' ⟨rfl, rfl⟩
        go_wp2_with fail
        (with_reducible refine (valid_any b _).mono ?_)
        rintro e w' ⟨rfl, rfl⟩
        go_wp2_with fail
        go_ret2
        exact ⟨by rw [H.out]; rfl, rfl⟩
      · have H := Lib.hid (show lenAdd a b = (0, 2) by unfold lenAdd; simp [va, vb, hs])
        have hs' : 1152921504606846976 - b < a := by omega
        clear hs
        go_enter Try.func40, Try.ntmps40
        go_wp2_with fail
        (with_reducible refine (valid_any a _).mono ?_)
        rintro e w' ⟨rfl, rfl⟩
        go_wp2_with fail
        (with_reducible refine (valid_any b _).mono ?_)
        rintro e w' ⟨rfl, rfl⟩
        go_wp2_with fail
        go_ret2
        exact ⟨by rw [H.out]; rfl, rfl⟩
    · have H := Lib.hid (show lenAdd a b = (0, 1) by unfold lenAdd; simp [vb])
      clear hb
      go_enter Try.func40, Try.ntmps40
      go_wp2_with fail
      (with_reducible refine (valid_any a _).mono ?_)
      rintro e w' ⟨rfl, rfl⟩
      go_wp2_with fail
      (with_reducible refine (valid_any b _).mono ?_)
      rintro e w' ⟨rfl, rfl⟩
      go_wp2_with fail
      go_ret2
      exact ⟨by rw [H.out]; rfl, rfl⟩
  · have H := Lib.hid (show lenAdd a b = (0, 1) by unfold lenAdd; simp [va])
    clear ha
    go_enter Try.func40, Try.ntmps40
    go_wp2_with fail
    (with_reducible refine (valid_any a _).mono ?_)
    rintro e w' ⟨rfl, rfl⟩
    go_wp2_with fail
    go_ret2
    exact ⟨by rw [H.out]; rfl, rfl⟩


theorem mul_le_iff (a k : Int) (ha : 0 < a) : a * k ≤ 1152921504606846976 ↔ k ≤ 1152921504606846976 / a := by
  rw [Int.le_ediv_iff_mul_le ha, Int.mul_comm]

end Go.Proofs.Ytolhjkpekmmajaa
