/- The walks of evergreenref06: mul, Scale, Valid. -/
import Derived.Test.YtolhjkpekmmajaaWgt
namespace Go.Proofs.Ytolhjkpekmmajaa
set_option linter.unusedVariables false
set_option linter.unusedSimpArgs false
open Go.RowKit Go.Lib

theorem dbl_odd6 (n a b : Int) (h : b % 2 = 1) : red (red (n + a) + red (a + a) * (b / 2)) = red (n + a * b) := by
  rw [red_add_l, ← red_add_r, red_mul_l, red_add_r]
  have e : a * b = a + (a + a) * (b / 2) := by
    have : b = 2 * (b / 2) + 1 := by omega
    conv => lhs; rw [this, Int.mul_add, Int.mul_one, ← Int.mul_assoc, Int.mul_comm a 2, Int.two_mul]
    rw [Int.add_comm]
  rw [e, Int.add_assoc]
theorem dbl_even6 (n a b : Int) (h : b % 2 = 0) : red (n + red (a + a) * (b / 2)) = red (n + a * b) := by
  rw [← red_add_r, red_mul_l, red_add_r]
  have e : a * b = (a + a) * (b / 2) := by
    have : b = 2 * (b / 2) := by omega
    conv => lhs; rw [this, ← Int.mul_assoc, Int.mul_comm a 2, Int.two_mul]
  rw [e]
theorem vB_sc {n l h t v s : Int} (e : (s == scB n) = false) : false = vB n l h t v s := by unfold vB; simp [e]
theorem vB_yes {n l h t v s : Int} (H : fitW n l h t v) (e : (s == scB n) = true) : true = vB n l h t v s := by unfold vB; simp [H, e]
theorem c5 (n v s : Int) : (decide (v < 2305843009213693951) = false ∧ Hid (¬ v < 2305843009213693951)) ∨ (decide (v < 2305843009213693951) = true ∧ Hid (v < 2305843009213693951) ∧ (s == scB n) = false) ∨
    (decide (v < 2305843009213693951) = true ∧ Hid (v < 2305843009213693951) ∧ (s == scB n) = true ∧ decide (0 < n) = true ∧ Hid (0 < n)) ∨
    (decide (v < 2305843009213693951) = true ∧ Hid (v < 2305843009213693951) ∧ (s == scB n) = true ∧ decide (0 < n) = false ∧ Hid (¬ 0 < n) ∧ (v == 0) = true ∧ Hid (v = 0)) ∨
    (decide (v < 2305843009213693951) = true ∧ Hid (v < 2305843009213693951) ∧ (s == scB n) = true ∧ decide (0 < n) = false ∧ Hid (¬ 0 < n) ∧ (v == 0) = false ∧ Hid (v ≠ 0)) := by
  by_cases h1 : v < 2305843009213693951
  · have d1 : decide (v < 2305843009213693951) = true := decide_eq_true h1
    cases h2 : (s == scB n) with
    | false => exact .inr (.inl ⟨d1, h1, rfl⟩)
    | true =>
      by_cases h3 : 0 < n
      · exact .inr (.inr (.inl ⟨d1, h1, rfl, decide_eq_true h3, h3⟩))
      · by_cases h4 : v = 0
        · exact .inr (.inr (.inr (.inl ⟨d1, h1, rfl, decide_eq_false h3, h3, by rw [beq_iff_eq]; exact h4, h4⟩)))
        · exact .inr (.inr (.inr (.inr ⟨d1, h1, rfl, decide_eq_false h3, h3, by rw [beq_eq_false_iff_ne]; exact h4, h4⟩)))
  · exact .inl ⟨decide_eq_false h1, h1⟩
attribute [local go_sem ↓] Go.wp_at_zero Go.wp_at_succ
end Go.Proofs.Ytolhjkpekmmajaa
