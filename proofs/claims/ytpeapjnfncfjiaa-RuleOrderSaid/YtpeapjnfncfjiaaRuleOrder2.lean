/- The law RuleOrder, whole. -/
import Derived.Test.YtpeapjnfncfjiaaRuleOrder
namespace Go.Proofs.Ytpeapjnfncfjiaa
set_option linter.unusedVariables false
set_option linter.unusedSimpArgs false
open Go.RowKit Go.Lib
theorem or_lt (a b : Int) (r : List Int) : orOf (cmpOf a b :: r) < 0 ↔ a < b ∨ (a = b ∧ orOf r < 0) := by
  rw [show orOf (cmpOf a b :: r) = if cmpOf a b = 0 then orOf r else cmpOf a b from rfl]
  generalize orOf r = q
  unfold cmpOf
  split <;> (try split) <;> (try split) <;> omega
theorem less_iff (a1 a2 a3 a4 a5 b1 b2 b3 b4 b5 : Int) : lessOf a1 a2 a3 a4 a5 b1 b2 b3 b4 b5 = true ↔ a1 < b1 ∨ (a1 = b1 ∧ (a2 < b2 ∨ (a2 = b2 ∧ (a3 < b3 ∨ (a3 = b3 ∧ (a4 < b4 ∨ (a4 = b4 ∧ a5 < b5))))))) := by
  unfold lessOf
  rw [decide_eq_true_iff, or_lt, or_lt, or_lt, or_lt, or_lt]
  simp [orOf]
theorem less_irr (a1 a2 a3 a4 a5 : Int) : lessOf a1 a2 a3 a4 a5 a1 a2 a3 a4 a5 = false := by
  rw [Bool.eq_false_iff, ne_eq, less_iff]
  omega
theorem less_back (a1 a2 a3 a4 a5 b1 b2 b3 b4 b5 : Int) (h : ¬ (a1 = b1 ∧ a2 = b2 ∧ a3 = b3 ∧ a4 = b4 ∧ a5 = b5)) : lessOf b1 b2 b3 b4 b5 a1 a2 a3 a4 a5 = !lessOf a1 a2 a3 a4 a5 b1 b2 b3 b4 b5 := by
  cases h1 : lessOf a1 a2 a3 a4 a5 b1 b2 b3 b4 b5 with
  | true =>
    rw [less_iff] at h1
    rw [Bool.not_true, Bool.eq_false_iff, ne_eq, less_iff]
    omega
  | false =>
    rw [Bool.eq_false_iff, ne_eq, less_iff] at h1
    rw [Bool.not_false, less_iff]
    omega
theorem less_trans (a1 a2 a3 a4 a5 b1 b2 b3 b4 b5 c1 c2 c3 c4 c5 : Int) (h : lessOf a1 a2 a3 a4 a5 b1 b2 b3 b4 b5 = true) (h' : lessOf b1 b2 b3 b4 b5 c1 c2 c3 c4 c5 = true) : lessOf a1 a2 a3 a4 a5 c1 c2 c3 c4 c5 = true := by
  rw [less_iff] at h h' ⊢
  rcases h with h | ⟨rfl, h⟩ <;> rcases h' with h' | ⟨e, h'⟩
  · left; omega
  · left; omega
  · left; omega
  · right; refine ⟨e, ?_⟩
    rcases h with h | ⟨rfl, h⟩ <;> rcases h' with h' | ⟨e, h'⟩
    · left; omega
    · left; omega
    · left; omega
    · right; refine ⟨e, ?_⟩
      rcases h with h | ⟨rfl, h⟩ <;> rcases h' with h' | ⟨e, h'⟩
      · left; omega
      · left; omega
      · left; omega
      · right; refine ⟨e, ?_⟩
        rcases h with h | ⟨rfl, h⟩ <;> rcases h' with h' | ⟨e, h'⟩
        · left; omega
        · left; omega
        · left; omega
        · right; exact ⟨e, by omega⟩
theorem law_order (a1 a2 a3 a4 a5 b1 b2 b3 b4 b5 c1 c2 c3 c4 c5 : Int) (oa : RuleOk a1 a2 a3 a4 a5) (ob : RuleOk b1 b2 b3 b4 b5) (oc : RuleOk c1 c2 c3 c4 c5) (w : World) :
    Calls Try.prog 6 #[.agg #[.int .i64 a1, .int .u8 a2, .int .i64 a3, .int .i64 a4, .int .i64 a5, .int .i64 b1, .int .u8 b2, .int .i64 b3, .int .i64 b4, .int .i64 b5, .int .i64 c1, .int .u8 c2, .int .i64 c3, .int .i64 c4, .int .i64 c5]] w fun e w' => e = .returned (.bool true) ∧ Below w.heap.size w w' := by
  have L := @less_any
  have H7 := Lib.hid fun W => L 0 0 0 0 0 1 0 0 0 0 W
  rw [show lessOf 0 0 0 0 0 1 0 0 0 0 = true by decide] at H7
  by_cases he : a1 = b1 ∧ a2 = b2 ∧ a3 = b3 ∧ a4 = b4 ∧ a5 = b5
  · obtain ⟨rfl, rfl, rfl, rfl, rfl⟩ := he
    have hi := less_irr a1 a2 a3 a4 a5
    have h1 := fun W => L a1 a2 a3 a4 a5 a1 a2 a3 a4 a5 W
    have h2 := fun W => rless_any a1 a2 a3 a4 a5 a1 a2 a3 a4 a5 oa.lt0 oa.lt1 oa.lt0 oa.lt1 W
    rw [hi] at h1 h2
    exact order_eq a1 a2 a3 a4 a5 a1 a2 a3 a4 a5 c1 c2 c3 c4 c5 w (Lib.hid h1) (Lib.hid h2) (Lib.hid h1) (Lib.hid h1) (Lib.hid fun h => h.elim) (Lib.hid fun h => h.elim) H7
  · have hb := less_back a1 a2 a3 a4 a5 b1 b2 b3 b4 b5 he
    have h1 := fun W => L a1 a2 a3 a4 a5 b1 b2 b3 b4 b5 W
    have h2 := fun W => rless_any a1 a2 a3 a4 a5 b1 b2 b3 b4 b5 oa.lt0 oa.lt1 ob.lt0 ob.lt1 W
    have h3 := fun W => L a1 a2 a3 a4 a5 a1 a2 a3 a4 a5 W
    have h4 := fun W => L b1 b2 b3 b4 b5 a1 a2 a3 a4 a5 W
    have h5 := fun W => L b1 b2 b3 b4 b5 c1 c2 c3 c4 c5 W
    have h6 := fun W => L a1 a2 a3 a4 a5 c1 c2 c3 c4 c5 W
    rw [less_irr] at h3
    rw [hb] at h4
    have ht := less_trans a1 a2 a3 a4 a5 b1 b2 b3 b4 b5 c1 c2 c3 c4 c5
    cases hp : lessOf a1 a2 a3 a4 a5 b1 b2 b3 b4 b5 with
    | false =>
      rw [hp] at h1 h2 h4
      exact order_no a1 a2 a3 a4 a5 b1 b2 b3 b4 b5 c1 c2 c3 c4 c5 w (Lib.hid h1) (Lib.hid h2) (Lib.hid h3) (Lib.hid h4) (Lib.hid fun h => h.elim) (Lib.hid fun h => h.elim) H7
    | true =>
      rw [hp] at h1 h2 h4
      cases hq : lessOf b1 b2 b3 b4 b5 c1 c2 c3 c4 c5 with
      | false =>
        rw [hq] at h5
        exact order_p a1 a2 a3 a4 a5 b1 b2 b3 b4 b5 c1 c2 c3 c4 c5 w (Lib.hid h1) (Lib.hid h2) (Lib.hid h3) (Lib.hid h4) (Lib.hid fun _ => h5) (Lib.hid fun h => h.elim) H7
      | true =>
        rw [hq] at h5
        rw [ht hp hq] at h6
        exact order_pq a1 a2 a3 a4 a5 b1 b2 b3 b4 b5 c1 c2 c3 c4 c5 w (Lib.hid h1) (Lib.hid h2) (Lib.hid h3) (Lib.hid h4) (Lib.hid fun _ => h5) (Lib.hid fun _ => h6) H7
end Go.Proofs.Ytpeapjnfncfjiaa
