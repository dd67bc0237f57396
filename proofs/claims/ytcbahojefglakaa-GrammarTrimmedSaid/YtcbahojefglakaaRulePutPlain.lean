/- A rule's bytes; Put of numbers at an int. -/
import Derived.Test.YtcbahojefglakaaRuleCheck
import Derived.Test.YtcbahojefglakaaVarint
namespace Go.Proofs.Ytcbahojefglakaa
set_option linter.unusedVariables false
set_option linter.unusedSimpArgs false
open Go.RowKit Go.Lib
def encR (kd lt lf rg tm n : Int) : List Int :=
  if kd = 1 then [1, lt] else if kd = 2 then ([2] ++ vput (n - lf).toNat) ++ vput (n - rg).toNat else ([3] ++ vput (n - lf).toNat) ++ vput (tm - 2).toNat
theorem vput_i (x : Int) (h0 : 0 ≤ x) (h1 : x < 18446744073709551616) (w : World) : Calls Try.prog 53 #[.int .u64 x] w (SliceOut w (vput x.toNat).length (vb (vput x.toNat))) := by
  have := vput_any x.toNat (by omega) w
  rwa [Int.toNat_of_nonneg h0] at this
theorem own_lit (w : World) (l : List Int) (h : l.length ≤ maxLen) : (w.alloc (.cells (vb l).toArray 5)).ownsRow w.heap.size 5 1 (.slice (some ⟨w.heap.size, 0, none⟩) l.length l.length) l.length (vb l) :=
  ⟨by simp [vb], .inr ⟨w.heap.size, l.length, (vb l).toArray, rfl, Nat.le_refl _, heap_alloc_new w _, Nat.le_refl _, h, by simp [vb], by simp [vb, List.take_of_length_le]⟩⟩
theorem balloc' {B : Nat} {a w : World} (h : Below B a w) (hs : B ≤ w.heap.size) (o : Obj) : Below B a (w.alloc o) := h.alloc hs o
theorem check_zero {kd lt lf rg tm n : Int} (h : checkCode kd lt lf rg tm n = 0) : formedB kd lt lf rg tm = true ∧ rangedB (refsOf kd lf rg) n = true := by
  unfold checkCode at h
  cases f : formedB kd lt lf rg tm with
  | false => rw [f] at h; simp at h
  | true =>
    rw [f, if_pos rfl] at h
    unfold placeCode at h
    cases r : rangedB (refsOf kd lf rg) n with
    | false => rw [r] at h; simp at h
    | true => exact ⟨rfl, rfl⟩
theorem check_of {kd lt lf rg tm n : Int} (f : formedB kd lt lf rg tm = true) (r : rangedB (refsOf kd lf rg) n = true) : checkCode kd lt lf rg tm n = 0 := by
  unfold checkCode placeCode; rw [f, r]; rfl
/-- a valid rule's ways -/
theorem valid_way {kd lt lf rg tm n : Int} (h : checkCode kd lt lf rg tm n = 0) :
    1 ≤ n ∧ ((kd = 1 ∧ lf = 0 ∧ rg = 0 ∧ tm = 0) ∨ (kd = 2 ∧ lt = 0 ∧ tm = 0 ∧ 1 ≤ lf ∧ lf ≤ n - 1 ∧ 1 ≤ rg ∧ rg ≤ n - 1) ∨ (kd = 3 ∧ lt = 0 ∧ rg = 0 ∧ 2 ≤ tm ∧ 1 ≤ lf ∧ lf ≤ n - 1)) := by
  obtain ⟨f, r⟩ := check_zero h
  unfold rangedB at r
  simp only [Bool.and_eq_true, decide_eq_true_eq] at r
  refine ⟨r.1, ?_⟩
  have r2 := r.2
  unfold formedB at f
  by_cases h1 : kd = 1
  · rw [if_pos h1] at f
    simp at f
    exact .inl ⟨h1, f.1.1, f.1.2, f.2⟩
  · rw [if_neg h1] at f
    by_cases h2 : kd = 2
    · rw [if_pos h2] at f
      simp at f
      simp [refsOf, h2, inB] at r2
      exact .inr (.inl ⟨h2, f.1, f.2, r2.1.1, r2.1.2, r2.2.1, r2.2.2⟩)
    · rw [if_neg h2] at f
      by_cases h3 : kd = 3
      · rw [if_pos h3] at f
        simp at f
        simp [refsOf, h3, inB] at r2
        exact .inr (.inr ⟨h3, f.1.1, f.1.2, f.2, r2.1, r2.2⟩)
      · rw [if_neg h3] at f; cases f
end Go.Proofs.Ytcbahojefglakaa
