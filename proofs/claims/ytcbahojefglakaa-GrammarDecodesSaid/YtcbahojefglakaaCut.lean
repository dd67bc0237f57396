/- A slice of bytes cut at its front. -/
import Derived.Test.YtcbahojefglakaaOwnB
namespace Go.Proofs.Ytcbahojefglakaa
set_option linter.unusedVariables false
set_option linter.unusedSimpArgs false
open Go.RowKit Go.Lib
theorem u8_one : Try.prog.cellsOf 5 = 1 := by kernel_rfl
theorem row_drop {w : World} {A : Option Addr} {xs : List Value} (h : RowAt w A xs) (k : Nat) : RowAt w (A.map (·.add k)) (xs.drop k) := fun i u hu => by
  rw [List.getElem?_drop] at hu
  obtain ⟨a2, e, hc⟩ := h (k + i) u hu
  subst e
  exact ⟨_, rfl, by rw [add_add_]; exact hc⟩
theorem row_take {w : World} {A : Option Addr} {xs : List Value} (h : RowAt w A xs) (k : Nat) : RowAt w A (xs.take k) := fun i u hu => by
  rw [List.getElem?_take] at hu
  split at hu
  · exact h i u hu
  · cases hu
theorem cut_ex (xs : List Value) (A : Option Addr) (n c k : Nat) (x : Int) (hx : x = (k : Int)) (hk : k ≤ n) (hc : n ≤ c) (hl : xs.length = n) :
    ∃ A', (∀ w, (Instr.slice 27 (.slice A n c) (some (.int .i64 x)) none none).run Try.prog w = .ok (.slice A' (n - k) (c - k)) w) ∧ ∀ w, RowAt w A xs → RowAt w A' (xs.drop k) := by
  subst hx
  refine ⟨if c = k then A else A.map (·.add k), fun w => ?_, fun w h => ?_⟩
  · have := run_slice_l (P := Try.prog) (w := w) 27 A n c (by kernel_rfl) .i64 (k : Int) (by omega) (by omega)
    rw [this]
    have hs : (sizeOf (Try.prog.elem 27)).run Try.prog w = .ok 1 w := by kernel_rfl
    rw [hs]
    simp [Result.andThen, sliced]
  · by_cases e : c = k
    · have : xs.drop k = [] := List.drop_eq_nil_of_le (by omega)
      rw [this]; exact RowAt.nil _ _
    · rw [if_neg e]; exact row_drop h k
theorem cut_hi (A : Option Addr) (n c k : Nat) (x : Int) (hx : x = (k : Int)) (hk : k ≤ c) (w : World) :
    (Instr.slice 27 (.slice A n c) none (some (.int .i64 x)) none).run Try.prog w = .ok (.slice A k c) w := by
  subst hx
  have h2 : ¬ (c < k) := by omega
  simp [Instr.slice, sliced, h2, go_sem]
end Go.Proofs.Ytcbahojefglakaa
