/- The walk of the law RuleMoves. -/
import Derived.Test.YtpeapjnfncfjiaaRuleMove
import Derived.Laws.StructEq
namespace Go.Proofs.Ytpeapjnfncfjiaa
set_option linter.unusedVariables false
set_option linter.unusedSimpArgs false
open Go.RowKit Go.Lib

set_option maxHeartbeats 2000000 in
theorem law_moves_of (kd lt lf rg tm K L X Y T c : Int) (len cap : Nat) (A : Option Addr) (to : List Int) (w : World) (ht : RowAt w A (vi to))
    (H1 : Hid (∀ W, RowAt W A (vi to) → Calls Try.prog 15 #[.agg #[.int .i64 kd, .int .u8 lt, .int .i64 lf, .int .i64 rg, .int .i64 tm], .slice A len cap] W fun e w' => e = .returned (.tuple #[.agg #[.int .i64 K, .int .u8 L, .int .i64 X, .int .i64 Y, .int .i64 T], errv c]) ∧ Below W.heap.size W w'))
    (H2 : Hid (∀ W, RowAt W A (vi to) → Calls Try.prog 16 #[.agg #[.int .i64 kd, .int .u8 lt, .int .i64 lf, .int .i64 rg, .int .i64 tm], .slice A len cap] W fun e w' => e = .returned (.tuple #[.agg #[.int .i64 K, .int .u8 L, .int .i64 X, .int .i64 Y, .int .i64 T], .int .i64 c]) ∧ Below W.heap.size W w')) :
    Calls Try.prog 4 #[.agg #[.int .i64 kd, .int .u8 lt, .int .i64 lf, .int .i64 rg, .int .i64 tm], .slice A len cap] w fun e w' => e = .returned (.bool true) ∧ Below w.heap.size w w' := by
  have M3 : ∀ W, ∀ A c, RowAt W A (vi [0, 7, 9]) → Calls Try.prog 15 #[.agg #[.int .i64 3, .int .u8 0, .int .i64 2, .int .i64 0, .int .i64 3], .slice A 3 c] W fun e w' => e = .returned (.tuple #[.agg #[.int .i64 3, .int .u8 0, .int .i64 9, .int .i64 0, .int .i64 3], .nilIface]) ∧ Below W.heap.size W w' := fun W A c h => move_any 3 0 2 0 3 3 c A [0, 7, 9] rfl (by omega) W h
  have H3 := Lib.hid M3
  clear M3
  go_enter Try.func4, Try.ntmps4
  go_wp2_with fail
  (with_reducible refine (H1.out _ ?_).mono ?_)
  · exact ht.below ((Below.refl _ _).alloc (Nat.le_refl _) _) (Nat.le_refl _)
  rintro e w1 ⟨rfl, B1⟩
  have bw1 : Below w.heap.size w w1 := ((Below.refl _ _).alloc (Nat.le_refl _) _).trans (B1.mono (by simp))
  have z1 : w.heap.size < w1.heap.size := by have hz := B1.size; simp at hz; omega
  obtain ⟨q1, _⟩ := bcell B1
  have HB1 := Lib.hid bw1; have C1 := Lib.hid B1
  clear bw1 B1
  go_wp2_with fail
  (with_reducible refine (H2.out _ ?_).mono ?_)
  · exact ht.below (HB1.out.alloc (by omega) _) (Nat.le_refl _)
  rintro e w2 ⟨rfl, B2⟩
  have z2 : w1.heap.size < w2.heap.size := by have hz := B2.size; simp at hz; omega
  have X2 := Lib.hid ((Box.new w1 _ _).below B2 (by simp))
  have HB2 := Lib.hid ((HB1.out.alloc (by omega) _).trans (B2.mono (by simp; omega)))
  clear B2 q1
  go_wp2_with fail
  (with_reducible refine (H3.out _ _ _ ?_).mono ?_)
  · exact RowAt.new _ _ _ (by simp) rfl
  rintro e w3 ⟨rfl, B3⟩
  have z3 : w2.heap.size + 1 < w3.heap.size := by have hz := B3.size; simp at hz; omega
  have X3 := ((X2.out.alloc _).alloc _).below B3 (by simp; omega)
  have Y3 := ((Box.new w2 _ _).alloc _).below B3 (by simp; omega)
  have HB3 := Lib.hid (((HB2.out.alloc (by omega) _).alloc (by simp; omega) _).trans (B3.mono (by simp; omega)))
  have x0 := fun o => (X3.alloc o).cell 0; have x1 := fun o => (X3.alloc o).cell 1; have x2 := fun o => (X3.alloc o).cell 2; have x3 := fun o => (X3.alloc o).cell 3; have x4 := fun o => (X3.alloc o).cell 4
  have y0 := fun o => (Y3.alloc o).cell 0; have y1 := fun o => (Y3.alloc o).cell 1; have y2 := fun o => (Y3.alloc o).cell 2; have y3 := fun o => (Y3.alloc o).cell 3; have y4 := fun o => (Y3.alloc o).cell 4
  clear B3 X3 Y3
  simp only [List.getElem?_toArray, List.getElem?_cons_zero, List.getElem?_cons_succ] at x0 x1 x2 x3 x4 y0 y1 y2 y3 y4
  go_wp2_with fail
  (with_reducible refine (num_any _ _).mono ?_)
  rintro e w4 ⟨rfl, rfl⟩
  go_wp2_with fail
  go_ret
  exact ⟨rfl, HB3.out.alloc (by omega) _⟩

theorem law_moves (kd lt lf rg tm : Int) (len cap : Nat) (A : Option Addr) (to : List Int) (hto : to.length = len) (hlen : len ≤ 9223372036854775807) (w : World) (ht : RowAt w A (vi to)) :
    Calls Try.prog 4 #[.agg #[.int .i64 kd, .int .u8 lt, .int .i64 lf, .int .i64 rg, .int .i64 tm], .slice A len cap] w fun e w' => e = .returned (.bool true) ∧ Below w.heap.size w w' := by
  have M1 := fun W h => move_any kd lt lf rg tm len cap A to hto hlen W h
  have M2 := fun W h => rmove_any kd lt lf rg tm len cap A to hto hlen W h
  cases hok : mvOk (refsOf kd lf rg) to.length
  · have hv : mvVal kd lt lf rg tm to = .agg #[.int .i64 0, .int .u8 0, .int .i64 0, .int .i64 0, .int .i64 0] := by unfold mvVal; rw [hok]; rfl
    rw [hv] at M1 M2
    exact law_moves_of kd lt lf rg tm _ _ _ _ _ _ len cap A to w ht M1 M2
  · have hv : mvVal kd lt lf rg tm to = .agg #[.int .i64 kd, .int .u8 lt, .int .i64 (mvL kd lf to), .int .i64 (mvR kd rg to), .int .i64 tm] := by unfold mvVal; rw [if_pos hok]
    rw [hv] at M1 M2
    exact law_moves_of kd lt lf rg tm _ _ _ _ _ _ len cap A to w ht M1 M2
end Go.Proofs.Ytpeapjnfncfjiaa
