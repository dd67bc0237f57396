/- The walks of evergreenref06.Unit, Of, and weight.Letter. -/
import Derived.Test.YtolhjkpekmmajaaWgtOf
import Derived.Test.YtolhjkpekmmajaaWgtRef
namespace Go.Proofs.Ytolhjkpekmmajaa
set_option linter.unusedVariables false
set_option linter.unusedSimpArgs false
open Go.RowKit Go.Lib

def wL (b : Int) : Wt := wOf [b]
theorem wOf_ten : wL 10 = ⟨1, 1, 0, 0, 11, 1103515245⟩ := by
  unfold wL wOf wk dOf
  simp [wstep, dStep]
  decide +kernel
theorem wOf_one (b : Int) (b0 : 0 ≤ b) (b1 : b ≤ 255) (hb : b ≠ 10) : wL b = ⟨1, 0, 1, 1, b + 1, 1103515245⟩ := by
  unfold wL wOf wk dOf
  have h1 : red (b + 1) = b + 1 := red_small _ (by omega) (by omega)
  simp [wstep, dStep, hb, h1]
  decide +kernel
set_option maxHeartbeats 2000000 in
theorem wletter_any (b : Int) (b0 : 0 ≤ b) (b1 : b ≤ 255) (w : World) : Calls Try.prog 77 #[.int .u8 b] w fun e w' => e = .returned (.agg #[.int .i64 (wL b).n, .int .i64 (wL b).l, .int .i64 (wL b).h, .int .i64 (wL b).t, .int .u64 (wL b).v, .int .u64 (wL b).s]) ∧ Below w.heap.size w w' := by
  by_cases hb : b = 10
  · subst hb
    rw [wOf_ten]
    go_enter Try.func77, Try.ntmps77
    go_wp2_with fail
    (with_reducible refine (letter_any 10 (by omega) (by omega) _).mono ?_)
    rintro e w1 ⟨rfl, B1⟩
    have PR : Box w1 w.heap.size 110 #[.int .i64 0, .int .i64 0, .int .i64 0, .int .i64 0, .int .u64 0, .int .u64 0] := (Box.new w _ _).below B1 (by simp)
    have BW := bkeep (balloc (Below.refl _ _) _) B1
    have y0 := PR.cell 0; have y1 := PR.cell 1; have y2 := PR.cell 2; have y3 := PR.cell 3; have y4 := PR.cell 4; have y5 := PR.cell 5
    simp only [List.getElem?_toArray, List.getElem?_cons_zero, List.getElem?_cons_succ] at y0 y1 y2 y3 y4 y5
    have f0 := PR.free 0; have f1 := PR.free 1; have f2 := PR.free 2; have f3 := PR.free 3; have f4 := PR.free 4; have f5 := PR.free 5
    have HBW := Lib.hid BW
    clear B1 PR BW
    go_wp2_with fail
    refine bodyPost_ret (v := .agg #[.int .i64 1, .int .i64 1, .int .i64 0, .int .i64 0, .int .u64 11, .int .u64 1103515245]) ?_ rfl ⟨rfl, ?_⟩
    · simp only [results, Try.results77]
      simp [go_sem, y0, y1, y2, y3, y4, y5]
    · exact (((((HBW.out.setCell (by simp) _).setCell (by simp) _).setCell (by simp) _).setCell (by simp) _).setCell (by simp) _).setCell (by simp) _
  · have hb' : (b == 10) = false := by rw [beq_eq_false_iff_ne]; exact hb
    rw [wOf_one b b0 b1 hb]
    clear hb
    go_enter Try.func77, Try.ntmps77
    go_wp2_with fail
    (with_reducible refine (letter_any b b0 b1 _).mono ?_)
    rintro e w1 ⟨rfl, B1⟩
    have PR : Box w1 w.heap.size 110 #[.int .i64 0, .int .i64 0, .int .i64 0, .int .i64 0, .int .u64 0, .int .u64 0] := (Box.new w _ _).below B1 (by simp)
    have BW := bkeep (balloc (Below.refl _ _) _) B1
    have y0 := PR.cell 0; have y1 := PR.cell 1; have y2 := PR.cell 2; have y3 := PR.cell 3; have y4 := PR.cell 4; have y5 := PR.cell 5
    simp only [List.getElem?_toArray, List.getElem?_cons_zero, List.getElem?_cons_succ] at y0 y1 y2 y3 y4 y5
    have f0 := PR.free 0; have f1 := PR.free 1; have f2 := PR.free 2; have f3 := PR.free 3; have f4 := PR.free 4; have f5 := PR.free 5
    have HBW := Lib.hid BW
    clear B1 PR BW
    go_wp2_with fail
    refine bodyPost_ret (v := .agg #[.int .i64 1, .int .i64 0, .int .i64 1, .int .i64 1, .int .u64 (b + 1), .int .u64 1103515245]) ?_ rfl ⟨rfl, ?_⟩
    · simp only [results, Try.results77]
      simp [go_sem, y0, y1, y2, y3, y4, y5]
    · exact (((((HBW.out.setCell (by simp) _).setCell (by simp) _).setCell (by simp) _).setCell (by simp) _).setCell (by simp) _).setCell (by simp) _

theorem dOf_take (l : List Int) (k : Nat) (hk : k < l.length) (V S : Int) (h : (V, S) = dOf (l.take k)) : dOf (l.take (k + 1)) = (red (red (V * 1103515245) + l[k] + 1), red (S * 1103515245)) := by
  rw [List.take_succ_eq_append_getElem hk, dOf_snoc, ← h]
  unfold dStep
  refine Prod.ext ?_ rfl
  simp only
  rw [Int.add_assoc (red _), red_add_l]

attribute [local go_sem ↓] Go.wp_at_zero Go.wp_at_succ
end Go.Proofs.Ytolhjkpekmmajaa
