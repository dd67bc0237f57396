/- The walk of the law DigestRests. -/
import Derived.Test.YtebjdlimboifaaaDigTexts
import Derived.Test.YtebjdlimboifaaaDigRest
import Derived.Test.YtebjdlimboifaaaModNum
namespace Go.Proofs.Ytebjdlimboifaaa
set_option linter.unusedVariables false
set_option linter.unusedSimpArgs false
open Go.RowKit Go.Lib

theorem inv_one (x y : Int) (h : 0 ≤ x) (hz : red x ≠ 0) : red (y * x * inv x) = red y := by
  rw [Int.mul_assoc, ← red_mul_r, show red (x * inv x) = 1 from inverse_red x h hz, Int.mul_one]
theorem red_ne_mul (x y : Int) (hx : red x ≠ 0) (h : 0 ≤ y) (hy : red y ≠ 0) : red (x * y) ≠ 0 := fun e => hx (by
  rw [← inv_one y x h hy, ← red_mul_l, e, Int.zero_mul]; rfl)
theorem scale_ne (l : List Int) : red (dOf l).2 ≠ 0 := by
  induction l using snocRec with
  | nil => decide +kernel
  | snoc m b ih =>
    rw [dOf_snoc]
    show red (red _) ≠ 0
    rw [red_red]
    exact red_ne_mul _ _ ih (by omega) (by decide +kernel)
theorem u_dof (l : List Int) : U (dOf l).1 ∧ U (dOf l).2 := by
  have h := red_id l
  exact ⟨⟨h.2.2.1, by omega⟩, ⟨h.2.2.2.2.1, by omega⟩⟩
theorem rest_of (l m : List Int) (w : World) : Calls Try.prog 21 #[.agg #[.int .u64 (dOf (l ++ m)).1, .int .u64 (dOf (l ++ m)).2], .agg #[.int .u64 (dOf l).1, .int .u64 (dOf l).2]] w fun e w' =>
    e = .returned (.tuple #[.agg #[.int .u64 (dOf m).1, .int .u64 (dOf m).2], .nilIface]) ∧ Below w.heap.size w w' := by
  have h := rest_ok _ _ _ _ (u_dof (l ++ m)).1 (u_dof (l ++ m)).2 (u_dof l).1 (u_dof l).2 (scale_ne l) (scale_ne _) w
  have hm := red_id m
  have e1 : red ((dOf (l ++ m)).2 * inv (dOf l).2) = (dOf m).2 := by
    rw [dOf_append]
    show red (red _ * _) = _
    rw [red_mul_l, Int.mul_comm (dOf l).2, inv_one _ _ (u_dof l).2.lo (scale_ne l), hm.2.1]
  have e2 : red ((dOf (l ++ m)).1 - red ((dOf l).1 * (dOf m).2)) = (dOf m).1 := by
    rw [dOf_append]
    show red (red _ - _) = _
    rw [red_sub_l, red_sub_r, Int.add_comm, Int.add_sub_cancel, hm.1]
  rw [e1, e2] at h
  exact h
theorem front_of (l m : List Int) (w : World) : Calls Try.prog 22 #[.agg #[.int .u64 (dOf (l ++ m)).1, .int .u64 (dOf (l ++ m)).2], .agg #[.int .u64 (dOf m).1, .int .u64 (dOf m).2]] w fun e w' =>
    e = .returned (.tuple #[.agg #[.int .u64 (dOf l).1, .int .u64 (dOf l).2], .nilIface]) ∧ Below w.heap.size w w' := by
  have h := front_ok _ _ _ _ (u_dof (l ++ m)).1 (u_dof (l ++ m)).2 (u_dof m).1 (u_dof m).2 (scale_ne m) (scale_ne _) w
  have hl := red_id l
  have e1 : red ((dOf (l ++ m)).2 * inv (dOf m).2) = (dOf l).2 := by
    rw [dOf_append]
    show red (red _ * _) = _
    rw [red_mul_l, inv_one _ _ (u_dof m).2.lo (scale_ne m), hl.2.1]
  have e2 : red (red ((dOf (l ++ m)).1 - (dOf m).1) * inv (dOf m).2) = (dOf l).1 := by
    rw [dOf_append]
    show red (red (red _ - _) * _) = _
    rw [red_sub_l, Int.add_sub_cancel, red_mul_l, inv_one _ _ (u_dof m).2.lo (scale_ne m), hl.1]
  rw [e1, e2] at h
  exact h

attribute [local go_sem ↓] Go.wp_at_zero Go.wp_at_succ
set_option maxHeartbeats 4000000 in
theorem law_rests (s t : ByteArray) (hs : s.size ≤ 9223372036854775807) (ht : t.size ≤ 9223372036854775807) (w : World) :
    Calls Try.prog 8 #[.string s, .string t] w fun e w' => e = .returned (.bool true) ∧ Below w.heap.size w w' := by
  have kc := fun (w : World) (s : ByteArray) => Lib.run_convert_string_bytes (P := Try.prog) w 9 29 5 s Try.underlying9 Try.underlying29 Try.underlying5
  obtain ⟨x, hx⟩ : ∃ x, x = cutS s := ⟨_, rfl⟩
  obtain ⟨y, hy⟩ : ∃ y, y = cutS t := ⟨_, rfl⟩
  have xs : x.size ≤ 300 := hx ▸ cutS_size s
  have ys : y.size ≤ 300 := hy ▸ cutS_size t
  have hCx := cut_any s hs
  have hCy := cut_any t ht
  rw [← hx] at hCx
  rw [← hy] at hCy
  have HX := Lib.hid hCx; have HY := Lib.hid hCy
  clear hx hy hCx hCy
  have HO : Hid (∀ (c : Nat) (A : Option Addr) (w : World), RowAt w A ((bi (x ++ y)).map (.int .u8)) → Calls Try.prog 15 #[.slice A (x.size + y.size) c] w fun e w' => e = .returned (.agg #[.int .u64 (dOf (bi x ++ bi y)).1, .int .u64 (dOf (bi x ++ bi y)).2]) ∧ Below w.heap.size w w') := Lib.hid fun c A w h => by
    have := of_str (x ++ y) (by simp; omega) c A w h
    rw [bi_append] at this
    simpa using this
  have HR := Lib.hid (rest_of (bi x) (bi y)); have HF := Lib.hid (front_of (bi x) (bi y))
  go_enter Try.func8, Try.ntmps8
  go_wp2_with fail
  (with_reducible refine (awake_any _).mono ?_)
  rintro e w1 ⟨rfl, B1⟩
  have BW1 := Lib.hid B1
  clear B1
  go_wp2_with fail
  go_wp2_with fail
  (with_reducible refine (HX.out _).mono ?_)
  rintro e w' ⟨rfl, rfl⟩
  go_wp2_with fail
  (with_reducible refine (HY.out _).mono ?_)
  rintro e w' ⟨rfl, rfl⟩
  go_wp2_with fail
  (with_reducible refine (HO.out _ _ _ (row_bytes _ (x ++ y))).mono ?_)
  rintro e w2 ⟨rfl, B2⟩
  have BW2 := Lib.hid (bkeep (bkeep BW1.out (below_bytes _ _ _)) B2)
  clear B2
  go_wp2_with fail
  (with_reducible refine (of_str x (by omega) _ _ _ (row_bytes _ x)).mono ?_)
  rintro e w3 ⟨rfl, B3⟩
  have BW3 := Lib.hid (bkeep (bkeep BW2.out (below_bytes _ _ _)) B3)
  clear B3
  go_wp2_with fail
  (with_reducible refine (of_str y (by omega) _ _ _ (row_bytes _ y)).mono ?_)
  rintro e w4 ⟨rfl, B4⟩
  have BW4 := Lib.hid (bkeep (bkeep BW3.out (below_bytes _ _ _)) B4)
  clear B4
  go_wp2_with fail
  have XA := Lib.hid (((Box.new w4 26 #[.int .u64 (dOf (bi x ++ bi y)).1, .int .u64 (dOf (bi x ++ bi y)).2]).alloc (.cells #[.int .u64 (dOf (bi x)).1, .int .u64 (dOf (bi x)).2] 26)).alloc (.cells #[.int .u64 (dOf (bi y)).1, .int .u64 (dOf (bi y)).2] 26))
  have XB := Lib.hid ((Box.new_ (w := w4.alloc (.cells #[.int .u64 (dOf (bi x ++ bi y)).1, .int .u64 (dOf (bi x ++ bi y)).2] 26)) (g := w4.heap.size + 1) (t := 26) (cs := #[.int .u64 (dOf (bi x)).1, .int .u64 (dOf (bi x)).2]) (by simp)).alloc (.cells #[.int .u64 (dOf (bi y)).1, .int .u64 (dOf (bi y)).2] 26))
  have XC := Lib.hid (Box.new_ (w := (w4.alloc (.cells #[.int .u64 (dOf (bi x ++ bi y)).1, .int .u64 (dOf (bi x ++ bi y)).2] 26)).alloc (.cells #[.int .u64 (dOf (bi x)).1, .int .u64 (dOf (bi x)).2] 26)) (g := w4.heap.size + 1 + 1) (t := 26) (cs := #[.int .u64 (dOf (bi y)).1, .int .u64 (dOf (bi y)).2]) (by simp))
  have BW4' := Lib.hid (balloc (balloc (balloc BW4.out (.cells #[.int .u64 (dOf (bi x ++ bi y)).1, .int .u64 (dOf (bi x ++ bi y)).2] 26)) (.cells #[.int .u64 (dOf (bi x)).1, .int .u64 (dOf (bi x)).2] 26)) (.cells #[.int .u64 (dOf (bi y)).1, .int .u64 (dOf (bi y)).2] 26))
  (with_reducible refine (HR.out _).mono ?_)
  rintro e w5 ⟨rfl, B5⟩
  have XA5 := XA.out.below B5 XA.out.lt; have XB5 := XB.out.below B5 XB.out.lt; have XC5 := XC.out.below B5 XC.out.lt
  have BW5 := Lib.hid (bkeep BW4'.out B5)
  have z5 : w4.heap.size + 2 < w5.heap.size := by have := B5.size; (try simp at this); omega
  clear B5
  have a0 : w5.cell? ⟨w4.heap.size, 0, none⟩ = some (.int .u64 (dOf (bi x ++ bi y)).1) := XA5.cell 0
  have a1 : w5.cell? ⟨w4.heap.size, 1, none⟩ = some (.int .u64 (dOf (bi x ++ bi y)).2) := XA5.cell 1
  have b0 : w5.cell? ⟨w4.heap.size + 1, 0, none⟩ = some (.int .u64 (dOf (bi x)).1) := XB5.cell 0
  have b1 : w5.cell? ⟨w4.heap.size + 1, 1, none⟩ = some (.int .u64 (dOf (bi x)).2) := XB5.cell 1
  have c0 : w5.cell? ⟨w4.heap.size + 1 + 1, 0, none⟩ = some (.int .u64 (dOf (bi y)).1) := XC5.cell 0
  have c1 : w5.cell? ⟨w4.heap.size + 1 + 1, 1, none⟩ = some (.int .u64 (dOf (bi y)).2) := XC5.cell 1
  have q0 : w4.heap.size < w5.heap.size := by omega
  have q1 : w4.heap.size + 1 < w5.heap.size := by omega
  have q2 : w4.heap.size + 1 + 1 < w5.heap.size := by omega
  have YA := Lib.hid XA5; have YB := Lib.hid XB5; have YC := Lib.hid XC5
  clear XA5 XB5 XC5
  go_wp2_with fail
  have YR := Lib.hid (Box.new w5 26 #[.int .u64 (dOf (bi y)).1, .int .u64 (dOf (bi y)).2])
  (with_reducible refine (HF.out _).mono ?_)
  rintro e w6 ⟨rfl, B6⟩
  have r6 := YR.out.below B6 (by simp); have b6 := (YB.out.alloc _).below B6 (by simp; omega); have c6 := (YC.out.alloc _).below B6 (by simp; omega)
  have BW6 := Lib.hid (bkeep (balloc BW5.out _) B6)
  clear B6
  have r0 : w6.cell? ⟨w5.heap.size, 0, none⟩ = some (.int .u64 (dOf (bi y)).1) := r6.cell 0
  have r1 : w6.cell? ⟨w5.heap.size, 1, none⟩ = some (.int .u64 (dOf (bi y)).2) := r6.cell 1
  have b0 : w6.cell? ⟨w4.heap.size + 1, 0, none⟩ = some (.int .u64 (dOf (bi x)).1) := b6.cell 0
  have b1 : w6.cell? ⟨w4.heap.size + 1, 1, none⟩ = some (.int .u64 (dOf (bi x)).2) := b6.cell 1
  have c0 : w6.cell? ⟨w4.heap.size + 1 + 1, 0, none⟩ = some (.int .u64 (dOf (bi y)).1) := c6.cell 0
  have c1 : w6.cell? ⟨w4.heap.size + 1 + 1, 1, none⟩ = some (.int .u64 (dOf (bi y)).2) := c6.cell 1
  have q3 := r6.lt; have q4 := b6.lt; have q5 := c6.lt
  clear r6 b6 c6
  go_wp2_with fail
  go_ret
  exact ⟨rfl, balloc BW6.out _⟩
end Go.Proofs.Ytebjdlimboifaaa
