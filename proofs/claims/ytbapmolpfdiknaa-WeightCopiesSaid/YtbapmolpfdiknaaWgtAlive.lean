/- The walk of evergreenlaw06's fixed example, and of the law WeightValid. -/
import Derived.Test.YtbapmolpfdiknaaWgtOf
import Derived.Test.YtbapmolpfdiknaaWgtRef
import Derived.Lib.SlBytesConst
import Derived.Laws.StructEq
namespace Go.Proofs.Ytbapmolpfdiknaa
set_option linter.unusedVariables false
set_option linter.unusedSimpArgs false
open Go.RowKit Go.Lib
theorem wvalid_w (x : Wt) (h : WOk x) (w : World) : Calls Try.prog 12 #[.agg #[.int .i64 x.n, .int .i64 x.l, .int .i64 x.h, .int .i64 x.t, .int .u64 x.v, .int .u64 x.s]] w fun e w' => e = .returned (.bool (vB x.n x.l x.h x.t x.v x.s)) ∧ Below w.heap.size w w' :=
  wvalid_any _ _ _ _ _ _ h.n0 h.n1 h.l0 h.l1 h.h0 h.h1 h.t0 h.t1 h.uv h.us w
theorem rvalid_w (x : Wt) (h : WOk x) (w : World) : Calls Try.prog 13 #[.agg #[.int .i64 x.n, .int .i64 x.l, .int .i64 x.h, .int .i64 x.t, .int .u64 x.v, .int .u64 x.s]] w fun e w' => e = .returned (.bool (vB x.n x.l x.h x.t x.v x.s)) ∧ Below w.heap.size w w' :=
  rvalid_any _ _ _ _ _ _ h.n0 h.n1 h.l0 h.l1 h.h0 h.h1 h.t0 h.t1 h.uv h.us w

attribute [local go_sem ↓] Go.wp_at_zero Go.wp_at_succ
set_option maxHeartbeats 2000000 in
theorem alive_of (V S : Int) (w : World)
    (O : Hid (∀ (c : Nat) (A : Option Addr) (w : World), RowAt w A (vb [97, 10, 98, 99]) → Calls Try.prog 14 #[.slice A 4 c] w fun e w' => e = .returned (.agg #[.int .i64 4, .int .i64 1, .int .i64 1, .int .i64 2, .int .u64 V, .int .u64 S]) ∧ Below w.heap.size w w'))
    (VL : Hid (∀ w : World, Calls Try.prog 12 #[.agg #[.int .i64 4, .int .i64 1, .int .i64 1, .int .i64 2, .int .u64 V, .int .u64 S]] w fun e w' => e = .returned (.bool true) ∧ Below w.heap.size w w')) :
    Calls Try.prog 11 #[] w fun e w' => e = .returned (.bool true) ∧ Below w.heap.size w w' := by
  have kc := fun (w : World) (C : Array Value) (n c : Nat) => Lib.run_convert_bytes_const (P := Try.prog) w 29 5 C n c Try.underlying29 Try.underlying5
  go_enter Try.func11, Try.ntmps11
  go_wp2_with fail
  (with_reducible refine (O.out _ _ _ ?ro).mono ?_)
  case ro => exact RowAt.of_block (heap_alloc_new _ _)
  rintro e w1 ⟨rfl, B1⟩
  have BW := Lib.hid (bkeep (balloc (Below.refl _ _) _) B1)
  clear B1
  go_wp2_with fail
  (with_reducible refine (VL.out _).mono ?_)
  rintro e w2 ⟨rfl, B2⟩
  have BW2 := Lib.hid (bkeep (balloc BW.out _) B2)
  clear B2
  go_wp2_with fail
  (with_reducible refine (wunit_any _).mono ?_)
  rintro e w3 ⟨rfl, B3⟩
  have BW3 := Lib.hid (bkeep BW2.out B3)
  clear B3
  have kf : ∀ w, (Instr.field 26 (.agg #[.int .i64 0, .int .i64 0, .int .i64 0, .int .i64 0, .int .u64 0, .int .u64 1]) 4).run Try.prog w = .ok (.agg #[.int .u64 0, .int .u64 1]) w := fun _ => by kernel_rfl
  have kf2 : ∀ w, (Instr.field 24 (.agg #[.int .u64 0, .int .u64 1]) 1).run Try.prog w = .ok (.int .u64 1) w := fun _ => by kernel_rfl
  go_wp2_with fail
  go_ret
  exact ⟨rfl, BW3.out⟩
theorem alive_any (w : World) : Calls Try.prog 11 #[] w fun e w' => e = .returned (.bool true) ∧ Below w.heap.size w w' := by
  have hv := wOf_vB [97, 10, 98, 99] (by decide)
  have hok := wOf_ok [97, 10, 98, 99] (by decide)
  refine alive_of (dOf [97, 10, 98, 99]).1 (dOf [97, 10, 98, 99]).2 w (Lib.hid fun c A w h => ?_) (Lib.hid fun w => ?_)
  · exact wof_any [97, 10, 98, 99] 4 c A rfl (by omega) (by intro x hx; simp at hx; omega) w h
  · have h := wvalid_w _ hok w
    rw [hv] at h
    exact h
set_option maxHeartbeats 2000000 in
theorem law_valid (x : Wt) (hx : WOk x) (w : World) : Calls Try.prog 3 #[.agg #[.int .i64 x.n, .int .i64 x.l, .int .i64 x.h, .int .i64 x.t, .int .u64 x.v, .int .u64 x.s]] w fun e w' => e = .returned (.bool true) ∧ Below w.heap.size w w' := by
  have h1 := wvalid_w x hx; have h2 := rvalid_w x hx
  generalize vB x.n x.l x.h x.t x.v x.s = b at h1 h2
  have H1 := Lib.hid h1; have H2 := Lib.hid h2
  have HP := Lib.hid (Box.new w 26 #[.int .i64 x.n, .int .i64 x.l, .int .i64 x.h, .int .i64 x.t, .int .u64 x.v, .int .u64 x.s])
  clear h1 h2
  go_enter Try.func3, Try.ntmps3
  go_upto_region 1 with fail
  refine region_lin (.val (fun v _ => v = .bool true) :: .val (fun v _ => v = .bool true) :: .val (fun v _ => v = .agg #[.int .i64 x.n, .int .i64 x.l, .int .i64 x.h, .int .i64 x.t, .int .u64 x.v, .int .u64 x.s]) :: .val (fun v _ => v = .bool b) :: .val (fun v _ => v = .agg #[.int .i64 x.n, .int .i64 x.l, .int .i64 x.h, .int .i64 x.t, .int .u64 x.v, .int .u64 x.s]) :: .val (fun v _ => v = .bool b) :: .val (fun v _ => v = .bool true) :: .val (fun v _ => v = .bool true) :: .val (fun v _ => v = .bool true) :: [])
    ([] :: [(3, 0)] :: [(4, 1)] :: [(5, 2), (4, 1)] :: [(4, 1)] :: [(7, 4), (4, 1)] :: [(6, 3), (8, 5), (4, 1)] :: [(4, 1), (9, 6)] :: [(10, 7)] :: []) ((0, 0) :: (0, 0) :: (0, 0) :: (0, 0) :: (0, 0) :: (0, 0) :: (0, 0) :: (0, 0) :: (0, 0) :: []) 11 (by kernel_rfl) rfl rfl (by kernel_rfl) ⟨Stab.pure _ _ _, Stab.pure _ _ _, Stab.pure _ _ _, Stab.pure _ _ _, Stab.pure _ _ _, Stab.pure _ _ _, Stab.pure _ _ _, Stab.pure _ _ _, Stab.pure _ _ _, trivial⟩ ⟨?_, ?_, ?_, ?_, ?_, ?_, ?_, ?_, ?_, trivial⟩ ?_
  · intro wx hb
    intro K hK
    go_simp
    (with_reducible refine (alive_any _).mono ?_)
    rintro e wa ⟨rfl, Ba⟩
    exact hK _ _ rfl ⟨rfl, Ba⟩
  · intro wx hb
    rintro _ rfl
    intro K hK
    go_simp
    exact hK _ _ rfl ⟨rfl, Below.refl _ _⟩
  · intro wx hb
    rintro _ rfl
    refine ⟨fun _ => ?_, fun h => absurd (show true = false from h) (by decide)⟩
    intro K hK
    have mm := Box.below (HP.out) hb (Box.lt (HP.out))
    have m0 : wx.cell? ⟨w.heap.size, 0, none⟩ = some (.int .i64 x.n) := mm.cell 0
    have m1 : wx.cell? ⟨w.heap.size, 1, none⟩ = some (.int .i64 x.l) := mm.cell 1
    have m2 : wx.cell? ⟨w.heap.size, 2, none⟩ = some (.int .i64 x.h) := mm.cell 2
    have m3 : wx.cell? ⟨w.heap.size, 3, none⟩ = some (.int .i64 x.t) := mm.cell 3
    have m4 : wx.cell? ⟨w.heap.size, 4, none⟩ = some (.int .u64 x.v) := mm.cell 4
    have m5 : wx.cell? ⟨w.heap.size, 5, none⟩ = some (.int .u64 x.s) := mm.cell 5
    clear mm
    go_simp
    exact hK _ _ rfl ⟨rfl, Below.refl _ _⟩
  · intro wx hb
    rintro _ rfl
    rintro _ rfl
    refine ⟨fun _ => ?_, fun h => absurd (show true = false from h) (by decide)⟩
    intro K hK
    go_simp
    (with_reducible refine (H1.out _).mono ?_)
    rintro e wa ⟨rfl, Ba⟩
    exact hK _ _ rfl ⟨rfl, Ba⟩
  · intro wx hb
    rintro _ rfl
    refine ⟨fun _ => ?_, fun h => absurd (show true = false from h) (by decide)⟩
    intro K hK
    have mm := Box.below (HP.out) hb (Box.lt (HP.out))
    have m0 : wx.cell? ⟨w.heap.size, 0, none⟩ = some (.int .i64 x.n) := mm.cell 0
    have m1 : wx.cell? ⟨w.heap.size, 1, none⟩ = some (.int .i64 x.l) := mm.cell 1
    have m2 : wx.cell? ⟨w.heap.size, 2, none⟩ = some (.int .i64 x.h) := mm.cell 2
    have m3 : wx.cell? ⟨w.heap.size, 3, none⟩ = some (.int .i64 x.t) := mm.cell 3
    have m4 : wx.cell? ⟨w.heap.size, 4, none⟩ = some (.int .u64 x.v) := mm.cell 4
    have m5 : wx.cell? ⟨w.heap.size, 5, none⟩ = some (.int .u64 x.s) := mm.cell 5
    clear mm
    go_simp
    exact hK _ _ rfl ⟨rfl, Below.refl _ _⟩
  · intro wx hb
    rintro _ rfl
    rintro _ rfl
    refine ⟨fun _ => ?_, fun h => absurd (show true = false from h) (by decide)⟩
    intro K hK
    go_simp
    (with_reducible refine (H2.out _).mono ?_)
    rintro e wa ⟨rfl, Ba⟩
    exact hK _ _ rfl ⟨rfl, Ba⟩
  · intro wx hb
    rintro _ rfl
    rintro _ rfl
    rintro _ rfl
    refine ⟨fun _ => ?_, fun h => absurd (show true = false from h) (by decide)⟩
    intro K hK
    go_simp
    exact hK _ _ rfl ⟨rfl, Below.refl _ _⟩
  · intro wx hb
    rintro _ rfl
    rintro _ rfl
    intro K hK
    go_simp
    exact hK _ _ rfl ⟨rfl, Below.refl _ _⟩
  · intro wx hb
    rintro _ rfl
    intro K hK
    go_simp
    exact hK _ _ rfl ⟨rfl, Below.refl _ _⟩
  intro w1 B1
  rintro _ rfl
  rintro _ rfl
  rintro _ rfl
  rintro _ rfl
  rintro _ rfl
  rintro _ rfl
  rintro _ rfl
  rintro _ rfl
  rintro _ rfl
  rintro -
  simp only [Act.put, List.setIfInBounds_toArray, List.set_cons_zero, List.set_cons_succ, List.toList_toArray, List.length_cons, List.length_nil, List.drop_succ_cons, List.drop_zero, List.drop_nil, Nat.zero_add, wpList]
  go_wp2_with fail
  go_ret
  exact ⟨rfl, bkeep (balloc (Below.refl _ _) _) B1⟩
end Go.Proofs.Ytbapmolpfdiknaa
