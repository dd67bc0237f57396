/- The walks of weight.Repeat, and of evergreenref06.times, Repeat. -/
import Derived.Test.YtcbahojefglakaaWgtRepPlain
import Derived.Test.YtcbahojefglakaaWgtJoin3
import Derived.Test.YtcbahojefglakaaWgtROf
namespace Go.Proofs.Ytcbahojefglakaa
set_option linter.unusedVariables false
set_option linter.unusedSimpArgs false
open Go.RowKit Go.Lib
attribute [local go_sem ↓] Go.wp_at_zero Go.wp_at_succ
theorem two_ (w : World) (a : Wt) (t : TypeId) (z : Array Value) :
    Box ((w.alloc (.cells #[.int .i64 a.n, .int .i64 a.l, .int .i64 a.h, .int .i64 a.t, .int .u64 a.v, .int .u64 a.s] t)).alloc (.cells z t)) w.heap.size t #[.int .i64 a.n, .int .i64 a.l, .int .i64 a.h, .int .i64 a.t, .int .u64 a.v, .int .u64 a.s] ∧ Box ((w.alloc (.cells #[.int .i64 a.n, .int .i64 a.l, .int .i64 a.h, .int .i64 a.t, .int .u64 a.v, .int .u64 a.s] t)).alloc (.cells z t)) (w.heap.size + 1) t z ∧ Below w.heap.size w ((w.alloc (.cells #[.int .i64 a.n, .int .i64 a.l, .int .i64 a.h, .int .i64 a.t, .int .u64 a.v, .int .u64 a.s] t)).alloc (.cells z t)) :=
  ⟨(Box.new w _ _).alloc _, Box.new_ (by simp), balloc (balloc (Below.refl _ _) _) _⟩
theorem lenmul_yes (a k : Int) (a0 : 0 ≤ a) (a1 : a ≤ 1152921504606846976) (k0 : 0 ≤ k) (h : a * k ≤ 1152921504606846976) (w : World) : Calls Try.prog 67 #[.int .i64 a, .int .i64 k] w fun e w' => e = .returned (.tuple #[.int .i64 (a * k), .nilIface]) ∧ w = w' := by
  have := lenmul_any a k w
  rwa [show lenMul a k = (a * k, 0) by unfold lenMul; simp [vld_yes a a0 a1, k0, h]] at this
theorem lenmul_long (a k : Int) (a0 : 0 ≤ a) (a1 : a ≤ 1152921504606846976) (k0 : 0 ≤ k) (h : ¬ a * k ≤ 1152921504606846976) (w : World) : Calls Try.prog 67 #[.int .i64 a, .int .i64 k] w fun e w' => e = .returned (.tuple #[.int .i64 0, .iface 50 (.int .i64 2)]) ∧ w = w' := by
  have := lenmul_any a k w
  rwa [show lenMul a k = (0, 2) by unfold lenMul; simp [vld_yes a a0 a1, k0, h]] at this
set_option maxRecDepth 100000 in
set_option maxHeartbeats 4000000 in
theorem wrep_bad (a : Wt) (k : Int) (ha : WOk a) (k0 : -9223372036854775808 ≤ k) (k1 : k ≤ 9223372036854775807) (ea : vW a = false)  (w : World) :
    Calls Try.prog 61 #[.agg #[.int .i64 a.n, .int .i64 a.l, .int .i64 a.h, .int .i64 a.t, .int .u64 a.v, .int .u64 a.s], .int .i64 k] w fun e w' => e = .returned (.tuple #[.agg #[.int .i64 zW.n, .int .i64 zW.l, .int .i64 zW.h, .int .i64 zW.t, .int .u64 zW.v, .int .u64 zW.s], .iface 50 (.int .i64 4)]) ∧ Below w.heap.size w w' := by
  obtain ⟨PA, PR, BW⟩ := two_ w a 70 #[.int .i64 0, .int .i64 0, .int .i64 0, .int .i64 0, .int .u64 0, .int .u64 0]
  have HA := Lib.hid (wvalid_v a ha _ ea)
  clear ea
  go_enter Try.func61, Try.ntmps61
  go_upto_region 1 with fail
  refine region_lin0 (.val (fun v _ => v = .agg #[.int .i64 a.n, .int .i64 a.l, .int .i64 a.h, .int .i64 a.t, .int .u64 a.v, .int .u64 a.s]) :: .val (fun v _ => v = .bool false) :: .val (fun v _ => v = .bool true) :: [])
    ([] :: [(9, 0)] :: [(10, 1)] :: []) ((0, 0) :: (0, 0) :: (0, 0) :: []) 54 (by kernel_rfl) rfl rfl (by kernel_rfl) ⟨Stab.pure _ _ _, Stab.pure _ _ _, Stab.pure _ _ _, trivial⟩ ⟨?_, ?_, ?_, trivial⟩ ?_
  · intro wx hb
    intro K hK
    exact wp_load_row 70 (.tmp 2) rfl w.heap.size rfl 70 _ (0, 0) _ (Box.below (PA) hb (Box.lt (PA))) Try.underlying70 rfl (by kernel_rfl) (hK _ _ rfl ⟨rfl, Below.refl _ _⟩)
  · intro wx hb
    rintro _ rfl
    intro K hK
    go_simp
    (with_reducible refine (HA.out _).mono ?_)
    rintro e wa ⟨rfl, Ba⟩
    exact hK _ _ rfl ⟨rfl, Ba⟩
  · intro wx hb
    rintro _ rfl
    intro K hK
    go_simp
    exact hK _ _ rfl ⟨rfl, Below.refl _ _⟩
  intro w1 B1
  have PA := Box.below PA B1 (Box.lt PA)
  have PR := Box.below PR B1 (Box.lt PR)
  have BW := bkeep BW B1
  rintro _ rfl
  rintro _ rfl
  rintro _ rfl
  rintro -
  simp only [Act.put, List.setIfInBounds_toArray, List.set_cons_zero, List.set_cons_succ, List.toList_toArray, List.length_cons, List.length_nil, List.drop_succ_cons, List.drop_zero, List.drop_nil, Nat.zero_add, wpList]
  have y0 : w1.cell? ⟨w.heap.size + 1, 0, none⟩ = some (.int .i64 0) := PR.cell 0
  have y1 : w1.cell? ⟨w.heap.size + 1, 1, none⟩ = some (.int .i64 0) := PR.cell 1
  have y2 : w1.cell? ⟨w.heap.size + 1, 2, none⟩ = some (.int .i64 0) := PR.cell 2
  have y3 : w1.cell? ⟨w.heap.size + 1, 3, none⟩ = some (.int .i64 0) := PR.cell 3
  have y4 : w1.cell? ⟨w.heap.size + 1, 4, none⟩ = some (.int .u64 0) := PR.cell 4
  have y5 : w1.cell? ⟨w.heap.size + 1, 5, none⟩ = some (.int .u64 0) := PR.cell 5
  have f0 := PR.free 0; have f1 := PR.free 1; have f2 := PR.free 2; have f3 := PR.free 3; have f4 := PR.free 4; have f5 := PR.free 5
  have lt := PR.lt
  have HBW := Lib.hid BW
  clear B1 PA PR BW
  go_wp2_with fail
  refine bodyPost_ret (v := .tuple #[.agg #[.int .i64 0, .int .i64 0, .int .i64 0, .int .i64 0, .int .u64 0, .int .u64 0], .iface 50 (.int .i64 4)]) ?_ rfl ⟨rfl, ?_⟩
  · simp only [results, Try.results61]
    simp [go_sem, y0, y1, y2, y3, y4, y5]
  · exact ((((((HBW.out.setCell (by simp <;> omega) _).setCell (by simp <;> omega) _).setCell (by simp <;> omega) _).setCell (by simp <;> omega) _).setCell (by simp <;> omega) _).setCell (by simp <;> omega) _)
set_option maxRecDepth 100000 in
set_option maxHeartbeats 4000000 in
theorem wrep_neg (a : Wt) (k : Int) (ha : WOk a) (k0 : -9223372036854775808 ≤ k) (k1 : k ≤ 9223372036854775807) (ea : vW a = true) (kn : k < 0) (w : World) :
    Calls Try.prog 61 #[.agg #[.int .i64 a.n, .int .i64 a.l, .int .i64 a.h, .int .i64 a.t, .int .u64 a.v, .int .u64 a.s], .int .i64 k] w fun e w' => e = .returned (.tuple #[.agg #[.int .i64 zW.n, .int .i64 zW.l, .int .i64 zW.h, .int .i64 zW.t, .int .u64 zW.v, .int .u64 zW.s], .iface 50 (.int .i64 1)]) ∧ Below w.heap.size w w' := by
  obtain ⟨PA, PR, BW⟩ := two_ w a 70 #[.int .i64 0, .int .i64 0, .int .i64 0, .int .i64 0, .int .u64 0, .int .u64 0]
  have HA := Lib.hid (wvalid_v a ha _ ea)
  clear ea
  go_enter Try.func61, Try.ntmps61
  go_upto_region 1 with fail
  refine region_lin0 (.val (fun v _ => v = .agg #[.int .i64 a.n, .int .i64 a.l, .int .i64 a.h, .int .i64 a.t, .int .u64 a.v, .int .u64 a.s]) :: .val (fun v _ => v = .bool true) :: .val (fun v _ => v = .bool false) :: [])
    ([] :: [(9, 0)] :: [(10, 1)] :: []) ((0, 0) :: (0, 0) :: (0, 0) :: []) 54 (by kernel_rfl) rfl rfl (by kernel_rfl) ⟨Stab.pure _ _ _, Stab.pure _ _ _, Stab.pure _ _ _, trivial⟩ ⟨?_, ?_, ?_, trivial⟩ ?_
  · intro wx hb
    intro K hK
    exact wp_load_row 70 (.tmp 2) rfl w.heap.size rfl 70 _ (0, 0) _ (Box.below (PA) hb (Box.lt (PA))) Try.underlying70 rfl (by kernel_rfl) (hK _ _ rfl ⟨rfl, Below.refl _ _⟩)
  · intro wx hb
    rintro _ rfl
    intro K hK
    go_simp
    (with_reducible refine (HA.out _).mono ?_)
    rintro e wa ⟨rfl, Ba⟩
    exact hK _ _ rfl ⟨rfl, Ba⟩
  · intro wx hb
    rintro _ rfl
    intro K hK
    go_simp
    exact hK _ _ rfl ⟨rfl, Below.refl _ _⟩
  intro w1 B1
  have PA := Box.below PA B1 (Box.lt PA)
  have PR := Box.below PR B1 (Box.lt PR)
  have BW := bkeep BW B1
  rintro _ rfl
  rintro _ rfl
  rintro _ rfl
  rintro -
  simp only [Act.put, List.setIfInBounds_toArray, List.set_cons_zero, List.set_cons_succ, List.toList_toArray, List.length_cons, List.length_nil, List.drop_succ_cons, List.drop_zero, List.drop_nil, Nat.zero_add, wpList]
  have y0 : w1.cell? ⟨w.heap.size + 1, 0, none⟩ = some (.int .i64 0) := PR.cell 0
  have y1 : w1.cell? ⟨w.heap.size + 1, 1, none⟩ = some (.int .i64 0) := PR.cell 1
  have y2 : w1.cell? ⟨w.heap.size + 1, 2, none⟩ = some (.int .i64 0) := PR.cell 2
  have y3 : w1.cell? ⟨w.heap.size + 1, 3, none⟩ = some (.int .i64 0) := PR.cell 3
  have y4 : w1.cell? ⟨w.heap.size + 1, 4, none⟩ = some (.int .u64 0) := PR.cell 4
  have y5 : w1.cell? ⟨w.heap.size + 1, 5, none⟩ = some (.int .u64 0) := PR.cell 5
  have f0 := PR.free 0; have f1 := PR.free 1; have f2 := PR.free 2; have f3 := PR.free 3; have f4 := PR.free 4; have f5 := PR.free 5
  have lt := PR.lt
  have HBW := Lib.hid BW
  clear B1 PA PR BW
  go_wp2_with fail
  refine bodyPost_ret (v := .tuple #[.agg #[.int .i64 0, .int .i64 0, .int .i64 0, .int .i64 0, .int .u64 0, .int .u64 0], .iface 50 (.int .i64 1)]) ?_ rfl ⟨rfl, ?_⟩
  · simp only [results, Try.results61]
    simp [go_sem, y0, y1, y2, y3, y4, y5]
  · exact ((((((HBW.out.setCell (by simp <;> omega) _).setCell (by simp <;> omega) _).setCell (by simp <;> omega) _).setCell (by simp <;> omega) _).setCell (by simp <;> omega) _).setCell (by simp <;> omega) _)
set_option maxRecDepth 100000 in
set_option maxHeartbeats 4000000 in
theorem wrep_long (a : Wt) (k : Int) (ha : WOk a) (k0 : -9223372036854775808 ≤ k) (k1 : k ≤ 9223372036854775807) (ea : vW a = true) (kp : 0 ≤ k) (hl : ¬ a.n * k ≤ 1152921504606846976) (w : World) :
    Calls Try.prog 61 #[.agg #[.int .i64 a.n, .int .i64 a.l, .int .i64 a.h, .int .i64 a.t, .int .u64 a.v, .int .u64 a.s], .int .i64 k] w fun e w' => e = .returned (.tuple #[.agg #[.int .i64 zW.n, .int .i64 zW.l, .int .i64 zW.h, .int .i64 zW.t, .int .u64 zW.v, .int .u64 zW.s], .iface 50 (.int .i64 2)]) ∧ Below w.heap.size w w' := by
  obtain ⟨PA, PR, BW⟩ := two_ w a 70 #[.int .i64 0, .int .i64 0, .int .i64 0, .int .i64 0, .int .u64 0, .int .u64 0]
  have HA := Lib.hid (wvalid_v a ha _ ea)
  obtain ⟨_, _, _, an0, an1⟩ := fit_facts ea
  have HL := Lib.hid (lenmul_long a.n k an0 an1 kp hl)
  have kn : ¬ k < 0 := by omega
  clear ea hl
  go_enter Try.func61, Try.ntmps61
  go_upto_region 1 with fail
  refine region_lin0 (.val (fun v _ => v = .agg #[.int .i64 a.n, .int .i64 a.l, .int .i64 a.h, .int .i64 a.t, .int .u64 a.v, .int .u64 a.s]) :: .val (fun v _ => v = .bool true) :: .val (fun v _ => v = .bool false) :: [])
    ([] :: [(9, 0)] :: [(10, 1)] :: []) ((0, 0) :: (0, 0) :: (0, 0) :: []) 54 (by kernel_rfl) rfl rfl (by kernel_rfl) ⟨Stab.pure _ _ _, Stab.pure _ _ _, Stab.pure _ _ _, trivial⟩ ⟨?_, ?_, ?_, trivial⟩ ?_
  · intro wx hb
    intro K hK
    exact wp_load_row 70 (.tmp 2) rfl w.heap.size rfl 70 _ (0, 0) _ (Box.below (PA) hb (Box.lt (PA))) Try.underlying70 rfl (by kernel_rfl) (hK _ _ rfl ⟨rfl, Below.refl _ _⟩)
  · intro wx hb
    rintro _ rfl
    intro K hK
    go_simp
    (with_reducible refine (HA.out _).mono ?_)
    rintro e wa ⟨rfl, Ba⟩
    exact hK _ _ rfl ⟨rfl, Ba⟩
  · intro wx hb
    rintro _ rfl
    intro K hK
    go_simp
    exact hK _ _ rfl ⟨rfl, Below.refl _ _⟩
  intro w1 B1
  have PA := Box.below PA B1 (Box.lt PA)
  have PR := Box.below PR B1 (Box.lt PR)
  have BW := bkeep BW B1
  rintro _ rfl
  rintro _ rfl
  rintro _ rfl
  rintro -
  simp only [Act.put, List.setIfInBounds_toArray, List.set_cons_zero, List.set_cons_succ, List.toList_toArray, List.length_cons, List.length_nil, List.drop_succ_cons, List.drop_zero, List.drop_nil, Nat.zero_add, wpList]
  have x0 : w1.cell? ⟨w.heap.size, 0, none⟩ = some (.int .i64 a.n) := PA.cell 0
  have y0 : w1.cell? ⟨w.heap.size + 1, 0, none⟩ = some (.int .i64 0) := PR.cell 0
  have y1 : w1.cell? ⟨w.heap.size + 1, 1, none⟩ = some (.int .i64 0) := PR.cell 1
  have y2 : w1.cell? ⟨w.heap.size + 1, 2, none⟩ = some (.int .i64 0) := PR.cell 2
  have y3 : w1.cell? ⟨w.heap.size + 1, 3, none⟩ = some (.int .i64 0) := PR.cell 3
  have y4 : w1.cell? ⟨w.heap.size + 1, 4, none⟩ = some (.int .u64 0) := PR.cell 4
  have y5 : w1.cell? ⟨w.heap.size + 1, 5, none⟩ = some (.int .u64 0) := PR.cell 5
  have f0 := PR.free 0; have f1 := PR.free 1; have f2 := PR.free 2; have f3 := PR.free 3; have f4 := PR.free 4; have f5 := PR.free 5
  have lt := PR.lt
  have HBW := Lib.hid BW
  clear B1 PA PR BW
  go_wp2_with fail
  (with_reducible refine (HL.out _).mono ?_)
  rintro e w2 ⟨rfl, rfl⟩
  go_wp2_with fail
  refine bodyPost_ret (v := .tuple #[.agg #[.int .i64 0, .int .i64 0, .int .i64 0, .int .i64 0, .int .u64 0, .int .u64 0], .iface 50 (.int .i64 2)]) ?_ rfl ⟨rfl, ?_⟩
  · simp only [results, Try.results61]
    simp [go_sem, y0, y1, y2, y3, y4, y5]
  · exact ((((((HBW.out.setCell (by simp <;> omega) _).setCell (by simp <;> omega) _).setCell (by simp <;> omega) _).setCell (by simp <;> omega) _).setCell (by simp <;> omega) _).setCell (by simp <;> omega) _)
set_option maxRecDepth 100000 in
set_option maxHeartbeats 4000000 in
theorem wrep_zero (a : Wt) (k : Int) (ha : WOk a) (k0 : -9223372036854775808 ≤ k) (k1 : k ≤ 9223372036854775807) (ea : vW a = true) (kp : 0 ≤ k) (hz : a.n * k = 0) (w : World) :
    Calls Try.prog 61 #[.agg #[.int .i64 a.n, .int .i64 a.l, .int .i64 a.h, .int .i64 a.t, .int .u64 a.v, .int .u64 a.s], .int .i64 k] w fun e w' => e = .returned (.tuple #[.agg #[.int .i64 uW.n, .int .i64 uW.l, .int .i64 uW.h, .int .i64 uW.t, .int .u64 uW.v, .int .u64 uW.s], .nilIface]) ∧ Below w.heap.size w w' := by
  obtain ⟨PA, PR, BW⟩ := two_ w a 70 #[.int .i64 0, .int .i64 0, .int .i64 0, .int .i64 0, .int .u64 0, .int .u64 0]
  have HA := Lib.hid (wvalid_v a ha _ ea)
  obtain ⟨_, _, _, an0, an1⟩ := fit_facts ea
  have hl := lenmul_yes a.n k an0 an1 kp (by omega)
  rw [hz] at hl
  have HL := Lib.hid hl
  have kn : ¬ k < 0 := by omega
  clear ea hl hz
  go_enter Try.func61, Try.ntmps61
  go_upto_region 1 with fail
  refine region_lin0 (.val (fun v _ => v = .agg #[.int .i64 a.n, .int .i64 a.l, .int .i64 a.h, .int .i64 a.t, .int .u64 a.v, .int .u64 a.s]) :: .val (fun v _ => v = .bool true) :: .val (fun v _ => v = .bool false) :: [])
    ([] :: [(9, 0)] :: [(10, 1)] :: []) ((0, 0) :: (0, 0) :: (0, 0) :: []) 54 (by kernel_rfl) rfl rfl (by kernel_rfl) ⟨Stab.pure _ _ _, Stab.pure _ _ _, Stab.pure _ _ _, trivial⟩ ⟨?_, ?_, ?_, trivial⟩ ?_
  · intro wx hb
    intro K hK
    exact wp_load_row 70 (.tmp 2) rfl w.heap.size rfl 70 _ (0, 0) _ (Box.below (PA) hb (Box.lt (PA))) Try.underlying70 rfl (by kernel_rfl) (hK _ _ rfl ⟨rfl, Below.refl _ _⟩)
  · intro wx hb
    rintro _ rfl
    intro K hK
    go_simp
    (with_reducible refine (HA.out _).mono ?_)
    rintro e wa ⟨rfl, Ba⟩
    exact hK _ _ rfl ⟨rfl, Ba⟩
  · intro wx hb
    rintro _ rfl
    intro K hK
    go_simp
    exact hK _ _ rfl ⟨rfl, Below.refl _ _⟩
  intro w1 B1
  have PA := Box.below PA B1 (Box.lt PA)
  have PR := Box.below PR B1 (Box.lt PR)
  have BW := bkeep BW B1
  rintro _ rfl
  rintro _ rfl
  rintro _ rfl
  rintro -
  simp only [Act.put, List.setIfInBounds_toArray, List.set_cons_zero, List.set_cons_succ, List.toList_toArray, List.length_cons, List.length_nil, List.drop_succ_cons, List.drop_zero, List.drop_nil, Nat.zero_add, wpList]
  have x0 : w1.cell? ⟨w.heap.size, 0, none⟩ = some (.int .i64 a.n) := PA.cell 0
  have HPR := Lib.hid PR
  have HBW := Lib.hid BW
  clear B1 PA PR BW
  go_wp2_with fail
  (with_reducible refine (HL.out _).mono ?_)
  rintro e w2 ⟨rfl, rfl⟩
  go_wp2_with fail
  (with_reducible refine (wunit_any _).mono ?_)
  rintro e w3 ⟨rfl, B3⟩
  have PR := HPR.out.below B3 HPR.out.lt
  have y0 : w3.cell? ⟨w.heap.size + 1, 0, none⟩ = some (.int .i64 0) := PR.cell 0
  have y1 : w3.cell? ⟨w.heap.size + 1, 1, none⟩ = some (.int .i64 0) := PR.cell 1
  have y2 : w3.cell? ⟨w.heap.size + 1, 2, none⟩ = some (.int .i64 0) := PR.cell 2
  have y3 : w3.cell? ⟨w.heap.size + 1, 3, none⟩ = some (.int .i64 0) := PR.cell 3
  have y4 : w3.cell? ⟨w.heap.size + 1, 4, none⟩ = some (.int .u64 0) := PR.cell 4
  have y5 : w3.cell? ⟨w.heap.size + 1, 5, none⟩ = some (.int .u64 0) := PR.cell 5
  have f0 := PR.free 0; have f1 := PR.free 1; have f2 := PR.free 2; have f3 := PR.free 3; have f4 := PR.free 4; have f5 := PR.free 5
  have lt := PR.lt
  have HBW3 := Lib.hid (bkeep HBW.out B3)
  clear B3 PR
  go_wp2_with fail
  refine bodyPost_ret (v := .tuple #[.agg #[.int .i64 0, .int .i64 0, .int .i64 0, .int .i64 0, .int .u64 0, .int .u64 1], .nilIface]) ?_ rfl ⟨rfl, ?_⟩
  · simp only [results, Try.results61]
    simp [go_sem, y0, y1, y2, y3, y4, y5]
  · exact ((((((HBW3.out.setCell (by simp <;> omega) _).setCell (by simp <;> omega) _).setCell (by simp <;> omega) _).setCell (by simp <;> omega) _).setCell (by simp <;> omega) _).setCell (by simp <;> omega) _)
set_option maxRecDepth 100000 in
set_option maxHeartbeats 4000000 in
theorem wrep_ok0 (a : Wt) (k : Int) (ha : WOk a) (k0 : -9223372036854775808 ≤ k) (k1 : k ≤ 9223372036854775807) (ea : vW a = true) (kp : 0 ≤ k) (hl : a.n * k ≤ 1152921504606846976) (hz : a.n * k ≠ 0) (lz : (a.l == 0) = true) (w : World) :
    Calls Try.prog 61 #[.agg #[.int .i64 a.n, .int .i64 a.l, .int .i64 a.h, .int .i64 a.t, .int .u64 a.v, .int .u64 a.s], .int .i64 k] w fun e w' => e = .returned (.tuple #[.agg #[.int .i64 (a.n * k), .int .i64 (a.l * k), .int .i64 (a.n * k), .int .i64 (a.n * k), .int .u64 (rD (a.v, a.s) k.toNat).1, .int .u64 (rD (a.v, a.s) k.toNat).2], .nilIface]) ∧ Below w.heap.size w w' := by
  obtain ⟨PA, PR, BW⟩ := two_ w a 70 #[.int .i64 0, .int .i64 0, .int .i64 0, .int .i64 0, .int .u64 0, .int .u64 0]
  have HA := Lib.hid (wvalid_v a ha _ ea)
  obtain ⟨_, al0, al1, an0, an1⟩ := fit_facts ea
  have HL := Lib.hid (lenmul_yes a.n k an0 an1 kp hl)
  have kn : ¬ k < 0 := by omega
  have lk0 : 0 ≤ a.l * k := Int.mul_nonneg al0 kp
  have lk1 : a.l * k ≤ a.n * k := Int.mul_le_mul_of_nonneg_right al1 kp
  have HD := rep_any a.v a.s k k1 k0 ha.uv ha.us
  generalize (rD (a.v, a.s) k.toNat).1 = r1 at *
  generalize (rD (a.v, a.s) k.toNat).2 = r2 at *
  have HHD := Lib.hid HD
  have hz' : (a.n * k == 0) = false := by rw [beq_eq_false_iff_ne]; exact hz
  have wl := IntWalk.i64_in (a.l * k) ⟨by omega, by omega⟩
  have HWL := Lib.hid wl; have HLK := Lib.hid lk1; have HLH := Lib.hid hl
  clear ea hz HD wl lk1 hl
  go_enter Try.func61, Try.ntmps61
  go_upto_region 1 with fail
  refine region_lin0 (.val (fun v _ => v = .agg #[.int .i64 a.n, .int .i64 a.l, .int .i64 a.h, .int .i64 a.t, .int .u64 a.v, .int .u64 a.s]) :: .val (fun v _ => v = .bool true) :: .val (fun v _ => v = .bool false) :: [])
    ([] :: [(9, 0)] :: [(10, 1)] :: []) ((0, 0) :: (0, 0) :: (0, 0) :: []) 54 (by kernel_rfl) rfl rfl (by kernel_rfl) ⟨Stab.pure _ _ _, Stab.pure _ _ _, Stab.pure _ _ _, trivial⟩ ⟨?_, ?_, ?_, trivial⟩ ?_
  · intro wx hb
    intro K hK
    exact wp_load_row 70 (.tmp 2) rfl w.heap.size rfl 70 _ (0, 0) _ (Box.below (PA) hb (Box.lt (PA))) Try.underlying70 rfl (by kernel_rfl) (hK _ _ rfl ⟨rfl, Below.refl _ _⟩)
  · intro wx hb
    rintro _ rfl
    intro K hK
    go_simp
    (with_reducible refine (HA.out _).mono ?_)
    rintro e wa ⟨rfl, Ba⟩
    exact hK _ _ rfl ⟨rfl, Ba⟩
  · intro wx hb
    rintro _ rfl
    intro K hK
    go_simp
    exact hK _ _ rfl ⟨rfl, Below.refl _ _⟩
  intro w1 B1
  have PA := Box.below PA B1 (Box.lt PA)
  have PR := Box.below PR B1 (Box.lt PR)
  have BW := bkeep BW B1
  rintro _ rfl
  rintro _ rfl
  rintro _ rfl
  rintro -
  simp only [Act.put, List.setIfInBounds_toArray, List.set_cons_zero, List.set_cons_succ, List.toList_toArray, List.length_cons, List.length_nil, List.drop_succ_cons, List.drop_zero, List.drop_nil, Nat.zero_add, wpList]
  have x0 : w1.cell? ⟨w.heap.size, 0, none⟩ = some (.int .i64 a.n) := PA.cell 0
  have HPA := Lib.hid PA; have HPR := Lib.hid PR
  have HBW := Lib.hid BW
  clear B1 PA PR BW
  go_wp2_with fail
  (with_reducible refine (HL.out _).mono ?_)
  rintro e w2 ⟨rfl, rfl⟩
  go_upto_region 10 with fail
  refine region_lin (.val (fun v _ => v = .int .i64 (a.n * k)) :: .val (fun v _ => v = .pointer (some ⟨w.heap.size, 1, none⟩)) :: .val (fun v _ => v = .int .i64 a.l) :: .val (fun v _ => v = .int .i64 k) :: .val (fun v _ => v = .int .i64 (a.l * k)) :: .val (fun v _ => v = .pointer (some ⟨w.heap.size, 2, none⟩)) :: .val (fun v _ => v = .int .i64 a.h) :: .val (fun v _ => v = .pointer (some ⟨w.heap.size, 3, none⟩)) :: .val (fun v _ => v = .int .i64 a.t) :: .val (fun v _ => v = .pointer (some ⟨w.heap.size, 4, none⟩)) :: .val (fun v _ => v = .agg #[.int .u64 a.v, .int .u64 a.s]) :: .val (fun v _ => v = .int .i64 k) :: .val (fun v _ => v = .agg #[.int .u64 r1, .int .u64 r2]) :: .val (fun v _ => v = .agg #[.int .i64 (a.n * k), .int .i64 (a.l * k), .int .i64 a.h, .int .i64 a.t, .int .u64 r1, .int .u64 r2]) :: .new 70 #[.int .i64 0, .int .i64 0, .int .i64 0, .int .i64 0, .int .u64 0, .int .u64 0] #[.int .i64 (a.n * k), .int .i64 (a.l * k), .int .i64 a.h, .int .i64 a.t, .int .u64 r1, .int .u64 r2] 15 :: .put 70 #[.int .i64 0, .int .i64 0, .int .i64 0, .int .i64 0, .int .u64 0, .int .u64 0] #[.int .i64 (a.n * k), .int .i64 (a.l * k), .int .i64 a.h, .int .i64 a.t, .int .u64 r1, .int .u64 r2] 8 :: [])
    ([] :: [] :: [(33, 1)] :: [] :: [(34, 2), (35, 3)] :: [] :: [(37, 5)] :: [] :: [(39, 7)] :: [] :: [(41, 9)] :: [] :: [(42, 10), (43, 11)] :: [(32, 0), (36, 4), (38, 6), (40, 8), (44, 12)] :: [] :: [(45, 13)] :: []) ((0, 0) :: (0, 0) :: (0, 0) :: (0, 0) :: (0, 0) :: (0, 0) :: (0, 0) :: (0, 0) :: (0, 0) :: (0, 0) :: (0, 0) :: (0, 0) :: (0, 0) :: (0, 0) :: (1, 15) :: (2, 8) :: []) 54 (by kernel_rfl) rfl rfl (by kernel_rfl) ⟨Stab.pure _ _ _, Stab.pure _ _ _, Stab.pure _ _ _, Stab.pure _ _ _, Stab.pure _ _ _, Stab.pure _ _ _, Stab.pure _ _ _, Stab.pure _ _ _, Stab.pure _ _ _, Stab.pure _ _ _, Stab.pure _ _ _, Stab.pure _ _ _, Stab.pure _ _ _, Stab.pure _ _ _, ⟨rfl, rfl, rfl⟩, trivial⟩ ⟨?_, ?_, ?_, ?_, ?_, ?_, ?_, ?_, ?_, ?_, ?_, ?_, ?_, ?_, ?_, ?_, trivial⟩ ?_
  · intro wx hb
    intro K hK
    go_simp
    exact hK _ _ rfl ⟨rfl, Below.refl _ _⟩
  · intro wx hb
    intro K hK
    go_simp
    exact hK _ _ rfl ⟨rfl, Below.refl _ _⟩
  · intro wx hb
    rintro _ rfl
    intro K hK
    have mm := Box.below (HPA.out) hb (Box.lt (HPA.out))
    have m0 : wx.cell? ⟨w.heap.size, 0, none⟩ = some (.int .i64 a.n) := mm.cell 0
    have m1 : wx.cell? ⟨w.heap.size, 1, none⟩ = some (.int .i64 a.l) := mm.cell 1
    have m2 : wx.cell? ⟨w.heap.size, 2, none⟩ = some (.int .i64 a.h) := mm.cell 2
    have m3 : wx.cell? ⟨w.heap.size, 3, none⟩ = some (.int .i64 a.t) := mm.cell 3
    have m4 : wx.cell? ⟨w.heap.size, 4, none⟩ = some (.int .u64 a.v) := mm.cell 4
    have m5 : wx.cell? ⟨w.heap.size, 5, none⟩ = some (.int .u64 a.s) := mm.cell 5
    clear mm
    go_simp
    exact hK _ _ rfl ⟨rfl, Below.refl _ _⟩
  · intro wx hb
    intro K hK
    go_simp
    exact hK _ _ rfl ⟨rfl, Below.refl _ _⟩
  · intro wx hb
    rintro _ rfl
    rintro _ rfl
    intro K hK
    have wz := HWL.out
    go_simp
    exact hK _ _ rfl ⟨rfl, Below.refl _ _⟩
  · intro wx hb
    intro K hK
    go_simp
    exact hK _ _ rfl ⟨rfl, Below.refl _ _⟩
  · intro wx hb
    rintro _ rfl
    intro K hK
    have mm := Box.below (HPA.out) hb (Box.lt (HPA.out))
    have m0 : wx.cell? ⟨w.heap.size, 0, none⟩ = some (.int .i64 a.n) := mm.cell 0
    have m1 : wx.cell? ⟨w.heap.size, 1, none⟩ = some (.int .i64 a.l) := mm.cell 1
    have m2 : wx.cell? ⟨w.heap.size, 2, none⟩ = some (.int .i64 a.h) := mm.cell 2
    have m3 : wx.cell? ⟨w.heap.size, 3, none⟩ = some (.int .i64 a.t) := mm.cell 3
    have m4 : wx.cell? ⟨w.heap.size, 4, none⟩ = some (.int .u64 a.v) := mm.cell 4
    have m5 : wx.cell? ⟨w.heap.size, 5, none⟩ = some (.int .u64 a.s) := mm.cell 5
    clear mm
    go_simp
    exact hK _ _ rfl ⟨rfl, Below.refl _ _⟩
  · intro wx hb
    intro K hK
    go_simp
    exact hK _ _ rfl ⟨rfl, Below.refl _ _⟩
  · intro wx hb
    rintro _ rfl
    intro K hK
    have mm := Box.below (HPA.out) hb (Box.lt (HPA.out))
    have m0 : wx.cell? ⟨w.heap.size, 0, none⟩ = some (.int .i64 a.n) := mm.cell 0
    have m1 : wx.cell? ⟨w.heap.size, 1, none⟩ = some (.int .i64 a.l) := mm.cell 1
    have m2 : wx.cell? ⟨w.heap.size, 2, none⟩ = some (.int .i64 a.h) := mm.cell 2
    have m3 : wx.cell? ⟨w.heap.size, 3, none⟩ = some (.int .i64 a.t) := mm.cell 3
    have m4 : wx.cell? ⟨w.heap.size, 4, none⟩ = some (.int .u64 a.v) := mm.cell 4
    have m5 : wx.cell? ⟨w.heap.size, 5, none⟩ = some (.int .u64 a.s) := mm.cell 5
    clear mm
    go_simp
    exact hK _ _ rfl ⟨rfl, Below.refl _ _⟩
  · intro wx hb
    intro K hK
    go_simp
    exact hK _ _ rfl ⟨rfl, Below.refl _ _⟩
  · intro wx hb
    rintro _ rfl
    intro K hK
    have mm := Box.below (HPA.out) hb (Box.lt (HPA.out))
    have m0 : wx.cell? ⟨w.heap.size, 0, none⟩ = some (.int .i64 a.n) := mm.cell 0
    have m1 : wx.cell? ⟨w.heap.size, 1, none⟩ = some (.int .i64 a.l) := mm.cell 1
    have m2 : wx.cell? ⟨w.heap.size, 2, none⟩ = some (.int .i64 a.h) := mm.cell 2
    have m3 : wx.cell? ⟨w.heap.size, 3, none⟩ = some (.int .i64 a.t) := mm.cell 3
    have m4 : wx.cell? ⟨w.heap.size, 4, none⟩ = some (.int .u64 a.v) := mm.cell 4
    have m5 : wx.cell? ⟨w.heap.size, 5, none⟩ = some (.int .u64 a.s) := mm.cell 5
    clear mm
    go_simp
    exact hK _ _ rfl ⟨rfl, Below.refl _ _⟩
  · intro wx hb
    intro K hK
    go_simp
    exact hK _ _ rfl ⟨rfl, Below.refl _ _⟩
  · intro wx hb
    rintro _ rfl
    rintro _ rfl
    intro K hK
    go_simp
    (with_reducible refine (HHD.out _).mono ?_)
    rintro e wa ⟨rfl, Ba⟩
    exact hK _ _ rfl ⟨rfl, Ba⟩
  · intro wx hb
    rintro _ rfl
    rintro _ rfl
    rintro _ rfl
    rintro _ rfl
    rintro _ rfl
    intro K hK
    go_simp
    exact hK _ _ rfl ⟨rfl, Below.refl _ _⟩
  · intro wx hb
    intro K hK
    go_simp
    exact hK _ _ rfl ⟨rfl, rfl⟩
  · intro wx hb
    intro g hg hbx
    rintro _ rfl
    intro K hK
    have c0 : wx.cell? ⟨g, 0, none⟩ = some (.int .i64 0) := hbx.cell 0
    have f0 := hbx.free 0
    have c1 : wx.cell? ⟨g, 1, none⟩ = some (.int .i64 0) := hbx.cell 1
    have f1 := hbx.free 1
    have c2 : wx.cell? ⟨g, 2, none⟩ = some (.int .i64 0) := hbx.cell 2
    have f2 := hbx.free 2
    have c3 : wx.cell? ⟨g, 3, none⟩ = some (.int .i64 0) := hbx.cell 3
    have f3 := hbx.free 3
    have c4 : wx.cell? ⟨g, 4, none⟩ = some (.int .u64 0) := hbx.cell 4
    have f4 := hbx.free 4
    have c5 : wx.cell? ⟨g, 5, none⟩ = some (.int .u64 0) := hbx.cell 5
    have f5 := hbx.free 5
    clear hb
    go_simp
    exact hK _ _ rfl ((((((((Stored.start hbx).set 0 _).set 1 _).set 2 _).set 3 _).set 4 _).set 5 _))
  intro w3 B3
  rintro _ rfl
  rintro _ rfl
  rintro _ rfl
  rintro _ rfl
  rintro _ rfl
  rintro _ rfl
  rintro _ rfl
  rintro _ rfl
  rintro _ rfl
  rintro _ rfl
  rintro _ rfl
  rintro _ rfl
  rintro _ rfl
  rintro _ rfl
  intro gj hgj Bj
  rintro -
  simp only [Act.put, List.setIfInBounds_toArray, List.set_cons_zero, List.set_cons_succ, List.toList_toArray, List.length_cons, List.length_nil, List.drop_succ_cons, List.drop_zero, List.drop_nil, Nat.zero_add, wpList]
  have PA := HPA.out.below B3 HPA.out.lt; have PR := HPR.out.below B3 HPR.out.lt
  have HBW3 := Lib.hid (bkeep HBW.out B3)
  have p0 : w3.cell? ⟨w.heap.size, 0, none⟩ = some (.int .i64 a.n) := PA.cell 0
  have p1 : w3.cell? ⟨w.heap.size, 1, none⟩ = some (.int .i64 a.l) := PA.cell 1
  have p2 : w3.cell? ⟨w.heap.size, 2, none⟩ = some (.int .i64 a.h) := PA.cell 2
  have p3 : w3.cell? ⟨w.heap.size, 3, none⟩ = some (.int .i64 a.t) := PA.cell 3
  have p4 : w3.cell? ⟨w.heap.size, 4, none⟩ = some (.int .u64 a.v) := PA.cell 4
  have p5 : w3.cell? ⟨w.heap.size, 5, none⟩ = some (.int .u64 a.s) := PA.cell 5
  have y0 : w3.cell? ⟨w.heap.size + 1, 0, none⟩ = some (.int .i64 0) := PR.cell 0
  have y1 : w3.cell? ⟨w.heap.size + 1, 1, none⟩ = some (.int .i64 0) := PR.cell 1
  have y2 : w3.cell? ⟨w.heap.size + 1, 2, none⟩ = some (.int .i64 0) := PR.cell 2
  have y3 : w3.cell? ⟨w.heap.size + 1, 3, none⟩ = some (.int .i64 0) := PR.cell 3
  have y4 : w3.cell? ⟨w.heap.size + 1, 4, none⟩ = some (.int .u64 0) := PR.cell 4
  have y5 : w3.cell? ⟨w.heap.size + 1, 5, none⟩ = some (.int .u64 0) := PR.cell 5
  have j0 : w3.cell? ⟨gj, 0, none⟩ = some (.int .i64 (a.n * k)) := Bj.cell 0
  have j1 : w3.cell? ⟨gj, 1, none⟩ = some (.int .i64 (a.l * k)) := Bj.cell 1
  have j2 : w3.cell? ⟨gj, 2, none⟩ = some (.int .i64 a.h) := Bj.cell 2
  have j3 : w3.cell? ⟨gj, 3, none⟩ = some (.int .i64 a.t) := Bj.cell 3
  have j4 : w3.cell? ⟨gj, 4, none⟩ = some (.int .u64 r1) := Bj.cell 4
  have j5 : w3.cell? ⟨gj, 5, none⟩ = some (.int .u64 r2) := Bj.cell 5
  have f0 := PR.free 0; have f1 := PR.free 1; have f2 := PR.free 2; have f3 := PR.free 3; have f4 := PR.free 4; have f5 := PR.free 5
  have k_2 := Bj.free 2; have k_3 := Bj.free 3
  have ne0 : gj ≠ w.heap.size := by have := HPA.out.lt; omega
  have ne2 : gj ≠ w.heap.size + 1 := by have := HPR.out.lt; omega
  have ne3 : w.heap.size + 1 ≠ gj := by omega
  have le0 : w.heap.size ≤ gj := by have := HPA.out.lt; omega
  clear B3 PA PR Bj x0
  go_wp2_with fail
  refine bodyPost_ret (v := .tuple #[.agg #[.int .i64 (a.n * k), .int .i64 (a.l * k), .int .i64 (a.n * k), .int .i64 (a.n * k), .int .u64 r1, .int .u64 r2], .nilIface]) ?_ rfl ⟨rfl, ?_⟩
  · simp only [results, Try.results61]
    simp [go_sem, y0, y1, y2, y3, y4, y5, ne0, ne2, ne3]
  · repeat (first | (with_reducible exact HBW3.out) | (with_reducible refine Below.setCell ?_ (by first | exact le0 | (simp <;> omega)) _))
set_option maxRecDepth 100000 in
set_option maxHeartbeats 4000000 in
theorem wrep_ok1 (a : Wt) (k : Int) (ha : WOk a) (k0 : -9223372036854775808 ≤ k) (k1 : k ≤ 9223372036854775807) (ea : vW a = true) (kp : 0 ≤ k) (hl : a.n * k ≤ 1152921504606846976) (hz : a.n * k ≠ 0) (lz : (a.l == 0) = false) (w : World) :
    Calls Try.prog 61 #[.agg #[.int .i64 a.n, .int .i64 a.l, .int .i64 a.h, .int .i64 a.t, .int .u64 a.v, .int .u64 a.s], .int .i64 k] w fun e w' => e = .returned (.tuple #[.agg #[.int .i64 (a.n * k), .int .i64 (a.l * k), .int .i64 a.h, .int .i64 a.t, .int .u64 (rD (a.v, a.s) k.toNat).1, .int .u64 (rD (a.v, a.s) k.toNat).2], .nilIface]) ∧ Below w.heap.size w w' := by
  obtain ⟨PA, PR, BW⟩ := two_ w a 70 #[.int .i64 0, .int .i64 0, .int .i64 0, .int .i64 0, .int .u64 0, .int .u64 0]
  have HA := Lib.hid (wvalid_v a ha _ ea)
  obtain ⟨_, al0, al1, an0, an1⟩ := fit_facts ea
  have HL := Lib.hid (lenmul_yes a.n k an0 an1 kp hl)
  have kn : ¬ k < 0 := by omega
  have lk0 : 0 ≤ a.l * k := Int.mul_nonneg al0 kp
  have lk1 : a.l * k ≤ a.n * k := Int.mul_le_mul_of_nonneg_right al1 kp
  have HD := rep_any a.v a.s k k1 k0 ha.uv ha.us
  generalize (rD (a.v, a.s) k.toNat).1 = r1 at *
  generalize (rD (a.v, a.s) k.toNat).2 = r2 at *
  have HHD := Lib.hid HD
  have hz' : (a.n * k == 0) = false := by rw [beq_eq_false_iff_ne]; exact hz
  have wl := IntWalk.i64_in (a.l * k) ⟨by omega, by omega⟩
  have HWL := Lib.hid wl; have HLK := Lib.hid lk1; have HLH := Lib.hid hl
  clear ea hz HD wl lk1 hl
  go_enter Try.func61, Try.ntmps61
  go_upto_region 1 with fail
  refine region_lin0 (.val (fun v _ => v = .agg #[.int .i64 a.n, .int .i64 a.l, .int .i64 a.h, .int .i64 a.t, .int .u64 a.v, .int .u64 a.s]) :: .val (fun v _ => v = .bool true) :: .val (fun v _ => v = .bool false) :: [])
    ([] :: [(9, 0)] :: [(10, 1)] :: []) ((0, 0) :: (0, 0) :: (0, 0) :: []) 54 (by kernel_rfl) rfl rfl (by kernel_rfl) ⟨Stab.pure _ _ _, Stab.pure _ _ _, Stab.pure _ _ _, trivial⟩ ⟨?_, ?_, ?_, trivial⟩ ?_
  · intro wx hb
    intro K hK
    exact wp_load_row 70 (.tmp 2) rfl w.heap.size rfl 70 _ (0, 0) _ (Box.below (PA) hb (Box.lt (PA))) Try.underlying70 rfl (by kernel_rfl) (hK _ _ rfl ⟨rfl, Below.refl _ _⟩)
  · intro wx hb
    rintro _ rfl
    intro K hK
    go_simp
    (with_reducible refine (HA.out _).mono ?_)
    rintro e wa ⟨rfl, Ba⟩
    exact hK _ _ rfl ⟨rfl, Ba⟩
  · intro wx hb
    rintro _ rfl
    intro K hK
    go_simp
    exact hK _ _ rfl ⟨rfl, Below.refl _ _⟩
  intro w1 B1
  have PA := Box.below PA B1 (Box.lt PA)
  have PR := Box.below PR B1 (Box.lt PR)
  have BW := bkeep BW B1
  rintro _ rfl
  rintro _ rfl
  rintro _ rfl
  rintro -
  simp only [Act.put, List.setIfInBounds_toArray, List.set_cons_zero, List.set_cons_succ, List.toList_toArray, List.length_cons, List.length_nil, List.drop_succ_cons, List.drop_zero, List.drop_nil, Nat.zero_add, wpList]
  have x0 : w1.cell? ⟨w.heap.size, 0, none⟩ = some (.int .i64 a.n) := PA.cell 0
  have HPA := Lib.hid PA; have HPR := Lib.hid PR
  have HBW := Lib.hid BW
  clear B1 PA PR BW
  go_wp2_with fail
  (with_reducible refine (HL.out _).mono ?_)
  rintro e w2 ⟨rfl, rfl⟩
  go_upto_region 10 with fail
  refine region_lin (.val (fun v _ => v = .int .i64 (a.n * k)) :: .val (fun v _ => v = .pointer (some ⟨w.heap.size, 1, none⟩)) :: .val (fun v _ => v = .int .i64 a.l) :: .val (fun v _ => v = .int .i64 k) :: .val (fun v _ => v = .int .i64 (a.l * k)) :: .val (fun v _ => v = .pointer (some ⟨w.heap.size, 2, none⟩)) :: .val (fun v _ => v = .int .i64 a.h) :: .val (fun v _ => v = .pointer (some ⟨w.heap.size, 3, none⟩)) :: .val (fun v _ => v = .int .i64 a.t) :: .val (fun v _ => v = .pointer (some ⟨w.heap.size, 4, none⟩)) :: .val (fun v _ => v = .agg #[.int .u64 a.v, .int .u64 a.s]) :: .val (fun v _ => v = .int .i64 k) :: .val (fun v _ => v = .agg #[.int .u64 r1, .int .u64 r2]) :: .val (fun v _ => v = .agg #[.int .i64 (a.n * k), .int .i64 (a.l * k), .int .i64 a.h, .int .i64 a.t, .int .u64 r1, .int .u64 r2]) :: .new 70 #[.int .i64 0, .int .i64 0, .int .i64 0, .int .i64 0, .int .u64 0, .int .u64 0] #[.int .i64 (a.n * k), .int .i64 (a.l * k), .int .i64 a.h, .int .i64 a.t, .int .u64 r1, .int .u64 r2] 15 :: .put 70 #[.int .i64 0, .int .i64 0, .int .i64 0, .int .i64 0, .int .u64 0, .int .u64 0] #[.int .i64 (a.n * k), .int .i64 (a.l * k), .int .i64 a.h, .int .i64 a.t, .int .u64 r1, .int .u64 r2] 8 :: [])
    ([] :: [] :: [(33, 1)] :: [] :: [(34, 2), (35, 3)] :: [] :: [(37, 5)] :: [] :: [(39, 7)] :: [] :: [(41, 9)] :: [] :: [(42, 10), (43, 11)] :: [(32, 0), (36, 4), (38, 6), (40, 8), (44, 12)] :: [] :: [(45, 13)] :: []) ((0, 0) :: (0, 0) :: (0, 0) :: (0, 0) :: (0, 0) :: (0, 0) :: (0, 0) :: (0, 0) :: (0, 0) :: (0, 0) :: (0, 0) :: (0, 0) :: (0, 0) :: (0, 0) :: (1, 15) :: (2, 8) :: []) 54 (by kernel_rfl) rfl rfl (by kernel_rfl) ⟨Stab.pure _ _ _, Stab.pure _ _ _, Stab.pure _ _ _, Stab.pure _ _ _, Stab.pure _ _ _, Stab.pure _ _ _, Stab.pure _ _ _, Stab.pure _ _ _, Stab.pure _ _ _, Stab.pure _ _ _, Stab.pure _ _ _, Stab.pure _ _ _, Stab.pure _ _ _, Stab.pure _ _ _, ⟨rfl, rfl, rfl⟩, trivial⟩ ⟨?_, ?_, ?_, ?_, ?_, ?_, ?_, ?_, ?_, ?_, ?_, ?_, ?_, ?_, ?_, ?_, trivial⟩ ?_
  · intro wx hb
    intro K hK
    go_simp
    exact hK _ _ rfl ⟨rfl, Below.refl _ _⟩
  · intro wx hb
    intro K hK
    go_simp
    exact hK _ _ rfl ⟨rfl, Below.refl _ _⟩
  · intro wx hb
    rintro _ rfl
    intro K hK
    have mm := Box.below (HPA.out) hb (Box.lt (HPA.out))
    have m0 : wx.cell? ⟨w.heap.size, 0, none⟩ = some (.int .i64 a.n) := mm.cell 0
    have m1 : wx.cell? ⟨w.heap.size, 1, none⟩ = some (.int .i64 a.l) := mm.cell 1
    have m2 : wx.cell? ⟨w.heap.size, 2, none⟩ = some (.int .i64 a.h) := mm.cell 2
    have m3 : wx.cell? ⟨w.heap.size, 3, none⟩ = some (.int .i64 a.t) := mm.cell 3
    have m4 : wx.cell? ⟨w.heap.size, 4, none⟩ = some (.int .u64 a.v) := mm.cell 4
    have m5 : wx.cell? ⟨w.heap.size, 5, none⟩ = some (.int .u64 a.s) := mm.cell 5
    clear mm
    go_simp
    exact hK _ _ rfl ⟨rfl, Below.refl _ _⟩
  · intro wx hb
    intro K hK
    go_simp
    exact hK _ _ rfl ⟨rfl, Below.refl _ _⟩
  · intro wx hb
    rintro _ rfl
    rintro _ rfl
    intro K hK
    have wz := HWL.out
    go_simp
    exact hK _ _ rfl ⟨rfl, Below.refl _ _⟩
  · intro wx hb
    intro K hK
    go_simp
    exact hK _ _ rfl ⟨rfl, Below.refl _ _⟩
  · intro wx hb
    rintro _ rfl
    intro K hK
    have mm := Box.below (HPA.out) hb (Box.lt (HPA.out))
    have m0 : wx.cell? ⟨w.heap.size, 0, none⟩ = some (.int .i64 a.n) := mm.cell 0
    have m1 : wx.cell? ⟨w.heap.size, 1, none⟩ = some (.int .i64 a.l) := mm.cell 1
    have m2 : wx.cell? ⟨w.heap.size, 2, none⟩ = some (.int .i64 a.h) := mm.cell 2
    have m3 : wx.cell? ⟨w.heap.size, 3, none⟩ = some (.int .i64 a.t) := mm.cell 3
    have m4 : wx.cell? ⟨w.heap.size, 4, none⟩ = some (.int .u64 a.v) := mm.cell 4
    have m5 : wx.cell? ⟨w.heap.size, 5, none⟩ = some (.int .u64 a.s) := mm.cell 5
    clear mm
    go_simp
    exact hK _ _ rfl ⟨rfl, Below.refl _ _⟩
  · intro wx hb
    intro K hK
    go_simp
    exact hK _ _ rfl ⟨rfl, Below.refl _ _⟩
  · intro wx hb
    rintro _ rfl
    intro K hK
    have mm := Box.below (HPA.out) hb (Box.lt (HPA.out))
    have m0 : wx.cell? ⟨w.heap.size, 0, none⟩ = some (.int .i64 a.n) := mm.cell 0
    have m1 : wx.cell? ⟨w.heap.size, 1, none⟩ = some (.int .i64 a.l) := mm.cell 1
    have m2 : wx.cell? ⟨w.heap.size, 2, none⟩ = some (.int .i64 a.h) := mm.cell 2
    have m3 : wx.cell? ⟨w.heap.size, 3, none⟩ = some (.int .i64 a.t) := mm.cell 3
    have m4 : wx.cell? ⟨w.heap.size, 4, none⟩ = some (.int .u64 a.v) := mm.cell 4
    have m5 : wx.cell? ⟨w.heap.size, 5, none⟩ = some (.int .u64 a.s) := mm.cell 5
    clear mm
    go_simp
    exact hK _ _ rfl ⟨rfl, Below.refl _ _⟩
  · intro wx hb
    intro K hK
    go_simp
    exact hK _ _ rfl ⟨rfl, Below.refl _ _⟩
  · intro wx hb
    rintro _ rfl
    intro K hK
    have mm := Box.below (HPA.out) hb (Box.lt (HPA.out))
    have m0 : wx.cell? ⟨w.heap.size, 0, none⟩ = some (.int .i64 a.n) := mm.cell 0
    have m1 : wx.cell? ⟨w.heap.size, 1, none⟩ = some (.int .i64 a.l) := mm.cell 1
    have m2 : wx.cell? ⟨w.heap.size, 2, none⟩ = some (.int .i64 a.h) := mm.cell 2
    have m3 : wx.cell? ⟨w.heap.size, 3, none⟩ = some (.int .i64 a.t) := mm.cell 3
    have m4 : wx.cell? ⟨w.heap.size, 4, none⟩ = some (.int .u64 a.v) := mm.cell 4
    have m5 : wx.cell? ⟨w.heap.size, 5, none⟩ = some (.int .u64 a.s) := mm.cell 5
    clear mm
    go_simp
    exact hK _ _ rfl ⟨rfl, Below.refl _ _⟩
  · intro wx hb
    intro K hK
    go_simp
    exact hK _ _ rfl ⟨rfl, Below.refl _ _⟩
  · intro wx hb
    rintro _ rfl
    rintro _ rfl
    intro K hK
    go_simp
    (with_reducible refine (HHD.out _).mono ?_)
    rintro e wa ⟨rfl, Ba⟩
    exact hK _ _ rfl ⟨rfl, Ba⟩
  · intro wx hb
    rintro _ rfl
    rintro _ rfl
    rintro _ rfl
    rintro _ rfl
    rintro _ rfl
    intro K hK
    go_simp
    exact hK _ _ rfl ⟨rfl, Below.refl _ _⟩
  · intro wx hb
    intro K hK
    go_simp
    exact hK _ _ rfl ⟨rfl, rfl⟩
  · intro wx hb
    intro g hg hbx
    rintro _ rfl
    intro K hK
    have c0 : wx.cell? ⟨g, 0, none⟩ = some (.int .i64 0) := hbx.cell 0
    have f0 := hbx.free 0
    have c1 : wx.cell? ⟨g, 1, none⟩ = some (.int .i64 0) := hbx.cell 1
    have f1 := hbx.free 1
    have c2 : wx.cell? ⟨g, 2, none⟩ = some (.int .i64 0) := hbx.cell 2
    have f2 := hbx.free 2
    have c3 : wx.cell? ⟨g, 3, none⟩ = some (.int .i64 0) := hbx.cell 3
    have f3 := hbx.free 3
    have c4 : wx.cell? ⟨g, 4, none⟩ = some (.int .u64 0) := hbx.cell 4
    have f4 := hbx.free 4
    have c5 : wx.cell? ⟨g, 5, none⟩ = some (.int .u64 0) := hbx.cell 5
    have f5 := hbx.free 5
    clear hb
    go_simp
    exact hK _ _ rfl ((((((((Stored.start hbx).set 0 _).set 1 _).set 2 _).set 3 _).set 4 _).set 5 _))
  intro w3 B3
  rintro _ rfl
  rintro _ rfl
  rintro _ rfl
  rintro _ rfl
  rintro _ rfl
  rintro _ rfl
  rintro _ rfl
  rintro _ rfl
  rintro _ rfl
  rintro _ rfl
  rintro _ rfl
  rintro _ rfl
  rintro _ rfl
  rintro _ rfl
  intro gj hgj Bj
  rintro -
  simp only [Act.put, List.setIfInBounds_toArray, List.set_cons_zero, List.set_cons_succ, List.toList_toArray, List.length_cons, List.length_nil, List.drop_succ_cons, List.drop_zero, List.drop_nil, Nat.zero_add, wpList]
  have PA := HPA.out.below B3 HPA.out.lt; have PR := HPR.out.below B3 HPR.out.lt
  have HBW3 := Lib.hid (bkeep HBW.out B3)
  have p0 : w3.cell? ⟨w.heap.size, 0, none⟩ = some (.int .i64 a.n) := PA.cell 0
  have p1 : w3.cell? ⟨w.heap.size, 1, none⟩ = some (.int .i64 a.l) := PA.cell 1
  have p2 : w3.cell? ⟨w.heap.size, 2, none⟩ = some (.int .i64 a.h) := PA.cell 2
  have p3 : w3.cell? ⟨w.heap.size, 3, none⟩ = some (.int .i64 a.t) := PA.cell 3
  have p4 : w3.cell? ⟨w.heap.size, 4, none⟩ = some (.int .u64 a.v) := PA.cell 4
  have p5 : w3.cell? ⟨w.heap.size, 5, none⟩ = some (.int .u64 a.s) := PA.cell 5
  have y0 : w3.cell? ⟨w.heap.size + 1, 0, none⟩ = some (.int .i64 0) := PR.cell 0
  have y1 : w3.cell? ⟨w.heap.size + 1, 1, none⟩ = some (.int .i64 0) := PR.cell 1
  have y2 : w3.cell? ⟨w.heap.size + 1, 2, none⟩ = some (.int .i64 0) := PR.cell 2
  have y3 : w3.cell? ⟨w.heap.size + 1, 3, none⟩ = some (.int .i64 0) := PR.cell 3
  have y4 : w3.cell? ⟨w.heap.size + 1, 4, none⟩ = some (.int .u64 0) := PR.cell 4
  have y5 : w3.cell? ⟨w.heap.size + 1, 5, none⟩ = some (.int .u64 0) := PR.cell 5
  have j0 : w3.cell? ⟨gj, 0, none⟩ = some (.int .i64 (a.n * k)) := Bj.cell 0
  have j1 : w3.cell? ⟨gj, 1, none⟩ = some (.int .i64 (a.l * k)) := Bj.cell 1
  have j2 : w3.cell? ⟨gj, 2, none⟩ = some (.int .i64 a.h) := Bj.cell 2
  have j3 : w3.cell? ⟨gj, 3, none⟩ = some (.int .i64 a.t) := Bj.cell 3
  have j4 : w3.cell? ⟨gj, 4, none⟩ = some (.int .u64 r1) := Bj.cell 4
  have j5 : w3.cell? ⟨gj, 5, none⟩ = some (.int .u64 r2) := Bj.cell 5
  have f0 := PR.free 0; have f1 := PR.free 1; have f2 := PR.free 2; have f3 := PR.free 3; have f4 := PR.free 4; have f5 := PR.free 5
  have k_2 := Bj.free 2; have k_3 := Bj.free 3
  have ne0 : gj ≠ w.heap.size := by have := HPA.out.lt; omega
  have ne2 : gj ≠ w.heap.size + 1 := by have := HPR.out.lt; omega
  have ne3 : w.heap.size + 1 ≠ gj := by omega
  have le0 : w.heap.size ≤ gj := by have := HPA.out.lt; omega
  clear B3 PA PR Bj x0
  go_wp2_with fail
  refine bodyPost_ret (v := .tuple #[.agg #[.int .i64 (a.n * k), .int .i64 (a.l * k), .int .i64 a.h, .int .i64 a.t, .int .u64 r1, .int .u64 r2], .nilIface]) ?_ rfl ⟨rfl, ?_⟩
  · simp only [results, Try.results61]
    simp [go_sem, y0, y1, y2, y3, y4, y5, ne0, ne2, ne3]
  · repeat (first | (with_reducible exact HBW3.out) | (with_reducible refine Below.setCell ?_ (by first | exact le0 | (simp <;> omega)) _))
theorem wrep_any (a : Wt) (k : Int) (ha : WOk a) (k0 : -9223372036854775808 ≤ k) (k1 : k ≤ 9223372036854775807) (w : World) :
    Calls Try.prog 61 #[.agg #[.int .i64 a.n, .int .i64 a.l, .int .i64 a.h, .int .i64 a.t, .int .u64 a.v, .int .u64 a.s], .int .i64 k] w fun e w' => e = .returned (.tuple #[.agg #[.int .i64 (repW a k).1.n, .int .i64 (repW a k).1.l, .int .i64 (repW a k).1.h, .int .i64 (repW a k).1.t, .int .u64 (repW a k).1.v, .int .u64 (repW a k).1.s], errv (repW a k).2]) ∧ Below w.heap.size w w' := by
  unfold repW
  cases ea : vW a with
  | false => simpa [ea, errv] using wrep_bad a k ha k0 k1 ea w
  | true =>
    by_cases kp : 0 ≤ k
    · by_cases hl : a.n * k ≤ 1152921504606846976
      · by_cases hz : a.n * k = 0
        · have e : repU a k.toNat = uW := by
            rcases Int.mul_eq_zero.1 hz with h | h
            · rw [zero_u a ea ha.uv.lo h]; exact rep_u _
            · rw [h]; rfl
          simpa [ea, kp, hl, errv, e] using wrep_zero a k ha k0 k1 ea kp hz w
        · have hk : 1 ≤ k.toNat := by
            rcases Nat.eq_zero_or_pos k.toNat with h | h
            · exfalso; apply hz; have : k = 0 := by omega
              rw [this, Int.mul_zero]
            · exact h
          have e : repU a k.toNat = clW a k.toNat := rep_cl a ea ha.uv.lo _ hk
          have ek : ((k.toNat : Nat) : Int) = k := Int.toNat_of_nonneg kp
          by_cases lz : a.l = 0
          · have h := wrep_ok0 a k ha k0 k1 ea kp hl hz (by rw [beq_iff_eq]; exact lz) w
            simpa [ea, kp, hl, errv, e, clW, ek, lz] using h
          · have h := wrep_ok1 a k ha k0 k1 ea kp hl hz (by rw [beq_eq_false_iff_ne]; exact lz) w
            simpa [ea, kp, hl, errv, e, clW, ek, lz] using h
      · simpa [ea, kp, hl, errv] using wrep_long a k ha k0 k1 ea kp hl w
    · simpa [ea, kp, errv] using wrep_neg a k ha k0 k1 ea (by omega) w
end Go.Proofs.Ytcbahojefglakaa
