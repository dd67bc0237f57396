/- The walks of evergreenref06.times, Repeat, whole; the law WeightRepeats. -/
import Derived.Test.YtbapmolpfdiknaaWgtRep
namespace Go.Proofs.Ytbapmolpfdiknaa
set_option linter.unusedVariables false
set_option linter.unusedSimpArgs false
open Go.RowKit Go.Lib
theorem fit_of {a : Wt} (h : vW a = true) (hv : 0 ≤ a.v) : Fit a := by
  obtain ⟨hf, hs⟩ := vW_fit h
  have s0 : 0 ≤ a.s := by rw [hs]; exact red_lo _
  have s1 : a.s < 2305843009213693951 := by rw [hs]; exact red_hi _
  unfold fitW at hf
  constructor <;> omega
attribute [local go_sem ↓] Go.wp_at_zero Go.wp_at_succ
abbrev CT (a : Wt) (k : Nat) (x : Wt) : Prop := ∀ w : World, Calls Try.prog 39 #[.agg #[.int .i64 a.n, .int .i64 a.l, .int .i64 a.h, .int .i64 a.t, .int .u64 a.v, .int .u64 a.s], .int .i64 (k : Int)] w fun e w' => e = .returned (.agg #[.int .i64 x.n, .int .i64 x.l, .int .i64 x.h, .int .i64 x.t, .int .u64 x.v, .int .u64 x.s]) ∧ Below w.heap.size w w'
abbrev CTi (a : Wt) (k : Int) (x : Wt) : Prop := ∀ w : World, Calls Try.prog 39 #[.agg #[.int .i64 a.n, .int .i64 a.l, .int .i64 a.h, .int .i64 a.t, .int .u64 a.v, .int .u64 a.s], .int .i64 k] w fun e w' => e = .returned (.agg #[.int .i64 x.n, .int .i64 x.l, .int .i64 x.h, .int .i64 x.t, .int .u64 x.v, .int .u64 x.s]) ∧ Below w.heap.size w w'
abbrev CJ (a b x : Wt) : Prop := ∀ w : World, Calls Try.prog 36 #[.agg #[.int .i64 a.n, .int .i64 a.l, .int .i64 a.h, .int .i64 a.t, .int .u64 a.v, .int .u64 a.s], .agg #[.int .i64 b.n, .int .i64 b.l, .int .i64 b.h, .int .i64 b.t, .int .u64 b.v, .int .u64 b.s]] w fun e w' => e = .returned (.agg #[.int .i64 x.n, .int .i64 x.l, .int .i64 x.h, .int .i64 x.t, .int .u64 x.v, .int .u64 x.s]) ∧ Below w.heap.size w w'
set_option maxHeartbeats 2000000 in
theorem rtimes_zerok (a : Wt) (k : Nat) (hk : k = 0) (w : World) : Calls Try.prog 39 #[.agg #[.int .i64 a.n, .int .i64 a.l, .int .i64 a.h, .int .i64 a.t, .int .u64 a.v, .int .u64 a.s], .int .i64 (k : Int)] w fun e w' => e = .returned (.agg #[.int .i64 uW.n, .int .i64 uW.l, .int .i64 uW.h, .int .i64 uW.t, .int .u64 uW.v, .int .u64 uW.s]) ∧ Below w.heap.size w w' := by
  obtain ⟨PA, PR, BW⟩ := two_ w a 26 #[.int .i64 0, .int .i64 0, .int .i64 0, .int .i64 0, .int .u64 0, .int .u64 0]
  have kz : ((k : Int) == 0) = true := by rw [beq_iff_eq]; omega
  have HPR := Lib.hid PR; have HBW := Lib.hid BW
  clear PA PR BW hk
  go_enter Try.func39, Try.ntmps39
  go_wp2_with fail
  (with_reducible refine (runit_any _).mono ?_)
  rintro e w1 ⟨rfl, B1⟩
  have PR := HPR.out.below B1 HPR.out.lt
  have HBW1 := Lib.hid (bkeep HBW.out B1)
  have y0 : w1.cell? ⟨w.heap.size + 1, 0, none⟩ = some (.int .i64 0) := PR.cell 0
  have y1 : w1.cell? ⟨w.heap.size + 1, 1, none⟩ = some (.int .i64 0) := PR.cell 1
  have y2 : w1.cell? ⟨w.heap.size + 1, 2, none⟩ = some (.int .i64 0) := PR.cell 2
  have y3 : w1.cell? ⟨w.heap.size + 1, 3, none⟩ = some (.int .i64 0) := PR.cell 3
  have y4 : w1.cell? ⟨w.heap.size + 1, 4, none⟩ = some (.int .u64 0) := PR.cell 4
  have y5 : w1.cell? ⟨w.heap.size + 1, 5, none⟩ = some (.int .u64 0) := PR.cell 5
  have f0 := PR.free 0; have f1 := PR.free 1; have f2 := PR.free 2; have f3 := PR.free 3; have f4 := PR.free 4; have f5 := PR.free 5
  have lt := PR.lt
  clear B1 PR
  go_wp2_with fail
  refine bodyPost_ret (v := .agg #[.int .i64 0, .int .i64 0, .int .i64 0, .int .i64 0, .int .u64 0, .int .u64 1]) ?_ rfl ⟨rfl, ?_⟩
  · simp only [results, Try.results39]
    simp [go_sem, y0, y1, y2, y3, y4, y5]
  · exact ((((((HBW1.out.setCell (by simp <;> omega) _).setCell (by simp <;> omega) _).setCell (by simp <;> omega) _).setCell (by simp <;> omega) _).setCell (by simp <;> omega) _).setCell (by simp <;> omega) _)
set_option maxHeartbeats 2000000 in
theorem rtimes_zeron (a : Wt) (k : Nat) (hk0 : k ≠ 0) (hk1 : k ≤ 9223372036854775807) (hk : a.n = 0) (w : World) : Calls Try.prog 39 #[.agg #[.int .i64 a.n, .int .i64 a.l, .int .i64 a.h, .int .i64 a.t, .int .u64 a.v, .int .u64 a.s], .int .i64 (k : Int)] w fun e w' => e = .returned (.agg #[.int .i64 uW.n, .int .i64 uW.l, .int .i64 uW.h, .int .i64 uW.t, .int .u64 uW.v, .int .u64 uW.s]) ∧ Below w.heap.size w w' := by
  obtain ⟨PA, PR, BW⟩ := two_ w a 26 #[.int .i64 0, .int .i64 0, .int .i64 0, .int .i64 0, .int .u64 0, .int .u64 0]
  have kz : ((k : Int) == 0) = false := by rw [beq_eq_false_iff_ne]; omega
  have nz : (a.n == 0) = true := by rw [beq_iff_eq]; exact hk
  have HPR := Lib.hid PR; have HBW := Lib.hid BW
  clear PA PR BW hk
  go_enter Try.func39, Try.ntmps39
  go_wp2_with fail
  (with_reducible refine (runit_any _).mono ?_)
  rintro e w1 ⟨rfl, B1⟩
  have PR := HPR.out.below B1 HPR.out.lt
  have HBW1 := Lib.hid (bkeep HBW.out B1)
  have y0 : w1.cell? ⟨w.heap.size + 1, 0, none⟩ = some (.int .i64 0) := PR.cell 0
  have y1 : w1.cell? ⟨w.heap.size + 1, 1, none⟩ = some (.int .i64 0) := PR.cell 1
  have y2 : w1.cell? ⟨w.heap.size + 1, 2, none⟩ = some (.int .i64 0) := PR.cell 2
  have y3 : w1.cell? ⟨w.heap.size + 1, 3, none⟩ = some (.int .i64 0) := PR.cell 3
  have y4 : w1.cell? ⟨w.heap.size + 1, 4, none⟩ = some (.int .u64 0) := PR.cell 4
  have y5 : w1.cell? ⟨w.heap.size + 1, 5, none⟩ = some (.int .u64 0) := PR.cell 5
  have f0 := PR.free 0; have f1 := PR.free 1; have f2 := PR.free 2; have f3 := PR.free 3; have f4 := PR.free 4; have f5 := PR.free 5
  have lt := PR.lt
  clear B1 PR
  go_wp2_with fail
  refine bodyPost_ret (v := .agg #[.int .i64 0, .int .i64 0, .int .i64 0, .int .i64 0, .int .u64 0, .int .u64 1]) ?_ rfl ⟨rfl, ?_⟩
  · simp only [results, Try.results39]
    simp [go_sem, y0, y1, y2, y3, y4, y5]
  · exact ((((((HBW1.out.setCell (by simp <;> omega) _).setCell (by simp <;> omega) _).setCell (by simp <;> omega) _).setCell (by simp <;> omega) _).setCell (by simp <;> omega) _).setCell (by simp <;> omega) _)
set_option maxHeartbeats 4000000 in
theorem rtimes_step0 (a x y z : Wt) (k : Nat) (kn : ((k : Int) == 0) = false) (nn : (a.n == 0) = false) (k1 : k ≤ 9223372036854775807) (ho : ((k : Int) % 2 == 1) = false) (H1 : Hid (CTi a ((k : Int) / 2) x)) (H2 : Hid (CJ x x y)) (H3 : Hid (CJ y a z)) (w : World) :
    Calls Try.prog 39 #[.agg #[.int .i64 a.n, .int .i64 a.l, .int .i64 a.h, .int .i64 a.t, .int .u64 a.v, .int .u64 a.s], .int .i64 (k : Int)] w fun e w' => e = .returned (.agg #[.int .i64 y.n, .int .i64 y.l, .int .i64 y.h, .int .i64 y.t, .int .u64 y.v, .int .u64 y.s]) ∧ Below w.heap.size w w' := by
  obtain ⟨PA, PR, BW⟩ := two_ w a 26 #[.int .i64 0, .int .i64 0, .int .i64 0, .int .i64 0, .int .u64 0, .int .u64 0]
  have HPA := Lib.hid PA; have HPR := Lib.hid PR; have HBW := Lib.hid BW
  clear PA PR BW
  go_enter Try.func39, Try.ntmps39
  go_upto_region 3 with fail
  refine region_lin0 (.val (fun v _ => v = .agg #[.int .i64 a.n, .int .i64 a.l, .int .i64 a.h, .int .i64 a.t, .int .u64 a.v, .int .u64 a.s]) :: .val (fun v _ => v = .int .i64 (k : Int)) :: .val (fun v _ => v = .int .i64 ((k : Int) / 2)) :: .val (fun v _ => v = .agg #[.int .i64 x.n, .int .i64 x.l, .int .i64 x.h, .int .i64 x.t, .int .u64 x.v, .int .u64 x.s]) :: .new 26 #[.int .i64 0, .int .i64 0, .int .i64 0, .int .i64 0, .int .u64 0, .int .u64 0] #[.int .i64 x.n, .int .i64 x.l, .int .i64 x.h, .int .i64 x.t, .int .u64 x.v, .int .u64 x.s] 5 :: .put 26 #[.int .i64 0, .int .i64 0, .int .i64 0, .int .i64 0, .int .u64 0, .int .u64 0] #[.int .i64 x.n, .int .i64 x.l, .int .i64 x.h, .int .i64 x.t, .int .u64 x.v, .int .u64 x.s] 5 :: [])
    ([] :: [] :: [(16, 1)] :: [(15, 0), (17, 2)] :: [] :: [(18, 3)] :: []) ((0, 0) :: (0, 0) :: (0, 0) :: (0, 0) :: (1, 5) :: (2, 5) :: []) 29 (by kernel_rfl) rfl rfl (by kernel_rfl) ⟨Stab.pure _ _ _, Stab.pure _ _ _, Stab.pure _ _ _, Stab.pure _ _ _, ⟨rfl, rfl, rfl⟩, trivial⟩ ⟨?_, ?_, ?_, ?_, ?_, ?_, trivial⟩ ?_
  · intro wx hb
    intro K hK
    have mm := Box.below (HPA.out) hb (Box.lt (HPA.out))
    have m0 : wx.cell? ⟨w.heap.size, 0, none⟩ = some (.int .i64 a.n) := mm.cell 0
    have m1 : wx.cell? ⟨w.heap.size, 1, none⟩ = some (.int .i64 a.l) := mm.cell 1
    have m2 : wx.cell? ⟨w.heap.size, 2, none⟩ = some (.int .i64 a.h) := mm.cell 2
    have m3 : wx.cell? ⟨w.heap.size, 3, none⟩ = some (.int .i64 a.t) := mm.cell 3
    have m4 : wx.cell? ⟨w.heap.size, 4, none⟩ = some (.int .u64 a.v) := mm.cell 4
    have m5 : wx.cell? ⟨w.heap.size, 5, none⟩ = some (.int .u64 a.s) := mm.cell 5
    clear mm
    go_simp
    exact hK _ _ rfl ⟨rfl, Below.refl _ _⟩
  · intro wx hb
    intro K hK
    go_simp
    exact hK _ _ rfl ⟨rfl, Below.refl _ _⟩
  · intro wx hb
    rintro _ rfl
    intro K hK
    go_wp2_with fail; exact hK _ _ rfl ⟨rfl, Below.refl _ _⟩
  · intro wx hb
    rintro _ rfl
    rintro _ rfl
    intro K hK
    go_simp
    (with_reducible refine (H1.out _).mono ?_)
    rintro e wa ⟨rfl, Ba⟩
    exact hK _ _ rfl ⟨rfl, Ba⟩
  · intro wx hb
    intro K hK
    go_simp
    exact hK _ _ rfl ⟨rfl, rfl⟩
  · intro wx hb
    intro g hg hbx
    rintro _ rfl
    intro K hK
    have c0 : wx.cell? ⟨g, 0, none⟩ = some (.int .i64 0) := hbx.cell 0
    have f0 := hbx.free 0
    have c1 : wx.cell? ⟨g, 1, none⟩ = some (.int .i64 0) := hbx.cell 1
    have f1 := hbx.free 1
    have c2 : wx.cell? ⟨g, 2, none⟩ = some (.int .i64 0) := hbx.cell 2
    have f2 := hbx.free 2
    have c3 : wx.cell? ⟨g, 3, none⟩ = some (.int .i64 0) := hbx.cell 3
    have f3 := hbx.free 3
    have c4 : wx.cell? ⟨g, 4, none⟩ = some (.int .u64 0) := hbx.cell 4
    have f4 := hbx.free 4
    have c5 : wx.cell? ⟨g, 5, none⟩ = some (.int .u64 0) := hbx.cell 5
    have f5 := hbx.free 5
    clear hb
    go_simp
    exact hK _ _ rfl ((((((((Stored.start hbx).set 0 _).set 1 _).set 2 _).set 3 _).set 4 _).set 5 _))
  intro w1 B1
  rintro _ rfl
  rintro _ rfl
  rintro _ rfl
  rintro _ rfl
  intro gx hgx Bx
  rintro -
  simp only [Act.put, List.setIfInBounds_toArray, List.set_cons_zero, List.set_cons_succ, List.toList_toArray, List.length_cons, List.length_nil, List.drop_succ_cons, List.drop_zero, List.drop_nil, Nat.zero_add, wpList]
  have HPA1 := Lib.hid (HPA.out.below B1 HPA.out.lt); have HPR1 := Lib.hid (HPR.out.below B1 HPR.out.lt); have HBW1 := Lib.hid (bkeep HBW.out B1)
  clear B1
  go_upto_region 4 with fail
  refine region_lin0 (.val (fun v _ => v = .agg #[.int .i64 x.n, .int .i64 x.l, .int .i64 x.h, .int .i64 x.t, .int .u64 x.v, .int .u64 x.s]) :: .val (fun v _ => v = .agg #[.int .i64 x.n, .int .i64 x.l, .int .i64 x.h, .int .i64 x.t, .int .u64 x.v, .int .u64 x.s]) :: .val (fun v _ => v = .agg #[.int .i64 y.n, .int .i64 y.l, .int .i64 y.h, .int .i64 y.t, .int .u64 y.v, .int .u64 y.s]) :: .new 26 #[.int .i64 0, .int .i64 0, .int .i64 0, .int .i64 0, .int .u64 0, .int .u64 0] #[.int .i64 y.n, .int .i64 y.l, .int .i64 y.h, .int .i64 y.t, .int .u64 y.v, .int .u64 y.s] 4 :: .put 26 #[.int .i64 0, .int .i64 0, .int .i64 0, .int .i64 0, .int .u64 0, .int .u64 0] #[.int .i64 y.n, .int .i64 y.l, .int .i64 y.h, .int .i64 y.t, .int .u64 y.v, .int .u64 y.s] 6 :: [])
    ([] :: [] :: [(19, 0), (20, 1)] :: [] :: [(21, 2)] :: []) ((0, 0) :: (0, 0) :: (0, 0) :: (1, 4) :: (2, 6) :: []) 29 (by kernel_rfl) rfl rfl (by kernel_rfl) ⟨Stab.pure _ _ _, Stab.pure _ _ _, Stab.pure _ _ _, ⟨rfl, rfl, rfl⟩, trivial⟩ ⟨?_, ?_, ?_, ?_, ?_, trivial⟩ ?_
  · intro wx hb
    intro K hK
    have mm := Box.below (Bx) hb (Box.lt (Bx))
    have m0 : wx.cell? ⟨gx, 0, none⟩ = some (.int .i64 x.n) := mm.cell 0
    have m1 : wx.cell? ⟨gx, 1, none⟩ = some (.int .i64 x.l) := mm.cell 1
    have m2 : wx.cell? ⟨gx, 2, none⟩ = some (.int .i64 x.h) := mm.cell 2
    have m3 : wx.cell? ⟨gx, 3, none⟩ = some (.int .i64 x.t) := mm.cell 3
    have m4 : wx.cell? ⟨gx, 4, none⟩ = some (.int .u64 x.v) := mm.cell 4
    have m5 : wx.cell? ⟨gx, 5, none⟩ = some (.int .u64 x.s) := mm.cell 5
    clear mm
    go_simp
    exact hK _ _ rfl ⟨rfl, Below.refl _ _⟩
  · intro wx hb
    intro K hK
    have mm := Box.below (Bx) hb (Box.lt (Bx))
    have m0 : wx.cell? ⟨gx, 0, none⟩ = some (.int .i64 x.n) := mm.cell 0
    have m1 : wx.cell? ⟨gx, 1, none⟩ = some (.int .i64 x.l) := mm.cell 1
    have m2 : wx.cell? ⟨gx, 2, none⟩ = some (.int .i64 x.h) := mm.cell 2
    have m3 : wx.cell? ⟨gx, 3, none⟩ = some (.int .i64 x.t) := mm.cell 3
    have m4 : wx.cell? ⟨gx, 4, none⟩ = some (.int .u64 x.v) := mm.cell 4
    have m5 : wx.cell? ⟨gx, 5, none⟩ = some (.int .u64 x.s) := mm.cell 5
    clear mm
    go_simp
    exact hK _ _ rfl ⟨rfl, Below.refl _ _⟩
  · intro wx hb
    rintro _ rfl
    rintro _ rfl
    intro K hK
    go_simp
    (with_reducible refine (H2.out _).mono ?_)
    rintro e wa ⟨rfl, Ba⟩
    exact hK _ _ rfl ⟨rfl, Ba⟩
  · intro wx hb
    intro K hK
    go_simp
    exact hK _ _ rfl ⟨rfl, rfl⟩
  · intro wx hb
    intro g hg hbx
    rintro _ rfl
    intro K hK
    have c0 : wx.cell? ⟨g, 0, none⟩ = some (.int .i64 0) := hbx.cell 0
    have f0 := hbx.free 0
    have c1 : wx.cell? ⟨g, 1, none⟩ = some (.int .i64 0) := hbx.cell 1
    have f1 := hbx.free 1
    have c2 : wx.cell? ⟨g, 2, none⟩ = some (.int .i64 0) := hbx.cell 2
    have f2 := hbx.free 2
    have c3 : wx.cell? ⟨g, 3, none⟩ = some (.int .i64 0) := hbx.cell 3
    have f3 := hbx.free 3
    have c4 : wx.cell? ⟨g, 4, none⟩ = some (.int .u64 0) := hbx.cell 4
    have f4 := hbx.free 4
    have c5 : wx.cell? ⟨g, 5, none⟩ = some (.int .u64 0) := hbx.cell 5
    have f5 := hbx.free 5
    clear hb
    go_simp
    exact hK _ _ rfl ((((((((Stored.start hbx).set 0 _).set 1 _).set 2 _).set 3 _).set 4 _).set 5 _))
  intro w2 B2
  rintro _ rfl
  rintro _ rfl
  rintro _ rfl
  intro gy hgy By
  rintro -
  simp only [Act.put, List.setIfInBounds_toArray, List.set_cons_zero, List.set_cons_succ, List.toList_toArray, List.length_cons, List.length_nil, List.drop_succ_cons, List.drop_zero, List.drop_nil, Nat.zero_add, wpList]
  have HPA2 := Lib.hid (HPA1.out.below B2 HPA1.out.lt); have HPR2 := Lib.hid (HPR1.out.below B2 HPR1.out.lt); have HBW2 := Lib.hid (bkeep HBW1.out B2)
  have ne : w.heap.size + 1 ≠ gy := by have := HPR1.out.lt; omega
  have ne2 : gy ≠ w.heap.size + 1 := by omega
  have le : w.heap.size ≤ gy := by have := HPR1.out.lt; omega
  clear B2
  have PR := HPR2.out
  have y0 : w2.cell? ⟨w.heap.size + 1, 0, none⟩ = some (.int .i64 0) := PR.cell 0
  have y1 : w2.cell? ⟨w.heap.size + 1, 1, none⟩ = some (.int .i64 0) := PR.cell 1
  have y2 : w2.cell? ⟨w.heap.size + 1, 2, none⟩ = some (.int .i64 0) := PR.cell 2
  have y3 : w2.cell? ⟨w.heap.size + 1, 3, none⟩ = some (.int .i64 0) := PR.cell 3
  have y4 : w2.cell? ⟨w.heap.size + 1, 4, none⟩ = some (.int .u64 0) := PR.cell 4
  have y5 : w2.cell? ⟨w.heap.size + 1, 5, none⟩ = some (.int .u64 0) := PR.cell 5
  have f0 := PR.free 0; have f1 := PR.free 1; have f2 := PR.free 2; have f3 := PR.free 3; have f4 := PR.free 4; have f5 := PR.free 5
  have q0 : w2.cell? ⟨gy, 0, none⟩ = some (.int .i64 y.n) := By.cell 0
  have q1 : w2.cell? ⟨gy, 1, none⟩ = some (.int .i64 y.l) := By.cell 1
  have q2 : w2.cell? ⟨gy, 2, none⟩ = some (.int .i64 y.h) := By.cell 2
  have q3 : w2.cell? ⟨gy, 3, none⟩ = some (.int .i64 y.t) := By.cell 3
  have q4 : w2.cell? ⟨gy, 4, none⟩ = some (.int .u64 y.v) := By.cell 4
  have q5 : w2.cell? ⟨gy, 5, none⟩ = some (.int .u64 y.s) := By.cell 5
  clear PR By
  go_wp2_with fail
  refine bodyPost_ret (v := .agg #[.int .i64 y.n, .int .i64 y.l, .int .i64 y.h, .int .i64 y.t, .int .u64 y.v, .int .u64 y.s]) ?_ rfl ⟨rfl, ?_⟩
  · simp only [results, Try.results39]
    simp [go_sem, y0, y1, y2, y3, y4, y5, ne, ne2]
  · repeat (first | (with_reducible exact HBW2.out) | (with_reducible refine Below.setCell ?_ (by first | exact le | (simp <;> omega)) _))
set_option maxHeartbeats 4000000 in
theorem rtimes_step1 (a x y z : Wt) (k : Nat) (kn : ((k : Int) == 0) = false) (nn : (a.n == 0) = false) (k1 : k ≤ 9223372036854775807) (ho : ((k : Int) % 2 == 1) = true) (H1 : Hid (CTi a ((k : Int) / 2) x)) (H2 : Hid (CJ x x y)) (H3 : Hid (CJ y a z)) (w : World) :
    Calls Try.prog 39 #[.agg #[.int .i64 a.n, .int .i64 a.l, .int .i64 a.h, .int .i64 a.t, .int .u64 a.v, .int .u64 a.s], .int .i64 (k : Int)] w fun e w' => e = .returned (.agg #[.int .i64 z.n, .int .i64 z.l, .int .i64 z.h, .int .i64 z.t, .int .u64 z.v, .int .u64 z.s]) ∧ Below w.heap.size w w' := by
  obtain ⟨PA, PR, BW⟩ := two_ w a 26 #[.int .i64 0, .int .i64 0, .int .i64 0, .int .i64 0, .int .u64 0, .int .u64 0]
  have HPA := Lib.hid PA; have HPR := Lib.hid PR; have HBW := Lib.hid BW
  clear PA PR BW
  go_enter Try.func39, Try.ntmps39
  go_upto_region 3 with fail
  refine region_lin0 (.val (fun v _ => v = .agg #[.int .i64 a.n, .int .i64 a.l, .int .i64 a.h, .int .i64 a.t, .int .u64 a.v, .int .u64 a.s]) :: .val (fun v _ => v = .int .i64 (k : Int)) :: .val (fun v _ => v = .int .i64 ((k : Int) / 2)) :: .val (fun v _ => v = .agg #[.int .i64 x.n, .int .i64 x.l, .int .i64 x.h, .int .i64 x.t, .int .u64 x.v, .int .u64 x.s]) :: .new 26 #[.int .i64 0, .int .i64 0, .int .i64 0, .int .i64 0, .int .u64 0, .int .u64 0] #[.int .i64 x.n, .int .i64 x.l, .int .i64 x.h, .int .i64 x.t, .int .u64 x.v, .int .u64 x.s] 5 :: .put 26 #[.int .i64 0, .int .i64 0, .int .i64 0, .int .i64 0, .int .u64 0, .int .u64 0] #[.int .i64 x.n, .int .i64 x.l, .int .i64 x.h, .int .i64 x.t, .int .u64 x.v, .int .u64 x.s] 5 :: [])
    ([] :: [] :: [(16, 1)] :: [(15, 0), (17, 2)] :: [] :: [(18, 3)] :: []) ((0, 0) :: (0, 0) :: (0, 0) :: (0, 0) :: (1, 5) :: (2, 5) :: []) 29 (by kernel_rfl) rfl rfl (by kernel_rfl) ⟨Stab.pure _ _ _, Stab.pure _ _ _, Stab.pure _ _ _, Stab.pure _ _ _, ⟨rfl, rfl, rfl⟩, trivial⟩ ⟨?_, ?_, ?_, ?_, ?_, ?_, trivial⟩ ?_
  · intro wx hb
    intro K hK
    have mm := Box.below (HPA.out) hb (Box.lt (HPA.out))
    have m0 : wx.cell? ⟨w.heap.size, 0, none⟩ = some (.int .i64 a.n) := mm.cell 0
    have m1 : wx.cell? ⟨w.heap.size, 1, none⟩ = some (.int .i64 a.l) := mm.cell 1
    have m2 : wx.cell? ⟨w.heap.size, 2, none⟩ = some (.int .i64 a.h) := mm.cell 2
    have m3 : wx.cell? ⟨w.heap.size, 3, none⟩ = some (.int .i64 a.t) := mm.cell 3
    have m4 : wx.cell? ⟨w.heap.size, 4, none⟩ = some (.int .u64 a.v) := mm.cell 4
    have m5 : wx.cell? ⟨w.heap.size, 5, none⟩ = some (.int .u64 a.s) := mm.cell 5
    clear mm
    go_simp
    exact hK _ _ rfl ⟨rfl, Below.refl _ _⟩
  · intro wx hb
    intro K hK
    go_simp
    exact hK _ _ rfl ⟨rfl, Below.refl _ _⟩
  · intro wx hb
    rintro _ rfl
    intro K hK
    go_wp2_with fail; exact hK _ _ rfl ⟨rfl, Below.refl _ _⟩
  · intro wx hb
    rintro _ rfl
    rintro _ rfl
    intro K hK
    go_simp
    (with_reducible refine (H1.out _).mono ?_)
    rintro e wa ⟨rfl, Ba⟩
    exact hK _ _ rfl ⟨rfl, Ba⟩
  · intro wx hb
    intro K hK
    go_simp
    exact hK _ _ rfl ⟨rfl, rfl⟩
  · intro wx hb
    intro g hg hbx
    rintro _ rfl
    intro K hK
    have c0 : wx.cell? ⟨g, 0, none⟩ = some (.int .i64 0) := hbx.cell 0
    have f0 := hbx.free 0
    have c1 : wx.cell? ⟨g, 1, none⟩ = some (.int .i64 0) := hbx.cell 1
    have f1 := hbx.free 1
    have c2 : wx.cell? ⟨g, 2, none⟩ = some (.int .i64 0) := hbx.cell 2
    have f2 := hbx.free 2
    have c3 : wx.cell? ⟨g, 3, none⟩ = some (.int .i64 0) := hbx.cell 3
    have f3 := hbx.free 3
    have c4 : wx.cell? ⟨g, 4, none⟩ = some (.int .u64 0) := hbx.cell 4
    have f4 := hbx.free 4
    have c5 : wx.cell? ⟨g, 5, none⟩ = some (.int .u64 0) := hbx.cell 5
    have f5 := hbx.free 5
    clear hb
    go_simp
    exact hK _ _ rfl ((((((((Stored.start hbx).set 0 _).set 1 _).set 2 _).set 3 _).set 4 _).set 5 _))
  intro w1 B1
  rintro _ rfl
  rintro _ rfl
  rintro _ rfl
  rintro _ rfl
  intro gx hgx Bx
  rintro -
  simp only [Act.put, List.setIfInBounds_toArray, List.set_cons_zero, List.set_cons_succ, List.toList_toArray, List.length_cons, List.length_nil, List.drop_succ_cons, List.drop_zero, List.drop_nil, Nat.zero_add, wpList]
  have HPA1 := Lib.hid (HPA.out.below B1 HPA.out.lt); have HPR1 := Lib.hid (HPR.out.below B1 HPR.out.lt); have HBW1 := Lib.hid (bkeep HBW.out B1)
  clear B1
  go_upto_region 4 with fail
  refine region_lin0 (.val (fun v _ => v = .agg #[.int .i64 x.n, .int .i64 x.l, .int .i64 x.h, .int .i64 x.t, .int .u64 x.v, .int .u64 x.s]) :: .val (fun v _ => v = .agg #[.int .i64 x.n, .int .i64 x.l, .int .i64 x.h, .int .i64 x.t, .int .u64 x.v, .int .u64 x.s]) :: .val (fun v _ => v = .agg #[.int .i64 y.n, .int .i64 y.l, .int .i64 y.h, .int .i64 y.t, .int .u64 y.v, .int .u64 y.s]) :: .new 26 #[.int .i64 0, .int .i64 0, .int .i64 0, .int .i64 0, .int .u64 0, .int .u64 0] #[.int .i64 y.n, .int .i64 y.l, .int .i64 y.h, .int .i64 y.t, .int .u64 y.v, .int .u64 y.s] 4 :: .put 26 #[.int .i64 0, .int .i64 0, .int .i64 0, .int .i64 0, .int .u64 0, .int .u64 0] #[.int .i64 y.n, .int .i64 y.l, .int .i64 y.h, .int .i64 y.t, .int .u64 y.v, .int .u64 y.s] 6 :: [])
    ([] :: [] :: [(19, 0), (20, 1)] :: [] :: [(21, 2)] :: []) ((0, 0) :: (0, 0) :: (0, 0) :: (1, 4) :: (2, 6) :: []) 29 (by kernel_rfl) rfl rfl (by kernel_rfl) ⟨Stab.pure _ _ _, Stab.pure _ _ _, Stab.pure _ _ _, ⟨rfl, rfl, rfl⟩, trivial⟩ ⟨?_, ?_, ?_, ?_, ?_, trivial⟩ ?_
  · intro wx hb
    intro K hK
    have mm := Box.below (Bx) hb (Box.lt (Bx))
    have m0 : wx.cell? ⟨gx, 0, none⟩ = some (.int .i64 x.n) := mm.cell 0
    have m1 : wx.cell? ⟨gx, 1, none⟩ = some (.int .i64 x.l) := mm.cell 1
    have m2 : wx.cell? ⟨gx, 2, none⟩ = some (.int .i64 x.h) := mm.cell 2
    have m3 : wx.cell? ⟨gx, 3, none⟩ = some (.int .i64 x.t) := mm.cell 3
    have m4 : wx.cell? ⟨gx, 4, none⟩ = some (.int .u64 x.v) := mm.cell 4
    have m5 : wx.cell? ⟨gx, 5, none⟩ = some (.int .u64 x.s) := mm.cell 5
    clear mm
    go_simp
    exact hK _ _ rfl ⟨rfl, Below.refl _ _⟩
  · intro wx hb
    intro K hK
    have mm := Box.below (Bx) hb (Box.lt (Bx))
    have m0 : wx.cell? ⟨gx, 0, none⟩ = some (.int .i64 x.n) := mm.cell 0
    have m1 : wx.cell? ⟨gx, 1, none⟩ = some (.int .i64 x.l) := mm.cell 1
    have m2 : wx.cell? ⟨gx, 2, none⟩ = some (.int .i64 x.h) := mm.cell 2
    have m3 : wx.cell? ⟨gx, 3, none⟩ = some (.int .i64 x.t) := mm.cell 3
    have m4 : wx.cell? ⟨gx, 4, none⟩ = some (.int .u64 x.v) := mm.cell 4
    have m5 : wx.cell? ⟨gx, 5, none⟩ = some (.int .u64 x.s) := mm.cell 5
    clear mm
    go_simp
    exact hK _ _ rfl ⟨rfl, Below.refl _ _⟩
  · intro wx hb
    rintro _ rfl
    rintro _ rfl
    intro K hK
    go_simp
    (with_reducible refine (H2.out _).mono ?_)
    rintro e wa ⟨rfl, Ba⟩
    exact hK _ _ rfl ⟨rfl, Ba⟩
  · intro wx hb
    intro K hK
    go_simp
    exact hK _ _ rfl ⟨rfl, rfl⟩
  · intro wx hb
    intro g hg hbx
    rintro _ rfl
    intro K hK
    have c0 : wx.cell? ⟨g, 0, none⟩ = some (.int .i64 0) := hbx.cell 0
    have f0 := hbx.free 0
    have c1 : wx.cell? ⟨g, 1, none⟩ = some (.int .i64 0) := hbx.cell 1
    have f1 := hbx.free 1
    have c2 : wx.cell? ⟨g, 2, none⟩ = some (.int .i64 0) := hbx.cell 2
    have f2 := hbx.free 2
    have c3 : wx.cell? ⟨g, 3, none⟩ = some (.int .i64 0) := hbx.cell 3
    have f3 := hbx.free 3
    have c4 : wx.cell? ⟨g, 4, none⟩ = some (.int .u64 0) := hbx.cell 4
    have f4 := hbx.free 4
    have c5 : wx.cell? ⟨g, 5, none⟩ = some (.int .u64 0) := hbx.cell 5
    have f5 := hbx.free 5
    clear hb
    go_simp
    exact hK _ _ rfl ((((((((Stored.start hbx).set 0 _).set 1 _).set 2 _).set 3 _).set 4 _).set 5 _))
  intro w2 B2
  rintro _ rfl
  rintro _ rfl
  rintro _ rfl
  intro gy hgy By
  rintro -
  simp only [Act.put, List.setIfInBounds_toArray, List.set_cons_zero, List.set_cons_succ, List.toList_toArray, List.length_cons, List.length_nil, List.drop_succ_cons, List.drop_zero, List.drop_nil, Nat.zero_add, wpList]
  have HPA2 := Lib.hid (HPA1.out.below B2 HPA1.out.lt); have HPR2 := Lib.hid (HPR1.out.below B2 HPR1.out.lt); have HBW2 := Lib.hid (bkeep HBW1.out B2)
  have ne : w.heap.size + 1 ≠ gy := by have := HPR1.out.lt; omega
  have ne2 : gy ≠ w.heap.size + 1 := by omega
  have le : w.heap.size ≤ gy := by have := HPR1.out.lt; omega
  clear B2
  have HBy := Lib.hid By
  clear By
  go_upto_region 6 with fail
  refine region_lin0 (.val (fun v _ => v = .agg #[.int .i64 y.n, .int .i64 y.l, .int .i64 y.h, .int .i64 y.t, .int .u64 y.v, .int .u64 y.s]) :: .val (fun v _ => v = .agg #[.int .i64 a.n, .int .i64 a.l, .int .i64 a.h, .int .i64 a.t, .int .u64 a.v, .int .u64 a.s]) :: .val (fun v _ => v = .agg #[.int .i64 z.n, .int .i64 z.l, .int .i64 z.h, .int .i64 z.t, .int .u64 z.v, .int .u64 z.s]) :: [])
    ([] :: [] :: [(25, 0), (26, 1)] :: []) ((0, 0) :: (0, 0) :: (0, 0) :: []) 29 (by kernel_rfl) rfl rfl (by kernel_rfl) ⟨Stab.pure _ _ _, Stab.pure _ _ _, Stab.pure _ _ _, trivial⟩ ⟨?_, ?_, ?_, trivial⟩ ?_
  · intro wx hb
    intro K hK
    have mm := Box.below (HBy.out) hb (Box.lt (HBy.out))
    have m0 : wx.cell? ⟨gy, 0, none⟩ = some (.int .i64 y.n) := mm.cell 0
    have m1 : wx.cell? ⟨gy, 1, none⟩ = some (.int .i64 y.l) := mm.cell 1
    have m2 : wx.cell? ⟨gy, 2, none⟩ = some (.int .i64 y.h) := mm.cell 2
    have m3 : wx.cell? ⟨gy, 3, none⟩ = some (.int .i64 y.t) := mm.cell 3
    have m4 : wx.cell? ⟨gy, 4, none⟩ = some (.int .u64 y.v) := mm.cell 4
    have m5 : wx.cell? ⟨gy, 5, none⟩ = some (.int .u64 y.s) := mm.cell 5
    clear mm
    go_simp
    exact hK _ _ rfl ⟨rfl, Below.refl _ _⟩
  · intro wx hb
    intro K hK
    have mm := Box.below (HPA2.out) hb (Box.lt (HPA2.out))
    have m0 : wx.cell? ⟨w.heap.size, 0, none⟩ = some (.int .i64 a.n) := mm.cell 0
    have m1 : wx.cell? ⟨w.heap.size, 1, none⟩ = some (.int .i64 a.l) := mm.cell 1
    have m2 : wx.cell? ⟨w.heap.size, 2, none⟩ = some (.int .i64 a.h) := mm.cell 2
    have m3 : wx.cell? ⟨w.heap.size, 3, none⟩ = some (.int .i64 a.t) := mm.cell 3
    have m4 : wx.cell? ⟨w.heap.size, 4, none⟩ = some (.int .u64 a.v) := mm.cell 4
    have m5 : wx.cell? ⟨w.heap.size, 5, none⟩ = some (.int .u64 a.s) := mm.cell 5
    clear mm
    go_simp
    exact hK _ _ rfl ⟨rfl, Below.refl _ _⟩
  · intro wx hb
    rintro _ rfl
    rintro _ rfl
    intro K hK
    go_simp
    (with_reducible refine (H3.out _).mono ?_)
    rintro e wa ⟨rfl, Ba⟩
    exact hK _ _ rfl ⟨rfl, Ba⟩
  intro w3 B3
  rintro _ rfl
  rintro _ rfl
  rintro _ rfl
  rintro -
  simp only [Act.put, List.setIfInBounds_toArray, List.set_cons_zero, List.set_cons_succ, List.toList_toArray, List.length_cons, List.length_nil, List.drop_succ_cons, List.drop_zero, List.drop_nil, Nat.zero_add]
  have PR := HPR2.out.below B3 HPR2.out.lt; have PY := HBy.out.below B3 HBy.out.lt
  have HBW3 := Lib.hid (bkeep HBW2.out B3)
  have y0 : w3.cell? ⟨w.heap.size + 1, 0, none⟩ = some (.int .i64 0) := PR.cell 0
  have y1 : w3.cell? ⟨w.heap.size + 1, 1, none⟩ = some (.int .i64 0) := PR.cell 1
  have y2 : w3.cell? ⟨w.heap.size + 1, 2, none⟩ = some (.int .i64 0) := PR.cell 2
  have y3 : w3.cell? ⟨w.heap.size + 1, 3, none⟩ = some (.int .i64 0) := PR.cell 3
  have y4 : w3.cell? ⟨w.heap.size + 1, 4, none⟩ = some (.int .u64 0) := PR.cell 4
  have y5 : w3.cell? ⟨w.heap.size + 1, 5, none⟩ = some (.int .u64 0) := PR.cell 5
  have f0 := PR.free 0; have f1 := PR.free 1; have f2 := PR.free 2; have f3 := PR.free 3; have f4 := PR.free 4; have f5 := PR.free 5
  have q0 : w3.cell? ⟨gy, 0, none⟩ = some (.int .i64 y.n) := PY.cell 0
  have q1 : w3.cell? ⟨gy, 1, none⟩ = some (.int .i64 y.l) := PY.cell 1
  have q2 : w3.cell? ⟨gy, 2, none⟩ = some (.int .i64 y.h) := PY.cell 2
  have q3 : w3.cell? ⟨gy, 3, none⟩ = some (.int .i64 y.t) := PY.cell 3
  have q4 : w3.cell? ⟨gy, 4, none⟩ = some (.int .u64 y.v) := PY.cell 4
  have q5 : w3.cell? ⟨gy, 5, none⟩ = some (.int .u64 y.s) := PY.cell 5
  have g0 := PY.free 0; have g1 := PY.free 1; have g2 := PY.free 2; have g3 := PY.free 3; have g4 := PY.free 4; have g5 := PY.free 5
  clear B3 PR PY
  go_wp2_with fail
  refine bodyPost_ret (v := .agg #[.int .i64 z.n, .int .i64 z.l, .int .i64 z.h, .int .i64 z.t, .int .u64 z.v, .int .u64 z.s]) ?_ rfl ⟨rfl, ?_⟩
  · simp only [results, Try.results39]
    simp [go_sem, y0, y1, y2, y3, y4, y5, ne, ne2]
  · repeat (first | (with_reducible exact HBW3.out) | (with_reducible refine Below.setCell ?_ (by first | exact le | (simp <;> omega)) _))
theorem rtimes_any (a : Wt) (ea : vW a = true) (hv : 0 ≤ a.v) (k : Nat) : k ≤ 9223372036854775807 → a.n * k ≤ 1152921504606846976 → CT a k (repU a k) := by
  obtain ⟨_, _, _, an0, an1⟩ := fit_facts ea
  induction k using Nat.strongRecOn with
  | ind k ih =>
    intro hk hl w
    by_cases k0 : k = 0
    · have h := rtimes_zerok a k k0 w
      subst k0
      exact h
    · by_cases n0 : a.n = 0
      · have h := rtimes_zeron a k k0 hk n0 w
        have e : repU a k = uW := by rw [zero_u a ea hv n0]; exact rep_u _
        rw [e]; exact h
      · have hhalf : a.n * ((k / 2 : Nat) : Int) ≤ a.n * (k : Int) := Int.mul_le_mul_of_nonneg_left (by omega) an0
        have H1 : CTi a ((k : Int) / 2) (repU a (k / 2)) := ih (k / 2) (by omega) (by omega) (by omega)
        have vx := rep_valid a ea hv (k / 2) (by omega)
        have fx := fit_of vx (rep_v0 a (k / 2))
        have e2 : jnW (repU a (k / 2)) (repU a (k / 2)) = repU a (k / 2 + k / 2) := (rep_add a ea hv _ _ (by omega)).symm
        have e3 : a.n * ((k / 2 + k / 2 : Nat) : Int) ≤ a.n * (k : Int) := Int.mul_le_mul_of_nonneg_left (by omega) an0
        have fy := fit_of (rep_valid a ea hv (k / 2 + k / 2) (by omega)) (rep_v0 a (k / 2 + k / 2))
        have fa := fit_of ea hv
        have H2 : CJ (repU a (k / 2)) (repU a (k / 2)) (repU a (k / 2 + k / 2)) := fun w => by rw [← e2]; exact rjn_any _ _ fx fx w
        have H3 : CJ (repU a (k / 2 + k / 2)) a (repU a (k / 2 + k / 2 + 1)) := fun w => rjn_any _ _ fy fa w
        by_cases ho : k % 2 = 1
        · have h := rtimes_step1 a _ _ _ k (by rw [beq_eq_false_iff_ne]; omega) (by rw [beq_eq_false_iff_ne]; exact n0) hk (by rw [beq_iff_eq]; omega) (Lib.hid H1) (Lib.hid H2) (Lib.hid H3) w
          rwa [show k / 2 + k / 2 + 1 = k by omega] at h
        · have h := rtimes_step0 a _ _ _ k (by rw [beq_eq_false_iff_ne]; omega) (by rw [beq_eq_false_iff_ne]; exact n0) hk (by rw [beq_eq_false_iff_ne]; omega) (Lib.hid H1) (Lib.hid H2) (Lib.hid H3) w
          rwa [show k / 2 + k / 2 = k by omega] at h
set_option maxHeartbeats 4000000 in
theorem rrep_ok0 (a r : Wt) (K : Nat) (ha : WOk a) (k1 : (K : Int) ≤ 9223372036854775807) (ea : vW a = true) (hl : a.n * K ≤ 1152921504606846976) (nz : a.n = 0) (HT : Hid (CT a K r)) (w : World) :
    Calls Try.prog 25 #[.agg #[.int .i64 a.n, .int .i64 a.l, .int .i64 a.h, .int .i64 a.t, .int .u64 a.v, .int .u64 a.s], .int .i64 (K : Int)] w fun e w' => e = .returned (.tuple #[.agg #[.int .i64 r.n, .int .i64 r.l, .int .i64 r.h, .int .i64 r.t, .int .u64 r.v, .int .u64 r.s], .int .i64 0]) ∧ Below w.heap.size w w' := by
  obtain ⟨PA, PR, BW⟩ := two_ w a 26 #[.int .i64 0, .int .i64 0, .int .i64 0, .int .i64 0, .int .u64 0, .int .u64 0]
  have HA := Lib.hid (rvalid_v a ha _ ea)
  obtain ⟨_, _, _, an0, an1⟩ := fit_facts ea
  have kn : ¬ (K : Int) < 0 := by omega
  have nn : ¬ 0 < a.n := by omega
  clear ea hl nz
  go_enter Try.func25, Try.ntmps25
  go_upto_region 1 with fail
  refine region_lin0 (.val (fun v _ => v = .agg #[.int .i64 a.n, .int .i64 a.l, .int .i64 a.h, .int .i64 a.t, .int .u64 a.v, .int .u64 a.s]) :: .val (fun v _ => v = .bool true) :: .val (fun v _ => v = .bool false) :: [])
    ([] :: [(6, 0)] :: [(7, 1)] :: []) ((0, 0) :: (0, 0) :: (0, 0) :: []) 27 (by kernel_rfl) rfl rfl (by kernel_rfl) ⟨Stab.pure _ _ _, Stab.pure _ _ _, Stab.pure _ _ _, trivial⟩ ⟨?_, ?_, ?_, trivial⟩ ?_
  · intro wx hb
    intro K hK
    have mm := Box.below (PA) hb (Box.lt (PA))
    have m0 : wx.cell? ⟨w.heap.size, 0, none⟩ = some (.int .i64 a.n) := mm.cell 0
    have m1 : wx.cell? ⟨w.heap.size, 1, none⟩ = some (.int .i64 a.l) := mm.cell 1
    have m2 : wx.cell? ⟨w.heap.size, 2, none⟩ = some (.int .i64 a.h) := mm.cell 2
    have m3 : wx.cell? ⟨w.heap.size, 3, none⟩ = some (.int .i64 a.t) := mm.cell 3
    have m4 : wx.cell? ⟨w.heap.size, 4, none⟩ = some (.int .u64 a.v) := mm.cell 4
    have m5 : wx.cell? ⟨w.heap.size, 5, none⟩ = some (.int .u64 a.s) := mm.cell 5
    clear mm
    go_simp
    exact hK _ _ rfl ⟨rfl, Below.refl _ _⟩
  · intro wx hb
    rintro _ rfl
    intro K hK
    go_simp
    (with_reducible refine (HA.out _).mono ?_)
    rintro e wa ⟨rfl, Ba⟩
    exact hK _ _ rfl ⟨rfl, Ba⟩
  · intro wx hb
    rintro _ rfl
    intro K hK
    go_simp
    exact hK _ _ rfl ⟨rfl, Below.refl _ _⟩
  intro w1 B1
  have PA := Box.below PA B1 (Box.lt PA)
  have PR := Box.below PR B1 (Box.lt PR)
  have BW := bkeep BW B1
  rintro _ rfl
  rintro _ rfl
  rintro _ rfl
  rintro -
  simp only [Act.put, List.setIfInBounds_toArray, List.set_cons_zero, List.set_cons_succ, List.toList_toArray, List.length_cons, List.length_nil, List.drop_succ_cons, List.drop_zero, List.drop_nil, Nat.zero_add, wpList]
  have x0 : w1.cell? ⟨w.heap.size, 0, none⟩ = some (.int .i64 a.n) := PA.cell 0
  have HPA := Lib.hid PA; have HPR := Lib.hid PR; have HBW := Lib.hid BW
  clear B1 PA PR BW
  go_upto_region 7 with fail
  refine region_lin0 (.val (fun v _ => v = .agg #[.int .i64 a.n, .int .i64 a.l, .int .i64 a.h, .int .i64 a.t, .int .u64 a.v, .int .u64 a.s]) :: .val (fun v _ => v = .int .i64 (K : Int)) :: .val (fun v _ => v = .agg #[.int .i64 r.n, .int .i64 r.l, .int .i64 r.h, .int .i64 r.t, .int .u64 r.v, .int .u64 r.s]) :: [])
    ([] :: [] :: [(24, 0), (25, 1)] :: []) ((0, 0) :: (0, 0) :: (0, 0) :: []) 27 (by kernel_rfl) rfl rfl (by kernel_rfl) ⟨Stab.pure _ _ _, Stab.pure _ _ _, Stab.pure _ _ _, trivial⟩ ⟨?_, ?_, ?_, trivial⟩ ?_
  · intro wx hb
    intro K hK
    have mm := Box.below (HPA.out) hb (Box.lt (HPA.out))
    have m0 : wx.cell? ⟨w.heap.size, 0, none⟩ = some (.int .i64 a.n) := mm.cell 0
    have m1 : wx.cell? ⟨w.heap.size, 1, none⟩ = some (.int .i64 a.l) := mm.cell 1
    have m2 : wx.cell? ⟨w.heap.size, 2, none⟩ = some (.int .i64 a.h) := mm.cell 2
    have m3 : wx.cell? ⟨w.heap.size, 3, none⟩ = some (.int .i64 a.t) := mm.cell 3
    have m4 : wx.cell? ⟨w.heap.size, 4, none⟩ = some (.int .u64 a.v) := mm.cell 4
    have m5 : wx.cell? ⟨w.heap.size, 5, none⟩ = some (.int .u64 a.s) := mm.cell 5
    clear mm
    go_simp
    exact hK _ _ rfl ⟨rfl, Below.refl _ _⟩
  · intro wx hb
    intro K hK
    go_simp
    exact hK _ _ rfl ⟨rfl, Below.refl _ _⟩
  · intro wx hb
    rintro _ rfl
    rintro _ rfl
    intro K hK
    go_simp
    (with_reducible refine (HT.out _).mono ?_)
    rintro e wa ⟨rfl, Ba⟩
    exact hK _ _ rfl ⟨rfl, Ba⟩
  intro w2 B2
  rintro _ rfl
  rintro _ rfl
  rintro _ rfl
  rintro -
  simp only [Act.put, List.setIfInBounds_toArray, List.set_cons_zero, List.set_cons_succ, List.toList_toArray, List.length_cons, List.length_nil, List.drop_succ_cons, List.drop_zero, List.drop_nil, Nat.zero_add]
  have PR := HPR.out.below B2 HPR.out.lt
  have HBW2 := Lib.hid (bkeep HBW.out B2)
  have y0 : w2.cell? ⟨w.heap.size + 1, 0, none⟩ = some (.int .i64 0) := PR.cell 0
  have y1 : w2.cell? ⟨w.heap.size + 1, 1, none⟩ = some (.int .i64 0) := PR.cell 1
  have y2 : w2.cell? ⟨w.heap.size + 1, 2, none⟩ = some (.int .i64 0) := PR.cell 2
  have y3 : w2.cell? ⟨w.heap.size + 1, 3, none⟩ = some (.int .i64 0) := PR.cell 3
  have y4 : w2.cell? ⟨w.heap.size + 1, 4, none⟩ = some (.int .u64 0) := PR.cell 4
  have y5 : w2.cell? ⟨w.heap.size + 1, 5, none⟩ = some (.int .u64 0) := PR.cell 5
  have f0 := PR.free 0; have f1 := PR.free 1; have f2 := PR.free 2; have f3 := PR.free 3; have f4 := PR.free 4; have f5 := PR.free 5
  have lt := PR.lt
  clear B2 PR x0
  go_wp2_with fail
  refine bodyPost_ret (v := .tuple #[.agg #[.int .i64 r.n, .int .i64 r.l, .int .i64 r.h, .int .i64 r.t, .int .u64 r.v, .int .u64 r.s], .int .i64 0]) ?_ rfl ⟨rfl, ?_⟩
  · simp only [results, Try.results25]
    simp [go_sem, y0, y1, y2, y3, y4, y5]
  · exact ((((((HBW2.out.setCell (by simp <;> omega) _).setCell (by simp <;> omega) _).setCell (by simp <;> omega) _).setCell (by simp <;> omega) _).setCell (by simp <;> omega) _).setCell (by simp <;> omega) _)
set_option maxHeartbeats 4000000 in
theorem rrep_ok1 (a r : Wt) (K : Nat) (ha : WOk a) (k1 : (K : Int) ≤ 9223372036854775807) (ea : vW a = true) (hl : a.n * K ≤ 1152921504606846976) (nz : 0 < a.n) (HT : Hid (CT a K r)) (w : World) :
    Calls Try.prog 25 #[.agg #[.int .i64 a.n, .int .i64 a.l, .int .i64 a.h, .int .i64 a.t, .int .u64 a.v, .int .u64 a.s], .int .i64 (K : Int)] w fun e w' => e = .returned (.tuple #[.agg #[.int .i64 r.n, .int .i64 r.l, .int .i64 r.h, .int .i64 r.t, .int .u64 r.v, .int .u64 r.s], .int .i64 0]) ∧ Below w.heap.size w w' := by
  obtain ⟨PA, PR, BW⟩ := two_ w a 26 #[.int .i64 0, .int .i64 0, .int .i64 0, .int .i64 0, .int .u64 0, .int .u64 0]
  have HA := Lib.hid (rvalid_v a ha _ ea)
  obtain ⟨_, _, _, an0, an1⟩ := fit_facts ea
  have kn : ¬ (K : Int) < 0 := by omega
  have hq : (K : Int) ≤ 1152921504606846976 / a.n := (mul_le_iff a.n K nz).1 hl
  have tq : (1152921504606846976 : Int).tdiv a.n = 1152921504606846976 / a.n := Int.tdiv_eq_ediv_of_nonneg (by omega)
  have anz : ¬ a.n = 0 := by omega
  have q0 : 0 ≤ 1152921504606846976 / a.n := Int.ediv_nonneg (by omega) (by omega)
  have q1 : 1152921504606846976 / a.n ≤ 1152921504606846976 := Int.ediv_le_self _ (by omega)
  have qw := IntWalk.wrap64_in (1152921504606846976 / a.n) ⟨by omega, by omega⟩
  have qn : ¬ 1152921504606846976 / a.n < (K : Int) := by omega
  clear ea hl
  go_enter Try.func25, Try.ntmps25
  go_upto_region 1 with fail
  refine region_lin0 (.val (fun v _ => v = .agg #[.int .i64 a.n, .int .i64 a.l, .int .i64 a.h, .int .i64 a.t, .int .u64 a.v, .int .u64 a.s]) :: .val (fun v _ => v = .bool true) :: .val (fun v _ => v = .bool false) :: [])
    ([] :: [(6, 0)] :: [(7, 1)] :: []) ((0, 0) :: (0, 0) :: (0, 0) :: []) 27 (by kernel_rfl) rfl rfl (by kernel_rfl) ⟨Stab.pure _ _ _, Stab.pure _ _ _, Stab.pure _ _ _, trivial⟩ ⟨?_, ?_, ?_, trivial⟩ ?_
  · intro wx hb
    intro K hK
    have mm := Box.below (PA) hb (Box.lt (PA))
    have m0 : wx.cell? ⟨w.heap.size, 0, none⟩ = some (.int .i64 a.n) := mm.cell 0
    have m1 : wx.cell? ⟨w.heap.size, 1, none⟩ = some (.int .i64 a.l) := mm.cell 1
    have m2 : wx.cell? ⟨w.heap.size, 2, none⟩ = some (.int .i64 a.h) := mm.cell 2
    have m3 : wx.cell? ⟨w.heap.size, 3, none⟩ = some (.int .i64 a.t) := mm.cell 3
    have m4 : wx.cell? ⟨w.heap.size, 4, none⟩ = some (.int .u64 a.v) := mm.cell 4
    have m5 : wx.cell? ⟨w.heap.size, 5, none⟩ = some (.int .u64 a.s) := mm.cell 5
    clear mm
    go_simp
    exact hK _ _ rfl ⟨rfl, Below.refl _ _⟩
  · intro wx hb
    rintro _ rfl
    intro K hK
    go_simp
    (with_reducible refine (HA.out _).mono ?_)
    rintro e wa ⟨rfl, Ba⟩
    exact hK _ _ rfl ⟨rfl, Ba⟩
  · intro wx hb
    rintro _ rfl
    intro K hK
    go_simp
    exact hK _ _ rfl ⟨rfl, Below.refl _ _⟩
  intro w1 B1
  have PA := Box.below PA B1 (Box.lt PA)
  have PR := Box.below PR B1 (Box.lt PR)
  have BW := bkeep BW B1
  rintro _ rfl
  rintro _ rfl
  rintro _ rfl
  rintro -
  simp only [Act.put, List.setIfInBounds_toArray, List.set_cons_zero, List.set_cons_succ, List.toList_toArray, List.length_cons, List.length_nil, List.drop_succ_cons, List.drop_zero, List.drop_nil, Nat.zero_add, wpList]
  have x0 : w1.cell? ⟨w.heap.size, 0, none⟩ = some (.int .i64 a.n) := PA.cell 0
  have HPA := Lib.hid PA; have HPR := Lib.hid PR; have HBW := Lib.hid BW
  clear B1 PA PR BW
  go_upto_region 7 with fail
  refine region_lin0 (.val (fun v _ => v = .agg #[.int .i64 a.n, .int .i64 a.l, .int .i64 a.h, .int .i64 a.t, .int .u64 a.v, .int .u64 a.s]) :: .val (fun v _ => v = .int .i64 (K : Int)) :: .val (fun v _ => v = .agg #[.int .i64 r.n, .int .i64 r.l, .int .i64 r.h, .int .i64 r.t, .int .u64 r.v, .int .u64 r.s]) :: [])
    ([] :: [] :: [(24, 0), (25, 1)] :: []) ((0, 0) :: (0, 0) :: (0, 0) :: []) 27 (by kernel_rfl) rfl rfl (by kernel_rfl) ⟨Stab.pure _ _ _, Stab.pure _ _ _, Stab.pure _ _ _, trivial⟩ ⟨?_, ?_, ?_, trivial⟩ ?_
  · intro wx hb
    intro K hK
    have mm := Box.below (HPA.out) hb (Box.lt (HPA.out))
    have m0 : wx.cell? ⟨w.heap.size, 0, none⟩ = some (.int .i64 a.n) := mm.cell 0
    have m1 : wx.cell? ⟨w.heap.size, 1, none⟩ = some (.int .i64 a.l) := mm.cell 1
    have m2 : wx.cell? ⟨w.heap.size, 2, none⟩ = some (.int .i64 a.h) := mm.cell 2
    have m3 : wx.cell? ⟨w.heap.size, 3, none⟩ = some (.int .i64 a.t) := mm.cell 3
    have m4 : wx.cell? ⟨w.heap.size, 4, none⟩ = some (.int .u64 a.v) := mm.cell 4
    have m5 : wx.cell? ⟨w.heap.size, 5, none⟩ = some (.int .u64 a.s) := mm.cell 5
    clear mm
    go_simp
    exact hK _ _ rfl ⟨rfl, Below.refl _ _⟩
  · intro wx hb
    intro K hK
    go_simp
    exact hK _ _ rfl ⟨rfl, Below.refl _ _⟩
  · intro wx hb
    rintro _ rfl
    rintro _ rfl
    intro K hK
    go_simp
    (with_reducible refine (HT.out _).mono ?_)
    rintro e wa ⟨rfl, Ba⟩
    exact hK _ _ rfl ⟨rfl, Ba⟩
  intro w2 B2
  rintro _ rfl
  rintro _ rfl
  rintro _ rfl
  rintro -
  simp only [Act.put, List.setIfInBounds_toArray, List.set_cons_zero, List.set_cons_succ, List.toList_toArray, List.length_cons, List.length_nil, List.drop_succ_cons, List.drop_zero, List.drop_nil, Nat.zero_add]
  have PR := HPR.out.below B2 HPR.out.lt
  have HBW2 := Lib.hid (bkeep HBW.out B2)
  have y0 : w2.cell? ⟨w.heap.size + 1, 0, none⟩ = some (.int .i64 0) := PR.cell 0
  have y1 : w2.cell? ⟨w.heap.size + 1, 1, none⟩ = some (.int .i64 0) := PR.cell 1
  have y2 : w2.cell? ⟨w.heap.size + 1, 2, none⟩ = some (.int .i64 0) := PR.cell 2
  have y3 : w2.cell? ⟨w.heap.size + 1, 3, none⟩ = some (.int .i64 0) := PR.cell 3
  have y4 : w2.cell? ⟨w.heap.size + 1, 4, none⟩ = some (.int .u64 0) := PR.cell 4
  have y5 : w2.cell? ⟨w.heap.size + 1, 5, none⟩ = some (.int .u64 0) := PR.cell 5
  have f0 := PR.free 0; have f1 := PR.free 1; have f2 := PR.free 2; have f3 := PR.free 3; have f4 := PR.free 4; have f5 := PR.free 5
  have lt := PR.lt
  clear B2 PR x0
  go_wp2_with fail
  refine bodyPost_ret (v := .tuple #[.agg #[.int .i64 r.n, .int .i64 r.l, .int .i64 r.h, .int .i64 r.t, .int .u64 r.v, .int .u64 r.s], .int .i64 0]) ?_ rfl ⟨rfl, ?_⟩
  · simp only [results, Try.results25]
    simp [go_sem, y0, y1, y2, y3, y4, y5]
  · exact ((((((HBW2.out.setCell (by simp <;> omega) _).setCell (by simp <;> omega) _).setCell (by simp <;> omega) _).setCell (by simp <;> omega) _).setCell (by simp <;> omega) _).setCell (by simp <;> omega) _)
theorem rrep_any (a : Wt) (k : Int) (ha : WOk a) (k0 : -9223372036854775808 ≤ k) (k1 : k ≤ 9223372036854775807) (w : World) :
    Calls Try.prog 25 #[.agg #[.int .i64 a.n, .int .i64 a.l, .int .i64 a.h, .int .i64 a.t, .int .u64 a.v, .int .u64 a.s], .int .i64 k] w fun e w' => e = .returned (.tuple #[.agg #[.int .i64 (repW a k).1.n, .int .i64 (repW a k).1.l, .int .i64 (repW a k).1.h, .int .i64 (repW a k).1.t, .int .u64 (repW a k).1.v, .int .u64 (repW a k).1.s], .int .i64 (repW a k).2]) ∧ Below w.heap.size w w' := by
  unfold repW
  cases ea : vW a with
  | false => simpa [ea] using rrep_bad a k ha k0 k1 ea w
  | true =>
    by_cases kp : 0 ≤ k
    · by_cases hl : a.n * k ≤ 1152921504606846976
      · obtain ⟨K, rfl⟩ := Int.eq_ofNat_of_zero_le kp
        have HT := Lib.hid (rtimes_any a ea ha.uv.lo K (by omega) hl)
        obtain ⟨_, _, _, an0, an1⟩ := fit_facts ea
        by_cases nz : 0 < a.n
        · simpa [ea, kp, hl] using rrep_ok1 a _ K ha k1 ea hl nz HT w
        · simpa [ea, kp, hl] using rrep_ok0 a _ K ha k1 ea hl (by omega) HT w
      · simpa [ea, kp, hl] using rrep_long a k ha k0 k1 ea kp hl w
    · simpa [ea, kp] using rrep_neg a k ha k0 k1 ea (by omega) w
set_option maxHeartbeats 2000000 in
theorem law_wrepeats (a : Wt) (k : Int) (ha : WOk a) (k0 : -9223372036854775808 ≤ k) (k1 : k ≤ 9223372036854775807) (w : World) :
    Calls Try.prog 8 #[.agg #[.int .i64 a.n, .int .i64 a.l, .int .i64 a.h, .int .i64 a.t, .int .u64 a.v, .int .u64 a.s], .int .i64 k] w fun e w' => e = .returned (.bool true) ∧ Below w.heap.size w w' := by
  have h1 := wrep_any a k ha k0 k1; have h2 := rrep_any a k ha k0 k1
  generalize repW a k = q at h1 h2
  obtain ⟨r, c⟩ := q
  have H1 := Lib.hid h1; have H2 := Lib.hid h2
  have HPA := Lib.hid (Box.new w 26 #[.int .i64 a.n, .int .i64 a.l, .int .i64 a.h, .int .i64 a.t, .int .u64 a.v, .int .u64 a.s])
  obtain ⟨ev, hev⟩ : ∃ ev, ev = errv c := ⟨_, rfl⟩
  have HN := Lib.hid (num_any c)
  rw [← hev] at HN
  simp only [← hev] at H1
  clear h1 h2 hev
  go_enter Try.func8, Try.ntmps8
  go_upto_region 1 with fail
  refine region_lin0 (.val (fun v _ => v = .agg #[.int .i64 a.n, .int .i64 a.l, .int .i64 a.h, .int .i64 a.t, .int .u64 a.v, .int .u64 a.s]) :: .val (fun v _ => v = .int .i64 k) :: .val (fun v _ => v = .tuple #[.agg #[.int .i64 r.n, .int .i64 r.l, .int .i64 r.h, .int .i64 r.t, .int .u64 r.v, .int .u64 r.s], ev]) :: .val (fun v _ => v = .tuple #[.agg #[.int .i64 r.n, .int .i64 r.l, .int .i64 r.h, .int .i64 r.t, .int .u64 r.v, .int .u64 r.s], ev]) :: .val (fun v _ => v = .agg #[.int .i64 r.n, .int .i64 r.l, .int .i64 r.h, .int .i64 r.t, .int .u64 r.v, .int .u64 r.s]) :: .val (fun v _ => v = ev) :: .new 26 #[.int .i64 0, .int .i64 0, .int .i64 0, .int .i64 0, .int .u64 0, .int .u64 0] #[.int .i64 r.n, .int .i64 r.l, .int .i64 r.h, .int .i64 r.t, .int .u64 r.v, .int .u64 r.s] 7 :: .put 26 #[.int .i64 0, .int .i64 0, .int .i64 0, .int .i64 0, .int .u64 0, .int .u64 0] #[.int .i64 r.n, .int .i64 r.l, .int .i64 r.h, .int .i64 r.t, .int .u64 r.v, .int .u64 r.s] 5 :: .val (fun v _ => v = ev) :: [])
    ([] :: [] :: [(10, 0), (11, 1)] :: [(12, 2)] :: [(9, 3)] :: [(9, 3)] :: [] :: [(13, 4)] :: [(14, 5)] :: []) ((0, 0) :: (0, 0) :: (0, 0) :: (0, 0) :: (0, 0) :: (0, 0) :: (1, 7) :: (2, 5) :: (0, 0) :: []) 33 (by kernel_rfl) rfl rfl (by kernel_rfl) ⟨Stab.pure _ _ _, Stab.pure _ _ _, Stab.pure _ _ _, Stab.pure _ _ _, Stab.pure _ _ _, Stab.pure _ _ _, ⟨rfl, rfl, rfl⟩, Stab.pure _ _ _, trivial⟩ ⟨?_, ?_, ?_, ?_, ?_, ?_, ?_, ?_, ?_, trivial⟩ ?_
  · intro wx hb
    intro K hK
    have mm := Box.below (HPA.out) hb (Box.lt (HPA.out))
    have m0 : wx.cell? ⟨w.heap.size, 0, none⟩ = some (.int .i64 a.n) := mm.cell 0
    have m1 : wx.cell? ⟨w.heap.size, 1, none⟩ = some (.int .i64 a.l) := mm.cell 1
    have m2 : wx.cell? ⟨w.heap.size, 2, none⟩ = some (.int .i64 a.h) := mm.cell 2
    have m3 : wx.cell? ⟨w.heap.size, 3, none⟩ = some (.int .i64 a.t) := mm.cell 3
    have m4 : wx.cell? ⟨w.heap.size, 4, none⟩ = some (.int .u64 a.v) := mm.cell 4
    have m5 : wx.cell? ⟨w.heap.size, 5, none⟩ = some (.int .u64 a.s) := mm.cell 5
    clear mm
    go_simp
    exact hK _ _ rfl ⟨rfl, Below.refl _ _⟩
  · intro wx hb
    intro K hK
    go_simp
    exact hK _ _ rfl ⟨rfl, Below.refl _ _⟩
  · intro wx hb
    rintro _ rfl
    rintro _ rfl
    intro K hK
    go_simp
    (with_reducible refine (H1.out _).mono ?_)
    rintro e wa ⟨rfl, Ba⟩
    exact hK _ _ rfl ⟨rfl, Ba⟩
  · intro wx hb
    rintro _ rfl
    intro K hK
    go_simp
    exact hK _ _ rfl ⟨rfl, Below.refl _ _⟩
  · intro wx hb
    rintro _ rfl
    intro K hK
    go_simp
    exact hK _ _ rfl ⟨rfl, Below.refl _ _⟩
  · intro wx hb
    rintro _ rfl
    intro K hK
    go_simp
    exact hK _ _ rfl ⟨rfl, Below.refl _ _⟩
  · intro wx hb
    intro K hK
    go_simp
    exact hK _ _ rfl ⟨rfl, rfl⟩
  · intro wx hb
    intro g hg hbx
    rintro _ rfl
    intro K hK
    have c0 : wx.cell? ⟨g, 0, none⟩ = some (.int .i64 0) := hbx.cell 0
    have f0 := hbx.free 0
    have c1 : wx.cell? ⟨g, 1, none⟩ = some (.int .i64 0) := hbx.cell 1
    have f1 := hbx.free 1
    have c2 : wx.cell? ⟨g, 2, none⟩ = some (.int .i64 0) := hbx.cell 2
    have f2 := hbx.free 2
    have c3 : wx.cell? ⟨g, 3, none⟩ = some (.int .i64 0) := hbx.cell 3
    have f3 := hbx.free 3
    have c4 : wx.cell? ⟨g, 4, none⟩ = some (.int .u64 0) := hbx.cell 4
    have f4 := hbx.free 4
    have c5 : wx.cell? ⟨g, 5, none⟩ = some (.int .u64 0) := hbx.cell 5
    have f5 := hbx.free 5
    clear hb
    go_simp
    exact hK _ _ rfl ((((((((Stored.start hbx).set 0 _).set 1 _).set 2 _).set 3 _).set 4 _).set 5 _))
  · intro wx hb
    intro vq hq; have hq : vq = ev := hq; subst vq
    intro K hK
    go_simp
    exact hK _ _ rfl ⟨rfl, Below.refl _ _⟩
  intro w1 B1
  rintro _ rfl
  rintro _ rfl
  rintro _ rfl
  rintro _ rfl
  rintro _ rfl
  intro vq hq; have hq : vq = ev := hq; subst vq
  intro gx hgx Bx
  intro vq hq; have hq : vq = ev := hq; subst vq
  rintro -
  simp only [Act.put, List.setIfInBounds_toArray, List.set_cons_zero, List.set_cons_succ, List.toList_toArray, List.length_cons, List.length_nil, List.drop_succ_cons, List.drop_zero, List.drop_nil, Nat.zero_add, wpList]
  have HPA1 := Lib.hid (HPA.out.below B1 HPA.out.lt)
  have BW := bkeep (balloc (Below.refl w.heap.size w) (.cells #[.int .i64 a.n, .int .i64 a.l, .int .i64 a.h, .int .i64 a.t, .int .u64 a.v, .int .u64 a.s] 26)) B1
  clear B1
  go_upto_region 2 with fail
  refine region_lin0 (.val (fun v _ => v = .agg #[.int .i64 a.n, .int .i64 a.l, .int .i64 a.h, .int .i64 a.t, .int .u64 a.v, .int .u64 a.s]) :: .val (fun v _ => v = .int .i64 k) :: .val (fun v _ => v = .tuple #[.agg #[.int .i64 r.n, .int .i64 r.l, .int .i64 r.h, .int .i64 r.t, .int .u64 r.v, .int .u64 r.s], .int .i64 c]) :: .val (fun v _ => v = .tuple #[.agg #[.int .i64 r.n, .int .i64 r.l, .int .i64 r.h, .int .i64 r.t, .int .u64 r.v, .int .u64 r.s], .int .i64 c]) :: .val (fun v _ => v = .agg #[.int .i64 r.n, .int .i64 r.l, .int .i64 r.h, .int .i64 r.t, .int .u64 r.v, .int .u64 r.s]) :: .val (fun v _ => v = .int .i64 c) :: .new 26 #[.int .i64 0, .int .i64 0, .int .i64 0, .int .i64 0, .int .u64 0, .int .u64 0] #[.int .i64 r.n, .int .i64 r.l, .int .i64 r.h, .int .i64 r.t, .int .u64 r.v, .int .u64 r.s] 7 :: .put 26 #[.int .i64 0, .int .i64 0, .int .i64 0, .int .i64 0, .int .u64 0, .int .u64 0] #[.int .i64 r.n, .int .i64 r.l, .int .i64 r.h, .int .i64 r.t, .int .u64 r.v, .int .u64 r.s] 7 :: .val (fun v _ => v = .int .i64 c) :: [])
    ([] :: [] :: [(16, 0), (17, 1)] :: [(18, 2)] :: [(15, 3)] :: [(15, 3)] :: [] :: [(19, 4)] :: [(20, 5)] :: []) ((0, 0) :: (0, 0) :: (0, 0) :: (0, 0) :: (0, 0) :: (0, 0) :: (1, 7) :: (2, 7) :: (0, 0) :: []) 33 (by kernel_rfl) rfl rfl (by kernel_rfl) ⟨Stab.pure _ _ _, Stab.pure _ _ _, Stab.pure _ _ _, Stab.pure _ _ _, Stab.pure _ _ _, Stab.pure _ _ _, ⟨rfl, rfl, rfl⟩, Stab.pure _ _ _, trivial⟩ ⟨?_, ?_, ?_, ?_, ?_, ?_, ?_, ?_, ?_, trivial⟩ ?_
  · intro wx hb
    intro K hK
    have mm := Box.below (HPA1.out) hb (Box.lt (HPA1.out))
    have m0 : wx.cell? ⟨w.heap.size, 0, none⟩ = some (.int .i64 a.n) := mm.cell 0
    have m1 : wx.cell? ⟨w.heap.size, 1, none⟩ = some (.int .i64 a.l) := mm.cell 1
    have m2 : wx.cell? ⟨w.heap.size, 2, none⟩ = some (.int .i64 a.h) := mm.cell 2
    have m3 : wx.cell? ⟨w.heap.size, 3, none⟩ = some (.int .i64 a.t) := mm.cell 3
    have m4 : wx.cell? ⟨w.heap.size, 4, none⟩ = some (.int .u64 a.v) := mm.cell 4
    have m5 : wx.cell? ⟨w.heap.size, 5, none⟩ = some (.int .u64 a.s) := mm.cell 5
    clear mm
    go_simp
    exact hK _ _ rfl ⟨rfl, Below.refl _ _⟩
  · intro wx hb
    intro K hK
    go_simp
    exact hK _ _ rfl ⟨rfl, Below.refl _ _⟩
  · intro wx hb
    rintro _ rfl
    rintro _ rfl
    intro K hK
    go_simp
    (with_reducible refine (H2.out _).mono ?_)
    rintro e wa ⟨rfl, Ba⟩
    exact hK _ _ rfl ⟨rfl, Ba⟩
  · intro wx hb
    rintro _ rfl
    intro K hK
    go_simp
    exact hK _ _ rfl ⟨rfl, Below.refl _ _⟩
  · intro wx hb
    rintro _ rfl
    intro K hK
    go_simp
    exact hK _ _ rfl ⟨rfl, Below.refl _ _⟩
  · intro wx hb
    rintro _ rfl
    intro K hK
    go_simp
    exact hK _ _ rfl ⟨rfl, Below.refl _ _⟩
  · intro wx hb
    intro K hK
    go_simp
    exact hK _ _ rfl ⟨rfl, rfl⟩
  · intro wx hb
    intro g hg hbx
    rintro _ rfl
    intro K hK
    have c0 : wx.cell? ⟨g, 0, none⟩ = some (.int .i64 0) := hbx.cell 0
    have f0 := hbx.free 0
    have c1 : wx.cell? ⟨g, 1, none⟩ = some (.int .i64 0) := hbx.cell 1
    have f1 := hbx.free 1
    have c2 : wx.cell? ⟨g, 2, none⟩ = some (.int .i64 0) := hbx.cell 2
    have f2 := hbx.free 2
    have c3 : wx.cell? ⟨g, 3, none⟩ = some (.int .i64 0) := hbx.cell 3
    have f3 := hbx.free 3
    have c4 : wx.cell? ⟨g, 4, none⟩ = some (.int .u64 0) := hbx.cell 4
    have f4 := hbx.free 4
    have c5 : wx.cell? ⟨g, 5, none⟩ = some (.int .u64 0) := hbx.cell 5
    have f5 := hbx.free 5
    clear hb
    go_simp
    exact hK _ _ rfl ((((((((Stored.start hbx).set 0 _).set 1 _).set 2 _).set 3 _).set 4 _).set 5 _))
  · intro wx hb
    rintro _ rfl
    intro K hK
    go_simp
    exact hK _ _ rfl ⟨rfl, Below.refl _ _⟩
  intro w2 B2
  have Bx := Box.below Bx B2 (Box.lt Bx)
  have BW := bkeep BW B2
  rintro _ rfl
  rintro _ rfl
  rintro _ rfl
  rintro _ rfl
  rintro _ rfl
  rintro _ rfl
  intro gy hgy By
  rintro _ rfl
  rintro -
  simp only [Act.put, List.setIfInBounds_toArray, List.set_cons_zero, List.set_cons_succ, List.toList_toArray, List.length_cons, List.length_nil, List.drop_succ_cons, List.drop_zero, List.drop_nil, Nat.zero_add, wpList]
  clear B2
  go_upto_region 3 with fail
  refine region_lin0 (.val (fun v _ => v = .bool true) :: .val (fun v _ => v = .bool true) :: .val (fun v _ => v = .agg #[.int .i64 r.n, .int .i64 r.l, .int .i64 r.h, .int .i64 r.t, .int .u64 r.v, .int .u64 r.s]) :: .val (fun v _ => v = .agg #[.int .i64 r.n, .int .i64 r.l, .int .i64 r.h, .int .i64 r.t, .int .u64 r.v, .int .u64 r.s]) :: .val (fun v _ => v = .bool true) :: .val (fun v _ => v = .bool true) :: .val (fun v _ => v = .bool true) :: .val (fun v _ => v = ev) :: .val (fun v _ => v = .int .i64 c) :: .val (fun v _ => v = .int .i64 c) :: .val (fun v _ => v = .bool true) :: .val (fun v _ => v = .bool true) :: .val (fun v _ => v = .bool true) :: [])
    ([] :: [(21, 0)] :: [(22, 1)] :: [(22, 1)] :: [(23, 2), (24, 3), (22, 1)] :: [(22, 1), (25, 4)] :: [(26, 5)] :: [(27, 6)] :: [(28, 7), (27, 6)] :: [(27, 6)] :: [(29, 8), (30, 9), (27, 6)] :: [(27, 6), (31, 10)] :: [(32, 11)] :: []) ((0, 0) :: (0, 0) :: (0, 0) :: (0, 0) :: (0, 0) :: (0, 0) :: (0, 0) :: (0, 0) :: (0, 0) :: (0, 0) :: (0, 0) :: (0, 0) :: (0, 0) :: []) 33 (by kernel_rfl) rfl rfl (by kernel_rfl) ⟨Stab.pure _ _ _, Stab.pure _ _ _, Stab.pure _ _ _, Stab.pure _ _ _, Stab.pure _ _ _, Stab.pure _ _ _, Stab.pure _ _ _, Stab.pure _ _ _, Stab.pure _ _ _, Stab.pure _ _ _, Stab.pure _ _ _, Stab.pure _ _ _, Stab.pure _ _ _, trivial⟩ ⟨?_, ?_, ?_, ?_, ?_, ?_, ?_, ?_, ?_, ?_, ?_, ?_, ?_, trivial⟩ ?_
  · intro wx hb
    intro K hK
    go_simp
    (with_reducible refine (alive_any _).mono ?_)
    rintro e wa ⟨rfl, Ba⟩
    exact hK _ _ rfl ⟨rfl, Ba⟩
  · intro wx hb
    rintro _ rfl
    intro K hK
    go_simp
    exact hK _ _ rfl ⟨rfl, Below.refl _ _⟩
  · intro wx hb
    rintro _ rfl
    refine ⟨fun _ => ?_, fun h => absurd (show true = false from h) (by decide)⟩
    intro K hK
    have mm := Box.below (Bx) hb (Box.lt (Bx))
    have m0 : wx.cell? ⟨gx, 0, none⟩ = some (.int .i64 r.n) := mm.cell 0
    have m1 : wx.cell? ⟨gx, 1, none⟩ = some (.int .i64 r.l) := mm.cell 1
    have m2 : wx.cell? ⟨gx, 2, none⟩ = some (.int .i64 r.h) := mm.cell 2
    have m3 : wx.cell? ⟨gx, 3, none⟩ = some (.int .i64 r.t) := mm.cell 3
    have m4 : wx.cell? ⟨gx, 4, none⟩ = some (.int .u64 r.v) := mm.cell 4
    have m5 : wx.cell? ⟨gx, 5, none⟩ = some (.int .u64 r.s) := mm.cell 5
    clear mm
    go_simp
    exact hK _ _ rfl ⟨rfl, Below.refl _ _⟩
  · intro wx hb
    rintro _ rfl
    refine ⟨fun _ => ?_, fun h => absurd (show true = false from h) (by decide)⟩
    intro K hK
    have mm := Box.below (By) hb (Box.lt (By))
    have m0 : wx.cell? ⟨gy, 0, none⟩ = some (.int .i64 r.n) := mm.cell 0
    have m1 : wx.cell? ⟨gy, 1, none⟩ = some (.int .i64 r.l) := mm.cell 1
    have m2 : wx.cell? ⟨gy, 2, none⟩ = some (.int .i64 r.h) := mm.cell 2
    have m3 : wx.cell? ⟨gy, 3, none⟩ = some (.int .i64 r.t) := mm.cell 3
    have m4 : wx.cell? ⟨gy, 4, none⟩ = some (.int .u64 r.v) := mm.cell 4
    have m5 : wx.cell? ⟨gy, 5, none⟩ = some (.int .u64 r.s) := mm.cell 5
    clear mm
    go_simp
    exact hK _ _ rfl ⟨rfl, Below.refl _ _⟩
  · intro wx hb
    rintro _ rfl
    rintro _ rfl
    rintro _ rfl
    refine ⟨fun _ => ?_, fun h => absurd (show true = false from h) (by decide)⟩
    intro K hK
    go_simp
    exact hK _ _ rfl ⟨rfl, Below.refl _ _⟩
  · intro wx hb
    rintro _ rfl
    rintro _ rfl
    intro K hK
    go_simp
    exact hK _ _ rfl ⟨rfl, Below.refl _ _⟩
  · intro wx hb
    rintro _ rfl
    intro K hK
    go_simp
    exact hK _ _ rfl ⟨rfl, Below.refl _ _⟩
  · intro wx hb
    rintro _ rfl
    refine ⟨fun _ => ?_, fun h => absurd (show true = false from h) (by decide)⟩
    intro K hK
    go_simp
    exact hK _ _ rfl ⟨rfl, Below.refl _ _⟩
  · intro wx hb
    intro vq hq; have hq : vq = ev := hq; subst vq
    rintro _ rfl
    refine ⟨fun _ => ?_, fun h => absurd (show true = false from h) (by decide)⟩
    intro K hK
    go_simp
    (with_reducible refine (HN.out _).mono ?_)
    rintro e wa ⟨rfl, rfl⟩
    exact hK _ _ rfl ⟨rfl, Below.refl _ _⟩
  · intro wx hb
    rintro _ rfl
    refine ⟨fun _ => ?_, fun h => absurd (show true = false from h) (by decide)⟩
    intro K hK
    go_simp
    exact hK _ _ rfl ⟨rfl, Below.refl _ _⟩
  · intro wx hb
    rintro _ rfl
    rintro _ rfl
    rintro _ rfl
    refine ⟨fun _ => ?_, fun h => absurd (show true = false from h) (by decide)⟩
    intro K hK
    go_simp
    exact hK _ _ rfl ⟨rfl, Below.refl _ _⟩
  · intro wx hb
    rintro _ rfl
    rintro _ rfl
    intro K hK
    go_simp
    exact hK _ _ rfl ⟨rfl, Below.refl _ _⟩
  · intro wx hb
    rintro _ rfl
    intro K hK
    go_simp
    exact hK _ _ rfl ⟨rfl, Below.refl _ _⟩
  intro w3 B3
  have BW := bkeep BW B3
  rintro _ rfl
  rintro _ rfl
  rintro _ rfl
  rintro _ rfl
  rintro _ rfl
  rintro _ rfl
  rintro _ rfl
  intro vq hq; have hq : vq = ev := hq; subst vq
  rintro _ rfl
  rintro _ rfl
  rintro _ rfl
  rintro _ rfl
  rintro _ rfl
  rintro -
  simp only [Act.put, List.setIfInBounds_toArray, List.set_cons_zero, List.set_cons_succ, List.toList_toArray, List.length_cons, List.length_nil, List.drop_succ_cons, List.drop_zero, List.drop_nil, Nat.zero_add, wpList]
  go_wp2_with fail
  go_ret
  exact ⟨rfl, BW⟩
end Go.Proofs.Ytbapmolpfdiknaa
