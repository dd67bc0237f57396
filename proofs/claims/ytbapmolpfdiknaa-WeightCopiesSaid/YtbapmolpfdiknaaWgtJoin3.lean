/- The walks of evergreenref06.join, Join; both Joins, whole; the law WeightJoins. -/
import Derived.Test.YtbapmolpfdiknaaWgtJoin2
namespace Go.Proofs.Ytbapmolpfdiknaa
set_option linter.unusedVariables false
set_option linter.unusedSimpArgs false
open Go.RowKit Go.Lib
attribute [local go_sem ↓] Go.wp_at_zero Go.wp_at_succ
theorem four (w : World) (a b : Wt) (t : TypeId) (z x : Array Value) :
    Box ((((w.alloc (.cells #[.int .i64 a.n, .int .i64 a.l, .int .i64 a.h, .int .i64 a.t, .int .u64 a.v, .int .u64 a.s] t)).alloc (.cells #[.int .i64 b.n, .int .i64 b.l, .int .i64 b.h, .int .i64 b.t, .int .u64 b.v, .int .u64 b.s] t)).alloc (.cells z t)).alloc (.cells x t)) w.heap.size t #[.int .i64 a.n, .int .i64 a.l, .int .i64 a.h, .int .i64 a.t, .int .u64 a.v, .int .u64 a.s] ∧
    Box ((((w.alloc (.cells #[.int .i64 a.n, .int .i64 a.l, .int .i64 a.h, .int .i64 a.t, .int .u64 a.v, .int .u64 a.s] t)).alloc (.cells #[.int .i64 b.n, .int .i64 b.l, .int .i64 b.h, .int .i64 b.t, .int .u64 b.v, .int .u64 b.s] t)).alloc (.cells z t)).alloc (.cells x t)) (w.heap.size + 1) t #[.int .i64 b.n, .int .i64 b.l, .int .i64 b.h, .int .i64 b.t, .int .u64 b.v, .int .u64 b.s] ∧
    Box ((((w.alloc (.cells #[.int .i64 a.n, .int .i64 a.l, .int .i64 a.h, .int .i64 a.t, .int .u64 a.v, .int .u64 a.s] t)).alloc (.cells #[.int .i64 b.n, .int .i64 b.l, .int .i64 b.h, .int .i64 b.t, .int .u64 b.v, .int .u64 b.s] t)).alloc (.cells z t)).alloc (.cells x t)) (w.heap.size + 1 + 1) t z ∧
    Box ((((w.alloc (.cells #[.int .i64 a.n, .int .i64 a.l, .int .i64 a.h, .int .i64 a.t, .int .u64 a.v, .int .u64 a.s] t)).alloc (.cells #[.int .i64 b.n, .int .i64 b.l, .int .i64 b.h, .int .i64 b.t, .int .u64 b.v, .int .u64 b.s] t)).alloc (.cells z t)).alloc (.cells x t)) (w.heap.size + 1 + 1 + 1) t x ∧
    Below w.heap.size w ((((w.alloc (.cells #[.int .i64 a.n, .int .i64 a.l, .int .i64 a.h, .int .i64 a.t, .int .u64 a.v, .int .u64 a.s] t)).alloc (.cells #[.int .i64 b.n, .int .i64 b.l, .int .i64 b.h, .int .i64 b.t, .int .u64 b.v, .int .u64 b.s] t)).alloc (.cells z t)).alloc (.cells x t)) :=
  ⟨(((Box.new w _ _).alloc _).alloc _).alloc _, ((Box.new_ (by simp)).alloc _).alloc _, (Box.new_ (by simp)).alloc _, Box.new_ (by simp), balloc (balloc (balloc (balloc (Below.refl _ _) _) _) _) _⟩
set_option maxHeartbeats 4000000 in
theorem rjn_ok00 (a b : Wt) (fa : Fit a) (fb : Fit b) (la : (a.l == 0) = true) (lb : (b.l == 0) = true) (w : World) :
    Calls Try.prog 36 #[.agg #[.int .i64 a.n, .int .i64 a.l, .int .i64 a.h, .int .i64 a.t, .int .u64 a.v, .int .u64 a.s], .agg #[.int .i64 b.n, .int .i64 b.l, .int .i64 b.h, .int .i64 b.t, .int .u64 b.v, .int .u64 b.s]] w fun e w' => e = .returned (.agg #[.int .i64 (a.n + b.n), .int .i64 (a.l + b.l), .int .i64 (a.n + b.h), .int .i64 (b.n + a.t), .int .u64 (red (a.v * b.s + b.v)), .int .u64 (red (a.s * b.s))]) ∧ Below w.heap.size w w' := by
  obtain ⟨PA, PB, PR, PX, BW⟩ := four w a b 26 #[.int .i64 0, .int .i64 0, .int .i64 0, .int .i64 0, .int .u64 0, .int .u64 0] #[.int .i64 (a.n + b.n), .int .i64 (a.l + b.l), .int .i64 (a.n + b.h), .int .i64 (b.n + a.t), .int .u64 0, .int .u64 0]
  have an0 := fa.n0; have an1 := fa.n1; have bn0 := fb.n0; have bn1 := fb.n1
  have al0 := fa.l0; have al1 := fa.l1; have bl0 := fb.l0; have bl1 := fb.l1
  have ah0 := fa.h0; have ah1 := fa.h1; have bh0 := fb.h0; have bh1 := fb.h1
  have at0 := fa.t0; have at1 := fa.t1; have bt0 := fb.t0; have bt1 := fb.t1
  have av0 := fa.v0; have av1 := fa.v1; have bv0 := fb.v0; have bv1 := fb.v1
  have as0 := fa.s0; have as1 := fa.s1; have bs0 := fb.s0; have bs1 := fb.s1
  have m0 := red_lo (a.v * b.s); have m1 := red_hi (a.v * b.s)
  have n1 : w.heap.size < w.heap.size + 1 + 1 := by omega
  have n2 : w.heap.size < w.heap.size + 1 + 1 + 1 := by omega
  have n3 : w.heap.size + 1 < w.heap.size + 1 + 1 + 1 := by omega
  have HPA := Lib.hid PA; have HPB := Lib.hid PB; have HPR := Lib.hid PR; have HPX := Lib.hid PX; have HBW := Lib.hid BW
  clear fa fb PA PB PR PX BW
  go_enter Try.func36, Try.ntmps36
  go_upto_region 6 with fail
  refine region_lin (.val (fun v _ => v = .pointer (some ⟨w.heap.size, 4, none⟩)) :: .val (fun v _ => v = .pointer (some ⟨w.heap.size, 4, none⟩)) :: .val (fun v _ => v = .int .u64 a.v) :: .val (fun v _ => v = .pointer (some ⟨(w.heap.size + 1), 4, none⟩)) :: .val (fun v _ => v = .pointer (some ⟨(w.heap.size + 1), 5, none⟩)) :: .val (fun v _ => v = .int .u64 b.s) :: .val (fun v _ => v = .int .u64 (red (a.v * b.s))) :: .val (fun v _ => v = .pointer (some ⟨(w.heap.size + 1), 4, none⟩)) :: .val (fun v _ => v = .pointer (some ⟨(w.heap.size + 1), 4, none⟩)) :: .val (fun v _ => v = .int .u64 b.v) :: .val (fun v _ => v = .int .u64 (red (a.v * b.s) + b.v)) :: .val (fun v _ => v = .int .u64 (red (a.v * b.s + b.v))) :: .val (fun v _ => v = .pointer (some ⟨(w.heap.size + 1 + 1 + 1), 4, none⟩)) :: .val (fun v _ => v = .pointer (some ⟨(w.heap.size + 1 + 1 + 1), 4, none⟩)) :: [])
    ([] :: [(39, 0)] :: [(40, 1)] :: [] :: [(42, 3)] :: [(43, 4)] :: [(41, 2), (44, 5)] :: [] :: [(46, 7)] :: [(47, 8)] :: [(45, 6), (48, 9)] :: [(49, 10)] :: [] :: [(51, 12)] :: []) ((0, 0) :: (0, 0) :: (0, 0) :: (0, 0) :: (0, 0) :: (0, 0) :: (0, 0) :: (0, 0) :: (0, 0) :: (0, 0) :: (0, 0) :: (0, 0) :: (0, 0) :: (0, 0) :: []) 63 (by kernel_rfl) rfl rfl (by kernel_rfl) ⟨Stab.pure _ _ _, Stab.pure _ _ _, Stab.pure _ _ _, Stab.pure _ _ _, Stab.pure _ _ _, Stab.pure _ _ _, Stab.pure _ _ _, Stab.pure _ _ _, Stab.pure _ _ _, Stab.pure _ _ _, Stab.pure _ _ _, Stab.pure _ _ _, Stab.pure _ _ _, Stab.pure _ _ _, trivial⟩ ⟨?_, ?_, ?_, ?_, ?_, ?_, ?_, ?_, ?_, ?_, ?_, ?_, ?_, ?_, trivial⟩ ?_
  · intro wx hb
    intro K hK
    go_simp
    exact hK _ _ rfl ⟨rfl, Below.refl _ _⟩
  · intro wx hb
    rintro _ rfl
    intro K hK
    go_simp
    exact hK _ _ rfl ⟨rfl, Below.refl _ _⟩
  · intro wx hb
    rintro _ rfl
    intro K hK
    have mm := Box.below (HPA.out) hb (Box.lt (HPA.out))
    have m0 : wx.cell? ⟨w.heap.size, 0, none⟩ = some (.int .i64 a.n) := mm.cell 0
    have m1 : wx.cell? ⟨w.heap.size, 1, none⟩ = some (.int .i64 a.l) := mm.cell 1
    have m2 : wx.cell? ⟨w.heap.size, 2, none⟩ = some (.int .i64 a.h) := mm.cell 2
    have m3 : wx.cell? ⟨w.heap.size, 3, none⟩ = some (.int .i64 a.t) := mm.cell 3
    have m4 : wx.cell? ⟨w.heap.size, 4, none⟩ = some (.int .u64 a.v) := mm.cell 4
    have m5 : wx.cell? ⟨w.heap.size, 5, none⟩ = some (.int .u64 a.s) := mm.cell 5
    clear mm
    go_simp
    exact hK _ _ rfl ⟨rfl, Below.refl _ _⟩
  · intro wx hb
    intro K hK
    go_simp
    exact hK _ _ rfl ⟨rfl, Below.refl _ _⟩
  · intro wx hb
    rintro _ rfl
    intro K hK
    go_simp
    exact hK _ _ rfl ⟨rfl, Below.refl _ _⟩
  · intro wx hb
    rintro _ rfl
    intro K hK
    have mm := Box.below (HPB.out) hb (Box.lt (HPB.out))
    have m0 : wx.cell? ⟨(w.heap.size + 1), 0, none⟩ = some (.int .i64 b.n) := mm.cell 0
    have m1 : wx.cell? ⟨(w.heap.size + 1), 1, none⟩ = some (.int .i64 b.l) := mm.cell 1
    have m2 : wx.cell? ⟨(w.heap.size + 1), 2, none⟩ = some (.int .i64 b.h) := mm.cell 2
    have m3 : wx.cell? ⟨(w.heap.size + 1), 3, none⟩ = some (.int .i64 b.t) := mm.cell 3
    have m4 : wx.cell? ⟨(w.heap.size + 1), 4, none⟩ = some (.int .u64 b.v) := mm.cell 4
    have m5 : wx.cell? ⟨(w.heap.size + 1), 5, none⟩ = some (.int .u64 b.s) := mm.cell 5
    clear mm
    go_simp
    exact hK _ _ rfl ⟨rfl, Below.refl _ _⟩
  · intro wx hb
    rintro _ rfl
    rintro _ rfl
    intro K hK
    go_simp
    (with_reducible refine (rmul_any a.v b.s av0 av1 bs0 (by omega) _).mono ?_)
    rintro e wa ⟨rfl, rfl⟩
    exact hK _ _ rfl ⟨rfl, Below.refl _ _⟩
  · intro wx hb
    intro K hK
    go_simp
    exact hK _ _ rfl ⟨rfl, Below.refl _ _⟩
  · intro wx hb
    rintro _ rfl
    intro K hK
    go_simp
    exact hK _ _ rfl ⟨rfl, Below.refl _ _⟩
  · intro wx hb
    rintro _ rfl
    intro K hK
    have mm := Box.below (HPB.out) hb (Box.lt (HPB.out))
    have m0 : wx.cell? ⟨(w.heap.size + 1), 0, none⟩ = some (.int .i64 b.n) := mm.cell 0
    have m1 : wx.cell? ⟨(w.heap.size + 1), 1, none⟩ = some (.int .i64 b.l) := mm.cell 1
    have m2 : wx.cell? ⟨(w.heap.size + 1), 2, none⟩ = some (.int .i64 b.h) := mm.cell 2
    have m3 : wx.cell? ⟨(w.heap.size + 1), 3, none⟩ = some (.int .i64 b.t) := mm.cell 3
    have m4 : wx.cell? ⟨(w.heap.size + 1), 4, none⟩ = some (.int .u64 b.v) := mm.cell 4
    have m5 : wx.cell? ⟨(w.heap.size + 1), 5, none⟩ = some (.int .u64 b.s) := mm.cell 5
    clear mm
    go_simp
    exact hK _ _ rfl ⟨rfl, Below.refl _ _⟩
  · intro wx hb
    rintro _ rfl
    rintro _ rfl
    intro K hK
    have wz := IntWalk.u64_in (red (a.v * b.s) + b.v) ⟨by omega, by omega⟩
    go_simp
    exact hK _ _ rfl ⟨rfl, Below.refl _ _⟩
  · intro wx hb
    rintro _ rfl
    intro K hK
    go_wp2_with fail; exact hK _ _ rfl ⟨congrArg (Value.int .u64) (red_add_l _ _), Below.refl _ _⟩
  · intro wx hb
    intro K hK
    go_simp
    exact hK _ _ rfl ⟨rfl, Below.refl _ _⟩
  · intro wx hb
    rintro _ rfl
    intro K hK
    go_simp
    exact hK _ _ rfl ⟨rfl, Below.refl _ _⟩
  intro w1 B1
  rintro _ rfl
  rintro _ rfl
  rintro _ rfl
  rintro _ rfl
  rintro _ rfl
  rintro _ rfl
  rintro _ rfl
  rintro _ rfl
  rintro _ rfl
  rintro _ rfl
  rintro _ rfl
  rintro _ rfl
  rintro _ rfl
  rintro _ rfl
  rintro -
  simp only [Act.put, List.setIfInBounds_toArray, List.set_cons_zero, List.set_cons_succ, List.toList_toArray, List.length_cons, List.length_nil, List.drop_succ_cons, List.drop_zero, List.drop_nil, Nat.zero_add]
  have PA := HPA.out.below B1 HPA.out.lt; have PB := HPB.out.below B1 HPB.out.lt; have PR := HPR.out.below B1 HPR.out.lt; have PX := HPX.out.below B1 HPX.out.lt
  have HBW1 := Lib.hid (bkeep HBW.out B1)
  have x5 : w1.cell? ⟨w.heap.size, 5, none⟩ = some (.int .u64 a.s) := PA.cell 5
  have z5 : w1.cell? ⟨w.heap.size + 1, 5, none⟩ = some (.int .u64 b.s) := PB.cell 5
  have y0 : w1.cell? ⟨w.heap.size + 1 + 1, 0, none⟩ = some (.int .i64 0) := PR.cell 0
  have y1 : w1.cell? ⟨w.heap.size + 1 + 1, 1, none⟩ = some (.int .i64 0) := PR.cell 1
  have y2 : w1.cell? ⟨w.heap.size + 1 + 1, 2, none⟩ = some (.int .i64 0) := PR.cell 2
  have y3 : w1.cell? ⟨w.heap.size + 1 + 1, 3, none⟩ = some (.int .i64 0) := PR.cell 3
  have y4 : w1.cell? ⟨w.heap.size + 1 + 1, 4, none⟩ = some (.int .u64 0) := PR.cell 4
  have y5 : w1.cell? ⟨w.heap.size + 1 + 1, 5, none⟩ = some (.int .u64 0) := PR.cell 5
  have j0 : w1.cell? ⟨w.heap.size + 1 + 1 + 1, 0, none⟩ = some (.int .i64 (a.n + b.n)) := PX.cell 0
  have j1 : w1.cell? ⟨w.heap.size + 1 + 1 + 1, 1, none⟩ = some (.int .i64 (a.l + b.l)) := PX.cell 1
  have j2 : w1.cell? ⟨w.heap.size + 1 + 1 + 1, 2, none⟩ = some (.int .i64 (a.n + b.h)) := PX.cell 2
  have j3 : w1.cell? ⟨w.heap.size + 1 + 1 + 1, 3, none⟩ = some (.int .i64 (b.n + a.t)) := PX.cell 3
  have j4 : w1.cell? ⟨w.heap.size + 1 + 1 + 1, 4, none⟩ = some (.int .u64 0) := PX.cell 4
  have j5 : w1.cell? ⟨w.heap.size + 1 + 1 + 1, 5, none⟩ = some (.int .u64 0) := PX.cell 5
  have f0 := PR.free 0; have f1 := PR.free 1; have f2 := PR.free 2; have f3 := PR.free 3; have f4 := PR.free 4; have f5 := PR.free 5
  have k4 := PX.free 4; have k5 := PX.free 5
  clear B1 PA PB PR PX
  go_wp2_with fail
  (with_reducible refine (rmul_any a.s b.s as0 as1 bs0 (by omega) _).mono ?_)
  rintro e w2 ⟨rfl, rfl⟩
  go_wp2_with fail
  refine bodyPost_ret (v := .agg #[.int .i64 (a.n + b.n), .int .i64 (a.l + b.l), .int .i64 (a.n + b.h), .int .i64 (b.n + a.t), .int .u64 (red (a.v * b.s + b.v)), .int .u64 (red (a.s * b.s))]) ?_ rfl ⟨rfl, ?_⟩
  · simp only [results, Try.results36]
    simp [go_sem, y0, y1, y2, y3, y4, y5]
  · repeat (first | (with_reducible exact HBW1.out) | (with_reducible refine Below.setCell ?_ (by simp; omega) _))
set_option maxHeartbeats 4000000 in
theorem rjn_ok01 (a b : Wt) (fa : Fit a) (fb : Fit b) (la : (a.l == 0) = true) (lb : (b.l == 0) = false) (w : World) :
    Calls Try.prog 36 #[.agg #[.int .i64 a.n, .int .i64 a.l, .int .i64 a.h, .int .i64 a.t, .int .u64 a.v, .int .u64 a.s], .agg #[.int .i64 b.n, .int .i64 b.l, .int .i64 b.h, .int .i64 b.t, .int .u64 b.v, .int .u64 b.s]] w fun e w' => e = .returned (.agg #[.int .i64 (a.n + b.n), .int .i64 (a.l + b.l), .int .i64 (a.n + b.h), .int .i64 b.t, .int .u64 (red (a.v * b.s + b.v)), .int .u64 (red (a.s * b.s))]) ∧ Below w.heap.size w w' := by
  obtain ⟨PA, PB, PR, PX, BW⟩ := four w a b 26 #[.int .i64 0, .int .i64 0, .int .i64 0, .int .i64 0, .int .u64 0, .int .u64 0] #[.int .i64 (a.n + b.n), .int .i64 (a.l + b.l), .int .i64 (a.n + b.h), .int .i64 b.t, .int .u64 0, .int .u64 0]
  have an0 := fa.n0; have an1 := fa.n1; have bn0 := fb.n0; have bn1 := fb.n1
  have al0 := fa.l0; have al1 := fa.l1; have bl0 := fb.l0; have bl1 := fb.l1
  have ah0 := fa.h0; have ah1 := fa.h1; have bh0 := fb.h0; have bh1 := fb.h1
  have at0 := fa.t0; have at1 := fa.t1; have bt0 := fb.t0; have bt1 := fb.t1
  have av0 := fa.v0; have av1 := fa.v1; have bv0 := fb.v0; have bv1 := fb.v1
  have as0 := fa.s0; have as1 := fa.s1; have bs0 := fb.s0; have bs1 := fb.s1
  have m0 := red_lo (a.v * b.s); have m1 := red_hi (a.v * b.s)
  have n1 : w.heap.size < w.heap.size + 1 + 1 := by omega
  have n2 : w.heap.size < w.heap.size + 1 + 1 + 1 := by omega
  have n3 : w.heap.size + 1 < w.heap.size + 1 + 1 + 1 := by omega
  have HPA := Lib.hid PA; have HPB := Lib.hid PB; have HPR := Lib.hid PR; have HPX := Lib.hid PX; have HBW := Lib.hid BW
  clear fa fb PA PB PR PX BW
  go_enter Try.func36, Try.ntmps36
  go_upto_region 6 with fail
  refine region_lin (.val (fun v _ => v = .pointer (some ⟨w.heap.size, 4, none⟩)) :: .val (fun v _ => v = .pointer (some ⟨w.heap.size, 4, none⟩)) :: .val (fun v _ => v = .int .u64 a.v) :: .val (fun v _ => v = .pointer (some ⟨(w.heap.size + 1), 4, none⟩)) :: .val (fun v _ => v = .pointer (some ⟨(w.heap.size + 1), 5, none⟩)) :: .val (fun v _ => v = .int .u64 b.s) :: .val (fun v _ => v = .int .u64 (red (a.v * b.s))) :: .val (fun v _ => v = .pointer (some ⟨(w.heap.size + 1), 4, none⟩)) :: .val (fun v _ => v = .pointer (some ⟨(w.heap.size + 1), 4, none⟩)) :: .val (fun v _ => v = .int .u64 b.v) :: .val (fun v _ => v = .int .u64 (red (a.v * b.s) + b.v)) :: .val (fun v _ => v = .int .u64 (red (a.v * b.s + b.v))) :: .val (fun v _ => v = .pointer (some ⟨(w.heap.size + 1 + 1 + 1), 4, none⟩)) :: .val (fun v _ => v = .pointer (some ⟨(w.heap.size + 1 + 1 + 1), 4, none⟩)) :: [])
    ([] :: [(39, 0)] :: [(40, 1)] :: [] :: [(42, 3)] :: [(43, 4)] :: [(41, 2), (44, 5)] :: [] :: [(46, 7)] :: [(47, 8)] :: [(45, 6), (48, 9)] :: [(49, 10)] :: [] :: [(51, 12)] :: []) ((0, 0) :: (0, 0) :: (0, 0) :: (0, 0) :: (0, 0) :: (0, 0) :: (0, 0) :: (0, 0) :: (0, 0) :: (0, 0) :: (0, 0) :: (0, 0) :: (0, 0) :: (0, 0) :: []) 63 (by kernel_rfl) rfl rfl (by kernel_rfl) ⟨Stab.pure _ _ _, Stab.pure _ _ _, Stab.pure _ _ _, Stab.pure _ _ _, Stab.pure _ _ _, Stab.pure _ _ _, Stab.pure _ _ _, Stab.pure _ _ _, Stab.pure _ _ _, Stab.pure _ _ _, Stab.pure _ _ _, Stab.pure _ _ _, Stab.pure _ _ _, Stab.pure _ _ _, trivial⟩ ⟨?_, ?_, ?_, ?_, ?_, ?_, ?_, ?_, ?_, ?_, ?_, ?_, ?_, ?_, trivial⟩ ?_
  · intro wx hb
    intro K hK
    go_simp
    exact hK _ _ rfl ⟨rfl, Below.refl _ _⟩
  · intro wx hb
    rintro _ rfl
    intro K hK
    go_simp
    exact hK _ _ rfl ⟨rfl, Below.refl _ _⟩
  · intro wx hb
    rintro _ rfl
    intro K hK
    have mm := Box.below (HPA.out) hb (Box.lt (HPA.out))
    have m0 : wx.cell? ⟨w.heap.size, 0, none⟩ = some (.int .i64 a.n) := mm.cell 0
    have m1 : wx.cell? ⟨w.heap.size, 1, none⟩ = some (.int .i64 a.l) := mm.cell 1
    have m2 : wx.cell? ⟨w.heap.size, 2, none⟩ = some (.int .i64 a.h) := mm.cell 2
    have m3 : wx.cell? ⟨w.heap.size, 3, none⟩ = some (.int .i64 a.t) := mm.cell 3
    have m4 : wx.cell? ⟨w.heap.size, 4, none⟩ = some (.int .u64 a.v) := mm.cell 4
    have m5 : wx.cell? ⟨w.heap.size, 5, none⟩ = some (.int .u64 a.s) := mm.cell 5
    clear mm
    go_simp
    exact hK _ _ rfl ⟨rfl, Below.refl _ _⟩
  · intro wx hb
    intro K hK
    go_simp
    exact hK _ _ rfl ⟨rfl, Below.refl _ _⟩
  · intro wx hb
    rintro _ rfl
    intro K hK
    go_simp
    exact hK _ _ rfl ⟨rfl, Below.refl _ _⟩
  · intro wx hb
    rintro _ rfl
    intro K hK
    have mm := Box.below (HPB.out) hb (Box.lt (HPB.out))
    have m0 : wx.cell? ⟨(w.heap.size + 1), 0, none⟩ = some (.int .i64 b.n) := mm.cell 0
    have m1 : wx.cell? ⟨(w.heap.size + 1), 1, none⟩ = some (.int .i64 b.l) := mm.cell 1
    have m2 : wx.cell? ⟨(w.heap.size + 1), 2, none⟩ = some (.int .i64 b.h) := mm.cell 2
    have m3 : wx.cell? ⟨(w.heap.size + 1), 3, none⟩ = some (.int .i64 b.t) := mm.cell 3
    have m4 : wx.cell? ⟨(w.heap.size + 1), 4, none⟩ = some (.int .u64 b.v) := mm.cell 4
    have m5 : wx.cell? ⟨(w.heap.size + 1), 5, none⟩ = some (.int .u64 b.s) := mm.cell 5
    clear mm
    go_simp
    exact hK _ _ rfl ⟨rfl, Below.refl _ _⟩
  · intro wx hb
    rintro _ rfl
    rintro _ rfl
    intro K hK
    go_simp
    (with_reducible refine (rmul_any a.v b.s av0 av1 bs0 (by omega) _).mono ?_)
    rintro e wa ⟨rfl, rfl⟩
    exact hK _ _ rfl ⟨rfl, Below.refl _ _⟩
  · intro wx hb
    intro K hK
    go_simp
    exact hK _ _ rfl ⟨rfl, Below.refl _ _⟩
  · intro wx hb
    rintro _ rfl
    intro K hK
    go_simp
    exact hK _ _ rfl ⟨rfl, Below.refl _ _⟩
  · intro wx hb
    rintro _ rfl
    intro K hK
    have mm := Box.below (HPB.out) hb (Box.lt (HPB.out))
    have m0 : wx.cell? ⟨(w.heap.size + 1), 0, none⟩ = some (.int .i64 b.n) := mm.cell 0
    have m1 : wx.cell? ⟨(w.heap.size + 1), 1, none⟩ = some (.int .i64 b.l) := mm.cell 1
    have m2 : wx.cell? ⟨(w.heap.size + 1), 2, none⟩ = some (.int .i64 b.h) := mm.cell 2
    have m3 : wx.cell? ⟨(w.heap.size + 1), 3, none⟩ = some (.int .i64 b.t) := mm.cell 3
    have m4 : wx.cell? ⟨(w.heap.size + 1), 4, none⟩ = some (.int .u64 b.v) := mm.cell 4
    have m5 : wx.cell? ⟨(w.heap.size + 1), 5, none⟩ = some (.int .u64 b.s) := mm.cell 5
    clear mm
    go_simp
    exact hK _ _ rfl ⟨rfl, Below.refl _ _⟩
  · intro wx hb
    rintro _ rfl
    rintro _ rfl
    intro K hK
    have wz := IntWalk.u64_in (red (a.v * b.s) + b.v) ⟨by omega, by omega⟩
    go_simp
    exact hK _ _ rfl ⟨rfl, Below.refl _ _⟩
  · intro wx hb
    rintro _ rfl
    intro K hK
    go_wp2_with fail; exact hK _ _ rfl ⟨congrArg (Value.int .u64) (red_add_l _ _), Below.refl _ _⟩
  · intro wx hb
    intro K hK
    go_simp
    exact hK _ _ rfl ⟨rfl, Below.refl _ _⟩
  · intro wx hb
    rintro _ rfl
    intro K hK
    go_simp
    exact hK _ _ rfl ⟨rfl, Below.refl _ _⟩
  intro w1 B1
  rintro _ rfl
  rintro _ rfl
  rintro _ rfl
  rintro _ rfl
  rintro _ rfl
  rintro _ rfl
  rintro _ rfl
  rintro _ rfl
  rintro _ rfl
  rintro _ rfl
  rintro _ rfl
  rintro _ rfl
  rintro _ rfl
  rintro _ rfl
  rintro -
  simp only [Act.put, List.setIfInBounds_toArray, List.set_cons_zero, List.set_cons_succ, List.toList_toArray, List.length_cons, List.length_nil, List.drop_succ_cons, List.drop_zero, List.drop_nil, Nat.zero_add]
  have PA := HPA.out.below B1 HPA.out.lt; have PB := HPB.out.below B1 HPB.out.lt; have PR := HPR.out.below B1 HPR.out.lt; have PX := HPX.out.below B1 HPX.out.lt
  have HBW1 := Lib.hid (bkeep HBW.out B1)
  have x5 : w1.cell? ⟨w.heap.size, 5, none⟩ = some (.int .u64 a.s) := PA.cell 5
  have z5 : w1.cell? ⟨w.heap.size + 1, 5, none⟩ = some (.int .u64 b.s) := PB.cell 5
  have y0 : w1.cell? ⟨w.heap.size + 1 + 1, 0, none⟩ = some (.int .i64 0) := PR.cell 0
  have y1 : w1.cell? ⟨w.heap.size + 1 + 1, 1, none⟩ = some (.int .i64 0) := PR.cell 1
  have y2 : w1.cell? ⟨w.heap.size + 1 + 1, 2, none⟩ = some (.int .i64 0) := PR.cell 2
  have y3 : w1.cell? ⟨w.heap.size + 1 + 1, 3, none⟩ = some (.int .i64 0) := PR.cell 3
  have y4 : w1.cell? ⟨w.heap.size + 1 + 1, 4, none⟩ = some (.int .u64 0) := PR.cell 4
  have y5 : w1.cell? ⟨w.heap.size + 1 + 1, 5, none⟩ = some (.int .u64 0) := PR.cell 5
  have j0 : w1.cell? ⟨w.heap.size + 1 + 1 + 1, 0, none⟩ = some (.int .i64 (a.n + b.n)) := PX.cell 0
  have j1 : w1.cell? ⟨w.heap.size + 1 + 1 + 1, 1, none⟩ = some (.int .i64 (a.l + b.l)) := PX.cell 1
  have j2 : w1.cell? ⟨w.heap.size + 1 + 1 + 1, 2, none⟩ = some (.int .i64 (a.n + b.h)) := PX.cell 2
  have j3 : w1.cell? ⟨w.heap.size + 1 + 1 + 1, 3, none⟩ = some (.int .i64 b.t) := PX.cell 3
  have j4 : w1.cell? ⟨w.heap.size + 1 + 1 + 1, 4, none⟩ = some (.int .u64 0) := PX.cell 4
  have j5 : w1.cell? ⟨w.heap.size + 1 + 1 + 1, 5, none⟩ = some (.int .u64 0) := PX.cell 5
  have f0 := PR.free 0; have f1 := PR.free 1; have f2 := PR.free 2; have f3 := PR.free 3; have f4 := PR.free 4; have f5 := PR.free 5
  have k4 := PX.free 4; have k5 := PX.free 5
  clear B1 PA PB PR PX
  go_wp2_with fail
  (with_reducible refine (rmul_any a.s b.s as0 as1 bs0 (by omega) _).mono ?_)
  rintro e w2 ⟨rfl, rfl⟩
  go_wp2_with fail
  refine bodyPost_ret (v := .agg #[.int .i64 (a.n + b.n), .int .i64 (a.l + b.l), .int .i64 (a.n + b.h), .int .i64 b.t, .int .u64 (red (a.v * b.s + b.v)), .int .u64 (red (a.s * b.s))]) ?_ rfl ⟨rfl, ?_⟩
  · simp only [results, Try.results36]
    simp [go_sem, y0, y1, y2, y3, y4, y5]
  · repeat (first | (with_reducible exact HBW1.out) | (with_reducible refine Below.setCell ?_ (by simp; omega) _))
set_option maxHeartbeats 4000000 in
theorem rjn_ok10 (a b : Wt) (fa : Fit a) (fb : Fit b) (la : (a.l == 0) = false) (lb : (b.l == 0) = true) (w : World) :
    Calls Try.prog 36 #[.agg #[.int .i64 a.n, .int .i64 a.l, .int .i64 a.h, .int .i64 a.t, .int .u64 a.v, .int .u64 a.s], .agg #[.int .i64 b.n, .int .i64 b.l, .int .i64 b.h, .int .i64 b.t, .int .u64 b.v, .int .u64 b.s]] w fun e w' => e = .returned (.agg #[.int .i64 (a.n + b.n), .int .i64 (a.l + b.l), .int .i64 a.h, .int .i64 (b.n + a.t), .int .u64 (red (a.v * b.s + b.v)), .int .u64 (red (a.s * b.s))]) ∧ Below w.heap.size w w' := by
  obtain ⟨PA, PB, PR, PX, BW⟩ := four w a b 26 #[.int .i64 0, .int .i64 0, .int .i64 0, .int .i64 0, .int .u64 0, .int .u64 0] #[.int .i64 (a.n + b.n), .int .i64 (a.l + b.l), .int .i64 a.h, .int .i64 (b.n + a.t), .int .u64 0, .int .u64 0]
  have an0 := fa.n0; have an1 := fa.n1; have bn0 := fb.n0; have bn1 := fb.n1
  have al0 := fa.l0; have al1 := fa.l1; have bl0 := fb.l0; have bl1 := fb.l1
  have ah0 := fa.h0; have ah1 := fa.h1; have bh0 := fb.h0; have bh1 := fb.h1
  have at0 := fa.t0; have at1 := fa.t1; have bt0 := fb.t0; have bt1 := fb.t1
  have av0 := fa.v0; have av1 := fa.v1; have bv0 := fb.v0; have bv1 := fb.v1
  have as0 := fa.s0; have as1 := fa.s1; have bs0 := fb.s0; have bs1 := fb.s1
  have m0 := red_lo (a.v * b.s); have m1 := red_hi (a.v * b.s)
  have n1 : w.heap.size < w.heap.size + 1 + 1 := by omega
  have n2 : w.heap.size < w.heap.size + 1 + 1 + 1 := by omega
  have n3 : w.heap.size + 1 < w.heap.size + 1 + 1 + 1 := by omega
  have HPA := Lib.hid PA; have HPB := Lib.hid PB; have HPR := Lib.hid PR; have HPX := Lib.hid PX; have HBW := Lib.hid BW
  clear fa fb PA PB PR PX BW
  go_enter Try.func36, Try.ntmps36
  go_upto_region 6 with fail
  refine region_lin (.val (fun v _ => v = .pointer (some ⟨w.heap.size, 4, none⟩)) :: .val (fun v _ => v = .pointer (some ⟨w.heap.size, 4, none⟩)) :: .val (fun v _ => v = .int .u64 a.v) :: .val (fun v _ => v = .pointer (some ⟨(w.heap.size + 1), 4, none⟩)) :: .val (fun v _ => v = .pointer (some ⟨(w.heap.size + 1), 5, none⟩)) :: .val (fun v _ => v = .int .u64 b.s) :: .val (fun v _ => v = .int .u64 (red (a.v * b.s))) :: .val (fun v _ => v = .pointer (some ⟨(w.heap.size + 1), 4, none⟩)) :: .val (fun v _ => v = .pointer (some ⟨(w.heap.size + 1), 4, none⟩)) :: .val (fun v _ => v = .int .u64 b.v) :: .val (fun v _ => v = .int .u64 (red (a.v * b.s) + b.v)) :: .val (fun v _ => v = .int .u64 (red (a.v * b.s + b.v))) :: .val (fun v _ => v = .pointer (some ⟨(w.heap.size + 1 + 1 + 1), 4, none⟩)) :: .val (fun v _ => v = .pointer (some ⟨(w.heap.size + 1 + 1 + 1), 4, none⟩)) :: [])
    ([] :: [(39, 0)] :: [(40, 1)] :: [] :: [(42, 3)] :: [(43, 4)] :: [(41, 2), (44, 5)] :: [] :: [(46, 7)] :: [(47, 8)] :: [(45, 6), (48, 9)] :: [(49, 10)] :: [] :: [(51, 12)] :: []) ((0, 0) :: (0, 0) :: (0, 0) :: (0, 0) :: (0, 0) :: (0, 0) :: (0, 0) :: (0, 0) :: (0, 0) :: (0, 0) :: (0, 0) :: (0, 0) :: (0, 0) :: (0, 0) :: []) 63 (by kernel_rfl) rfl rfl (by kernel_rfl) ⟨Stab.pure _ _ _, Stab.pure _ _ _, Stab.pure _ _ _, Stab.pure _ _ _, Stab.pure _ _ _, Stab.pure _ _ _, Stab.pure _ _ _, Stab.pure _ _ _, Stab.pure _ _ _, Stab.pure _ _ _, Stab.pure _ _ _, Stab.pure _ _ _, Stab.pure _ _ _, Stab.pure _ _ _, trivial⟩ ⟨?_, ?_, ?_, ?_, ?_, ?_, ?_, ?_, ?_, ?_, ?_, ?_, ?_, ?_, trivial⟩ ?_
  · intro wx hb
    intro K hK
    go_simp
    exact hK _ _ rfl ⟨rfl, Below.refl _ _⟩
  · intro wx hb
    rintro _ rfl
    intro K hK
    go_simp
    exact hK _ _ rfl ⟨rfl, Below.refl _ _⟩
  · intro wx hb
    rintro _ rfl
    intro K hK
    have mm := Box.below (HPA.out) hb (Box.lt (HPA.out))
    have m0 : wx.cell? ⟨w.heap.size, 0, none⟩ = some (.int .i64 a.n) := mm.cell 0
    have m1 : wx.cell? ⟨w.heap.size, 1, none⟩ = some (.int .i64 a.l) := mm.cell 1
    have m2 : wx.cell? ⟨w.heap.size, 2, none⟩ = some (.int .i64 a.h) := mm.cell 2
    have m3 : wx.cell? ⟨w.heap.size, 3, none⟩ = some (.int .i64 a.t) := mm.cell 3
    have m4 : wx.cell? ⟨w.heap.size, 4, none⟩ = some (.int .u64 a.v) := mm.cell 4
    have m5 : wx.cell? ⟨w.heap.size, 5, none⟩ = some (.int .u64 a.s) := mm.cell 5
    clear mm
    go_simp
    exact hK _ _ rfl ⟨rfl, Below.refl _ _⟩
  · intro wx hb
    intro K hK
    go_simp
    exact hK _ _ rfl ⟨rfl, Below.refl _ _⟩
  · intro wx hb
    rintro _ rfl
    intro K hK
    go_simp
    exact hK _ _ rfl ⟨rfl, Below.refl _ _⟩
  · intro wx hb
    rintro _ rfl
    intro K hK
    have mm := Box.below (HPB.out) hb (Box.lt (HPB.out))
    have m0 : wx.cell? ⟨(w.heap.size + 1), 0, none⟩ = some (.int .i64 b.n) := mm.cell 0
    have m1 : wx.cell? ⟨(w.heap.size + 1), 1, none⟩ = some (.int .i64 b.l) := mm.cell 1
    have m2 : wx.cell? ⟨(w.heap.size + 1), 2, none⟩ = some (.int .i64 b.h) := mm.cell 2
    have m3 : wx.cell? ⟨(w.heap.size + 1), 3, none⟩ = some (.int .i64 b.t) := mm.cell 3
    have m4 : wx.cell? ⟨(w.heap.size + 1), 4, none⟩ = some (.int .u64 b.v) := mm.cell 4
    have m5 : wx.cell? ⟨(w.heap.size + 1), 5, none⟩ = some (.int .u64 b.s) := mm.cell 5
    clear mm
    go_simp
    exact hK _ _ rfl ⟨rfl, Below.refl _ _⟩
  · intro wx hb
    rintro _ rfl
    rintro _ rfl
    intro K hK
    go_simp
    (with_reducible refine (rmul_any a.v b.s av0 av1 bs0 (by omega) _).mono ?_)
    rintro e wa ⟨rfl, rfl⟩
    exact hK _ _ rfl ⟨rfl, Below.refl _ _⟩
  · intro wx hb
    intro K hK
    go_simp
    exact hK _ _ rfl ⟨rfl, Below.refl _ _⟩
  · intro wx hb
    rintro _ rfl
    intro K hK
    go_simp
    exact hK _ _ rfl ⟨rfl, Below.refl _ _⟩
  · intro wx hb
    rintro _ rfl
    intro K hK
    have mm := Box.below (HPB.out) hb (Box.lt (HPB.out))
    have m0 : wx.cell? ⟨(w.heap.size + 1), 0, none⟩ = some (.int .i64 b.n) := mm.cell 0
    have m1 : wx.cell? ⟨(w.heap.size + 1), 1, none⟩ = some (.int .i64 b.l) := mm.cell 1
    have m2 : wx.cell? ⟨(w.heap.size + 1), 2, none⟩ = some (.int .i64 b.h) := mm.cell 2
    have m3 : wx.cell? ⟨(w.heap.size + 1), 3, none⟩ = some (.int .i64 b.t) := mm.cell 3
    have m4 : wx.cell? ⟨(w.heap.size + 1), 4, none⟩ = some (.int .u64 b.v) := mm.cell 4
    have m5 : wx.cell? ⟨(w.heap.size + 1), 5, none⟩ = some (.int .u64 b.s) := mm.cell 5
    clear mm
    go_simp
    exact hK _ _ rfl ⟨rfl, Below.refl _ _⟩
  · intro wx hb
    rintro _ rfl
    rintro _ rfl
    intro K hK
    have wz := IntWalk.u64_in (red (a.v * b.s) + b.v) ⟨by omega, by omega⟩
    go_simp
    exact hK _ _ rfl ⟨rfl, Below.refl _ _⟩
  · intro wx hb
    rintro _ rfl
    intro K hK
    go_wp2_with fail; exact hK _ _ rfl ⟨congrArg (Value.int .u64) (red_add_l _ _), Below.refl _ _⟩
  · intro wx hb
    intro K hK
    go_simp
    exact hK _ _ rfl ⟨rfl, Below.refl _ _⟩
  · intro wx hb
    rintro _ rfl
    intro K hK
    go_simp
    exact hK _ _ rfl ⟨rfl, Below.refl _ _⟩
  intro w1 B1
  rintro _ rfl
  rintro _ rfl
  rintro _ rfl
  rintro _ rfl
  rintro _ rfl
  rintro _ rfl
  rintro _ rfl
  rintro _ rfl
  rintro _ rfl
  rintro _ rfl
  rintro _ rfl
  rintro _ rfl
  rintro _ rfl
  rintro _ rfl
  rintro -
  simp only [Act.put, List.setIfInBounds_toArray, List.set_cons_zero, List.set_cons_succ, List.toList_toArray, List.length_cons, List.length_nil, List.drop_succ_cons, List.drop_zero, List.drop_nil, Nat.zero_add]
  have PA := HPA.out.below B1 HPA.out.lt; have PB := HPB.out.below B1 HPB.out.lt; have PR := HPR.out.below B1 HPR.out.lt; have PX := HPX.out.below B1 HPX.out.lt
  have HBW1 := Lib.hid (bkeep HBW.out B1)
  have x5 : w1.cell? ⟨w.heap.size, 5, none⟩ = some (.int .u64 a.s) := PA.cell 5
  have z5 : w1.cell? ⟨w.heap.size + 1, 5, none⟩ = some (.int .u64 b.s) := PB.cell 5
  have y0 : w1.cell? ⟨w.heap.size + 1 + 1, 0, none⟩ = some (.int .i64 0) := PR.cell 0
  have y1 : w1.cell? ⟨w.heap.size + 1 + 1, 1, none⟩ = some (.int .i64 0) := PR.cell 1
  have y2 : w1.cell? ⟨w.heap.size + 1 + 1, 2, none⟩ = some (.int .i64 0) := PR.cell 2
  have y3 : w1.cell? ⟨w.heap.size + 1 + 1, 3, none⟩ = some (.int .i64 0) := PR.cell 3
  have y4 : w1.cell? ⟨w.heap.size + 1 + 1, 4, none⟩ = some (.int .u64 0) := PR.cell 4
  have y5 : w1.cell? ⟨w.heap.size + 1 + 1, 5, none⟩ = some (.int .u64 0) := PR.cell 5
  have j0 : w1.cell? ⟨w.heap.size + 1 + 1 + 1, 0, none⟩ = some (.int .i64 (a.n + b.n)) := PX.cell 0
  have j1 : w1.cell? ⟨w.heap.size + 1 + 1 + 1, 1, none⟩ = some (.int .i64 (a.l + b.l)) := PX.cell 1
  have j2 : w1.cell? ⟨w.heap.size + 1 + 1 + 1, 2, none⟩ = some (.int .i64 a.h) := PX.cell 2
  have j3 : w1.cell? ⟨w.heap.size + 1 + 1 + 1, 3, none⟩ = some (.int .i64 (b.n + a.t)) := PX.cell 3
  have j4 : w1.cell? ⟨w.heap.size + 1 + 1 + 1, 4, none⟩ = some (.int .u64 0) := PX.cell 4
  have j5 : w1.cell? ⟨w.heap.size + 1 + 1 + 1, 5, none⟩ = some (.int .u64 0) := PX.cell 5
  have f0 := PR.free 0; have f1 := PR.free 1; have f2 := PR.free 2; have f3 := PR.free 3; have f4 := PR.free 4; have f5 := PR.free 5
  have k4 := PX.free 4; have k5 := PX.free 5
  clear B1 PA PB PR PX
  go_wp2_with fail
  (with_reducible refine (rmul_any a.s b.s as0 as1 bs0 (by omega) _).mono ?_)
  rintro e w2 ⟨rfl, rfl⟩
  go_wp2_with fail
  refine bodyPost_ret (v := .agg #[.int .i64 (a.n + b.n), .int .i64 (a.l + b.l), .int .i64 a.h, .int .i64 (b.n + a.t), .int .u64 (red (a.v * b.s + b.v)), .int .u64 (red (a.s * b.s))]) ?_ rfl ⟨rfl, ?_⟩
  · simp only [results, Try.results36]
    simp [go_sem, y0, y1, y2, y3, y4, y5]
  · repeat (first | (with_reducible exact HBW1.out) | (with_reducible refine Below.setCell ?_ (by simp; omega) _))
set_option maxHeartbeats 4000000 in
theorem rjn_ok11 (a b : Wt) (fa : Fit a) (fb : Fit b) (la : (a.l == 0) = false) (lb : (b.l == 0) = false) (w : World) :
    Calls Try.prog 36 #[.agg #[.int .i64 a.n, .int .i64 a.l, .int .i64 a.h, .int .i64 a.t, .int .u64 a.v, .int .u64 a.s], .agg #[.int .i64 b.n, .int .i64 b.l, .int .i64 b.h, .int .i64 b.t, .int .u64 b.v, .int .u64 b.s]] w fun e w' => e = .returned (.agg #[.int .i64 (a.n + b.n), .int .i64 (a.l + b.l), .int .i64 a.h, .int .i64 b.t, .int .u64 (red (a.v * b.s + b.v)), .int .u64 (red (a.s * b.s))]) ∧ Below w.heap.size w w' := by
  obtain ⟨PA, PB, PR, PX, BW⟩ := four w a b 26 #[.int .i64 0, .int .i64 0, .int .i64 0, .int .i64 0, .int .u64 0, .int .u64 0] #[.int .i64 (a.n + b.n), .int .i64 (a.l + b.l), .int .i64 a.h, .int .i64 b.t, .int .u64 0, .int .u64 0]
  have an0 := fa.n0; have an1 := fa.n1; have bn0 := fb.n0; have bn1 := fb.n1
  have al0 := fa.l0; have al1 := fa.l1; have bl0 := fb.l0; have bl1 := fb.l1
  have ah0 := fa.h0; have ah1 := fa.h1; have bh0 := fb.h0; have bh1 := fb.h1
  have at0 := fa.t0; have at1 := fa.t1; have bt0 := fb.t0; have bt1 := fb.t1
  have av0 := fa.v0; have av1 := fa.v1; have bv0 := fb.v0; have bv1 := fb.v1
  have as0 := fa.s0; have as1 := fa.s1; have bs0 := fb.s0; have bs1 := fb.s1
  have m0 := red_lo (a.v * b.s); have m1 := red_hi (a.v * b.s)
  have n1 : w.heap.size < w.heap.size + 1 + 1 := by omega
  have n2 : w.heap.size < w.heap.size + 1 + 1 + 1 := by omega
  have n3 : w.heap.size + 1 < w.heap.size + 1 + 1 + 1 := by omega
  have HPA := Lib.hid PA; have HPB := Lib.hid PB; have HPR := Lib.hid PR; have HPX := Lib.hid PX; have HBW := Lib.hid BW
  clear fa fb PA PB PR PX BW
  go_enter Try.func36, Try.ntmps36
  go_upto_region 6 with fail
  refine region_lin (.val (fun v _ => v = .pointer (some ⟨w.heap.size, 4, none⟩)) :: .val (fun v _ => v = .pointer (some ⟨w.heap.size, 4, none⟩)) :: .val (fun v _ => v = .int .u64 a.v) :: .val (fun v _ => v = .pointer (some ⟨(w.heap.size + 1), 4, none⟩)) :: .val (fun v _ => v = .pointer (some ⟨(w.heap.size + 1), 5, none⟩)) :: .val (fun v _ => v = .int .u64 b.s) :: .val (fun v _ => v = .int .u64 (red (a.v * b.s))) :: .val (fun v _ => v = .pointer (some ⟨(w.heap.size + 1), 4, none⟩)) :: .val (fun v _ => v = .pointer (some ⟨(w.heap.size + 1), 4, none⟩)) :: .val (fun v _ => v = .int .u64 b.v) :: .val (fun v _ => v = .int .u64 (red (a.v * b.s) + b.v)) :: .val (fun v _ => v = .int .u64 (red (a.v * b.s + b.v))) :: .val (fun v _ => v = .pointer (some ⟨(w.heap.size + 1 + 1 + 1), 4, none⟩)) :: .val (fun v _ => v = .pointer (some ⟨(w.heap.size + 1 + 1 + 1), 4, none⟩)) :: [])
    ([] :: [(39, 0)] :: [(40, 1)] :: [] :: [(42, 3)] :: [(43, 4)] :: [(41, 2), (44, 5)] :: [] :: [(46, 7)] :: [(47, 8)] :: [(45, 6), (48, 9)] :: [(49, 10)] :: [] :: [(51, 12)] :: []) ((0, 0) :: (0, 0) :: (0, 0) :: (0, 0) :: (0, 0) :: (0, 0) :: (0, 0) :: (0, 0) :: (0, 0) :: (0, 0) :: (0, 0) :: (0, 0) :: (0, 0) :: (0, 0) :: []) 63 (by kernel_rfl) rfl rfl (by kernel_rfl) ⟨Stab.pure _ _ _, Stab.pure _ _ _, Stab.pure _ _ _, Stab.pure _ _ _, Stab.pure _ _ _, Stab.pure _ _ _, Stab.pure _ _ _, Stab.pure _ _ _, Stab.pure _ _ _, Stab.pure _ _ _, Stab.pure _ _ _, Stab.pure _ _ _, Stab.pure _ _ _, Stab.pure _ _ _, trivial⟩ ⟨?_, ?_, ?_, ?_, ?_, ?_, ?_, ?_, ?_, ?_, ?_, ?_, ?_, ?_, trivial⟩ ?_
  · intro wx hb
    intro K hK
    go_simp
    exact hK _ _ rfl ⟨rfl, Below.refl _ _⟩
  · intro wx hb
    rintro _ rfl
    intro K hK
    go_simp
    exact hK _ _ rfl ⟨rfl, Below.refl _ _⟩
  · intro wx hb
    rintro _ rfl
    intro K hK
    have mm := Box.below (HPA.out) hb (Box.lt (HPA.out))
    have m0 : wx.cell? ⟨w.heap.size, 0, none⟩ = some (.int .i64 a.n) := mm.cell 0
    have m1 : wx.cell? ⟨w.heap.size, 1, none⟩ = some (.int .i64 a.l) := mm.cell 1
    have m2 : wx.cell? ⟨w.heap.size, 2, none⟩ = some (.int .i64 a.h) := mm.cell 2
    have m3 : wx.cell? ⟨w.heap.size, 3, none⟩ = some (.int .i64 a.t) := mm.cell 3
    have m4 : wx.cell? ⟨w.heap.size, 4, none⟩ = some (.int .u64 a.v) := mm.cell 4
    have m5 : wx.cell? ⟨w.heap.size, 5, none⟩ = some (.int .u64 a.s) := mm.cell 5
    clear mm
    go_simp
    exact hK _ _ rfl ⟨rfl, Below.refl _ _⟩
  · intro wx hb
    intro K hK
    go_simp
    exact hK _ _ rfl ⟨rfl, Below.refl _ _⟩
  · intro wx hb
    rintro _ rfl
    intro K hK
    go_simp
    exact hK _ _ rfl ⟨rfl, Below.refl _ _⟩
  · intro wx hb
    rintro _ rfl
    intro K hK
    have mm := Box.below (HPB.out) hb (Box.lt (HPB.out))
    have m0 : wx.cell? ⟨(w.heap.size + 1), 0, none⟩ = some (.int .i64 b.n) := mm.cell 0
    have m1 : wx.cell? ⟨(w.heap.size + 1), 1, none⟩ = some (.int .i64 b.l) := mm.cell 1
    have m2 : wx.cell? ⟨(w.heap.size + 1), 2, none⟩ = some (.int .i64 b.h) := mm.cell 2
    have m3 : wx.cell? ⟨(w.heap.size + 1), 3, none⟩ = some (.int .i64 b.t) := mm.cell 3
    have m4 : wx.cell? ⟨(w.heap.size + 1), 4, none⟩ = some (.int .u64 b.v) := mm.cell 4
    have m5 : wx.cell? ⟨(w.heap.size + 1), 5, none⟩ = some (.int .u64 b.s) := mm.cell 5
    clear mm
    go_simp
    exact hK _ _ rfl ⟨rfl, Below.refl _ _⟩
  · intro wx hb
    rintro _ rfl
    rintro _ rfl
    intro K hK
    go_simp
    (with_reducible refine (rmul_any a.v b.s av0 av1 bs0 (by omega) _).mono ?_)
    rintro e wa ⟨rfl, rfl⟩
    exact hK _ _ rfl ⟨rfl, Below.refl _ _⟩
  · intro wx hb
    intro K hK
    go_simp
    exact hK _ _ rfl ⟨rfl, Below.refl _ _⟩
  · intro wx hb
    rintro _ rfl
    intro K hK
    go_simp
    exact hK _ _ rfl ⟨rfl, Below.refl _ _⟩
  · intro wx hb
    rintro _ rfl
    intro K hK
    have mm := Box.below (HPB.out) hb (Box.lt (HPB.out))
    have m0 : wx.cell? ⟨(w.heap.size + 1), 0, none⟩ = some (.int .i64 b.n) := mm.cell 0
    have m1 : wx.cell? ⟨(w.heap.size + 1), 1, none⟩ = some (.int .i64 b.l) := mm.cell 1
    have m2 : wx.cell? ⟨(w.heap.size + 1), 2, none⟩ = some (.int .i64 b.h) := mm.cell 2
    have m3 : wx.cell? ⟨(w.heap.size + 1), 3, none⟩ = some (.int .i64 b.t) := mm.cell 3
    have m4 : wx.cell? ⟨(w.heap.size + 1), 4, none⟩ = some (.int .u64 b.v) := mm.cell 4
    have m5 : wx.cell? ⟨(w.heap.size + 1), 5, none⟩ = some (.int .u64 b.s) := mm.cell 5
    clear mm
    go_simp
    exact hK _ _ rfl ⟨rfl, Below.refl _ _⟩
  · intro wx hb
    rintro _ rfl
    rintro _ rfl
    intro K hK
    have wz := IntWalk.u64_in (red (a.v * b.s) + b.v) ⟨by omega, by omega⟩
    go_simp
    exact hK _ _ rfl ⟨rfl, Below.refl _ _⟩
  · intro wx hb
    rintro _ rfl
    intro K hK
    go_wp2_with fail; exact hK _ _ rfl ⟨congrArg (Value.int .u64) (red_add_l _ _), Below.refl _ _⟩
  · intro wx hb
    intro K hK
    go_simp
    exact hK _ _ rfl ⟨rfl, Below.refl _ _⟩
  · intro wx hb
    rintro _ rfl
    intro K hK
    go_simp
    exact hK _ _ rfl ⟨rfl, Below.refl _ _⟩
  intro w1 B1
  rintro _ rfl
  rintro _ rfl
  rintro _ rfl
  rintro _ rfl
  rintro _ rfl
  rintro _ rfl
  rintro _ rfl
  rintro _ rfl
  rintro _ rfl
  rintro _ rfl
  rintro _ rfl
  rintro _ rfl
  rintro _ rfl
  rintro _ rfl
  rintro -
  simp only [Act.put, List.setIfInBounds_toArray, List.set_cons_zero, List.set_cons_succ, List.toList_toArray, List.length_cons, List.length_nil, List.drop_succ_cons, List.drop_zero, List.drop_nil, Nat.zero_add]
  have PA := HPA.out.below B1 HPA.out.lt; have PB := HPB.out.below B1 HPB.out.lt; have PR := HPR.out.below B1 HPR.out.lt; have PX := HPX.out.below B1 HPX.out.lt
  have HBW1 := Lib.hid (bkeep HBW.out B1)
  have x5 : w1.cell? ⟨w.heap.size, 5, none⟩ = some (.int .u64 a.s) := PA.cell 5
  have z5 : w1.cell? ⟨w.heap.size + 1, 5, none⟩ = some (.int .u64 b.s) := PB.cell 5
  have y0 : w1.cell? ⟨w.heap.size + 1 + 1, 0, none⟩ = some (.int .i64 0) := PR.cell 0
  have y1 : w1.cell? ⟨w.heap.size + 1 + 1, 1, none⟩ = some (.int .i64 0) := PR.cell 1
  have y2 : w1.cell? ⟨w.heap.size + 1 + 1, 2, none⟩ = some (.int .i64 0) := PR.cell 2
  have y3 : w1.cell? ⟨w.heap.size + 1 + 1, 3, none⟩ = some (.int .i64 0) := PR.cell 3
  have y4 : w1.cell? ⟨w.heap.size + 1 + 1, 4, none⟩ = some (.int .u64 0) := PR.cell 4
  have y5 : w1.cell? ⟨w.heap.size + 1 + 1, 5, none⟩ = some (.int .u64 0) := PR.cell 5
  have j0 : w1.cell? ⟨w.heap.size + 1 + 1 + 1, 0, none⟩ = some (.int .i64 (a.n + b.n)) := PX.cell 0
  have j1 : w1.cell? ⟨w.heap.size + 1 + 1 + 1, 1, none⟩ = some (.int .i64 (a.l + b.l)) := PX.cell 1
  have j2 : w1.cell? ⟨w.heap.size + 1 + 1 + 1, 2, none⟩ = some (.int .i64 a.h) := PX.cell 2
  have j3 : w1.cell? ⟨w.heap.size + 1 + 1 + 1, 3, none⟩ = some (.int .i64 b.t) := PX.cell 3
  have j4 : w1.cell? ⟨w.heap.size + 1 + 1 + 1, 4, none⟩ = some (.int .u64 0) := PX.cell 4
  have j5 : w1.cell? ⟨w.heap.size + 1 + 1 + 1, 5, none⟩ = some (.int .u64 0) := PX.cell 5
  have f0 := PR.free 0; have f1 := PR.free 1; have f2 := PR.free 2; have f3 := PR.free 3; have f4 := PR.free 4; have f5 := PR.free 5
  have k4 := PX.free 4; have k5 := PX.free 5
  clear B1 PA PB PR PX
  go_wp2_with fail
  (with_reducible refine (rmul_any a.s b.s as0 as1 bs0 (by omega) _).mono ?_)
  rintro e w2 ⟨rfl, rfl⟩
  go_wp2_with fail
  refine bodyPost_ret (v := .agg #[.int .i64 (a.n + b.n), .int .i64 (a.l + b.l), .int .i64 a.h, .int .i64 b.t, .int .u64 (red (a.v * b.s + b.v)), .int .u64 (red (a.s * b.s))]) ?_ rfl ⟨rfl, ?_⟩
  · simp only [results, Try.results36]
    simp [go_sem, y0, y1, y2, y3, y4, y5]
  · repeat (first | (with_reducible exact HBW1.out) | (with_reducible refine Below.setCell ?_ (by simp; omega) _))
theorem jn_parts (a b : Wt) (v : Value) (h : v = .agg #[.int .i64 (a.n + b.n), .int .i64 (a.l + b.l), .int .i64 (if a.l = 0 then a.n + b.h else a.h), .int .i64 (if b.l = 0 then b.n + a.t else b.t), .int .u64 (red (a.v * b.s + b.v)), .int .u64 (red (a.s * b.s))]) : v = .agg #[.int .i64 (jnW a b).n, .int .i64 (jnW a b).l, .int .i64 (jnW a b).h, .int .i64 (jnW a b).t, .int .u64 (jnW a b).v, .int .u64 (jnW a b).s] := h
theorem rjn_any (a b : Wt) (fa : Fit a) (fb : Fit b) (w : World) :
    Calls Try.prog 36 #[.agg #[.int .i64 a.n, .int .i64 a.l, .int .i64 a.h, .int .i64 a.t, .int .u64 a.v, .int .u64 a.s], .agg #[.int .i64 b.n, .int .i64 b.l, .int .i64 b.h, .int .i64 b.t, .int .u64 b.v, .int .u64 b.s]] w fun e w' => e = .returned (.agg #[.int .i64 (jnW a b).n, .int .i64 (jnW a b).l, .int .i64 (jnW a b).h, .int .i64 (jnW a b).t, .int .u64 (jnW a b).v, .int .u64 (jnW a b).s]) ∧ Below w.heap.size w w' := by
  unfold jnW
  simp only
  by_cases la : a.l = 0 <;> by_cases lb : b.l = 0
  · have h := rjn_ok00 a b fa fb (by rw [beq_iff_eq]; exact la) (by rw [beq_iff_eq]; exact lb) w
    rw [if_pos la, if_pos lb]; exact h
  · have h := rjn_ok01 a b fa fb (by rw [beq_iff_eq]; exact la) (by rw [beq_eq_false_iff_ne]; exact lb) w
    rw [if_pos la, if_neg lb]; exact h
  · have h := rjn_ok10 a b fa fb (by rw [beq_eq_false_iff_ne]; exact la) (by rw [beq_iff_eq]; exact lb) w
    rw [if_neg la, if_pos lb]; exact h
  · have h := rjn_ok11 a b fa fb (by rw [beq_eq_false_iff_ne]; exact la) (by rw [beq_eq_false_iff_ne]; exact lb) w
    rw [if_neg la, if_neg lb]; exact h
theorem wjoin_ok (a b : Wt) (ha : WOk a) (hb : WOk b) (ea : vW a = true) (eb : vW b = true) (hl : a.n + b.n ≤ 1152921504606846976) (w : World) :
    Calls Try.prog 19 #[.agg #[.int .i64 a.n, .int .i64 a.l, .int .i64 a.h, .int .i64 a.t, .int .u64 a.v, .int .u64 a.s], .agg #[.int .i64 b.n, .int .i64 b.l, .int .i64 b.h, .int .i64 b.t, .int .u64 b.v, .int .u64 b.s]] w fun e w' => e = .returned (.tuple #[.agg #[.int .i64 (jnW a b).n, .int .i64 (jnW a b).l, .int .i64 (jnW a b).h, .int .i64 (jnW a b).t, .int .u64 (jnW a b).v, .int .u64 (jnW a b).s], .nilIface]) ∧ Below w.heap.size w w' := by
  unfold jnW
  simp only
  by_cases la : a.l = 0 <;> by_cases lb : b.l = 0
  · have h := wjoin_ok00 a b ha hb ea eb hl (by rw [beq_iff_eq]; exact la) (by rw [beq_iff_eq]; exact lb) w
    rw [if_pos la, if_pos lb]; exact h
  · have h := wjoin_ok01 a b ha hb ea eb hl (by rw [beq_iff_eq]; exact la) (by rw [beq_eq_false_iff_ne]; exact lb) w
    rw [if_pos la, if_neg lb]; exact h
  · have h := wjoin_ok10 a b ha hb ea eb hl (by rw [beq_eq_false_iff_ne]; exact la) (by rw [beq_iff_eq]; exact lb) w
    rw [if_neg la, if_pos lb]; exact h
  · have h := wjoin_ok11 a b ha hb ea eb hl (by rw [beq_eq_false_iff_ne]; exact la) (by rw [beq_eq_false_iff_ne]; exact lb) w
    rw [if_neg la, if_neg lb]; exact h
set_option maxHeartbeats 2000000 in
theorem rjoin_ok (a b : Wt) (ha : WOk a) (hb : WOk b) (ea : vW a = true) (eb : vW b = true) (hl : a.n + b.n ≤ 1152921504606846976) (w : World) :
    Calls Try.prog 20 #[.agg #[.int .i64 a.n, .int .i64 a.l, .int .i64 a.h, .int .i64 a.t, .int .u64 a.v, .int .u64 a.s], .agg #[.int .i64 b.n, .int .i64 b.l, .int .i64 b.h, .int .i64 b.t, .int .u64 b.v, .int .u64 b.s]] w fun e w' => e = .returned (.tuple #[.agg #[.int .i64 (jnW a b).n, .int .i64 (jnW a b).l, .int .i64 (jnW a b).h, .int .i64 (jnW a b).t, .int .u64 (jnW a b).v, .int .u64 (jnW a b).s], .int .i64 0]) ∧ Below w.heap.size w w' := by
  obtain ⟨PA, PB, PR, BW⟩ := three w a b 26 #[.int .i64 0, .int .i64 0, .int .i64 0, .int .i64 0, .int .u64 0, .int .u64 0]
  have HA := Lib.hid (rvalid_v a ha _ ea); have HB := Lib.hid (rvalid_v b hb _ eb)
  have fa := Fit.of ha ea; have fb := Fit.of hb eb
  have an0 := fa.n0; have an1 := fa.n1; have bn0 := fb.n0; have bn1 := fb.n1
  have hl2 : ¬ 1152921504606846976 - b.n < a.n := by omega
  have hl3 : a.n ≤ 1152921504606846976 - b.n := by omega
  have HJ := Lib.hid (rjn_any a b fa fb)
  generalize jnW a b = r at HJ
  clear ea eb fa fb hl
  go_enter Try.func20, Try.ntmps20
  go_upto_region 1 with fail
  refine region_lin0 (.val (fun v _ => v = .agg #[.int .i64 a.n, .int .i64 a.l, .int .i64 a.h, .int .i64 a.t, .int .u64 a.v, .int .u64 a.s]) :: .val (fun v _ => v = .bool true) :: .val (fun v _ => v = .bool false) :: .val (fun v _ => v = .bool false) :: .val (fun v _ => v = .agg #[.int .i64 b.n, .int .i64 b.l, .int .i64 b.h, .int .i64 b.t, .int .u64 b.v, .int .u64 b.s]) :: .val (fun v _ => v = .bool true) :: .val (fun v _ => v = .bool false) :: .val (fun v _ => v = .bool false) :: [])
    ([] :: [(6, 0)] :: [(7, 1)] :: [(8, 2)] :: [(9, 3)] :: [(10, 4), (9, 3)] :: [(11, 5), (9, 3)] :: [(9, 3), (12, 6)] :: []) ((0, 0) :: (0, 0) :: (0, 0) :: (0, 0) :: (0, 0) :: (0, 0) :: (0, 0) :: (0, 0) :: []) 25 (by kernel_rfl) rfl rfl (by kernel_rfl) ⟨Stab.pure _ _ _, Stab.pure _ _ _, Stab.pure _ _ _, Stab.pure _ _ _, Stab.pure _ _ _, Stab.pure _ _ _, Stab.pure _ _ _, Stab.pure _ _ _, trivial⟩ ⟨?_, ?_, ?_, ?_, ?_, ?_, ?_, ?_, trivial⟩ ?_
  · intro wx hb
    intro K hK
    have mm := Box.below (PA) hb (Box.lt (PA))
    have m0 : wx.cell? ⟨w.heap.size, 0, none⟩ = some (.int .i64 a.n) := mm.cell 0
    have m1 : wx.cell? ⟨w.heap.size, 1, none⟩ = some (.int .i64 a.l) := mm.cell 1
    have m2 : wx.cell? ⟨w.heap.size, 2, none⟩ = some (.int .i64 a.h) := mm.cell 2
    have m3 : wx.cell? ⟨w.heap.size, 3, none⟩ = some (.int .i64 a.t) := mm.cell 3
    have m4 : wx.cell? ⟨w.heap.size, 4, none⟩ = some (.int .u64 a.v) := mm.cell 4
    have m5 : wx.cell? ⟨w.heap.size, 5, none⟩ = some (.int .u64 a.s) := mm.cell 5
    clear mm
    go_simp
    exact hK _ _ rfl ⟨rfl, Below.refl _ _⟩
  · intro wx hb
    rintro _ rfl
    intro K hK
    go_simp
    (with_reducible refine (HA.out _).mono ?_)
    rintro e wa ⟨rfl, Ba⟩
    exact hK _ _ rfl ⟨rfl, Ba⟩
  · intro wx hb
    rintro _ rfl
    intro K hK
    go_simp
    exact hK _ _ rfl ⟨rfl, Below.refl _ _⟩
  · intro wx hb
    rintro _ rfl
    intro K hK
    go_simp
    exact hK _ _ rfl ⟨rfl, Below.refl _ _⟩
  · intro wx hb
    rintro _ rfl
    refine ⟨fun _ => ?_, fun h => absurd (show true = false from h) (by decide)⟩
    intro K hK
    have mm := Box.below (PB) hb (Box.lt (PB))
    have m0 : wx.cell? ⟨(w.heap.size + 1), 0, none⟩ = some (.int .i64 b.n) := mm.cell 0
    have m1 : wx.cell? ⟨(w.heap.size + 1), 1, none⟩ = some (.int .i64 b.l) := mm.cell 1
    have m2 : wx.cell? ⟨(w.heap.size + 1), 2, none⟩ = some (.int .i64 b.h) := mm.cell 2
    have m3 : wx.cell? ⟨(w.heap.size + 1), 3, none⟩ = some (.int .i64 b.t) := mm.cell 3
    have m4 : wx.cell? ⟨(w.heap.size + 1), 4, none⟩ = some (.int .u64 b.v) := mm.cell 4
    have m5 : wx.cell? ⟨(w.heap.size + 1), 5, none⟩ = some (.int .u64 b.s) := mm.cell 5
    clear mm
    go_simp
    exact hK _ _ rfl ⟨rfl, Below.refl _ _⟩
  · intro wx hb
    rintro _ rfl
    rintro _ rfl
    refine ⟨fun _ => ?_, fun h => absurd (show true = false from h) (by decide)⟩
    intro K hK
    go_simp
    (with_reducible refine (HB.out _).mono ?_)
    rintro e wa ⟨rfl, Ba⟩
    exact hK _ _ rfl ⟨rfl, Ba⟩
  · intro wx hb
    rintro _ rfl
    rintro _ rfl
    refine ⟨fun _ => ?_, fun h => absurd (show true = false from h) (by decide)⟩
    intro K hK
    go_simp
    exact hK _ _ rfl ⟨rfl, Below.refl _ _⟩
  · intro wx hb
    rintro _ rfl
    rintro _ rfl
    intro K hK
    go_simp
    exact hK _ _ rfl ⟨rfl, Below.refl _ _⟩
  intro w1 B1
  have PA := Box.below PA B1 (Box.lt PA)
  have PB := Box.below PB B1 (Box.lt PB)
  have PR := Box.below PR B1 (Box.lt PR)
  have BW := bkeep BW B1
  rintro _ rfl
  rintro _ rfl
  rintro _ rfl
  rintro _ rfl
  rintro _ rfl
  rintro _ rfl
  rintro _ rfl
  rintro _ rfl
  rintro -
  simp only [Act.put, List.setIfInBounds_toArray, List.set_cons_zero, List.set_cons_succ, List.toList_toArray, List.length_cons, List.length_nil, List.drop_succ_cons, List.drop_zero, List.drop_nil, Nat.zero_add, wpList]
  have x0 : w1.cell? ⟨w.heap.size, 0, none⟩ = some (.int .i64 a.n) := PA.cell 0
  have x1 : w1.cell? ⟨w.heap.size + 1, 0, none⟩ = some (.int .i64 b.n) := PB.cell 0
  go_upto_region 5 with fail
  refine region_lin0 (.val (fun v _ => v = .agg #[.int .i64 a.n, .int .i64 a.l, .int .i64 a.h, .int .i64 a.t, .int .u64 a.v, .int .u64 a.s]) :: .val (fun v _ => v = .agg #[.int .i64 b.n, .int .i64 b.l, .int .i64 b.h, .int .i64 b.t, .int .u64 b.v, .int .u64 b.s]) :: .val (fun v _ => v = .agg #[.int .i64 r.n, .int .i64 r.l, .int .i64 r.h, .int .i64 r.t, .int .u64 r.v, .int .u64 r.s]) :: [])
    ([] :: [] :: [(22, 0), (23, 1)] :: []) ((0, 0) :: (0, 0) :: (0, 0) :: []) 25 (by kernel_rfl) rfl rfl (by kernel_rfl) ⟨Stab.pure _ _ _, Stab.pure _ _ _, Stab.pure _ _ _, trivial⟩ ⟨?_, ?_, ?_, trivial⟩ ?_
  · intro wx hb
    intro K hK
    have mm := Box.below (PA) hb (Box.lt (PA))
    have m0 : wx.cell? ⟨w.heap.size, 0, none⟩ = some (.int .i64 a.n) := mm.cell 0
    have m1 : wx.cell? ⟨w.heap.size, 1, none⟩ = some (.int .i64 a.l) := mm.cell 1
    have m2 : wx.cell? ⟨w.heap.size, 2, none⟩ = some (.int .i64 a.h) := mm.cell 2
    have m3 : wx.cell? ⟨w.heap.size, 3, none⟩ = some (.int .i64 a.t) := mm.cell 3
    have m4 : wx.cell? ⟨w.heap.size, 4, none⟩ = some (.int .u64 a.v) := mm.cell 4
    have m5 : wx.cell? ⟨w.heap.size, 5, none⟩ = some (.int .u64 a.s) := mm.cell 5
    clear mm
    go_simp
    exact hK _ _ rfl ⟨rfl, Below.refl _ _⟩
  · intro wx hb
    intro K hK
    have mm := Box.below (PB) hb (Box.lt (PB))
    have m0 : wx.cell? ⟨(w.heap.size + 1), 0, none⟩ = some (.int .i64 b.n) := mm.cell 0
    have m1 : wx.cell? ⟨(w.heap.size + 1), 1, none⟩ = some (.int .i64 b.l) := mm.cell 1
    have m2 : wx.cell? ⟨(w.heap.size + 1), 2, none⟩ = some (.int .i64 b.h) := mm.cell 2
    have m3 : wx.cell? ⟨(w.heap.size + 1), 3, none⟩ = some (.int .i64 b.t) := mm.cell 3
    have m4 : wx.cell? ⟨(w.heap.size + 1), 4, none⟩ = some (.int .u64 b.v) := mm.cell 4
    have m5 : wx.cell? ⟨(w.heap.size + 1), 5, none⟩ = some (.int .u64 b.s) := mm.cell 5
    clear mm
    go_simp
    exact hK _ _ rfl ⟨rfl, Below.refl _ _⟩
  · intro wx hb
    rintro _ rfl
    rintro _ rfl
    intro K hK
    go_simp
    (with_reducible refine (HJ.out _).mono ?_)
    rintro e wa ⟨rfl, Ba⟩
    exact hK _ _ rfl ⟨rfl, Ba⟩
  intro w2 B2
  have PR := Box.below PR B2 (Box.lt PR)
  have BW := bkeep BW B2
  rintro _ rfl
  rintro _ rfl
  rintro _ rfl
  rintro -
  simp only [Act.put, List.setIfInBounds_toArray, List.set_cons_zero, List.set_cons_succ, List.toList_toArray, List.length_cons, List.length_nil, List.drop_succ_cons, List.drop_zero, List.drop_nil, Nat.zero_add]
  have y0 : w2.cell? ⟨w.heap.size + 1 + 1, 0, none⟩ = some (.int .i64 0) := PR.cell 0
  have y1 : w2.cell? ⟨w.heap.size + 1 + 1, 1, none⟩ = some (.int .i64 0) := PR.cell 1
  have y2 : w2.cell? ⟨w.heap.size + 1 + 1, 2, none⟩ = some (.int .i64 0) := PR.cell 2
  have y3 : w2.cell? ⟨w.heap.size + 1 + 1, 3, none⟩ = some (.int .i64 0) := PR.cell 3
  have y4 : w2.cell? ⟨w.heap.size + 1 + 1, 4, none⟩ = some (.int .u64 0) := PR.cell 4
  have y5 : w2.cell? ⟨w.heap.size + 1 + 1, 5, none⟩ = some (.int .u64 0) := PR.cell 5
  have f0 := PR.free 0; have f1 := PR.free 1; have f2 := PR.free 2; have f3 := PR.free 3; have f4 := PR.free 4; have f5 := PR.free 5
  have lt := PR.lt
  have HBW := Lib.hid BW
  clear B1 B2 PA PB PR BW
  go_wp2_with fail
  refine bodyPost_ret (v := .tuple #[.agg #[.int .i64 r.n, .int .i64 r.l, .int .i64 r.h, .int .i64 r.t, .int .u64 r.v, .int .u64 r.s], .int .i64 0]) ?_ rfl ⟨rfl, ?_⟩
  · simp only [results, Try.results20]
    simp [go_sem, y0, y1, y2, y3, y4, y5]
  · exact ((((((HBW.out.setCell (by simp; omega) _).setCell (by simp; omega) _).setCell (by simp; omega) _).setCell (by simp; omega) _).setCell (by simp; omega) _).setCell (by simp; omega) _)
theorem wjoin_any (a b : Wt) (ha : WOk a) (hb : WOk b) (w : World) :
    Calls Try.prog 19 #[.agg #[.int .i64 a.n, .int .i64 a.l, .int .i64 a.h, .int .i64 a.t, .int .u64 a.v, .int .u64 a.s], .agg #[.int .i64 b.n, .int .i64 b.l, .int .i64 b.h, .int .i64 b.t, .int .u64 b.v, .int .u64 b.s]] w fun e w' => e = .returned (.tuple #[.agg #[.int .i64 (joinW a b).1.n, .int .i64 (joinW a b).1.l, .int .i64 (joinW a b).1.h, .int .i64 (joinW a b).1.t, .int .u64 (joinW a b).1.v, .int .u64 (joinW a b).1.s], errv (joinW a b).2]) ∧ Below w.heap.size w w' := by
  unfold joinW
  cases ea : vW a with
  | false => simpa [ea, errv] using wjoin_bada a b ha hb ea w
  | true =>
    cases eb : vW b with
    | false => simpa [ea, eb, errv] using wjoin_badb a b ha hb ea eb w
    | true =>
      by_cases hl : a.n + b.n ≤ 1152921504606846976
      · simpa [ea, eb, hl, errv] using wjoin_ok a b ha hb ea eb hl w
      · simpa [ea, eb, hl, errv] using wjoin_long a b ha hb ea eb hl w
theorem rjoin_any (a b : Wt) (ha : WOk a) (hb : WOk b) (w : World) :
    Calls Try.prog 20 #[.agg #[.int .i64 a.n, .int .i64 a.l, .int .i64 a.h, .int .i64 a.t, .int .u64 a.v, .int .u64 a.s], .agg #[.int .i64 b.n, .int .i64 b.l, .int .i64 b.h, .int .i64 b.t, .int .u64 b.v, .int .u64 b.s]] w fun e w' => e = .returned (.tuple #[.agg #[.int .i64 (joinW a b).1.n, .int .i64 (joinW a b).1.l, .int .i64 (joinW a b).1.h, .int .i64 (joinW a b).1.t, .int .u64 (joinW a b).1.v, .int .u64 (joinW a b).1.s], .int .i64 (joinW a b).2]) ∧ Below w.heap.size w w' := by
  unfold joinW
  cases ea : vW a with
  | false => simpa [ea] using rjoin_bada a b ha hb ea w
  | true =>
    cases eb : vW b with
    | false => simpa [ea, eb] using rjoin_badb a b ha hb ea eb w
    | true =>
      by_cases hl : a.n + b.n ≤ 1152921504606846976
      · simpa [ea, eb, hl] using rjoin_ok a b ha hb ea eb hl w
      · simpa [ea, eb, hl] using rjoin_long a b ha hb ea eb hl w
set_option maxHeartbeats 2000000 in
theorem law_wjoins (a b : Wt) (ha : WOk a) (hb : WOk b) (w : World) :
    Calls Try.prog 5 #[.agg #[.int .i64 a.n, .int .i64 a.l, .int .i64 a.h, .int .i64 a.t, .int .u64 a.v, .int .u64 a.s], .agg #[.int .i64 b.n, .int .i64 b.l, .int .i64 b.h, .int .i64 b.t, .int .u64 b.v, .int .u64 b.s]] w fun e w' => e = .returned (.bool true) ∧ Below w.heap.size w w' := by
  have h1 := wjoin_any a b ha hb; have h2 := rjoin_any a b ha hb
  generalize joinW a b = q at h1 h2
  obtain ⟨r, k⟩ := q
  have H1 := Lib.hid h1; have H2 := Lib.hid h2
  have HPA := Lib.hid ((Box.new w 26 #[.int .i64 a.n, .int .i64 a.l, .int .i64 a.h, .int .i64 a.t, .int .u64 a.v, .int .u64 a.s]).alloc (.cells #[.int .i64 b.n, .int .i64 b.l, .int .i64 b.h, .int .i64 b.t, .int .u64 b.v, .int .u64 b.s] 26))
  have HPB := Lib.hid (Box.new_ (w := w.alloc (.cells #[.int .i64 a.n, .int .i64 a.l, .int .i64 a.h, .int .i64 a.t, .int .u64 a.v, .int .u64 a.s] 26)) (g := w.heap.size + 1) (t := 26) (cs := #[.int .i64 b.n, .int .i64 b.l, .int .i64 b.h, .int .i64 b.t, .int .u64 b.v, .int .u64 b.s]) (by simp))
  obtain ⟨ev, hev⟩ : ∃ ev, ev = errv k := ⟨_, rfl⟩
  have HN := Lib.hid (num_any k)
  rw [← hev] at HN
  simp only [← hev] at H1
  clear h1 h2 hev
  go_enter Try.func5, Try.ntmps5
  go_upto_region 1 with fail
  refine region_lin0 (.val (fun v _ => v = .agg #[.int .i64 a.n, .int .i64 a.l, .int .i64 a.h, .int .i64 a.t, .int .u64 a.v, .int .u64 a.s]) :: .val (fun v _ => v = .agg #[.int .i64 b.n, .int .i64 b.l, .int .i64 b.h, .int .i64 b.t, .int .u64 b.v, .int .u64 b.s]) :: .val (fun v _ => v = .tuple #[.agg #[.int .i64 r.n, .int .i64 r.l, .int .i64 r.h, .int .i64 r.t, .int .u64 r.v, .int .u64 r.s], ev]) :: .val (fun v _ => v = .tuple #[.agg #[.int .i64 r.n, .int .i64 r.l, .int .i64 r.h, .int .i64 r.t, .int .u64 r.v, .int .u64 r.s], ev]) :: .val (fun v _ => v = .agg #[.int .i64 r.n, .int .i64 r.l, .int .i64 r.h, .int .i64 r.t, .int .u64 r.v, .int .u64 r.s]) :: .val (fun v _ => v = ev) :: .new 26 #[.int .i64 0, .int .i64 0, .int .i64 0, .int .i64 0, .int .u64 0, .int .u64 0] #[.int .i64 r.n, .int .i64 r.l, .int .i64 r.h, .int .i64 r.t, .int .u64 r.v, .int .u64 r.s] 7 :: .put 26 #[.int .i64 0, .int .i64 0, .int .i64 0, .int .i64 0, .int .u64 0, .int .u64 0] #[.int .i64 r.n, .int .i64 r.l, .int .i64 r.h, .int .i64 r.t, .int .u64 r.v, .int .u64 r.s] 5 :: .val (fun v _ => v = ev) :: [])
    ([] :: [] :: [(10, 0), (11, 1)] :: [(12, 2)] :: [(9, 3)] :: [(9, 3)] :: [] :: [(13, 4)] :: [(14, 5)] :: []) ((0, 0) :: (0, 0) :: (0, 0) :: (0, 0) :: (0, 0) :: (0, 0) :: (1, 7) :: (2, 5) :: (0, 0) :: []) 33 (by kernel_rfl) rfl rfl (by kernel_rfl) ⟨Stab.pure _ _ _, Stab.pure _ _ _, Stab.pure _ _ _, Stab.pure _ _ _, Stab.pure _ _ _, Stab.pure _ _ _, ⟨rfl, rfl, rfl⟩, Stab.pure _ _ _, trivial⟩ ⟨?_, ?_, ?_, ?_, ?_, ?_, ?_, ?_, ?_, trivial⟩ ?_
  · intro wx hb
    intro K hK
    have mm := Box.below (HPA.out) hb (Box.lt (HPA.out))
    have m0 : wx.cell? ⟨w.heap.size, 0, none⟩ = some (.int .i64 a.n) := mm.cell 0
    have m1 : wx.cell? ⟨w.heap.size, 1, none⟩ = some (.int .i64 a.l) := mm.cell 1
    have m2 : wx.cell? ⟨w.heap.size, 2, none⟩ = some (.int .i64 a.h) := mm.cell 2
    have m3 : wx.cell? ⟨w.heap.size, 3, none⟩ = some (.int .i64 a.t) := mm.cell 3
    have m4 : wx.cell? ⟨w.heap.size, 4, none⟩ = some (.int .u64 a.v) := mm.cell 4
    have m5 : wx.cell? ⟨w.heap.size, 5, none⟩ = some (.int .u64 a.s) := mm.cell 5
    clear mm
    go_simp
    exact hK _ _ rfl ⟨rfl, Below.refl _ _⟩
  · intro wx hb
    intro K hK
    have mm := Box.below (HPB.out) hb (Box.lt (HPB.out))
    have m0 : wx.cell? ⟨(w.heap.size + 1), 0, none⟩ = some (.int .i64 b.n) := mm.cell 0
    have m1 : wx.cell? ⟨(w.heap.size + 1), 1, none⟩ = some (.int .i64 b.l) := mm.cell 1
    have m2 : wx.cell? ⟨(w.heap.size + 1), 2, none⟩ = some (.int .i64 b.h) := mm.cell 2
    have m3 : wx.cell? ⟨(w.heap.size + 1), 3, none⟩ = some (.int .i64 b.t) := mm.cell 3
    have m4 : wx.cell? ⟨(w.heap.size + 1), 4, none⟩ = some (.int .u64 b.v) := mm.cell 4
    have m5 : wx.cell? ⟨(w.heap.size + 1), 5, none⟩ = some (.int .u64 b.s) := mm.cell 5
    clear mm
    go_simp
    exact hK _ _ rfl ⟨rfl, Below.refl _ _⟩
  · intro wx hb
    rintro _ rfl
    rintro _ rfl
    intro K hK
    go_simp
    (with_reducible refine (H1.out _).mono ?_)
    rintro e wa ⟨rfl, Ba⟩
    exact hK _ _ rfl ⟨rfl, Ba⟩
  · intro wx hb
    rintro _ rfl
    intro K hK
    go_simp
    exact hK _ _ rfl ⟨rfl, Below.refl _ _⟩
  · intro wx hb
    rintro _ rfl
    intro K hK
    go_simp
    exact hK _ _ rfl ⟨rfl, Below.refl _ _⟩
  · intro wx hb
    rintro _ rfl
    intro K hK
    go_simp
    exact hK _ _ rfl ⟨rfl, Below.refl _ _⟩
  · intro wx hb
    intro K hK
    go_simp
    exact hK _ _ rfl ⟨rfl, rfl⟩
  · intro wx hb
    intro g hg hbx
    rintro _ rfl
    intro K hK
    have c0 : wx.cell? ⟨g, 0, none⟩ = some (.int .i64 0) := hbx.cell 0
    have f0 := hbx.free 0
    have c1 : wx.cell? ⟨g, 1, none⟩ = some (.int .i64 0) := hbx.cell 1
    have f1 := hbx.free 1
    have c2 : wx.cell? ⟨g, 2, none⟩ = some (.int .i64 0) := hbx.cell 2
    have f2 := hbx.free 2
    have c3 : wx.cell? ⟨g, 3, none⟩ = some (.int .i64 0) := hbx.cell 3
    have f3 := hbx.free 3
    have c4 : wx.cell? ⟨g, 4, none⟩ = some (.int .u64 0) := hbx.cell 4
    have f4 := hbx.free 4
    have c5 : wx.cell? ⟨g, 5, none⟩ = some (.int .u64 0) := hbx.cell 5
    have f5 := hbx.free 5
    clear hb
    go_simp
    exact hK _ _ rfl ((((((((Stored.start hbx).set 0 _).set 1 _).set 2 _).set 3 _).set 4 _).set 5 _))
  · intro wx hb
    intro vq hq; have hq : vq = ev := hq; subst vq
    intro K hK
    go_simp
    exact hK _ _ rfl ⟨rfl, Below.refl _ _⟩
  intro w1 B1
  rintro _ rfl
  rintro _ rfl
  rintro _ rfl
  rintro _ rfl
  rintro _ rfl
  intro vq hq; have hq : vq = ev := hq; subst vq
  intro gx hgx Bx
  intro vq hq; have hq : vq = ev := hq; subst vq
  rintro -
  simp only [Act.put, List.setIfInBounds_toArray, List.set_cons_zero, List.set_cons_succ, List.toList_toArray, List.length_cons, List.length_nil, List.drop_succ_cons, List.drop_zero, List.drop_nil, Nat.zero_add, wpList]
  have HPA1 := Lib.hid (HPA.out.below B1 HPA.out.lt); have HPB1 := Lib.hid (HPB.out.below B1 HPB.out.lt)
  have BW := bkeep (balloc (balloc (Below.refl w.heap.size w) (.cells #[.int .i64 a.n, .int .i64 a.l, .int .i64 a.h, .int .i64 a.t, .int .u64 a.v, .int .u64 a.s] 26)) (.cells #[.int .i64 b.n, .int .i64 b.l, .int .i64 b.h, .int .i64 b.t, .int .u64 b.v, .int .u64 b.s] 26)) B1
  clear B1
  go_upto_region 2 with fail
  refine region_lin0 (.val (fun v _ => v = .agg #[.int .i64 a.n, .int .i64 a.l, .int .i64 a.h, .int .i64 a.t, .int .u64 a.v, .int .u64 a.s]) :: .val (fun v _ => v = .agg #[.int .i64 b.n, .int .i64 b.l, .int .i64 b.h, .int .i64 b.t, .int .u64 b.v, .int .u64 b.s]) :: .val (fun v _ => v = .tuple #[.agg #[.int .i64 r.n, .int .i64 r.l, .int .i64 r.h, .int .i64 r.t, .int .u64 r.v, .int .u64 r.s], .int .i64 k]) :: .val (fun v _ => v = .tuple #[.agg #[.int .i64 r.n, .int .i64 r.l, .int .i64 r.h, .int .i64 r.t, .int .u64 r.v, .int .u64 r.s], .int .i64 k]) :: .val (fun v _ => v = .agg #[.int .i64 r.n, .int .i64 r.l, .int .i64 r.h, .int .i64 r.t, .int .u64 r.v, .int .u64 r.s]) :: .val (fun v _ => v = .int .i64 k) :: .new 26 #[.int .i64 0, .int .i64 0, .int .i64 0, .int .i64 0, .int .u64 0, .int .u64 0] #[.int .i64 r.n, .int .i64 r.l, .int .i64 r.h, .int .i64 r.t, .int .u64 r.v, .int .u64 r.s] 7 :: .put 26 #[.int .i64 0, .int .i64 0, .int .i64 0, .int .i64 0, .int .u64 0, .int .u64 0] #[.int .i64 r.n, .int .i64 r.l, .int .i64 r.h, .int .i64 r.t, .int .u64 r.v, .int .u64 r.s] 7 :: .val (fun v _ => v = .int .i64 k) :: [])
    ([] :: [] :: [(16, 0), (17, 1)] :: [(18, 2)] :: [(15, 3)] :: [(15, 3)] :: [] :: [(19, 4)] :: [(20, 5)] :: []) ((0, 0) :: (0, 0) :: (0, 0) :: (0, 0) :: (0, 0) :: (0, 0) :: (1, 7) :: (2, 7) :: (0, 0) :: []) 33 (by kernel_rfl) rfl rfl (by kernel_rfl) ⟨Stab.pure _ _ _, Stab.pure _ _ _, Stab.pure _ _ _, Stab.pure _ _ _, Stab.pure _ _ _, Stab.pure _ _ _, ⟨rfl, rfl, rfl⟩, Stab.pure _ _ _, trivial⟩ ⟨?_, ?_, ?_, ?_, ?_, ?_, ?_, ?_, ?_, trivial⟩ ?_
  · intro wx hb
    intro K hK
    have mm := Box.below (HPA1.out) hb (Box.lt (HPA1.out))
    have m0 : wx.cell? ⟨w.heap.size, 0, none⟩ = some (.int .i64 a.n) := mm.cell 0
    have m1 : wx.cell? ⟨w.heap.size, 1, none⟩ = some (.int .i64 a.l) := mm.cell 1
    have m2 : wx.cell? ⟨w.heap.size, 2, none⟩ = some (.int .i64 a.h) := mm.cell 2
    have m3 : wx.cell? ⟨w.heap.size, 3, none⟩ = some (.int .i64 a.t) := mm.cell 3
    have m4 : wx.cell? ⟨w.heap.size, 4, none⟩ = some (.int .u64 a.v) := mm.cell 4
    have m5 : wx.cell? ⟨w.heap.size, 5, none⟩ = some (.int .u64 a.s) := mm.cell 5
    clear mm
    go_simp
    exact hK _ _ rfl ⟨rfl, Below.refl _ _⟩
  · intro wx hb
    intro K hK
    have mm := Box.below (HPB1.out) hb (Box.lt (HPB1.out))
    have m0 : wx.cell? ⟨(w.heap.size + 1), 0, none⟩ = some (.int .i64 b.n) := mm.cell 0
    have m1 : wx.cell? ⟨(w.heap.size + 1), 1, none⟩ = some (.int .i64 b.l) := mm.cell 1
    have m2 : wx.cell? ⟨(w.heap.size + 1), 2, none⟩ = some (.int .i64 b.h) := mm.cell 2
    have m3 : wx.cell? ⟨(w.heap.size + 1), 3, none⟩ = some (.int .i64 b.t) := mm.cell 3
    have m4 : wx.cell? ⟨(w.heap.size + 1), 4, none⟩ = some (.int .u64 b.v) := mm.cell 4
    have m5 : wx.cell? ⟨(w.heap.size + 1), 5, none⟩ = some (.int .u64 b.s) := mm.cell 5
    clear mm
    go_simp
    exact hK _ _ rfl ⟨rfl, Below.refl _ _⟩
  · intro wx hb
    rintro _ rfl
    rintro _ rfl
    intro K hK
    go_simp
    (with_reducible refine (H2.out _).mono ?_)
    rintro e wa ⟨rfl, Ba⟩
    exact hK _ _ rfl ⟨rfl, Ba⟩
  · intro wx hb
    rintro _ rfl
    intro K hK
    go_simp
    exact hK _ _ rfl ⟨rfl, Below.refl _ _⟩
  · intro wx hb
    rintro _ rfl
    intro K hK
    go_simp
    exact hK _ _ rfl ⟨rfl, Below.refl _ _⟩
  · intro wx hb
    rintro _ rfl
    intro K hK
    go_simp
    exact hK _ _ rfl ⟨rfl, Below.refl _ _⟩
  · intro wx hb
    intro K hK
    go_simp
    exact hK _ _ rfl ⟨rfl, rfl⟩
  · intro wx hb
    intro g hg hbx
    rintro _ rfl
    intro K hK
    have c0 : wx.cell? ⟨g, 0, none⟩ = some (.int .i64 0) := hbx.cell 0
    have f0 := hbx.free 0
    have c1 : wx.cell? ⟨g, 1, none⟩ = some (.int .i64 0) := hbx.cell 1
    have f1 := hbx.free 1
    have c2 : wx.cell? ⟨g, 2, none⟩ = some (.int .i64 0) := hbx.cell 2
    have f2 := hbx.free 2
    have c3 : wx.cell? ⟨g, 3, none⟩ = some (.int .i64 0) := hbx.cell 3
    have f3 := hbx.free 3
    have c4 : wx.cell? ⟨g, 4, none⟩ = some (.int .u64 0) := hbx.cell 4
    have f4 := hbx.free 4
    have c5 : wx.cell? ⟨g, 5, none⟩ = some (.int .u64 0) := hbx.cell 5
    have f5 := hbx.free 5
    clear hb
    go_simp
    exact hK _ _ rfl ((((((((Stored.start hbx).set 0 _).set 1 _).set 2 _).set 3 _).set 4 _).set 5 _))
  · intro wx hb
    rintro _ rfl
    intro K hK
    go_simp
    exact hK _ _ rfl ⟨rfl, Below.refl _ _⟩
  intro w2 B2
  have Bx := Box.below Bx B2 (Box.lt Bx)
  have BW := bkeep BW B2
  rintro _ rfl
  rintro _ rfl
  rintro _ rfl
  rintro _ rfl
  rintro _ rfl
  rintro _ rfl
  intro gy hgy By
  rintro _ rfl
  rintro -
  simp only [Act.put, List.setIfInBounds_toArray, List.set_cons_zero, List.set_cons_succ, List.toList_toArray, List.length_cons, List.length_nil, List.drop_succ_cons, List.drop_zero, List.drop_nil, Nat.zero_add, wpList]
  clear B2
  go_upto_region 3 with fail
  refine region_lin0 (.val (fun v _ => v = .bool true) :: .val (fun v _ => v = .bool true) :: .val (fun v _ => v = .agg #[.int .i64 r.n, .int .i64 r.l, .int .i64 r.h, .int .i64 r.t, .int .u64 r.v, .int .u64 r.s]) :: .val (fun v _ => v = .agg #[.int .i64 r.n, .int .i64 r.l, .int .i64 r.h, .int .i64 r.t, .int .u64 r.v, .int .u64 r.s]) :: .val (fun v _ => v = .bool true) :: .val (fun v _ => v = .bool true) :: .val (fun v _ => v = .bool true) :: .val (fun v _ => v = ev) :: .val (fun v _ => v = .int .i64 k) :: .val (fun v _ => v = .int .i64 k) :: .val (fun v _ => v = .bool true) :: .val (fun v _ => v = .bool true) :: .val (fun v _ => v = .bool true) :: [])
    ([] :: [(21, 0)] :: [(22, 1)] :: [(22, 1)] :: [(23, 2), (24, 3), (22, 1)] :: [(22, 1), (25, 4)] :: [(26, 5)] :: [(27, 6)] :: [(28, 7), (27, 6)] :: [(27, 6)] :: [(29, 8), (30, 9), (27, 6)] :: [(27, 6), (31, 10)] :: [(32, 11)] :: []) ((0, 0) :: (0, 0) :: (0, 0) :: (0, 0) :: (0, 0) :: (0, 0) :: (0, 0) :: (0, 0) :: (0, 0) :: (0, 0) :: (0, 0) :: (0, 0) :: (0, 0) :: []) 33 (by kernel_rfl) rfl rfl (by kernel_rfl) ⟨Stab.pure _ _ _, Stab.pure _ _ _, Stab.pure _ _ _, Stab.pure _ _ _, Stab.pure _ _ _, Stab.pure _ _ _, Stab.pure _ _ _, Stab.pure _ _ _, Stab.pure _ _ _, Stab.pure _ _ _, Stab.pure _ _ _, Stab.pure _ _ _, Stab.pure _ _ _, trivial⟩ ⟨?_, ?_, ?_, ?_, ?_, ?_, ?_, ?_, ?_, ?_, ?_, ?_, ?_, trivial⟩ ?_
  · intro wx hb
    intro K hK
    go_simp
    (with_reducible refine (alive_any _).mono ?_)
    rintro e wa ⟨rfl, Ba⟩
    exact hK _ _ rfl ⟨rfl, Ba⟩
  · intro wx hb
    rintro _ rfl
    intro K hK
    go_simp
    exact hK _ _ rfl ⟨rfl, Below.refl _ _⟩
  · intro wx hb
    rintro _ rfl
    refine ⟨fun _ => ?_, fun h => absurd (show true = false from h) (by decide)⟩
    intro K hK
    have mm := Box.below (Bx) hb (Box.lt (Bx))
    have m0 : wx.cell? ⟨gx, 0, none⟩ = some (.int .i64 r.n) := mm.cell 0
    have m1 : wx.cell? ⟨gx, 1, none⟩ = some (.int .i64 r.l) := mm.cell 1
    have m2 : wx.cell? ⟨gx, 2, none⟩ = some (.int .i64 r.h) := mm.cell 2
    have m3 : wx.cell? ⟨gx, 3, none⟩ = some (.int .i64 r.t) := mm.cell 3
    have m4 : wx.cell? ⟨gx, 4, none⟩ = some (.int .u64 r.v) := mm.cell 4
    have m5 : wx.cell? ⟨gx, 5, none⟩ = some (.int .u64 r.s) := mm.cell 5
    clear mm
    go_simp
    exact hK _ _ rfl ⟨rfl, Below.refl _ _⟩
  · intro wx hb
    rintro _ rfl
    refine ⟨fun _ => ?_, fun h => absurd (show true = false from h) (by decide)⟩
    intro K hK
    have mm := Box.below (By) hb (Box.lt (By))
    have m0 : wx.cell? ⟨gy, 0, none⟩ = some (.int .i64 r.n) := mm.cell 0
    have m1 : wx.cell? ⟨gy, 1, none⟩ = some (.int .i64 r.l) := mm.cell 1
    have m2 : wx.cell? ⟨gy, 2, none⟩ = some (.int .i64 r.h) := mm.cell 2
    have m3 : wx.cell? ⟨gy, 3, none⟩ = some (.int .i64 r.t) := mm.cell 3
    have m4 : wx.cell? ⟨gy, 4, none⟩ = some (.int .u64 r.v) := mm.cell 4
    have m5 : wx.cell? ⟨gy, 5, none⟩ = some (.int .u64 r.s) := mm.cell 5
    clear mm
    go_simp
    exact hK _ _ rfl ⟨rfl, Below.refl _ _⟩
  · intro wx hb
    rintro _ rfl
    rintro _ rfl
    rintro _ rfl
    refine ⟨fun _ => ?_, fun h => absurd (show true = false from h) (by decide)⟩
    intro K hK
    go_simp
    exact hK _ _ rfl ⟨rfl, Below.refl _ _⟩
  · intro wx hb
    rintro _ rfl
    rintro _ rfl
    intro K hK
    go_simp
    exact hK _ _ rfl ⟨rfl, Below.refl _ _⟩
  · intro wx hb
    rintro _ rfl
    intro K hK
    go_simp
    exact hK _ _ rfl ⟨rfl, Below.refl _ _⟩
  · intro wx hb
    rintro _ rfl
    refine ⟨fun _ => ?_, fun h => absurd (show true = false from h) (by decide)⟩
    intro K hK
    go_simp
    exact hK _ _ rfl ⟨rfl, Below.refl _ _⟩
  · intro wx hb
    intro vq hq; have hq : vq = ev := hq; subst vq
    rintro _ rfl
    refine ⟨fun _ => ?_, fun h => absurd (show true = false from h) (by decide)⟩
    intro K hK
    go_simp
    (with_reducible refine (HN.out _).mono ?_)
    rintro e wa ⟨rfl, rfl⟩
    exact hK _ _ rfl ⟨rfl, Below.refl _ _⟩
  · intro wx hb
    rintro _ rfl
    refine ⟨fun _ => ?_, fun h => absurd (show true = false from h) (by decide)⟩
    intro K hK
    go_simp
    exact hK _ _ rfl ⟨rfl, Below.refl _ _⟩
  · intro wx hb
    rintro _ rfl
    rintro _ rfl
    rintro _ rfl
    refine ⟨fun _ => ?_, fun h => absurd (show true = false from h) (by decide)⟩
    intro K hK
    go_simp
    exact hK _ _ rfl ⟨rfl, Below.refl _ _⟩
  · intro wx hb
    rintro _ rfl
    rintro _ rfl
    intro K hK
    go_simp
    exact hK _ _ rfl ⟨rfl, Below.refl _ _⟩
  · intro wx hb
    rintro _ rfl
    intro K hK
    go_simp
    exact hK _ _ rfl ⟨rfl, Below.refl _ _⟩
  intro w3 B3
  have BW := bkeep BW B3
  rintro _ rfl
  rintro _ rfl
  rintro _ rfl
  rintro _ rfl
  rintro _ rfl
  rintro _ rfl
  rintro _ rfl
  intro vq hq; have hq : vq = ev := hq; subst vq
  rintro _ rfl
  rintro _ rfl
  rintro _ rfl
  rintro _ rfl
  rintro _ rfl
  rintro -
  simp only [Act.put, List.setIfInBounds_toArray, List.set_cons_zero, List.set_cons_succ, List.toList_toArray, List.length_cons, List.length_nil, List.drop_succ_cons, List.drop_zero, List.drop_nil, Nat.zero_add, wpList]
  go_wp2_with fail
  go_ret
  exact ⟨rfl, BW⟩
end Go.Proofs.Ytbapmolpfdiknaa
