/- The walks of weight.Join at valid weights, and of evergreenref06.join, Join. -/
import Derived.Test.YtolhjkpekmmajaaWgtJoin
namespace Go.Proofs.Ytolhjkpekmmajaa
set_option linter.unusedVariables false
set_option linter.unusedSimpArgs false
open Go.RowKit Go.Lib
attribute [local go_sem ↓] Go.wp_at_zero Go.wp_at_succ
set_option maxRecDepth 100000 in
set_option maxHeartbeats 2000000 in
theorem wjoin_long (a b : Wt) (ha : WOk a) (hb : WOk b) (ea : vW a = true) (eb : vW b = true) (hl : ¬ a.n + b.n ≤ 1152921504606846976) (w : World) :
    Calls Try.prog 78 #[.agg #[.int .i64 a.n, .int .i64 a.l, .int .i64 a.h, .int .i64 a.t, .int .u64 a.v, .int .u64 a.s], .agg #[.int .i64 b.n, .int .i64 b.l, .int .i64 b.h, .int .i64 b.t, .int .u64 b.v, .int .u64 b.s]] w fun e w' => e = .returned (.tuple #[.agg #[.int .i64 zW.n, .int .i64 zW.l, .int .i64 zW.h, .int .i64 zW.t, .int .u64 zW.v, .int .u64 zW.s], .iface 72 (.int .i64 2)]) ∧ Below w.heap.size w w' := by
  obtain ⟨PA, PB, PR, BW⟩ := three w a b 110 #[.int .i64 0, .int .i64 0, .int .i64 0, .int .i64 0, .int .u64 0, .int .u64 0]
  have HA := Lib.hid (wvalid_v a ha _ ea); have HB := Lib.hid (wvalid_v b hb _ eb)
  have fa := Fit.of ha ea; have fb := Fit.of hb eb
  have an0 := fa.n0; have an1 := fa.n1; have bn0 := fb.n0; have bn1 := fb.n1
  have HL := Lib.hid (lenadd_long a.n b.n an0 an1 bn0 bn1 hl)
  have hl2 : 1152921504606846976 - b.n < a.n := by omega
  clear ea eb fa fb hl
  go_enter Try.func78, Try.ntmps78
  go_upto_region 1 with fail
  refine region_lin0 (.val (fun v _ => v = .agg #[.int .i64 a.n, .int .i64 a.l, .int .i64 a.h, .int .i64 a.t, .int .u64 a.v, .int .u64 a.s]) :: .val (fun v _ => v = .bool true) :: .val (fun v _ => v = .bool false) :: .val (fun v _ => v = .bool false) :: .val (fun v _ => v = .agg #[.int .i64 b.n, .int .i64 b.l, .int .i64 b.h, .int .i64 b.t, .int .u64 b.v, .int .u64 b.s]) :: .val (fun v _ => v = .bool true) :: .val (fun v _ => v = .bool false) :: .val (fun v _ => v = .bool false) :: [])
    ([] :: [(9, 0)] :: [(10, 1)] :: [(11, 2)] :: [(12, 3)] :: [(13, 4), (12, 3)] :: [(14, 5), (12, 3)] :: [(12, 3), (15, 6)] :: []) ((0, 0) :: (0, 0) :: (0, 0) :: (0, 0) :: (0, 0) :: (0, 0) :: (0, 0) :: (0, 0) :: []) 66 (by kernel_rfl) rfl rfl (by kernel_rfl) ⟨Stab.pure _ _ _, Stab.pure _ _ _, Stab.pure _ _ _, Stab.pure _ _ _, Stab.pure _ _ _, Stab.pure _ _ _, Stab.pure _ _ _, Stab.pure _ _ _, trivial⟩ ⟨?_, ?_, ?_, ?_, ?_, ?_, ?_, ?_, trivial⟩ ?_
  · intro wx hb
    intro K hK
    exact wp_load_row 110 (.tmp 2) rfl w.heap.size rfl 110 _ (0, 0) _ (Box.below (PA) hb (Box.lt (PA))) Try.underlying110 rfl (by kernel_rfl) (hK _ _ rfl ⟨rfl, Below.refl _ _⟩)
  · intro wx hb
    rintro _ rfl
    intro K hK
    go_simp
    (with_reducible refine (HA.out _).mono ?_)
    rintro e wa ⟨rfl, Ba⟩
    exact hK _ _ rfl ⟨rfl, Ba⟩
  · intro wx hb
    rintro _ rfl
    intro K hK
    go_simp
    exact hK _ _ rfl ⟨rfl, Below.refl _ _⟩
  · intro wx hb
    rintro _ rfl
    intro K hK
    go_simp
    exact hK _ _ rfl ⟨rfl, Below.refl _ _⟩
  · intro wx hb
    rintro _ rfl
    refine ⟨fun _ => ?_, fun h => absurd (show true = false from h) (by decide)⟩
    intro K hK
    exact wp_load_row 110 (.tmp 3) rfl (w.heap.size + 1) rfl 110 _ (0, 0) _ (Box.below (PB) hb (Box.lt (PB))) Try.underlying110 rfl (by kernel_rfl) (hK _ _ rfl ⟨rfl, Below.refl _ _⟩)
  · intro wx hb
    rintro _ rfl
    rintro _ rfl
    refine ⟨fun _ => ?_, fun h => absurd (show true = false from h) (by decide)⟩
    intro K hK
    go_simp
    (with_reducible refine (HB.out _).mono ?_)
    rintro e wa ⟨rfl, Ba⟩
    exact hK _ _ rfl ⟨rfl, Ba⟩
  · intro wx hb
    rintro _ rfl
    rintro _ rfl
    refine ⟨fun _ => ?_, fun h => absurd (show true = false from h) (by decide)⟩
    intro K hK
    go_simp
    exact hK _ _ rfl ⟨rfl, Below.refl _ _⟩
  · intro wx hb
    rintro _ rfl
    rintro _ rfl
    intro K hK
    go_simp
    exact hK _ _ rfl ⟨rfl, Below.refl _ _⟩
  intro w1 B1
  have PA := Box.below PA B1 (Box.lt PA)
  have PB := Box.below PB B1 (Box.lt PB)
  have PR := Box.below PR B1 (Box.lt PR)
  have BW := bkeep BW B1
  rintro _ rfl
  rintro _ rfl
  rintro _ rfl
  rintro _ rfl
  rintro _ rfl
  rintro _ rfl
  rintro _ rfl
  rintro _ rfl
  rintro -
  simp only [Act.put, List.setIfInBounds_toArray, List.set_cons_zero, List.set_cons_succ, List.toList_toArray, List.length_cons, List.length_nil, List.drop_succ_cons, List.drop_zero, List.drop_nil, Nat.zero_add, wpList]
  have x0 : w1.cell? ⟨w.heap.size, 0, none⟩ = some (.int .i64 a.n) := PA.cell 0
  have x1 : w1.cell? ⟨w.heap.size + 1, 0, none⟩ = some (.int .i64 b.n) := PB.cell 0
  have y0 : w1.cell? ⟨w.heap.size + 1 + 1, 0, none⟩ = some (.int .i64 0) := PR.cell 0
  have y1 : w1.cell? ⟨w.heap.size + 1 + 1, 1, none⟩ = some (.int .i64 0) := PR.cell 1
  have y2 : w1.cell? ⟨w.heap.size + 1 + 1, 2, none⟩ = some (.int .i64 0) := PR.cell 2
  have y3 : w1.cell? ⟨w.heap.size + 1 + 1, 3, none⟩ = some (.int .i64 0) := PR.cell 3
  have y4 : w1.cell? ⟨w.heap.size + 1 + 1, 4, none⟩ = some (.int .u64 0) := PR.cell 4
  have y5 : w1.cell? ⟨w.heap.size + 1 + 1, 5, none⟩ = some (.int .u64 0) := PR.cell 5
  have f0 := PR.free 0; have f1 := PR.free 1; have f2 := PR.free 2; have f3 := PR.free 3; have f4 := PR.free 4; have f5 := PR.free 5
  have lt := PR.lt
  have HBW := Lib.hid BW
  clear B1 PA PB PR BW
  go_wp2_with fail
  (with_reducible refine (HL.out _).mono ?_)
  rintro e w2 ⟨rfl, rfl⟩
  go_wp2_with fail
  refine bodyPost_ret (v := .tuple #[.agg #[.int .i64 0, .int .i64 0, .int .i64 0, .int .i64 0, .int .u64 0, .int .u64 0], .iface 72 (.int .i64 2)]) ?_ rfl ⟨rfl, ?_⟩
  · simp only [results, Try.results78]
    simp [go_sem, y0, y1, y2, y3, y4, y5]
  · exact ((((((HBW.out.setCell (by simp; omega) _).setCell (by simp; omega) _).setCell (by simp; omega) _).setCell (by simp; omega) _).setCell (by simp; omega) _).setCell (by simp; omega) _)
set_option maxRecDepth 100000 in
set_option maxHeartbeats 4000000 in
theorem wjoin_ok00 (a b : Wt) (ha : WOk a) (hb : WOk b) (ea : vW a = true) (eb : vW b = true) (hl : a.n + b.n ≤ 1152921504606846976) (la : (a.l == 0) = true) (lb : (b.l == 0) = true) (w : World) :
    Calls Try.prog 78 #[.agg #[.int .i64 a.n, .int .i64 a.l, .int .i64 a.h, .int .i64 a.t, .int .u64 a.v, .int .u64 a.s], .agg #[.int .i64 b.n, .int .i64 b.l, .int .i64 b.h, .int .i64 b.t, .int .u64 b.v, .int .u64 b.s]] w fun e w' => e = .returned (.tuple #[.agg #[.int .i64 (a.n + b.n), .int .i64 (a.l + b.l), .int .i64 (a.n + b.h), .int .i64 (b.n + a.t), .int .u64 (red (a.v * b.s + b.v)), .int .u64 (red (a.s * b.s))], .nilIface]) ∧ Below w.heap.size w w' := by
  obtain ⟨PA, PB, PR, BW⟩ := three w a b 110 #[.int .i64 0, .int .i64 0, .int .i64 0, .int .i64 0, .int .u64 0, .int .u64 0]
  have HA := Lib.hid (wvalid_v a ha _ ea); have HB := Lib.hid (wvalid_v b hb _ eb)
  have fa := Fit.of ha ea; have fb := Fit.of hb eb
  have an0 := fa.n0; have an1 := fa.n1; have bn0 := fb.n0; have bn1 := fb.n1
  have al0 := fa.l0; have al1 := fa.l1; have bl0 := fb.l0; have bl1 := fb.l1
  have ah0 := fa.h0; have ah1 := fa.h1; have bh0 := fb.h0; have bh1 := fb.h1
  have at0 := fa.t0; have at1 := fa.t1; have bt0 := fb.t0; have bt1 := fb.t1
  have HL := Lib.hid (lenadd_yes a.n b.n an0 an1 bn0 bn1 hl)
  have HJ := Lib.hid (join_any a.v a.s b.v b.s ha.uv ha.us hb.uv hb.us)
  clear ea eb fa fb
  go_enter Try.func78, Try.ntmps78
  go_upto_region 1 with fail
  refine region_lin0 (.val (fun v _ => v = .agg #[.int .i64 a.n, .int .i64 a.l, .int .i64 a.h, .int .i64 a.t, .int .u64 a.v, .int .u64 a.s]) :: .val (fun v _ => v = .bool true) :: .val (fun v _ => v = .bool false) :: .val (fun v _ => v = .bool false) :: .val (fun v _ => v = .agg #[.int .i64 b.n, .int .i64 b.l, .int .i64 b.h, .int .i64 b.t, .int .u64 b.v, .int .u64 b.s]) :: .val (fun v _ => v = .bool true) :: .val (fun v _ => v = .bool false) :: .val (fun v _ => v = .bool false) :: [])
    ([] :: [(9, 0)] :: [(10, 1)] :: [(11, 2)] :: [(12, 3)] :: [(13, 4), (12, 3)] :: [(14, 5), (12, 3)] :: [(12, 3), (15, 6)] :: []) ((0, 0) :: (0, 0) :: (0, 0) :: (0, 0) :: (0, 0) :: (0, 0) :: (0, 0) :: (0, 0) :: []) 66 (by kernel_rfl) rfl rfl (by kernel_rfl) ⟨Stab.pure _ _ _, Stab.pure _ _ _, Stab.pure _ _ _, Stab.pure _ _ _, Stab.pure _ _ _, Stab.pure _ _ _, Stab.pure _ _ _, Stab.pure _ _ _, trivial⟩ ⟨?_, ?_, ?_, ?_, ?_, ?_, ?_, ?_, trivial⟩ ?_
  · intro wx hb
    intro K hK
    exact wp_load_row 110 (.tmp 2) rfl w.heap.size rfl 110 _ (0, 0) _ (Box.below (PA) hb (Box.lt (PA))) Try.underlying110 rfl (by kernel_rfl) (hK _ _ rfl ⟨rfl, Below.refl _ _⟩)
  · intro wx hb
    rintro _ rfl
    intro K hK
    go_simp
    (with_reducible refine (HA.out _).mono ?_)
    rintro e wa ⟨rfl, Ba⟩
    exact hK _ _ rfl ⟨rfl, Ba⟩
  · intro wx hb
    rintro _ rfl
    intro K hK
    go_simp
    exact hK _ _ rfl ⟨rfl, Below.refl _ _⟩
  · intro wx hb
    rintro _ rfl
    intro K hK
    go_simp
    exact hK _ _ rfl ⟨rfl, Below.refl _ _⟩
  · intro wx hb
    rintro _ rfl
    refine ⟨fun _ => ?_, fun h => absurd (show true = false from h) (by decide)⟩
    intro K hK
    exact wp_load_row 110 (.tmp 3) rfl (w.heap.size + 1) rfl 110 _ (0, 0) _ (Box.below (PB) hb (Box.lt (PB))) Try.underlying110 rfl (by kernel_rfl) (hK _ _ rfl ⟨rfl, Below.refl _ _⟩)
  · intro wx hb
    rintro _ rfl
    rintro _ rfl
    refine ⟨fun _ => ?_, fun h => absurd (show true = false from h) (by decide)⟩
    intro K hK
    go_simp
    (with_reducible refine (HB.out _).mono ?_)
    rintro e wa ⟨rfl, Ba⟩
    exact hK _ _ rfl ⟨rfl, Ba⟩
  · intro wx hb
    rintro _ rfl
    rintro _ rfl
    refine ⟨fun _ => ?_, fun h => absurd (show true = false from h) (by decide)⟩
    intro K hK
    go_simp
    exact hK _ _ rfl ⟨rfl, Below.refl _ _⟩
  · intro wx hb
    rintro _ rfl
    rintro _ rfl
    intro K hK
    go_simp
    exact hK _ _ rfl ⟨rfl, Below.refl _ _⟩
  intro w1 B1
  have PA := Box.below PA B1 (Box.lt PA)
  have PB := Box.below PB B1 (Box.lt PB)
  have PR := Box.below PR B1 (Box.lt PR)
  have BW := bkeep BW B1
  rintro _ rfl
  rintro _ rfl
  rintro _ rfl
  rintro _ rfl
  rintro _ rfl
  rintro _ rfl
  rintro _ rfl
  rintro _ rfl
  rintro -
  simp only [Act.put, List.setIfInBounds_toArray, List.set_cons_zero, List.set_cons_succ, List.toList_toArray, List.length_cons, List.length_nil, List.drop_succ_cons, List.drop_zero, List.drop_nil, Nat.zero_add, wpList]
  have x0 : w1.cell? ⟨w.heap.size, 0, none⟩ = some (.int .i64 a.n) := PA.cell 0
  have x1 : w1.cell? ⟨w.heap.size + 1, 0, none⟩ = some (.int .i64 b.n) := PB.cell 0
  have HPA := Lib.hid PA; have HPB := Lib.hid PB; have HPR := Lib.hid PR
  have HBW := Lib.hid BW
  clear B1 PA PB PR BW
  go_wp2_with fail
  (with_reducible refine (HL.out _).mono ?_)
  rintro e w2 ⟨rfl, rfl⟩
  go_upto_region 6 with fail
  refine region_lin (.val (fun v _ => v = .int .i64 (a.n + b.n)) :: .val (fun v _ => v = .pointer (some ⟨w.heap.size, 1, none⟩)) :: .val (fun v _ => v = .int .i64 a.l) :: .val (fun v _ => v = .pointer (some ⟨(w.heap.size + 1), 1, none⟩)) :: .val (fun v _ => v = .int .i64 b.l) :: .val (fun v _ => v = .int .i64 (a.l + b.l)) :: .val (fun v _ => v = .pointer (some ⟨w.heap.size, 2, none⟩)) :: .val (fun v _ => v = .int .i64 a.h) :: .val (fun v _ => v = .pointer (some ⟨(w.heap.size + 1), 3, none⟩)) :: .val (fun v _ => v = .int .i64 b.t) :: .val (fun v _ => v = .pointer (some ⟨w.heap.size, 4, none⟩)) :: .val (fun v _ => v = .agg #[.int .u64 a.v, .int .u64 a.s]) :: .val (fun v _ => v = .pointer (some ⟨(w.heap.size + 1), 4, none⟩)) :: .val (fun v _ => v = .agg #[.int .u64 b.v, .int .u64 b.s]) :: .val (fun v _ => v = .agg #[.int .u64 (red (a.v * b.s + b.v)), .int .u64 (red (a.s * b.s))]) :: .val (fun v _ => v = .agg #[.int .i64 (a.n + b.n), .int .i64 (a.l + b.l), .int .i64 a.h, .int .i64 b.t, .int .u64 (red (a.v * b.s + b.v)), .int .u64 (red (a.s * b.s))]) :: .new 110 #[.int .i64 0, .int .i64 0, .int .i64 0, .int .i64 0, .int .u64 0, .int .u64 0] #[.int .i64 (a.n + b.n), .int .i64 (a.l + b.l), .int .i64 a.h, .int .i64 b.t, .int .u64 (red (a.v * b.s + b.v)), .int .u64 (red (a.s * b.s))] 17 :: .put 110 #[.int .i64 0, .int .i64 0, .int .i64 0, .int .i64 0, .int .u64 0, .int .u64 0] #[.int .i64 (a.n + b.n), .int .i64 (a.l + b.l), .int .i64 a.h, .int .i64 b.t, .int .u64 (red (a.v * b.s + b.v)), .int .u64 (red (a.s * b.s))] 8 :: [])
    ([] :: [] :: [(32, 1)] :: [] :: [(34, 3)] :: [(33, 2), (35, 4)] :: [] :: [(37, 6)] :: [] :: [(39, 8)] :: [] :: [(41, 10)] :: [] :: [(43, 12)] :: [(42, 11), (44, 13)] :: [(31, 0), (36, 5), (38, 7), (40, 9), (45, 14)] :: [] :: [(46, 15)] :: []) ((0, 0) :: (0, 0) :: (0, 0) :: (0, 0) :: (0, 0) :: (0, 0) :: (0, 0) :: (0, 0) :: (0, 0) :: (0, 0) :: (0, 0) :: (0, 0) :: (0, 0) :: (0, 0) :: (0, 0) :: (0, 0) :: (1, 17) :: (2, 8) :: []) 66 (by kernel_rfl) rfl rfl (by kernel_rfl) ⟨Stab.pure _ _ _, Stab.pure _ _ _, Stab.pure _ _ _, Stab.pure _ _ _, Stab.pure _ _ _, Stab.pure _ _ _, Stab.pure _ _ _, Stab.pure _ _ _, Stab.pure _ _ _, Stab.pure _ _ _, Stab.pure _ _ _, Stab.pure _ _ _, Stab.pure _ _ _, Stab.pure _ _ _, Stab.pure _ _ _, Stab.pure _ _ _, ⟨rfl, rfl, rfl⟩, trivial⟩ ⟨?_, ?_, ?_, ?_, ?_, ?_, ?_, ?_, ?_, ?_, ?_, ?_, ?_, ?_, ?_, ?_, ?_, ?_, trivial⟩ ?_
  · intro wx hb
    intro K hK
    go_simp
    exact hK _ _ rfl ⟨rfl, Below.refl _ _⟩
  · intro wx hb
    intro K hK
    go_simp
    exact hK _ _ rfl ⟨rfl, Below.refl _ _⟩
  · intro wx hb
    rintro _ rfl
    intro K hK
    have mm := Box.below (HPA.out) hb (Box.lt (HPA.out))
    have m0 : wx.cell? ⟨w.heap.size, 0, none⟩ = some (.int .i64 a.n) := mm.cell 0
    have m1 : wx.cell? ⟨w.heap.size, 1, none⟩ = some (.int .i64 a.l) := mm.cell 1
    have m2 : wx.cell? ⟨w.heap.size, 2, none⟩ = some (.int .i64 a.h) := mm.cell 2
    have m3 : wx.cell? ⟨w.heap.size, 3, none⟩ = some (.int .i64 a.t) := mm.cell 3
    have m4 : wx.cell? ⟨w.heap.size, 4, none⟩ = some (.int .u64 a.v) := mm.cell 4
    have m5 : wx.cell? ⟨w.heap.size, 5, none⟩ = some (.int .u64 a.s) := mm.cell 5
    clear mm
    go_simp
    exact hK _ _ rfl ⟨rfl, Below.refl _ _⟩
  · intro wx hb
    intro K hK
    go_simp
    exact hK _ _ rfl ⟨rfl, Below.refl _ _⟩
  · intro wx hb
    rintro _ rfl
    intro K hK
    have mm := Box.below (HPB.out) hb (Box.lt (HPB.out))
    have m0 : wx.cell? ⟨(w.heap.size + 1), 0, none⟩ = some (.int .i64 b.n) := mm.cell 0
    have m1 : wx.cell? ⟨(w.heap.size + 1), 1, none⟩ = some (.int .i64 b.l) := mm.cell 1
    have m2 : wx.cell? ⟨(w.heap.size + 1), 2, none⟩ = some (.int .i64 b.h) := mm.cell 2
    have m3 : wx.cell? ⟨(w.heap.size + 1), 3, none⟩ = some (.int .i64 b.t) := mm.cell 3
    have m4 : wx.cell? ⟨(w.heap.size + 1), 4, none⟩ = some (.int .u64 b.v) := mm.cell 4
    have m5 : wx.cell? ⟨(w.heap.size + 1), 5, none⟩ = some (.int .u64 b.s) := mm.cell 5
    clear mm
    go_simp
    exact hK _ _ rfl ⟨rfl, Below.refl _ _⟩
  · intro wx hb
    rintro _ rfl
    rintro _ rfl
    intro K hK
    have wz := IntWalk.i64_in (a.l + b.l) ⟨by omega, by omega⟩
    go_simp
    exact hK _ _ rfl ⟨rfl, Below.refl _ _⟩
  · intro wx hb
    intro K hK
    go_simp
    exact hK _ _ rfl ⟨rfl, Below.refl _ _⟩
  · intro wx hb
    rintro _ rfl
    intro K hK
    have mm := Box.below (HPA.out) hb (Box.lt (HPA.out))
    have m0 : wx.cell? ⟨w.heap.size, 0, none⟩ = some (.int .i64 a.n) := mm.cell 0
    have m1 : wx.cell? ⟨w.heap.size, 1, none⟩ = some (.int .i64 a.l) := mm.cell 1
    have m2 : wx.cell? ⟨w.heap.size, 2, none⟩ = some (.int .i64 a.h) := mm.cell 2
    have m3 : wx.cell? ⟨w.heap.size, 3, none⟩ = some (.int .i64 a.t) := mm.cell 3
    have m4 : wx.cell? ⟨w.heap.size, 4, none⟩ = some (.int .u64 a.v) := mm.cell 4
    have m5 : wx.cell? ⟨w.heap.size, 5, none⟩ = some (.int .u64 a.s) := mm.cell 5
    clear mm
    go_simp
    exact hK _ _ rfl ⟨rfl, Below.refl _ _⟩
  · intro wx hb
    intro K hK
    go_simp
    exact hK _ _ rfl ⟨rfl, Below.refl _ _⟩
  · intro wx hb
    rintro _ rfl
    intro K hK
    have mm := Box.below (HPB.out) hb (Box.lt (HPB.out))
    have m0 : wx.cell? ⟨(w.heap.size + 1), 0, none⟩ = some (.int .i64 b.n) := mm.cell 0
    have m1 : wx.cell? ⟨(w.heap.size + 1), 1, none⟩ = some (.int .i64 b.l) := mm.cell 1
    have m2 : wx.cell? ⟨(w.heap.size + 1), 2, none⟩ = some (.int .i64 b.h) := mm.cell 2
    have m3 : wx.cell? ⟨(w.heap.size + 1), 3, none⟩ = some (.int .i64 b.t) := mm.cell 3
    have m4 : wx.cell? ⟨(w.heap.size + 1), 4, none⟩ = some (.int .u64 b.v) := mm.cell 4
    have m5 : wx.cell? ⟨(w.heap.size + 1), 5, none⟩ = some (.int .u64 b.s) := mm.cell 5
    clear mm
    go_simp
    exact hK _ _ rfl ⟨rfl, Below.refl _ _⟩
  · intro wx hb
    intro K hK
    go_simp
    exact hK _ _ rfl ⟨rfl, Below.refl _ _⟩
  · intro wx hb
    rintro _ rfl
    intro K hK
    have mm := Box.below (HPA.out) hb (Box.lt (HPA.out))
    have m0 : wx.cell? ⟨w.heap.size, 0, none⟩ = some (.int .i64 a.n) := mm.cell 0
    have m1 : wx.cell? ⟨w.heap.size, 1, none⟩ = some (.int .i64 a.l) := mm.cell 1
    have m2 : wx.cell? ⟨w.heap.size, 2, none⟩ = some (.int .i64 a.h) := mm.cell 2
    have m3 : wx.cell? ⟨w.heap.size, 3, none⟩ = some (.int .i64 a.t) := mm.cell 3
    have m4 : wx.cell? ⟨w.heap.size, 4, none⟩ = some (.int .u64 a.v) := mm.cell 4
    have m5 : wx.cell? ⟨w.heap.size, 5, none⟩ = some (.int .u64 a.s) := mm.cell 5
    clear mm
    go_simp
    exact hK _ _ rfl ⟨rfl, Below.refl _ _⟩
  · intro wx hb
    intro K hK
    go_simp
    exact hK _ _ rfl ⟨rfl, Below.refl _ _⟩
  · intro wx hb
    rintro _ rfl
    intro K hK
    have mm := Box.below (HPB.out) hb (Box.lt (HPB.out))
    have m0 : wx.cell? ⟨(w.heap.size + 1), 0, none⟩ = some (.int .i64 b.n) := mm.cell 0
    have m1 : wx.cell? ⟨(w.heap.size + 1), 1, none⟩ = some (.int .i64 b.l) := mm.cell 1
    have m2 : wx.cell? ⟨(w.heap.size + 1), 2, none⟩ = some (.int .i64 b.h) := mm.cell 2
    have m3 : wx.cell? ⟨(w.heap.size + 1), 3, none⟩ = some (.int .i64 b.t) := mm.cell 3
    have m4 : wx.cell? ⟨(w.heap.size + 1), 4, none⟩ = some (.int .u64 b.v) := mm.cell 4
    have m5 : wx.cell? ⟨(w.heap.size + 1), 5, none⟩ = some (.int .u64 b.s) := mm.cell 5
    clear mm
    go_simp
    exact hK _ _ rfl ⟨rfl, Below.refl _ _⟩
  · intro wx hb
    rintro _ rfl
    rintro _ rfl
    intro K hK
    go_simp
    (with_reducible refine (HJ.out _).mono ?_)
    rintro e wa ⟨rfl, Ba⟩
    exact hK _ _ rfl ⟨rfl, Ba⟩
  · intro wx hb
    rintro _ rfl
    rintro _ rfl
    rintro _ rfl
    rintro _ rfl
    rintro _ rfl
    intro K hK
    go_simp
    exact hK _ _ rfl ⟨rfl, Below.refl _ _⟩
  · intro wx hb
    intro K hK
    go_simp
    exact hK _ _ rfl ⟨rfl, rfl⟩
  · intro wx hb
    intro g hg hbx
    rintro _ rfl
    intro K hK
    have c0 : wx.cell? ⟨g, 0, none⟩ = some (.int .i64 0) := hbx.cell 0
    have f0 := hbx.free 0
    have c1 : wx.cell? ⟨g, 1, none⟩ = some (.int .i64 0) := hbx.cell 1
    have f1 := hbx.free 1
    have c2 : wx.cell? ⟨g, 2, none⟩ = some (.int .i64 0) := hbx.cell 2
    have f2 := hbx.free 2
    have c3 : wx.cell? ⟨g, 3, none⟩ = some (.int .i64 0) := hbx.cell 3
    have f3 := hbx.free 3
    have c4 : wx.cell? ⟨g, 4, none⟩ = some (.int .u64 0) := hbx.cell 4
    have f4 := hbx.free 4
    have c5 : wx.cell? ⟨g, 5, none⟩ = some (.int .u64 0) := hbx.cell 5
    have f5 := hbx.free 5
    clear hb
    go_simp
    exact hK _ _ rfl ((((((((Stored.start hbx).set 0 _).set 1 _).set 2 _).set 3 _).set 4 _).set 5 _))
  intro w3 B3
  rintro _ rfl
  rintro _ rfl
  rintro _ rfl
  rintro _ rfl
  rintro _ rfl
  rintro _ rfl
  rintro _ rfl
  rintro _ rfl
  rintro _ rfl
  rintro _ rfl
  rintro _ rfl
  rintro _ rfl
  rintro _ rfl
  rintro _ rfl
  rintro _ rfl
  rintro _ rfl
  intro gj hgj Bj
  rintro -
  simp only [Act.put, List.setIfInBounds_toArray, List.set_cons_zero, List.set_cons_succ, List.toList_toArray, List.length_cons, List.length_nil, List.drop_succ_cons, List.drop_zero, List.drop_nil, Nat.zero_add, wpList]
  have PA := HPA.out.below B3 HPA.out.lt; have PB := HPB.out.below B3 HPB.out.lt; have PR := HPR.out.below B3 HPR.out.lt
  have HBW3 := Lib.hid (bkeep HBW.out B3)
  have p0 : w3.cell? ⟨w.heap.size, 0, none⟩ = some (.int .i64 a.n) := PA.cell 0
  have p1 : w3.cell? ⟨w.heap.size, 1, none⟩ = some (.int .i64 a.l) := PA.cell 1
  have p2 : w3.cell? ⟨w.heap.size, 2, none⟩ = some (.int .i64 a.h) := PA.cell 2
  have p3 : w3.cell? ⟨w.heap.size, 3, none⟩ = some (.int .i64 a.t) := PA.cell 3
  have p4 : w3.cell? ⟨w.heap.size, 4, none⟩ = some (.int .u64 a.v) := PA.cell 4
  have p5 : w3.cell? ⟨w.heap.size, 5, none⟩ = some (.int .u64 a.s) := PA.cell 5
  have q0 : w3.cell? ⟨w.heap.size + 1, 0, none⟩ = some (.int .i64 b.n) := PB.cell 0
  have q1 : w3.cell? ⟨w.heap.size + 1, 1, none⟩ = some (.int .i64 b.l) := PB.cell 1
  have q2 : w3.cell? ⟨w.heap.size + 1, 2, none⟩ = some (.int .i64 b.h) := PB.cell 2
  have q3 : w3.cell? ⟨w.heap.size + 1, 3, none⟩ = some (.int .i64 b.t) := PB.cell 3
  have q4 : w3.cell? ⟨w.heap.size + 1, 4, none⟩ = some (.int .u64 b.v) := PB.cell 4
  have q5 : w3.cell? ⟨w.heap.size + 1, 5, none⟩ = some (.int .u64 b.s) := PB.cell 5
  have y0 : w3.cell? ⟨w.heap.size + 1 + 1, 0, none⟩ = some (.int .i64 0) := PR.cell 0
  have y1 : w3.cell? ⟨w.heap.size + 1 + 1, 1, none⟩ = some (.int .i64 0) := PR.cell 1
  have y2 : w3.cell? ⟨w.heap.size + 1 + 1, 2, none⟩ = some (.int .i64 0) := PR.cell 2
  have y3 : w3.cell? ⟨w.heap.size + 1 + 1, 3, none⟩ = some (.int .i64 0) := PR.cell 3
  have y4 : w3.cell? ⟨w.heap.size + 1 + 1, 4, none⟩ = some (.int .u64 0) := PR.cell 4
  have y5 : w3.cell? ⟨w.heap.size + 1 + 1, 5, none⟩ = some (.int .u64 0) := PR.cell 5
  have j0 : w3.cell? ⟨gj, 0, none⟩ = some (.int .i64 (a.n + b.n)) := Bj.cell 0
  have j1 : w3.cell? ⟨gj, 1, none⟩ = some (.int .i64 (a.l + b.l)) := Bj.cell 1
  have j2 : w3.cell? ⟨gj, 2, none⟩ = some (.int .i64 a.h) := Bj.cell 2
  have j3 : w3.cell? ⟨gj, 3, none⟩ = some (.int .i64 b.t) := Bj.cell 3
  have j4 : w3.cell? ⟨gj, 4, none⟩ = some (.int .u64 (red (a.v * b.s + b.v))) := Bj.cell 4
  have j5 : w3.cell? ⟨gj, 5, none⟩ = some (.int .u64 (red (a.s * b.s))) := Bj.cell 5
  have f0 := PR.free 0; have f1 := PR.free 1; have f2 := PR.free 2; have f3 := PR.free 3; have f4 := PR.free 4; have f5 := PR.free 5
  have k2 := Bj.free 2; have k3 := Bj.free 3
  have ne0 : gj ≠ w.heap.size := by have := HPA.out.lt; omega
  have ne1 : gj ≠ w.heap.size + 1 := by have := HPB.out.lt; omega
  have ne2 : gj ≠ w.heap.size + 1 + 1 := by have := HPR.out.lt; omega
  have ne3 : w.heap.size + 1 + 1 ≠ gj := by omega
  have le0 : w.heap.size ≤ gj := by have := HPA.out.lt; omega
  clear B3 PA PB PR Bj x0 x1
  go_wp2_with fail
  refine bodyPost_ret (v := .tuple #[.agg #[.int .i64 (a.n + b.n), .int .i64 (a.l + b.l), .int .i64 (a.n + b.h), .int .i64 (b.n + a.t), .int .u64 (red (a.v * b.s + b.v)), .int .u64 (red (a.s * b.s))], .nilIface]) ?_ rfl ⟨rfl, ?_⟩
  · simp only [results, Try.results78]
    simp [go_sem, y0, y1, y2, y3, y4, y5, ne0, ne1, ne2, ne3]
  · repeat (first | (with_reducible exact HBW3.out) | (with_reducible refine Below.setCell ?_ (by first | exact le0 | (simp; omega)) _))
set_option maxRecDepth 100000 in
set_option maxHeartbeats 4000000 in
theorem wjoin_ok01 (a b : Wt) (ha : WOk a) (hb : WOk b) (ea : vW a = true) (eb : vW b = true) (hl : a.n + b.n ≤ 1152921504606846976) (la : (a.l == 0) = true) (lb : (b.l == 0) = false) (w : World) :
    Calls Try.prog 78 #[.agg #[.int .i64 a.n, .int .i64 a.l, .int .i64 a.h, .int .i64 a.t, .int .u64 a.v, .int .u64 a.s], .agg #[.int .i64 b.n, .int .i64 b.l, .int .i64 b.h, .int .i64 b.t, .int .u64 b.v, .int .u64 b.s]] w fun e w' => e = .returned (.tuple #[.agg #[.int .i64 (a.n + b.n), .int .i64 (a.l + b.l), .int .i64 (a.n + b.h), .int .i64 b.t, .int .u64 (red (a.v * b.s + b.v)), .int .u64 (red (a.s * b.s))], .nilIface]) ∧ Below w.heap.size w w' := by
  obtain ⟨PA, PB, PR, BW⟩ := three w a b 110 #[.int .i64 0, .int .i64 0, .int .i64 0, .int .i64 0, .int .u64 0, .int .u64 0]
  have HA := Lib.hid (wvalid_v a ha _ ea); have HB := Lib.hid (wvalid_v b hb _ eb)
  have fa := Fit.of ha ea; have fb := Fit.of hb eb
  have an0 := fa.n0; have an1 := fa.n1; have bn0 := fb.n0; have bn1 := fb.n1
  have al0 := fa.l0; have al1 := fa.l1; have bl0 := fb.l0; have bl1 := fb.l1
  have ah0 := fa.h0; have ah1 := fa.h1; have bh0 := fb.h0; have bh1 := fb.h1
  have at0 := fa.t0; have at1 := fa.t1; have bt0 := fb.t0; have bt1 := fb.t1
  have HL := Lib.hid (lenadd_yes a.n b.n an0 an1 bn0 bn1 hl)
  have HJ := Lib.hid (join_any a.v a.s b.v b.s ha.uv ha.us hb.uv hb.us)
  clear ea eb fa fb
  go_enter Try.func78, Try.ntmps78
  go_upto_region 1 with fail
  refine region_lin0 (.val (fun v _ => v = .agg #[.int .i64 a.n, .int .i64 a.l, .int .i64 a.h, .int .i64 a.t, .int .u64 a.v, .int .u64 a.s]) :: .val (fun v _ => v = .bool true) :: .val (fun v _ => v = .bool false) :: .val (fun v _ => v = .bool false) :: .val (fun v _ => v = .agg #[.int .i64 b.n, .int .i64 b.l, .int .i64 b.h, .int .i64 b.t, .int .u64 b.v, .int .u64 b.s]) :: .val (fun v _ => v = .bool true) :: .val (fun v _ => v = .bool false) :: .val (fun v _ => v = .bool false) :: [])
    ([] :: [(9, 0)] :: [(10, 1)] :: [(11, 2)] :: [(12, 3)] :: [(13, 4), (12, 3)] :: [(14, 5), (12, 3)] :: [(12, 3), (15, 6)] :: []) ((0, 0) :: (0, 0) :: (0, 0) :: (0, 0) :: (0, 0) :: (0, 0) :: (0, 0) :: (0, 0) :: []) 66 (by kernel_rfl) rfl rfl (by kernel_rfl) ⟨Stab.pure _ _ _, Stab.pure _ _ _, Stab.pure _ _ _, Stab.pure _ _ _, Stab.pure _ _ _, Stab.pure _ _ _, Stab.pure _ _ _, Stab.pure _ _ _, trivial⟩ ⟨?_, ?_, ?_, ?_, ?_, ?_, ?_, ?_, trivial⟩ ?_
  · intro wx hb
    intro K hK
    exact wp_load_row 110 (.tmp 2) rfl w.heap.size rfl 110 _ (0, 0) _ (Box.below (PA) hb (Box.lt (PA))) Try.underlying110 rfl (by kernel_rfl) (hK _ _ rfl ⟨rfl, Below.refl _ _⟩)
  · intro wx hb
    rintro _ rfl
    intro K hK
    go_simp
    (with_reducible refine (HA.out _).mono ?_)
    rintro e wa ⟨rfl, Ba⟩
    exact hK _ _ rfl ⟨rfl, Ba⟩
  · intro wx hb
    rintro _ rfl
    intro K hK
    go_simp
    exact hK _ _ rfl ⟨rfl, Below.refl _ _⟩
  · intro wx hb
    rintro _ rfl
    intro K hK
    go_simp
    exact hK _ _ rfl ⟨rfl, Below.refl _ _⟩
  · intro wx hb
    rintro _ rfl
    refine ⟨fun _ => ?_, fun h => absurd (show true = false from h) (by decide)⟩
    intro K hK
    exact wp_load_row 110 (.tmp 3) rfl (w.heap.size + 1) rfl 110 _ (0, 0) _ (Box.below (PB) hb (Box.lt (PB))) Try.underlying110 rfl (by kernel_rfl) (hK _ _ rfl ⟨rfl, Below.refl _ _⟩)
  · intro wx hb
    rintro _ rfl
    rintro _ rfl
    refine ⟨fun _ => ?_, fun h => absurd (show true = false from h) (by decide)⟩
    intro K hK
    go_simp
    (with_reducible refine (HB.out _).mono ?_)
    rintro e wa ⟨rfl, Ba⟩
    exact hK _ _ rfl ⟨rfl, Ba⟩
  · intro wx hb
    rintro _ rfl
    rintro _ rfl
    refine ⟨fun _ => ?_, fun h => absurd (show true = false from h) (by decide)⟩
    intro K hK
    go_simp
    exact hK _ _ rfl ⟨rfl, Below.refl _ _⟩
  · intro wx hb
    rintro _ rfl
    rintro _ rfl
    intro K hK
    go_simp
    exact hK _ _ rfl ⟨rfl, Below.refl _ _⟩
  intro w1 B1
  have PA := Box.below PA B1 (Box.lt PA)
  have PB := Box.below PB B1 (Box.lt PB)
  have PR := Box.below PR B1 (Box.lt PR)
  have BW := bkeep BW B1
  rintro _ rfl
  rintro _ rfl
  rintro _ rfl
  rintro _ rfl
  rintro _ rfl
  rintro _ rfl
  rintro _ rfl
  rintro _ rfl
  rintro -
  simp only [Act.put, List.setIfInBounds_toArray, List.set_cons_zero, List.set_cons_succ, List.toList_toArray, List.length_cons, List.length_nil, List.drop_succ_cons, List.drop_zero, List.drop_nil, Nat.zero_add, wpList]
  have x0 : w1.cell? ⟨w.heap.size, 0, none⟩ = some (.int .i64 a.n) := PA.cell 0
  have x1 : w1.cell? ⟨w.heap.size + 1, 0, none⟩ = some (.int .i64 b.n) := PB.cell 0
  have HPA := Lib.hid PA; have HPB := Lib.hid PB; have HPR := Lib.hid PR
  have HBW := Lib.hid BW
  clear B1 PA PB PR BW
  go_wp2_with fail
  (with_reducible refine (HL.out _).mono ?_)
  rintro e w2 ⟨rfl, rfl⟩
  go_upto_region 6 with fail
  refine region_lin (.val (fun v _ => v = .int .i64 (a.n + b.n)) :: .val (fun v _ => v = .pointer (some ⟨w.heap.size, 1, none⟩)) :: .val (fun v _ => v = .int .i64 a.l) :: .val (fun v _ => v = .pointer (some ⟨(w.heap.size + 1), 1, none⟩)) :: .val (fun v _ => v = .int .i64 b.l) :: .val (fun v _ => v = .int .i64 (a.l + b.l)) :: .val (fun v _ => v = .pointer (some ⟨w.heap.size, 2, none⟩)) :: .val (fun v _ => v = .int .i64 a.h) :: .val (fun v _ => v = .pointer (some ⟨(w.heap.size + 1), 3, none⟩)) :: .val (fun v _ => v = .int .i64 b.t) :: .val (fun v _ => v = .pointer (some ⟨w.heap.size, 4, none⟩)) :: .val (fun v _ => v = .agg #[.int .u64 a.v, .int .u64 a.s]) :: .val (fun v _ => v = .pointer (some ⟨(w.heap.size + 1), 4, none⟩)) :: .val (fun v _ => v = .agg #[.int .u64 b.v, .int .u64 b.s]) :: .val (fun v _ => v = .agg #[.int .u64 (red (a.v * b.s + b.v)), .int .u64 (red (a.s * b.s))]) :: .val (fun v _ => v = .agg #[.int .i64 (a.n + b.n), .int .i64 (a.l + b.l), .int .i64 a.h, .int .i64 b.t, .int .u64 (red (a.v * b.s + b.v)), .int .u64 (red (a.s * b.s))]) :: .new 110 #[.int .i64 0, .int .i64 0, .int .i64 0, .int .i64 0, .int .u64 0, .int .u64 0] #[.int .i64 (a.n + b.n), .int .i64 (a.l + b.l), .int .i64 a.h, .int .i64 b.t, .int .u64 (red (a.v * b.s + b.v)), .int .u64 (red (a.s * b.s))] 17 :: .put 110 #[.int .i64 0, .int .i64 0, .int .i64 0, .int .i64 0, .int .u64 0, .int .u64 0] #[.int .i64 (a.n + b.n), .int .i64 (a.l + b.l), .int .i64 a.h, .int .i64 b.t, .int .u64 (red (a.v * b.s + b.v)), .int .u64 (red (a.s * b.s))] 8 :: [])
    ([] :: [] :: [(32, 1)] :: [] :: [(34, 3)] :: [(33, 2), (35, 4)] :: [] :: [(37, 6)] :: [] :: [(39, 8)] :: [] :: [(41, 10)] :: [] :: [(43, 12)] :: [(42, 11), (44, 13)] :: [(31, 0), (36, 5), (38, 7), (40, 9), (45, 14)] :: [] :: [(46, 15)] :: []) ((0, 0) :: (0, 0) :: (0, 0) :: (0, 0) :: (0, 0) :: (0, 0) :: (0, 0) :: (0, 0) :: (0, 0) :: (0, 0) :: (0, 0) :: (0, 0) :: (0, 0) :: (0, 0) :: (0, 0) :: (0, 0) :: (1, 17) :: (2, 8) :: []) 66 (by kernel_rfl) rfl rfl (by kernel_rfl) ⟨Stab.pure _ _ _, Stab.pure _ _ _, Stab.pure _ _ _, Stab.pure _ _ _, Stab.pure _ _ _, Stab.pure _ _ _, Stab.pure _ _ _, Stab.pure _ _ _, Stab.pure _ _ _, Stab.pure _ _ _, Stab.pure _ _ _, Stab.pure _ _ _, Stab.pure _ _ _, Stab.pure _ _ _, Stab.pure _ _ _, Stab.pure _ _ _, ⟨rfl, rfl, rfl⟩, trivial⟩ ⟨?_, ?_, ?_, ?_, ?_, ?_, ?_, ?_, ?_, ?_, ?_, ?_, ?_, ?_, ?_, ?_, ?_, ?_, trivial⟩ ?_
  · intro wx hb
    intro K hK
    go_simp
    exact hK _ _ rfl ⟨rfl, Below.refl _ _⟩
  · intro wx hb
    intro K hK
    go_simp
    exact hK _ _ rfl ⟨rfl, Below.refl _ _⟩
  · intro wx hb
    rintro _ rfl
    intro K hK
    have mm := Box.below (HPA.out) hb (Box.lt (HPA.out))
    have m0 : wx.cell? ⟨w.heap.size, 0, none⟩ = some (.int .i64 a.n) := mm.cell 0
    have m1 : wx.cell? ⟨w.heap.size, 1, none⟩ = some (.int .i64 a.l) := mm.cell 1
    have m2 : wx.cell? ⟨w.heap.size, 2, none⟩ = some (.int .i64 a.h) := mm.cell 2
    have m3 : wx.cell? ⟨w.heap.size, 3, none⟩ = some (.int .i64 a.t) := mm.cell 3
    have m4 : wx.cell? ⟨w.heap.size, 4, none⟩ = some (.int .u64 a.v) := mm.cell 4
    have m5 : wx.cell? ⟨w.heap.size, 5, none⟩ = some (.int .u64 a.s) := mm.cell 5
    clear mm
    go_simp
    exact hK _ _ rfl ⟨rfl, Below.refl _ _⟩
  · intro wx hb
    intro K hK
    go_simp
    exact hK _ _ rfl ⟨rfl, Below.refl _ _⟩
  · intro wx hb
    rintro _ rfl
    intro K hK
    have mm := Box.below (HPB.out) hb (Box.lt (HPB.out))
    have m0 : wx.cell? ⟨(w.heap.size + 1), 0, none⟩ = some (.int .i64 b.n) := mm.cell 0
    have m1 : wx.cell? ⟨(w.heap.size + 1), 1, none⟩ = some (.int .i64 b.l) := mm.cell 1
    have m2 : wx.cell? ⟨(w.heap.size + 1), 2, none⟩ = some (.int .i64 b.h) := mm.cell 2
    have m3 : wx.cell? ⟨(w.heap.size + 1), 3, none⟩ = some (.int .i64 b.t) := mm.cell 3
    have m4 : wx.cell? ⟨(w.heap.size + 1), 4, none⟩ = some (.int .u64 b.v) := mm.cell 4
    have m5 : wx.cell? ⟨(w.heap.size + 1), 5, none⟩ = some (.int .u64 b.s) := mm.cell 5
    clear mm
    go_simp
    exact hK _ _ rfl ⟨rfl, Below.refl _ _⟩
  · intro wx hb
    rintro _ rfl
    rintro _ rfl
    intro K hK
    have wz := IntWalk.i64_in (a.l + b.l) ⟨by omega, by omega⟩
    go_simp
    exact hK _ _ rfl ⟨rfl, Below.refl _ _⟩
  · intro wx hb
    intro K hK
    go_simp
    exact hK _ _ rfl ⟨rfl, Below.refl _ _⟩
  · intro wx hb
    rintro _ rfl
    intro K hK
    have mm := Box.below (HPA.out) hb (Box.lt (HPA.out))
    have m0 : wx.cell? ⟨w.heap.size, 0, none⟩ = some (.int .i64 a.n) := mm.cell 0
    have m1 : wx.cell? ⟨w.heap.size, 1, none⟩ = some (.int .i64 a.l) := mm.cell 1
    have m2 : wx.cell? ⟨w.heap.size, 2, none⟩ = some (.int .i64 a.h) := mm.cell 2
    have m3 : wx.cell? ⟨w.heap.size, 3, none⟩ = some (.int .i64 a.t) := mm.cell 3
    have m4 : wx.cell? ⟨w.heap.size, 4, none⟩ = some (.int .u64 a.v) := mm.cell 4
    have m5 : wx.cell? ⟨w.heap.size, 5, none⟩ = some (.int .u64 a.s) := mm.cell 5
    clear mm
    go_simp
    exact hK _ _ rfl ⟨rfl, Below.refl _ _⟩
  · intro wx hb
    intro K hK
    go_simp
    exact hK _ _ rfl ⟨rfl, Below.refl _ _⟩
  · intro wx hb
    rintro _ rfl
    intro K hK
    have mm := Box.below (HPB.out) hb (Box.lt (HPB.out))
    have m0 : wx.cell? ⟨(w.heap.size + 1), 0, none⟩ = some (.int .i64 b.n) := mm.cell 0
    have m1 : wx.cell? ⟨(w.heap.size + 1), 1, none⟩ = some (.int .i64 b.l) := mm.cell 1
    have m2 : wx.cell? ⟨(w.heap.size + 1), 2, none⟩ = some (.int .i64 b.h) := mm.cell 2
    have m3 : wx.cell? ⟨(w.heap.size + 1), 3, none⟩ = some (.int .i64 b.t) := mm.cell 3
    have m4 : wx.cell? ⟨(w.heap.size + 1), 4, none⟩ = some (.int .u64 b.v) := mm.cell 4
    have m5 : wx.cell? ⟨(w.heap.size + 1), 5, none⟩ = some (.int .u64 b.s) := mm.cell 5
    clear mm
    go_simp
    exact hK _ _ rfl ⟨rfl, Below.refl _ _⟩
  · intro wx hb
    intro K hK
    go_simp
    exact hK _ _ rfl ⟨rfl, Below.refl _ _⟩
  · intro wx hb
    rintro _ rfl
    intro K hK
    have mm := Box.below (HPA.out) hb (Box.lt (HPA.out))
    have m0 : wx.cell? ⟨w.heap.size, 0, none⟩ = some (.int .i64 a.n) := mm.cell 0
    have m1 : wx.cell? ⟨w.heap.size, 1, none⟩ = some (.int .i64 a.l) := mm.cell 1
    have m2 : wx.cell? ⟨w.heap.size, 2, none⟩ = some (.int .i64 a.h) := mm.cell 2
    have m3 : wx.cell? ⟨w.heap.size, 3, none⟩ = some (.int .i64 a.t) := mm.cell 3
    have m4 : wx.cell? ⟨w.heap.size, 4, none⟩ = some (.int .u64 a.v) := mm.cell 4
    have m5 : wx.cell? ⟨w.heap.size, 5, none⟩ = some (.int .u64 a.s) := mm.cell 5
    clear mm
    go_simp
    exact hK _ _ rfl ⟨rfl, Below.refl _ _⟩
  · intro wx hb
    intro K hK
    go_simp
    exact hK _ _ rfl ⟨rfl, Below.refl _ _⟩
  · intro wx hb
    rintro _ rfl
    intro K hK
    have mm := Box.below (HPB.out) hb (Box.lt (HPB.out))
    have m0 : wx.cell? ⟨(w.heap.size + 1), 0, none⟩ = some (.int .i64 b.n) := mm.cell 0
    have m1 : wx.cell? ⟨(w.heap.size + 1), 1, none⟩ = some (.int .i64 b.l) := mm.cell 1
    have m2 : wx.cell? ⟨(w.heap.size + 1), 2, none⟩ = some (.int .i64 b.h) := mm.cell 2
    have m3 : wx.cell? ⟨(w.heap.size + 1), 3, none⟩ = some (.int .i64 b.t) := mm.cell 3
    have m4 : wx.cell? ⟨(w.heap.size + 1), 4, none⟩ = some (.int .u64 b.v) := mm.cell 4
    have m5 : wx.cell? ⟨(w.heap.size + 1), 5, none⟩ = some (.int .u64 b.s) := mm.cell 5
    clear mm
    go_simp
    exact hK _ _ rfl ⟨rfl, Below.refl _ _⟩
  · intro wx hb
    rintro _ rfl
    rintro _ rfl
    intro K hK
    go_simp
    (with_reducible refine (HJ.out _).mono ?_)
    rintro e wa ⟨rfl, Ba⟩
    exact hK _ _ rfl ⟨rfl, Ba⟩
  · intro wx hb
    rintro _ rfl
    rintro _ rfl
    rintro _ rfl
    rintro _ rfl
    rintro _ rfl
    intro K hK
    go_simp
    exact hK _ _ rfl ⟨rfl, Below.refl _ _⟩
  · intro wx hb
    intro K hK
    go_simp
    exact hK _ _ rfl ⟨rfl, rfl⟩
  · intro wx hb
    intro g hg hbx
    rintro _ rfl
    intro K hK
    have c0 : wx.cell? ⟨g, 0, none⟩ = some (.int .i64 0) := hbx.cell 0
    have f0 := hbx.free 0
    have c1 : wx.cell? ⟨g, 1, none⟩ = some (.int .i64 0) := hbx.cell 1
    have f1 := hbx.free 1
    have c2 : wx.cell? ⟨g, 2, none⟩ = some (.int .i64 0) := hbx.cell 2
    have f2 := hbx.free 2
    have c3 : wx.cell? ⟨g, 3, none⟩ = some (.int .i64 0) := hbx.cell 3
    have f3 := hbx.free 3
    have c4 : wx.cell? ⟨g, 4, none⟩ = some (.int .u64 0) := hbx.cell 4
    have f4 := hbx.free 4
    have c5 : wx.cell? ⟨g, 5, none⟩ = some (.int .u64 0) := hbx.cell 5
    have f5 := hbx.free 5
    clear hb
    go_simp
    exact hK _ _ rfl ((((((((Stored.start hbx).set 0 _).set 1 _).set 2 _).set 3 _).set 4 _).set 5 _))
  intro w3 B3
  rintro _ rfl
  rintro _ rfl
  rintro _ rfl
  rintro _ rfl
  rintro _ rfl
  rintro _ rfl
  rintro _ rfl
  rintro _ rfl
  rintro _ rfl
  rintro _ rfl
  rintro _ rfl
  rintro _ rfl
  rintro _ rfl
  rintro _ rfl
  rintro _ rfl
  rintro _ rfl
  intro gj hgj Bj
  rintro -
  simp only [Act.put, List.setIfInBounds_toArray, List.set_cons_zero, List.set_cons_succ, List.toList_toArray, List.length_cons, List.length_nil, List.drop_succ_cons, List.drop_zero, List.drop_nil, Nat.zero_add, wpList]
  have PA := HPA.out.below B3 HPA.out.lt; have PB := HPB.out.below B3 HPB.out.lt; have PR := HPR.out.below B3 HPR.out.lt
  have HBW3 := Lib.hid (bkeep HBW.out B3)
  have p0 : w3.cell? ⟨w.heap.size, 0, none⟩ = some (.int .i64 a.n) := PA.cell 0
  have p1 : w3.cell? ⟨w.heap.size, 1, none⟩ = some (.int .i64 a.l) := PA.cell 1
  have p2 : w3.cell? ⟨w.heap.size, 2, none⟩ = some (.int .i64 a.h) := PA.cell 2
  have p3 : w3.cell? ⟨w.heap.size, 3, none⟩ = some (.int .i64 a.t) := PA.cell 3
  have p4 : w3.cell? ⟨w.heap.size, 4, none⟩ = some (.int .u64 a.v) := PA.cell 4
  have p5 : w3.cell? ⟨w.heap.size, 5, none⟩ = some (.int .u64 a.s) := PA.cell 5
  have q0 : w3.cell? ⟨w.heap.size + 1, 0, none⟩ = some (.int .i64 b.n) := PB.cell 0
  have q1 : w3.cell? ⟨w.heap.size + 1, 1, none⟩ = some (.int .i64 b.l) := PB.cell 1
  have q2 : w3.cell? ⟨w.heap.size + 1, 2, none⟩ = some (.int .i64 b.h) := PB.cell 2
  have q3 : w3.cell? ⟨w.heap.size + 1, 3, none⟩ = some (.int .i64 b.t) := PB.cell 3
  have q4 : w3.cell? ⟨w.heap.size + 1, 4, none⟩ = some (.int .u64 b.v) := PB.cell 4
  have q5 : w3.cell? ⟨w.heap.size + 1, 5, none⟩ = some (.int .u64 b.s) := PB.cell 5
  have y0 : w3.cell? ⟨w.heap.size + 1 + 1, 0, none⟩ = some (.int .i64 0) := PR.cell 0
  have y1 : w3.cell? ⟨w.heap.size + 1 + 1, 1, none⟩ = some (.int .i64 0) := PR.cell 1
  have y2 : w3.cell? ⟨w.heap.size + 1 + 1, 2, none⟩ = some (.int .i64 0) := PR.cell 2
  have y3 : w3.cell? ⟨w.heap.size + 1 + 1, 3, none⟩ = some (.int .i64 0) := PR.cell 3
  have y4 : w3.cell? ⟨w.heap.size + 1 + 1, 4, none⟩ = some (.int .u64 0) := PR.cell 4
  have y5 : w3.cell? ⟨w.heap.size + 1 + 1, 5, none⟩ = some (.int .u64 0) := PR.cell 5
  have j0 : w3.cell? ⟨gj, 0, none⟩ = some (.int .i64 (a.n + b.n)) := Bj.cell 0
  have j1 : w3.cell? ⟨gj, 1, none⟩ = some (.int .i64 (a.l + b.l)) := Bj.cell 1
  have j2 : w3.cell? ⟨gj, 2, none⟩ = some (.int .i64 a.h) := Bj.cell 2
  have j3 : w3.cell? ⟨gj, 3, none⟩ = some (.int .i64 b.t) := Bj.cell 3
  have j4 : w3.cell? ⟨gj, 4, none⟩ = some (.int .u64 (red (a.v * b.s + b.v))) := Bj.cell 4
  have j5 : w3.cell? ⟨gj, 5, none⟩ = some (.int .u64 (red (a.s * b.s))) := Bj.cell 5
  have f0 := PR.free 0; have f1 := PR.free 1; have f2 := PR.free 2; have f3 := PR.free 3; have f4 := PR.free 4; have f5 := PR.free 5
  have k2 := Bj.free 2; have k3 := Bj.free 3
  have ne0 : gj ≠ w.heap.size := by have := HPA.out.lt; omega
  have ne1 : gj ≠ w.heap.size + 1 := by have := HPB.out.lt; omega
  have ne2 : gj ≠ w.heap.size + 1 + 1 := by have := HPR.out.lt; omega
  have ne3 : w.heap.size + 1 + 1 ≠ gj := by omega
  have le0 : w.heap.size ≤ gj := by have := HPA.out.lt; omega
  clear B3 PA PB PR Bj x0 x1
  go_wp2_with fail
  refine bodyPost_ret (v := .tuple #[.agg #[.int .i64 (a.n + b.n), .int .i64 (a.l + b.l), .int .i64 (a.n + b.h), .int .i64 b.t, .int .u64 (red (a.v * b.s + b.v)), .int .u64 (red (a.s * b.s))], .nilIface]) ?_ rfl ⟨rfl, ?_⟩
  · simp only [results, Try.results78]
    simp [go_sem, y0, y1, y2, y3, y4, y5, ne0, ne1, ne2, ne3]
  · repeat (first | (with_reducible exact HBW3.out) | (with_reducible refine Below.setCell ?_ (by first | exact le0 | (simp; omega)) _))
set_option maxRecDepth 100000 in
set_option maxHeartbeats 4000000 in
theorem wjoin_ok10 (a b : Wt) (ha : WOk a) (hb : WOk b) (ea : vW a = true) (eb : vW b = true) (hl : a.n + b.n ≤ 1152921504606846976) (la : (a.l == 0) = false) (lb : (b.l == 0) = true) (w : World) :
    Calls Try.prog 78 #[.agg #[.int .i64 a.n, .int .i64 a.l, .int .i64 a.h, .int .i64 a.t, .int .u64 a.v, .int .u64 a.s], .agg #[.int .i64 b.n, .int .i64 b.l, .int .i64 b.h, .int .i64 b.t, .int .u64 b.v, .int .u64 b.s]] w fun e w' => e = .returned (.tuple #[.agg #[.int .i64 (a.n + b.n), .int .i64 (a.l + b.l), .int .i64 a.h, .int .i64 (b.n + a.t), .int .u64 (red (a.v * b.s + b.v)), .int .u64 (red (a.s * b.s))], .nilIface]) ∧ Below w.heap.size w w' := by
  obtain ⟨PA, PB, PR, BW⟩ := three w a b 110 #[.int .i64 0, .int .i64 0, .int .i64 0, .int .i64 0, .int .u64 0, .int .u64 0]
  have HA := Lib.hid (wvalid_v a ha _ ea); have HB := Lib.hid (wvalid_v b hb _ eb)
  have fa := Fit.of ha ea; have fb := Fit.of hb eb
  have an0 := fa.n0; have an1 := fa.n1; have bn0 := fb.n0; have bn1 := fb.n1
  have al0 := fa.l0; have al1 := fa.l1; have bl0 := fb.l0; have bl1 := fb.l1
  have ah0 := fa.h0; have ah1 := fa.h1; have bh0 := fb.h0; have bh1 := fb.h1
  have at0 := fa.t0; have at1 := fa.t1; have bt0 := fb.t0; have bt1 := fb.t1
  have HL := Lib.hid (lenadd_yes a.n b.n an0 an1 bn0 bn1 hl)
  have HJ := Lib.hid (join_any a.v a.s b.v b.s ha.uv ha.us hb.uv hb.us)
  clear ea eb fa fb
  go_enter Try.func78, Try.ntmps78
  go_upto_region 1 with fail
  refine region_lin0 (.val (fun v _ => v = .agg #[.int .i64 a.n, .int .i64 a.l, .int .i64 a.h, .int .i64 a.t, .int .u64 a.v, .int .u64 a.s]) :: .val (fun v _ => v = .bool true) :: .val (fun v _ => v = .bool false) :: .val (fun v _ => v = .bool false) :: .val (fun v _ => v = .agg #[.int .i64 b.n, .int .i64 b.l, .int .i64 b.h, .int .i64 b.t, .int .u64 b.v, .int .u64 b.s]) :: .val (fun v _ => v = .bool true) :: .val (fun v _ => v = .bool false) :: .val (fun v _ => v = .bool false) :: [])
    ([] :: [(9, 0)] :: [(10, 1)] :: [(11, 2)] :: [(12, 3)] :: [(13, 4), (12, 3)] :: [(14, 5), (12, 3)] :: [(12, 3), (15, 6)] :: []) ((0, 0) :: (0, 0) :: (0, 0) :: (0, 0) :: (0, 0) :: (0, 0) :: (0, 0) :: (0, 0) :: []) 66 (by kernel_rfl) rfl rfl (by kernel_rfl) ⟨Stab.pure _ _ _, Stab.pure _ _ _, Stab.pure _ _ _, Stab.pure _ _ _, Stab.pure _ _ _, Stab.pure _ _ _, Stab.pure _ _ _, Stab.pure _ _ _, trivial⟩ ⟨?_, ?_, ?_, ?_, ?_, ?_, ?_, ?_, trivial⟩ ?_
  · intro wx hb
    intro K hK
    exact wp_load_row 110 (.tmp 2) rfl w.heap.size rfl 110 _ (0, 0) _ (Box.below (PA) hb (Box.lt (PA))) Try.underlying110 rfl (by kernel_rfl) (hK _ _ rfl ⟨rfl, Below.refl _ _⟩)
  · intro wx hb
    rintro _ rfl
    intro K hK
    go_simp
    (with_reducible refine (HA.out _).mono ?_)
    rintro e wa ⟨rfl, Ba⟩
    exact hK _ _ rfl ⟨rfl, Ba⟩
  · intro wx hb
    rintro _ rfl
    intro K hK
    go_simp
    exact hK _ _ rfl ⟨rfl, Below.refl _ _⟩
  · intro wx hb
    rintro _ rfl
    intro K hK
    go_simp
    exact hK _ _ rfl ⟨rfl, Below.refl _ _⟩
  · intro wx hb
    rintro _ rfl
    refine ⟨fun _ => ?_, fun h => absurd (show true = false from h) (by decide)⟩
    intro K hK
    exact wp_load_row 110 (.tmp 3) rfl (w.heap.size + 1) rfl 110 _ (0, 0) _ (Box.below (PB) hb (Box.lt (PB))) Try.underlying110 rfl (by kernel_rfl) (hK _ _ rfl ⟨rfl, Below.refl _ _⟩)
  · intro wx hb
    rintro _ rfl
    rintro _ rfl
    refine ⟨fun _ => ?_, fun h => absurd (show true = false from h) (by decide)⟩
    intro K hK
    go_simp
    (with_reducible refine (HB.out _).mono ?_)
    rintro e wa ⟨rfl, Ba⟩
    exact hK _ _ rfl ⟨rfl, Ba⟩
  · intro wx hb
    rintro _ rfl
    rintro _ rfl
    refine ⟨fun _ => ?_, fun h => absurd (show true = false from h) (by decide)⟩
    intro K hK
    go_simp
    exact hK _ _ rfl ⟨rfl, Below.refl _ _⟩
  · intro wx hb
    rintro _ rfl
    rintro _ rfl
    intro K hK
    go_simp
    exact hK _ _ rfl ⟨rfl, Below.refl _ _⟩
  intro w1 B1
  have PA := Box.below PA B1 (Box.lt PA)
  have PB := Box.below PB B1 (Box.lt PB)
  have PR := Box.below PR B1 (Box.lt PR)
  have BW := bkeep BW B1
  rintro _ rfl
  rintro _ rfl
  rintro _ rfl
  rintro _ rfl
  rintro _ rfl
  rintro _ rfl
  rintro _ rfl
  rintro _ rfl
  rintro -
  simp only [Act.put, List.setIfInBounds_toArray, List.set_cons_zero, List.set_cons_succ, List.toList_toArray, List.length_cons, List.length_nil, List.drop_succ_cons, List.drop_zero, List.drop_nil, Nat.zero_add, wpList]
  have x0 : w1.cell? ⟨w.heap.size, 0, none⟩ = some (.int .i64 a.n) := PA.cell 0
  have x1 : w1.cell? ⟨w.heap.size + 1, 0, none⟩ = some (.int .i64 b.n) := PB.cell 0
  have HPA := Lib.hid PA; have HPB := Lib.hid PB; have HPR := Lib.hid PR
  have HBW := Lib.hid BW
  clear B1 PA PB PR BW
  go_wp2_with fail
  (with_reducible refine (HL.out _).mono ?_)
  rintro e w2 ⟨rfl, rfl⟩
  go_upto_region 6 with fail
  refine region_lin (.val (fun v _ => v = .int .i64 (a.n + b.n)) :: .val (fun v _ => v = .pointer (some ⟨w.heap.size, 1, none⟩)) :: .val (fun v _ => v = .int .i64 a.l) :: .val (fun v _ => v = .pointer (some ⟨(w.heap.size + 1), 1, none⟩)) :: .val (fun v _ => v = .int .i64 b.l) :: .val (fun v _ => v = .int .i64 (a.l + b.l)) :: .val (fun v _ => v = .pointer (some ⟨w.heap.size, 2, none⟩)) :: .val (fun v _ => v = .int .i64 a.h) :: .val (fun v _ => v = .pointer (some ⟨(w.heap.size + 1), 3, none⟩)) :: .val (fun v _ => v = .int .i64 b.t) :: .val (fun v _ => v = .pointer (some ⟨w.heap.size, 4, none⟩)) :: .val (fun v _ => v = .agg #[.int .u64 a.v, .int .u64 a.s]) :: .val (fun v _ => v = .pointer (some ⟨(w.heap.size + 1), 4, none⟩)) :: .val (fun v _ => v = .agg #[.int .u64 b.v, .int .u64 b.s]) :: .val (fun v _ => v = .agg #[.int .u64 (red (a.v * b.s + b.v)), .int .u64 (red (a.s * b.s))]) :: .val (fun v _ => v = .agg #[.int .i64 (a.n + b.n), .int .i64 (a.l + b.l), .int .i64 a.h, .int .i64 b.t, .int .u64 (red (a.v * b.s + b.v)), .int .u64 (red (a.s * b.s))]) :: .new 110 #[.int .i64 0, .int .i64 0, .int .i64 0, .int .i64 0, .int .u64 0, .int .u64 0] #[.int .i64 (a.n + b.n), .int .i64 (a.l + b.l), .int .i64 a.h, .int .i64 b.t, .int .u64 (red (a.v * b.s + b.v)), .int .u64 (red (a.s * b.s))] 17 :: .put 110 #[.int .i64 0, .int .i64 0, .int .i64 0, .int .i64 0, .int .u64 0, .int .u64 0] #[.int .i64 (a.n + b.n), .int .i64 (a.l + b.l), .int .i64 a.h, .int .i64 b.t, .int .u64 (red (a.v * b.s + b.v)), .int .u64 (red (a.s * b.s))] 8 :: [])
    ([] :: [] :: [(32, 1)] :: [] :: [(34, 3)] :: [(33, 2), (35, 4)] :: [] :: [(37, 6)] :: [] :: [(39, 8)] :: [] :: [(41, 10)] :: [] :: [(43, 12)] :: [(42, 11), (44, 13)] :: [(31, 0), (36, 5), (38, 7), (40, 9), (45, 14)] :: [] :: [(46, 15)] :: []) ((0, 0) :: (0, 0) :: (0, 0) :: (0, 0) :: (0, 0) :: (0, 0) :: (0, 0) :: (0, 0) :: (0, 0) :: (0, 0) :: (0, 0) :: (0, 0) :: (0, 0) :: (0, 0) :: (0, 0) :: (0, 0) :: (1, 17) :: (2, 8) :: []) 66 (by kernel_rfl) rfl rfl (by kernel_rfl) ⟨Stab.pure _ _ _, Stab.pure _ _ _, Stab.pure _ _ _, Stab.pure _ _ _, Stab.pure _ _ _, Stab.pure _ _ _, Stab.pure _ _ _, Stab.pure _ _ _, Stab.pure _ _ _, Stab.pure _ _ _, Stab.pure _ _ _, Stab.pure _ _ _, Stab.pure _ _ _, Stab.pure _ _ _, Stab.pure _ _ _, Stab.pure _ _ _, ⟨rfl, rfl, rfl⟩, trivial⟩ ⟨?_, ?_, ?_, ?_, ?_, ?_, ?_, ?_, ?_, ?_, ?_, ?_, ?_, ?_, ?_, ?_, ?_, ?_, trivial⟩ ?_
  · intro wx hb
    intro K hK
    go_simp
    exact hK _ _ rfl ⟨rfl, Below.refl _ _⟩
  · intro wx hb
    intro K hK
    go_simp
    exact hK _ _ rfl ⟨rfl, Below.refl _ _⟩
  · intro wx hb
    rintro _ rfl
    intro K hK
    have mm := Box.below (HPA.out) hb (Box.lt (HPA.out))
    have m0 : wx.cell? ⟨w.heap.size, 0, none⟩ = some (.int .i64 a.n) := mm.cell 0
    have m1 : wx.cell? ⟨w.heap.size, 1, none⟩ = some (.int .i64 a.l) := mm.cell 1
    have m2 : wx.cell? ⟨w.heap.size, 2, none⟩ = some (.int .i64 a.h) := mm.cell 2
    have m3 : wx.cell? ⟨w.heap.size, 3, none⟩ = some (.int .i64 a.t) := mm.cell 3
    have m4 : wx.cell? ⟨w.heap.size, 4, none⟩ = some (.int .u64 a.v) := mm.cell 4
    have m5 : wx.cell? ⟨w.heap.size, 5, none⟩ = some (.int .u64 a.s) := mm.cell 5
    clear mm
    go_simp
    exact hK _ _ rfl ⟨rfl, Below.refl _ _⟩
  · intro wx hb
    intro K hK
    go_simp
    exact hK _ _ rfl ⟨rfl, Below.refl _ _⟩
  · intro wx hb
    rintro _ rfl
    intro K hK
    have mm := Box.below (HPB.out) hb (Box.lt (HPB.out))
    have m0 : wx.cell? ⟨(w.heap.size + 1), 0, none⟩ = some (.int .i64 b.n) := mm.cell 0
    have m1 : wx.cell? ⟨(w.heap.size + 1), 1, none⟩ = some (.int .i64 b.l) := mm.cell 1
    have m2 : wx.cell? ⟨(w.heap.size + 1), 2, none⟩ = some (.int .i64 b.h) := mm.cell 2
    have m3 : wx.cell? ⟨(w.heap.size + 1), 3, none⟩ = some (.int .i64 b.t) := mm.cell 3
    have m4 : wx.cell? ⟨(w.heap.size + 1), 4, none⟩ = some (.int .u64 b.v) := mm.cell 4
    have m5 : wx.cell? ⟨(w.heap.size + 1), 5, none⟩ = some (.int .u64 b.s) := mm.cell 5
    clear mm
    go_simp
    exact hK _ _ rfl ⟨rfl, Below.refl _ _⟩
  · intro wx hb
    rintro _ rfl
    rintro _ rfl
    intro K hK
    have wz := IntWalk.i64_in (a.l + b.l) ⟨by omega, by omega⟩
    go_simp
    exact hK _ _ rfl ⟨rfl, Below.refl _ _⟩
  · intro wx hb
    intro K hK
    go_simp
    exact hK _ _ rfl ⟨rfl, Below.refl _ _⟩
  · intro wx hb
    rintro _ rfl
    intro K hK
    have mm := Box.below (HPA.out) hb (Box.lt (HPA.out))
    have m0 : wx.cell? ⟨w.heap.size, 0, none⟩ = some (.int .i64 a.n) := mm.cell 0
    have m1 : wx.cell? ⟨w.heap.size, 1, none⟩ = some (.int .i64 a.l) := mm.cell 1
    have m2 : wx.cell? ⟨w.heap.size, 2, none⟩ = some (.int .i64 a.h) := mm.cell 2
    have m3 : wx.cell? ⟨w.heap.size, 3, none⟩ = some (.int .i64 a.t) := mm.cell 3
    have m4 : wx.cell? ⟨w.heap.size, 4, none⟩ = some (.int .u64 a.v) := mm.cell 4
    have m5 : wx.cell? ⟨w.heap.size, 5, none⟩ = some (.int .u64 a.s) := mm.cell 5
    clear mm
    go_simp
    exact hK _ _ rfl ⟨rfl, Below.refl _ _⟩
  · intro wx hb
    intro K hK
    go_simp
    exact hK _ _ rfl ⟨rfl, Below.refl _ _⟩
  · intro wx hb
    rintro _ rfl
    intro K hK
    have mm := Box.below (HPB.out) hb (Box.lt (HPB.out))
    have m0 : wx.cell? ⟨(w.heap.size + 1), 0, none⟩ = some (.int .i64 b.n) := mm.cell 0
    have m1 : wx.cell? ⟨(w.heap.size + 1), 1, none⟩ = some (.int .i64 b.l) := mm.cell 1
    have m2 : wx.cell? ⟨(w.heap.size + 1), 2, none⟩ = some (.int .i64 b.h) := mm.cell 2
    have m3 : wx.cell? ⟨(w.heap.size + 1), 3, none⟩ = some (.int .i64 b.t) := mm.cell 3
    have m4 : wx.cell? ⟨(w.heap.size + 1), 4, none⟩ = some (.int .u64 b.v) := mm.cell 4
    have m5 : wx.cell? ⟨(w.heap.size + 1), 5, none⟩ = some (.int .u64 b.s) := mm.cell 5
    clear mm
    go_simp
    exact hK _ _ rfl ⟨rfl, Below.refl _ _⟩
  · intro wx hb
    intro K hK
    go_simp
    exact hK _ _ rfl ⟨rfl, Below.refl _ _⟩
  · intro wx hb
    rintro _ rfl
    intro K hK
    have mm := Box.below (HPA.out) hb (Box.lt (HPA.out))
    have m0 : wx.cell? ⟨w.heap.size, 0, none⟩ = some (.int .i64 a.n) := mm.cell 0
    have m1 : wx.cell? ⟨w.heap.size, 1, none⟩ = some (.int .i64 a.l) := mm.cell 1
    have m2 : wx.cell? ⟨w.heap.size, 2, none⟩ = some (.int .i64 a.h) := mm.cell 2
    have m3 : wx.cell? ⟨w.heap.size, 3, none⟩ = some (.int .i64 a.t) := mm.cell 3
    have m4 : wx.cell? ⟨w.heap.size, 4, none⟩ = some (.int .u64 a.v) := mm.cell 4
    have m5 : wx.cell? ⟨w.heap.size, 5, none⟩ = some (.int .u64 a.s) := mm.cell 5
    clear mm
    go_simp
    exact hK _ _ rfl ⟨rfl, Below.refl _ _⟩
  · intro wx hb
    intro K hK
    go_simp
    exact hK _ _ rfl ⟨rfl, Below.refl _ _⟩
  · intro wx hb
    rintro _ rfl
    intro K hK
    have mm := Box.below (HPB.out) hb (Box.lt (HPB.out))
    have m0 : wx.cell? ⟨(w.heap.size + 1), 0, none⟩ = some (.int .i64 b.n) := mm.cell 0
    have m1 : wx.cell? ⟨(w.heap.size + 1), 1, none⟩ = some (.int .i64 b.l) := mm.cell 1
    have m2 : wx.cell? ⟨(w.heap.size + 1), 2, none⟩ = some (.int .i64 b.h) := mm.cell 2
    have m3 : wx.cell? ⟨(w.heap.size + 1), 3, none⟩ = some (.int .i64 b.t) := mm.cell 3
    have m4 : wx.cell? ⟨(w.heap.size + 1), 4, none⟩ = some (.int .u64 b.v) := mm.cell 4
    have m5 : wx.cell? ⟨(w.heap.size + 1), 5, none⟩ = some (.int .u64 b.s) := mm.cell 5
    clear mm
    go_simp
    exact hK _ _ rfl ⟨rfl, Below.refl _ _⟩
  · intro wx hb
    rintro _ rfl
    rintro _ rfl
    intro K hK
    go_simp
    (with_reducible refine (HJ.out _).mono ?_)
    rintro e wa ⟨rfl, Ba⟩
    exact hK _ _ rfl ⟨rfl, Ba⟩
  · intro wx hb
    rintro _ rfl
    rintro _ rfl
    rintro _ rfl
    rintro _ rfl
    rintro _ rfl
    intro K hK
    go_simp
    exact hK _ _ rfl ⟨rfl, Below.refl _ _⟩
  · intro wx hb
    intro K hK
    go_simp
    exact hK _ _ rfl ⟨rfl, rfl⟩
  · intro wx hb
    intro g hg hbx
    rintro _ rfl
    intro K hK
    have c0 : wx.cell? ⟨g, 0, none⟩ = some (.int .i64 0) := hbx.cell 0
    have f0 := hbx.free 0
    have c1 : wx.cell? ⟨g, 1, none⟩ = some (.int .i64 0) := hbx.cell 1
    have f1 := hbx.free 1
    have c2 : wx.cell? ⟨g, 2, none⟩ = some (.int .i64 0) := hbx.cell 2
    have f2 := hbx.free 2
    have c3 : wx.cell? ⟨g, 3, none⟩ = some (.int .i64 0) := hbx.cell 3
    have f3 := hbx.free 3
    have c4 : wx.cell? ⟨g, 4, none⟩ = some (.int .u64 0) := hbx.cell 4
    have f4 := hbx.free 4
    have c5 : wx.cell? ⟨g, 5, none⟩ = some (.int .u64 0) := hbx.cell 5
    have f5 := hbx.free 5
    clear hb
    go_simp
    exact hK _ _ rfl ((((((((Stored.start hbx).set 0 _).set 1 _).set 2 _).set 3 _).set 4 _).set 5 _))
  intro w3 B3
  rintro _ rfl
  rintro _ rfl
  rintro _ rfl
  rintro _ rfl
  rintro _ rfl
  rintro _ rfl
  rintro _ rfl
  rintro _ rfl
  rintro _ rfl
  rintro _ rfl
  rintro _ rfl
  rintro _ rfl
  rintro _ rfl
  rintro _ rfl
  rintro _ rfl
  rintro _ rfl
  intro gj hgj Bj
  rintro -
  simp only [Act.put, List.setIfInBounds_toArray, List.set_cons_zero, List.set_cons_succ, List.toList_toArray, List.length_cons, List.length_nil, List.drop_succ_cons, List.drop_zero, List.drop_nil, Nat.zero_add, wpList]
  have PA := HPA.out.below B3 HPA.out.lt; have PB := HPB.out.below B3 HPB.out.lt; have PR := HPR.out.below B3 HPR.out.lt
  have HBW3 := Lib.hid (bkeep HBW.out B3)
  have p0 : w3.cell? ⟨w.heap.size, 0, none⟩ = some (.int .i64 a.n) := PA.cell 0
  have p1 : w3.cell? ⟨w.heap.size, 1, none⟩ = some (.int .i64 a.l) := PA.cell 1
  have p2 : w3.cell? ⟨w.heap.size, 2, none⟩ = some (.int .i64 a.h) := PA.cell 2
  have p3 : w3.cell? ⟨w.heap.size, 3, none⟩ = some (.int .i64 a.t) := PA.cell 3
  have p4 : w3.cell? ⟨w.heap.size, 4, none⟩ = some (.int .u64 a.v) := PA.cell 4
  have p5 : w3.cell? ⟨w.heap.size, 5, none⟩ = some (.int .u64 a.s) := PA.cell 5
  have q0 : w3.cell? ⟨w.heap.size + 1, 0, none⟩ = some (.int .i64 b.n) := PB.cell 0
  have q1 : w3.cell? ⟨w.heap.size + 1, 1, none⟩ = some (.int .i64 b.l) := PB.cell 1
  have q2 : w3.cell? ⟨w.heap.size + 1, 2, none⟩ = some (.int .i64 b.h) := PB.cell 2
  have q3 : w3.cell? ⟨w.heap.size + 1, 3, none⟩ = some (.int .i64 b.t) := PB.cell 3
  have q4 : w3.cell? ⟨w.heap.size + 1, 4, none⟩ = some (.int .u64 b.v) := PB.cell 4
  have q5 : w3.cell? ⟨w.heap.size + 1, 5, none⟩ = some (.int .u64 b.s) := PB.cell 5
  have y0 : w3.cell? ⟨w.heap.size + 1 + 1, 0, none⟩ = some (.int .i64 0) := PR.cell 0
  have y1 : w3.cell? ⟨w.heap.size + 1 + 1, 1, none⟩ = some (.int .i64 0) := PR.cell 1
  have y2 : w3.cell? ⟨w.heap.size + 1 + 1, 2, none⟩ = some (.int .i64 0) := PR.cell 2
  have y3 : w3.cell? ⟨w.heap.size + 1 + 1, 3, none⟩ = some (.int .i64 0) := PR.cell 3
  have y4 : w3.cell? ⟨w.heap.size + 1 + 1, 4, none⟩ = some (.int .u64 0) := PR.cell 4
  have y5 : w3.cell? ⟨w.heap.size + 1 + 1, 5, none⟩ = some (.int .u64 0) := PR.cell 5
  have j0 : w3.cell? ⟨gj, 0, none⟩ = some (.int .i64 (a.n + b.n)) := Bj.cell 0
  have j1 : w3.cell? ⟨gj, 1, none⟩ = some (.int .i64 (a.l + b.l)) := Bj.cell 1
  have j2 : w3.cell? ⟨gj, 2, none⟩ = some (.int .i64 a.h) := Bj.cell 2
  have j3 : w3.cell? ⟨gj, 3, none⟩ = some (.int .i64 b.t) := Bj.cell 3
  have j4 : w3.cell? ⟨gj, 4, none⟩ = some (.int .u64 (red (a.v * b.s + b.v))) := Bj.cell 4
  have j5 : w3.cell? ⟨gj, 5, none⟩ = some (.int .u64 (red (a.s * b.s))) := Bj.cell 5
  have f0 := PR.free 0; have f1 := PR.free 1; have f2 := PR.free 2; have f3 := PR.free 3; have f4 := PR.free 4; have f5 := PR.free 5
  have k2 := Bj.free 2; have k3 := Bj.free 3
  have ne0 : gj ≠ w.heap.size := by have := HPA.out.lt; omega
  have ne1 : gj ≠ w.heap.size + 1 := by have := HPB.out.lt; omega
  have ne2 : gj ≠ w.heap.size + 1 + 1 := by have := HPR.out.lt; omega
  have ne3 : w.heap.size + 1 + 1 ≠ gj := by omega
  have le0 : w.heap.size ≤ gj := by have := HPA.out.lt; omega
  clear B3 PA PB PR Bj x0 x1
  go_wp2_with fail
  refine bodyPost_ret (v := .tuple #[.agg #[.int .i64 (a.n + b.n), .int .i64 (a.l + b.l), .int .i64 a.h, .int .i64 (b.n + a.t), .int .u64 (red (a.v * b.s + b.v)), .int .u64 (red (a.s * b.s))], .nilIface]) ?_ rfl ⟨rfl, ?_⟩
  · simp only [results, Try.results78]
    simp [go_sem, y0, y1, y2, y3, y4, y5, ne0, ne1, ne2, ne3]
  · repeat (first | (with_reducible exact HBW3.out) | (with_reducible refine Below.setCell ?_ (by first | exact le0 | (simp; omega)) _))
set_option maxRecDepth 100000 in
set_option maxHeartbeats 4000000 in
theorem wjoin_ok11 (a b : Wt) (ha : WOk a) (hb : WOk b) (ea : vW a = true) (eb : vW b = true) (hl : a.n + b.n ≤ 1152921504606846976) (la : (a.l == 0) = false) (lb : (b.l == 0) = false) (w : World) :
    Calls Try.prog 78 #[.agg #[.int .i64 a.n, .int .i64 a.l, .int .i64 a.h, .int .i64 a.t, .int .u64 a.v, .int .u64 a.s], .agg #[.int .i64 b.n, .int .i64 b.l, .int .i64 b.h, .int .i64 b.t, .int .u64 b.v, .int .u64 b.s]] w fun e w' => e = .returned (.tuple #[.agg #[.int .i64 (a.n + b.n), .int .i64 (a.l + b.l), .int .i64 a.h, .int .i64 b.t, .int .u64 (red (a.v * b.s + b.v)), .int .u64 (red (a.s * b.s))], .nilIface]) ∧ Below w.heap.size w w' := by
  obtain ⟨PA, PB, PR, BW⟩ := three w a b 110 #[.int .i64 0, .int .i64 0, .int .i64 0, .int .i64 0, .int .u64 0, .int .u64 0]
  have HA := Lib.hid (wvalid_v a ha _ ea); have HB := Lib.hid (wvalid_v b hb _ eb)
  have fa := Fit.of ha ea; have fb := Fit.of hb eb
  have an0 := fa.n0; have an1 := fa.n1; have bn0 := fb.n0; have bn1 := fb.n1
  have al0 := fa.l0; have al1 := fa.l1; have bl0 := fb.l0; have bl1 := fb.l1
  have ah0 := fa.h0; have ah1 := fa.h1; have bh0 := fb.h0; have bh1 := fb.h1
  have at0 := fa.t0; have at1 := fa.t1; have bt0 := fb.t0; have bt1 := fb.t1
  have HL := Lib.hid (lenadd_yes a.n b.n an0 an1 bn0 bn1 hl)
  have HJ := Lib.hid (join_any a.v a.s b.v b.s ha.uv ha.us hb.uv hb.us)
  clear ea eb fa fb
  go_enter Try.func78, Try.ntmps78
  go_upto_region 1 with fail
  refine region_lin0 (.val (fun v _ => v = .agg #[.int .i64 a.n, .int .i64 a.l, .int .i64 a.h, .int .i64 a.t, .int .u64 a.v, .int .u64 a.s]) :: .val (fun v _ => v = .bool true) :: .val (fun v _ => v = .bool false) :: .val (fun v _ => v = .bool false) :: .val (fun v _ => v = .agg #[.int .i64 b.n, .int .i64 b.l, .int .i64 b.h, .int .i64 b.t, .int .u64 b.v, .int .u64 b.s]) :: .val (fun v _ => v = .bool true) :: .val (fun v _ => v = .bool false) :: .val (fun v _ => v = .bool false) :: [])
    ([] :: [(9, 0)] :: [(10, 1)] :: [(11, 2)] :: [(12, 3)] :: [(13, 4), (12, 3)] :: [(14, 5), (12, 3)] :: [(12, 3), (15, 6)] :: []) ((0, 0) :: (0, 0) :: (0, 0) :: (0, 0) :: (0, 0) :: (0, 0) :: (0, 0) :: (0, 0) :: []) 66 (by kernel_rfl) rfl rfl (by kernel_rfl) ⟨Stab.pure _ _ _, Stab.pure _ _ _, Stab.pure _ _ _, Stab.pure _ _ _, Stab.pure _ _ _, Stab.pure _ _ _, Stab.pure _ _ _, Stab.pure _ _ _, trivial⟩ ⟨?_, ?_, ?_, ?_, ?_, ?_, ?_, ?_, trivial⟩ ?_
  · intro wx hb
    intro K hK
    exact wp_load_row 110 (.tmp 2) rfl w.heap.size rfl 110 _ (0, 0) _ (Box.below (PA) hb (Box.lt (PA))) Try.underlying110 rfl (by kernel_rfl) (hK _ _ rfl ⟨rfl, Below.refl _ _⟩)
  · intro wx hb
    rintro _ rfl
    intro K hK
    go_simp
    (with_reducible refine (HA.out _).mono ?_)
    rintro e wa ⟨rfl, Ba⟩
    exact hK _ _ rfl ⟨rfl, Ba⟩
  · intro wx hb
    rintro _ rfl
    intro K hK
    go_simp
    exact hK _ _ rfl ⟨rfl, Below.refl _ _⟩
  · intro wx hb
    rintro _ rfl
    intro K hK
    go_simp
    exact hK _ _ rfl ⟨rfl, Below.refl _ _⟩
  · intro wx hb
    rintro _ rfl
    refine ⟨fun _ => ?_, fun h => absurd (show true = false from h) (by decide)⟩
    intro K hK
    exact wp_load_row 110 (.tmp 3) rfl (w.heap.size + 1) rfl 110 _ (0, 0) _ (Box.below (PB) hb (Box.lt (PB))) Try.underlying110 rfl (by kernel_rfl) (hK _ _ rfl ⟨rfl, Below.refl _ _⟩)
  · intro wx hb
    rintro _ rfl
    rintro _ rfl
    refine ⟨fun _ => ?_, fun h => absurd (show true = false from h) (by decide)⟩
    intro K hK
    go_simp
    (with_reducible refine (HB.out _).mono ?_)
    rintro e wa ⟨rfl, Ba⟩
    exact hK _ _ rfl ⟨rfl, Ba⟩
  · intro wx hb
    rintro _ rfl
    rintro _ rfl
    refine ⟨fun _ => ?_, fun h => absurd (show true = false from h) (by decide)⟩
    intro K hK
    go_simp
    exact hK _ _ rfl ⟨rfl, Below.refl _ _⟩
  · intro wx hb
    rintro _ rfl
    rintro _ rfl
    intro K hK
    go_simp
    exact hK _ _ rfl ⟨rfl, Below.refl _ _⟩
  intro w1 B1
  have PA := Box.below PA B1 (Box.lt PA)
  have PB := Box.below PB B1 (Box.lt PB)
  have PR := Box.below PR B1 (Box.lt PR)
  have BW := bkeep BW B1
  rintro _ rfl
  rintro _ rfl
  rintro _ rfl
  rintro _ rfl
  rintro _ rfl
  rintro _ rfl
  rintro _ rfl
  rintro _ rfl
  rintro -
  simp only [Act.put, List.setIfInBounds_toArray, List.set_cons_zero, List.set_cons_succ, List.toList_toArray, List.length_cons, List.length_nil, List.drop_succ_cons, List.drop_zero, List.drop_nil, Nat.zero_add, wpList]
  have x0 : w1.cell? ⟨w.heap.size, 0, none⟩ = some (.int .i64 a.n) := PA.cell 0
  have x1 : w1.cell? ⟨w.heap.size + 1, 0, none⟩ = some (.int .i64 b.n) := PB.cell 0
  have HPA := Lib.hid PA; have HPB := Lib.hid PB; have HPR := Lib.hid PR
  have HBW := Lib.hid BW
  clear B1 PA PB PR BW
  go_wp2_with fail
  (with_reducible refine (HL.out _).mono ?_)
  rintro e w2 ⟨rfl, rfl⟩
  go_upto_region 6 with fail
  refine region_lin (.val (fun v _ => v = .int .i64 (a.n + b.n)) :: .val (fun v _ => v = .pointer (some ⟨w.heap.size, 1, none⟩)) :: .val (fun v _ => v = .int .i64 a.l) :: .val (fun v _ => v = .pointer (some ⟨(w.heap.size + 1), 1, none⟩)) :: .val (fun v _ => v = .int .i64 b.l) :: .val (fun v _ => v = .int .i64 (a.l + b.l)) :: .val (fun v _ => v = .pointer (some ⟨w.heap.size, 2, none⟩)) :: .val (fun v _ => v = .int .i64 a.h) :: .val (fun v _ => v = .pointer (some ⟨(w.heap.size + 1), 3, none⟩)) :: .val (fun v _ => v = .int .i64 b.t) :: .val (fun v _ => v = .pointer (some ⟨w.heap.size, 4, none⟩)) :: .val (fun v _ => v = .agg #[.int .u64 a.v, .int .u64 a.s]) :: .val (fun v _ => v = .pointer (some ⟨(w.heap.size + 1), 4, none⟩)) :: .val (fun v _ => v = .agg #[.int .u64 b.v, .int .u64 b.s]) :: .val (fun v _ => v = .agg #[.int .u64 (red (a.v * b.s + b.v)), .int .u64 (red (a.s * b.s))]) :: .val (fun v _ => v = .agg #[.int .i64 (a.n + b.n), .int .i64 (a.l + b.l), .int .i64 a.h, .int .i64 b.t, .int .u64 (red (a.v * b.s + b.v)), .int .u64 (red (a.s * b.s))]) :: .new 110 #[.int .i64 0, .int .i64 0, .int .i64 0, .int .i64 0, .int .u64 0, .int .u64 0] #[.int .i64 (a.n + b.n), .int .i64 (a.l + b.l), .int .i64 a.h, .int .i64 b.t, .int .u64 (red (a.v * b.s + b.v)), .int .u64 (red (a.s * b.s))] 17 :: .put 110 #[.int .i64 0, .int .i64 0, .int .i64 0, .int .i64 0, .int .u64 0, .int .u64 0] #[.int .i64 (a.n + b.n), .int .i64 (a.l + b.l), .int .i64 a.h, .int .i64 b.t, .int .u64 (red (a.v * b.s + b.v)), .int .u64 (red (a.s * b.s))] 8 :: [])
    ([] :: [] :: [(32, 1)] :: [] :: [(34, 3)] :: [(33, 2), (35, 4)] :: [] :: [(37, 6)] :: [] :: [(39, 8)] :: [] :: [(41, 10)] :: [] :: [(43, 12)] :: [(42, 11), (44, 13)] :: [(31, 0), (36, 5), (38, 7), (40, 9), (45, 14)] :: [] :: [(46, 15)] :: []) ((0, 0) :: (0, 0) :: (0, 0) :: (0, 0) :: (0, 0) :: (0, 0) :: (0, 0) :: (0, 0) :: (0, 0) :: (0, 0) :: (0, 0) :: (0, 0) :: (0, 0) :: (0, 0) :: (0, 0) :: (0, 0) :: (1, 17) :: (2, 8) :: []) 66 (by kernel_rfl) rfl rfl (by kernel_rfl) ⟨Stab.pure _ _ _, Stab.pure _ _ _, Stab.pure _ _ _, Stab.pure _ _ _, Stab.pure _ _ _, Stab.pure _ _ _, Stab.pure _ _ _, Stab.pure _ _ _, Stab.pure _ _ _, Stab.pure _ _ _, Stab.pure _ _ _, Stab.pure _ _ _, Stab.pure _ _ _, Stab.pure _ _ _, Stab.pure _ _ _, Stab.pure _ _ _, ⟨rfl, rfl, rfl⟩, trivial⟩ ⟨?_, ?_, ?_, ?_, ?_, ?_, ?_, ?_, ?_, ?_, ?_, ?_, ?_, ?_, ?_, ?_, ?_, ?_, trivial⟩ ?_
  · intro wx hb
    intro K hK
    go_simp
    exact hK _ _ rfl ⟨rfl, Below.refl _ _⟩
  · intro wx hb
    intro K hK
    go_simp
    exact hK _ _ rfl ⟨rfl, Below.refl _ _⟩
  · intro wx hb
    rintro _ rfl
    intro K hK
    have mm := Box.below (HPA.out) hb (Box.lt (HPA.out))
    have m0 : wx.cell? ⟨w.heap.size, 0, none⟩ = some (.int .i64 a.n) := mm.cell 0
    have m1 : wx.cell? ⟨w.heap.size, 1, none⟩ = some (.int .i64 a.l) := mm.cell 1
    have m2 : wx.cell? ⟨w.heap.size, 2, none⟩ = some (.int .i64 a.h) := mm.cell 2
    have m3 : wx.cell? ⟨w.heap.size, 3, none⟩ = some (.int .i64 a.t) := mm.cell 3
    have m4 : wx.cell? ⟨w.heap.size, 4, none⟩ = some (.int .u64 a.v) := mm.cell 4
    have m5 : wx.cell? ⟨w.heap.size, 5, none⟩ = some (.int .u64 a.s) := mm.cell 5
    clear mm
    go_simp
    exact hK _ _ rfl ⟨rfl, Below.refl _ _⟩
  · intro wx hb
    intro K hK
    go_simp
    exact hK _ _ rfl ⟨rfl, Below.refl _ _⟩
  · intro wx hb
    rintro _ rfl
    intro K hK
    have mm := Box.below (HPB.out) hb (Box.lt (HPB.out))
    have m0 : wx.cell? ⟨(w.heap.size + 1), 0, none⟩ = some (.int .i64 b.n) := mm.cell 0
    have m1 : wx.cell? ⟨(w.heap.size + 1), 1, none⟩ = some (.int .i64 b.l) := mm.cell 1
    have m2 : wx.cell? ⟨(w.heap.size + 1), 2, none⟩ = some (.int .i64 b.h) := mm.cell 2
    have m3 : wx.cell? ⟨(w.heap.size + 1), 3, none⟩ = some (.int .i64 b.t) := mm.cell 3
    have m4 : wx.cell? ⟨(w.heap.size + 1), 4, none⟩ = some (.int .u64 b.v) := mm.cell 4
    have m5 : wx.cell? ⟨(w.heap.size + 1), 5, none⟩ = some (.int .u64 b.s) := mm.cell 5
    clear mm
    go_simp
    exact hK _ _ rfl ⟨rfl, Below.refl _ _⟩
  · intro wx hb
    rintro _ rfl
    rintro _ rfl
    intro K hK
    have wz := IntWalk.i64_in (a.l + b.l) ⟨by omega, by omega⟩
    go_simp
    exact hK _ _ rfl ⟨rfl, Below.refl _ _⟩
  · intro wx hb
    intro K hK
    go_simp
    exact hK _ _ rfl ⟨rfl, Below.refl _ _⟩
  · intro wx hb
    rintro _ rfl
    intro K hK
    have mm := Box.below (HPA.out) hb (Box.lt (HPA.out))
    have m0 : wx.cell? ⟨w.heap.size, 0, none⟩ = some (.int .i64 a.n) := mm.cell 0
    have m1 : wx.cell? ⟨w.heap.size, 1, none⟩ = some (.int .i64 a.l) := mm.cell 1
    have m2 : wx.cell? ⟨w.heap.size, 2, none⟩ = some (.int .i64 a.h) := mm.cell 2
    have m3 : wx.cell? ⟨w.heap.size, 3, none⟩ = some (.int .i64 a.t) := mm.cell 3
    have m4 : wx.cell? ⟨w.heap.size, 4, none⟩ = some (.int .u64 a.v) := mm.cell 4
    have m5 : wx.cell? ⟨w.heap.size, 5, none⟩ = some (.int .u64 a.s) := mm.cell 5
    clear mm
    go_simp
    exact hK _ _ rfl ⟨rfl, Below.refl _ _⟩
  · intro wx hb
    intro K hK
    go_simp
    exact hK _ _ rfl ⟨rfl, Below.refl _ _⟩
  · intro wx hb
    rintro _ rfl
    intro K hK
    have mm := Box.below (HPB.out) hb (Box.lt (HPB.out))
    have m0 : wx.cell? ⟨(w.heap.size + 1), 0, none⟩ = some (.int .i64 b.n) := mm.cell 0
    have m1 : wx.cell? ⟨(w.heap.size + 1), 1, none⟩ = some (.int .i64 b.l) := mm.cell 1
    have m2 : wx.cell? ⟨(w.heap.size + 1), 2, none⟩ = some (.int .i64 b.h) := mm.cell 2
    have m3 : wx.cell? ⟨(w.heap.size + 1), 3, none⟩ = some (.int .i64 b.t) := mm.cell 3
    have m4 : wx.cell? ⟨(w.heap.size + 1), 4, none⟩ = some (.int .u64 b.v) := mm.cell 4
    have m5 : wx.cell? ⟨(w.heap.size + 1), 5, none⟩ = some (.int .u64 b.s) := mm.cell 5
    clear mm
    go_simp
    exact hK _ _ rfl ⟨rfl, Below.refl _ _⟩
  · intro wx hb
    intro K hK
    go_simp
    exact hK _ _ rfl ⟨rfl, Below.refl _ _⟩
  · intro wx hb
    rintro _ rfl
    intro K hK
    have mm := Box.below (HPA.out) hb (Box.lt (HPA.out))
    have m0 : wx.cell? ⟨w.heap.size, 0, none⟩ = some (.int .i64 a.n) := mm.cell 0
    have m1 : wx.cell? ⟨w.heap.size, 1, none⟩ = some (.int .i64 a.l) := mm.cell 1
    have m2 : wx.cell? ⟨w.heap.size, 2, none⟩ = some (.int .i64 a.h) := mm.cell 2
    have m3 : wx.cell? ⟨w.heap.size, 3, none⟩ = some (.int .i64 a.t) := mm.cell 3
    have m4 : wx.cell? ⟨w.heap.size, 4, none⟩ = some (.int .u64 a.v) := mm.cell 4
    have m5 : wx.cell? ⟨w.heap.size, 5, none⟩ = some (.int .u64 a.s) := mm.cell 5
    clear mm
    go_simp
    exact hK _ _ rfl ⟨rfl, Below.refl _ _⟩
  · intro wx hb
    intro K hK
    go_simp
    exact hK _ _ rfl ⟨rfl, Below.refl _ _⟩
  · intro wx hb
    rintro _ rfl
    intro K hK
    have mm := Box.below (HPB.out) hb (Box.lt (HPB.out))
    have m0 : wx.cell? ⟨(w.heap.size + 1), 0, none⟩ = some (.int .i64 b.n) := mm.cell 0
    have m1 : wx.cell? ⟨(w.heap.size + 1), 1, none⟩ = some (.int .i64 b.l) := mm.cell 1
    have m2 : wx.cell? ⟨(w.heap.size + 1), 2, none⟩ = some (.int .i64 b.h) := mm.cell 2
    have m3 : wx.cell? ⟨(w.heap.size + 1), 3, none⟩ = some (.int .i64 b.t) := mm.cell 3
    have m4 : wx.cell? ⟨(w.heap.size + 1), 4, none⟩ = some (.int .u64 b.v) := mm.cell 4
    have m5 : wx.cell? ⟨(w.heap.size + 1), 5, none⟩ = some (.int .u64 b.s) := mm.cell 5
    clear mm
    go_simp
    exact hK _ _ rfl ⟨rfl, Below.refl _ _⟩
  · intro wx hb
    rintro _ rfl
    rintro _ rfl
    intro K hK
    go_simp
    (with_reducible refine (HJ.out _).mono ?_)
    rintro e wa ⟨rfl, Ba⟩
    exact hK _ _ rfl ⟨rfl, Ba⟩
  · intro wx hb
    rintro _ rfl
    rintro _ rfl
    rintro _ rfl
    rintro _ rfl
    rintro _ rfl
    intro K hK
    go_simp
    exact hK _ _ rfl ⟨rfl, Below.refl _ _⟩
  · intro wx hb
    intro K hK
    go_simp
    exact hK _ _ rfl ⟨rfl, rfl⟩
  · intro wx hb
    intro g hg hbx
    rintro _ rfl
    intro K hK
    have c0 : wx.cell? ⟨g, 0, none⟩ = some (.int .i64 0) := hbx.cell 0
    have f0 := hbx.free 0
    have c1 : wx.cell? ⟨g, 1, none⟩ = some (.int .i64 0) := hbx.cell 1
    have f1 := hbx.free 1
    have c2 : wx.cell? ⟨g, 2, none⟩ = some (.int .i64 0) := hbx.cell 2
    have f2 := hbx.free 2
    have c3 : wx.cell? ⟨g, 3, none⟩ = some (.int .i64 0) := hbx.cell 3
    have f3 := hbx.free 3
    have c4 : wx.cell? ⟨g, 4, none⟩ = some (.int .u64 0) := hbx.cell 4
    have f4 := hbx.free 4
    have c5 : wx.cell? ⟨g, 5, none⟩ = some (.int .u64 0) := hbx.cell 5
    have f5 := hbx.free 5
    clear hb
    go_simp
    exact hK _ _ rfl ((((((((Stored.start hbx).set 0 _).set 1 _).set 2 _).set 3 _).set 4 _).set 5 _))
  intro w3 B3
  rintro _ rfl
  rintro _ rfl
  rintro _ rfl
  rintro _ rfl
  rintro _ rfl
  rintro _ rfl
  rintro _ rfl
  rintro _ rfl
  rintro _ rfl
  rintro _ rfl
  rintro _ rfl
  rintro _ rfl
  rintro _ rfl
  rintro _ rfl
  rintro _ rfl
  rintro _ rfl
  intro gj hgj Bj
  rintro -
  simp only [Act.put, List.setIfInBounds_toArray, List.set_cons_zero, List.set_cons_succ, List.toList_toArray, List.length_cons, List.length_nil, List.drop_succ_cons, List.drop_zero, List.drop_nil, Nat.zero_add, wpList]
  have PA := HPA.out.below B3 HPA.out.lt; have PB := HPB.out.below B3 HPB.out.lt; have PR := HPR.out.below B3 HPR.out.lt
  have HBW3 := Lib.hid (bkeep HBW.out B3)
  have p0 : w3.cell? ⟨w.heap.size, 0, none⟩ = some (.int .i64 a.n) := PA.cell 0
  have p1 : w3.cell? ⟨w.heap.size, 1, none⟩ = some (.int .i64 a.l) := PA.cell 1
  have p2 : w3.cell? ⟨w.heap.size, 2, none⟩ = some (.int .i64 a.h) := PA.cell 2
  have p3 : w3.cell? ⟨w.heap.size, 3, none⟩ = some (.int .i64 a.t) := PA.cell 3
  have p4 : w3.cell? ⟨w.heap.size, 4, none⟩ = some (.int .u64 a.v) := PA.cell 4
  have p5 : w3.cell? ⟨w.heap.size, 5, none⟩ = some (.int .u64 a.s) := PA.cell 5
  have q0 : w3.cell? ⟨w.heap.size + 1, 0, none⟩ = some (.int .i64 b.n) := PB.cell 0
  have q1 : w3.cell? ⟨w.heap.size + 1, 1, none⟩ = some (.int .i64 b.l) := PB.cell 1
  have q2 : w3.cell? ⟨w.heap.size + 1, 2, none⟩ = some (.int .i64 b.h) := PB.cell 2
  have q3 : w3.cell? ⟨w.heap.size + 1, 3, none⟩ = some (.int .i64 b.t) := PB.cell 3
  have q4 : w3.cell? ⟨w.heap.size + 1, 4, none⟩ = some (.int .u64 b.v) := PB.cell 4
  have q5 : w3.cell? ⟨w.heap.size + 1, 5, none⟩ = some (.int .u64 b.s) := PB.cell 5
  have y0 : w3.cell? ⟨w.heap.size + 1 + 1, 0, none⟩ = some (.int .i64 0) := PR.cell 0
  have y1 : w3.cell? ⟨w.heap.size + 1 + 1, 1, none⟩ = some (.int .i64 0) := PR.cell 1
  have y2 : w3.cell? ⟨w.heap.size + 1 + 1, 2, none⟩ = some (.int .i64 0) := PR.cell 2
  have y3 : w3.cell? ⟨w.heap.size + 1 + 1, 3, none⟩ = some (.int .i64 0) := PR.cell 3
  have y4 : w3.cell? ⟨w.heap.size + 1 + 1, 4, none⟩ = some (.int .u64 0) := PR.cell 4
  have y5 : w3.cell? ⟨w.heap.size + 1 + 1, 5, none⟩ = some (.int .u64 0) := PR.cell 5
  have j0 : w3.cell? ⟨gj, 0, none⟩ = some (.int .i64 (a.n + b.n)) := Bj.cell 0
  have j1 : w3.cell? ⟨gj, 1, none⟩ = some (.int .i64 (a.l + b.l)) := Bj.cell 1
  have j2 : w3.cell? ⟨gj, 2, none⟩ = some (.int .i64 a.h) := Bj.cell 2
  have j3 : w3.cell? ⟨gj, 3, none⟩ = some (.int .i64 b.t) := Bj.cell 3
  have j4 : w3.cell? ⟨gj, 4, none⟩ = some (.int .u64 (red (a.v * b.s + b.v))) := Bj.cell 4
  have j5 : w3.cell? ⟨gj, 5, none⟩ = some (.int .u64 (red (a.s * b.s))) := Bj.cell 5
  have f0 := PR.free 0; have f1 := PR.free 1; have f2 := PR.free 2; have f3 := PR.free 3; have f4 := PR.free 4; have f5 := PR.free 5
  have k2 := Bj.free 2; have k3 := Bj.free 3
  have ne0 : gj ≠ w.heap.size := by have := HPA.out.lt; omega
  have ne1 : gj ≠ w.heap.size + 1 := by have := HPB.out.lt; omega
  have ne2 : gj ≠ w.heap.size + 1 + 1 := by have := HPR.out.lt; omega
  have ne3 : w.heap.size + 1 + 1 ≠ gj := by omega
  have le0 : w.heap.size ≤ gj := by have := HPA.out.lt; omega
  clear B3 PA PB PR Bj x0 x1
  go_wp2_with fail
  refine bodyPost_ret (v := .tuple #[.agg #[.int .i64 (a.n + b.n), .int .i64 (a.l + b.l), .int .i64 a.h, .int .i64 b.t, .int .u64 (red (a.v * b.s + b.v)), .int .u64 (red (a.s * b.s))], .nilIface]) ?_ rfl ⟨rfl, ?_⟩
  · simp only [results, Try.results78]
    simp [go_sem, y0, y1, y2, y3, y4, y5, ne0, ne1, ne2, ne3]
  · repeat (first | (with_reducible exact HBW3.out) | (with_reducible refine Below.setCell ?_ (by first | exact le0 | (simp; omega)) _))
end Go.Proofs.Ytolhjkpekmmajaa
