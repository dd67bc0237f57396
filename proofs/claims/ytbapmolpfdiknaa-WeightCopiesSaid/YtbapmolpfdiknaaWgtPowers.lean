/- The law WeightPowers. -/
import Derived.Test.YtbapmolpfdiknaaWgtRep2
import Derived.Test.YtbapmolpfdiknaaWgtAssoc2
namespace Go.Proofs.Ytbapmolpfdiknaa
set_option linter.unusedVariables false
set_option linter.unusedSimpArgs false
open Go.RowKit Go.Lib
attribute [local go_sem ↓] Go.wp_at_zero Go.wp_at_succ
abbrev CR (a : Wt) (k : Int) (r : Wt) (e : Value) : Prop := ∀ w : World, Calls Try.prog 24 #[.agg #[.int .i64 a.n, .int .i64 a.l, .int .i64 a.h, .int .i64 a.t, .int .u64 a.v, .int .u64 a.s], .int .i64 k] w fun x w' => x = .returned (.tuple #[.agg #[.int .i64 r.n, .int .i64 r.l, .int .i64 r.h, .int .i64 r.t, .int .u64 r.v, .int .u64 r.s], e]) ∧ Below w.heap.size w w'
set_option maxHeartbeats 2000000 in
theorem powers_out (a : Wt) (i j : Int) (i0 : -9223372036854775808 ≤ i) (i1 : i ≤ 9223372036854775807) (j0 : -9223372036854775808 ≤ j) (j1 : j ≤ 9223372036854775807) (h : i < 0 ∨ j < 0 ∨ 1073741824 < i ∨ 1073741824 < j) (w : World) :
    Calls Try.prog 10 #[.agg #[.int .i64 a.n, .int .i64 a.l, .int .i64 a.h, .int .i64 a.t, .int .u64 a.v, .int .u64 a.s], .int .i64 i, .int .i64 j] w fun e w' => e = .returned (.bool true) ∧ Below w.heap.size w w' := by
  have key : ((i < 0) ∨ (¬ i < 0 ∧ j < 0) ∨ (¬ i < 0 ∧ ¬ j < 0 ∧ 1073741824 < i) ∨ (¬ i < 0 ∧ ¬ j < 0 ∧ ¬ 1073741824 < i ∧ 1073741824 < j)) := by omega
  clear h
  rcases key with h1 | ⟨h1, h2⟩ | ⟨h1, h2, h3⟩ | ⟨h1, h2, h3, h4⟩
  all_goals
    go_enter Try.func10, Try.ntmps10
    go_wp2_with fail
    (with_reducible refine (alive_any _).mono ?_)
    rintro e w1 ⟨rfl, B1⟩
    have BW := Lib.hid (bkeep (balloc (Below.refl w.heap.size w) _) B1)
    clear B1
    go_wp2_with fail
    go_ret
    exact ⟨rfl, BW.out⟩
set_option maxHeartbeats 8000000 in
theorem powers_se (a s p q m : Wt) (i j es ep : Int) (i0 : 0 ≤ i) (i1 : i ≤ 1073741824) (j0 : 0 ≤ j) (j1 : j ≤ 1073741824) (m0 : Hid (0 ≤ i * j)) (m1 : Hid (i * j ≤ 1152921504606846976)) (HS : Hid (CR a (i + j) s .nilIface)) (HI : Hid (CR a i p .nilIface)) (HJ : Hid (CR a j q .nilIface)) (HC : Hid (CW p q s .nilIface)) (HP : Hid (CR a (i * j) zW (.iface 52 (.int .i64 ep)))) (w : World) :
    Calls Try.prog 10 #[.agg #[.int .i64 a.n, .int .i64 a.l, .int .i64 a.h, .int .i64 a.t, .int .u64 a.v, .int .u64 a.s], .int .i64 i, .int .i64 j] w fun e w' => e = .returned (.bool true) ∧ Below w.heap.size w w' := by
  have HPA := Lib.hid (Box.new w 26 #[.int .i64 a.n, .int .i64 a.l, .int .i64 a.h, .int .i64 a.t, .int .u64 a.v, .int .u64 a.s])
  have c1 : ¬ i < 0 := by omega
  have c2 : ¬ j < 0 := by omega
  have c3 : ¬ 1073741824 < i := by omega
  have c4 : ¬ 1073741824 < j := by omega
  go_enter Try.func10, Try.ntmps10
  go_wp2_with fail
  (with_reducible refine (alive_any _).mono ?_)
  rintro e w1 ⟨rfl, B1⟩
  have PA := HPA.out.below B1 HPA.out.lt
  have BW := bkeep (balloc (Below.refl w.heap.size w) _) B1
  clear B1
  go_upto_region 5 with fail
  refine region_lin0 (.val (fun v _ => v = .agg #[.int .i64 a.n, .int .i64 a.l, .int .i64 a.h, .int .i64 a.t, .int .u64 a.v, .int .u64 a.s]) :: .val (fun v _ => v = .int .i64 i) :: .val (fun v _ => v = .int .i64 j) :: .val (fun v _ => v = .int .i64 (i + j)) :: .val (fun v _ => v = .tuple #[.agg #[.int .i64 s.n, .int .i64 s.l, .int .i64 s.h, .int .i64 s.t, .int .u64 s.v, .int .u64 s.s], .nilIface]) :: .val (fun v _ => v = .tuple #[.agg #[.int .i64 s.n, .int .i64 s.l, .int .i64 s.h, .int .i64 s.t, .int .u64 s.v, .int .u64 s.s], .nilIface]) :: .val (fun v _ => v = .agg #[.int .i64 s.n, .int .i64 s.l, .int .i64 s.h, .int .i64 s.t, .int .u64 s.v, .int .u64 s.s]) :: .val (fun v _ => v = .nilIface) :: .new 26 #[.int .i64 0, .int .i64 0, .int .i64 0, .int .i64 0, .int .u64 0, .int .u64 0] #[.int .i64 s.n, .int .i64 s.l, .int .i64 s.h, .int .i64 s.t, .int .u64 s.v, .int .u64 s.s] 9 :: .put 26 #[.int .i64 0, .int .i64 0, .int .i64 0, .int .i64 0, .int .u64 0, .int .u64 0] #[.int .i64 s.n, .int .i64 s.l, .int .i64 s.h, .int .i64 s.t, .int .u64 s.v, .int .u64 s.s] 7 :: .val (fun v _ => v = .nilIface) :: [])
    ([] :: [] :: [] :: [(38, 1), (39, 2)] :: [(37, 0), (40, 3)] :: [(41, 4)] :: [(36, 5)] :: [(36, 5)] :: [] :: [(42, 6)] :: [(43, 7)] :: []) ((0, 0) :: (0, 0) :: (0, 0) :: (0, 0) :: (0, 0) :: (0, 0) :: (0, 0) :: (0, 0) :: (1, 9) :: (2, 7) :: (0, 0) :: []) 116 (by kernel_rfl) rfl rfl (by kernel_rfl) ⟨Stab.pure _ _ _, Stab.pure _ _ _, Stab.pure _ _ _, Stab.pure _ _ _, Stab.pure _ _ _, Stab.pure _ _ _, Stab.pure _ _ _, Stab.pure _ _ _, ⟨rfl, rfl, rfl⟩, Stab.pure _ _ _, trivial⟩ ⟨?_, ?_, ?_, ?_, ?_, ?_, ?_, ?_, ?_, ?_, ?_, trivial⟩ ?_
  · intro wx hb
    intro K hK
    exact wp_load_row 26 (.tmp 3) rfl w.heap.size rfl 26 _ (0, 0) _ (Box.below (PA) hb (Box.lt (PA))) Try.underlying26 rfl (by kernel_rfl) (hK _ _ rfl ⟨rfl, Below.refl _ _⟩)
  · intro wx hb
    intro K hK
    go_simp
    exact hK _ _ rfl ⟨rfl, Below.refl _ _⟩
  · intro wx hb
    intro K hK
    go_simp
    exact hK _ _ rfl ⟨rfl, Below.refl _ _⟩
  · intro wx hb
    rintro _ rfl
    rintro _ rfl
    intro K hK
    have wz := IntWalk.i64_in (i + j) ⟨by omega, by omega⟩
    go_simp
    exact hK _ _ rfl ⟨rfl, Below.refl _ _⟩
  · intro wx hb
    rintro _ rfl
    rintro _ rfl
    intro K hK
    go_simp
    (with_reducible refine (HS.out _).mono ?_)
    rintro e wa ⟨rfl, Ba⟩
    exact hK _ _ rfl ⟨rfl, Ba⟩
  · intro wx hb
    rintro _ rfl
    intro K hK
    go_simp
    exact hK _ _ rfl ⟨rfl, Below.refl _ _⟩
  · intro wx hb
    rintro _ rfl
    intro K hK
    go_simp
    exact hK _ _ rfl ⟨rfl, Below.refl _ _⟩
  · intro wx hb
    rintro _ rfl
    intro K hK
    go_simp
    exact hK _ _ rfl ⟨rfl, Below.refl _ _⟩
  · intro wx hb
    intro K hK
    go_simp
    exact hK _ _ rfl ⟨rfl, rfl⟩
  · intro wx hb
    intro g hg hbx
    rintro _ rfl
    intro K hK
    have c0 : wx.cell? ⟨g, 0, none⟩ = some (.int .i64 0) := hbx.cell 0
    have f0 := hbx.free 0
    have c1 : wx.cell? ⟨g, 1, none⟩ = some (.int .i64 0) := hbx.cell 1
    have f1 := hbx.free 1
    have c2 : wx.cell? ⟨g, 2, none⟩ = some (.int .i64 0) := hbx.cell 2
    have f2 := hbx.free 2
    have c3 : wx.cell? ⟨g, 3, none⟩ = some (.int .i64 0) := hbx.cell 3
    have f3 := hbx.free 3
    have c4 : wx.cell? ⟨g, 4, none⟩ = some (.int .u64 0) := hbx.cell 4
    have f4 := hbx.free 4
    have c5 : wx.cell? ⟨g, 5, none⟩ = some (.int .u64 0) := hbx.cell 5
    have f5 := hbx.free 5
    clear hb
    go_simp
    exact hK _ _ rfl ((((((((Stored.start hbx).set 0 _).set 1 _).set 2 _).set 3 _).set 4 _).set 5 _))
  · intro wx hb
    rintro _ rfl
    intro K hK
    go_simp
    exact hK _ _ rfl ⟨rfl, Below.refl _ _⟩
  intro w2 B
  have PA := Box.below PA B (Box.lt PA)
  have BW := bkeep BW B
  rintro _ rfl
  rintro _ rfl
  rintro _ rfl
  rintro _ rfl
  rintro _ rfl
  rintro _ rfl
  rintro _ rfl
  rintro _ rfl
  intro gs hgs Bs
  rintro _ rfl
  rintro -
  simp only [Act.put, List.setIfInBounds_toArray, List.set_cons_zero, List.set_cons_succ, List.toList_toArray, List.length_cons, List.length_nil, List.drop_succ_cons, List.drop_zero, List.drop_nil, Nat.zero_add, wpList]
  clear B
  go_upto_region 7 with fail
  refine region_lin0 (.val (fun v _ => v = .agg #[.int .i64 a.n, .int .i64 a.l, .int .i64 a.h, .int .i64 a.t, .int .u64 a.v, .int .u64 a.s]) :: .val (fun v _ => v = .int .i64 i) :: .val (fun v _ => v = .tuple #[.agg #[.int .i64 p.n, .int .i64 p.l, .int .i64 p.h, .int .i64 p.t, .int .u64 p.v, .int .u64 p.s], .nilIface]) :: .val (fun v _ => v = .tuple #[.agg #[.int .i64 p.n, .int .i64 p.l, .int .i64 p.h, .int .i64 p.t, .int .u64 p.v, .int .u64 p.s], .nilIface]) :: .val (fun v _ => v = .agg #[.int .i64 p.n, .int .i64 p.l, .int .i64 p.h, .int .i64 p.t, .int .u64 p.v, .int .u64 p.s]) :: .val (fun v _ => v = .nilIface) :: .new 26 #[.int .i64 0, .int .i64 0, .int .i64 0, .int .i64 0, .int .u64 0, .int .u64 0] #[.int .i64 p.n, .int .i64 p.l, .int .i64 p.h, .int .i64 p.t, .int .u64 p.v, .int .u64 p.s] 7 :: .put 26 #[.int .i64 0, .int .i64 0, .int .i64 0, .int .i64 0, .int .u64 0, .int .u64 0] #[.int .i64 p.n, .int .i64 p.l, .int .i64 p.h, .int .i64 p.t, .int .u64 p.v, .int .u64 p.s] 9 :: .val (fun v _ => v = .nilIface) :: [])
    ([] :: [] :: [(47, 0), (48, 1)] :: [(49, 2)] :: [(46, 3)] :: [(46, 3)] :: [] :: [(50, 4)] :: [(51, 5)] :: []) ((0, 0) :: (0, 0) :: (0, 0) :: (0, 0) :: (0, 0) :: (0, 0) :: (1, 7) :: (2, 9) :: (0, 0) :: []) 116 (by kernel_rfl) rfl rfl (by kernel_rfl) ⟨Stab.pure _ _ _, Stab.pure _ _ _, Stab.pure _ _ _, Stab.pure _ _ _, Stab.pure _ _ _, Stab.pure _ _ _, ⟨rfl, rfl, rfl⟩, Stab.pure _ _ _, trivial⟩ ⟨?_, ?_, ?_, ?_, ?_, ?_, ?_, ?_, ?_, trivial⟩ ?_
  · intro wx hb
    intro K hK
    exact wp_load_row 26 (.tmp 3) rfl w.heap.size rfl 26 _ (0, 0) _ (Box.below (PA) hb (Box.lt (PA))) Try.underlying26 rfl (by kernel_rfl) (hK _ _ rfl ⟨rfl, Below.refl _ _⟩)
  · intro wx hb
    intro K hK
    go_simp
    exact hK _ _ rfl ⟨rfl, Below.refl _ _⟩
  · intro wx hb
    rintro _ rfl
    rintro _ rfl
    intro K hK
    go_simp
    (with_reducible refine (HI.out _).mono ?_)
    rintro e wa ⟨rfl, Ba⟩
    exact hK _ _ rfl ⟨rfl, Ba⟩
  · intro wx hb
    rintro _ rfl
    intro K hK
    go_simp
    exact hK _ _ rfl ⟨rfl, Below.refl _ _⟩
  · intro wx hb
    rintro _ rfl
    intro K hK
    go_simp
    exact hK _ _ rfl ⟨rfl, Below.refl _ _⟩
  · intro wx hb
    rintro _ rfl
    intro K hK
    go_simp
    exact hK _ _ rfl ⟨rfl, Below.refl _ _⟩
  · intro wx hb
    intro K hK
    go_simp
    exact hK _ _ rfl ⟨rfl, rfl⟩
  · intro wx hb
    intro g hg hbx
    rintro _ rfl
    intro K hK
    have c0 : wx.cell? ⟨g, 0, none⟩ = some (.int .i64 0) := hbx.cell 0
    have f0 := hbx.free 0
    have c1 : wx.cell? ⟨g, 1, none⟩ = some (.int .i64 0) := hbx.cell 1
    have f1 := hbx.free 1
    have c2 : wx.cell? ⟨g, 2, none⟩ = some (.int .i64 0) := hbx.cell 2
    have f2 := hbx.free 2
    have c3 : wx.cell? ⟨g, 3, none⟩ = some (.int .i64 0) := hbx.cell 3
    have f3 := hbx.free 3
    have c4 : wx.cell? ⟨g, 4, none⟩ = some (.int .u64 0) := hbx.cell 4
    have f4 := hbx.free 4
    have c5 : wx.cell? ⟨g, 5, none⟩ = some (.int .u64 0) := hbx.cell 5
    have f5 := hbx.free 5
    clear hb
    go_simp
    exact hK _ _ rfl ((((((((Stored.start hbx).set 0 _).set 1 _).set 2 _).set 3 _).set 4 _).set 5 _))
  · intro wx hb
    rintro _ rfl
    intro K hK
    go_simp
    exact hK _ _ rfl ⟨rfl, Below.refl _ _⟩
  intro w3 B
  have PA := Box.below PA B (Box.lt PA)
  have Bs := Box.below Bs B (Box.lt Bs)
  have BW := bkeep BW B
  rintro _ rfl
  rintro _ rfl
  rintro _ rfl
  rintro _ rfl
  rintro _ rfl
  rintro _ rfl
  intro gp hgp Bp
  rintro _ rfl
  rintro -
  simp only [Act.put, List.setIfInBounds_toArray, List.set_cons_zero, List.set_cons_succ, List.toList_toArray, List.length_cons, List.length_nil, List.drop_succ_cons, List.drop_zero, List.drop_nil, Nat.zero_add, wpList]
  clear B
  go_upto_region 8 with fail
  refine region_lin0 (.val (fun v _ => v = .agg #[.int .i64 a.n, .int .i64 a.l, .int .i64 a.h, .int .i64 a.t, .int .u64 a.v, .int .u64 a.s]) :: .val (fun v _ => v = .int .i64 j) :: .val (fun v _ => v = .tuple #[.agg #[.int .i64 q.n, .int .i64 q.l, .int .i64 q.h, .int .i64 q.t, .int .u64 q.v, .int .u64 q.s], .nilIface]) :: .val (fun v _ => v = .tuple #[.agg #[.int .i64 q.n, .int .i64 q.l, .int .i64 q.h, .int .i64 q.t, .int .u64 q.v, .int .u64 q.s], .nilIface]) :: .val (fun v _ => v = .agg #[.int .i64 q.n, .int .i64 q.l, .int .i64 q.h, .int .i64 q.t, .int .u64 q.v, .int .u64 q.s]) :: .val (fun v _ => v = .nilIface) :: .new 26 #[.int .i64 0, .int .i64 0, .int .i64 0, .int .i64 0, .int .u64 0, .int .u64 0] #[.int .i64 q.n, .int .i64 q.l, .int .i64 q.h, .int .i64 q.t, .int .u64 q.v, .int .u64 q.s] 7 :: .put 26 #[.int .i64 0, .int .i64 0, .int .i64 0, .int .i64 0, .int .u64 0, .int .u64 0] #[.int .i64 q.n, .int .i64 q.l, .int .i64 q.h, .int .i64 q.t, .int .u64 q.v, .int .u64 q.s] 11 :: .val (fun v _ => v = .nilIface) :: [])
    ([] :: [] :: [(53, 0), (54, 1)] :: [(55, 2)] :: [(52, 3)] :: [(52, 3)] :: [] :: [(56, 4)] :: [(57, 5)] :: []) ((0, 0) :: (0, 0) :: (0, 0) :: (0, 0) :: (0, 0) :: (0, 0) :: (1, 7) :: (2, 11) :: (0, 0) :: []) 116 (by kernel_rfl) rfl rfl (by kernel_rfl) ⟨Stab.pure _ _ _, Stab.pure _ _ _, Stab.pure _ _ _, Stab.pure _ _ _, Stab.pure _ _ _, Stab.pure _ _ _, ⟨rfl, rfl, rfl⟩, Stab.pure _ _ _, trivial⟩ ⟨?_, ?_, ?_, ?_, ?_, ?_, ?_, ?_, ?_, trivial⟩ ?_
  · intro wx hb
    intro K hK
    exact wp_load_row 26 (.tmp 3) rfl w.heap.size rfl 26 _ (0, 0) _ (Box.below (PA) hb (Box.lt (PA))) Try.underlying26 rfl (by kernel_rfl) (hK _ _ rfl ⟨rfl, Below.refl _ _⟩)
  · intro wx hb
    intro K hK
    go_simp
    exact hK _ _ rfl ⟨rfl, Below.refl _ _⟩
  · intro wx hb
    rintro _ rfl
    rintro _ rfl
    intro K hK
    go_simp
    (with_reducible refine (HJ.out _).mono ?_)
    rintro e wa ⟨rfl, Ba⟩
    exact hK _ _ rfl ⟨rfl, Ba⟩
  · intro wx hb
    rintro _ rfl
    intro K hK
    go_simp
    exact hK _ _ rfl ⟨rfl, Below.refl _ _⟩
  · intro wx hb
    rintro _ rfl
    intro K hK
    go_simp
    exact hK _ _ rfl ⟨rfl, Below.refl _ _⟩
  · intro wx hb
    rintro _ rfl
    intro K hK
    go_simp
    exact hK _ _ rfl ⟨rfl, Below.refl _ _⟩
  · intro wx hb
    intro K hK
    go_simp
    exact hK _ _ rfl ⟨rfl, rfl⟩
  · intro wx hb
    intro g hg hbx
    rintro _ rfl
    intro K hK
    have c0 : wx.cell? ⟨g, 0, none⟩ = some (.int .i64 0) := hbx.cell 0
    have f0 := hbx.free 0
    have c1 : wx.cell? ⟨g, 1, none⟩ = some (.int .i64 0) := hbx.cell 1
    have f1 := hbx.free 1
    have c2 : wx.cell? ⟨g, 2, none⟩ = some (.int .i64 0) := hbx.cell 2
    have f2 := hbx.free 2
    have c3 : wx.cell? ⟨g, 3, none⟩ = some (.int .i64 0) := hbx.cell 3
    have f3 := hbx.free 3
    have c4 : wx.cell? ⟨g, 4, none⟩ = some (.int .u64 0) := hbx.cell 4
    have f4 := hbx.free 4
    have c5 : wx.cell? ⟨g, 5, none⟩ = some (.int .u64 0) := hbx.cell 5
    have f5 := hbx.free 5
    clear hb
    go_simp
    exact hK _ _ rfl ((((((((Stored.start hbx).set 0 _).set 1 _).set 2 _).set 3 _).set 4 _).set 5 _))
  · intro wx hb
    rintro _ rfl
    intro K hK
    go_simp
    exact hK _ _ rfl ⟨rfl, Below.refl _ _⟩
  intro w4 B
  have PA := Box.below PA B (Box.lt PA)
  have Bs := Box.below Bs B (Box.lt Bs)
  have Bp := Box.below Bp B (Box.lt Bp)
  have BW := bkeep BW B
  rintro _ rfl
  rintro _ rfl
  rintro _ rfl
  rintro _ rfl
  rintro _ rfl
  rintro _ rfl
  intro gq hgq Bq
  rintro _ rfl
  rintro -
  simp only [Act.put, List.setIfInBounds_toArray, List.set_cons_zero, List.set_cons_succ, List.toList_toArray, List.length_cons, List.length_nil, List.drop_succ_cons, List.drop_zero, List.drop_nil, Nat.zero_add, wpList]
  clear B
  go_upto_region 9 with fail
  refine region_lin0 (.val (fun v _ => v = .agg #[.int .i64 p.n, .int .i64 p.l, .int .i64 p.h, .int .i64 p.t, .int .u64 p.v, .int .u64 p.s]) :: .val (fun v _ => v = .agg #[.int .i64 q.n, .int .i64 q.l, .int .i64 q.h, .int .i64 q.t, .int .u64 q.v, .int .u64 q.s]) :: .val (fun v _ => v = .tuple #[.agg #[.int .i64 s.n, .int .i64 s.l, .int .i64 s.h, .int .i64 s.t, .int .u64 s.v, .int .u64 s.s], .nilIface]) :: .val (fun v _ => v = .tuple #[.agg #[.int .i64 s.n, .int .i64 s.l, .int .i64 s.h, .int .i64 s.t, .int .u64 s.v, .int .u64 s.s], .nilIface]) :: .val (fun v _ => v = .agg #[.int .i64 s.n, .int .i64 s.l, .int .i64 s.h, .int .i64 s.t, .int .u64 s.v, .int .u64 s.s]) :: .val (fun v _ => v = .nilIface) :: .new 26 #[.int .i64 0, .int .i64 0, .int .i64 0, .int .i64 0, .int .u64 0, .int .u64 0] #[.int .i64 s.n, .int .i64 s.l, .int .i64 s.h, .int .i64 s.t, .int .u64 s.v, .int .u64 s.s] 7 :: .put 26 #[.int .i64 0, .int .i64 0, .int .i64 0, .int .i64 0, .int .u64 0, .int .u64 0] #[.int .i64 s.n, .int .i64 s.l, .int .i64 s.h, .int .i64 s.t, .int .u64 s.v, .int .u64 s.s] 13 :: .val (fun v _ => v = .nilIface) :: [])
    ([] :: [] :: [(59, 0), (60, 1)] :: [(61, 2)] :: [(58, 3)] :: [(58, 3)] :: [] :: [(62, 4)] :: [(63, 5)] :: []) ((0, 0) :: (0, 0) :: (0, 0) :: (0, 0) :: (0, 0) :: (0, 0) :: (1, 7) :: (2, 13) :: (0, 0) :: []) 116 (by kernel_rfl) rfl rfl (by kernel_rfl) ⟨Stab.pure _ _ _, Stab.pure _ _ _, Stab.pure _ _ _, Stab.pure _ _ _, Stab.pure _ _ _, Stab.pure _ _ _, ⟨rfl, rfl, rfl⟩, Stab.pure _ _ _, trivial⟩ ⟨?_, ?_, ?_, ?_, ?_, ?_, ?_, ?_, ?_, trivial⟩ ?_
  · intro wx hb
    intro K hK
    exact wp_load_row 26 (.tmp 9) rfl gp rfl 26 _ (0, 0) _ (Box.below (Bp) hb (Box.lt (Bp))) Try.underlying26 rfl (by kernel_rfl) (hK _ _ rfl ⟨rfl, Below.refl _ _⟩)
  · intro wx hb
    intro K hK
    exact wp_load_row 26 (.tmp 11) rfl gq rfl 26 _ (0, 0) _ (Box.below (Bq) hb (Box.lt (Bq))) Try.underlying26 rfl (by kernel_rfl) (hK _ _ rfl ⟨rfl, Below.refl _ _⟩)
  · intro wx hb
    rintro _ rfl
    rintro _ rfl
    intro K hK
    go_simp
    (with_reducible refine (HC.out _).mono ?_)
    rintro e wa ⟨rfl, Ba⟩
    exact hK _ _ rfl ⟨rfl, Ba⟩
  · intro wx hb
    rintro _ rfl
    intro K hK
    go_simp
    exact hK _ _ rfl ⟨rfl, Below.refl _ _⟩
  · intro wx hb
    rintro _ rfl
    intro K hK
    go_simp
    exact hK _ _ rfl ⟨rfl, Below.refl _ _⟩
  · intro wx hb
    rintro _ rfl
    intro K hK
    go_simp
    exact hK _ _ rfl ⟨rfl, Below.refl _ _⟩
  · intro wx hb
    intro K hK
    go_simp
    exact hK _ _ rfl ⟨rfl, rfl⟩
  · intro wx hb
    intro g hg hbx
    rintro _ rfl
    intro K hK
    have c0 : wx.cell? ⟨g, 0, none⟩ = some (.int .i64 0) := hbx.cell 0
    have f0 := hbx.free 0
    have c1 : wx.cell? ⟨g, 1, none⟩ = some (.int .i64 0) := hbx.cell 1
    have f1 := hbx.free 1
    have c2 : wx.cell? ⟨g, 2, none⟩ = some (.int .i64 0) := hbx.cell 2
    have f2 := hbx.free 2
    have c3 : wx.cell? ⟨g, 3, none⟩ = some (.int .i64 0) := hbx.cell 3
    have f3 := hbx.free 3
    have c4 : wx.cell? ⟨g, 4, none⟩ = some (.int .u64 0) := hbx.cell 4
    have f4 := hbx.free 4
    have c5 : wx.cell? ⟨g, 5, none⟩ = some (.int .u64 0) := hbx.cell 5
    have f5 := hbx.free 5
    clear hb
    go_simp
    exact hK _ _ rfl ((((((((Stored.start hbx).set 0 _).set 1 _).set 2 _).set 3 _).set 4 _).set 5 _))
  · intro wx hb
    rintro _ rfl
    intro K hK
    go_simp
    exact hK _ _ rfl ⟨rfl, Below.refl _ _⟩
  intro w5 B
  have PA := Box.below PA B (Box.lt PA)
  have Bs := Box.below Bs B (Box.lt Bs)
  have BW := bkeep BW B
  rintro _ rfl
  rintro _ rfl
  rintro _ rfl
  rintro _ rfl
  rintro _ rfl
  rintro _ rfl
  intro gc hgc Bc
  rintro _ rfl
  rintro -
  simp only [Act.put, List.setIfInBounds_toArray, List.set_cons_zero, List.set_cons_succ, List.toList_toArray, List.length_cons, List.length_nil, List.drop_succ_cons, List.drop_zero, List.drop_nil, Nat.zero_add, wpList]
  clear B Bp Bq
  go_upto_region 10 with fail
  refine region_lin0 (.val (fun v _ => v = .nilIface) :: .val (fun v _ => v = .bool false) :: .val (fun v _ => v = .bool false) :: .val (fun v _ => v = .nilIface) :: .val (fun v _ => v = .bool false) :: .val (fun v _ => v = .bool false) :: .val (fun v _ => v = .bool false) :: .val (fun v _ => v = .nilIface) :: .val (fun v _ => v = .bool false) :: .val (fun v _ => v = .bool false) :: .val (fun v _ => v = .bool false) :: .val (fun v _ => v = .agg #[.int .i64 s.n, .int .i64 s.l, .int .i64 s.h, .int .i64 s.t, .int .u64 s.v, .int .u64 s.s]) :: .val (fun v _ => v = .agg #[.int .i64 s.n, .int .i64 s.l, .int .i64 s.h, .int .i64 s.t, .int .u64 s.v, .int .u64 s.s]) :: .val (fun v _ => v = .bool false) :: .val (fun v _ => v = .bool false) :: [])
    ([] :: [(64, 0)] :: [(65, 1)] :: [(66, 2)] :: [(67, 3), (66, 2)] :: [(66, 2), (68, 4)] :: [(69, 5)] :: [(70, 6)] :: [(71, 7), (70, 6)] :: [(70, 6), (72, 8)] :: [(73, 9)] :: [(74, 10)] :: [(74, 10)] :: [(75, 11), (76, 12), (74, 10)] :: [(74, 10), (77, 13)] :: []) ((0, 0) :: (0, 0) :: (0, 0) :: (0, 0) :: (0, 0) :: (0, 0) :: (0, 0) :: (0, 0) :: (0, 0) :: (0, 0) :: (0, 0) :: (0, 0) :: (0, 0) :: (0, 0) :: (0, 0) :: []) 116 (by kernel_rfl) rfl rfl (by kernel_rfl) ⟨Stab.pure _ _ _, Stab.pure _ _ _, Stab.pure _ _ _, Stab.pure _ _ _, Stab.pure _ _ _, Stab.pure _ _ _, Stab.pure _ _ _, Stab.pure _ _ _, Stab.pure _ _ _, Stab.pure _ _ _, Stab.pure _ _ _, Stab.pure _ _ _, Stab.pure _ _ _, Stab.pure _ _ _, Stab.pure _ _ _, trivial⟩ ⟨?_, ?_, ?_, ?_, ?_, ?_, ?_, ?_, ?_, ?_, ?_, ?_, ?_, ?_, ?_, trivial⟩ ?_
  · intro wx hb
    intro K hK
    go_simp
    exact hK _ _ rfl ⟨rfl, Below.refl _ _⟩
  · intro wx hb
    rintro _ rfl
    intro K hK
    go_simp
    exact hK _ _ rfl ⟨rfl, Below.refl _ _⟩
  · intro wx hb
    rintro _ rfl
    intro K hK
    go_simp
    exact hK _ _ rfl ⟨rfl, Below.refl _ _⟩
  · intro wx hb
    rintro _ rfl
    refine ⟨fun _ => ?_, fun h => absurd (show true = false from h) (by decide)⟩
    intro K hK
    go_simp
    exact hK _ _ rfl ⟨rfl, Below.refl _ _⟩
  · intro wx hb
    rintro _ rfl
    rintro _ rfl
    refine ⟨fun _ => ?_, fun h => absurd (show true = false from h) (by decide)⟩
    intro K hK
    go_simp
    exact hK _ _ rfl ⟨rfl, Below.refl _ _⟩
  · intro wx hb
    rintro _ rfl
    rintro _ rfl
    intro K hK
    go_simp
    exact hK _ _ rfl ⟨rfl, Below.refl _ _⟩
  · intro wx hb
    rintro _ rfl
    intro K hK
    go_simp
    exact hK _ _ rfl ⟨rfl, Below.refl _ _⟩
  · intro wx hb
    rintro _ rfl
    refine ⟨fun _ => ?_, fun h => absurd (show true = false from h) (by decide)⟩
    intro K hK
    go_simp
    exact hK _ _ rfl ⟨rfl, Below.refl _ _⟩
  · intro wx hb
    rintro _ rfl
    rintro _ rfl
    refine ⟨fun _ => ?_, fun h => absurd (show true = false from h) (by decide)⟩
    intro K hK
    go_simp
    exact hK _ _ rfl ⟨rfl, Below.refl _ _⟩
  · intro wx hb
    rintro _ rfl
    rintro _ rfl
    intro K hK
    go_simp
    exact hK _ _ rfl ⟨rfl, Below.refl _ _⟩
  · intro wx hb
    rintro _ rfl
    intro K hK
    go_simp
    exact hK _ _ rfl ⟨rfl, Below.refl _ _⟩
  · intro wx hb
    rintro _ rfl
    refine ⟨fun _ => ?_, fun h => absurd (show true = false from h) (by decide)⟩
    intro K hK
    exact wp_load_row 26 (.tmp 13) rfl gc rfl 26 _ (0, 0) _ (Box.below (Bc) hb (Box.lt (Bc))) Try.underlying26 rfl (by kernel_rfl) (hK _ _ rfl ⟨rfl, Below.refl _ _⟩)
  · intro wx hb
    rintro _ rfl
    refine ⟨fun _ => ?_, fun h => absurd (show true = false from h) (by decide)⟩
    intro K hK
    exact wp_load_row 26 (.tmp 7) rfl gs rfl 26 _ (0, 0) _ (Box.below (Bs) hb (Box.lt (Bs))) Try.underlying26 rfl (by kernel_rfl) (hK _ _ rfl ⟨rfl, Below.refl _ _⟩)
  · intro wx hb
    rintro _ rfl
    rintro _ rfl
    rintro _ rfl
    refine ⟨fun _ => ?_, fun h => absurd (show true = false from h) (by decide)⟩
    intro K hK
    go_simp
    exact hK _ _ rfl ⟨rfl, Below.refl _ _⟩
  · intro wx hb
    rintro _ rfl
    rintro _ rfl
    intro K hK
    go_simp
    exact hK _ _ rfl ⟨rfl, Below.refl _ _⟩
  intro w6 B
  have PA := Box.below PA B (Box.lt PA)
  have BW := bkeep BW B
  rintro _ rfl
  rintro _ rfl
  rintro _ rfl
  rintro _ rfl
  rintro _ rfl
  rintro _ rfl
  rintro _ rfl
  rintro _ rfl
  rintro _ rfl
  rintro _ rfl
  rintro _ rfl
  rintro _ rfl
  rintro _ rfl
  rintro _ rfl
  rintro _ rfl
  rintro -
  simp only [Act.put, List.setIfInBounds_toArray, List.set_cons_zero, List.set_cons_succ, List.toList_toArray, List.length_cons, List.length_nil, List.drop_succ_cons, List.drop_zero, List.drop_nil, Nat.zero_add, wpList]
  clear B Bc Bs
  go_upto_region 12 with fail
  refine region_lin0 (.val (fun v _ => v = .agg #[.int .i64 a.n, .int .i64 a.l, .int .i64 a.h, .int .i64 a.t, .int .u64 a.v, .int .u64 a.s]) :: .val (fun v _ => v = .int .i64 i) :: .val (fun v _ => v = .int .i64 j) :: .val (fun v _ => v = .int .i64 (i * j)) :: .val (fun v _ => v = .tuple #[.agg #[.int .i64 0, .int .i64 0, .int .i64 0, .int .i64 0, .int .u64 0, .int .u64 0], .iface 52 (.int .i64 ep)]) :: .val (fun v _ => v = .tuple #[.agg #[.int .i64 0, .int .i64 0, .int .i64 0, .int .i64 0, .int .u64 0, .int .u64 0], .iface 52 (.int .i64 ep)]) :: .val (fun v _ => v = .agg #[.int .i64 0, .int .i64 0, .int .i64 0, .int .i64 0, .int .u64 0, .int .u64 0]) :: .val (fun v _ => v = .iface 52 (.int .i64 ep)) :: .new 26 #[.int .i64 0, .int .i64 0, .int .i64 0, .int .i64 0, .int .u64 0, .int .u64 0] #[.int .i64 0, .int .i64 0, .int .i64 0, .int .i64 0, .int .u64 0, .int .u64 0] 9 :: .put 26 #[.int .i64 0, .int .i64 0, .int .i64 0, .int .i64 0, .int .u64 0, .int .u64 0] #[.int .i64 0, .int .i64 0, .int .i64 0, .int .i64 0, .int .u64 0, .int .u64 0] 15 :: .val (fun v _ => v = .iface 52 (.int .i64 ep)) :: [])
    ([] :: [] :: [] :: [(81, 1), (82, 2)] :: [(80, 0), (83, 3)] :: [(84, 4)] :: [(79, 5)] :: [(79, 5)] :: [] :: [(85, 6)] :: [(86, 7)] :: []) ((0, 0) :: (0, 0) :: (0, 0) :: (0, 0) :: (0, 0) :: (0, 0) :: (0, 0) :: (0, 0) :: (1, 9) :: (2, 15) :: (0, 0) :: []) 116 (by kernel_rfl) rfl rfl (by kernel_rfl) ⟨Stab.pure _ _ _, Stab.pure _ _ _, Stab.pure _ _ _, Stab.pure _ _ _, Stab.pure _ _ _, Stab.pure _ _ _, Stab.pure _ _ _, Stab.pure _ _ _, ⟨rfl, rfl, rfl⟩, Stab.pure _ _ _, trivial⟩ ⟨?_, ?_, ?_, ?_, ?_, ?_, ?_, ?_, ?_, ?_, ?_, trivial⟩ ?_
  · intro wx hb
    intro K hK
    exact wp_load_row 26 (.tmp 3) rfl w.heap.size rfl 26 _ (0, 0) _ (Box.below (PA) hb (Box.lt (PA))) Try.underlying26 rfl (by kernel_rfl) (hK _ _ rfl ⟨rfl, Below.refl _ _⟩)
  · intro wx hb
    intro K hK
    go_simp
    exact hK _ _ rfl ⟨rfl, Below.refl _ _⟩
  · intro wx hb
    intro K hK
    go_simp
    exact hK _ _ rfl ⟨rfl, Below.refl _ _⟩
  · intro wx hb
    rintro _ rfl
    rintro _ rfl
    intro K hK
    have q0 := m0.out; have q1 := m1.out; have wz := IntWalk.i64_in (i * j) ⟨by omega, by omega⟩; clear q0 q1; go_simp; exact hK _ _ rfl ⟨rfl, Below.refl _ _⟩
  · intro wx hb
    rintro _ rfl
    rintro _ rfl
    intro K hK
    go_simp
    (with_reducible refine (HP.out _).mono ?_)
    rintro e wa ⟨rfl, Ba⟩
    exact hK _ _ rfl ⟨rfl, Ba⟩
  · intro wx hb
    rintro _ rfl
    intro K hK
    go_simp
    exact hK _ _ rfl ⟨rfl, Below.refl _ _⟩
  · intro wx hb
    rintro _ rfl
    intro K hK
    go_simp
    exact hK _ _ rfl ⟨rfl, Below.refl _ _⟩
  · intro wx hb
    rintro _ rfl
    intro K hK
    go_simp
    exact hK _ _ rfl ⟨rfl, Below.refl _ _⟩
  · intro wx hb
    intro K hK
    go_simp
    exact hK _ _ rfl ⟨rfl, rfl⟩
  · intro wx hb
    intro g hg hbx
    rintro _ rfl
    intro K hK
    have c0 : wx.cell? ⟨g, 0, none⟩ = some (.int .i64 0) := hbx.cell 0
    have f0 := hbx.free 0
    have c1 : wx.cell? ⟨g, 1, none⟩ = some (.int .i64 0) := hbx.cell 1
    have f1 := hbx.free 1
    have c2 : wx.cell? ⟨g, 2, none⟩ = some (.int .i64 0) := hbx.cell 2
    have f2 := hbx.free 2
    have c3 : wx.cell? ⟨g, 3, none⟩ = some (.int .i64 0) := hbx.cell 3
    have f3 := hbx.free 3
    have c4 : wx.cell? ⟨g, 4, none⟩ = some (.int .u64 0) := hbx.cell 4
    have f4 := hbx.free 4
    have c5 : wx.cell? ⟨g, 5, none⟩ = some (.int .u64 0) := hbx.cell 5
    have f5 := hbx.free 5
    clear hb
    go_simp
    exact hK _ _ rfl ((((((((Stored.start hbx).set 0 _).set 1 _).set 2 _).set 3 _).set 4 _).set 5 _))
  · intro wx hb
    rintro _ rfl
    intro K hK
    go_simp
    exact hK _ _ rfl ⟨rfl, Below.refl _ _⟩
  intro w7 B
  have PA := Box.below PA B (Box.lt PA)
  have BW := bkeep BW B
  rintro _ rfl
  rintro _ rfl
  rintro _ rfl
  rintro _ rfl
  rintro _ rfl
  rintro _ rfl
  rintro _ rfl
  rintro _ rfl
  intro gm hgm Bm
  rintro _ rfl
  rintro -
  simp only [Act.put, List.setIfInBounds_toArray, List.set_cons_zero, List.set_cons_succ, List.toList_toArray, List.length_cons, List.length_nil, List.drop_succ_cons, List.drop_zero, List.drop_nil, Nat.zero_add, wpList]
  clear B
  go_wp2_with fail
  go_ret
  exact ⟨rfl, BW⟩
set_option maxHeartbeats 8000000 in
theorem powers_so (a s p q m : Wt) (i j es ep : Int) (i0 : 0 ≤ i) (i1 : i ≤ 1073741824) (j0 : 0 ≤ j) (j1 : j ≤ 1073741824) (m0 : Hid (0 ≤ i * j)) (m1 : Hid (i * j ≤ 1152921504606846976)) (HS : Hid (CR a (i + j) s .nilIface)) (HI : Hid (CR a i p .nilIface)) (HJ : Hid (CR a j q .nilIface)) (HC : Hid (CW p q s .nilIface)) (HP : Hid (CR a (i * j) m .nilIface)) (HQ : Hid (CR p j m .nilIface)) (w : World) :
    Calls Try.prog 10 #[.agg #[.int .i64 a.n, .int .i64 a.l, .int .i64 a.h, .int .i64 a.t, .int .u64 a.v, .int .u64 a.s], .int .i64 i, .int .i64 j] w fun e w' => e = .returned (.bool true) ∧ Below w.heap.size w w' := by
  have HPA := Lib.hid (Box.new w 26 #[.int .i64 a.n, .int .i64 a.l, .int .i64 a.h, .int .i64 a.t, .int .u64 a.v, .int .u64 a.s])
  have c1 : ¬ i < 0 := by omega
  have c2 : ¬ j < 0 := by omega
  have c3 : ¬ 1073741824 < i := by omega
  have c4 : ¬ 1073741824 < j := by omega
  go_enter Try.func10, Try.ntmps10
  go_wp2_with fail
  (with_reducible refine (alive_any _).mono ?_)
  rintro e w1 ⟨rfl, B1⟩
  have PA := HPA.out.below B1 HPA.out.lt
  have BW := bkeep (balloc (Below.refl w.heap.size w) _) B1
  clear B1
  go_upto_region 5 with fail
  refine region_lin0 (.val (fun v _ => v = .agg #[.int .i64 a.n, .int .i64 a.l, .int .i64 a.h, .int .i64 a.t, .int .u64 a.v, .int .u64 a.s]) :: .val (fun v _ => v = .int .i64 i) :: .val (fun v _ => v = .int .i64 j) :: .val (fun v _ => v = .int .i64 (i + j)) :: .val (fun v _ => v = .tuple #[.agg #[.int .i64 s.n, .int .i64 s.l, .int .i64 s.h, .int .i64 s.t, .int .u64 s.v, .int .u64 s.s], .nilIface]) :: .val (fun v _ => v = .tuple #[.agg #[.int .i64 s.n, .int .i64 s.l, .int .i64 s.h, .int .i64 s.t, .int .u64 s.v, .int .u64 s.s], .nilIface]) :: .val (fun v _ => v = .agg #[.int .i64 s.n, .int .i64 s.l, .int .i64 s.h, .int .i64 s.t, .int .u64 s.v, .int .u64 s.s]) :: .val (fun v _ => v = .nilIface) :: .new 26 #[.int .i64 0, .int .i64 0, .int .i64 0, .int .i64 0, .int .u64 0, .int .u64 0] #[.int .i64 s.n, .int .i64 s.l, .int .i64 s.h, .int .i64 s.t, .int .u64 s.v, .int .u64 s.s] 9 :: .put 26 #[.int .i64 0, .int .i64 0, .int .i64 0, .int .i64 0, .int .u64 0, .int .u64 0] #[.int .i64 s.n, .int .i64 s.l, .int .i64 s.h, .int .i64 s.t, .int .u64 s.v, .int .u64 s.s] 7 :: .val (fun v _ => v = .nilIface) :: [])
    ([] :: [] :: [] :: [(38, 1), (39, 2)] :: [(37, 0), (40, 3)] :: [(41, 4)] :: [(36, 5)] :: [(36, 5)] :: [] :: [(42, 6)] :: [(43, 7)] :: []) ((0, 0) :: (0, 0) :: (0, 0) :: (0, 0) :: (0, 0) :: (0, 0) :: (0, 0) :: (0, 0) :: (1, 9) :: (2, 7) :: (0, 0) :: []) 116 (by kernel_rfl) rfl rfl (by kernel_rfl) ⟨Stab.pure _ _ _, Stab.pure _ _ _, Stab.pure _ _ _, Stab.pure _ _ _, Stab.pure _ _ _, Stab.pure _ _ _, Stab.pure _ _ _, Stab.pure _ _ _, ⟨rfl, rfl, rfl⟩, Stab.pure _ _ _, trivial⟩ ⟨?_, ?_, ?_, ?_, ?_, ?_, ?_, ?_, ?_, ?_, ?_, trivial⟩ ?_
  · intro wx hb
    intro K hK
    exact wp_load_row 26 (.tmp 3) rfl w.heap.size rfl 26 _ (0, 0) _ (Box.below (PA) hb (Box.lt (PA))) Try.underlying26 rfl (by kernel_rfl) (hK _ _ rfl ⟨rfl, Below.refl _ _⟩)
  · intro wx hb
    intro K hK
    go_simp
    exact hK _ _ rfl ⟨rfl, Below.refl _ _⟩
  · intro wx hb
    intro K hK
    go_simp
    exact hK _ _ rfl ⟨rfl, Below.refl _ _⟩
  · intro wx hb
    rintro _ rfl
    rintro _ rfl
    intro K hK
    have wz := IntWalk.i64_in (i + j) ⟨by omega, by omega⟩
    go_simp
    exact hK _ _ rfl ⟨rfl, Below.refl _ _⟩
  · intro wx hb
    rintro _ rfl
    rintro _ rfl
    intro K hK
    go_simp
    (with_reducible refine (HS.out _).mono ?_)
    rintro e wa ⟨rfl, Ba⟩
    exact hK _ _ rfl ⟨rfl, Ba⟩
  · intro wx hb
    rintro _ rfl
    intro K hK
    go_simp
    exact hK _ _ rfl ⟨rfl, Below.refl _ _⟩
  · intro wx hb
    rintro _ rfl
    intro K hK
    go_simp
    exact hK _ _ rfl ⟨rfl, Below.refl _ _⟩
  · intro wx hb
    rintro _ rfl
    intro K hK
    go_simp
    exact hK _ _ rfl ⟨rfl, Below.refl _ _⟩
  · intro wx hb
    intro K hK
    go_simp
    exact hK _ _ rfl ⟨rfl, rfl⟩
  · intro wx hb
    intro g hg hbx
    rintro _ rfl
    intro K hK
    have c0 : wx.cell? ⟨g, 0, none⟩ = some (.int .i64 0) := hbx.cell 0
    have f0 := hbx.free 0
    have c1 : wx.cell? ⟨g, 1, none⟩ = some (.int .i64 0) := hbx.cell 1
    have f1 := hbx.free 1
    have c2 : wx.cell? ⟨g, 2, none⟩ = some (.int .i64 0) := hbx.cell 2
    have f2 := hbx.free 2
    have c3 : wx.cell? ⟨g, 3, none⟩ = some (.int .i64 0) := hbx.cell 3
    have f3 := hbx.free 3
    have c4 : wx.cell? ⟨g, 4, none⟩ = some (.int .u64 0) := hbx.cell 4
    have f4 := hbx.free 4
    have c5 : wx.cell? ⟨g, 5, none⟩ = some (.int .u64 0) := hbx.cell 5
    have f5 := hbx.free 5
    clear hb
    go_simp
    exact hK _ _ rfl ((((((((Stored.start hbx).set 0 _).set 1 _).set 2 _).set 3 _).set 4 _).set 5 _))
  · intro wx hb
    rintro _ rfl
    intro K hK
    go_simp
    exact hK _ _ rfl ⟨rfl, Below.refl _ _⟩
  intro w2 B
  have PA := Box.below PA B (Box.lt PA)
  have BW := bkeep BW B
  rintro _ rfl
  rintro _ rfl
  rintro _ rfl
  rintro _ rfl
  rintro _ rfl
  rintro _ rfl
  rintro _ rfl
  rintro _ rfl
  intro gs hgs Bs
  rintro _ rfl
  rintro -
  simp only [Act.put, List.setIfInBounds_toArray, List.set_cons_zero, List.set_cons_succ, List.toList_toArray, List.length_cons, List.length_nil, List.drop_succ_cons, List.drop_zero, List.drop_nil, Nat.zero_add, wpList]
  clear B
  go_upto_region 7 with fail
  refine region_lin0 (.val (fun v _ => v = .agg #[.int .i64 a.n, .int .i64 a.l, .int .i64 a.h, .int .i64 a.t, .int .u64 a.v, .int .u64 a.s]) :: .val (fun v _ => v = .int .i64 i) :: .val (fun v _ => v = .tuple #[.agg #[.int .i64 p.n, .int .i64 p.l, .int .i64 p.h, .int .i64 p.t, .int .u64 p.v, .int .u64 p.s], .nilIface]) :: .val (fun v _ => v = .tuple #[.agg #[.int .i64 p.n, .int .i64 p.l, .int .i64 p.h, .int .i64 p.t, .int .u64 p.v, .int .u64 p.s], .nilIface]) :: .val (fun v _ => v = .agg #[.int .i64 p.n, .int .i64 p.l, .int .i64 p.h, .int .i64 p.t, .int .u64 p.v, .int .u64 p.s]) :: .val (fun v _ => v = .nilIface) :: .new 26 #[.int .i64 0, .int .i64 0, .int .i64 0, .int .i64 0, .int .u64 0, .int .u64 0] #[.int .i64 p.n, .int .i64 p.l, .int .i64 p.h, .int .i64 p.t, .int .u64 p.v, .int .u64 p.s] 7 :: .put 26 #[.int .i64 0, .int .i64 0, .int .i64 0, .int .i64 0, .int .u64 0, .int .u64 0] #[.int .i64 p.n, .int .i64 p.l, .int .i64 p.h, .int .i64 p.t, .int .u64 p.v, .int .u64 p.s] 9 :: .val (fun v _ => v = .nilIface) :: [])
    ([] :: [] :: [(47, 0), (48, 1)] :: [(49, 2)] :: [(46, 3)] :: [(46, 3)] :: [] :: [(50, 4)] :: [(51, 5)] :: []) ((0, 0) :: (0, 0) :: (0, 0) :: (0, 0) :: (0, 0) :: (0, 0) :: (1, 7) :: (2, 9) :: (0, 0) :: []) 116 (by kernel_rfl) rfl rfl (by kernel_rfl) ⟨Stab.pure _ _ _, Stab.pure _ _ _, Stab.pure _ _ _, Stab.pure _ _ _, Stab.pure _ _ _, Stab.pure _ _ _, ⟨rfl, rfl, rfl⟩, Stab.pure _ _ _, trivial⟩ ⟨?_, ?_, ?_, ?_, ?_, ?_, ?_, ?_, ?_, trivial⟩ ?_
  · intro wx hb
    intro K hK
    exact wp_load_row 26 (.tmp 3) rfl w.heap.size rfl 26 _ (0, 0) _ (Box.below (PA) hb (Box.lt (PA))) Try.underlying26 rfl (by kernel_rfl) (hK _ _ rfl ⟨rfl, Below.refl _ _⟩)
  · intro wx hb
    intro K hK
    go_simp
    exact hK _ _ rfl ⟨rfl, Below.refl _ _⟩
  · intro wx hb
    rintro _ rfl
    rintro _ rfl
    intro K hK
    go_simp
    (with_reducible refine (HI.out _).mono ?_)
    rintro e wa ⟨rfl, Ba⟩
    exact hK _ _ rfl ⟨rfl, Ba⟩
  · intro wx hb
    rintro _ rfl
    intro K hK
    go_simp
    exact hK _ _ rfl ⟨rfl, Below.refl _ _⟩
  · intro wx hb
    rintro _ rfl
    intro K hK
    go_simp
    exact hK _ _ rfl ⟨rfl, Below.refl _ _⟩
  · intro wx hb
    rintro _ rfl
    intro K hK
    go_simp
    exact hK _ _ rfl ⟨rfl, Below.refl _ _⟩
  · intro wx hb
    intro K hK
    go_simp
    exact hK _ _ rfl ⟨rfl, rfl⟩
  · intro wx hb
    intro g hg hbx
    rintro _ rfl
    intro K hK
    have c0 : wx.cell? ⟨g, 0, none⟩ = some (.int .i64 0) := hbx.cell 0
    have f0 := hbx.free 0
    have c1 : wx.cell? ⟨g, 1, none⟩ = some (.int .i64 0) := hbx.cell 1
    have f1 := hbx.free 1
    have c2 : wx.cell? ⟨g, 2, none⟩ = some (.int .i64 0) := hbx.cell 2
    have f2 := hbx.free 2
    have c3 : wx.cell? ⟨g, 3, none⟩ = some (.int .i64 0) := hbx.cell 3
    have f3 := hbx.free 3
    have c4 : wx.cell? ⟨g, 4, none⟩ = some (.int .u64 0) := hbx.cell 4
    have f4 := hbx.free 4
    have c5 : wx.cell? ⟨g, 5, none⟩ = some (.int .u64 0) := hbx.cell 5
    have f5 := hbx.free 5
    clear hb
    go_simp
    exact hK _ _ rfl ((((((((Stored.start hbx).set 0 _).set 1 _).set 2 _).set 3 _).set 4 _).set 5 _))
  · intro wx hb
    rintro _ rfl
    intro K hK
    go_simp
    exact hK _ _ rfl ⟨rfl, Below.refl _ _⟩
  intro w3 B
  have PA := Box.below PA B (Box.lt PA)
  have Bs := Box.below Bs B (Box.lt Bs)
  have BW := bkeep BW B
  rintro _ rfl
  rintro _ rfl
  rintro _ rfl
  rintro _ rfl
  rintro _ rfl
  rintro _ rfl
  intro gp hgp Bp
  rintro _ rfl
  rintro -
  simp only [Act.put, List.setIfInBounds_toArray, List.set_cons_zero, List.set_cons_succ, List.toList_toArray, List.length_cons, List.length_nil, List.drop_succ_cons, List.drop_zero, List.drop_nil, Nat.zero_add, wpList]
  clear B
  go_upto_region 8 with fail
  refine region_lin0 (.val (fun v _ => v = .agg #[.int .i64 a.n, .int .i64 a.l, .int .i64 a.h, .int .i64 a.t, .int .u64 a.v, .int .u64 a.s]) :: .val (fun v _ => v = .int .i64 j) :: .val (fun v _ => v = .tuple #[.agg #[.int .i64 q.n, .int .i64 q.l, .int .i64 q.h, .int .i64 q.t, .int .u64 q.v, .int .u64 q.s], .nilIface]) :: .val (fun v _ => v = .tuple #[.agg #[.int .i64 q.n, .int .i64 q.l, .int .i64 q.h, .int .i64 q.t, .int .u64 q.v, .int .u64 q.s], .nilIface]) :: .val (fun v _ => v = .agg #[.int .i64 q.n, .int .i64 q.l, .int .i64 q.h, .int .i64 q.t, .int .u64 q.v, .int .u64 q.s]) :: .val (fun v _ => v = .nilIface) :: .new 26 #[.int .i64 0, .int .i64 0, .int .i64 0, .int .i64 0, .int .u64 0, .int .u64 0] #[.int .i64 q.n, .int .i64 q.l, .int .i64 q.h, .int .i64 q.t, .int .u64 q.v, .int .u64 q.s] 7 :: .put 26 #[.int .i64 0, .int .i64 0, .int .i64 0, .int .i64 0, .int .u64 0, .int .u64 0] #[.int .i64 q.n, .int .i64 q.l, .int .i64 q.h, .int .i64 q.t, .int .u64 q.v, .int .u64 q.s] 11 :: .val (fun v _ => v = .nilIface) :: [])
    ([] :: [] :: [(53, 0), (54, 1)] :: [(55, 2)] :: [(52, 3)] :: [(52, 3)] :: [] :: [(56, 4)] :: [(57, 5)] :: []) ((0, 0) :: (0, 0) :: (0, 0) :: (0, 0) :: (0, 0) :: (0, 0) :: (1, 7) :: (2, 11) :: (0, 0) :: []) 116 (by kernel_rfl) rfl rfl (by kernel_rfl) ⟨Stab.pure _ _ _, Stab.pure _ _ _, Stab.pure _ _ _, Stab.pure _ _ _, Stab.pure _ _ _, Stab.pure _ _ _, ⟨rfl, rfl, rfl⟩, Stab.pure _ _ _, trivial⟩ ⟨?_, ?_, ?_, ?_, ?_, ?_, ?_, ?_, ?_, trivial⟩ ?_
  · intro wx hb
    intro K hK
    exact wp_load_row 26 (.tmp 3) rfl w.heap.size rfl 26 _ (0, 0) _ (Box.below (PA) hb (Box.lt (PA))) Try.underlying26 rfl (by kernel_rfl) (hK _ _ rfl ⟨rfl, Below.refl _ _⟩)
  · intro wx hb
    intro K hK
    go_simp
    exact hK _ _ rfl ⟨rfl, Below.refl _ _⟩
  · intro wx hb
    rintro _ rfl
    rintro _ rfl
    intro K hK
    go_simp
    (with_reducible refine (HJ.out _).mono ?_)
    rintro e wa ⟨rfl, Ba⟩
    exact hK _ _ rfl ⟨rfl, Ba⟩
  · intro wx hb
    rintro _ rfl
    intro K hK
    go_simp
    exact hK _ _ rfl ⟨rfl, Below.refl _ _⟩
  · intro wx hb
    rintro _ rfl
    intro K hK
    go_simp
    exact hK _ _ rfl ⟨rfl, Below.refl _ _⟩
  · intro wx hb
    rintro _ rfl
    intro K hK
    go_simp
    exact hK _ _ rfl ⟨rfl, Below.refl _ _⟩
  · intro wx hb
    intro K hK
    go_simp
    exact hK _ _ rfl ⟨rfl, rfl⟩
  · intro wx hb
    intro g hg hbx
    rintro _ rfl
    intro K hK
    have c0 : wx.cell? ⟨g, 0, none⟩ = some (.int .i64 0) := hbx.cell 0
    have f0 := hbx.free 0
    have c1 : wx.cell? ⟨g, 1, none⟩ = some (.int .i64 0) := hbx.cell 1
    have f1 := hbx.free 1
    have c2 : wx.cell? ⟨g, 2, none⟩ = some (.int .i64 0) := hbx.cell 2
    have f2 := hbx.free 2
    have c3 : wx.cell? ⟨g, 3, none⟩ = some (.int .i64 0) := hbx.cell 3
    have f3 := hbx.free 3
    have c4 : wx.cell? ⟨g, 4, none⟩ = some (.int .u64 0) := hbx.cell 4
    have f4 := hbx.free 4
    have c5 : wx.cell? ⟨g, 5, none⟩ = some (.int .u64 0) := hbx.cell 5
    have f5 := hbx.free 5
    clear hb
    go_simp
    exact hK _ _ rfl ((((((((Stored.start hbx).set 0 _).set 1 _).set 2 _).set 3 _).set 4 _).set 5 _))
  · intro wx hb
    rintro _ rfl
    intro K hK
    go_simp
    exact hK _ _ rfl ⟨rfl, Below.refl _ _⟩
  intro w4 B
  have PA := Box.below PA B (Box.lt PA)
  have Bs := Box.below Bs B (Box.lt Bs)
  have Bp := Box.below Bp B (Box.lt Bp)
  have BW := bkeep BW B
  rintro _ rfl
  rintro _ rfl
  rintro _ rfl
  rintro _ rfl
  rintro _ rfl
  rintro _ rfl
  intro gq hgq Bq
  rintro _ rfl
  rintro -
  simp only [Act.put, List.setIfInBounds_toArray, List.set_cons_zero, List.set_cons_succ, List.toList_toArray, List.length_cons, List.length_nil, List.drop_succ_cons, List.drop_zero, List.drop_nil, Nat.zero_add, wpList]
  clear B
  go_upto_region 9 with fail
  refine region_lin0 (.val (fun v _ => v = .agg #[.int .i64 p.n, .int .i64 p.l, .int .i64 p.h, .int .i64 p.t, .int .u64 p.v, .int .u64 p.s]) :: .val (fun v _ => v = .agg #[.int .i64 q.n, .int .i64 q.l, .int .i64 q.h, .int .i64 q.t, .int .u64 q.v, .int .u64 q.s]) :: .val (fun v _ => v = .tuple #[.agg #[.int .i64 s.n, .int .i64 s.l, .int .i64 s.h, .int .i64 s.t, .int .u64 s.v, .int .u64 s.s], .nilIface]) :: .val (fun v _ => v = .tuple #[.agg #[.int .i64 s.n, .int .i64 s.l, .int .i64 s.h, .int .i64 s.t, .int .u64 s.v, .int .u64 s.s], .nilIface]) :: .val (fun v _ => v = .agg #[.int .i64 s.n, .int .i64 s.l, .int .i64 s.h, .int .i64 s.t, .int .u64 s.v, .int .u64 s.s]) :: .val (fun v _ => v = .nilIface) :: .new 26 #[.int .i64 0, .int .i64 0, .int .i64 0, .int .i64 0, .int .u64 0, .int .u64 0] #[.int .i64 s.n, .int .i64 s.l, .int .i64 s.h, .int .i64 s.t, .int .u64 s.v, .int .u64 s.s] 7 :: .put 26 #[.int .i64 0, .int .i64 0, .int .i64 0, .int .i64 0, .int .u64 0, .int .u64 0] #[.int .i64 s.n, .int .i64 s.l, .int .i64 s.h, .int .i64 s.t, .int .u64 s.v, .int .u64 s.s] 13 :: .val (fun v _ => v = .nilIface) :: [])
    ([] :: [] :: [(59, 0), (60, 1)] :: [(61, 2)] :: [(58, 3)] :: [(58, 3)] :: [] :: [(62, 4)] :: [(63, 5)] :: []) ((0, 0) :: (0, 0) :: (0, 0) :: (0, 0) :: (0, 0) :: (0, 0) :: (1, 7) :: (2, 13) :: (0, 0) :: []) 116 (by kernel_rfl) rfl rfl (by kernel_rfl) ⟨Stab.pure _ _ _, Stab.pure _ _ _, Stab.pure _ _ _, Stab.pure _ _ _, Stab.pure _ _ _, Stab.pure _ _ _, ⟨rfl, rfl, rfl⟩, Stab.pure _ _ _, trivial⟩ ⟨?_, ?_, ?_, ?_, ?_, ?_, ?_, ?_, ?_, trivial⟩ ?_
  · intro wx hb
    intro K hK
    exact wp_load_row 26 (.tmp 9) rfl gp rfl 26 _ (0, 0) _ (Box.below (Bp) hb (Box.lt (Bp))) Try.underlying26 rfl (by kernel_rfl) (hK _ _ rfl ⟨rfl, Below.refl _ _⟩)
  · intro wx hb
    intro K hK
    exact wp_load_row 26 (.tmp 11) rfl gq rfl 26 _ (0, 0) _ (Box.below (Bq) hb (Box.lt (Bq))) Try.underlying26 rfl (by kernel_rfl) (hK _ _ rfl ⟨rfl, Below.refl _ _⟩)
  · intro wx hb
    rintro _ rfl
    rintro _ rfl
    intro K hK
    go_simp
    (with_reducible refine (HC.out _).mono ?_)
    rintro e wa ⟨rfl, Ba⟩
    exact hK _ _ rfl ⟨rfl, Ba⟩
  · intro wx hb
    rintro _ rfl
    intro K hK
    go_simp
    exact hK _ _ rfl ⟨rfl, Below.refl _ _⟩
  · intro wx hb
    rintro _ rfl
    intro K hK
    go_simp
    exact hK _ _ rfl ⟨rfl, Below.refl _ _⟩
  · intro wx hb
    rintro _ rfl
    intro K hK
    go_simp
    exact hK _ _ rfl ⟨rfl, Below.refl _ _⟩
  · intro wx hb
    intro K hK
    go_simp
    exact hK _ _ rfl ⟨rfl, rfl⟩
  · intro wx hb
    intro g hg hbx
    rintro _ rfl
    intro K hK
    have c0 : wx.cell? ⟨g, 0, none⟩ = some (.int .i64 0) := hbx.cell 0
    have f0 := hbx.free 0
    have c1 : wx.cell? ⟨g, 1, none⟩ = some (.int .i64 0) := hbx.cell 1
    have f1 := hbx.free 1
    have c2 : wx.cell? ⟨g, 2, none⟩ = some (.int .i64 0) := hbx.cell 2
    have f2 := hbx.free 2
    have c3 : wx.cell? ⟨g, 3, none⟩ = some (.int .i64 0) := hbx.cell 3
    have f3 := hbx.free 3
    have c4 : wx.cell? ⟨g, 4, none⟩ = some (.int .u64 0) := hbx.cell 4
    have f4 := hbx.free 4
    have c5 : wx.cell? ⟨g, 5, none⟩ = some (.int .u64 0) := hbx.cell 5
    have f5 := hbx.free 5
    clear hb
    go_simp
    exact hK _ _ rfl ((((((((Stored.start hbx).set 0 _).set 1 _).set 2 _).set 3 _).set 4 _).set 5 _))
  · intro wx hb
    rintro _ rfl
    intro K hK
    go_simp
    exact hK _ _ rfl ⟨rfl, Below.refl _ _⟩
  intro w5 B
  have PA := Box.below PA B (Box.lt PA)
  have Bs := Box.below Bs B (Box.lt Bs)
  have BW := bkeep BW B
  rintro _ rfl
  rintro _ rfl
  rintro _ rfl
  rintro _ rfl
  rintro _ rfl
  rintro _ rfl
  intro gc hgc Bc
  rintro _ rfl
  rintro -
  simp only [Act.put, List.setIfInBounds_toArray, List.set_cons_zero, List.set_cons_succ, List.toList_toArray, List.length_cons, List.length_nil, List.drop_succ_cons, List.drop_zero, List.drop_nil, Nat.zero_add, wpList]
  clear B Bp Bq
  go_upto_region 10 with fail
  refine region_lin0 (.val (fun v _ => v = .nilIface) :: .val (fun v _ => v = .bool false) :: .val (fun v _ => v = .bool false) :: .val (fun v _ => v = .nilIface) :: .val (fun v _ => v = .bool false) :: .val (fun v _ => v = .bool false) :: .val (fun v _ => v = .bool false) :: .val (fun v _ => v = .nilIface) :: .val (fun v _ => v = .bool false) :: .val (fun v _ => v = .bool false) :: .val (fun v _ => v = .bool false) :: .val (fun v _ => v = .agg #[.int .i64 s.n, .int .i64 s.l, .int .i64 s.h, .int .i64 s.t, .int .u64 s.v, .int .u64 s.s]) :: .val (fun v _ => v = .agg #[.int .i64 s.n, .int .i64 s.l, .int .i64 s.h, .int .i64 s.t, .int .u64 s.v, .int .u64 s.s]) :: .val (fun v _ => v = .bool false) :: .val (fun v _ => v = .bool false) :: [])
    ([] :: [(64, 0)] :: [(65, 1)] :: [(66, 2)] :: [(67, 3), (66, 2)] :: [(66, 2), (68, 4)] :: [(69, 5)] :: [(70, 6)] :: [(71, 7), (70, 6)] :: [(70, 6), (72, 8)] :: [(73, 9)] :: [(74, 10)] :: [(74, 10)] :: [(75, 11), (76, 12), (74, 10)] :: [(74, 10), (77, 13)] :: []) ((0, 0) :: (0, 0) :: (0, 0) :: (0, 0) :: (0, 0) :: (0, 0) :: (0, 0) :: (0, 0) :: (0, 0) :: (0, 0) :: (0, 0) :: (0, 0) :: (0, 0) :: (0, 0) :: (0, 0) :: []) 116 (by kernel_rfl) rfl rfl (by kernel_rfl) ⟨Stab.pure _ _ _, Stab.pure _ _ _, Stab.pure _ _ _, Stab.pure _ _ _, Stab.pure _ _ _, Stab.pure _ _ _, Stab.pure _ _ _, Stab.pure _ _ _, Stab.pure _ _ _, Stab.pure _ _ _, Stab.pure _ _ _, Stab.pure _ _ _, Stab.pure _ _ _, Stab.pure _ _ _, Stab.pure _ _ _, trivial⟩ ⟨?_, ?_, ?_, ?_, ?_, ?_, ?_, ?_, ?_, ?_, ?_, ?_, ?_, ?_, ?_, trivial⟩ ?_
  · intro wx hb
    intro K hK
    go_simp
    exact hK _ _ rfl ⟨rfl, Below.refl _ _⟩
  · intro wx hb
    rintro _ rfl
    intro K hK
    go_simp
    exact hK _ _ rfl ⟨rfl, Below.refl _ _⟩
  · intro wx hb
    rintro _ rfl
    intro K hK
    go_simp
    exact hK _ _ rfl ⟨rfl, Below.refl _ _⟩
  · intro wx hb
    rintro _ rfl
    refine ⟨fun _ => ?_, fun h => absurd (show true = false from h) (by decide)⟩
    intro K hK
    go_simp
    exact hK _ _ rfl ⟨rfl, Below.refl _ _⟩
  · intro wx hb
    rintro _ rfl
    rintro _ rfl
    refine ⟨fun _ => ?_, fun h => absurd (show true = false from h) (by decide)⟩
    intro K hK
    go_simp
    exact hK _ _ rfl ⟨rfl, Below.refl _ _⟩
  · intro wx hb
    rintro _ rfl
    rintro _ rfl
    intro K hK
    go_simp
    exact hK _ _ rfl ⟨rfl, Below.refl _ _⟩
  · intro wx hb
    rintro _ rfl
    intro K hK
    go_simp
    exact hK _ _ rfl ⟨rfl, Below.refl _ _⟩
  · intro wx hb
    rintro _ rfl
    refine ⟨fun _ => ?_, fun h => absurd (show true = false from h) (by decide)⟩
    intro K hK
    go_simp
    exact hK _ _ rfl ⟨rfl, Below.refl _ _⟩
  · intro wx hb
    rintro _ rfl
    rintro _ rfl
    refine ⟨fun _ => ?_, fun h => absurd (show true = false from h) (by decide)⟩
    intro K hK
    go_simp
    exact hK _ _ rfl ⟨rfl, Below.refl _ _⟩
  · intro wx hb
    rintro _ rfl
    rintro _ rfl
    intro K hK
    go_simp
    exact hK _ _ rfl ⟨rfl, Below.refl _ _⟩
  · intro wx hb
    rintro _ rfl
    intro K hK
    go_simp
    exact hK _ _ rfl ⟨rfl, Below.refl _ _⟩
  · intro wx hb
    rintro _ rfl
    refine ⟨fun _ => ?_, fun h => absurd (show true = false from h) (by decide)⟩
    intro K hK
    exact wp_load_row 26 (.tmp 13) rfl gc rfl 26 _ (0, 0) _ (Box.below (Bc) hb (Box.lt (Bc))) Try.underlying26 rfl (by kernel_rfl) (hK _ _ rfl ⟨rfl, Below.refl _ _⟩)
  · intro wx hb
    rintro _ rfl
    refine ⟨fun _ => ?_, fun h => absurd (show true = false from h) (by decide)⟩
    intro K hK
    exact wp_load_row 26 (.tmp 7) rfl gs rfl 26 _ (0, 0) _ (Box.below (Bs) hb (Box.lt (Bs))) Try.underlying26 rfl (by kernel_rfl) (hK _ _ rfl ⟨rfl, Below.refl _ _⟩)
  · intro wx hb
    rintro _ rfl
    rintro _ rfl
    rintro _ rfl
    refine ⟨fun _ => ?_, fun h => absurd (show true = false from h) (by decide)⟩
    intro K hK
    go_simp
    exact hK _ _ rfl ⟨rfl, Below.refl _ _⟩
  · intro wx hb
    rintro _ rfl
    rintro _ rfl
    intro K hK
    go_simp
    exact hK _ _ rfl ⟨rfl, Below.refl _ _⟩
  intro w6 B
  have PA := Box.below PA B (Box.lt PA)
  have BW := bkeep BW B
  rintro _ rfl
  rintro _ rfl
  rintro _ rfl
  rintro _ rfl
  rintro _ rfl
  rintro _ rfl
  rintro _ rfl
  rintro _ rfl
  rintro _ rfl
  rintro _ rfl
  rintro _ rfl
  rintro _ rfl
  rintro _ rfl
  rintro _ rfl
  rintro _ rfl
  rintro -
  simp only [Act.put, List.setIfInBounds_toArray, List.set_cons_zero, List.set_cons_succ, List.toList_toArray, List.length_cons, List.length_nil, List.drop_succ_cons, List.drop_zero, List.drop_nil, Nat.zero_add, wpList]
  clear B Bc Bs
  go_upto_region 12 with fail
  refine region_lin0 (.val (fun v _ => v = .agg #[.int .i64 a.n, .int .i64 a.l, .int .i64 a.h, .int .i64 a.t, .int .u64 a.v, .int .u64 a.s]) :: .val (fun v _ => v = .int .i64 i) :: .val (fun v _ => v = .int .i64 j) :: .val (fun v _ => v = .int .i64 (i * j)) :: .val (fun v _ => v = .tuple #[.agg #[.int .i64 m.n, .int .i64 m.l, .int .i64 m.h, .int .i64 m.t, .int .u64 m.v, .int .u64 m.s], .nilIface]) :: .val (fun v _ => v = .tuple #[.agg #[.int .i64 m.n, .int .i64 m.l, .int .i64 m.h, .int .i64 m.t, .int .u64 m.v, .int .u64 m.s], .nilIface]) :: .val (fun v _ => v = .agg #[.int .i64 m.n, .int .i64 m.l, .int .i64 m.h, .int .i64 m.t, .int .u64 m.v, .int .u64 m.s]) :: .val (fun v _ => v = .nilIface) :: .new 26 #[.int .i64 0, .int .i64 0, .int .i64 0, .int .i64 0, .int .u64 0, .int .u64 0] #[.int .i64 m.n, .int .i64 m.l, .int .i64 m.h, .int .i64 m.t, .int .u64 m.v, .int .u64 m.s] 9 :: .put 26 #[.int .i64 0, .int .i64 0, .int .i64 0, .int .i64 0, .int .u64 0, .int .u64 0] #[.int .i64 m.n, .int .i64 m.l, .int .i64 m.h, .int .i64 m.t, .int .u64 m.v, .int .u64 m.s] 15 :: .val (fun v _ => v = .nilIface) :: [])
    ([] :: [] :: [] :: [(81, 1), (82, 2)] :: [(80, 0), (83, 3)] :: [(84, 4)] :: [(79, 5)] :: [(79, 5)] :: [] :: [(85, 6)] :: [(86, 7)] :: []) ((0, 0) :: (0, 0) :: (0, 0) :: (0, 0) :: (0, 0) :: (0, 0) :: (0, 0) :: (0, 0) :: (1, 9) :: (2, 15) :: (0, 0) :: []) 116 (by kernel_rfl) rfl rfl (by kernel_rfl) ⟨Stab.pure _ _ _, Stab.pure _ _ _, Stab.pure _ _ _, Stab.pure _ _ _, Stab.pure _ _ _, Stab.pure _ _ _, Stab.pure _ _ _, Stab.pure _ _ _, ⟨rfl, rfl, rfl⟩, Stab.pure _ _ _, trivial⟩ ⟨?_, ?_, ?_, ?_, ?_, ?_, ?_, ?_, ?_, ?_, ?_, trivial⟩ ?_
  · intro wx hb
    intro K hK
    exact wp_load_row 26 (.tmp 3) rfl w.heap.size rfl 26 _ (0, 0) _ (Box.below (PA) hb (Box.lt (PA))) Try.underlying26 rfl (by kernel_rfl) (hK _ _ rfl ⟨rfl, Below.refl _ _⟩)
  · intro wx hb
    intro K hK
    go_simp
    exact hK _ _ rfl ⟨rfl, Below.refl _ _⟩
  · intro wx hb
    intro K hK
    go_simp
    exact hK _ _ rfl ⟨rfl, Below.refl _ _⟩
  · intro wx hb
    rintro _ rfl
    rintro _ rfl
    intro K hK
    have q0 := m0.out; have q1 := m1.out; have wz := IntWalk.i64_in (i * j) ⟨by omega, by omega⟩; clear q0 q1; go_simp; exact hK _ _ rfl ⟨rfl, Below.refl _ _⟩
  · intro wx hb
    rintro _ rfl
    rintro _ rfl
    intro K hK
    go_simp
    (with_reducible refine (HP.out _).mono ?_)
    rintro e wa ⟨rfl, Ba⟩
    exact hK _ _ rfl ⟨rfl, Ba⟩
  · intro wx hb
    rintro _ rfl
    intro K hK
    go_simp
    exact hK _ _ rfl ⟨rfl, Below.refl _ _⟩
  · intro wx hb
    rintro _ rfl
    intro K hK
    go_simp
    exact hK _ _ rfl ⟨rfl, Below.refl _ _⟩
  · intro wx hb
    rintro _ rfl
    intro K hK
    go_simp
    exact hK _ _ rfl ⟨rfl, Below.refl _ _⟩
  · intro wx hb
    intro K hK
    go_simp
    exact hK _ _ rfl ⟨rfl, rfl⟩
  · intro wx hb
    intro g hg hbx
    rintro _ rfl
    intro K hK
    have c0 : wx.cell? ⟨g, 0, none⟩ = some (.int .i64 0) := hbx.cell 0
    have f0 := hbx.free 0
    have c1 : wx.cell? ⟨g, 1, none⟩ = some (.int .i64 0) := hbx.cell 1
    have f1 := hbx.free 1
    have c2 : wx.cell? ⟨g, 2, none⟩ = some (.int .i64 0) := hbx.cell 2
    have f2 := hbx.free 2
    have c3 : wx.cell? ⟨g, 3, none⟩ = some (.int .i64 0) := hbx.cell 3
    have f3 := hbx.free 3
    have c4 : wx.cell? ⟨g, 4, none⟩ = some (.int .u64 0) := hbx.cell 4
    have f4 := hbx.free 4
    have c5 : wx.cell? ⟨g, 5, none⟩ = some (.int .u64 0) := hbx.cell 5
    have f5 := hbx.free 5
    clear hb
    go_simp
    exact hK _ _ rfl ((((((((Stored.start hbx).set 0 _).set 1 _).set 2 _).set 3 _).set 4 _).set 5 _))
  · intro wx hb
    rintro _ rfl
    intro K hK
    go_simp
    exact hK _ _ rfl ⟨rfl, Below.refl _ _⟩
  intro w7 B
  have PA := Box.below PA B (Box.lt PA)
  have BW := bkeep BW B
  rintro _ rfl
  rintro _ rfl
  rintro _ rfl
  rintro _ rfl
  rintro _ rfl
  rintro _ rfl
  rintro _ rfl
  rintro _ rfl
  intro gm hgm Bm
  rintro _ rfl
  rintro -
  simp only [Act.put, List.setIfInBounds_toArray, List.set_cons_zero, List.set_cons_succ, List.toList_toArray, List.length_cons, List.length_nil, List.drop_succ_cons, List.drop_zero, List.drop_nil, Nat.zero_add, wpList]
  clear B
  go_upto_region 15 with fail
  refine region_lin0 (.val (fun v _ => v = .agg #[.int .i64 a.n, .int .i64 a.l, .int .i64 a.h, .int .i64 a.t, .int .u64 a.v, .int .u64 a.s]) :: .val (fun v _ => v = .int .i64 i) :: .val (fun v _ => v = .tuple #[.agg #[.int .i64 p.n, .int .i64 p.l, .int .i64 p.h, .int .i64 p.t, .int .u64 p.v, .int .u64 p.s], .nilIface]) :: .val (fun v _ => v = .tuple #[.agg #[.int .i64 p.n, .int .i64 p.l, .int .i64 p.h, .int .i64 p.t, .int .u64 p.v, .int .u64 p.s], .nilIface]) :: .val (fun v _ => v = .agg #[.int .i64 p.n, .int .i64 p.l, .int .i64 p.h, .int .i64 p.t, .int .u64 p.v, .int .u64 p.s]) :: .val (fun v _ => v = .nilIface) :: .new 26 #[.int .i64 0, .int .i64 0, .int .i64 0, .int .i64 0, .int .u64 0, .int .u64 0] #[.int .i64 p.n, .int .i64 p.l, .int .i64 p.h, .int .i64 p.t, .int .u64 p.v, .int .u64 p.s] 7 :: .put 26 #[.int .i64 0, .int .i64 0, .int .i64 0, .int .i64 0, .int .u64 0, .int .u64 0] #[.int .i64 p.n, .int .i64 p.l, .int .i64 p.h, .int .i64 p.t, .int .u64 p.v, .int .u64 p.s] 16 :: .val (fun v _ => v = .nilIface) :: [])
    ([] :: [] :: [(90, 0), (91, 1)] :: [(92, 2)] :: [(89, 3)] :: [(89, 3)] :: [] :: [(93, 4)] :: [(94, 5)] :: []) ((0, 0) :: (0, 0) :: (0, 0) :: (0, 0) :: (0, 0) :: (0, 0) :: (1, 7) :: (2, 16) :: (0, 0) :: []) 116 (by kernel_rfl) rfl rfl (by kernel_rfl) ⟨Stab.pure _ _ _, Stab.pure _ _ _, Stab.pure _ _ _, Stab.pure _ _ _, Stab.pure _ _ _, Stab.pure _ _ _, ⟨rfl, rfl, rfl⟩, Stab.pure _ _ _, trivial⟩ ⟨?_, ?_, ?_, ?_, ?_, ?_, ?_, ?_, ?_, trivial⟩ ?_
  · intro wx hb
    intro K hK
    exact wp_load_row 26 (.tmp 3) rfl w.heap.size rfl 26 _ (0, 0) _ (Box.below (PA) hb (Box.lt (PA))) Try.underlying26 rfl (by kernel_rfl) (hK _ _ rfl ⟨rfl, Below.refl _ _⟩)
  · intro wx hb
    intro K hK
    go_simp
    exact hK _ _ rfl ⟨rfl, Below.refl _ _⟩
  · intro wx hb
    rintro _ rfl
    rintro _ rfl
    intro K hK
    go_simp
    (with_reducible refine (HI.out _).mono ?_)
    rintro e wa ⟨rfl, Ba⟩
    exact hK _ _ rfl ⟨rfl, Ba⟩
  · intro wx hb
    rintro _ rfl
    intro K hK
    go_simp
    exact hK _ _ rfl ⟨rfl, Below.refl _ _⟩
  · intro wx hb
    rintro _ rfl
    intro K hK
    go_simp
    exact hK _ _ rfl ⟨rfl, Below.refl _ _⟩
  · intro wx hb
    rintro _ rfl
    intro K hK
    go_simp
    exact hK _ _ rfl ⟨rfl, Below.refl _ _⟩
  · intro wx hb
    intro K hK
    go_simp
    exact hK _ _ rfl ⟨rfl, rfl⟩
  · intro wx hb
    intro g hg hbx
    rintro _ rfl
    intro K hK
    have c0 : wx.cell? ⟨g, 0, none⟩ = some (.int .i64 0) := hbx.cell 0
    have f0 := hbx.free 0
    have c1 : wx.cell? ⟨g, 1, none⟩ = some (.int .i64 0) := hbx.cell 1
    have f1 := hbx.free 1
    have c2 : wx.cell? ⟨g, 2, none⟩ = some (.int .i64 0) := hbx.cell 2
    have f2 := hbx.free 2
    have c3 : wx.cell? ⟨g, 3, none⟩ = some (.int .i64 0) := hbx.cell 3
    have f3 := hbx.free 3
    have c4 : wx.cell? ⟨g, 4, none⟩ = some (.int .u64 0) := hbx.cell 4
    have f4 := hbx.free 4
    have c5 : wx.cell? ⟨g, 5, none⟩ = some (.int .u64 0) := hbx.cell 5
    have f5 := hbx.free 5
    clear hb
    go_simp
    exact hK _ _ rfl ((((((((Stored.start hbx).set 0 _).set 1 _).set 2 _).set 3 _).set 4 _).set 5 _))
  · intro wx hb
    rintro _ rfl
    intro K hK
    go_simp
    exact hK _ _ rfl ⟨rfl, Below.refl _ _⟩
  intro w8 B
  have PA := Box.below PA B (Box.lt PA)
  have Bm := Box.below Bm B (Box.lt Bm)
  have BW := bkeep BW B
  rintro _ rfl
  rintro _ rfl
  rintro _ rfl
  rintro _ rfl
  rintro _ rfl
  rintro _ rfl
  intro gf hgf Bf
  rintro _ rfl
  rintro -
  simp only [Act.put, List.setIfInBounds_toArray, List.set_cons_zero, List.set_cons_succ, List.toList_toArray, List.length_cons, List.length_nil, List.drop_succ_cons, List.drop_zero, List.drop_nil, Nat.zero_add, wpList]
  clear B
  go_upto_region 18 with fail
  refine region_lin0 (.val (fun v _ => v = .agg #[.int .i64 p.n, .int .i64 p.l, .int .i64 p.h, .int .i64 p.t, .int .u64 p.v, .int .u64 p.s]) :: .val (fun v _ => v = .int .i64 j) :: .val (fun v _ => v = .tuple #[.agg #[.int .i64 m.n, .int .i64 m.l, .int .i64 m.h, .int .i64 m.t, .int .u64 m.v, .int .u64 m.s], .nilIface]) :: .val (fun v _ => v = .tuple #[.agg #[.int .i64 m.n, .int .i64 m.l, .int .i64 m.h, .int .i64 m.t, .int .u64 m.v, .int .u64 m.s], .nilIface]) :: .val (fun v _ => v = .agg #[.int .i64 m.n, .int .i64 m.l, .int .i64 m.h, .int .i64 m.t, .int .u64 m.v, .int .u64 m.s]) :: .val (fun v _ => v = .nilIface) :: .new 26 #[.int .i64 0, .int .i64 0, .int .i64 0, .int .i64 0, .int .u64 0, .int .u64 0] #[.int .i64 m.n, .int .i64 m.l, .int .i64 m.h, .int .i64 m.t, .int .u64 m.v, .int .u64 m.s] 7 :: .put 26 #[.int .i64 0, .int .i64 0, .int .i64 0, .int .i64 0, .int .u64 0, .int .u64 0] #[.int .i64 m.n, .int .i64 m.l, .int .i64 m.h, .int .i64 m.t, .int .u64 m.v, .int .u64 m.s] 18 :: .val (fun v _ => v = .nilIface) :: [])
    ([] :: [] :: [(104, 0), (105, 1)] :: [(106, 2)] :: [(103, 3)] :: [(103, 3)] :: [] :: [(107, 4)] :: [(108, 5)] :: []) ((0, 0) :: (0, 0) :: (0, 0) :: (0, 0) :: (0, 0) :: (0, 0) :: (1, 7) :: (2, 18) :: (0, 0) :: []) 116 (by kernel_rfl) rfl rfl (by kernel_rfl) ⟨Stab.pure _ _ _, Stab.pure _ _ _, Stab.pure _ _ _, Stab.pure _ _ _, Stab.pure _ _ _, Stab.pure _ _ _, ⟨rfl, rfl, rfl⟩, Stab.pure _ _ _, trivial⟩ ⟨?_, ?_, ?_, ?_, ?_, ?_, ?_, ?_, ?_, trivial⟩ ?_
  · intro wx hb
    intro K hK
    exact wp_load_row 26 (.tmp 16) rfl gf rfl 26 _ (0, 0) _ (Box.below (Bf) hb (Box.lt (Bf))) Try.underlying26 rfl (by kernel_rfl) (hK _ _ rfl ⟨rfl, Below.refl _ _⟩)
  · intro wx hb
    intro K hK
    go_simp
    exact hK _ _ rfl ⟨rfl, Below.refl _ _⟩
  · intro wx hb
    rintro _ rfl
    rintro _ rfl
    intro K hK
    go_simp
    (with_reducible refine (HQ.out _).mono ?_)
    rintro e wa ⟨rfl, Ba⟩
    exact hK _ _ rfl ⟨rfl, Ba⟩
  · intro wx hb
    rintro _ rfl
    intro K hK
    go_simp
    exact hK _ _ rfl ⟨rfl, Below.refl _ _⟩
  · intro wx hb
    rintro _ rfl
    intro K hK
    go_simp
    exact hK _ _ rfl ⟨rfl, Below.refl _ _⟩
  · intro wx hb
    rintro _ rfl
    intro K hK
    go_simp
    exact hK _ _ rfl ⟨rfl, Below.refl _ _⟩
  · intro wx hb
    intro K hK
    go_simp
    exact hK _ _ rfl ⟨rfl, rfl⟩
  · intro wx hb
    intro g hg hbx
    rintro _ rfl
    intro K hK
    have c0 : wx.cell? ⟨g, 0, none⟩ = some (.int .i64 0) := hbx.cell 0
    have f0 := hbx.free 0
    have c1 : wx.cell? ⟨g, 1, none⟩ = some (.int .i64 0) := hbx.cell 1
    have f1 := hbx.free 1
    have c2 : wx.cell? ⟨g, 2, none⟩ = some (.int .i64 0) := hbx.cell 2
    have f2 := hbx.free 2
    have c3 : wx.cell? ⟨g, 3, none⟩ = some (.int .i64 0) := hbx.cell 3
    have f3 := hbx.free 3
    have c4 : wx.cell? ⟨g, 4, none⟩ = some (.int .u64 0) := hbx.cell 4
    have f4 := hbx.free 4
    have c5 : wx.cell? ⟨g, 5, none⟩ = some (.int .u64 0) := hbx.cell 5
    have f5 := hbx.free 5
    clear hb
    go_simp
    exact hK _ _ rfl ((((((((Stored.start hbx).set 0 _).set 1 _).set 2 _).set 3 _).set 4 _).set 5 _))
  · intro wx hb
    rintro _ rfl
    intro K hK
    go_simp
    exact hK _ _ rfl ⟨rfl, Below.refl _ _⟩
  intro w9 B
  have Bm := Box.below Bm B (Box.lt Bm)
  have BW := bkeep BW B
  rintro _ rfl
  rintro _ rfl
  rintro _ rfl
  rintro _ rfl
  rintro _ rfl
  rintro _ rfl
  intro gg hgg Bg
  rintro _ rfl
  rintro -
  simp only [Act.put, List.setIfInBounds_toArray, List.set_cons_zero, List.set_cons_succ, List.toList_toArray, List.length_cons, List.length_nil, List.drop_succ_cons, List.drop_zero, List.drop_nil, Nat.zero_add, wpList]
  clear B
  go_upto_region 19 with fail
  refine region_lin0 (.val (fun v _ => v = .nilIface) :: .val (fun v _ => v = .bool true) :: .val (fun v _ => v = .bool true) :: .val (fun v _ => v = .agg #[.int .i64 m.n, .int .i64 m.l, .int .i64 m.h, .int .i64 m.t, .int .u64 m.v, .int .u64 m.s]) :: .val (fun v _ => v = .agg #[.int .i64 m.n, .int .i64 m.l, .int .i64 m.h, .int .i64 m.t, .int .u64 m.v, .int .u64 m.s]) :: .val (fun v _ => v = .bool true) :: .val (fun v _ => v = .bool true) :: .val (fun v _ => v = .bool true) :: [])
    ([] :: [(109, 0)] :: [(110, 1)] :: [(111, 2)] :: [(111, 2)] :: [(112, 3), (113, 4), (111, 2)] :: [(111, 2), (114, 5)] :: [(115, 6)] :: []) ((0, 0) :: (0, 0) :: (0, 0) :: (0, 0) :: (0, 0) :: (0, 0) :: (0, 0) :: (0, 0) :: []) 116 (by kernel_rfl) rfl rfl (by kernel_rfl) ⟨Stab.pure _ _ _, Stab.pure _ _ _, Stab.pure _ _ _, Stab.pure _ _ _, Stab.pure _ _ _, Stab.pure _ _ _, Stab.pure _ _ _, Stab.pure _ _ _, trivial⟩ ⟨?_, ?_, ?_, ?_, ?_, ?_, ?_, ?_, trivial⟩ ?_
  · intro wx hb
    intro K hK
    go_simp
    exact hK _ _ rfl ⟨rfl, Below.refl _ _⟩
  · intro wx hb
    rintro _ rfl
    intro K hK
    go_simp
    exact hK _ _ rfl ⟨rfl, Below.refl _ _⟩
  · intro wx hb
    rintro _ rfl
    intro K hK
    go_simp
    exact hK _ _ rfl ⟨rfl, Below.refl _ _⟩
  · intro wx hb
    rintro _ rfl
    refine ⟨fun _ => ?_, fun h => absurd (show true = false from h) (by decide)⟩
    intro K hK
    exact wp_load_row 26 (.tmp 18) rfl gg rfl 26 _ (0, 0) _ (Box.below (Bg) hb (Box.lt (Bg))) Try.underlying26 rfl (by kernel_rfl) (hK _ _ rfl ⟨rfl, Below.refl _ _⟩)
  · intro wx hb
    rintro _ rfl
    refine ⟨fun _ => ?_, fun h => absurd (show true = false from h) (by decide)⟩
    intro K hK
    exact wp_load_row 26 (.tmp 15) rfl gm rfl 26 _ (0, 0) _ (Box.below (Bm) hb (Box.lt (Bm))) Try.underlying26 rfl (by kernel_rfl) (hK _ _ rfl ⟨rfl, Below.refl _ _⟩)
  · intro wx hb
    rintro _ rfl
    rintro _ rfl
    rintro _ rfl
    refine ⟨fun _ => ?_, fun h => absurd (show true = false from h) (by decide)⟩
    intro K hK
    go_simp
    exact hK _ _ rfl ⟨rfl, Below.refl _ _⟩
  · intro wx hb
    rintro _ rfl
    rintro _ rfl
    intro K hK
    go_simp
    exact hK _ _ rfl ⟨rfl, Below.refl _ _⟩
  · intro wx hb
    rintro _ rfl
    intro K hK
    go_simp
    exact hK _ _ rfl ⟨rfl, Below.refl _ _⟩
  intro w10 B
  have BW := bkeep BW B
  rintro _ rfl
  rintro _ rfl
  rintro _ rfl
  rintro _ rfl
  rintro _ rfl
  rintro _ rfl
  rintro _ rfl
  rintro _ rfl
  rintro -
  simp only [Act.put, List.setIfInBounds_toArray, List.set_cons_zero, List.set_cons_succ, List.toList_toArray, List.length_cons, List.length_nil, List.drop_succ_cons, List.drop_zero, List.drop_nil, Nat.zero_add, wpList]
  go_wp2_with fail
  go_ret
  exact ⟨rfl, BW⟩
set_option maxHeartbeats 8000000 in
theorem powers_ne (a s p q m : Wt) (i j es ep : Int) (i0 : 0 ≤ i) (i1 : i ≤ 1073741824) (j0 : 0 ≤ j) (j1 : j ≤ 1073741824) (m0 : Hid (0 ≤ i * j)) (m1 : Hid (i * j ≤ 1152921504606846976)) (HS : Hid (CR a (i + j) zW (.iface 52 (.int .i64 es)))) (hes : (es == 0) = false) (HP : Hid (CR a (i * j) zW (.iface 52 (.int .i64 ep)))) (w : World) :
    Calls Try.prog 10 #[.agg #[.int .i64 a.n, .int .i64 a.l, .int .i64 a.h, .int .i64 a.t, .int .u64 a.v, .int .u64 a.s], .int .i64 i, .int .i64 j] w fun e w' => e = .returned (.bool true) ∧ Below w.heap.size w w' := by
  have HPA := Lib.hid (Box.new w 26 #[.int .i64 a.n, .int .i64 a.l, .int .i64 a.h, .int .i64 a.t, .int .u64 a.v, .int .u64 a.s])
  have c1 : ¬ i < 0 := by omega
  have c2 : ¬ j < 0 := by omega
  have c3 : ¬ 1073741824 < i := by omega
  have c4 : ¬ 1073741824 < j := by omega
  go_enter Try.func10, Try.ntmps10
  go_wp2_with fail
  (with_reducible refine (alive_any _).mono ?_)
  rintro e w1 ⟨rfl, B1⟩
  have PA := HPA.out.below B1 HPA.out.lt
  have BW := bkeep (balloc (Below.refl w.heap.size w) _) B1
  clear B1
  go_upto_region 5 with fail
  refine region_lin0 (.val (fun v _ => v = .agg #[.int .i64 a.n, .int .i64 a.l, .int .i64 a.h, .int .i64 a.t, .int .u64 a.v, .int .u64 a.s]) :: .val (fun v _ => v = .int .i64 i) :: .val (fun v _ => v = .int .i64 j) :: .val (fun v _ => v = .int .i64 (i + j)) :: .val (fun v _ => v = .tuple #[.agg #[.int .i64 0, .int .i64 0, .int .i64 0, .int .i64 0, .int .u64 0, .int .u64 0], .iface 52 (.int .i64 es)]) :: .val (fun v _ => v = .tuple #[.agg #[.int .i64 0, .int .i64 0, .int .i64 0, .int .i64 0, .int .u64 0, .int .u64 0], .iface 52 (.int .i64 es)]) :: .val (fun v _ => v = .agg #[.int .i64 0, .int .i64 0, .int .i64 0, .int .i64 0, .int .u64 0, .int .u64 0]) :: .val (fun v _ => v = .iface 52 (.int .i64 es)) :: .new 26 #[.int .i64 0, .int .i64 0, .int .i64 0, .int .i64 0, .int .u64 0, .int .u64 0] #[.int .i64 0, .int .i64 0, .int .i64 0, .int .i64 0, .int .u64 0, .int .u64 0] 9 :: .put 26 #[.int .i64 0, .int .i64 0, .int .i64 0, .int .i64 0, .int .u64 0, .int .u64 0] #[.int .i64 0, .int .i64 0, .int .i64 0, .int .i64 0, .int .u64 0, .int .u64 0] 7 :: .val (fun v _ => v = .iface 52 (.int .i64 es)) :: [])
    ([] :: [] :: [] :: [(38, 1), (39, 2)] :: [(37, 0), (40, 3)] :: [(41, 4)] :: [(36, 5)] :: [(36, 5)] :: [] :: [(42, 6)] :: [(43, 7)] :: []) ((0, 0) :: (0, 0) :: (0, 0) :: (0, 0) :: (0, 0) :: (0, 0) :: (0, 0) :: (0, 0) :: (1, 9) :: (2, 7) :: (0, 0) :: []) 116 (by kernel_rfl) rfl rfl (by kernel_rfl) ⟨Stab.pure _ _ _, Stab.pure _ _ _, Stab.pure _ _ _, Stab.pure _ _ _, Stab.pure _ _ _, Stab.pure _ _ _, Stab.pure _ _ _, Stab.pure _ _ _, ⟨rfl, rfl, rfl⟩, Stab.pure _ _ _, trivial⟩ ⟨?_, ?_, ?_, ?_, ?_, ?_, ?_, ?_, ?_, ?_, ?_, trivial⟩ ?_
  · intro wx hb
    intro K hK
    exact wp_load_row 26 (.tmp 3) rfl w.heap.size rfl 26 _ (0, 0) _ (Box.below (PA) hb (Box.lt (PA))) Try.underlying26 rfl (by kernel_rfl) (hK _ _ rfl ⟨rfl, Below.refl _ _⟩)
  · intro wx hb
    intro K hK
    go_simp
    exact hK _ _ rfl ⟨rfl, Below.refl _ _⟩
  · intro wx hb
    intro K hK
    go_simp
    exact hK _ _ rfl ⟨rfl, Below.refl _ _⟩
  · intro wx hb
    rintro _ rfl
    rintro _ rfl
    intro K hK
    have wz := IntWalk.i64_in (i + j) ⟨by omega, by omega⟩
    go_simp
    exact hK _ _ rfl ⟨rfl, Below.refl _ _⟩
  · intro wx hb
    rintro _ rfl
    rintro _ rfl
    intro K hK
    go_simp
    (with_reducible refine (HS.out _).mono ?_)
    rintro e wa ⟨rfl, Ba⟩
    exact hK _ _ rfl ⟨rfl, Ba⟩
  · intro wx hb
    rintro _ rfl
    intro K hK
    go_simp
    exact hK _ _ rfl ⟨rfl, Below.refl _ _⟩
  · intro wx hb
    rintro _ rfl
    intro K hK
    go_simp
    exact hK _ _ rfl ⟨rfl, Below.refl _ _⟩
  · intro wx hb
    rintro _ rfl
    intro K hK
    go_simp
    exact hK _ _ rfl ⟨rfl, Below.refl _ _⟩
  · intro wx hb
    intro K hK
    go_simp
    exact hK _ _ rfl ⟨rfl, rfl⟩
  · intro wx hb
    intro g hg hbx
    rintro _ rfl
    intro K hK
    have c0 : wx.cell? ⟨g, 0, none⟩ = some (.int .i64 0) := hbx.cell 0
    have f0 := hbx.free 0
    have c1 : wx.cell? ⟨g, 1, none⟩ = some (.int .i64 0) := hbx.cell 1
    have f1 := hbx.free 1
    have c2 : wx.cell? ⟨g, 2, none⟩ = some (.int .i64 0) := hbx.cell 2
    have f2 := hbx.free 2
    have c3 : wx.cell? ⟨g, 3, none⟩ = some (.int .i64 0) := hbx.cell 3
    have f3 := hbx.free 3
    have c4 : wx.cell? ⟨g, 4, none⟩ = some (.int .u64 0) := hbx.cell 4
    have f4 := hbx.free 4
    have c5 : wx.cell? ⟨g, 5, none⟩ = some (.int .u64 0) := hbx.cell 5
    have f5 := hbx.free 5
    clear hb
    go_simp
    exact hK _ _ rfl ((((((((Stored.start hbx).set 0 _).set 1 _).set 2 _).set 3 _).set 4 _).set 5 _))
  · intro wx hb
    rintro _ rfl
    intro K hK
    go_simp
    exact hK _ _ rfl ⟨rfl, Below.refl _ _⟩
  intro w2 B
  have PA := Box.below PA B (Box.lt PA)
  have BW := bkeep BW B
  rintro _ rfl
  rintro _ rfl
  rintro _ rfl
  rintro _ rfl
  rintro _ rfl
  rintro _ rfl
  rintro _ rfl
  rintro _ rfl
  intro gs hgs Bs
  rintro _ rfl
  rintro -
  simp only [Act.put, List.setIfInBounds_toArray, List.set_cons_zero, List.set_cons_succ, List.toList_toArray, List.length_cons, List.length_nil, List.drop_succ_cons, List.drop_zero, List.drop_nil, Nat.zero_add, wpList]
  clear B
  go_upto_region 12 with fail
  refine region_lin0 (.val (fun v _ => v = .agg #[.int .i64 a.n, .int .i64 a.l, .int .i64 a.h, .int .i64 a.t, .int .u64 a.v, .int .u64 a.s]) :: .val (fun v _ => v = .int .i64 i) :: .val (fun v _ => v = .int .i64 j) :: .val (fun v _ => v = .int .i64 (i * j)) :: .val (fun v _ => v = .tuple #[.agg #[.int .i64 0, .int .i64 0, .int .i64 0, .int .i64 0, .int .u64 0, .int .u64 0], .iface 52 (.int .i64 ep)]) :: .val (fun v _ => v = .tuple #[.agg #[.int .i64 0, .int .i64 0, .int .i64 0, .int .i64 0, .int .u64 0, .int .u64 0], .iface 52 (.int .i64 ep)]) :: .val (fun v _ => v = .agg #[.int .i64 0, .int .i64 0, .int .i64 0, .int .i64 0, .int .u64 0, .int .u64 0]) :: .val (fun v _ => v = .iface 52 (.int .i64 ep)) :: .new 26 #[.int .i64 0, .int .i64 0, .int .i64 0, .int .i64 0, .int .u64 0, .int .u64 0] #[.int .i64 0, .int .i64 0, .int .i64 0, .int .i64 0, .int .u64 0, .int .u64 0] 9 :: .put 26 #[.int .i64 0, .int .i64 0, .int .i64 0, .int .i64 0, .int .u64 0, .int .u64 0] #[.int .i64 0, .int .i64 0, .int .i64 0, .int .i64 0, .int .u64 0, .int .u64 0] 15 :: .val (fun v _ => v = .iface 52 (.int .i64 ep)) :: [])
    ([] :: [] :: [] :: [(81, 1), (82, 2)] :: [(80, 0), (83, 3)] :: [(84, 4)] :: [(79, 5)] :: [(79, 5)] :: [] :: [(85, 6)] :: [(86, 7)] :: []) ((0, 0) :: (0, 0) :: (0, 0) :: (0, 0) :: (0, 0) :: (0, 0) :: (0, 0) :: (0, 0) :: (1, 9) :: (2, 15) :: (0, 0) :: []) 116 (by kernel_rfl) rfl rfl (by kernel_rfl) ⟨Stab.pure _ _ _, Stab.pure _ _ _, Stab.pure _ _ _, Stab.pure _ _ _, Stab.pure _ _ _, Stab.pure _ _ _, Stab.pure _ _ _, Stab.pure _ _ _, ⟨rfl, rfl, rfl⟩, Stab.pure _ _ _, trivial⟩ ⟨?_, ?_, ?_, ?_, ?_, ?_, ?_, ?_, ?_, ?_, ?_, trivial⟩ ?_
  · intro wx hb
    intro K hK
    exact wp_load_row 26 (.tmp 3) rfl w.heap.size rfl 26 _ (0, 0) _ (Box.below (PA) hb (Box.lt (PA))) Try.underlying26 rfl (by kernel_rfl) (hK _ _ rfl ⟨rfl, Below.refl _ _⟩)
  · intro wx hb
    intro K hK
    go_simp
    exact hK _ _ rfl ⟨rfl, Below.refl _ _⟩
  · intro wx hb
    intro K hK
    go_simp
    exact hK _ _ rfl ⟨rfl, Below.refl _ _⟩
  · intro wx hb
    rintro _ rfl
    rintro _ rfl
    intro K hK
    have q0 := m0.out; have q1 := m1.out; have wz := IntWalk.i64_in (i * j) ⟨by omega, by omega⟩; clear q0 q1; go_simp; exact hK _ _ rfl ⟨rfl, Below.refl _ _⟩
  · intro wx hb
    rintro _ rfl
    rintro _ rfl
    intro K hK
    go_simp
    (with_reducible refine (HP.out _).mono ?_)
    rintro e wa ⟨rfl, Ba⟩
    exact hK _ _ rfl ⟨rfl, Ba⟩
  · intro wx hb
    rintro _ rfl
    intro K hK
    go_simp
    exact hK _ _ rfl ⟨rfl, Below.refl _ _⟩
  · intro wx hb
    rintro _ rfl
    intro K hK
    go_simp
    exact hK _ _ rfl ⟨rfl, Below.refl _ _⟩
  · intro wx hb
    rintro _ rfl
    intro K hK
    go_simp
    exact hK _ _ rfl ⟨rfl, Below.refl _ _⟩
  · intro wx hb
    intro K hK
    go_simp
    exact hK _ _ rfl ⟨rfl, rfl⟩
  · intro wx hb
    intro g hg hbx
    rintro _ rfl
    intro K hK
    have c0 : wx.cell? ⟨g, 0, none⟩ = some (.int .i64 0) := hbx.cell 0
    have f0 := hbx.free 0
    have c1 : wx.cell? ⟨g, 1, none⟩ = some (.int .i64 0) := hbx.cell 1
    have f1 := hbx.free 1
    have c2 : wx.cell? ⟨g, 2, none⟩ = some (.int .i64 0) := hbx.cell 2
    have f2 := hbx.free 2
    have c3 : wx.cell? ⟨g, 3, none⟩ = some (.int .i64 0) := hbx.cell 3
    have f3 := hbx.free 3
    have c4 : wx.cell? ⟨g, 4, none⟩ = some (.int .u64 0) := hbx.cell 4
    have f4 := hbx.free 4
    have c5 : wx.cell? ⟨g, 5, none⟩ = some (.int .u64 0) := hbx.cell 5
    have f5 := hbx.free 5
    clear hb
    go_simp
    exact hK _ _ rfl ((((((((Stored.start hbx).set 0 _).set 1 _).set 2 _).set 3 _).set 4 _).set 5 _))
  · intro wx hb
    rintro _ rfl
    intro K hK
    go_simp
    exact hK _ _ rfl ⟨rfl, Below.refl _ _⟩
  intro w7 B
  have PA := Box.below PA B (Box.lt PA)
  have BW := bkeep BW B
  rintro _ rfl
  rintro _ rfl
  rintro _ rfl
  rintro _ rfl
  rintro _ rfl
  rintro _ rfl
  rintro _ rfl
  rintro _ rfl
  intro gm hgm Bm
  rintro _ rfl
  rintro -
  simp only [Act.put, List.setIfInBounds_toArray, List.set_cons_zero, List.set_cons_succ, List.toList_toArray, List.length_cons, List.length_nil, List.drop_succ_cons, List.drop_zero, List.drop_nil, Nat.zero_add, wpList]
  clear B
  go_wp2_with fail
  go_ret
  exact ⟨rfl, BW⟩
set_option maxHeartbeats 8000000 in
theorem powers_nl (a s p q m : Wt) (i j es ep : Int) (i0 : 0 ≤ i) (i1 : i ≤ 1073741824) (j0 : 0 ≤ j) (j1 : j ≤ 1073741824) (m0 : Hid (0 ≤ i * j)) (m1 : Hid (i * j ≤ 1152921504606846976)) (HS : Hid (CR a (i + j) zW (.iface 52 (.int .i64 es)))) (hes : (es == 0) = false) (HP : Hid (CR a (i * j) m .nilIface)) (HF : Hid (CR a i zW (.iface 52 (.int .i64 2)))) (jz : (j == 0) = true) (w : World) :
    Calls Try.prog 10 #[.agg #[.int .i64 a.n, .int .i64 a.l, .int .i64 a.h, .int .i64 a.t, .int .u64 a.v, .int .u64 a.s], .int .i64 i, .int .i64 j] w fun e w' => e = .returned (.bool true) ∧ Below w.heap.size w w' := by
  have HPA := Lib.hid (Box.new w 26 #[.int .i64 a.n, .int .i64 a.l, .int .i64 a.h, .int .i64 a.t, .int .u64 a.v, .int .u64 a.s])
  have c1 : ¬ i < 0 := by omega
  have c2 : ¬ j < 0 := by omega
  have c3 : ¬ 1073741824 < i := by omega
  have c4 : ¬ 1073741824 < j := by omega
  go_enter Try.func10, Try.ntmps10
  go_wp2_with fail
  (with_reducible refine (alive_any _).mono ?_)
  rintro e w1 ⟨rfl, B1⟩
  have PA := HPA.out.below B1 HPA.out.lt
  have BW := bkeep (balloc (Below.refl w.heap.size w) _) B1
  clear B1
  go_upto_region 5 with fail
  refine region_lin0 (.val (fun v _ => v = .agg #[.int .i64 a.n, .int .i64 a.l, .int .i64 a.h, .int .i64 a.t, .int .u64 a.v, .int .u64 a.s]) :: .val (fun v _ => v = .int .i64 i) :: .val (fun v _ => v = .int .i64 j) :: .val (fun v _ => v = .int .i64 (i + j)) :: .val (fun v _ => v = .tuple #[.agg #[.int .i64 0, .int .i64 0, .int .i64 0, .int .i64 0, .int .u64 0, .int .u64 0], .iface 52 (.int .i64 es)]) :: .val (fun v _ => v = .tuple #[.agg #[.int .i64 0, .int .i64 0, .int .i64 0, .int .i64 0, .int .u64 0, .int .u64 0], .iface 52 (.int .i64 es)]) :: .val (fun v _ => v = .agg #[.int .i64 0, .int .i64 0, .int .i64 0, .int .i64 0, .int .u64 0, .int .u64 0]) :: .val (fun v _ => v = .iface 52 (.int .i64 es)) :: .new 26 #[.int .i64 0, .int .i64 0, .int .i64 0, .int .i64 0, .int .u64 0, .int .u64 0] #[.int .i64 0, .int .i64 0, .int .i64 0, .int .i64 0, .int .u64 0, .int .u64 0] 9 :: .put 26 #[.int .i64 0, .int .i64 0, .int .i64 0, .int .i64 0, .int .u64 0, .int .u64 0] #[.int .i64 0, .int .i64 0, .int .i64 0, .int .i64 0, .int .u64 0, .int .u64 0] 7 :: .val (fun v _ => v = .iface 52 (.int .i64 es)) :: [])
    ([] :: [] :: [] :: [(38, 1), (39, 2)] :: [(37, 0), (40, 3)] :: [(41, 4)] :: [(36, 5)] :: [(36, 5)] :: [] :: [(42, 6)] :: [(43, 7)] :: []) ((0, 0) :: (0, 0) :: (0, 0) :: (0, 0) :: (0, 0) :: (0, 0) :: (0, 0) :: (0, 0) :: (1, 9) :: (2, 7) :: (0, 0) :: []) 116 (by kernel_rfl) rfl rfl (by kernel_rfl) ⟨Stab.pure _ _ _, Stab.pure _ _ _, Stab.pure _ _ _, Stab.pure _ _ _, Stab.pure _ _ _, Stab.pure _ _ _, Stab.pure _ _ _, Stab.pure _ _ _, ⟨rfl, rfl, rfl⟩, Stab.pure _ _ _, trivial⟩ ⟨?_, ?_, ?_, ?_, ?_, ?_, ?_, ?_, ?_, ?_, ?_, trivial⟩ ?_
  · intro wx hb
    intro K hK
    exact wp_load_row 26 (.tmp 3) rfl w.heap.size rfl 26 _ (0, 0) _ (Box.below (PA) hb (Box.lt (PA))) Try.underlying26 rfl (by kernel_rfl) (hK _ _ rfl ⟨rfl, Below.refl _ _⟩)
  · intro wx hb
    intro K hK
    go_simp
    exact hK _ _ rfl ⟨rfl, Below.refl _ _⟩
  · intro wx hb
    intro K hK
    go_simp
    exact hK _ _ rfl ⟨rfl, Below.refl _ _⟩
  · intro wx hb
    rintro _ rfl
    rintro _ rfl
    intro K hK
    have wz := IntWalk.i64_in (i + j) ⟨by omega, by omega⟩
    go_simp
    exact hK _ _ rfl ⟨rfl, Below.refl _ _⟩
  · intro wx hb
    rintro _ rfl
    rintro _ rfl
    intro K hK
    go_simp
    (with_reducible refine (HS.out _).mono ?_)
    rintro e wa ⟨rfl, Ba⟩
    exact hK _ _ rfl ⟨rfl, Ba⟩
  · intro wx hb
    rintro _ rfl
    intro K hK
    go_simp
    exact hK _ _ rfl ⟨rfl, Below.refl _ _⟩
  · intro wx hb
    rintro _ rfl
    intro K hK
    go_simp
    exact hK _ _ rfl ⟨rfl, Below.refl _ _⟩
  · intro wx hb
    rintro _ rfl
    intro K hK
    go_simp
    exact hK _ _ rfl ⟨rfl, Below.refl _ _⟩
  · intro wx hb
    intro K hK
    go_simp
    exact hK _ _ rfl ⟨rfl, rfl⟩
  · intro wx hb
    intro g hg hbx
    rintro _ rfl
    intro K hK
    have c0 : wx.cell? ⟨g, 0, none⟩ = some (.int .i64 0) := hbx.cell 0
    have f0 := hbx.free 0
    have c1 : wx.cell? ⟨g, 1, none⟩ = some (.int .i64 0) := hbx.cell 1
    have f1 := hbx.free 1
    have c2 : wx.cell? ⟨g, 2, none⟩ = some (.int .i64 0) := hbx.cell 2
    have f2 := hbx.free 2
    have c3 : wx.cell? ⟨g, 3, none⟩ = some (.int .i64 0) := hbx.cell 3
    have f3 := hbx.free 3
    have c4 : wx.cell? ⟨g, 4, none⟩ = some (.int .u64 0) := hbx.cell 4
    have f4 := hbx.free 4
    have c5 : wx.cell? ⟨g, 5, none⟩ = some (.int .u64 0) := hbx.cell 5
    have f5 := hbx.free 5
    clear hb
    go_simp
    exact hK _ _ rfl ((((((((Stored.start hbx).set 0 _).set 1 _).set 2 _).set 3 _).set 4 _).set 5 _))
  · intro wx hb
    rintro _ rfl
    intro K hK
    go_simp
    exact hK _ _ rfl ⟨rfl, Below.refl _ _⟩
  intro w2 B
  have PA := Box.below PA B (Box.lt PA)
  have BW := bkeep BW B
  rintro _ rfl
  rintro _ rfl
  rintro _ rfl
  rintro _ rfl
  rintro _ rfl
  rintro _ rfl
  rintro _ rfl
  rintro _ rfl
  intro gs hgs Bs
  rintro _ rfl
  rintro -
  simp only [Act.put, List.setIfInBounds_toArray, List.set_cons_zero, List.set_cons_succ, List.toList_toArray, List.length_cons, List.length_nil, List.drop_succ_cons, List.drop_zero, List.drop_nil, Nat.zero_add, wpList]
  clear B
  go_upto_region 12 with fail
  refine region_lin0 (.val (fun v _ => v = .agg #[.int .i64 a.n, .int .i64 a.l, .int .i64 a.h, .int .i64 a.t, .int .u64 a.v, .int .u64 a.s]) :: .val (fun v _ => v = .int .i64 i) :: .val (fun v _ => v = .int .i64 j) :: .val (fun v _ => v = .int .i64 (i * j)) :: .val (fun v _ => v = .tuple #[.agg #[.int .i64 m.n, .int .i64 m.l, .int .i64 m.h, .int .i64 m.t, .int .u64 m.v, .int .u64 m.s], .nilIface]) :: .val (fun v _ => v = .tuple #[.agg #[.int .i64 m.n, .int .i64 m.l, .int .i64 m.h, .int .i64 m.t, .int .u64 m.v, .int .u64 m.s], .nilIface]) :: .val (fun v _ => v = .agg #[.int .i64 m.n, .int .i64 m.l, .int .i64 m.h, .int .i64 m.t, .int .u64 m.v, .int .u64 m.s]) :: .val (fun v _ => v = .nilIface) :: .new 26 #[.int .i64 0, .int .i64 0, .int .i64 0, .int .i64 0, .int .u64 0, .int .u64 0] #[.int .i64 m.n, .int .i64 m.l, .int .i64 m.h, .int .i64 m.t, .int .u64 m.v, .int .u64 m.s] 9 :: .put 26 #[.int .i64 0, .int .i64 0, .int .i64 0, .int .i64 0, .int .u64 0, .int .u64 0] #[.int .i64 m.n, .int .i64 m.l, .int .i64 m.h, .int .i64 m.t, .int .u64 m.v, .int .u64 m.s] 15 :: .val (fun v _ => v = .nilIface) :: [])
    ([] :: [] :: [] :: [(81, 1), (82, 2)] :: [(80, 0), (83, 3)] :: [(84, 4)] :: [(79, 5)] :: [(79, 5)] :: [] :: [(85, 6)] :: [(86, 7)] :: []) ((0, 0) :: (0, 0) :: (0, 0) :: (0, 0) :: (0, 0) :: (0, 0) :: (0, 0) :: (0, 0) :: (1, 9) :: (2, 15) :: (0, 0) :: []) 116 (by kernel_rfl) rfl rfl (by kernel_rfl) ⟨Stab.pure _ _ _, Stab.pure _ _ _, Stab.pure _ _ _, Stab.pure _ _ _, Stab.pure _ _ _, Stab.pure _ _ _, Stab.pure _ _ _, Stab.pure _ _ _, ⟨rfl, rfl, rfl⟩, Stab.pure _ _ _, trivial⟩ ⟨?_, ?_, ?_, ?_, ?_, ?_, ?_, ?_, ?_, ?_, ?_, trivial⟩ ?_
  · intro wx hb
    intro K hK
    exact wp_load_row 26 (.tmp 3) rfl w.heap.size rfl 26 _ (0, 0) _ (Box.below (PA) hb (Box.lt (PA))) Try.underlying26 rfl (by kernel_rfl) (hK _ _ rfl ⟨rfl, Below.refl _ _⟩)
  · intro wx hb
    intro K hK
    go_simp
    exact hK _ _ rfl ⟨rfl, Below.refl _ _⟩
  · intro wx hb
    intro K hK
    go_simp
    exact hK _ _ rfl ⟨rfl, Below.refl _ _⟩
  · intro wx hb
    rintro _ rfl
    rintro _ rfl
    intro K hK
    have q0 := m0.out; have q1 := m1.out; have wz := IntWalk.i64_in (i * j) ⟨by omega, by omega⟩; clear q0 q1; go_simp; exact hK _ _ rfl ⟨rfl, Below.refl _ _⟩
  · intro wx hb
    rintro _ rfl
    rintro _ rfl
    intro K hK
    go_simp
    (with_reducible refine (HP.out _).mono ?_)
    rintro e wa ⟨rfl, Ba⟩
    exact hK _ _ rfl ⟨rfl, Ba⟩
  · intro wx hb
    rintro _ rfl
    intro K hK
    go_simp
    exact hK _ _ rfl ⟨rfl, Below.refl _ _⟩
  · intro wx hb
    rintro _ rfl
    intro K hK
    go_simp
    exact hK _ _ rfl ⟨rfl, Below.refl _ _⟩
  · intro wx hb
    rintro _ rfl
    intro K hK
    go_simp
    exact hK _ _ rfl ⟨rfl, Below.refl _ _⟩
  · intro wx hb
    intro K hK
    go_simp
    exact hK _ _ rfl ⟨rfl, rfl⟩
  · intro wx hb
    intro g hg hbx
    rintro _ rfl
    intro K hK
    have c0 : wx.cell? ⟨g, 0, none⟩ = some (.int .i64 0) := hbx.cell 0
    have f0 := hbx.free 0
    have c1 : wx.cell? ⟨g, 1, none⟩ = some (.int .i64 0) := hbx.cell 1
    have f1 := hbx.free 1
    have c2 : wx.cell? ⟨g, 2, none⟩ = some (.int .i64 0) := hbx.cell 2
    have f2 := hbx.free 2
    have c3 : wx.cell? ⟨g, 3, none⟩ = some (.int .i64 0) := hbx.cell 3
    have f3 := hbx.free 3
    have c4 : wx.cell? ⟨g, 4, none⟩ = some (.int .u64 0) := hbx.cell 4
    have f4 := hbx.free 4
    have c5 : wx.cell? ⟨g, 5, none⟩ = some (.int .u64 0) := hbx.cell 5
    have f5 := hbx.free 5
    clear hb
    go_simp
    exact hK _ _ rfl ((((((((Stored.start hbx).set 0 _).set 1 _).set 2 _).set 3 _).set 4 _).set 5 _))
  · intro wx hb
    rintro _ rfl
    intro K hK
    go_simp
    exact hK _ _ rfl ⟨rfl, Below.refl _ _⟩
  intro w7 B
  have PA := Box.below PA B (Box.lt PA)
  have BW := bkeep BW B
  rintro _ rfl
  rintro _ rfl
  rintro _ rfl
  rintro _ rfl
  rintro _ rfl
  rintro _ rfl
  rintro _ rfl
  rintro _ rfl
  intro gm hgm Bm
  rintro _ rfl
  rintro -
  simp only [Act.put, List.setIfInBounds_toArray, List.set_cons_zero, List.set_cons_succ, List.toList_toArray, List.length_cons, List.length_nil, List.drop_succ_cons, List.drop_zero, List.drop_nil, Nat.zero_add, wpList]
  clear B
  go_upto_region 15 with fail
  refine region_lin0 (.val (fun v _ => v = .agg #[.int .i64 a.n, .int .i64 a.l, .int .i64 a.h, .int .i64 a.t, .int .u64 a.v, .int .u64 a.s]) :: .val (fun v _ => v = .int .i64 i) :: .val (fun v _ => v = .tuple #[.agg #[.int .i64 0, .int .i64 0, .int .i64 0, .int .i64 0, .int .u64 0, .int .u64 0], .iface 52 (.int .i64 2)]) :: .val (fun v _ => v = .tuple #[.agg #[.int .i64 0, .int .i64 0, .int .i64 0, .int .i64 0, .int .u64 0, .int .u64 0], .iface 52 (.int .i64 2)]) :: .val (fun v _ => v = .agg #[.int .i64 0, .int .i64 0, .int .i64 0, .int .i64 0, .int .u64 0, .int .u64 0]) :: .val (fun v _ => v = .iface 52 (.int .i64 2)) :: .new 26 #[.int .i64 0, .int .i64 0, .int .i64 0, .int .i64 0, .int .u64 0, .int .u64 0] #[.int .i64 0, .int .i64 0, .int .i64 0, .int .i64 0, .int .u64 0, .int .u64 0] 7 :: .put 26 #[.int .i64 0, .int .i64 0, .int .i64 0, .int .i64 0, .int .u64 0, .int .u64 0] #[.int .i64 0, .int .i64 0, .int .i64 0, .int .i64 0, .int .u64 0, .int .u64 0] 16 :: .val (fun v _ => v = .iface 52 (.int .i64 2)) :: [])
    ([] :: [] :: [(90, 0), (91, 1)] :: [(92, 2)] :: [(89, 3)] :: [(89, 3)] :: [] :: [(93, 4)] :: [(94, 5)] :: []) ((0, 0) :: (0, 0) :: (0, 0) :: (0, 0) :: (0, 0) :: (0, 0) :: (1, 7) :: (2, 16) :: (0, 0) :: []) 116 (by kernel_rfl) rfl rfl (by kernel_rfl) ⟨Stab.pure _ _ _, Stab.pure _ _ _, Stab.pure _ _ _, Stab.pure _ _ _, Stab.pure _ _ _, Stab.pure _ _ _, ⟨rfl, rfl, rfl⟩, Stab.pure _ _ _, trivial⟩ ⟨?_, ?_, ?_, ?_, ?_, ?_, ?_, ?_, ?_, trivial⟩ ?_
  · intro wx hb
    intro K hK
    exact wp_load_row 26 (.tmp 3) rfl w.heap.size rfl 26 _ (0, 0) _ (Box.below (PA) hb (Box.lt (PA))) Try.underlying26 rfl (by kernel_rfl) (hK _ _ rfl ⟨rfl, Below.refl _ _⟩)
  · intro wx hb
    intro K hK
    go_simp
    exact hK _ _ rfl ⟨rfl, Below.refl _ _⟩
  · intro wx hb
    rintro _ rfl
    rintro _ rfl
    intro K hK
    go_simp
    (with_reducible refine (HF.out _).mono ?_)
    rintro e wa ⟨rfl, Ba⟩
    exact hK _ _ rfl ⟨rfl, Ba⟩
  · intro wx hb
    rintro _ rfl
    intro K hK
    go_simp
    exact hK _ _ rfl ⟨rfl, Below.refl _ _⟩
  · intro wx hb
    rintro _ rfl
    intro K hK
    go_simp
    exact hK _ _ rfl ⟨rfl, Below.refl _ _⟩
  · intro wx hb
    rintro _ rfl
    intro K hK
    go_simp
    exact hK _ _ rfl ⟨rfl, Below.refl _ _⟩
  · intro wx hb
    intro K hK
    go_simp
    exact hK _ _ rfl ⟨rfl, rfl⟩
  · intro wx hb
    intro g hg hbx
    rintro _ rfl
    intro K hK
    have c0 : wx.cell? ⟨g, 0, none⟩ = some (.int .i64 0) := hbx.cell 0
    have f0 := hbx.free 0
    have c1 : wx.cell? ⟨g, 1, none⟩ = some (.int .i64 0) := hbx.cell 1
    have f1 := hbx.free 1
    have c2 : wx.cell? ⟨g, 2, none⟩ = some (.int .i64 0) := hbx.cell 2
    have f2 := hbx.free 2
    have c3 : wx.cell? ⟨g, 3, none⟩ = some (.int .i64 0) := hbx.cell 3
    have f3 := hbx.free 3
    have c4 : wx.cell? ⟨g, 4, none⟩ = some (.int .u64 0) := hbx.cell 4
    have f4 := hbx.free 4
    have c5 : wx.cell? ⟨g, 5, none⟩ = some (.int .u64 0) := hbx.cell 5
    have f5 := hbx.free 5
    clear hb
    go_simp
    exact hK _ _ rfl ((((((((Stored.start hbx).set 0 _).set 1 _).set 2 _).set 3 _).set 4 _).set 5 _))
  · intro wx hb
    rintro _ rfl
    intro K hK
    go_simp
    exact hK _ _ rfl ⟨rfl, Below.refl _ _⟩
  intro w8 B
  have PA := Box.below PA B (Box.lt PA)
  have BW := bkeep BW B
  rintro _ rfl
  rintro _ rfl
  rintro _ rfl
  rintro _ rfl
  rintro _ rfl
  rintro _ rfl
  intro gf hgf Bf
  rintro _ rfl
  rintro -
  simp only [Act.put, List.setIfInBounds_toArray, List.set_cons_zero, List.set_cons_succ, List.toList_toArray, List.length_cons, List.length_nil, List.drop_succ_cons, List.drop_zero, List.drop_nil, Nat.zero_add, wpList]
  clear B
  have HBW := Lib.hid BW
  clear BW PA Bm Bf
  go_wp2_with ((go_at_call 26; ((with_reducible refine (is_yes 2 rfl _).mono ?_); (rintro e wa ⟨rfl, rfl⟩))))
  go_ret
  exact ⟨rfl, HBW.out⟩
set_option maxHeartbeats 8000000 in
theorem powers_no (a s p q m : Wt) (i j es ep : Int) (i0 : 0 ≤ i) (i1 : i ≤ 1073741824) (j0 : 0 ≤ j) (j1 : j ≤ 1073741824) (m0 : Hid (0 ≤ i * j)) (m1 : Hid (i * j ≤ 1152921504606846976)) (HS : Hid (CR a (i + j) zW (.iface 52 (.int .i64 es)))) (hes : (es == 0) = false) (HP : Hid (CR a (i * j) m .nilIface)) (HI : Hid (CR a i p .nilIface)) (HQ : Hid (CR p j m .nilIface)) (w : World) :
    Calls Try.prog 10 #[.agg #[.int .i64 a.n, .int .i64 a.l, .int .i64 a.h, .int .i64 a.t, .int .u64 a.v, .int .u64 a.s], .int .i64 i, .int .i64 j] w fun e w' => e = .returned (.bool true) ∧ Below w.heap.size w w' := by
  have HPA := Lib.hid (Box.new w 26 #[.int .i64 a.n, .int .i64 a.l, .int .i64 a.h, .int .i64 a.t, .int .u64 a.v, .int .u64 a.s])
  have c1 : ¬ i < 0 := by omega
  have c2 : ¬ j < 0 := by omega
  have c3 : ¬ 1073741824 < i := by omega
  have c4 : ¬ 1073741824 < j := by omega
  go_enter Try.func10, Try.ntmps10
  go_wp2_with fail
  (with_reducible refine (alive_any _).mono ?_)
  rintro e w1 ⟨rfl, B1⟩
  have PA := HPA.out.below B1 HPA.out.lt
  have BW := bkeep (balloc (Below.refl w.heap.size w) _) B1
  clear B1
  go_upto_region 5 with fail
  refine region_lin0 (.val (fun v _ => v = .agg #[.int .i64 a.n, .int .i64 a.l, .int .i64 a.h, .int .i64 a.t, .int .u64 a.v, .int .u64 a.s]) :: .val (fun v _ => v = .int .i64 i) :: .val (fun v _ => v = .int .i64 j) :: .val (fun v _ => v = .int .i64 (i + j)) :: .val (fun v _ => v = .tuple #[.agg #[.int .i64 0, .int .i64 0, .int .i64 0, .int .i64 0, .int .u64 0, .int .u64 0], .iface 52 (.int .i64 es)]) :: .val (fun v _ => v = .tuple #[.agg #[.int .i64 0, .int .i64 0, .int .i64 0, .int .i64 0, .int .u64 0, .int .u64 0], .iface 52 (.int .i64 es)]) :: .val (fun v _ => v = .agg #[.int .i64 0, .int .i64 0, .int .i64 0, .int .i64 0, .int .u64 0, .int .u64 0]) :: .val (fun v _ => v = .iface 52 (.int .i64 es)) :: .new 26 #[.int .i64 0, .int .i64 0, .int .i64 0, .int .i64 0, .int .u64 0, .int .u64 0] #[.int .i64 0, .int .i64 0, .int .i64 0, .int .i64 0, .int .u64 0, .int .u64 0] 9 :: .put 26 #[.int .i64 0, .int .i64 0, .int .i64 0, .int .i64 0, .int .u64 0, .int .u64 0] #[.int .i64 0, .int .i64 0, .int .i64 0, .int .i64 0, .int .u64 0, .int .u64 0] 7 :: .val (fun v _ => v = .iface 52 (.int .i64 es)) :: [])
    ([] :: [] :: [] :: [(38, 1), (39, 2)] :: [(37, 0), (40, 3)] :: [(41, 4)] :: [(36, 5)] :: [(36, 5)] :: [] :: [(42, 6)] :: [(43, 7)] :: []) ((0, 0) :: (0, 0) :: (0, 0) :: (0, 0) :: (0, 0) :: (0, 0) :: (0, 0) :: (0, 0) :: (1, 9) :: (2, 7) :: (0, 0) :: []) 116 (by kernel_rfl) rfl rfl (by kernel_rfl) ⟨Stab.pure _ _ _, Stab.pure _ _ _, Stab.pure _ _ _, Stab.pure _ _ _, Stab.pure _ _ _, Stab.pure _ _ _, Stab.pure _ _ _, Stab.pure _ _ _, ⟨rfl, rfl, rfl⟩, Stab.pure _ _ _, trivial⟩ ⟨?_, ?_, ?_, ?_, ?_, ?_, ?_, ?_, ?_, ?_, ?_, trivial⟩ ?_
  · intro wx hb
    intro K hK
    exact wp_load_row 26 (.tmp 3) rfl w.heap.size rfl 26 _ (0, 0) _ (Box.below (PA) hb (Box.lt (PA))) Try.underlying26 rfl (by kernel_rfl) (hK _ _ rfl ⟨rfl, Below.refl _ _⟩)
  · intro wx hb
    intro K hK
    go_simp
    exact hK _ _ rfl ⟨rfl, Below.refl _ _⟩
  · intro wx hb
    intro K hK
    go_simp
    exact hK _ _ rfl ⟨rfl, Below.refl _ _⟩
  · intro wx hb
    rintro _ rfl
    rintro _ rfl
    intro K hK
    have wz := IntWalk.i64_in (i + j) ⟨by omega, by omega⟩
    go_simp
    exact hK _ _ rfl ⟨rfl, Below.refl _ _⟩
  · intro wx hb
    rintro _ rfl
    rintro _ rfl
    intro K hK
    go_simp
    (with_reducible refine (HS.out _).mono ?_)
    rintro e wa ⟨rfl, Ba⟩
    exact hK _ _ rfl ⟨rfl, Ba⟩
  · intro wx hb
    rintro _ rfl
    intro K hK
    go_simp
    exact hK _ _ rfl ⟨rfl, Below.refl _ _⟩
  · intro wx hb
    rintro _ rfl
    intro K hK
    go_simp
    exact hK _ _ rfl ⟨rfl, Below.refl _ _⟩
  · intro wx hb
    rintro _ rfl
    intro K hK
    go_simp
    exact hK _ _ rfl ⟨rfl, Below.refl _ _⟩
  · intro wx hb
    intro K hK
    go_simp
    exact hK _ _ rfl ⟨rfl, rfl⟩
  · intro wx hb
    intro g hg hbx
    rintro _ rfl
    intro K hK
    have c0 : wx.cell? ⟨g, 0, none⟩ = some (.int .i64 0) := hbx.cell 0
    have f0 := hbx.free 0
    have c1 : wx.cell? ⟨g, 1, none⟩ = some (.int .i64 0) := hbx.cell 1
    have f1 := hbx.free 1
    have c2 : wx.cell? ⟨g, 2, none⟩ = some (.int .i64 0) := hbx.cell 2
    have f2 := hbx.free 2
    have c3 : wx.cell? ⟨g, 3, none⟩ = some (.int .i64 0) := hbx.cell 3
    have f3 := hbx.free 3
    have c4 : wx.cell? ⟨g, 4, none⟩ = some (.int .u64 0) := hbx.cell 4
    have f4 := hbx.free 4
    have c5 : wx.cell? ⟨g, 5, none⟩ = some (.int .u64 0) := hbx.cell 5
    have f5 := hbx.free 5
    clear hb
    go_simp
    exact hK _ _ rfl ((((((((Stored.start hbx).set 0 _).set 1 _).set 2 _).set 3 _).set 4 _).set 5 _))
  · intro wx hb
    rintro _ rfl
    intro K hK
    go_simp
    exact hK _ _ rfl ⟨rfl, Below.refl _ _⟩
  intro w2 B
  have PA := Box.below PA B (Box.lt PA)
  have BW := bkeep BW B
  rintro _ rfl
  rintro _ rfl
  rintro _ rfl
  rintro _ rfl
  rintro _ rfl
  rintro _ rfl
  rintro _ rfl
  rintro _ rfl
  intro gs hgs Bs
  rintro _ rfl
  rintro -
  simp only [Act.put, List.setIfInBounds_toArray, List.set_cons_zero, List.set_cons_succ, List.toList_toArray, List.length_cons, List.length_nil, List.drop_succ_cons, List.drop_zero, List.drop_nil, Nat.zero_add, wpList]
  clear B
  go_upto_region 12 with fail
  refine region_lin0 (.val (fun v _ => v = .agg #[.int .i64 a.n, .int .i64 a.l, .int .i64 a.h, .int .i64 a.t, .int .u64 a.v, .int .u64 a.s]) :: .val (fun v _ => v = .int .i64 i) :: .val (fun v _ => v = .int .i64 j) :: .val (fun v _ => v = .int .i64 (i * j)) :: .val (fun v _ => v = .tuple #[.agg #[.int .i64 m.n, .int .i64 m.l, .int .i64 m.h, .int .i64 m.t, .int .u64 m.v, .int .u64 m.s], .nilIface]) :: .val (fun v _ => v = .tuple #[.agg #[.int .i64 m.n, .int .i64 m.l, .int .i64 m.h, .int .i64 m.t, .int .u64 m.v, .int .u64 m.s], .nilIface]) :: .val (fun v _ => v = .agg #[.int .i64 m.n, .int .i64 m.l, .int .i64 m.h, .int .i64 m.t, .int .u64 m.v, .int .u64 m.s]) :: .val (fun v _ => v = .nilIface) :: .new 26 #[.int .i64 0, .int .i64 0, .int .i64 0, .int .i64 0, .int .u64 0, .int .u64 0] #[.int .i64 m.n, .int .i64 m.l, .int .i64 m.h, .int .i64 m.t, .int .u64 m.v, .int .u64 m.s] 9 :: .put 26 #[.int .i64 0, .int .i64 0, .int .i64 0, .int .i64 0, .int .u64 0, .int .u64 0] #[.int .i64 m.n, .int .i64 m.l, .int .i64 m.h, .int .i64 m.t, .int .u64 m.v, .int .u64 m.s] 15 :: .val (fun v _ => v = .nilIface) :: [])
    ([] :: [] :: [] :: [(81, 1), (82, 2)] :: [(80, 0), (83, 3)] :: [(84, 4)] :: [(79, 5)] :: [(79, 5)] :: [] :: [(85, 6)] :: [(86, 7)] :: []) ((0, 0) :: (0, 0) :: (0, 0) :: (0, 0) :: (0, 0) :: (0, 0) :: (0, 0) :: (0, 0) :: (1, 9) :: (2, 15) :: (0, 0) :: []) 116 (by kernel_rfl) rfl rfl (by kernel_rfl) ⟨Stab.pure _ _ _, Stab.pure _ _ _, Stab.pure _ _ _, Stab.pure _ _ _, Stab.pure _ _ _, Stab.pure _ _ _, Stab.pure _ _ _, Stab.pure _ _ _, ⟨rfl, rfl, rfl⟩, Stab.pure _ _ _, trivial⟩ ⟨?_, ?_, ?_, ?_, ?_, ?_, ?_, ?_, ?_, ?_, ?_, trivial⟩ ?_
  · intro wx hb
    intro K hK
    exact wp_load_row 26 (.tmp 3) rfl w.heap.size rfl 26 _ (0, 0) _ (Box.below (PA) hb (Box.lt (PA))) Try.underlying26 rfl (by kernel_rfl) (hK _ _ rfl ⟨rfl, Below.refl _ _⟩)
  · intro wx hb
    intro K hK
    go_simp
    exact hK _ _ rfl ⟨rfl, Below.refl _ _⟩
  · intro wx hb
    intro K hK
    go_simp
    exact hK _ _ rfl ⟨rfl, Below.refl _ _⟩
  · intro wx hb
    rintro _ rfl
    rintro _ rfl
    intro K hK
    have q0 := m0.out; have q1 := m1.out; have wz := IntWalk.i64_in (i * j) ⟨by omega, by omega⟩; clear q0 q1; go_simp; exact hK _ _ rfl ⟨rfl, Below.refl _ _⟩
  · intro wx hb
    rintro _ rfl
    rintro _ rfl
    intro K hK
    go_simp
    (with_reducible refine (HP.out _).mono ?_)
    rintro e wa ⟨rfl, Ba⟩
    exact hK _ _ rfl ⟨rfl, Ba⟩
  · intro wx hb
    rintro _ rfl
    intro K hK
    go_simp
    exact hK _ _ rfl ⟨rfl, Below.refl _ _⟩
  · intro wx hb
    rintro _ rfl
    intro K hK
    go_simp
    exact hK _ _ rfl ⟨rfl, Below.refl _ _⟩
  · intro wx hb
    rintro _ rfl
    intro K hK
    go_simp
    exact hK _ _ rfl ⟨rfl, Below.refl _ _⟩
  · intro wx hb
    intro K hK
    go_simp
    exact hK _ _ rfl ⟨rfl, rfl⟩
  · intro wx hb
    intro g hg hbx
    rintro _ rfl
    intro K hK
    have c0 : wx.cell? ⟨g, 0, none⟩ = some (.int .i64 0) := hbx.cell 0
    have f0 := hbx.free 0
    have c1 : wx.cell? ⟨g, 1, none⟩ = some (.int .i64 0) := hbx.cell 1
    have f1 := hbx.free 1
    have c2 : wx.cell? ⟨g, 2, none⟩ = some (.int .i64 0) := hbx.cell 2
    have f2 := hbx.free 2
    have c3 : wx.cell? ⟨g, 3, none⟩ = some (.int .i64 0) := hbx.cell 3
    have f3 := hbx.free 3
    have c4 : wx.cell? ⟨g, 4, none⟩ = some (.int .u64 0) := hbx.cell 4
    have f4 := hbx.free 4
    have c5 : wx.cell? ⟨g, 5, none⟩ = some (.int .u64 0) := hbx.cell 5
    have f5 := hbx.free 5
    clear hb
    go_simp
    exact hK _ _ rfl ((((((((Stored.start hbx).set 0 _).set 1 _).set 2 _).set 3 _).set 4 _).set 5 _))
  · intro wx hb
    rintro _ rfl
    intro K hK
    go_simp
    exact hK _ _ rfl ⟨rfl, Below.refl _ _⟩
  intro w7 B
  have PA := Box.below PA B (Box.lt PA)
  have BW := bkeep BW B
  rintro _ rfl
  rintro _ rfl
  rintro _ rfl
  rintro _ rfl
  rintro _ rfl
  rintro _ rfl
  rintro _ rfl
  rintro _ rfl
  intro gm hgm Bm
  rintro _ rfl
  rintro -
  simp only [Act.put, List.setIfInBounds_toArray, List.set_cons_zero, List.set_cons_succ, List.toList_toArray, List.length_cons, List.length_nil, List.drop_succ_cons, List.drop_zero, List.drop_nil, Nat.zero_add, wpList]
  clear B
  go_upto_region 15 with fail
  refine region_lin0 (.val (fun v _ => v = .agg #[.int .i64 a.n, .int .i64 a.l, .int .i64 a.h, .int .i64 a.t, .int .u64 a.v, .int .u64 a.s]) :: .val (fun v _ => v = .int .i64 i) :: .val (fun v _ => v = .tuple #[.agg #[.int .i64 p.n, .int .i64 p.l, .int .i64 p.h, .int .i64 p.t, .int .u64 p.v, .int .u64 p.s], .nilIface]) :: .val (fun v _ => v = .tuple #[.agg #[.int .i64 p.n, .int .i64 p.l, .int .i64 p.h, .int .i64 p.t, .int .u64 p.v, .int .u64 p.s], .nilIface]) :: .val (fun v _ => v = .agg #[.int .i64 p.n, .int .i64 p.l, .int .i64 p.h, .int .i64 p.t, .int .u64 p.v, .int .u64 p.s]) :: .val (fun v _ => v = .nilIface) :: .new 26 #[.int .i64 0, .int .i64 0, .int .i64 0, .int .i64 0, .int .u64 0, .int .u64 0] #[.int .i64 p.n, .int .i64 p.l, .int .i64 p.h, .int .i64 p.t, .int .u64 p.v, .int .u64 p.s] 7 :: .put 26 #[.int .i64 0, .int .i64 0, .int .i64 0, .int .i64 0, .int .u64 0, .int .u64 0] #[.int .i64 p.n, .int .i64 p.l, .int .i64 p.h, .int .i64 p.t, .int .u64 p.v, .int .u64 p.s] 16 :: .val (fun v _ => v = .nilIface) :: [])
    ([] :: [] :: [(90, 0), (91, 1)] :: [(92, 2)] :: [(89, 3)] :: [(89, 3)] :: [] :: [(93, 4)] :: [(94, 5)] :: []) ((0, 0) :: (0, 0) :: (0, 0) :: (0, 0) :: (0, 0) :: (0, 0) :: (1, 7) :: (2, 16) :: (0, 0) :: []) 116 (by kernel_rfl) rfl rfl (by kernel_rfl) ⟨Stab.pure _ _ _, Stab.pure _ _ _, Stab.pure _ _ _, Stab.pure _ _ _, Stab.pure _ _ _, Stab.pure _ _ _, ⟨rfl, rfl, rfl⟩, Stab.pure _ _ _, trivial⟩ ⟨?_, ?_, ?_, ?_, ?_, ?_, ?_, ?_, ?_, trivial⟩ ?_
  · intro wx hb
    intro K hK
    exact wp_load_row 26 (.tmp 3) rfl w.heap.size rfl 26 _ (0, 0) _ (Box.below (PA) hb (Box.lt (PA))) Try.underlying26 rfl (by kernel_rfl) (hK _ _ rfl ⟨rfl, Below.refl _ _⟩)
  · intro wx hb
    intro K hK
    go_simp
    exact hK _ _ rfl ⟨rfl, Below.refl _ _⟩
  · intro wx hb
    rintro _ rfl
    rintro _ rfl
    intro K hK
    go_simp
    (with_reducible refine (HI.out _).mono ?_)
    rintro e wa ⟨rfl, Ba⟩
    exact hK _ _ rfl ⟨rfl, Ba⟩
  · intro wx hb
    rintro _ rfl
    intro K hK
    go_simp
    exact hK _ _ rfl ⟨rfl, Below.refl _ _⟩
  · intro wx hb
    rintro _ rfl
    intro K hK
    go_simp
    exact hK _ _ rfl ⟨rfl, Below.refl _ _⟩
  · intro wx hb
    rintro _ rfl
    intro K hK
    go_simp
    exact hK _ _ rfl ⟨rfl, Below.refl _ _⟩
  · intro wx hb
    intro K hK
    go_simp
    exact hK _ _ rfl ⟨rfl, rfl⟩
  · intro wx hb
    intro g hg hbx
    rintro _ rfl
    intro K hK
    have c0 : wx.cell? ⟨g, 0, none⟩ = some (.int .i64 0) := hbx.cell 0
    have f0 := hbx.free 0
    have c1 : wx.cell? ⟨g, 1, none⟩ = some (.int .i64 0) := hbx.cell 1
    have f1 := hbx.free 1
    have c2 : wx.cell? ⟨g, 2, none⟩ = some (.int .i64 0) := hbx.cell 2
    have f2 := hbx.free 2
    have c3 : wx.cell? ⟨g, 3, none⟩ = some (.int .i64 0) := hbx.cell 3
    have f3 := hbx.free 3
    have c4 : wx.cell? ⟨g, 4, none⟩ = some (.int .u64 0) := hbx.cell 4
    have f4 := hbx.free 4
    have c5 : wx.cell? ⟨g, 5, none⟩ = some (.int .u64 0) := hbx.cell 5
    have f5 := hbx.free 5
    clear hb
    go_simp
    exact hK _ _ rfl ((((((((Stored.start hbx).set 0 _).set 1 _).set 2 _).set 3 _).set 4 _).set 5 _))
  · intro wx hb
    rintro _ rfl
    intro K hK
    go_simp
    exact hK _ _ rfl ⟨rfl, Below.refl _ _⟩
  intro w8 B
  have PA := Box.below PA B (Box.lt PA)
  have Bm := Box.below Bm B (Box.lt Bm)
  have BW := bkeep BW B
  rintro _ rfl
  rintro _ rfl
  rintro _ rfl
  rintro _ rfl
  rintro _ rfl
  rintro _ rfl
  intro gf hgf Bf
  rintro _ rfl
  rintro -
  simp only [Act.put, List.setIfInBounds_toArray, List.set_cons_zero, List.set_cons_succ, List.toList_toArray, List.length_cons, List.length_nil, List.drop_succ_cons, List.drop_zero, List.drop_nil, Nat.zero_add, wpList]
  clear B
  go_upto_region 18 with fail
  refine region_lin0 (.val (fun v _ => v = .agg #[.int .i64 p.n, .int .i64 p.l, .int .i64 p.h, .int .i64 p.t, .int .u64 p.v, .int .u64 p.s]) :: .val (fun v _ => v = .int .i64 j) :: .val (fun v _ => v = .tuple #[.agg #[.int .i64 m.n, .int .i64 m.l, .int .i64 m.h, .int .i64 m.t, .int .u64 m.v, .int .u64 m.s], .nilIface]) :: .val (fun v _ => v = .tuple #[.agg #[.int .i64 m.n, .int .i64 m.l, .int .i64 m.h, .int .i64 m.t, .int .u64 m.v, .int .u64 m.s], .nilIface]) :: .val (fun v _ => v = .agg #[.int .i64 m.n, .int .i64 m.l, .int .i64 m.h, .int .i64 m.t, .int .u64 m.v, .int .u64 m.s]) :: .val (fun v _ => v = .nilIface) :: .new 26 #[.int .i64 0, .int .i64 0, .int .i64 0, .int .i64 0, .int .u64 0, .int .u64 0] #[.int .i64 m.n, .int .i64 m.l, .int .i64 m.h, .int .i64 m.t, .int .u64 m.v, .int .u64 m.s] 7 :: .put 26 #[.int .i64 0, .int .i64 0, .int .i64 0, .int .i64 0, .int .u64 0, .int .u64 0] #[.int .i64 m.n, .int .i64 m.l, .int .i64 m.h, .int .i64 m.t, .int .u64 m.v, .int .u64 m.s] 18 :: .val (fun v _ => v = .nilIface) :: [])
    ([] :: [] :: [(104, 0), (105, 1)] :: [(106, 2)] :: [(103, 3)] :: [(103, 3)] :: [] :: [(107, 4)] :: [(108, 5)] :: []) ((0, 0) :: (0, 0) :: (0, 0) :: (0, 0) :: (0, 0) :: (0, 0) :: (1, 7) :: (2, 18) :: (0, 0) :: []) 116 (by kernel_rfl) rfl rfl (by kernel_rfl) ⟨Stab.pure _ _ _, Stab.pure _ _ _, Stab.pure _ _ _, Stab.pure _ _ _, Stab.pure _ _ _, Stab.pure _ _ _, ⟨rfl, rfl, rfl⟩, Stab.pure _ _ _, trivial⟩ ⟨?_, ?_, ?_, ?_, ?_, ?_, ?_, ?_, ?_, trivial⟩ ?_
  · intro wx hb
    intro K hK
    exact wp_load_row 26 (.tmp 16) rfl gf rfl 26 _ (0, 0) _ (Box.below (Bf) hb (Box.lt (Bf))) Try.underlying26 rfl (by kernel_rfl) (hK _ _ rfl ⟨rfl, Below.refl _ _⟩)
  · intro wx hb
    intro K hK
    go_simp
    exact hK _ _ rfl ⟨rfl, Below.refl _ _⟩
  · intro wx hb
    rintro _ rfl
    rintro _ rfl
    intro K hK
    go_simp
    (with_reducible refine (HQ.out _).mono ?_)
    rintro e wa ⟨rfl, Ba⟩
    exact hK _ _ rfl ⟨rfl, Ba⟩
  · intro wx hb
    rintro _ rfl
    intro K hK
    go_simp
    exact hK _ _ rfl ⟨rfl, Below.refl _ _⟩
  · intro wx hb
    rintro _ rfl
    intro K hK
    go_simp
    exact hK _ _ rfl ⟨rfl, Below.refl _ _⟩
  · intro wx hb
    rintro _ rfl
    intro K hK
    go_simp
    exact hK _ _ rfl ⟨rfl, Below.refl _ _⟩
  · intro wx hb
    intro K hK
    go_simp
    exact hK _ _ rfl ⟨rfl, rfl⟩
  · intro wx hb
    intro g hg hbx
    rintro _ rfl
    intro K hK
    have c0 : wx.cell? ⟨g, 0, none⟩ = some (.int .i64 0) := hbx.cell 0
    have f0 := hbx.free 0
    have c1 : wx.cell? ⟨g, 1, none⟩ = some (.int .i64 0) := hbx.cell 1
    have f1 := hbx.free 1
    have c2 : wx.cell? ⟨g, 2, none⟩ = some (.int .i64 0) := hbx.cell 2
    have f2 := hbx.free 2
    have c3 : wx.cell? ⟨g, 3, none⟩ = some (.int .i64 0) := hbx.cell 3
    have f3 := hbx.free 3
    have c4 : wx.cell? ⟨g, 4, none⟩ = some (.int .u64 0) := hbx.cell 4
    have f4 := hbx.free 4
    have c5 : wx.cell? ⟨g, 5, none⟩ = some (.int .u64 0) := hbx.cell 5
    have f5 := hbx.free 5
    clear hb
    go_simp
    exact hK _ _ rfl ((((((((Stored.start hbx).set 0 _).set 1 _).set 2 _).set 3 _).set 4 _).set 5 _))
  · intro wx hb
    rintro _ rfl
    intro K hK
    go_simp
    exact hK _ _ rfl ⟨rfl, Below.refl _ _⟩
  intro w9 B
  have Bm := Box.below Bm B (Box.lt Bm)
  have BW := bkeep BW B
  rintro _ rfl
  rintro _ rfl
  rintro _ rfl
  rintro _ rfl
  rintro _ rfl
  rintro _ rfl
  intro gg hgg Bg
  rintro _ rfl
  rintro -
  simp only [Act.put, List.setIfInBounds_toArray, List.set_cons_zero, List.set_cons_succ, List.toList_toArray, List.length_cons, List.length_nil, List.drop_succ_cons, List.drop_zero, List.drop_nil, Nat.zero_add, wpList]
  clear B
  go_upto_region 19 with fail
  refine region_lin0 (.val (fun v _ => v = .nilIface) :: .val (fun v _ => v = .bool true) :: .val (fun v _ => v = .bool true) :: .val (fun v _ => v = .agg #[.int .i64 m.n, .int .i64 m.l, .int .i64 m.h, .int .i64 m.t, .int .u64 m.v, .int .u64 m.s]) :: .val (fun v _ => v = .agg #[.int .i64 m.n, .int .i64 m.l, .int .i64 m.h, .int .i64 m.t, .int .u64 m.v, .int .u64 m.s]) :: .val (fun v _ => v = .bool true) :: .val (fun v _ => v = .bool true) :: .val (fun v _ => v = .bool true) :: [])
    ([] :: [(109, 0)] :: [(110, 1)] :: [(111, 2)] :: [(111, 2)] :: [(112, 3), (113, 4), (111, 2)] :: [(111, 2), (114, 5)] :: [(115, 6)] :: []) ((0, 0) :: (0, 0) :: (0, 0) :: (0, 0) :: (0, 0) :: (0, 0) :: (0, 0) :: (0, 0) :: []) 116 (by kernel_rfl) rfl rfl (by kernel_rfl) ⟨Stab.pure _ _ _, Stab.pure _ _ _, Stab.pure _ _ _, Stab.pure _ _ _, Stab.pure _ _ _, Stab.pure _ _ _, Stab.pure _ _ _, Stab.pure _ _ _, trivial⟩ ⟨?_, ?_, ?_, ?_, ?_, ?_, ?_, ?_, trivial⟩ ?_
  · intro wx hb
    intro K hK
    go_simp
    exact hK _ _ rfl ⟨rfl, Below.refl _ _⟩
  · intro wx hb
    rintro _ rfl
    intro K hK
    go_simp
    exact hK _ _ rfl ⟨rfl, Below.refl _ _⟩
  · intro wx hb
    rintro _ rfl
    intro K hK
    go_simp
    exact hK _ _ rfl ⟨rfl, Below.refl _ _⟩
  · intro wx hb
    rintro _ rfl
    refine ⟨fun _ => ?_, fun h => absurd (show true = false from h) (by decide)⟩
    intro K hK
    exact wp_load_row 26 (.tmp 18) rfl gg rfl 26 _ (0, 0) _ (Box.below (Bg) hb (Box.lt (Bg))) Try.underlying26 rfl (by kernel_rfl) (hK _ _ rfl ⟨rfl, Below.refl _ _⟩)
  · intro wx hb
    rintro _ rfl
    refine ⟨fun _ => ?_, fun h => absurd (show true = false from h) (by decide)⟩
    intro K hK
    exact wp_load_row 26 (.tmp 15) rfl gm rfl 26 _ (0, 0) _ (Box.below (Bm) hb (Box.lt (Bm))) Try.underlying26 rfl (by kernel_rfl) (hK _ _ rfl ⟨rfl, Below.refl _ _⟩)
  · intro wx hb
    rintro _ rfl
    rintro _ rfl
    rintro _ rfl
    refine ⟨fun _ => ?_, fun h => absurd (show true = false from h) (by decide)⟩
    intro K hK
    go_simp
    exact hK _ _ rfl ⟨rfl, Below.refl _ _⟩
  · intro wx hb
    rintro _ rfl
    rintro _ rfl
    intro K hK
    go_simp
    exact hK _ _ rfl ⟨rfl, Below.refl _ _⟩
  · intro wx hb
    rintro _ rfl
    intro K hK
    go_simp
    exact hK _ _ rfl ⟨rfl, Below.refl _ _⟩
  intro w10 B
  have BW := bkeep BW B
  rintro _ rfl
  rintro _ rfl
  rintro _ rfl
  rintro _ rfl
  rintro _ rfl
  rintro _ rfl
  rintro _ rfl
  rintro _ rfl
  rintro -
  simp only [Act.put, List.setIfInBounds_toArray, List.set_cons_zero, List.set_cons_succ, List.toList_toArray, List.length_cons, List.length_nil, List.drop_succ_cons, List.drop_zero, List.drop_nil, Nat.zero_add, wpList]
  go_wp2_with fail
  go_ret
  exact ⟨rfl, BW⟩
end Go.Proofs.Ytbapmolpfdiknaa
