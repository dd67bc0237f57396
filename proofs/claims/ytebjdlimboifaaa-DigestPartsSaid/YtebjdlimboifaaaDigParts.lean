/- The walk of the law DigestParts. -/
import Derived.Test.YtebjdlimboifaaaDigRests
import Derived.Deep.DeepCutAuto
namespace Go.Proofs.Ytebjdlimboifaaa
set_option linter.unusedVariables false
set_option linter.unusedSimpArgs false
open Go.RowKit Go.Lib

theorem ret_red (x y : Int) : red (red x) = red x ∧ red (red y) = red y := ⟨red_red x, red_red y⟩
theorem whole_rest (a1 a2 b1 b2 : Int) (hb : 0 ≤ b2) (h : red b2 ≠ 0) :
    red (b1 * red (a2 * inv b2) + red (a1 - red (b1 * red (a2 * inv b2)))) = red a1 ∧ red (b2 * red (a2 * inv b2)) = red a2 := by
  constructor
  · rw [red_add_r, ← red_add_l, ← Int.add_sub_assoc, Int.add_comm, Int.add_sub_cancel]
  · rw [red_mul_r, Int.mul_comm, Int.mul_assoc, Int.mul_comm (inv b2), ← Int.mul_assoc, inv_one _ _ hb h]
theorem whole_front (a1 a2 b1 b2 : Int) (hb : 0 ≤ b2) (h : red b2 ≠ 0) :
    red (red (red (a1 - b1) * inv b2) * b2 + b1) = red a1 ∧ red (red (a2 * inv b2) * b2) = red a2 := by
  have e : ∀ z, z * inv b2 * b2 = z * b2 * inv b2 := fun z => by rw [Int.mul_assoc, Int.mul_comm (inv b2), ← Int.mul_assoc]
  constructor
  · rw [← red_add_l, red_mul_l, e, inv_one _ _ hb h, red_red, red_add_l, Int.sub_add_cancel]
  · rw [red_mul_l, e, inv_one _ _ hb h]

attribute [local go_sem ↓] Go.wp_at_zero Go.wp_at_succ
set_option maxHeartbeats 4000000 in
theorem parts_ok (a1 a2 b1 b2 r1 r2 f1 f2 q1 q2 : Int) (ha : Hid (red a2 ≠ 0)) (hb : Hid (red b2 ≠ 0)) (ta : (a2 % 2305843009213693951 == 0) = false) (tb : (b2 % 2305843009213693951 == 0) = false) (pa : 0 ≤ a2) (pb : 0 ≤ b2) (w : World)
    (R : Hid (∀ W : World, Calls Try.prog 21 #[.agg #[.int .u64 a1, .int .u64 a2], .agg #[.int .u64 b1, .int .u64 b2]] W fun e w' => e = .returned (.tuple #[.agg #[.int .u64 r1, .int .u64 r2], .nilIface]) ∧ Below W.heap.size W w'))
    (F : Hid (∀ W : World, Calls Try.prog 22 #[.agg #[.int .u64 a1, .int .u64 a2], .agg #[.int .u64 b1, .int .u64 b2]] W fun e w' => e = .returned (.tuple #[.agg #[.int .u64 f1, .int .u64 f2], .nilIface]) ∧ Below W.heap.size W w'))
    (Q : Hid (∀ W : World, Calls Try.prog 19 #[.agg #[.int .u64 a1, .int .u64 a2]] W fun e w' => e = .returned (.agg #[.int .u64 q1, .int .u64 q2]) ∧ Below W.heap.size W w'))
    (QR : Hid (∀ W : World, Calls Try.prog 19 #[.agg #[.int .u64 r1, .int .u64 r2]] W fun e w' => e = .returned (.agg #[.int .u64 r1, .int .u64 r2]) ∧ Below W.heap.size W w'))
    (QF : Hid (∀ W : World, Calls Try.prog 19 #[.agg #[.int .u64 f1, .int .u64 f2]] W fun e w' => e = .returned (.agg #[.int .u64 f1, .int .u64 f2]) ∧ Below W.heap.size W w'))
    (JR : Hid (∀ W : World, Calls Try.prog 17 #[.agg #[.int .u64 b1, .int .u64 b2], .agg #[.int .u64 r1, .int .u64 r2]] W fun e w' => e = .returned (.agg #[.int .u64 q1, .int .u64 q2]) ∧ Below W.heap.size W w'))
    (JF : Hid (∀ W : World, Calls Try.prog 17 #[.agg #[.int .u64 f1, .int .u64 f2], .agg #[.int .u64 b1, .int .u64 b2]] W fun e w' => e = .returned (.agg #[.int .u64 q1, .int .u64 q2]) ∧ Below W.heap.size W w')) :
    Calls Try.prog 9 #[.agg #[.int .u64 a1, .int .u64 a2], .agg #[.int .u64 b1, .int .u64 b2]] w fun e w' => e = .returned (.bool true) ∧ Below w.heap.size w w' := by
  go_enter Try.func9, Try.ntmps9
  go_wp2_with fail
  (with_reducible refine (awake_any _).mono ?_)
  rintro e w1 ⟨rfl, B1⟩
  have PA := (((Box.new w 26 #[.int .u64 a1, .int .u64 a2]).alloc _).below B1 (by simp; omega))
  have PB : Box w1 (w.heap.size + 1) 26 #[.int .u64 b1, .int .u64 b2] := (Box.new_ (by simp)).below B1 (by simp)
  have BW := bkeep (balloc (balloc (Below.refl _ _) _) _) B1
  clear B1
  go_upto_region 3 with fail
  refine region_lin0 (.val (fun v _ => v = .agg #[.int .u64 a1, .int .u64 a2]) :: .val (fun v _ => v = .agg #[.int .u64 b1, .int .u64 b2]) :: .val (fun v _ => v = .tuple #[.agg #[.int .u64 r1, .int .u64 r2], .nilIface]) :: .val (fun v _ => v = .tuple #[.agg #[.int .u64 r1, .int .u64 r2], .nilIface]) :: .val (fun v _ => v = .agg #[.int .u64 r1, .int .u64 r2]) :: .val (fun v _ => v = .nilIface) :: .new 26 #[.int .u64 0, .int .u64 0] #[.int .u64 r1, .int .u64 r2] 7 :: .put 26 #[.int .u64 0, .int .u64 0] #[.int .u64 r1, .int .u64 r2] 5 :: .val (fun v _ => v = .nilIface) :: [])
    ([] :: [] :: [(13, 0), (14, 1)] :: [(15, 2)] :: [(12, 3)] :: [(12, 3)] :: [] :: [(16, 4)] :: [(17, 5)] :: []) ((0, 0) :: (0, 0) :: (0, 0) :: (0, 0) :: (0, 0) :: (0, 0) :: (1, 7) :: (2, 5) :: (0, 0) :: []) 84 (by kernel_rfl) rfl rfl (by kernel_rfl) ⟨Stab.pure _ _ _, Stab.pure _ _ _, Stab.pure _ _ _, Stab.pure _ _ _, Stab.pure _ _ _, Stab.pure _ _ _, ⟨rfl, rfl, rfl⟩, Stab.pure _ _ _, trivial⟩ ⟨?_, ?_, ?_, ?_, ?_, ?_, ?_, ?_, ?_, trivial⟩ ?_
  · intro wx hb
    intro K hK
    have mm := Box.below (PA) hb (Box.lt (PA))
    have m0 : wx.cell? ⟨w.heap.size, 0, none⟩ = some (.int .u64 a1) := mm.cell 0
    have m1 : wx.cell? ⟨w.heap.size, 1, none⟩ = some (.int .u64 a2) := mm.cell 1
    clear mm
    go_simp
    exact hK _ _ rfl ⟨rfl, Below.refl _ _⟩
  · intro wx hb
    intro K hK
    have mm := Box.below (PB) hb (Box.lt (PB))
    have m0 : wx.cell? ⟨(w.heap.size + 1), 0, none⟩ = some (.int .u64 b1) := mm.cell 0
    have m1 : wx.cell? ⟨(w.heap.size + 1), 1, none⟩ = some (.int .u64 b2) := mm.cell 1
    clear mm
    go_simp
    exact hK _ _ rfl ⟨rfl, Below.refl _ _⟩
  · intro wx hb
    rintro _ rfl
    rintro _ rfl
    intro K hK
    go_simp
    (with_reducible refine (R.out _).mono ?_)
    rintro e wa ⟨rfl, Ba⟩
    exact hK _ _ rfl ⟨rfl, Ba⟩
  · intro wx hb
    rintro _ rfl
    intro K hK
    go_simp
    exact hK _ _ rfl ⟨rfl, Below.refl _ _⟩
  · intro wx hb
    rintro _ rfl
    intro K hK
    go_simp
    exact hK _ _ rfl ⟨rfl, Below.refl _ _⟩
  · intro wx hb
    rintro _ rfl
    intro K hK
    go_simp
    exact hK _ _ rfl ⟨rfl, Below.refl _ _⟩
  · intro wx hb
    intro K hK
    go_simp
    exact hK _ _ rfl ⟨rfl, rfl⟩
  · intro wx hb
    intro g hg hbx
    rintro _ rfl
    intro K hK
    have c0 : wx.cell? ⟨g, 0, none⟩ = some (.int .u64 0) := hbx.cell 0
    have f0 := hbx.free 0
    have c1 : wx.cell? ⟨g, 1, none⟩ = some (.int .u64 0) := hbx.cell 1
    have f1 := hbx.free 1
    clear hb
    go_simp
    exact hK _ _ rfl ((((Stored.start hbx).set 0 _).set 1 _))
  · intro wx hb
    rintro _ rfl
    intro K hK
    go_simp
    exact hK _ _ rfl ⟨rfl, Below.refl _ _⟩
  intro w2 B2
  have PA := Box.below PA B2 (Box.lt PA)
  have PB := Box.below PB B2 (Box.lt PB)
  have BW := bkeep BW B2
  rintro _ rfl
  rintro _ rfl
  rintro _ rfl
  rintro _ rfl
  rintro _ rfl
  rintro _ rfl
  intro gr hgr Br
  rintro _ rfl
  rintro -
  simp only [Act.put, List.setIfInBounds_toArray, List.set_cons_zero, List.set_cons_succ, List.toList_toArray, List.length_cons, List.length_nil, List.drop_succ_cons, List.drop_zero, List.drop_nil, Nat.zero_add, wpList]
  go_upto_region 4 with fail
  refine region_lin0 (.val (fun v _ => v = .agg #[.int .u64 a1, .int .u64 a2]) :: .val (fun v _ => v = .agg #[.int .u64 b1, .int .u64 b2]) :: .val (fun v _ => v = .tuple #[.agg #[.int .u64 f1, .int .u64 f2], .nilIface]) :: .val (fun v _ => v = .tuple #[.agg #[.int .u64 f1, .int .u64 f2], .nilIface]) :: .val (fun v _ => v = .agg #[.int .u64 f1, .int .u64 f2]) :: .val (fun v _ => v = .nilIface) :: .new 26 #[.int .u64 0, .int .u64 0] #[.int .u64 f1, .int .u64 f2] 7 :: .put 26 #[.int .u64 0, .int .u64 0] #[.int .u64 f1, .int .u64 f2] 7 :: .val (fun v _ => v = .nilIface) :: [])
    ([] :: [] :: [(19, 0), (20, 1)] :: [(21, 2)] :: [(18, 3)] :: [(18, 3)] :: [] :: [(22, 4)] :: [(23, 5)] :: []) ((0, 0) :: (0, 0) :: (0, 0) :: (0, 0) :: (0, 0) :: (0, 0) :: (1, 7) :: (2, 7) :: (0, 0) :: []) 84 (by kernel_rfl) rfl rfl (by kernel_rfl) ⟨Stab.pure _ _ _, Stab.pure _ _ _, Stab.pure _ _ _, Stab.pure _ _ _, Stab.pure _ _ _, Stab.pure _ _ _, ⟨rfl, rfl, rfl⟩, Stab.pure _ _ _, trivial⟩ ⟨?_, ?_, ?_, ?_, ?_, ?_, ?_, ?_, ?_, trivial⟩ ?_
  · intro wx hb
    intro K hK
    have mm := Box.below (PA) hb (Box.lt (PA))
    have m0 : wx.cell? ⟨w.heap.size, 0, none⟩ = some (.int .u64 a1) := mm.cell 0
    have m1 : wx.cell? ⟨w.heap.size, 1, none⟩ = some (.int .u64 a2) := mm.cell 1
    clear mm
    go_simp
    exact hK _ _ rfl ⟨rfl, Below.refl _ _⟩
  · intro wx hb
    intro K hK
    have mm := Box.below (PB) hb (Box.lt (PB))
    have m0 : wx.cell? ⟨(w.heap.size + 1), 0, none⟩ = some (.int .u64 b1) := mm.cell 0
    have m1 : wx.cell? ⟨(w.heap.size + 1), 1, none⟩ = some (.int .u64 b2) := mm.cell 1
    clear mm
    go_simp
    exact hK _ _ rfl ⟨rfl, Below.refl _ _⟩
  · intro wx hb
    rintro _ rfl
    rintro _ rfl
    intro K hK
    go_simp
    (with_reducible refine (F.out _).mono ?_)
    rintro e wa ⟨rfl, Ba⟩
    exact hK _ _ rfl ⟨rfl, Ba⟩
  · intro wx hb
    rintro _ rfl
    intro K hK
    go_simp
    exact hK _ _ rfl ⟨rfl, Below.refl _ _⟩
  · intro wx hb
    rintro _ rfl
    intro K hK
    go_simp
    exact hK _ _ rfl ⟨rfl, Below.refl _ _⟩
  · intro wx hb
    rintro _ rfl
    intro K hK
    go_simp
    exact hK _ _ rfl ⟨rfl, Below.refl _ _⟩
  · intro wx hb
    intro K hK
    go_simp
    exact hK _ _ rfl ⟨rfl, rfl⟩
  · intro wx hb
    intro g hg hbx
    rintro _ rfl
    intro K hK
    have c0 : wx.cell? ⟨g, 0, none⟩ = some (.int .u64 0) := hbx.cell 0
    have f0 := hbx.free 0
    have c1 : wx.cell? ⟨g, 1, none⟩ = some (.int .u64 0) := hbx.cell 1
    have f1 := hbx.free 1
    clear hb
    go_simp
    exact hK _ _ rfl ((((Stored.start hbx).set 0 _).set 1 _))
  · intro wx hb
    rintro _ rfl
    intro K hK
    go_simp
    exact hK _ _ rfl ⟨rfl, Below.refl _ _⟩
  intro w3 B3
  have PA := Box.below PA B3 (Box.lt PA)
  have PB := Box.below PB B3 (Box.lt PB)
  have Br := Box.below Br B3 (Box.lt Br)
  have BW := bkeep BW B3
  rintro _ rfl
  rintro _ rfl
  rintro _ rfl
  rintro _ rfl
  rintro _ rfl
  rintro _ rfl
  intro gf hgf Bf
  rintro _ rfl
  rintro -
  simp only [Act.put, List.setIfInBounds_toArray, List.set_cons_zero, List.set_cons_succ, List.toList_toArray, List.length_cons, List.length_nil, List.drop_succ_cons, List.drop_zero, List.drop_nil, Nat.zero_add, wpList]
  have c0 : w3.cell? ⟨w.heap.size, 1, none⟩ = some (.int .u64 a2) := PA.cell 1
  have c1 : w3.cell? ⟨w.heap.size + 1, 1, none⟩ = some (.int .u64 b2) := PB.cell 1
  go_upto_region 7 with fail
  refine region_lin0 (.val (fun v _ => v = .agg #[.int .u64 a1, .int .u64 a2]) :: .val (fun v _ => v = .agg #[.int .u64 q1, .int .u64 q2]) :: .new 26 #[.int .u64 0, .int .u64 0] #[.int .u64 q1, .int .u64 q2] 3 :: .put 26 #[.int .u64 0, .int .u64 0] #[.int .u64 q1, .int .u64 q2] 9 :: [])
    ([] :: [(50, 0)] :: [] :: [(51, 1)] :: []) ((0, 0) :: (0, 0) :: (1, 3) :: (2, 9) :: []) 84 (by kernel_rfl) rfl rfl (by kernel_rfl) ⟨Stab.pure _ _ _, Stab.pure _ _ _, ⟨rfl, rfl, rfl⟩, trivial⟩ ⟨?_, ?_, ?_, ?_, trivial⟩ ?_
  · intro wx hb
    intro K hK
    have mm := Box.below (PA) hb (Box.lt (PA))
    have m0 : wx.cell? ⟨w.heap.size, 0, none⟩ = some (.int .u64 a1) := mm.cell 0
    have m1 : wx.cell? ⟨w.heap.size, 1, none⟩ = some (.int .u64 a2) := mm.cell 1
    clear mm
    go_simp
    exact hK _ _ rfl ⟨rfl, Below.refl _ _⟩
  · intro wx hb
    rintro _ rfl
    intro K hK
    go_simp
    (with_reducible refine (Q.out _).mono ?_)
    rintro e wa ⟨rfl, Ba⟩
    exact hK _ _ rfl ⟨rfl, Ba⟩
  · intro wx hb
    intro K hK
    go_simp
    exact hK _ _ rfl ⟨rfl, rfl⟩
  · intro wx hb
    intro g hg hbx
    rintro _ rfl
    intro K hK
    have c0 : wx.cell? ⟨g, 0, none⟩ = some (.int .u64 0) := hbx.cell 0
    have f0 := hbx.free 0
    have c1 : wx.cell? ⟨g, 1, none⟩ = some (.int .u64 0) := hbx.cell 1
    have f1 := hbx.free 1
    clear hb
    go_simp
    exact hK _ _ rfl ((((Stored.start hbx).set 0 _).set 1 _))
  intro w4 B4
  have PA := Box.below PA B4 (Box.lt PA)
  have PB := Box.below PB B4 (Box.lt PB)
  have Br := Box.below Br B4 (Box.lt Br)
  have Bf := Box.below Bf B4 (Box.lt Bf)
  have BW := bkeep BW B4
  rintro _ rfl
  rintro _ rfl
  intro gq hgq Bq
  rintro -
  simp only [Act.put, List.setIfInBounds_toArray, List.set_cons_zero, List.set_cons_succ, List.toList_toArray, List.length_cons, List.length_nil, List.drop_succ_cons, List.drop_zero, List.drop_nil, Nat.zero_add, wpList]
  go_upto_region 8 with fail
  refine region_lin (.val (fun v _ => v = .nilIface) :: .val (fun v _ => v = .bool true) :: .val (fun v _ => v = .bool true) :: .val (fun v _ => v = .nilIface) :: .val (fun v _ => v = .bool true) :: .val (fun v _ => v = .bool true) :: .val (fun v _ => v = .bool true) :: .val (fun v _ => v = .agg #[.int .u64 r1, .int .u64 r2]) :: .val (fun v _ => v = .agg #[.int .u64 r1, .int .u64 r2]) :: .val (fun v _ => v = .agg #[.int .u64 r1, .int .u64 r2]) :: .val (fun v _ => v = .bool true) :: .val (fun v _ => v = .bool true) :: .val (fun v _ => v = .bool true) :: .val (fun v _ => v = .agg #[.int .u64 f1, .int .u64 f2]) :: .val (fun v _ => v = .agg #[.int .u64 f1, .int .u64 f2]) :: .val (fun v _ => v = .agg #[.int .u64 f1, .int .u64 f2]) :: .val (fun v _ => v = .bool true) :: .val (fun v _ => v = .bool true) :: .val (fun v _ => v = .bool true) :: .val (fun v _ => v = .agg #[.int .u64 b1, .int .u64 b2]) :: .val (fun v _ => v = .agg #[.int .u64 r1, .int .u64 r2]) :: .val (fun v _ => v = .agg #[.int .u64 q1, .int .u64 q2]) :: .val (fun v _ => v = .agg #[.int .u64 q1, .int .u64 q2]) :: .val (fun v _ => v = .bool true) :: .val (fun v _ => v = .bool true) :: .val (fun v _ => v = .bool true) :: .val (fun v _ => v = .agg #[.int .u64 f1, .int .u64 f2]) :: .val (fun v _ => v = .agg #[.int .u64 b1, .int .u64 b2]) :: .val (fun v _ => v = .agg #[.int .u64 q1, .int .u64 q2]) :: .val (fun v _ => v = .agg #[.int .u64 q1, .int .u64 q2]) :: .val (fun v _ => v = .bool true) :: .val (fun v _ => v = .bool true) :: .val (fun v _ => v = .bool true) :: [])
    ([] :: [(52, 0)] :: [(53, 1)] :: [(54, 2)] :: [(55, 3), (54, 2)] :: [(54, 2), (56, 4)] :: [(57, 5)] :: [(58, 6)] :: [(58, 6)] :: [(60, 8), (58, 6)] :: [(59, 7), (61, 9), (58, 6)] :: [(58, 6), (62, 10)] :: [(63, 11)] :: [(64, 12)] :: [(64, 12)] :: [(66, 14), (64, 12)] :: [(65, 13), (67, 15), (64, 12)] :: [(64, 12), (68, 16)] :: [(69, 17)] :: [(70, 18)] :: [(70, 18)] :: [(71, 19), (72, 20), (70, 18)] :: [(70, 18)] :: [(73, 21), (74, 22), (70, 18)] :: [(70, 18), (75, 23)] :: [(76, 24)] :: [(77, 25)] :: [(77, 25)] :: [(78, 26), (79, 27), (77, 25)] :: [(77, 25)] :: [(80, 28), (81, 29), (77, 25)] :: [(77, 25), (82, 30)] :: [(83, 31)] :: []) ((0, 0) :: (0, 0) :: (0, 0) :: (0, 0) :: (0, 0) :: (0, 0) :: (0, 0) :: (0, 0) :: (0, 0) :: (0, 0) :: (0, 0) :: (0, 0) :: (0, 0) :: (0, 0) :: (0, 0) :: (0, 0) :: (0, 0) :: (0, 0) :: (0, 0) :: (0, 0) :: (0, 0) :: (0, 0) :: (0, 0) :: (0, 0) :: (0, 0) :: (0, 0) :: (0, 0) :: (0, 0) :: (0, 0) :: (0, 0) :: (0, 0) :: (0, 0) :: (0, 0) :: []) 84 (by kernel_rfl) rfl rfl (by kernel_rfl) ⟨Stab.pure _ _ _, Stab.pure _ _ _, Stab.pure _ _ _, Stab.pure _ _ _, Stab.pure _ _ _, Stab.pure _ _ _, Stab.pure _ _ _, Stab.pure _ _ _, Stab.pure _ _ _, Stab.pure _ _ _, Stab.pure _ _ _, Stab.pure _ _ _, Stab.pure _ _ _, Stab.pure _ _ _, Stab.pure _ _ _, Stab.pure _ _ _, Stab.pure _ _ _, Stab.pure _ _ _, Stab.pure _ _ _, Stab.pure _ _ _, Stab.pure _ _ _, Stab.pure _ _ _, Stab.pure _ _ _, Stab.pure _ _ _, Stab.pure _ _ _, Stab.pure _ _ _, Stab.pure _ _ _, Stab.pure _ _ _, Stab.pure _ _ _, Stab.pure _ _ _, Stab.pure _ _ _, Stab.pure _ _ _, Stab.pure _ _ _, trivial⟩ ⟨?_, ?_, ?_, ?_, ?_, ?_, ?_, ?_, ?_, ?_, ?_, ?_, ?_, ?_, ?_, ?_, ?_, ?_, ?_, ?_, ?_, ?_, ?_, ?_, ?_, ?_, ?_, ?_, ?_, ?_, ?_, ?_, ?_, trivial⟩ ?_
  · intro wx hb
    intro K hK
    go_simp
    exact hK _ _ rfl ⟨rfl, Below.refl _ _⟩
  · intro wx hb
    rintro _ rfl
    intro K hK
    go_simp
    exact hK _ _ rfl ⟨rfl, Below.refl _ _⟩
  · intro wx hb
    rintro _ rfl
    intro K hK
    go_simp
    exact hK _ _ rfl ⟨rfl, Below.refl _ _⟩
  · intro wx hb
    rintro _ rfl
    refine ⟨fun _ => ?_, fun h => absurd (show true = false from h) (by decide)⟩
    intro K hK
    go_simp
    exact hK _ _ rfl ⟨rfl, Below.refl _ _⟩
  · intro wx hb
    rintro _ rfl
    rintro _ rfl
    refine ⟨fun _ => ?_, fun h => absurd (show true = false from h) (by decide)⟩
    intro K hK
    go_simp
    exact hK _ _ rfl ⟨rfl, Below.refl _ _⟩
  · intro wx hb
    rintro _ rfl
    rintro _ rfl
    intro K hK
    go_simp
    exact hK _ _ rfl ⟨rfl, Below.refl _ _⟩
  · intro wx hb
    rintro _ rfl
    intro K hK
    go_simp
    exact hK _ _ rfl ⟨rfl, Below.refl _ _⟩
  · intro wx hb
    rintro _ rfl
    refine ⟨fun _ => ?_, fun h => absurd (show true = false from h) (by decide)⟩
    intro K hK
    have mm := Box.below (Br) hb (Box.lt (Br))
    have m0 : wx.cell? ⟨gr, 0, none⟩ = some (.int .u64 r1) := mm.cell 0
    have m1 : wx.cell? ⟨gr, 1, none⟩ = some (.int .u64 r2) := mm.cell 1
    clear mm
    go_simp
    exact hK _ _ rfl ⟨rfl, Below.refl _ _⟩
  · intro wx hb
    rintro _ rfl
    refine ⟨fun _ => ?_, fun h => absurd (show true = false from h) (by decide)⟩
    intro K hK
    have mm := Box.below (Br) hb (Box.lt (Br))
    have m0 : wx.cell? ⟨gr, 0, none⟩ = some (.int .u64 r1) := mm.cell 0
    have m1 : wx.cell? ⟨gr, 1, none⟩ = some (.int .u64 r2) := mm.cell 1
    clear mm
    go_simp
    exact hK _ _ rfl ⟨rfl, Below.refl _ _⟩
  · intro wx hb
    rintro _ rfl
    rintro _ rfl
    refine ⟨fun _ => ?_, fun h => absurd (show true = false from h) (by decide)⟩
    intro K hK
    go_simp
    (with_reducible refine (QR.out _).mono ?_)
    rintro e wa ⟨rfl, Ba⟩
    exact hK _ _ rfl ⟨rfl, Ba⟩
  · intro wx hb
    rintro _ rfl
    rintro _ rfl
    rintro _ rfl
    refine ⟨fun _ => ?_, fun h => absurd (show true = false from h) (by decide)⟩
    intro K hK
    go_simp
    exact hK _ _ rfl ⟨rfl, Below.refl _ _⟩
  · intro wx hb
    rintro _ rfl
    rintro _ rfl
    intro K hK
    go_simp
    exact hK _ _ rfl ⟨rfl, Below.refl _ _⟩
  · intro wx hb
    rintro _ rfl
    intro K hK
    go_simp
    exact hK _ _ rfl ⟨rfl, Below.refl _ _⟩
  · intro wx hb
    rintro _ rfl
    refine ⟨fun _ => ?_, fun h => absurd (show true = false from h) (by decide)⟩
    intro K hK
    have mm := Box.below (Bf) hb (Box.lt (Bf))
    have m0 : wx.cell? ⟨gf, 0, none⟩ = some (.int .u64 f1) := mm.cell 0
    have m1 : wx.cell? ⟨gf, 1, none⟩ = some (.int .u64 f2) := mm.cell 1
    clear mm
    go_simp
    exact hK _ _ rfl ⟨rfl, Below.refl _ _⟩
  · intro wx hb
    rintro _ rfl
    refine ⟨fun _ => ?_, fun h => absurd (show true = false from h) (by decide)⟩
    intro K hK
    have mm := Box.below (Bf) hb (Box.lt (Bf))
    have m0 : wx.cell? ⟨gf, 0, none⟩ = some (.int .u64 f1) := mm.cell 0
    have m1 : wx.cell? ⟨gf, 1, none⟩ = some (.int .u64 f2) := mm.cell 1
    clear mm
    go_simp
    exact hK _ _ rfl ⟨rfl, Below.refl _ _⟩
  · intro wx hb
    rintro _ rfl
    rintro _ rfl
    refine ⟨fun _ => ?_, fun h => absurd (show true = false from h) (by decide)⟩
    intro K hK
    go_simp
    (with_reducible refine (QF.out _).mono ?_)
    rintro e wa ⟨rfl, Ba⟩
    exact hK _ _ rfl ⟨rfl, Ba⟩
  · intro wx hb
    rintro _ rfl
    rintro _ rfl
    rintro _ rfl
    refine ⟨fun _ => ?_, fun h => absurd (show true = false from h) (by decide)⟩
    intro K hK
    go_simp
    exact hK _ _ rfl ⟨rfl, Below.refl _ _⟩
  · intro wx hb
    rintro _ rfl
    rintro _ rfl
    intro K hK
    go_simp
    exact hK _ _ rfl ⟨rfl, Below.refl _ _⟩
  · intro wx hb
    rintro _ rfl
    intro K hK
    go_simp
    exact hK _ _ rfl ⟨rfl, Below.refl _ _⟩
  · intro wx hb
    rintro _ rfl
    refine ⟨fun _ => ?_, fun h => absurd (show true = false from h) (by decide)⟩
    intro K hK
    have mm := Box.below (PB) hb (Box.lt (PB))
    have m0 : wx.cell? ⟨(w.heap.size + 1), 0, none⟩ = some (.int .u64 b1) := mm.cell 0
    have m1 : wx.cell? ⟨(w.heap.size + 1), 1, none⟩ = some (.int .u64 b2) := mm.cell 1
    clear mm
    go_simp
    exact hK _ _ rfl ⟨rfl, Below.refl _ _⟩
  · intro wx hb
    rintro _ rfl
    refine ⟨fun _ => ?_, fun h => absurd (show true = false from h) (by decide)⟩
    intro K hK
    have mm := Box.below (Br) hb (Box.lt (Br))
    have m0 : wx.cell? ⟨gr, 0, none⟩ = some (.int .u64 r1) := mm.cell 0
    have m1 : wx.cell? ⟨gr, 1, none⟩ = some (.int .u64 r2) := mm.cell 1
    clear mm
    go_simp
    exact hK _ _ rfl ⟨rfl, Below.refl _ _⟩
  · intro wx hb
    rintro _ rfl
    rintro _ rfl
    rintro _ rfl
    refine ⟨fun _ => ?_, fun h => absurd (show true = false from h) (by decide)⟩
    intro K hK
    go_simp
    (with_reducible refine (JR.out _).mono ?_)
    rintro e wa ⟨rfl, Ba⟩
    exact hK _ _ rfl ⟨rfl, Ba⟩
  · intro wx hb
    rintro _ rfl
    refine ⟨fun _ => ?_, fun h => absurd (show true = false from h) (by decide)⟩
    intro K hK
    have mm := Box.below (Bq) hb (Box.lt (Bq))
    have m0 : wx.cell? ⟨gq, 0, none⟩ = some (.int .u64 q1) := mm.cell 0
    have m1 : wx.cell? ⟨gq, 1, none⟩ = some (.int .u64 q2) := mm.cell 1
    clear mm
    go_simp
    exact hK _ _ rfl ⟨rfl, Below.refl _ _⟩
  · intro wx hb
    rintro _ rfl
    rintro _ rfl
    rintro _ rfl
    refine ⟨fun _ => ?_, fun h => absurd (show true = false from h) (by decide)⟩
    intro K hK
    go_simp
    exact hK _ _ rfl ⟨rfl, Below.refl _ _⟩
  · intro wx hb
    rintro _ rfl
    rintro _ rfl
    intro K hK
    go_simp
    exact hK _ _ rfl ⟨rfl, Below.refl _ _⟩
  · intro wx hb
    rintro _ rfl
    intro K hK
    go_simp
    exact hK _ _ rfl ⟨rfl, Below.refl _ _⟩
  · intro wx hb
    rintro _ rfl
    refine ⟨fun _ => ?_, fun h => absurd (show true = false from h) (by decide)⟩
    intro K hK
    have mm := Box.below (Bf) hb (Box.lt (Bf))
    have m0 : wx.cell? ⟨gf, 0, none⟩ = some (.int .u64 f1) := mm.cell 0
    have m1 : wx.cell? ⟨gf, 1, none⟩ = some (.int .u64 f2) := mm.cell 1
    clear mm
    go_simp
    exact hK _ _ rfl ⟨rfl, Below.refl _ _⟩
  · intro wx hb
    rintro _ rfl
    refine ⟨fun _ => ?_, fun h => absurd (show true = false from h) (by decide)⟩
    intro K hK
    have mm := Box.below (PB) hb (Box.lt (PB))
    have m0 : wx.cell? ⟨(w.heap.size + 1), 0, none⟩ = some (.int .u64 b1) := mm.cell 0
    have m1 : wx.cell? ⟨(w.heap.size + 1), 1, none⟩ = some (.int .u64 b2) := mm.cell 1
    clear mm
    go_simp
    exact hK _ _ rfl ⟨rfl, Below.refl _ _⟩
  · intro wx hb
    rintro _ rfl
    rintro _ rfl
    rintro _ rfl
    refine ⟨fun _ => ?_, fun h => absurd (show true = false from h) (by decide)⟩
    intro K hK
    go_simp
    (with_reducible refine (JF.out _).mono ?_)
    rintro e wa ⟨rfl, Ba⟩
    exact hK _ _ rfl ⟨rfl, Ba⟩
  · intro wx hb
    rintro _ rfl
    refine ⟨fun _ => ?_, fun h => absurd (show true = false from h) (by decide)⟩
    intro K hK
    have mm := Box.below (Bq) hb (Box.lt (Bq))
    have m0 : wx.cell? ⟨gq, 0, none⟩ = some (.int .u64 q1) := mm.cell 0
    have m1 : wx.cell? ⟨gq, 1, none⟩ = some (.int .u64 q2) := mm.cell 1
    clear mm
    go_simp
    exact hK _ _ rfl ⟨rfl, Below.refl _ _⟩
  · intro wx hb
    rintro _ rfl
    rintro _ rfl
    rintro _ rfl
    refine ⟨fun _ => ?_, fun h => absurd (show true = false from h) (by decide)⟩
    intro K hK
    go_simp
    exact hK _ _ rfl ⟨rfl, Below.refl _ _⟩
  · intro wx hb
    rintro _ rfl
    rintro _ rfl
    intro K hK
    go_simp
    exact hK _ _ rfl ⟨rfl, Below.refl _ _⟩
  · intro wx hb
    rintro _ rfl
    intro K hK
    go_simp
    exact hK _ _ rfl ⟨rfl, Below.refl _ _⟩
  intro w5 B5
  have BW := bkeep BW B5
  rintro _ rfl
  rintro _ rfl
  rintro _ rfl
  rintro _ rfl
  rintro _ rfl
  rintro _ rfl
  rintro _ rfl
  rintro _ rfl
  rintro _ rfl
  rintro _ rfl
  rintro _ rfl
  rintro _ rfl
  rintro _ rfl
  rintro _ rfl
  rintro _ rfl
  rintro _ rfl
  rintro _ rfl
  rintro _ rfl
  rintro _ rfl
  rintro _ rfl
  rintro _ rfl
  rintro _ rfl
  rintro _ rfl
  rintro _ rfl
  rintro _ rfl
  rintro _ rfl
  rintro _ rfl
  rintro _ rfl
  rintro _ rfl
  rintro _ rfl
  rintro _ rfl
  rintro _ rfl
  rintro _ rfl
  rintro -
  simp only [Act.put, List.setIfInBounds_toArray, List.set_cons_zero, List.set_cons_succ, List.toList_toArray, List.length_cons, List.length_nil, List.drop_succ_cons, List.drop_zero, List.drop_nil, Nat.zero_add, wpList]
  go_wp2_with fail
  go_ret
  exact ⟨rfl, BW⟩

set_option maxHeartbeats 4000000 in
theorem parts_bad (a1 a2 b1 b2 : Int) (pa : 0 ≤ a2) (pb : 0 ≤ b2) (hz : a2 % 2305843009213693951 = 0 ∨ a2 % 2305843009213693951 ≠ 0 ∧ b2 % 2305843009213693951 = 0) (w : World)
    (R : Hid (∀ W : World, Calls Try.prog 21 #[.agg #[.int .u64 a1, .int .u64 a2], .agg #[.int .u64 b1, .int .u64 b2]] W fun e w' => e = .returned (.tuple #[.agg #[.int .u64 0, .int .u64 0], .iface 48 (.int .i64 1)]) ∧ Below W.heap.size W w'))
    (F : Hid (∀ W : World, Calls Try.prog 22 #[.agg #[.int .u64 a1, .int .u64 a2], .agg #[.int .u64 b1, .int .u64 b2]] W fun e w' => e = .returned (.tuple #[.agg #[.int .u64 0, .int .u64 0], .iface 48 (.int .i64 1)]) ∧ Below W.heap.size W w')) :
    Calls Try.prog 9 #[.agg #[.int .u64 a1, .int .u64 a2], .agg #[.int .u64 b1, .int .u64 b2]] w fun e w' => e = .returned (.bool true) ∧ Below w.heap.size w w' := by
  have hz' : (a2 % 2305843009213693951 == 0) = true ∨ (a2 % 2305843009213693951 == 0) = false ∧ (b2 % 2305843009213693951 == 0) = true := by
    rcases hz with h | ⟨h, h'⟩
    · exact .inl (by rw [beq_iff_eq]; exact h)
    · exact .inr ⟨by rw [beq_eq_false_iff_ne]; exact h, by rw [beq_iff_eq]; exact h'⟩
  clear hz
  go_enter Try.func9, Try.ntmps9
  go_wp2_with fail
  (with_reducible refine (awake_any _).mono ?_)
  rintro e w1 ⟨rfl, B1⟩
  have PA := (((Box.new w 26 #[.int .u64 a1, .int .u64 a2]).alloc _).below B1 (by simp; omega))
  have PB : Box w1 (w.heap.size + 1) 26 #[.int .u64 b1, .int .u64 b2] := (Box.new_ (by simp)).below B1 (by simp)
  have BW := bkeep (balloc (balloc (Below.refl _ _) _) _) B1
  clear B1
  go_upto_region 3 with fail
  refine region_lin0 (.val (fun v _ => v = .agg #[.int .u64 a1, .int .u64 a2]) :: .val (fun v _ => v = .agg #[.int .u64 b1, .int .u64 b2]) :: .val (fun v _ => v = .tuple #[.agg #[.int .u64 0, .int .u64 0], .iface 48 (.int .i64 1)]) :: .val (fun v _ => v = .tuple #[.agg #[.int .u64 0, .int .u64 0], .iface 48 (.int .i64 1)]) :: .val (fun v _ => v = .agg #[.int .u64 0, .int .u64 0]) :: .val (fun v _ => v = .iface 48 (.int .i64 1)) :: .new 26 #[.int .u64 0, .int .u64 0] #[.int .u64 0, .int .u64 0] 7 :: .put 26 #[.int .u64 0, .int .u64 0] #[.int .u64 0, .int .u64 0] 5 :: .val (fun v _ => v = .iface 48 (.int .i64 1)) :: [])
    ([] :: [] :: [(13, 0), (14, 1)] :: [(15, 2)] :: [(12, 3)] :: [(12, 3)] :: [] :: [(16, 4)] :: [(17, 5)] :: []) ((0, 0) :: (0, 0) :: (0, 0) :: (0, 0) :: (0, 0) :: (0, 0) :: (1, 7) :: (2, 5) :: (0, 0) :: []) 84 (by kernel_rfl) rfl rfl (by kernel_rfl) ⟨Stab.pure _ _ _, Stab.pure _ _ _, Stab.pure _ _ _, Stab.pure _ _ _, Stab.pure _ _ _, Stab.pure _ _ _, ⟨rfl, rfl, rfl⟩, Stab.pure _ _ _, trivial⟩ ⟨?_, ?_, ?_, ?_, ?_, ?_, ?_, ?_, ?_, trivial⟩ ?_
  · intro wx hb
    intro K hK
    have mm := Box.below (PA) hb (Box.lt (PA))
    have m0 : wx.cell? ⟨w.heap.size, 0, none⟩ = some (.int .u64 a1) := mm.cell 0
    have m1 : wx.cell? ⟨w.heap.size, 1, none⟩ = some (.int .u64 a2) := mm.cell 1
    clear mm
    go_simp
    exact hK _ _ rfl ⟨rfl, Below.refl _ _⟩
  · intro wx hb
    intro K hK
    have mm := Box.below (PB) hb (Box.lt (PB))
    have m0 : wx.cell? ⟨(w.heap.size + 1), 0, none⟩ = some (.int .u64 b1) := mm.cell 0
    have m1 : wx.cell? ⟨(w.heap.size + 1), 1, none⟩ = some (.int .u64 b2) := mm.cell 1
    clear mm
    go_simp
    exact hK _ _ rfl ⟨rfl, Below.refl _ _⟩
  · intro wx hb
    rintro _ rfl
    rintro _ rfl
    intro K hK
    go_simp
    (with_reducible refine (R.out _).mono ?_)
    rintro e wa ⟨rfl, Ba⟩
    exact hK _ _ rfl ⟨rfl, Ba⟩
  · intro wx hb
    rintro _ rfl
    intro K hK
    go_simp
    exact hK _ _ rfl ⟨rfl, Below.refl _ _⟩
  · intro wx hb
    rintro _ rfl
    intro K hK
    go_simp
    exact hK _ _ rfl ⟨rfl, Below.refl _ _⟩
  · intro wx hb
    rintro _ rfl
    intro K hK
    go_simp
    exact hK _ _ rfl ⟨rfl, Below.refl _ _⟩
  · intro wx hb
    intro K hK
    go_simp
    exact hK _ _ rfl ⟨rfl, rfl⟩
  · intro wx hb
    intro g hg hbx
    rintro _ rfl
    intro K hK
    have c0 : wx.cell? ⟨g, 0, none⟩ = some (.int .u64 0) := hbx.cell 0
    have f0 := hbx.free 0
    have c1 : wx.cell? ⟨g, 1, none⟩ = some (.int .u64 0) := hbx.cell 1
    have f1 := hbx.free 1
    clear hb
    go_simp
    exact hK _ _ rfl ((((Stored.start hbx).set 0 _).set 1 _))
  · intro wx hb
    rintro _ rfl
    intro K hK
    go_simp
    exact hK _ _ rfl ⟨rfl, Below.refl _ _⟩
  intro w2 B2
  have PA := Box.below PA B2 (Box.lt PA)
  have PB := Box.below PB B2 (Box.lt PB)
  have BW := bkeep BW B2
  rintro _ rfl
  rintro _ rfl
  rintro _ rfl
  rintro _ rfl
  rintro _ rfl
  rintro _ rfl
  intro gr hgr Br
  rintro _ rfl
  rintro -
  simp only [Act.put, List.setIfInBounds_toArray, List.set_cons_zero, List.set_cons_succ, List.toList_toArray, List.length_cons, List.length_nil, List.drop_succ_cons, List.drop_zero, List.drop_nil, Nat.zero_add, wpList]
  go_upto_region 4 with fail
  refine region_lin0 (.val (fun v _ => v = .agg #[.int .u64 a1, .int .u64 a2]) :: .val (fun v _ => v = .agg #[.int .u64 b1, .int .u64 b2]) :: .val (fun v _ => v = .tuple #[.agg #[.int .u64 0, .int .u64 0], .iface 48 (.int .i64 1)]) :: .val (fun v _ => v = .tuple #[.agg #[.int .u64 0, .int .u64 0], .iface 48 (.int .i64 1)]) :: .val (fun v _ => v = .agg #[.int .u64 0, .int .u64 0]) :: .val (fun v _ => v = .iface 48 (.int .i64 1)) :: .new 26 #[.int .u64 0, .int .u64 0] #[.int .u64 0, .int .u64 0] 7 :: .put 26 #[.int .u64 0, .int .u64 0] #[.int .u64 0, .int .u64 0] 7 :: .val (fun v _ => v = .iface 48 (.int .i64 1)) :: [])
    ([] :: [] :: [(19, 0), (20, 1)] :: [(21, 2)] :: [(18, 3)] :: [(18, 3)] :: [] :: [(22, 4)] :: [(23, 5)] :: []) ((0, 0) :: (0, 0) :: (0, 0) :: (0, 0) :: (0, 0) :: (0, 0) :: (1, 7) :: (2, 7) :: (0, 0) :: []) 84 (by kernel_rfl) rfl rfl (by kernel_rfl) ⟨Stab.pure _ _ _, Stab.pure _ _ _, Stab.pure _ _ _, Stab.pure _ _ _, Stab.pure _ _ _, Stab.pure _ _ _, ⟨rfl, rfl, rfl⟩, Stab.pure _ _ _, trivial⟩ ⟨?_, ?_, ?_, ?_, ?_, ?_, ?_, ?_, ?_, trivial⟩ ?_
  · intro wx hb
    intro K hK
    have mm := Box.below (PA) hb (Box.lt (PA))
    have m0 : wx.cell? ⟨w.heap.size, 0, none⟩ = some (.int .u64 a1) := mm.cell 0
    have m1 : wx.cell? ⟨w.heap.size, 1, none⟩ = some (.int .u64 a2) := mm.cell 1
    clear mm
    go_simp
    exact hK _ _ rfl ⟨rfl, Below.refl _ _⟩
  · intro wx hb
    intro K hK
    have mm := Box.below (PB) hb (Box.lt (PB))
    have m0 : wx.cell? ⟨(w.heap.size + 1), 0, none⟩ = some (.int .u64 b1) := mm.cell 0
    have m1 : wx.cell? ⟨(w.heap.size + 1), 1, none⟩ = some (.int .u64 b2) := mm.cell 1
    clear mm
    go_simp
    exact hK _ _ rfl ⟨rfl, Below.refl _ _⟩
  · intro wx hb
    rintro _ rfl
    rintro _ rfl
    intro K hK
    go_simp
    (with_reducible refine (F.out _).mono ?_)
    rintro e wa ⟨rfl, Ba⟩
    exact hK _ _ rfl ⟨rfl, Ba⟩
  · intro wx hb
    rintro _ rfl
    intro K hK
    go_simp
    exact hK _ _ rfl ⟨rfl, Below.refl _ _⟩
  · intro wx hb
    rintro _ rfl
    intro K hK
    go_simp
    exact hK _ _ rfl ⟨rfl, Below.refl _ _⟩
  · intro wx hb
    rintro _ rfl
    intro K hK
    go_simp
    exact hK _ _ rfl ⟨rfl, Below.refl _ _⟩
  · intro wx hb
    intro K hK
    go_simp
    exact hK _ _ rfl ⟨rfl, rfl⟩
  · intro wx hb
    intro g hg hbx
    rintro _ rfl
    intro K hK
    have c0 : wx.cell? ⟨g, 0, none⟩ = some (.int .u64 0) := hbx.cell 0
    have f0 := hbx.free 0
    have c1 : wx.cell? ⟨g, 1, none⟩ = some (.int .u64 0) := hbx.cell 1
    have f1 := hbx.free 1
    clear hb
    go_simp
    exact hK _ _ rfl ((((Stored.start hbx).set 0 _).set 1 _))
  · intro wx hb
    rintro _ rfl
    intro K hK
    go_simp
    exact hK _ _ rfl ⟨rfl, Below.refl _ _⟩
  intro w3 B3
  have PA := Box.below PA B3 (Box.lt PA)
  have PB := Box.below PB B3 (Box.lt PB)
  have Br := Box.below Br B3 (Box.lt Br)
  have BW := bkeep BW B3
  rintro _ rfl
  rintro _ rfl
  rintro _ rfl
  rintro _ rfl
  rintro _ rfl
  rintro _ rfl
  intro gf hgf Bf
  rintro _ rfl
  rintro -
  simp only [Act.put, List.setIfInBounds_toArray, List.set_cons_zero, List.set_cons_succ, List.toList_toArray, List.length_cons, List.length_nil, List.drop_succ_cons, List.drop_zero, List.drop_nil, Nat.zero_add, wpList]
  have c0 : w3.cell? ⟨w.heap.size, 1, none⟩ = some (.int .u64 a2) := PA.cell 1
  have c1 : w3.cell? ⟨w.heap.size + 1, 1, none⟩ = some (.int .u64 b2) := PB.cell 1
  have r0 : w3.cell? ⟨gr, 0, none⟩ = some (.int .u64 0) := Br.cell 0
  have r1 : w3.cell? ⟨gr, 1, none⟩ = some (.int .u64 0) := Br.cell 1
  have f0 : w3.cell? ⟨gf, 0, none⟩ = some (.int .u64 0) := Bf.cell 0
  have f1 : w3.cell? ⟨gf, 1, none⟩ = some (.int .u64 0) := Bf.cell 1
  clear PA PB Br Bf
  rcases hz' with ta | ⟨ta, tb⟩
  all_goals
    go_wp2_with ((go_at_call 23; ((with_reducible refine (is_yes 1 rfl _).mono ?_); (rintro e wa ⟨rfl, rfl⟩))))
    go_ret
    exact ⟨rfl, BW⟩

theorem law_parts (a1 a2 b1 b2 : Int) (ha : DigOk a1 a2) (hb : DigOk b1 b2) (w : World) :
    Calls Try.prog 9 #[.agg #[.int .u64 a1, .int .u64 a2], .agg #[.int .u64 b1, .int .u64 b2]] w fun e w' => e = .returned (.bool true) ∧ Below w.heap.size w w' := by
  have ra : ∀ x : Int, red x = x % 2305843009213693951 := fun x => rfl
  by_cases hz : a2 % 2305843009213693951 = 0
  · exact parts_bad a1 a2 b1 b2 ha.sc.lo hb.sc.lo (.inl hz) w (Lib.hid fun W => rest_bad a1 a2 b1 b2 ha.sc hb.sc (.inr (by rw [ra]; exact hz)) W) (Lib.hid fun W => front_bad a1 a2 b1 b2 ha.sc hb.sc (.inr (by rw [ra]; exact hz)) W)
  · by_cases hy : b2 % 2305843009213693951 = 0
    · exact parts_bad a1 a2 b1 b2 ha.sc.lo hb.sc.lo (.inr ⟨hz, hy⟩) w (Lib.hid fun W => rest_bad a1 a2 b1 b2 ha.sc hb.sc (.inl (by rw [ra]; exact hy)) W) (Lib.hid fun W => front_bad a1 a2 b1 b2 ha.sc hb.sc (.inl (by rw [ra]; exact hy)) W)
    · have za : red a2 ≠ 0 := by rw [ra]; exact hz
      have zb : red b2 ≠ 0 := by rw [ra]; exact hy
      obtain ⟨e1, e2⟩ := whole_rest a1 a2 b1 b2 hb.sc.lo zb
      obtain ⟨e3, e4⟩ := whole_front a1 a2 b1 b2 hb.sc.lo zb
      refine parts_ok a1 a2 b1 b2 _ _ _ _ (red a1) (red a2) (Lib.hid za) (Lib.hid zb) (by rw [beq_eq_false_iff_ne]; exact hz) (by rw [beq_eq_false_iff_ne]; exact hy) ha.sc.lo hb.sc.lo w
        (Lib.hid fun W => rest_ok a1 a2 b1 b2 ha.va ha.sc hb.va hb.sc zb za W) (Lib.hid fun W => front_ok a1 a2 b1 b2 ha.va ha.sc hb.va hb.sc zb za W) (Lib.hid fun W => rred_any a1 a2 ha.va ha.sc W)
        (Lib.hid fun W => ?_) (Lib.hid fun W => ?_) (Lib.hid fun W => ?_) (Lib.hid fun W => ?_)
      · have h := rred_any _ _ (u_red (a1 - red (b1 * red (a2 * inv b2)))) (u_red (a2 * inv b2)) W
        rwa [red_red, red_red] at h
      · have h := rred_any _ _ (u_red (red (a1 - b1) * inv b2)) (u_red (a2 * inv b2)) W
        rwa [red_red, red_red] at h
      · have h := rjoin_any _ _ _ _ hb.va hb.sc (u_red (a1 - red (b1 * red (a2 * inv b2)))) (u_red (a2 * inv b2)) W
        rwa [e1, e2] at h
      · have h := rjoin_any _ _ _ _ (u_red (red (a1 - b1) * inv b2)) (u_red (a2 * inv b2)) hb.va hb.sc W
        rwa [e3, e4] at h
end Go.Proofs.Ytebjdlimboifaaa
