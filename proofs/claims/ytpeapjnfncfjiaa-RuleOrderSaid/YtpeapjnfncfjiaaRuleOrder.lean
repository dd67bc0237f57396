/- The walk of the law RuleOrder. -/
import Derived.Test.YtpeapjnfncfjiaaRuleLess2
import Derived.Test.YtpeapjnfncfjiaaOpenRule
namespace Go.Proofs.Ytpeapjnfncfjiaa
set_option linter.unusedVariables false
set_option linter.unusedSimpArgs false
open Go.RowKit Go.Lib

attribute [local go_sem ↓] Go.wp_at_zero Go.wp_at_succ
set_option maxHeartbeats 4000000 in
theorem order_eq (a1 a2 a3 a4 a5 b1 b2 b3 b4 b5 c1 c2 c3 c4 c5 : Int) (w : World)
    (H1 : Hid (∀ W : World, Calls Try.prog 21 #[.agg #[.int .i64 a1, .int .u8 a2, .int .i64 a3, .int .i64 a4, .int .i64 a5], .agg #[.int .i64 a1, .int .u8 a2, .int .i64 a3, .int .i64 a4, .int .i64 a5]] W fun e w' => e = .returned (.bool false) ∧ Below W.heap.size W w'))
    (H2 : Hid (∀ W : World, Calls Try.prog 22 #[.agg #[.int .i64 a1, .int .u8 a2, .int .i64 a3, .int .i64 a4, .int .i64 a5], .agg #[.int .i64 a1, .int .u8 a2, .int .i64 a3, .int .i64 a4, .int .i64 a5]] W fun e w' => e = .returned (.bool false) ∧ Below W.heap.size W w'))
    (H3 : Hid (∀ W : World, Calls Try.prog 21 #[.agg #[.int .i64 a1, .int .u8 a2, .int .i64 a3, .int .i64 a4, .int .i64 a5], .agg #[.int .i64 a1, .int .u8 a2, .int .i64 a3, .int .i64 a4, .int .i64 a5]] W fun e w' => e = .returned (.bool false) ∧ Below W.heap.size W w'))
    (H4 : Hid (∀ W : World, Calls Try.prog 21 #[.agg #[.int .i64 a1, .int .u8 a2, .int .i64 a3, .int .i64 a4, .int .i64 a5], .agg #[.int .i64 a1, .int .u8 a2, .int .i64 a3, .int .i64 a4, .int .i64 a5]] W fun e w' => e = .returned (.bool false) ∧ Below W.heap.size W w'))
    (H5 : Hid (False → ∀ W : World, Calls Try.prog 21 #[.agg #[.int .i64 a1, .int .u8 a2, .int .i64 a3, .int .i64 a4, .int .i64 a5], .agg #[.int .i64 c1, .int .u8 c2, .int .i64 c3, .int .i64 c4, .int .i64 c5]] W fun e w' => e = .returned (.bool false) ∧ Below W.heap.size W w'))
    (H6 : Hid (False → ∀ W : World, Calls Try.prog 21 #[.agg #[.int .i64 a1, .int .u8 a2, .int .i64 a3, .int .i64 a4, .int .i64 a5], .agg #[.int .i64 c1, .int .u8 c2, .int .i64 c3, .int .i64 c4, .int .i64 c5]] W fun e w' => e = .returned (.bool true) ∧ Below W.heap.size W w'))
    (H7 : Hid (∀ W : World, Calls Try.prog 21 #[.agg #[.int .i64 0, .int .u8 0, .int .i64 0, .int .i64 0, .int .i64 0], .agg #[.int .i64 1, .int .u8 0, .int .i64 0, .int .i64 0, .int .i64 0]] W fun e w' => e = .returned (.bool true) ∧ Below W.heap.size W w')) :
    Calls Try.prog 6 #[.agg #[.int .i64 a1, .int .u8 a2, .int .i64 a3, .int .i64 a4, .int .i64 a5, .int .i64 a1, .int .u8 a2, .int .i64 a3, .int .i64 a4, .int .i64 a5, .int .i64 c1, .int .u8 c2, .int .i64 c3, .int .i64 c4, .int .i64 c5]] w fun e w' => e = .returned (.bool true) ∧ Below w.heap.size w w' := by
  have PL := Lib.hid (Box.new w 42 #[.int .i64 a1, .int .u8 a2, .int .i64 a3, .int .i64 a4, .int .i64 a5, .int .i64 a1, .int .u8 a2, .int .i64 a3, .int .i64 a4, .int .i64 a5, .int .i64 c1, .int .u8 c2, .int .i64 c3, .int .i64 c4, .int .i64 c5])
  go_enter Try.func6, Try.ntmps6
  go_upto_region 1 with fail
  refine region_lin (.val (fun v _ => v = .pointer (some ⟨w.heap.size, 0, none⟩)) :: .val (fun v _ => v = .agg #[.int .i64 a1, .int .u8 a2, .int .i64 a3, .int .i64 a4, .int .i64 a5]) :: .val (fun v _ => v = .pointer (some ⟨w.heap.size, 5, none⟩)) :: .val (fun v _ => v = .agg #[.int .i64 a1, .int .u8 a2, .int .i64 a3, .int .i64 a4, .int .i64 a5]) :: .val (fun v _ => v = .pointer (some ⟨w.heap.size, 10, none⟩)) :: .val (fun v _ => v = .agg #[.int .i64 c1, .int .u8 c2, .int .i64 c3, .int .i64 c4, .int .i64 c5]) :: .new 24 #[.int .i64 0, .int .u8 0, .int .i64 0, .int .i64 0, .int .i64 0] #[.int .i64 a1, .int .u8 a2, .int .i64 a3, .int .i64 a4, .int .i64 a5] 9 :: .new 24 #[.int .i64 0, .int .u8 0, .int .i64 0, .int .i64 0, .int .i64 0] #[.int .i64 a1, .int .u8 a2, .int .i64 a3, .int .i64 a4, .int .i64 a5] 10 :: .new 24 #[.int .i64 0, .int .u8 0, .int .i64 0, .int .i64 0, .int .i64 0] #[.int .i64 c1, .int .u8 c2, .int .i64 c3, .int .i64 c4, .int .i64 c5] 11 :: .put 24 #[.int .i64 0, .int .u8 0, .int .i64 0, .int .i64 0, .int .i64 0] #[.int .i64 a1, .int .u8 a2, .int .i64 a3, .int .i64 a4, .int .i64 a5] 3 :: .put 24 #[.int .i64 0, .int .u8 0, .int .i64 0, .int .i64 0, .int .i64 0] #[.int .i64 a1, .int .u8 a2, .int .i64 a3, .int .i64 a4, .int .i64 a5] 4 :: .put 24 #[.int .i64 0, .int .u8 0, .int .i64 0, .int .i64 0, .int .i64 0] #[.int .i64 c1, .int .u8 c2, .int .i64 c3, .int .i64 c4, .int .i64 c5] 5 :: [])
    ([] :: [(6, 0)] :: [] :: [(8, 2)] :: [] :: [(10, 4)] :: [] :: [] :: [] :: [(7, 1)] :: [(9, 3)] :: [(11, 5)] :: []) ((0, 0) :: (0, 0) :: (0, 0) :: (0, 0) :: (0, 0) :: (0, 0) :: (1, 9) :: (1, 10) :: (1, 11) :: (2, 3) :: (2, 4) :: (2, 5) :: []) 58 (by kernel_rfl) rfl rfl (by kernel_rfl) ⟨Stab.pure _ _ _, Stab.pure _ _ _, Stab.pure _ _ _, Stab.pure _ _ _, Stab.pure _ _ _, Stab.pure _ _ _, ⟨rfl, rfl, rfl⟩, ⟨rfl, rfl, rfl⟩, ⟨rfl, rfl, rfl⟩, trivial⟩ ⟨?_, ?_, ?_, ?_, ?_, ?_, ?_, ?_, ?_, ?_, ?_, ?_, trivial⟩ ?_
  · intro wx hb
    intro K hK
    go_simp
    exact hK _ _ rfl ⟨rfl, Below.refl _ _⟩
  · intro wx hb
    rintro _ rfl
    intro K hK
    have mm := Box.below (PL.out) hb (Box.lt (PL.out))
    have m0 : wx.cell? ⟨w.heap.size, 0, none⟩ = some (.int .i64 a1) := mm.cell 0
    have m1 : wx.cell? ⟨w.heap.size, 1, none⟩ = some (.int .u8 a2) := mm.cell 1
    have m2 : wx.cell? ⟨w.heap.size, 2, none⟩ = some (.int .i64 a3) := mm.cell 2
    have m3 : wx.cell? ⟨w.heap.size, 3, none⟩ = some (.int .i64 a4) := mm.cell 3
    have m4 : wx.cell? ⟨w.heap.size, 4, none⟩ = some (.int .i64 a5) := mm.cell 4
    have m5 : wx.cell? ⟨w.heap.size, 5, none⟩ = some (.int .i64 a1) := mm.cell 5
    have m6 : wx.cell? ⟨w.heap.size, 6, none⟩ = some (.int .u8 a2) := mm.cell 6
    have m7 : wx.cell? ⟨w.heap.size, 7, none⟩ = some (.int .i64 a3) := mm.cell 7
    have m8 : wx.cell? ⟨w.heap.size, 8, none⟩ = some (.int .i64 a4) := mm.cell 8
    have m9 : wx.cell? ⟨w.heap.size, 9, none⟩ = some (.int .i64 a5) := mm.cell 9
    have m10 : wx.cell? ⟨w.heap.size, 10, none⟩ = some (.int .i64 c1) := mm.cell 10
    have m11 : wx.cell? ⟨w.heap.size, 11, none⟩ = some (.int .u8 c2) := mm.cell 11
    have m12 : wx.cell? ⟨w.heap.size, 12, none⟩ = some (.int .i64 c3) := mm.cell 12
    have m13 : wx.cell? ⟨w.heap.size, 13, none⟩ = some (.int .i64 c4) := mm.cell 13
    have m14 : wx.cell? ⟨w.heap.size, 14, none⟩ = some (.int .i64 c5) := mm.cell 14
    clear mm
    go_simp
    exact hK _ _ rfl ⟨rfl, Below.refl _ _⟩
  · intro wx hb
    intro K hK
    go_simp
    exact hK _ _ rfl ⟨rfl, Below.refl _ _⟩
  · intro wx hb
    rintro _ rfl
    intro K hK
    have mm := Box.below (PL.out) hb (Box.lt (PL.out))
    have m0 : wx.cell? ⟨w.heap.size, 0, none⟩ = some (.int .i64 a1) := mm.cell 0
    have m1 : wx.cell? ⟨w.heap.size, 1, none⟩ = some (.int .u8 a2) := mm.cell 1
    have m2 : wx.cell? ⟨w.heap.size, 2, none⟩ = some (.int .i64 a3) := mm.cell 2
    have m3 : wx.cell? ⟨w.heap.size, 3, none⟩ = some (.int .i64 a4) := mm.cell 3
    have m4 : wx.cell? ⟨w.heap.size, 4, none⟩ = some (.int .i64 a5) := mm.cell 4
    have m5 : wx.cell? ⟨w.heap.size, 5, none⟩ = some (.int .i64 a1) := mm.cell 5
    have m6 : wx.cell? ⟨w.heap.size, 6, none⟩ = some (.int .u8 a2) := mm.cell 6
    have m7 : wx.cell? ⟨w.heap.size, 7, none⟩ = some (.int .i64 a3) := mm.cell 7
    have m8 : wx.cell? ⟨w.heap.size, 8, none⟩ = some (.int .i64 a4) := mm.cell 8
    have m9 : wx.cell? ⟨w.heap.size, 9, none⟩ = some (.int .i64 a5) := mm.cell 9
    have m10 : wx.cell? ⟨w.heap.size, 10, none⟩ = some (.int .i64 c1) := mm.cell 10
    have m11 : wx.cell? ⟨w.heap.size, 11, none⟩ = some (.int .u8 c2) := mm.cell 11
    have m12 : wx.cell? ⟨w.heap.size, 12, none⟩ = some (.int .i64 c3) := mm.cell 12
    have m13 : wx.cell? ⟨w.heap.size, 13, none⟩ = some (.int .i64 c4) := mm.cell 13
    have m14 : wx.cell? ⟨w.heap.size, 14, none⟩ = some (.int .i64 c5) := mm.cell 14
    clear mm
    go_simp
    exact hK _ _ rfl ⟨rfl, Below.refl _ _⟩
  · intro wx hb
    intro K hK
    go_simp
    exact hK _ _ rfl ⟨rfl, Below.refl _ _⟩
  · intro wx hb
    rintro _ rfl
    intro K hK
    have mm := Box.below (PL.out) hb (Box.lt (PL.out))
    have m0 : wx.cell? ⟨w.heap.size, 0, none⟩ = some (.int .i64 a1) := mm.cell 0
    have m1 : wx.cell? ⟨w.heap.size, 1, none⟩ = some (.int .u8 a2) := mm.cell 1
    have m2 : wx.cell? ⟨w.heap.size, 2, none⟩ = some (.int .i64 a3) := mm.cell 2
    have m3 : wx.cell? ⟨w.heap.size, 3, none⟩ = some (.int .i64 a4) := mm.cell 3
    have m4 : wx.cell? ⟨w.heap.size, 4, none⟩ = some (.int .i64 a5) := mm.cell 4
    have m5 : wx.cell? ⟨w.heap.size, 5, none⟩ = some (.int .i64 a1) := mm.cell 5
    have m6 : wx.cell? ⟨w.heap.size, 6, none⟩ = some (.int .u8 a2) := mm.cell 6
    have m7 : wx.cell? ⟨w.heap.size, 7, none⟩ = some (.int .i64 a3) := mm.cell 7
    have m8 : wx.cell? ⟨w.heap.size, 8, none⟩ = some (.int .i64 a4) := mm.cell 8
    have m9 : wx.cell? ⟨w.heap.size, 9, none⟩ = some (.int .i64 a5) := mm.cell 9
    have m10 : wx.cell? ⟨w.heap.size, 10, none⟩ = some (.int .i64 c1) := mm.cell 10
    have m11 : wx.cell? ⟨w.heap.size, 11, none⟩ = some (.int .u8 c2) := mm.cell 11
    have m12 : wx.cell? ⟨w.heap.size, 12, none⟩ = some (.int .i64 c3) := mm.cell 12
    have m13 : wx.cell? ⟨w.heap.size, 13, none⟩ = some (.int .i64 c4) := mm.cell 13
    have m14 : wx.cell? ⟨w.heap.size, 14, none⟩ = some (.int .i64 c5) := mm.cell 14
    clear mm
    go_simp
    exact hK _ _ rfl ⟨rfl, Below.refl _ _⟩
  · intro wx hb
    intro K hK
    go_simp
    exact hK _ _ rfl ⟨rfl, rfl⟩
  · intro wx hb
    intro K hK
    go_simp
    exact hK _ _ rfl ⟨rfl, rfl⟩
  · intro wx hb
    intro K hK
    go_simp
    exact hK _ _ rfl ⟨rfl, rfl⟩
  · intro wx hb
    intro g hg hbx
    rintro _ rfl
    intro K hK
    have c0 : wx.cell? ⟨g, 0, none⟩ = some (.int .i64 0) := hbx.cell 0
    have f0 := hbx.free 0
    have c1 : wx.cell? ⟨g, 1, none⟩ = some (.int .u8 0) := hbx.cell 1
    have f1 := hbx.free 1
    have c2 : wx.cell? ⟨g, 2, none⟩ = some (.int .i64 0) := hbx.cell 2
    have f2 := hbx.free 2
    have c3 : wx.cell? ⟨g, 3, none⟩ = some (.int .i64 0) := hbx.cell 3
    have f3 := hbx.free 3
    have c4 : wx.cell? ⟨g, 4, none⟩ = some (.int .i64 0) := hbx.cell 4
    have f4 := hbx.free 4
    clear hb
    go_simp
    exact hK _ _ rfl (((((((Stored.start hbx).set 0 _).set 1 _).set 2 _).set 3 _).set 4 _))
  · intro wx hb
    intro g hg hbx
    rintro _ rfl
    intro K hK
    have c0 : wx.cell? ⟨g, 0, none⟩ = some (.int .i64 0) := hbx.cell 0
    have f0 := hbx.free 0
    have c1 : wx.cell? ⟨g, 1, none⟩ = some (.int .u8 0) := hbx.cell 1
    have f1 := hbx.free 1
    have c2 : wx.cell? ⟨g, 2, none⟩ = some (.int .i64 0) := hbx.cell 2
    have f2 := hbx.free 2
    have c3 : wx.cell? ⟨g, 3, none⟩ = some (.int .i64 0) := hbx.cell 3
    have f3 := hbx.free 3
    have c4 : wx.cell? ⟨g, 4, none⟩ = some (.int .i64 0) := hbx.cell 4
    have f4 := hbx.free 4
    clear hb
    go_simp
    exact hK _ _ rfl (((((((Stored.start hbx).set 0 _).set 1 _).set 2 _).set 3 _).set 4 _))
  · intro wx hb
    intro g hg hbx
    rintro _ rfl
    intro K hK
    have c0 : wx.cell? ⟨g, 0, none⟩ = some (.int .i64 0) := hbx.cell 0
    have f0 := hbx.free 0
    have c1 : wx.cell? ⟨g, 1, none⟩ = some (.int .u8 0) := hbx.cell 1
    have f1 := hbx.free 1
    have c2 : wx.cell? ⟨g, 2, none⟩ = some (.int .i64 0) := hbx.cell 2
    have f2 := hbx.free 2
    have c3 : wx.cell? ⟨g, 3, none⟩ = some (.int .i64 0) := hbx.cell 3
    have f3 := hbx.free 3
    have c4 : wx.cell? ⟨g, 4, none⟩ = some (.int .i64 0) := hbx.cell 4
    have f4 := hbx.free 4
    clear hb
    go_simp
    exact hK _ _ rfl (((((((Stored.start hbx).set 0 _).set 1 _).set 2 _).set 3 _).set 4 _))
  intro w1 B1
  rintro _ rfl
  rintro _ rfl
  rintro _ rfl
  rintro _ rfl
  rintro _ rfl
  rintro _ rfl
  intro gx hgx Bx
  intro gy hgy By
  intro gz hgz Bz
  rintro -
  simp only [Act.put, List.setIfInBounds_toArray, List.set_cons_zero, List.set_cons_succ, List.toList_toArray, List.length_cons, List.length_nil, List.drop_succ_cons, List.drop_zero, List.drop_nil, Nat.zero_add, wpList]
  have BW := bkeep (balloc (Below.refl _ _) _) B1
  clear B1
  go_upto_region 2 with fail
  refine region_lin (.val (fun v _ => v = .agg #[.int .i64 a1, .int .u8 a2, .int .i64 a3, .int .i64 a4, .int .i64 a5]) :: .val (fun v _ => v = .agg #[.int .i64 a1, .int .u8 a2, .int .i64 a3, .int .i64 a4, .int .i64 a5]) :: .val (fun v _ => v = .bool false) :: .val (fun v _ => v = .agg #[.int .i64 a1, .int .u8 a2, .int .i64 a3, .int .i64 a4, .int .i64 a5]) :: .val (fun v _ => v = .agg #[.int .i64 a1, .int .u8 a2, .int .i64 a3, .int .i64 a4, .int .i64 a5]) :: .val (fun v _ => v = .bool false) :: .val (fun v _ => v = .bool false) :: .val (fun v _ => v = .bool false) :: .val (fun v _ => v = .agg #[.int .i64 a1, .int .u8 a2, .int .i64 a3, .int .i64 a4, .int .i64 a5]) :: .val (fun v _ => v = .agg #[.int .i64 a1, .int .u8 a2, .int .i64 a3, .int .i64 a4, .int .i64 a5]) :: .val (fun v _ => v = .bool false) :: .val (fun v _ => v = .bool false) :: .val (fun v _ => v = .bool false) :: .val (fun v _ => v = .agg #[.int .i64 a1, .int .u8 a2, .int .i64 a3, .int .i64 a4, .int .i64 a5]) :: .val (fun v _ => v = .agg #[.int .i64 a1, .int .u8 a2, .int .i64 a3, .int .i64 a4, .int .i64 a5]) :: .val (fun v _ => v = .bool false) :: .val (fun v _ => v = .agg #[.int .i64 a1, .int .u8 a2, .int .i64 a3, .int .i64 a4, .int .i64 a5]) :: .val (fun v _ => v = .agg #[.int .i64 a1, .int .u8 a2, .int .i64 a3, .int .i64 a4, .int .i64 a5]) :: .val (fun v _ => v = .bool false) :: .val (fun v _ => v = .bool true) :: .val (fun v _ => v = .bool true) :: .val (fun v _ => v = .agg #[.int .i64 a1, .int .u8 a2, .int .i64 a3, .int .i64 a4, .int .i64 a5]) :: .val (fun v _ => v = .agg #[.int .i64 a1, .int .u8 a2, .int .i64 a3, .int .i64 a4, .int .i64 a5]) :: .val (fun v _ => v = .bool false) :: .val (fun v _ => v = .bool false) :: .val (fun v _ => v = .bool false) :: [])
    ([] :: [] :: [(12, 0), (13, 1)] :: [] :: [] :: [(15, 3), (16, 4)] :: [(14, 2), (17, 5)] :: [(18, 6)] :: [(19, 7)] :: [(19, 7)] :: [(20, 8), (21, 9), (19, 7)] :: [(19, 7), (22, 10)] :: [(23, 11)] :: [(24, 12)] :: [(24, 12)] :: [(25, 13), (26, 14), (24, 12)] :: [(24, 12)] :: [(24, 12)] :: [(28, 16), (29, 17), (24, 12)] :: [(27, 15), (30, 18), (24, 12)] :: [(31, 19), (24, 12)] :: [(32, 20)] :: [(32, 20)] :: [(33, 21), (34, 22), (32, 20)] :: [(32, 20), (35, 23), (24, 12)] :: [(24, 12), (36, 24)] :: []) ((0, 0) :: (0, 0) :: (0, 0) :: (0, 0) :: (0, 0) :: (0, 0) :: (0, 0) :: (0, 0) :: (0, 0) :: (0, 0) :: (0, 0) :: (0, 0) :: (0, 0) :: (0, 0) :: (0, 0) :: (0, 0) :: (0, 0) :: (0, 0) :: (0, 0) :: (0, 0) :: (0, 0) :: (0, 0) :: (0, 0) :: (0, 0) :: (0, 0) :: (0, 0) :: []) 58 (by kernel_rfl) rfl rfl (by kernel_rfl) ⟨Stab.pure _ _ _, Stab.pure _ _ _, Stab.pure _ _ _, Stab.pure _ _ _, Stab.pure _ _ _, Stab.pure _ _ _, Stab.pure _ _ _, Stab.pure _ _ _, Stab.pure _ _ _, Stab.pure _ _ _, Stab.pure _ _ _, Stab.pure _ _ _, Stab.pure _ _ _, Stab.pure _ _ _, Stab.pure _ _ _, Stab.pure _ _ _, Stab.pure _ _ _, Stab.pure _ _ _, Stab.pure _ _ _, Stab.pure _ _ _, Stab.pure _ _ _, Stab.pure _ _ _, Stab.pure _ _ _, Stab.pure _ _ _, Stab.pure _ _ _, Stab.pure _ _ _, trivial⟩ ⟨?_, ?_, ?_, ?_, ?_, ?_, ?_, ?_, ?_, ?_, ?_, ?_, ?_, ?_, ?_, ?_, ?_, ?_, ?_, ?_, ?_, ?_, ?_, ?_, ?_, ?_, trivial⟩ ?_
  · intro wx hb
    intro K hK
    have mm := Box.below (Bx) hb (Box.lt (Bx))
    have m0 : wx.cell? ⟨gx, 0, none⟩ = some (.int .i64 a1) := mm.cell 0
    have m1 : wx.cell? ⟨gx, 1, none⟩ = some (.int .u8 a2) := mm.cell 1
    have m2 : wx.cell? ⟨gx, 2, none⟩ = some (.int .i64 a3) := mm.cell 2
    have m3 : wx.cell? ⟨gx, 3, none⟩ = some (.int .i64 a4) := mm.cell 3
    have m4 : wx.cell? ⟨gx, 4, none⟩ = some (.int .i64 a5) := mm.cell 4
    clear mm
    go_simp
    exact hK _ _ rfl ⟨rfl, Below.refl _ _⟩
  · intro wx hb
    intro K hK
    have mm := Box.below (By) hb (Box.lt (By))
    have m0 : wx.cell? ⟨gy, 0, none⟩ = some (.int .i64 a1) := mm.cell 0
    have m1 : wx.cell? ⟨gy, 1, none⟩ = some (.int .u8 a2) := mm.cell 1
    have m2 : wx.cell? ⟨gy, 2, none⟩ = some (.int .i64 a3) := mm.cell 2
    have m3 : wx.cell? ⟨gy, 3, none⟩ = some (.int .i64 a4) := mm.cell 3
    have m4 : wx.cell? ⟨gy, 4, none⟩ = some (.int .i64 a5) := mm.cell 4
    clear mm
    go_simp
    exact hK _ _ rfl ⟨rfl, Below.refl _ _⟩
  · intro wx hb
    rintro _ rfl
    rintro _ rfl
    intro K hK
    go_simp
    (with_reducible refine (H1.out _).mono ?_)
    rintro e wa ⟨rfl, Ba⟩
    exact hK _ _ rfl ⟨rfl, Ba⟩
  · intro wx hb
    intro K hK
    have mm := Box.below (Bx) hb (Box.lt (Bx))
    have m0 : wx.cell? ⟨gx, 0, none⟩ = some (.int .i64 a1) := mm.cell 0
    have m1 : wx.cell? ⟨gx, 1, none⟩ = some (.int .u8 a2) := mm.cell 1
    have m2 : wx.cell? ⟨gx, 2, none⟩ = some (.int .i64 a3) := mm.cell 2
    have m3 : wx.cell? ⟨gx, 3, none⟩ = some (.int .i64 a4) := mm.cell 3
    have m4 : wx.cell? ⟨gx, 4, none⟩ = some (.int .i64 a5) := mm.cell 4
    clear mm
    go_simp
    exact hK _ _ rfl ⟨rfl, Below.refl _ _⟩
  · intro wx hb
    intro K hK
    have mm := Box.below (By) hb (Box.lt (By))
    have m0 : wx.cell? ⟨gy, 0, none⟩ = some (.int .i64 a1) := mm.cell 0
    have m1 : wx.cell? ⟨gy, 1, none⟩ = some (.int .u8 a2) := mm.cell 1
    have m2 : wx.cell? ⟨gy, 2, none⟩ = some (.int .i64 a3) := mm.cell 2
    have m3 : wx.cell? ⟨gy, 3, none⟩ = some (.int .i64 a4) := mm.cell 3
    have m4 : wx.cell? ⟨gy, 4, none⟩ = some (.int .i64 a5) := mm.cell 4
    clear mm
    go_simp
    exact hK _ _ rfl ⟨rfl, Below.refl _ _⟩
  · intro wx hb
    rintro _ rfl
    rintro _ rfl
    intro K hK
    go_simp
    (with_reducible refine (H2.out _).mono ?_)
    rintro e wa ⟨rfl, Ba⟩
    exact hK _ _ rfl ⟨rfl, Ba⟩
  · intro wx hb
    rintro _ rfl
    rintro _ rfl
    intro K hK
    go_simp
    exact hK _ _ rfl ⟨rfl, Below.refl _ _⟩
  · intro wx hb
    rintro _ rfl
    intro K hK
    go_simp
    exact hK _ _ rfl ⟨rfl, Below.refl _ _⟩
  · intro wx hb
    rintro _ rfl
    refine ⟨fun _ => ?_, fun h => absurd (show true = false from h) (by decide)⟩
    intro K hK
    have mm := Box.below (Bx) hb (Box.lt (Bx))
    have m0 : wx.cell? ⟨gx, 0, none⟩ = some (.int .i64 a1) := mm.cell 0
    have m1 : wx.cell? ⟨gx, 1, none⟩ = some (.int .u8 a2) := mm.cell 1
    have m2 : wx.cell? ⟨gx, 2, none⟩ = some (.int .i64 a3) := mm.cell 2
    have m3 : wx.cell? ⟨gx, 3, none⟩ = some (.int .i64 a4) := mm.cell 3
    have m4 : wx.cell? ⟨gx, 4, none⟩ = some (.int .i64 a5) := mm.cell 4
    clear mm
    go_simp
    exact hK _ _ rfl ⟨rfl, Below.refl _ _⟩
  · intro wx hb
    rintro _ rfl
    refine ⟨fun _ => ?_, fun h => absurd (show true = false from h) (by decide)⟩
    intro K hK
    have mm := Box.below (Bx) hb (Box.lt (Bx))
    have m0 : wx.cell? ⟨gx, 0, none⟩ = some (.int .i64 a1) := mm.cell 0
    have m1 : wx.cell? ⟨gx, 1, none⟩ = some (.int .u8 a2) := mm.cell 1
    have m2 : wx.cell? ⟨gx, 2, none⟩ = some (.int .i64 a3) := mm.cell 2
    have m3 : wx.cell? ⟨gx, 3, none⟩ = some (.int .i64 a4) := mm.cell 3
    have m4 : wx.cell? ⟨gx, 4, none⟩ = some (.int .i64 a5) := mm.cell 4
    clear mm
    go_simp
    exact hK _ _ rfl ⟨rfl, Below.refl _ _⟩
  · intro wx hb
    rintro _ rfl
    rintro _ rfl
    rintro _ rfl
    refine ⟨fun _ => ?_, fun h => absurd (show true = false from h) (by decide)⟩
    intro K hK
    go_simp
    (with_reducible refine (H3.out _).mono ?_)
    rintro e wa ⟨rfl, Ba⟩
    exact hK _ _ rfl ⟨rfl, Ba⟩
  · intro wx hb
    rintro _ rfl
    rintro _ rfl
    intro K hK
    go_simp
    exact hK _ _ rfl ⟨rfl, Below.refl _ _⟩
  · intro wx hb
    rintro _ rfl
    intro K hK
    go_simp
    exact hK _ _ rfl ⟨rfl, Below.refl _ _⟩
  · intro wx hb
    rintro _ rfl
    refine ⟨fun _ => ?_, fun h => absurd (show true = false from h) (by decide)⟩
    intro K hK
    have mm := Box.below (By) hb (Box.lt (By))
    have m0 : wx.cell? ⟨gy, 0, none⟩ = some (.int .i64 a1) := mm.cell 0
    have m1 : wx.cell? ⟨gy, 1, none⟩ = some (.int .u8 a2) := mm.cell 1
    have m2 : wx.cell? ⟨gy, 2, none⟩ = some (.int .i64 a3) := mm.cell 2
    have m3 : wx.cell? ⟨gy, 3, none⟩ = some (.int .i64 a4) := mm.cell 3
    have m4 : wx.cell? ⟨gy, 4, none⟩ = some (.int .i64 a5) := mm.cell 4
    clear mm
    go_simp
    exact hK _ _ rfl ⟨rfl, Below.refl _ _⟩
  · intro wx hb
    rintro _ rfl
    refine ⟨fun _ => ?_, fun h => absurd (show true = false from h) (by decide)⟩
    intro K hK
    have mm := Box.below (Bx) hb (Box.lt (Bx))
    have m0 : wx.cell? ⟨gx, 0, none⟩ = some (.int .i64 a1) := mm.cell 0
    have m1 : wx.cell? ⟨gx, 1, none⟩ = some (.int .u8 a2) := mm.cell 1
    have m2 : wx.cell? ⟨gx, 2, none⟩ = some (.int .i64 a3) := mm.cell 2
    have m3 : wx.cell? ⟨gx, 3, none⟩ = some (.int .i64 a4) := mm.cell 3
    have m4 : wx.cell? ⟨gx, 4, none⟩ = some (.int .i64 a5) := mm.cell 4
    clear mm
    go_simp
    exact hK _ _ rfl ⟨rfl, Below.refl _ _⟩
  · intro wx hb
    rintro _ rfl
    rintro _ rfl
    rintro _ rfl
    refine ⟨fun _ => ?_, fun h => absurd (show true = false from h) (by decide)⟩
    intro K hK
    go_simp
    (with_reducible refine (H4.out _).mono ?_)
    rintro e wa ⟨rfl, Ba⟩
    exact hK _ _ rfl ⟨rfl, Ba⟩
  · intro wx hb
    rintro _ rfl
    refine ⟨fun _ => ?_, fun h => absurd (show true = false from h) (by decide)⟩
    intro K hK
    have mm := Box.below (Bx) hb (Box.lt (Bx))
    have m0 : wx.cell? ⟨gx, 0, none⟩ = some (.int .i64 a1) := mm.cell 0
    have m1 : wx.cell? ⟨gx, 1, none⟩ = some (.int .u8 a2) := mm.cell 1
    have m2 : wx.cell? ⟨gx, 2, none⟩ = some (.int .i64 a3) := mm.cell 2
    have m3 : wx.cell? ⟨gx, 3, none⟩ = some (.int .i64 a4) := mm.cell 3
    have m4 : wx.cell? ⟨gx, 4, none⟩ = some (.int .i64 a5) := mm.cell 4
    clear mm
    go_simp
    exact hK _ _ rfl ⟨rfl, Below.refl _ _⟩
  · intro wx hb
    rintro _ rfl
    refine ⟨fun _ => ?_, fun h => absurd (show true = false from h) (by decide)⟩
    intro K hK
    have mm := Box.below (By) hb (Box.lt (By))
    have m0 : wx.cell? ⟨gy, 0, none⟩ = some (.int .i64 a1) := mm.cell 0
    have m1 : wx.cell? ⟨gy, 1, none⟩ = some (.int .u8 a2) := mm.cell 1
    have m2 : wx.cell? ⟨gy, 2, none⟩ = some (.int .i64 a3) := mm.cell 2
    have m3 : wx.cell? ⟨gy, 3, none⟩ = some (.int .i64 a4) := mm.cell 3
    have m4 : wx.cell? ⟨gy, 4, none⟩ = some (.int .i64 a5) := mm.cell 4
    clear mm
    go_simp
    exact hK _ _ rfl ⟨rfl, Below.refl _ _⟩
  · intro wx hb
    rintro _ rfl
    rintro _ rfl
    rintro _ rfl
    refine ⟨fun _ => ?_, fun h => absurd (show true = false from h) (by decide)⟩
    intro K hK
    go_simp
    (with_reducible refine (H1.out _).mono ?_)
    rintro e wa ⟨rfl, Ba⟩
    exact hK _ _ rfl ⟨rfl, Ba⟩
  · intro wx hb
    rintro _ rfl
    rintro _ rfl
    rintro _ rfl
    refine ⟨fun _ => ?_, fun h => absurd (show true = false from h) (by decide)⟩
    intro K hK
    go_simp
    exact hK _ _ rfl ⟨rfl, Below.refl _ _⟩
  · intro wx hb
    rintro _ rfl
    rintro _ rfl
    refine ⟨fun _ => ?_, fun h => absurd (show true = false from h) (by decide)⟩
    intro K hK
    go_simp
    exact hK _ _ rfl ⟨rfl, Below.refl _ _⟩
  · intro wx hb
    rintro _ rfl
    refine ⟨fun _ => ?_, fun h => absurd (show true = false from h) (by decide)⟩
    intro K hK
    have mm := Box.below (Bx) hb (Box.lt (Bx))
    have m0 : wx.cell? ⟨gx, 0, none⟩ = some (.int .i64 a1) := mm.cell 0
    have m1 : wx.cell? ⟨gx, 1, none⟩ = some (.int .u8 a2) := mm.cell 1
    have m2 : wx.cell? ⟨gx, 2, none⟩ = some (.int .i64 a3) := mm.cell 2
    have m3 : wx.cell? ⟨gx, 3, none⟩ = some (.int .i64 a4) := mm.cell 3
    have m4 : wx.cell? ⟨gx, 4, none⟩ = some (.int .i64 a5) := mm.cell 4
    clear mm
    go_simp
    exact hK _ _ rfl ⟨rfl, Below.refl _ _⟩
  · intro wx hb
    rintro _ rfl
    refine ⟨fun _ => ?_, fun h => absurd (show true = false from h) (by decide)⟩
    intro K hK
    have mm := Box.below (By) hb (Box.lt (By))
    have m0 : wx.cell? ⟨gy, 0, none⟩ = some (.int .i64 a1) := mm.cell 0
    have m1 : wx.cell? ⟨gy, 1, none⟩ = some (.int .u8 a2) := mm.cell 1
    have m2 : wx.cell? ⟨gy, 2, none⟩ = some (.int .i64 a3) := mm.cell 2
    have m3 : wx.cell? ⟨gy, 3, none⟩ = some (.int .i64 a4) := mm.cell 3
    have m4 : wx.cell? ⟨gy, 4, none⟩ = some (.int .i64 a5) := mm.cell 4
    clear mm
    go_simp
    exact hK _ _ rfl ⟨rfl, Below.refl _ _⟩
  · intro wx hb
    rintro _ rfl
    rintro _ rfl
    rintro _ rfl
    refine ⟨fun _ => ?_, fun h => absurd (show true = false from h) (by decide)⟩
    intro K hK
    go_simp
    exact hK _ _ rfl ⟨rfl, Below.refl _ _⟩
  · intro wx hb
    rintro _ rfl
    rintro _ rfl
    rintro _ rfl
    refine ⟨fun _ => ?_, fun h => absurd (show true = false from h) (by decide)⟩
    intro K hK
    go_simp
    exact hK _ _ rfl ⟨rfl, Below.refl _ _⟩
  · intro wx hb
    rintro _ rfl
    rintro _ rfl
    intro K hK
    go_simp
    exact hK _ _ rfl ⟨rfl, Below.refl _ _⟩
  intro w2 B2
  have Bx := Box.below Bx B2 (Box.lt Bx)
  have By := Box.below By B2 (Box.lt By)
  have Bz := Box.below Bz B2 (Box.lt Bz)
  have BW := bkeep BW B2
  rintro _ rfl
  rintro _ rfl
  rintro _ rfl
  rintro _ rfl
  rintro _ rfl
  rintro _ rfl
  rintro _ rfl
  rintro _ rfl
  rintro _ rfl
  rintro _ rfl
  rintro _ rfl
  rintro _ rfl
  rintro _ rfl
  rintro _ rfl
  rintro _ rfl
  rintro _ rfl
  rintro _ rfl
  rintro _ rfl
  rintro _ rfl
  rintro _ rfl
  rintro _ rfl
  rintro _ rfl
  rintro _ rfl
  rintro _ rfl
  rintro _ rfl
  rintro _ rfl
  rintro -
  simp only [Act.put, List.setIfInBounds_toArray, List.set_cons_zero, List.set_cons_succ, List.toList_toArray, List.length_cons, List.length_nil, List.drop_succ_cons, List.drop_zero, List.drop_nil, Nat.zero_add, wpList]
  clear B2
  go_upto_region 4 with fail
  refine region_lin0 (.val (fun v _ => v = .agg #[.int .i64 0, .int .u8 0, .int .i64 0, .int .i64 0, .int .i64 0]) :: .val (fun v _ => v = .agg #[.int .i64 1, .int .u8 0, .int .i64 0, .int .i64 0, .int .i64 0]) :: .val (fun v _ => v = .bool true) :: .val (fun v _ => v = .bool true) :: .val (fun v _ => v = .agg #[.int .i64 a1, .int .u8 a2, .int .i64 a3, .int .i64 a4, .int .i64 a5]) :: .val (fun v _ => v = .agg #[.int .i64 a1, .int .u8 a2, .int .i64 a3, .int .i64 a4, .int .i64 a5]) :: .val (fun v _ => v = .bool false) :: .val (fun v _ => v = .bool true) :: .val (fun v _ => v = .bool true) :: .val (fun v _ => v = undef) :: .val (fun v _ => v = undef) :: .val (fun v _ => v = undef) :: .val (fun v _ => v = undef) :: .val (fun v _ => v = .bool true) :: .val (fun v _ => v = .bool true) :: .val (fun v _ => v = undef) :: .val (fun v _ => v = undef) :: .val (fun v _ => v = undef) :: .val (fun v _ => v = .bool true) :: .val (fun v _ => v = .bool true) :: .val (fun v _ => v = .bool true) :: [])
    ([] :: [] :: [(38, 0), (39, 1)] :: [(40, 2)] :: [(41, 3)] :: [(41, 3)] :: [(42, 4), (43, 5), (41, 3)] :: [(44, 6), (41, 3)] :: [(45, 7), (41, 3)] :: [(46, 8)] :: [(46, 8)] :: [(47, 9), (48, 10), (46, 8)] :: [(49, 11), (46, 8)] :: [(46, 8), (50, 12), (41, 3)] :: [(51, 13), (41, 3)] :: [(52, 14)] :: [(52, 14)] :: [(53, 15), (54, 16), (52, 14)] :: [(52, 14), (55, 17), (41, 3)] :: [(41, 3), (56, 18)] :: [(57, 19)] :: []) ((0, 0) :: (0, 0) :: (0, 0) :: (0, 0) :: (0, 0) :: (0, 0) :: (0, 0) :: (0, 0) :: (0, 0) :: (0, 0) :: (0, 0) :: (0, 0) :: (0, 0) :: (0, 0) :: (0, 0) :: (0, 0) :: (0, 0) :: (0, 0) :: (0, 0) :: (0, 0) :: (0, 0) :: []) 58 (by kernel_rfl) rfl rfl (by kernel_rfl) ⟨Stab.pure _ _ _, Stab.pure _ _ _, Stab.pure _ _ _, Stab.pure _ _ _, Stab.pure _ _ _, Stab.pure _ _ _, Stab.pure _ _ _, Stab.pure _ _ _, Stab.pure _ _ _, Stab.pure _ _ _, Stab.pure _ _ _, Stab.pure _ _ _, Stab.pure _ _ _, Stab.pure _ _ _, Stab.pure _ _ _, Stab.pure _ _ _, Stab.pure _ _ _, Stab.pure _ _ _, Stab.pure _ _ _, Stab.pure _ _ _, Stab.pure _ _ _, trivial⟩ ⟨?_, ?_, ?_, ?_, ?_, ?_, ?_, ?_, ?_, ?_, ?_, ?_, ?_, ?_, ?_, ?_, ?_, ?_, ?_, ?_, ?_, trivial⟩ ?_
  · intro wx hb
    intro K hK
    go_simp
    exact hK _ _ rfl ⟨rfl, Below.refl _ _⟩
  · intro wx hb
    intro K hK
    go_simp
    exact hK _ _ rfl ⟨rfl, Below.refl _ _⟩
  · intro wx hb
    rintro _ rfl
    rintro _ rfl
    intro K hK
    go_simp
    (with_reducible refine (H7.out _).mono ?_)
    rintro e wa ⟨rfl, Ba⟩
    exact hK _ _ rfl ⟨rfl, Ba⟩
  · intro wx hb
    rintro _ rfl
    intro K hK
    go_simp
    exact hK _ _ rfl ⟨rfl, Below.refl _ _⟩
  · intro wx hb
    rintro _ rfl
    refine ⟨fun _ => ?_, fun h => absurd (show true = false from h) (by decide)⟩
    intro K hK
    have mm := Box.below (Bx) hb (Box.lt (Bx))
    have m0 : wx.cell? ⟨gx, 0, none⟩ = some (.int .i64 a1) := mm.cell 0
    have m1 : wx.cell? ⟨gx, 1, none⟩ = some (.int .u8 a2) := mm.cell 1
    have m2 : wx.cell? ⟨gx, 2, none⟩ = some (.int .i64 a3) := mm.cell 2
    have m3 : wx.cell? ⟨gx, 3, none⟩ = some (.int .i64 a4) := mm.cell 3
    have m4 : wx.cell? ⟨gx, 4, none⟩ = some (.int .i64 a5) := mm.cell 4
    clear mm
    go_simp
    exact hK _ _ rfl ⟨rfl, Below.refl _ _⟩
  · intro wx hb
    rintro _ rfl
    refine ⟨fun _ => ?_, fun h => absurd (show true = false from h) (by decide)⟩
    intro K hK
    have mm := Box.below (By) hb (Box.lt (By))
    have m0 : wx.cell? ⟨gy, 0, none⟩ = some (.int .i64 a1) := mm.cell 0
    have m1 : wx.cell? ⟨gy, 1, none⟩ = some (.int .u8 a2) := mm.cell 1
    have m2 : wx.cell? ⟨gy, 2, none⟩ = some (.int .i64 a3) := mm.cell 2
    have m3 : wx.cell? ⟨gy, 3, none⟩ = some (.int .i64 a4) := mm.cell 3
    have m4 : wx.cell? ⟨gy, 4, none⟩ = some (.int .i64 a5) := mm.cell 4
    clear mm
    go_simp
    exact hK _ _ rfl ⟨rfl, Below.refl _ _⟩
  · intro wx hb
    rintro _ rfl
    rintro _ rfl
    rintro _ rfl
    refine ⟨fun _ => ?_, fun h => absurd (show true = false from h) (by decide)⟩
    intro K hK
    go_simp
    (with_reducible refine (H1.out _).mono ?_)
    rintro e wa ⟨rfl, Ba⟩
    exact hK _ _ rfl ⟨rfl, Ba⟩
  · intro wx hb
    rintro _ rfl
    rintro _ rfl
    refine ⟨fun _ => ?_, fun h => absurd (show true = false from h) (by decide)⟩
    intro K hK
    go_simp
    exact hK _ _ rfl ⟨rfl, Below.refl _ _⟩
  · intro wx hb
    rintro _ rfl
    rintro _ rfl
    refine ⟨fun _ => ?_, fun h => absurd (show true = false from h) (by decide)⟩
    intro K hK
    go_simp
    exact hK _ _ rfl ⟨rfl, Below.refl _ _⟩
  · intro wx hb
    rintro _ rfl
    exact ⟨fun h => absurd (show false = true from h) (by decide), fun _ => ⟨rfl, Below.refl _ _⟩⟩
  · intro wx hb
    rintro _ rfl
    exact ⟨fun h => absurd (show false = true from h) (by decide), fun _ => ⟨rfl, Below.refl _ _⟩⟩
  · intro wx hb
    rintro _ rfl
    rintro _ rfl
    rintro _ rfl
    exact ⟨fun h => absurd (show false = true from h) (by decide), fun _ => ⟨rfl, Below.refl _ _⟩⟩
  · intro wx hb
    rintro _ rfl
    rintro _ rfl
    exact ⟨fun h => absurd (show false = true from h) (by decide), fun _ => ⟨rfl, Below.refl _ _⟩⟩
  · intro wx hb
    rintro _ rfl
    rintro _ rfl
    rintro _ rfl
    refine ⟨fun _ => ?_, fun h => absurd (show true = false from h) (by decide)⟩
    intro K hK
    go_simp
    exact hK _ _ rfl ⟨rfl, Below.refl _ _⟩
  · intro wx hb
    rintro _ rfl
    rintro _ rfl
    refine ⟨fun _ => ?_, fun h => absurd (show true = false from h) (by decide)⟩
    intro K hK
    go_simp
    exact hK _ _ rfl ⟨rfl, Below.refl _ _⟩
  · intro wx hb
    rintro _ rfl
    exact ⟨fun h => absurd (show false = true from h) (by decide), fun _ => ⟨rfl, Below.refl _ _⟩⟩
  · intro wx hb
    rintro _ rfl
    exact ⟨fun h => absurd (show false = true from h) (by decide), fun _ => ⟨rfl, Below.refl _ _⟩⟩
  · intro wx hb
    rintro _ rfl
    rintro _ rfl
    rintro _ rfl
    exact ⟨fun h => absurd (show false = true from h) (by decide), fun _ => ⟨rfl, Below.refl _ _⟩⟩
  · intro wx hb
    rintro _ rfl
    rintro _ rfl
    rintro _ rfl
    refine ⟨fun _ => ?_, fun h => absurd (show true = false from h) (by decide)⟩
    intro K hK
    go_simp
    exact hK _ _ rfl ⟨rfl, Below.refl _ _⟩
  · intro wx hb
    rintro _ rfl
    rintro _ rfl
    intro K hK
    go_simp
    exact hK _ _ rfl ⟨rfl, Below.refl _ _⟩
  · intro wx hb
    rintro _ rfl
    intro K hK
    go_simp
    exact hK _ _ rfl ⟨rfl, Below.refl _ _⟩
  intro w3 B3
  have BW := bkeep BW B3
  rintro _ rfl
  rintro _ rfl
  rintro _ rfl
  rintro _ rfl
  rintro _ rfl
  rintro _ rfl
  rintro _ rfl
  rintro _ rfl
  rintro _ rfl
  rintro _ rfl
  rintro _ rfl
  rintro _ rfl
  rintro _ rfl
  rintro _ rfl
  rintro _ rfl
  rintro _ rfl
  rintro _ rfl
  rintro _ rfl
  rintro _ rfl
  rintro _ rfl
  rintro _ rfl
  rintro -
  simp only [Act.put, List.setIfInBounds_toArray, List.set_cons_zero, List.set_cons_succ, List.toList_toArray, List.length_cons, List.length_nil, List.drop_succ_cons, List.drop_zero, List.drop_nil, Nat.zero_add, wpList]
  go_wp2_with fail
  go_ret
  exact ⟨rfl, BW⟩
set_option maxHeartbeats 4000000 in
theorem order_no (a1 a2 a3 a4 a5 b1 b2 b3 b4 b5 c1 c2 c3 c4 c5 : Int) (w : World)
    (H1 : Hid (∀ W : World, Calls Try.prog 21 #[.agg #[.int .i64 a1, .int .u8 a2, .int .i64 a3, .int .i64 a4, .int .i64 a5], .agg #[.int .i64 b1, .int .u8 b2, .int .i64 b3, .int .i64 b4, .int .i64 b5]] W fun e w' => e = .returned (.bool false) ∧ Below W.heap.size W w'))
    (H2 : Hid (∀ W : World, Calls Try.prog 22 #[.agg #[.int .i64 a1, .int .u8 a2, .int .i64 a3, .int .i64 a4, .int .i64 a5], .agg #[.int .i64 b1, .int .u8 b2, .int .i64 b3, .int .i64 b4, .int .i64 b5]] W fun e w' => e = .returned (.bool false) ∧ Below W.heap.size W w'))
    (H3 : Hid (∀ W : World, Calls Try.prog 21 #[.agg #[.int .i64 a1, .int .u8 a2, .int .i64 a3, .int .i64 a4, .int .i64 a5], .agg #[.int .i64 a1, .int .u8 a2, .int .i64 a3, .int .i64 a4, .int .i64 a5]] W fun e w' => e = .returned (.bool false) ∧ Below W.heap.size W w'))
    (H4 : Hid (∀ W : World, Calls Try.prog 21 #[.agg #[.int .i64 b1, .int .u8 b2, .int .i64 b3, .int .i64 b4, .int .i64 b5], .agg #[.int .i64 a1, .int .u8 a2, .int .i64 a3, .int .i64 a4, .int .i64 a5]] W fun e w' => e = .returned (.bool true) ∧ Below W.heap.size W w'))
    (H5 : Hid (False → ∀ W : World, Calls Try.prog 21 #[.agg #[.int .i64 b1, .int .u8 b2, .int .i64 b3, .int .i64 b4, .int .i64 b5], .agg #[.int .i64 c1, .int .u8 c2, .int .i64 c3, .int .i64 c4, .int .i64 c5]] W fun e w' => e = .returned (.bool false) ∧ Below W.heap.size W w'))
    (H6 : Hid (False → ∀ W : World, Calls Try.prog 21 #[.agg #[.int .i64 a1, .int .u8 a2, .int .i64 a3, .int .i64 a4, .int .i64 a5], .agg #[.int .i64 c1, .int .u8 c2, .int .i64 c3, .int .i64 c4, .int .i64 c5]] W fun e w' => e = .returned (.bool true) ∧ Below W.heap.size W w'))
    (H7 : Hid (∀ W : World, Calls Try.prog 21 #[.agg #[.int .i64 0, .int .u8 0, .int .i64 0, .int .i64 0, .int .i64 0], .agg #[.int .i64 1, .int .u8 0, .int .i64 0, .int .i64 0, .int .i64 0]] W fun e w' => e = .returned (.bool true) ∧ Below W.heap.size W w')) :
    Calls Try.prog 6 #[.agg #[.int .i64 a1, .int .u8 a2, .int .i64 a3, .int .i64 a4, .int .i64 a5, .int .i64 b1, .int .u8 b2, .int .i64 b3, .int .i64 b4, .int .i64 b5, .int .i64 c1, .int .u8 c2, .int .i64 c3, .int .i64 c4, .int .i64 c5]] w fun e w' => e = .returned (.bool true) ∧ Below w.heap.size w w' := by
  have PL := Lib.hid (Box.new w 42 #[.int .i64 a1, .int .u8 a2, .int .i64 a3, .int .i64 a4, .int .i64 a5, .int .i64 b1, .int .u8 b2, .int .i64 b3, .int .i64 b4, .int .i64 b5, .int .i64 c1, .int .u8 c2, .int .i64 c3, .int .i64 c4, .int .i64 c5])
  go_enter Try.func6, Try.ntmps6
  go_upto_region 1 with fail
  refine region_lin (.val (fun v _ => v = .pointer (some ⟨w.heap.size, 0, none⟩)) :: .val (fun v _ => v = .agg #[.int .i64 a1, .int .u8 a2, .int .i64 a3, .int .i64 a4, .int .i64 a5]) :: .val (fun v _ => v = .pointer (some ⟨w.heap.size, 5, none⟩)) :: .val (fun v _ => v = .agg #[.int .i64 b1, .int .u8 b2, .int .i64 b3, .int .i64 b4, .int .i64 b5]) :: .val (fun v _ => v = .pointer (some ⟨w.heap.size, 10, none⟩)) :: .val (fun v _ => v = .agg #[.int .i64 c1, .int .u8 c2, .int .i64 c3, .int .i64 c4, .int .i64 c5]) :: .new 24 #[.int .i64 0, .int .u8 0, .int .i64 0, .int .i64 0, .int .i64 0] #[.int .i64 a1, .int .u8 a2, .int .i64 a3, .int .i64 a4, .int .i64 a5] 9 :: .new 24 #[.int .i64 0, .int .u8 0, .int .i64 0, .int .i64 0, .int .i64 0] #[.int .i64 b1, .int .u8 b2, .int .i64 b3, .int .i64 b4, .int .i64 b5] 10 :: .new 24 #[.int .i64 0, .int .u8 0, .int .i64 0, .int .i64 0, .int .i64 0] #[.int .i64 c1, .int .u8 c2, .int .i64 c3, .int .i64 c4, .int .i64 c5] 11 :: .put 24 #[.int .i64 0, .int .u8 0, .int .i64 0, .int .i64 0, .int .i64 0] #[.int .i64 a1, .int .u8 a2, .int .i64 a3, .int .i64 a4, .int .i64 a5] 3 :: .put 24 #[.int .i64 0, .int .u8 0, .int .i64 0, .int .i64 0, .int .i64 0] #[.int .i64 b1, .int .u8 b2, .int .i64 b3, .int .i64 b4, .int .i64 b5] 4 :: .put 24 #[.int .i64 0, .int .u8 0, .int .i64 0, .int .i64 0, .int .i64 0] #[.int .i64 c1, .int .u8 c2, .int .i64 c3, .int .i64 c4, .int .i64 c5] 5 :: [])
    ([] :: [(6, 0)] :: [] :: [(8, 2)] :: [] :: [(10, 4)] :: [] :: [] :: [] :: [(7, 1)] :: [(9, 3)] :: [(11, 5)] :: []) ((0, 0) :: (0, 0) :: (0, 0) :: (0, 0) :: (0, 0) :: (0, 0) :: (1, 9) :: (1, 10) :: (1, 11) :: (2, 3) :: (2, 4) :: (2, 5) :: []) 58 (by kernel_rfl) rfl rfl (by kernel_rfl) ⟨Stab.pure _ _ _, Stab.pure _ _ _, Stab.pure _ _ _, Stab.pure _ _ _, Stab.pure _ _ _, Stab.pure _ _ _, ⟨rfl, rfl, rfl⟩, ⟨rfl, rfl, rfl⟩, ⟨rfl, rfl, rfl⟩, trivial⟩ ⟨?_, ?_, ?_, ?_, ?_, ?_, ?_, ?_, ?_, ?_, ?_, ?_, trivial⟩ ?_
  · intro wx hb
    intro K hK
    go_simp
    exact hK _ _ rfl ⟨rfl, Below.refl _ _⟩
  · intro wx hb
    rintro _ rfl
    intro K hK
    have mm := Box.below (PL.out) hb (Box.lt (PL.out))
    have m0 : wx.cell? ⟨w.heap.size, 0, none⟩ = some (.int .i64 a1) := mm.cell 0
    have m1 : wx.cell? ⟨w.heap.size, 1, none⟩ = some (.int .u8 a2) := mm.cell 1
    have m2 : wx.cell? ⟨w.heap.size, 2, none⟩ = some (.int .i64 a3) := mm.cell 2
    have m3 : wx.cell? ⟨w.heap.size, 3, none⟩ = some (.int .i64 a4) := mm.cell 3
    have m4 : wx.cell? ⟨w.heap.size, 4, none⟩ = some (.int .i64 a5) := mm.cell 4
    have m5 : wx.cell? ⟨w.heap.size, 5, none⟩ = some (.int .i64 b1) := mm.cell 5
    have m6 : wx.cell? ⟨w.heap.size, 6, none⟩ = some (.int .u8 b2) := mm.cell 6
    have m7 : wx.cell? ⟨w.heap.size, 7, none⟩ = some (.int .i64 b3) := mm.cell 7
    have m8 : wx.cell? ⟨w.heap.size, 8, none⟩ = some (.int .i64 b4) := mm.cell 8
    have m9 : wx.cell? ⟨w.heap.size, 9, none⟩ = some (.int .i64 b5) := mm.cell 9
    have m10 : wx.cell? ⟨w.heap.size, 10, none⟩ = some (.int .i64 c1) := mm.cell 10
    have m11 : wx.cell? ⟨w.heap.size, 11, none⟩ = some (.int .u8 c2) := mm.cell 11
    have m12 : wx.cell? ⟨w.heap.size, 12, none⟩ = some (.int .i64 c3) := mm.cell 12
    have m13 : wx.cell? ⟨w.heap.size, 13, none⟩ = some (.int .i64 c4) := mm.cell 13
    have m14 : wx.cell? ⟨w.heap.size, 14, none⟩ = some (.int .i64 c5) := mm.cell 14
    clear mm
    go_simp
    exact hK _ _ rfl ⟨rfl, Below.refl _ _⟩
  · intro wx hb
    intro K hK
    go_simp
    exact hK _ _ rfl ⟨rfl, Below.refl _ _⟩
  · intro wx hb
    rintro _ rfl
    intro K hK
    have mm := Box.below (PL.out) hb (Box.lt (PL.out))
    have m0 : wx.cell? ⟨w.heap.size, 0, none⟩ = some (.int .i64 a1) := mm.cell 0
    have m1 : wx.cell? ⟨w.heap.size, 1, none⟩ = some (.int .u8 a2) := mm.cell 1
    have m2 : wx.cell? ⟨w.heap.size, 2, none⟩ = some (.int .i64 a3) := mm.cell 2
    have m3 : wx.cell? ⟨w.heap.size, 3, none⟩ = some (.int .i64 a4) := mm.cell 3
    have m4 : wx.cell? ⟨w.heap.size, 4, none⟩ = some (.int .i64 a5) := mm.cell 4
    have m5 : wx.cell? ⟨w.heap.size, 5, none⟩ = some (.int .i64 b1) := mm.cell 5
    have m6 : wx.cell? ⟨w.heap.size, 6, none⟩ = some (.int .u8 b2) := mm.cell 6
    have m7 : wx.cell? ⟨w.heap.size, 7, none⟩ = some (.int .i64 b3) := mm.cell 7
    have m8 : wx.cell? ⟨w.heap.size, 8, none⟩ = some (.int .i64 b4) := mm.cell 8
    have m9 : wx.cell? ⟨w.heap.size, 9, none⟩ = some (.int .i64 b5) := mm.cell 9
    have m10 : wx.cell? ⟨w.heap.size, 10, none⟩ = some (.int .i64 c1) := mm.cell 10
    have m11 : wx.cell? ⟨w.heap.size, 11, none⟩ = some (.int .u8 c2) := mm.cell 11
    have m12 : wx.cell? ⟨w.heap.size, 12, none⟩ = some (.int .i64 c3) := mm.cell 12
    have m13 : wx.cell? ⟨w.heap.size, 13, none⟩ = some (.int .i64 c4) := mm.cell 13
    have m14 : wx.cell? ⟨w.heap.size, 14, none⟩ = some (.int .i64 c5) := mm.cell 14
    clear mm
    go_simp
    exact hK _ _ rfl ⟨rfl, Below.refl _ _⟩
  · intro wx hb
    intro K hK
    go_simp
    exact hK _ _ rfl ⟨rfl, Below.refl _ _⟩
  · intro wx hb
    rintro _ rfl
    intro K hK
    have mm := Box.below (PL.out) hb (Box.lt (PL.out))
    have m0 : wx.cell? ⟨w.heap.size, 0, none⟩ = some (.int .i64 a1) := mm.cell 0
    have m1 : wx.cell? ⟨w.heap.size, 1, none⟩ = some (.int .u8 a2) := mm.cell 1
    have m2 : wx.cell? ⟨w.heap.size, 2, none⟩ = some (.int .i64 a3) := mm.cell 2
    have m3 : wx.cell? ⟨w.heap.size, 3, none⟩ = some (.int .i64 a4) := mm.cell 3
    have m4 : wx.cell? ⟨w.heap.size, 4, none⟩ = some (.int .i64 a5) := mm.cell 4
    have m5 : wx.cell? ⟨w.heap.size, 5, none⟩ = some (.int .i64 b1) := mm.cell 5
    have m6 : wx.cell? ⟨w.heap.size, 6, none⟩ = some (.int .u8 b2) := mm.cell 6
    have m7 : wx.cell? ⟨w.heap.size, 7, none⟩ = some (.int .i64 b3) := mm.cell 7
    have m8 : wx.cell? ⟨w.heap.size, 8, none⟩ = some (.int .i64 b4) := mm.cell 8
    have m9 : wx.cell? ⟨w.heap.size, 9, none⟩ = some (.int .i64 b5) := mm.cell 9
    have m10 : wx.cell? ⟨w.heap.size, 10, none⟩ = some (.int .i64 c1) := mm.cell 10
    have m11 : wx.cell? ⟨w.heap.size, 11, none⟩ = some (.int .u8 c2) := mm.cell 11
    have m12 : wx.cell? ⟨w.heap.size, 12, none⟩ = some (.int .i64 c3) := mm.cell 12
    have m13 : wx.cell? ⟨w.heap.size, 13, none⟩ = some (.int .i64 c4) := mm.cell 13
    have m14 : wx.cell? ⟨w.heap.size, 14, none⟩ = some (.int .i64 c5) := mm.cell 14
    clear mm
    go_simp
    exact hK _ _ rfl ⟨rfl, Below.refl _ _⟩
  · intro wx hb
    intro K hK
    go_simp
    exact hK _ _ rfl ⟨rfl, rfl⟩
  · intro wx hb
    intro K hK
    go_simp
    exact hK _ _ rfl ⟨rfl, rfl⟩
  · intro wx hb
    intro K hK
    go_simp
    exact hK _ _ rfl ⟨rfl, rfl⟩
  · intro wx hb
    intro g hg hbx
    rintro _ rfl
    intro K hK
    have c0 : wx.cell? ⟨g, 0, none⟩ = some (.int .i64 0) := hbx.cell 0
    have f0 := hbx.free 0
    have c1 : wx.cell? ⟨g, 1, none⟩ = some (.int .u8 0) := hbx.cell 1
    have f1 := hbx.free 1
    have c2 : wx.cell? ⟨g, 2, none⟩ = some (.int .i64 0) := hbx.cell 2
    have f2 := hbx.free 2
    have c3 : wx.cell? ⟨g, 3, none⟩ = some (.int .i64 0) := hbx.cell 3
    have f3 := hbx.free 3
    have c4 : wx.cell? ⟨g, 4, none⟩ = some (.int .i64 0) := hbx.cell 4
    have f4 := hbx.free 4
    clear hb
    go_simp
    exact hK _ _ rfl (((((((Stored.start hbx).set 0 _).set 1 _).set 2 _).set 3 _).set 4 _))
  · intro wx hb
    intro g hg hbx
    rintro _ rfl
    intro K hK
    have c0 : wx.cell? ⟨g, 0, none⟩ = some (.int .i64 0) := hbx.cell 0
    have f0 := hbx.free 0
    have c1 : wx.cell? ⟨g, 1, none⟩ = some (.int .u8 0) := hbx.cell 1
    have f1 := hbx.free 1
    have c2 : wx.cell? ⟨g, 2, none⟩ = some (.int .i64 0) := hbx.cell 2
    have f2 := hbx.free 2
    have c3 : wx.cell? ⟨g, 3, none⟩ = some (.int .i64 0) := hbx.cell 3
    have f3 := hbx.free 3
    have c4 : wx.cell? ⟨g, 4, none⟩ = some (.int .i64 0) := hbx.cell 4
    have f4 := hbx.free 4
    clear hb
    go_simp
    exact hK _ _ rfl (((((((Stored.start hbx).set 0 _).set 1 _).set 2 _).set 3 _).set 4 _))
  · intro wx hb
    intro g hg hbx
    rintro _ rfl
    intro K hK
    have c0 : wx.cell? ⟨g, 0, none⟩ = some (.int .i64 0) := hbx.cell 0
    have f0 := hbx.free 0
    have c1 : wx.cell? ⟨g, 1, none⟩ = some (.int .u8 0) := hbx.cell 1
    have f1 := hbx.free 1
    have c2 : wx.cell? ⟨g, 2, none⟩ = some (.int .i64 0) := hbx.cell 2
    have f2 := hbx.free 2
    have c3 : wx.cell? ⟨g, 3, none⟩ = some (.int .i64 0) := hbx.cell 3
    have f3 := hbx.free 3
    have c4 : wx.cell? ⟨g, 4, none⟩ = some (.int .i64 0) := hbx.cell 4
    have f4 := hbx.free 4
    clear hb
    go_simp
    exact hK _ _ rfl (((((((Stored.start hbx).set 0 _).set 1 _).set 2 _).set 3 _).set 4 _))
  intro w1 B1
  rintro _ rfl
  rintro _ rfl
  rintro _ rfl
  rintro _ rfl
  rintro _ rfl
  rintro _ rfl
  intro gx hgx Bx
  intro gy hgy By
  intro gz hgz Bz
  rintro -
  simp only [Act.put, List.setIfInBounds_toArray, List.set_cons_zero, List.set_cons_succ, List.toList_toArray, List.length_cons, List.length_nil, List.drop_succ_cons, List.drop_zero, List.drop_nil, Nat.zero_add, wpList]
  have BW := bkeep (balloc (Below.refl _ _) _) B1
  clear B1
  go_upto_region 2 with fail
  refine region_lin (.val (fun v _ => v = .agg #[.int .i64 a1, .int .u8 a2, .int .i64 a3, .int .i64 a4, .int .i64 a5]) :: .val (fun v _ => v = .agg #[.int .i64 b1, .int .u8 b2, .int .i64 b3, .int .i64 b4, .int .i64 b5]) :: .val (fun v _ => v = .bool false) :: .val (fun v _ => v = .agg #[.int .i64 a1, .int .u8 a2, .int .i64 a3, .int .i64 a4, .int .i64 a5]) :: .val (fun v _ => v = .agg #[.int .i64 b1, .int .u8 b2, .int .i64 b3, .int .i64 b4, .int .i64 b5]) :: .val (fun v _ => v = .bool false) :: .val (fun v _ => v = .bool false) :: .val (fun v _ => v = .bool false) :: .val (fun v _ => v = .agg #[.int .i64 a1, .int .u8 a2, .int .i64 a3, .int .i64 a4, .int .i64 a5]) :: .val (fun v _ => v = .agg #[.int .i64 a1, .int .u8 a2, .int .i64 a3, .int .i64 a4, .int .i64 a5]) :: .val (fun v _ => v = .bool false) :: .val (fun v _ => v = .bool false) :: .val (fun v _ => v = .bool false) :: .val (fun v _ => v = .agg #[.int .i64 b1, .int .u8 b2, .int .i64 b3, .int .i64 b4, .int .i64 b5]) :: .val (fun v _ => v = .agg #[.int .i64 a1, .int .u8 a2, .int .i64 a3, .int .i64 a4, .int .i64 a5]) :: .val (fun v _ => v = .bool true) :: .val (fun v _ => v = .agg #[.int .i64 a1, .int .u8 a2, .int .i64 a3, .int .i64 a4, .int .i64 a5]) :: .val (fun v _ => v = .agg #[.int .i64 b1, .int .u8 b2, .int .i64 b3, .int .i64 b4, .int .i64 b5]) :: .val (fun v _ => v = .bool false) :: .val (fun v _ => v = .bool false) :: .val (fun v _ => v = .bool false) :: .val (fun v _ => v = undef) :: .val (fun v _ => v = undef) :: .val (fun v _ => v = undef) :: .val (fun v _ => v = .bool false) :: .val (fun v _ => v = .bool false) :: [])
    ([] :: [] :: [(12, 0), (13, 1)] :: [] :: [] :: [(15, 3), (16, 4)] :: [(14, 2), (17, 5)] :: [(18, 6)] :: [(19, 7)] :: [(19, 7)] :: [(20, 8), (21, 9), (19, 7)] :: [(19, 7), (22, 10)] :: [(23, 11)] :: [(24, 12)] :: [(24, 12)] :: [(25, 13), (26, 14), (24, 12)] :: [(24, 12)] :: [(24, 12)] :: [(28, 16), (29, 17), (24, 12)] :: [(27, 15), (30, 18), (24, 12)] :: [(31, 19), (24, 12)] :: [(32, 20)] :: [(32, 20)] :: [(33, 21), (34, 22), (32, 20)] :: [(32, 20), (35, 23), (24, 12)] :: [(24, 12), (36, 24)] :: []) ((0, 0) :: (0, 0) :: (0, 0) :: (0, 0) :: (0, 0) :: (0, 0) :: (0, 0) :: (0, 0) :: (0, 0) :: (0, 0) :: (0, 0) :: (0, 0) :: (0, 0) :: (0, 0) :: (0, 0) :: (0, 0) :: (0, 0) :: (0, 0) :: (0, 0) :: (0, 0) :: (0, 0) :: (0, 0) :: (0, 0) :: (0, 0) :: (0, 0) :: (0, 0) :: []) 58 (by kernel_rfl) rfl rfl (by kernel_rfl) ⟨Stab.pure _ _ _, Stab.pure _ _ _, Stab.pure _ _ _, Stab.pure _ _ _, Stab.pure _ _ _, Stab.pure _ _ _, Stab.pure _ _ _, Stab.pure _ _ _, Stab.pure _ _ _, Stab.pure _ _ _, Stab.pure _ _ _, Stab.pure _ _ _, Stab.pure _ _ _, Stab.pure _ _ _, Stab.pure _ _ _, Stab.pure _ _ _, Stab.pure _ _ _, Stab.pure _ _ _, Stab.pure _ _ _, Stab.pure _ _ _, Stab.pure _ _ _, Stab.pure _ _ _, Stab.pure _ _ _, Stab.pure _ _ _, Stab.pure _ _ _, Stab.pure _ _ _, trivial⟩ ⟨?_, ?_, ?_, ?_, ?_, ?_, ?_, ?_, ?_, ?_, ?_, ?_, ?_, ?_, ?_, ?_, ?_, ?_, ?_, ?_, ?_, ?_, ?_, ?_, ?_, ?_, trivial⟩ ?_
  · intro wx hb
    intro K hK
    have mm := Box.below (Bx) hb (Box.lt (Bx))
    have m0 : wx.cell? ⟨gx, 0, none⟩ = some (.int .i64 a1) := mm.cell 0
    have m1 : wx.cell? ⟨gx, 1, none⟩ = some (.int .u8 a2) := mm.cell 1
    have m2 : wx.cell? ⟨gx, 2, none⟩ = some (.int .i64 a3) := mm.cell 2
    have m3 : wx.cell? ⟨gx, 3, none⟩ = some (.int .i64 a4) := mm.cell 3
    have m4 : wx.cell? ⟨gx, 4, none⟩ = some (.int .i64 a5) := mm.cell 4
    clear mm
    go_simp
    exact hK _ _ rfl ⟨rfl, Below.refl _ _⟩
  · intro wx hb
    intro K hK
    have mm := Box.below (By) hb (Box.lt (By))
    have m0 : wx.cell? ⟨gy, 0, none⟩ = some (.int .i64 b1) := mm.cell 0
    have m1 : wx.cell? ⟨gy, 1, none⟩ = some (.int .u8 b2) := mm.cell 1
    have m2 : wx.cell? ⟨gy, 2, none⟩ = some (.int .i64 b3) := mm.cell 2
    have m3 : wx.cell? ⟨gy, 3, none⟩ = some (.int .i64 b4) := mm.cell 3
    have m4 : wx.cell? ⟨gy, 4, none⟩ = some (.int .i64 b5) := mm.cell 4
    clear mm
    go_simp
    exact hK _ _ rfl ⟨rfl, Below.refl _ _⟩
  · intro wx hb
    rintro _ rfl
    rintro _ rfl
    intro K hK
    go_simp
    (with_reducible refine (H1.out _).mono ?_)
    rintro e wa ⟨rfl, Ba⟩
    exact hK _ _ rfl ⟨rfl, Ba⟩
  · intro wx hb
    intro K hK
    have mm := Box.below (Bx) hb (Box.lt (Bx))
    have m0 : wx.cell? ⟨gx, 0, none⟩ = some (.int .i64 a1) := mm.cell 0
    have m1 : wx.cell? ⟨gx, 1, none⟩ = some (.int .u8 a2) := mm.cell 1
    have m2 : wx.cell? ⟨gx, 2, none⟩ = some (.int .i64 a3) := mm.cell 2
    have m3 : wx.cell? ⟨gx, 3, none⟩ = some (.int .i64 a4) := mm.cell 3
    have m4 : wx.cell? ⟨gx, 4, none⟩ = some (.int .i64 a5) := mm.cell 4
    clear mm
    go_simp
    exact hK _ _ rfl ⟨rfl, Below.refl _ _⟩
  · intro wx hb
    intro K hK
    have mm := Box.below (By) hb (Box.lt (By))
    have m0 : wx.cell? ⟨gy, 0, none⟩ = some (.int .i64 b1) := mm.cell 0
    have m1 : wx.cell? ⟨gy, 1, none⟩ = some (.int .u8 b2) := mm.cell 1
    have m2 : wx.cell? ⟨gy, 2, none⟩ = some (.int .i64 b3) := mm.cell 2
    have m3 : wx.cell? ⟨gy, 3, none⟩ = some (.int .i64 b4) := mm.cell 3
    have m4 : wx.cell? ⟨gy, 4, none⟩ = some (.int .i64 b5) := mm.cell 4
    clear mm
    go_simp
    exact hK _ _ rfl ⟨rfl, Below.refl _ _⟩
  · intro wx hb
    rintro _ rfl
    rintro _ rfl
    intro K hK
    go_simp
    (with_reducible refine (H2.out _).mono ?_)
    rintro e wa ⟨rfl, Ba⟩
    exact hK _ _ rfl ⟨rfl, Ba⟩
  · intro wx hb
    rintro _ rfl
    rintro _ rfl
    intro K hK
    go_simp
    exact hK _ _ rfl ⟨rfl, Below.refl _ _⟩
  · intro wx hb
    rintro _ rfl
    intro K hK
    go_simp
    exact hK _ _ rfl ⟨rfl, Below.refl _ _⟩
  · intro wx hb
    rintro _ rfl
    refine ⟨fun _ => ?_, fun h => absurd (show true = false from h) (by decide)⟩
    intro K hK
    have mm := Box.below (Bx) hb (Box.lt (Bx))
    have m0 : wx.cell? ⟨gx, 0, none⟩ = some (.int .i64 a1) := mm.cell 0
    have m1 : wx.cell? ⟨gx, 1, none⟩ = some (.int .u8 a2) := mm.cell 1
    have m2 : wx.cell? ⟨gx, 2, none⟩ = some (.int .i64 a3) := mm.cell 2
    have m3 : wx.cell? ⟨gx, 3, none⟩ = some (.int .i64 a4) := mm.cell 3
    have m4 : wx.cell? ⟨gx, 4, none⟩ = some (.int .i64 a5) := mm.cell 4
    clear mm
    go_simp
    exact hK _ _ rfl ⟨rfl, Below.refl _ _⟩
  · intro wx hb
    rintro _ rfl
    refine ⟨fun _ => ?_, fun h => absurd (show true = false from h) (by decide)⟩
    intro K hK
    have mm := Box.below (Bx) hb (Box.lt (Bx))
    have m0 : wx.cell? ⟨gx, 0, none⟩ = some (.int .i64 a1) := mm.cell 0
    have m1 : wx.cell? ⟨gx, 1, none⟩ = some (.int .u8 a2) := mm.cell 1
    have m2 : wx.cell? ⟨gx, 2, none⟩ = some (.int .i64 a3) := mm.cell 2
    have m3 : wx.cell? ⟨gx, 3, none⟩ = some (.int .i64 a4) := mm.cell 3
    have m4 : wx.cell? ⟨gx, 4, none⟩ = some (.int .i64 a5) := mm.cell 4
    clear mm
    go_simp
    exact hK _ _ rfl ⟨rfl, Below.refl _ _⟩
  · intro wx hb
    rintro _ rfl
    rintro _ rfl
    rintro _ rfl
    refine ⟨fun _ => ?_, fun h => absurd (show true = false from h) (by decide)⟩
    intro K hK
    go_simp
    (with_reducible refine (H3.out _).mono ?_)
    rintro e wa ⟨rfl, Ba⟩
    exact hK _ _ rfl ⟨rfl, Ba⟩
  · intro wx hb
    rintro _ rfl
    rintro _ rfl
    intro K hK
    go_simp
    exact hK _ _ rfl ⟨rfl, Below.refl _ _⟩
  · intro wx hb
    rintro _ rfl
    intro K hK
    go_simp
    exact hK _ _ rfl ⟨rfl, Below.refl _ _⟩
  · intro wx hb
    rintro _ rfl
    refine ⟨fun _ => ?_, fun h => absurd (show true = false from h) (by decide)⟩
    intro K hK
    have mm := Box.below (By) hb (Box.lt (By))
    have m0 : wx.cell? ⟨gy, 0, none⟩ = some (.int .i64 b1) := mm.cell 0
    have m1 : wx.cell? ⟨gy, 1, none⟩ = some (.int .u8 b2) := mm.cell 1
    have m2 : wx.cell? ⟨gy, 2, none⟩ = some (.int .i64 b3) := mm.cell 2
    have m3 : wx.cell? ⟨gy, 3, none⟩ = some (.int .i64 b4) := mm.cell 3
    have m4 : wx.cell? ⟨gy, 4, none⟩ = some (.int .i64 b5) := mm.cell 4
    clear mm
    go_simp
    exact hK _ _ rfl ⟨rfl, Below.refl _ _⟩
  · intro wx hb
    rintro _ rfl
    refine ⟨fun _ => ?_, fun h => absurd (show true = false from h) (by decide)⟩
    intro K hK
    have mm := Box.below (Bx) hb (Box.lt (Bx))
    have m0 : wx.cell? ⟨gx, 0, none⟩ = some (.int .i64 a1) := mm.cell 0
    have m1 : wx.cell? ⟨gx, 1, none⟩ = some (.int .u8 a2) := mm.cell 1
    have m2 : wx.cell? ⟨gx, 2, none⟩ = some (.int .i64 a3) := mm.cell 2
    have m3 : wx.cell? ⟨gx, 3, none⟩ = some (.int .i64 a4) := mm.cell 3
    have m4 : wx.cell? ⟨gx, 4, none⟩ = some (.int .i64 a5) := mm.cell 4
    clear mm
    go_simp
    exact hK _ _ rfl ⟨rfl, Below.refl _ _⟩
  · intro wx hb
    rintro _ rfl
    rintro _ rfl
    rintro _ rfl
    refine ⟨fun _ => ?_, fun h => absurd (show true = false from h) (by decide)⟩
    intro K hK
    go_simp
    (with_reducible refine (H4.out _).mono ?_)
    rintro e wa ⟨rfl, Ba⟩
    exact hK _ _ rfl ⟨rfl, Ba⟩
  · intro wx hb
    rintro _ rfl
    refine ⟨fun _ => ?_, fun h => absurd (show true = false from h) (by decide)⟩
    intro K hK
    have mm := Box.below (Bx) hb (Box.lt (Bx))
    have m0 : wx.cell? ⟨gx, 0, none⟩ = some (.int .i64 a1) := mm.cell 0
    have m1 : wx.cell? ⟨gx, 1, none⟩ = some (.int .u8 a2) := mm.cell 1
    have m2 : wx.cell? ⟨gx, 2, none⟩ = some (.int .i64 a3) := mm.cell 2
    have m3 : wx.cell? ⟨gx, 3, none⟩ = some (.int .i64 a4) := mm.cell 3
    have m4 : wx.cell? ⟨gx, 4, none⟩ = some (.int .i64 a5) := mm.cell 4
    clear mm
    go_simp
    exact hK _ _ rfl ⟨rfl, Below.refl _ _⟩
  · intro wx hb
    rintro _ rfl
    refine ⟨fun _ => ?_, fun h => absurd (show true = false from h) (by decide)⟩
    intro K hK
    have mm := Box.below (By) hb (Box.lt (By))
    have m0 : wx.cell? ⟨gy, 0, none⟩ = some (.int .i64 b1) := mm.cell 0
    have m1 : wx.cell? ⟨gy, 1, none⟩ = some (.int .u8 b2) := mm.cell 1
    have m2 : wx.cell? ⟨gy, 2, none⟩ = some (.int .i64 b3) := mm.cell 2
    have m3 : wx.cell? ⟨gy, 3, none⟩ = some (.int .i64 b4) := mm.cell 3
    have m4 : wx.cell? ⟨gy, 4, none⟩ = some (.int .i64 b5) := mm.cell 4
    clear mm
    go_simp
    exact hK _ _ rfl ⟨rfl, Below.refl _ _⟩
  · intro wx hb
    rintro _ rfl
    rintro _ rfl
    rintro _ rfl
    refine ⟨fun _ => ?_, fun h => absurd (show true = false from h) (by decide)⟩
    intro K hK
    go_simp
    (with_reducible refine (H1.out _).mono ?_)
    rintro e wa ⟨rfl, Ba⟩
    exact hK _ _ rfl ⟨rfl, Ba⟩
  · intro wx hb
    rintro _ rfl
    rintro _ rfl
    rintro _ rfl
    refine ⟨fun _ => ?_, fun h => absurd (show true = false from h) (by decide)⟩
    intro K hK
    go_simp
    exact hK _ _ rfl ⟨rfl, Below.refl _ _⟩
  · intro wx hb
    rintro _ rfl
    rintro _ rfl
    refine ⟨fun _ => ?_, fun h => absurd (show true = false from h) (by decide)⟩
    intro K hK
    go_simp
    exact hK _ _ rfl ⟨rfl, Below.refl _ _⟩
  · intro wx hb
    rintro _ rfl
    exact ⟨fun h => absurd (show false = true from h) (by decide), fun _ => ⟨rfl, Below.refl _ _⟩⟩
  · intro wx hb
    rintro _ rfl
    exact ⟨fun h => absurd (show false = true from h) (by decide), fun _ => ⟨rfl, Below.refl _ _⟩⟩
  · intro wx hb
    rintro _ rfl
    rintro _ rfl
    rintro _ rfl
    exact ⟨fun h => absurd (show false = true from h) (by decide), fun _ => ⟨rfl, Below.refl _ _⟩⟩
  · intro wx hb
    rintro _ rfl
    rintro _ rfl
    rintro _ rfl
    refine ⟨fun _ => ?_, fun h => absurd (show true = false from h) (by decide)⟩
    intro K hK
    go_simp
    exact hK _ _ rfl ⟨rfl, Below.refl _ _⟩
  · intro wx hb
    rintro _ rfl
    rintro _ rfl
    intro K hK
    go_simp
    exact hK _ _ rfl ⟨rfl, Below.refl _ _⟩
  intro w2 B2
  have Bx := Box.below Bx B2 (Box.lt Bx)
  have By := Box.below By B2 (Box.lt By)
  have Bz := Box.below Bz B2 (Box.lt Bz)
  have BW := bkeep BW B2
  rintro _ rfl
  rintro _ rfl
  rintro _ rfl
  rintro _ rfl
  rintro _ rfl
  rintro _ rfl
  rintro _ rfl
  rintro _ rfl
  rintro _ rfl
  rintro _ rfl
  rintro _ rfl
  rintro _ rfl
  rintro _ rfl
  rintro _ rfl
  rintro _ rfl
  rintro _ rfl
  rintro _ rfl
  rintro _ rfl
  rintro _ rfl
  rintro _ rfl
  rintro _ rfl
  rintro _ rfl
  rintro _ rfl
  rintro _ rfl
  rintro _ rfl
  rintro _ rfl
  rintro -
  simp only [Act.put, List.setIfInBounds_toArray, List.set_cons_zero, List.set_cons_succ, List.toList_toArray, List.length_cons, List.length_nil, List.drop_succ_cons, List.drop_zero, List.drop_nil, Nat.zero_add, wpList]
  clear B2
  go_upto_region 4 with fail
  refine region_lin0 (.val (fun v _ => v = .agg #[.int .i64 0, .int .u8 0, .int .i64 0, .int .i64 0, .int .i64 0]) :: .val (fun v _ => v = .agg #[.int .i64 1, .int .u8 0, .int .i64 0, .int .i64 0, .int .i64 0]) :: .val (fun v _ => v = .bool true) :: .val (fun v _ => v = .bool true) :: .val (fun v _ => v = .agg #[.int .i64 a1, .int .u8 a2, .int .i64 a3, .int .i64 a4, .int .i64 a5]) :: .val (fun v _ => v = .agg #[.int .i64 b1, .int .u8 b2, .int .i64 b3, .int .i64 b4, .int .i64 b5]) :: .val (fun v _ => v = .bool false) :: .val (fun v _ => v = .bool true) :: .val (fun v _ => v = .bool true) :: .val (fun v _ => v = undef) :: .val (fun v _ => v = undef) :: .val (fun v _ => v = undef) :: .val (fun v _ => v = undef) :: .val (fun v _ => v = .bool true) :: .val (fun v _ => v = .bool true) :: .val (fun v _ => v = undef) :: .val (fun v _ => v = undef) :: .val (fun v _ => v = undef) :: .val (fun v _ => v = .bool true) :: .val (fun v _ => v = .bool true) :: .val (fun v _ => v = .bool true) :: [])
    ([] :: [] :: [(38, 0), (39, 1)] :: [(40, 2)] :: [(41, 3)] :: [(41, 3)] :: [(42, 4), (43, 5), (41, 3)] :: [(44, 6), (41, 3)] :: [(45, 7), (41, 3)] :: [(46, 8)] :: [(46, 8)] :: [(47, 9), (48, 10), (46, 8)] :: [(49, 11), (46, 8)] :: [(46, 8), (50, 12), (41, 3)] :: [(51, 13), (41, 3)] :: [(52, 14)] :: [(52, 14)] :: [(53, 15), (54, 16), (52, 14)] :: [(52, 14), (55, 17), (41, 3)] :: [(41, 3), (56, 18)] :: [(57, 19)] :: []) ((0, 0) :: (0, 0) :: (0, 0) :: (0, 0) :: (0, 0) :: (0, 0) :: (0, 0) :: (0, 0) :: (0, 0) :: (0, 0) :: (0, 0) :: (0, 0) :: (0, 0) :: (0, 0) :: (0, 0) :: (0, 0) :: (0, 0) :: (0, 0) :: (0, 0) :: (0, 0) :: (0, 0) :: []) 58 (by kernel_rfl) rfl rfl (by kernel_rfl) ⟨Stab.pure _ _ _, Stab.pure _ _ _, Stab.pure _ _ _, Stab.pure _ _ _, Stab.pure _ _ _, Stab.pure _ _ _, Stab.pure _ _ _, Stab.pure _ _ _, Stab.pure _ _ _, Stab.pure _ _ _, Stab.pure _ _ _, Stab.pure _ _ _, Stab.pure _ _ _, Stab.pure _ _ _, Stab.pure _ _ _, Stab.pure _ _ _, Stab.pure _ _ _, Stab.pure _ _ _, Stab.pure _ _ _, Stab.pure _ _ _, Stab.pure _ _ _, trivial⟩ ⟨?_, ?_, ?_, ?_, ?_, ?_, ?_, ?_, ?_, ?_, ?_, ?_, ?_, ?_, ?_, ?_, ?_, ?_, ?_, ?_, ?_, trivial⟩ ?_
  · intro wx hb
    intro K hK
    go_simp
    exact hK _ _ rfl ⟨rfl, Below.refl _ _⟩
  · intro wx hb
    intro K hK
    go_simp
    exact hK _ _ rfl ⟨rfl, Below.refl _ _⟩
  · intro wx hb
    rintro _ rfl
    rintro _ rfl
    intro K hK
    go_simp
    (with_reducible refine (H7.out _).mono ?_)
    rintro e wa ⟨rfl, Ba⟩
    exact hK _ _ rfl ⟨rfl, Ba⟩
  · intro wx hb
    rintro _ rfl
    intro K hK
    go_simp
    exact hK _ _ rfl ⟨rfl, Below.refl _ _⟩
  · intro wx hb
    rintro _ rfl
    refine ⟨fun _ => ?_, fun h => absurd (show true = false from h) (by decide)⟩
    intro K hK
    have mm := Box.below (Bx) hb (Box.lt (Bx))
    have m0 : wx.cell? ⟨gx, 0, none⟩ = some (.int .i64 a1) := mm.cell 0
    have m1 : wx.cell? ⟨gx, 1, none⟩ = some (.int .u8 a2) := mm.cell 1
    have m2 : wx.cell? ⟨gx, 2, none⟩ = some (.int .i64 a3) := mm.cell 2
    have m3 : wx.cell? ⟨gx, 3, none⟩ = some (.int .i64 a4) := mm.cell 3
    have m4 : wx.cell? ⟨gx, 4, none⟩ = some (.int .i64 a5) := mm.cell 4
    clear mm
    go_simp
    exact hK _ _ rfl ⟨rfl, Below.refl _ _⟩
  · intro wx hb
    rintro _ rfl
    refine ⟨fun _ => ?_, fun h => absurd (show true = false from h) (by decide)⟩
    intro K hK
    have mm := Box.below (By) hb (Box.lt (By))
    have m0 : wx.cell? ⟨gy, 0, none⟩ = some (.int .i64 b1) := mm.cell 0
    have m1 : wx.cell? ⟨gy, 1, none⟩ = some (.int .u8 b2) := mm.cell 1
    have m2 : wx.cell? ⟨gy, 2, none⟩ = some (.int .i64 b3) := mm.cell 2
    have m3 : wx.cell? ⟨gy, 3, none⟩ = some (.int .i64 b4) := mm.cell 3
    have m4 : wx.cell? ⟨gy, 4, none⟩ = some (.int .i64 b5) := mm.cell 4
    clear mm
    go_simp
    exact hK _ _ rfl ⟨rfl, Below.refl _ _⟩
  · intro wx hb
    rintro _ rfl
    rintro _ rfl
    rintro _ rfl
    refine ⟨fun _ => ?_, fun h => absurd (show true = false from h) (by decide)⟩
    intro K hK
    go_simp
    (with_reducible refine (H1.out _).mono ?_)
    rintro e wa ⟨rfl, Ba⟩
    exact hK _ _ rfl ⟨rfl, Ba⟩
  · intro wx hb
    rintro _ rfl
    rintro _ rfl
    refine ⟨fun _ => ?_, fun h => absurd (show true = false from h) (by decide)⟩
    intro K hK
    go_simp
    exact hK _ _ rfl ⟨rfl, Below.refl _ _⟩
  · intro wx hb
    rintro _ rfl
    rintro _ rfl
    refine ⟨fun _ => ?_, fun h => absurd (show true = false from h) (by decide)⟩
    intro K hK
    go_simp
    exact hK _ _ rfl ⟨rfl, Below.refl _ _⟩
  · intro wx hb
    rintro _ rfl
    exact ⟨fun h => absurd (show false = true from h) (by decide), fun _ => ⟨rfl, Below.refl _ _⟩⟩
  · intro wx hb
    rintro _ rfl
    exact ⟨fun h => absurd (show false = true from h) (by decide), fun _ => ⟨rfl, Below.refl _ _⟩⟩
  · intro wx hb
    rintro _ rfl
    rintro _ rfl
    rintro _ rfl
    exact ⟨fun h => absurd (show false = true from h) (by decide), fun _ => ⟨rfl, Below.refl _ _⟩⟩
  · intro wx hb
    rintro _ rfl
    rintro _ rfl
    exact ⟨fun h => absurd (show false = true from h) (by decide), fun _ => ⟨rfl, Below.refl _ _⟩⟩
  · intro wx hb
    rintro _ rfl
    rintro _ rfl
    rintro _ rfl
    refine ⟨fun _ => ?_, fun h => absurd (show true = false from h) (by decide)⟩
    intro K hK
    go_simp
    exact hK _ _ rfl ⟨rfl, Below.refl _ _⟩
  · intro wx hb
    rintro _ rfl
    rintro _ rfl
    refine ⟨fun _ => ?_, fun h => absurd (show true = false from h) (by decide)⟩
    intro K hK
    go_simp
    exact hK _ _ rfl ⟨rfl, Below.refl _ _⟩
  · intro wx hb
    rintro _ rfl
    exact ⟨fun h => absurd (show false = true from h) (by decide), fun _ => ⟨rfl, Below.refl _ _⟩⟩
  · intro wx hb
    rintro _ rfl
    exact ⟨fun h => absurd (show false = true from h) (by decide), fun _ => ⟨rfl, Below.refl _ _⟩⟩
  · intro wx hb
    rintro _ rfl
    rintro _ rfl
    rintro _ rfl
    exact ⟨fun h => absurd (show false = true from h) (by decide), fun _ => ⟨rfl, Below.refl _ _⟩⟩
  · intro wx hb
    rintro _ rfl
    rintro _ rfl
    rintro _ rfl
    refine ⟨fun _ => ?_, fun h => absurd (show true = false from h) (by decide)⟩
    intro K hK
    go_simp
    exact hK _ _ rfl ⟨rfl, Below.refl _ _⟩
  · intro wx hb
    rintro _ rfl
    rintro _ rfl
    intro K hK
    go_simp
    exact hK _ _ rfl ⟨rfl, Below.refl _ _⟩
  · intro wx hb
    rintro _ rfl
    intro K hK
    go_simp
    exact hK _ _ rfl ⟨rfl, Below.refl _ _⟩
  intro w3 B3
  have BW := bkeep BW B3
  rintro _ rfl
  rintro _ rfl
  rintro _ rfl
  rintro _ rfl
  rintro _ rfl
  rintro _ rfl
  rintro _ rfl
  rintro _ rfl
  rintro _ rfl
  rintro _ rfl
  rintro _ rfl
  rintro _ rfl
  rintro _ rfl
  rintro _ rfl
  rintro _ rfl
  rintro _ rfl
  rintro _ rfl
  rintro _ rfl
  rintro _ rfl
  rintro _ rfl
  rintro _ rfl
  rintro -
  simp only [Act.put, List.setIfInBounds_toArray, List.set_cons_zero, List.set_cons_succ, List.toList_toArray, List.length_cons, List.length_nil, List.drop_succ_cons, List.drop_zero, List.drop_nil, Nat.zero_add, wpList]
  go_wp2_with fail
  go_ret
  exact ⟨rfl, BW⟩
set_option maxHeartbeats 4000000 in
theorem order_p (a1 a2 a3 a4 a5 b1 b2 b3 b4 b5 c1 c2 c3 c4 c5 : Int) (w : World)
    (H1 : Hid (∀ W : World, Calls Try.prog 21 #[.agg #[.int .i64 a1, .int .u8 a2, .int .i64 a3, .int .i64 a4, .int .i64 a5], .agg #[.int .i64 b1, .int .u8 b2, .int .i64 b3, .int .i64 b4, .int .i64 b5]] W fun e w' => e = .returned (.bool true) ∧ Below W.heap.size W w'))
    (H2 : Hid (∀ W : World, Calls Try.prog 22 #[.agg #[.int .i64 a1, .int .u8 a2, .int .i64 a3, .int .i64 a4, .int .i64 a5], .agg #[.int .i64 b1, .int .u8 b2, .int .i64 b3, .int .i64 b4, .int .i64 b5]] W fun e w' => e = .returned (.bool true) ∧ Below W.heap.size W w'))
    (H3 : Hid (∀ W : World, Calls Try.prog 21 #[.agg #[.int .i64 a1, .int .u8 a2, .int .i64 a3, .int .i64 a4, .int .i64 a5], .agg #[.int .i64 a1, .int .u8 a2, .int .i64 a3, .int .i64 a4, .int .i64 a5]] W fun e w' => e = .returned (.bool false) ∧ Below W.heap.size W w'))
    (H4 : Hid (∀ W : World, Calls Try.prog 21 #[.agg #[.int .i64 b1, .int .u8 b2, .int .i64 b3, .int .i64 b4, .int .i64 b5], .agg #[.int .i64 a1, .int .u8 a2, .int .i64 a3, .int .i64 a4, .int .i64 a5]] W fun e w' => e = .returned (.bool false) ∧ Below W.heap.size W w'))
    (H5 : Hid (True → ∀ W : World, Calls Try.prog 21 #[.agg #[.int .i64 b1, .int .u8 b2, .int .i64 b3, .int .i64 b4, .int .i64 b5], .agg #[.int .i64 c1, .int .u8 c2, .int .i64 c3, .int .i64 c4, .int .i64 c5]] W fun e w' => e = .returned (.bool false) ∧ Below W.heap.size W w'))
    (H6 : Hid (False → ∀ W : World, Calls Try.prog 21 #[.agg #[.int .i64 a1, .int .u8 a2, .int .i64 a3, .int .i64 a4, .int .i64 a5], .agg #[.int .i64 c1, .int .u8 c2, .int .i64 c3, .int .i64 c4, .int .i64 c5]] W fun e w' => e = .returned (.bool true) ∧ Below W.heap.size W w'))
    (H7 : Hid (∀ W : World, Calls Try.prog 21 #[.agg #[.int .i64 0, .int .u8 0, .int .i64 0, .int .i64 0, .int .i64 0], .agg #[.int .i64 1, .int .u8 0, .int .i64 0, .int .i64 0, .int .i64 0]] W fun e w' => e = .returned (.bool true) ∧ Below W.heap.size W w')) :
    Calls Try.prog 6 #[.agg #[.int .i64 a1, .int .u8 a2, .int .i64 a3, .int .i64 a4, .int .i64 a5, .int .i64 b1, .int .u8 b2, .int .i64 b3, .int .i64 b4, .int .i64 b5, .int .i64 c1, .int .u8 c2, .int .i64 c3, .int .i64 c4, .int .i64 c5]] w fun e w' => e = .returned (.bool true) ∧ Below w.heap.size w w' := by
  have PL := Lib.hid (Box.new w 42 #[.int .i64 a1, .int .u8 a2, .int .i64 a3, .int .i64 a4, .int .i64 a5, .int .i64 b1, .int .u8 b2, .int .i64 b3, .int .i64 b4, .int .i64 b5, .int .i64 c1, .int .u8 c2, .int .i64 c3, .int .i64 c4, .int .i64 c5])
  go_enter Try.func6, Try.ntmps6
  go_upto_region 1 with fail
  refine region_lin (.val (fun v _ => v = .pointer (some ⟨w.heap.size, 0, none⟩)) :: .val (fun v _ => v = .agg #[.int .i64 a1, .int .u8 a2, .int .i64 a3, .int .i64 a4, .int .i64 a5]) :: .val (fun v _ => v = .pointer (some ⟨w.heap.size, 5, none⟩)) :: .val (fun v _ => v = .agg #[.int .i64 b1, .int .u8 b2, .int .i64 b3, .int .i64 b4, .int .i64 b5]) :: .val (fun v _ => v = .pointer (some ⟨w.heap.size, 10, none⟩)) :: .val (fun v _ => v = .agg #[.int .i64 c1, .int .u8 c2, .int .i64 c3, .int .i64 c4, .int .i64 c5]) :: .new 24 #[.int .i64 0, .int .u8 0, .int .i64 0, .int .i64 0, .int .i64 0] #[.int .i64 a1, .int .u8 a2, .int .i64 a3, .int .i64 a4, .int .i64 a5] 9 :: .new 24 #[.int .i64 0, .int .u8 0, .int .i64 0, .int .i64 0, .int .i64 0] #[.int .i64 b1, .int .u8 b2, .int .i64 b3, .int .i64 b4, .int .i64 b5] 10 :: .new 24 #[.int .i64 0, .int .u8 0, .int .i64 0, .int .i64 0, .int .i64 0] #[.int .i64 c1, .int .u8 c2, .int .i64 c3, .int .i64 c4, .int .i64 c5] 11 :: .put 24 #[.int .i64 0, .int .u8 0, .int .i64 0, .int .i64 0, .int .i64 0] #[.int .i64 a1, .int .u8 a2, .int .i64 a3, .int .i64 a4, .int .i64 a5] 3 :: .put 24 #[.int .i64 0, .int .u8 0, .int .i64 0, .int .i64 0, .int .i64 0] #[.int .i64 b1, .int .u8 b2, .int .i64 b3, .int .i64 b4, .int .i64 b5] 4 :: .put 24 #[.int .i64 0, .int .u8 0, .int .i64 0, .int .i64 0, .int .i64 0] #[.int .i64 c1, .int .u8 c2, .int .i64 c3, .int .i64 c4, .int .i64 c5] 5 :: [])
    ([] :: [(6, 0)] :: [] :: [(8, 2)] :: [] :: [(10, 4)] :: [] :: [] :: [] :: [(7, 1)] :: [(9, 3)] :: [(11, 5)] :: []) ((0, 0) :: (0, 0) :: (0, 0) :: (0, 0) :: (0, 0) :: (0, 0) :: (1, 9) :: (1, 10) :: (1, 11) :: (2, 3) :: (2, 4) :: (2, 5) :: []) 58 (by kernel_rfl) rfl rfl (by kernel_rfl) ⟨Stab.pure _ _ _, Stab.pure _ _ _, Stab.pure _ _ _, Stab.pure _ _ _, Stab.pure _ _ _, Stab.pure _ _ _, ⟨rfl, rfl, rfl⟩, ⟨rfl, rfl, rfl⟩, ⟨rfl, rfl, rfl⟩, trivial⟩ ⟨?_, ?_, ?_, ?_, ?_, ?_, ?_, ?_, ?_, ?_, ?_, ?_, trivial⟩ ?_
  · intro wx hb
    intro K hK
    go_simp
    exact hK _ _ rfl ⟨rfl, Below.refl _ _⟩
  · intro wx hb
    rintro _ rfl
    intro K hK
    have mm := Box.below (PL.out) hb (Box.lt (PL.out))
    have m0 : wx.cell? ⟨w.heap.size, 0, none⟩ = some (.int .i64 a1) := mm.cell 0
    have m1 : wx.cell? ⟨w.heap.size, 1, none⟩ = some (.int .u8 a2) := mm.cell 1
    have m2 : wx.cell? ⟨w.heap.size, 2, none⟩ = some (.int .i64 a3) := mm.cell 2
    have m3 : wx.cell? ⟨w.heap.size, 3, none⟩ = some (.int .i64 a4) := mm.cell 3
    have m4 : wx.cell? ⟨w.heap.size, 4, none⟩ = some (.int .i64 a5) := mm.cell 4
    have m5 : wx.cell? ⟨w.heap.size, 5, none⟩ = some (.int .i64 b1) := mm.cell 5
    have m6 : wx.cell? ⟨w.heap.size, 6, none⟩ = some (.int .u8 b2) := mm.cell 6
    have m7 : wx.cell? ⟨w.heap.size, 7, none⟩ = some (.int .i64 b3) := mm.cell 7
    have m8 : wx.cell? ⟨w.heap.size, 8, none⟩ = some (.int .i64 b4) := mm.cell 8
    have m9 : wx.cell? ⟨w.heap.size, 9, none⟩ = some (.int .i64 b5) := mm.cell 9
    have m10 : wx.cell? ⟨w.heap.size, 10, none⟩ = some (.int .i64 c1) := mm.cell 10
    have m11 : wx.cell? ⟨w.heap.size, 11, none⟩ = some (.int .u8 c2) := mm.cell 11
    have m12 : wx.cell? ⟨w.heap.size, 12, none⟩ = some (.int .i64 c3) := mm.cell 12
    have m13 : wx.cell? ⟨w.heap.size, 13, none⟩ = some (.int .i64 c4) := mm.cell 13
    have m14 : wx.cell? ⟨w.heap.size, 14, none⟩ = some (.int .i64 c5) := mm.cell 14
    clear mm
    go_simp
    exact hK _ _ rfl ⟨rfl, Below.refl _ _⟩
  · intro wx hb
    intro K hK
    go_simp
    exact hK _ _ rfl ⟨rfl, Below.refl _ _⟩
  · intro wx hb
    rintro _ rfl
    intro K hK
    have mm := Box.below (PL.out) hb (Box.lt (PL.out))
    have m0 : wx.cell? ⟨w.heap.size, 0, none⟩ = some (.int .i64 a1) := mm.cell 0
    have m1 : wx.cell? ⟨w.heap.size, 1, none⟩ = some (.int .u8 a2) := mm.cell 1
    have m2 : wx.cell? ⟨w.heap.size, 2, none⟩ = some (.int .i64 a3) := mm.cell 2
    have m3 : wx.cell? ⟨w.heap.size, 3, none⟩ = some (.int .i64 a4) := mm.cell 3
    have m4 : wx.cell? ⟨w.heap.size, 4, none⟩ = some (.int .i64 a5) := mm.cell 4
    have m5 : wx.cell? ⟨w.heap.size, 5, none⟩ = some (.int .i64 b1) := mm.cell 5
    have m6 : wx.cell? ⟨w.heap.size, 6, none⟩ = some (.int .u8 b2) := mm.cell 6
    have m7 : wx.cell? ⟨w.heap.size, 7, none⟩ = some (.int .i64 b3) := mm.cell 7
    have m8 : wx.cell? ⟨w.heap.size, 8, none⟩ = some (.int .i64 b4) := mm.cell 8
    have m9 : wx.cell? ⟨w.heap.size, 9, none⟩ = some (.int .i64 b5) := mm.cell 9
    have m10 : wx.cell? ⟨w.heap.size, 10, none⟩ = some (.int .i64 c1) := mm.cell 10
    have m11 : wx.cell? ⟨w.heap.size, 11, none⟩ = some (.int .u8 c2) := mm.cell 11
    have m12 : wx.cell? ⟨w.heap.size, 12, none⟩ = some (.int .i64 c3) := mm.cell 12
    have m13 : wx.cell? ⟨w.heap.size, 13, none⟩ = some (.int .i64 c4) := mm.cell 13
    have m14 : wx.cell? ⟨w.heap.size, 14, none⟩ = some (.int .i64 c5) := mm.cell 14
    clear mm
    go_simp
    exact hK _ _ rfl ⟨rfl, Below.refl _ _⟩
  · intro wx hb
    intro K hK
    go_simp
    exact hK _ _ rfl ⟨rfl, Below.refl _ _⟩
  · intro wx hb
    rintro _ rfl
    intro K hK
    have mm := Box.below (PL.out) hb (Box.lt (PL.out))
    have m0 : wx.cell? ⟨w.heap.size, 0, none⟩ = some (.int .i64 a1) := mm.cell 0
    have m1 : wx.cell? ⟨w.heap.size, 1, none⟩ = some (.int .u8 a2) := mm.cell 1
    have m2 : wx.cell? ⟨w.heap.size, 2, none⟩ = some (.int .i64 a3) := mm.cell 2
    have m3 : wx.cell? ⟨w.heap.size, 3, none⟩ = some (.int .i64 a4) := mm.cell 3
    have m4 : wx.cell? ⟨w.heap.size, 4, none⟩ = some (.int .i64 a5) := mm.cell 4
    have m5 : wx.cell? ⟨w.heap.size, 5, none⟩ = some (.int .i64 b1) := mm.cell 5
    have m6 : wx.cell? ⟨w.heap.size, 6, none⟩ = some (.int .u8 b2) := mm.cell 6
    have m7 : wx.cell? ⟨w.heap.size, 7, none⟩ = some (.int .i64 b3) := mm.cell 7
    have m8 : wx.cell? ⟨w.heap.size, 8, none⟩ = some (.int .i64 b4) := mm.cell 8
    have m9 : wx.cell? ⟨w.heap.size, 9, none⟩ = some (.int .i64 b5) := mm.cell 9
    have m10 : wx.cell? ⟨w.heap.size, 10, none⟩ = some (.int .i64 c1) := mm.cell 10
    have m11 : wx.cell? ⟨w.heap.size, 11, none⟩ = some (.int .u8 c2) := mm.cell 11
    have m12 : wx.cell? ⟨w.heap.size, 12, none⟩ = some (.int .i64 c3) := mm.cell 12
    have m13 : wx.cell? ⟨w.heap.size, 13, none⟩ = some (.int .i64 c4) := mm.cell 13
    have m14 : wx.cell? ⟨w.heap.size, 14, none⟩ = some (.int .i64 c5) := mm.cell 14
    clear mm
    go_simp
    exact hK _ _ rfl ⟨rfl, Below.refl _ _⟩
  · intro wx hb
    intro K hK
    go_simp
    exact hK _ _ rfl ⟨rfl, rfl⟩
  · intro wx hb
    intro K hK
    go_simp
    exact hK _ _ rfl ⟨rfl, rfl⟩
  · intro wx hb
    intro K hK
    go_simp
    exact hK _ _ rfl ⟨rfl, rfl⟩
  · intro wx hb
    intro g hg hbx
    rintro _ rfl
    intro K hK
    have c0 : wx.cell? ⟨g, 0, none⟩ = some (.int .i64 0) := hbx.cell 0
    have f0 := hbx.free 0
    have c1 : wx.cell? ⟨g, 1, none⟩ = some (.int .u8 0) := hbx.cell 1
    have f1 := hbx.free 1
    have c2 : wx.cell? ⟨g, 2, none⟩ = some (.int .i64 0) := hbx.cell 2
    have f2 := hbx.free 2
    have c3 : wx.cell? ⟨g, 3, none⟩ = some (.int .i64 0) := hbx.cell 3
    have f3 := hbx.free 3
    have c4 : wx.cell? ⟨g, 4, none⟩ = some (.int .i64 0) := hbx.cell 4
    have f4 := hbx.free 4
    clear hb
    go_simp
    exact hK _ _ rfl (((((((Stored.start hbx).set 0 _).set 1 _).set 2 _).set 3 _).set 4 _))
  · intro wx hb
    intro g hg hbx
    rintro _ rfl
    intro K hK
    have c0 : wx.cell? ⟨g, 0, none⟩ = some (.int .i64 0) := hbx.cell 0
    have f0 := hbx.free 0
    have c1 : wx.cell? ⟨g, 1, none⟩ = some (.int .u8 0) := hbx.cell 1
    have f1 := hbx.free 1
    have c2 : wx.cell? ⟨g, 2, none⟩ = some (.int .i64 0) := hbx.cell 2
    have f2 := hbx.free 2
    have c3 : wx.cell? ⟨g, 3, none⟩ = some (.int .i64 0) := hbx.cell 3
    have f3 := hbx.free 3
    have c4 : wx.cell? ⟨g, 4, none⟩ = some (.int .i64 0) := hbx.cell 4
    have f4 := hbx.free 4
    clear hb
    go_simp
    exact hK _ _ rfl (((((((Stored.start hbx).set 0 _).set 1 _).set 2 _).set 3 _).set 4 _))
  · intro wx hb
    intro g hg hbx
    rintro _ rfl
    intro K hK
    have c0 : wx.cell? ⟨g, 0, none⟩ = some (.int .i64 0) := hbx.cell 0
    have f0 := hbx.free 0
    have c1 : wx.cell? ⟨g, 1, none⟩ = some (.int .u8 0) := hbx.cell 1
    have f1 := hbx.free 1
    have c2 : wx.cell? ⟨g, 2, none⟩ = some (.int .i64 0) := hbx.cell 2
    have f2 := hbx.free 2
    have c3 : wx.cell? ⟨g, 3, none⟩ = some (.int .i64 0) := hbx.cell 3
    have f3 := hbx.free 3
    have c4 : wx.cell? ⟨g, 4, none⟩ = some (.int .i64 0) := hbx.cell 4
    have f4 := hbx.free 4
    clear hb
    go_simp
    exact hK _ _ rfl (((((((Stored.start hbx).set 0 _).set 1 _).set 2 _).set 3 _).set 4 _))
  intro w1 B1
  rintro _ rfl
  rintro _ rfl
  rintro _ rfl
  rintro _ rfl
  rintro _ rfl
  rintro _ rfl
  intro gx hgx Bx
  intro gy hgy By
  intro gz hgz Bz
  rintro -
  simp only [Act.put, List.setIfInBounds_toArray, List.set_cons_zero, List.set_cons_succ, List.toList_toArray, List.length_cons, List.length_nil, List.drop_succ_cons, List.drop_zero, List.drop_nil, Nat.zero_add, wpList]
  have BW := bkeep (balloc (Below.refl _ _) _) B1
  clear B1
  go_upto_region 2 with fail
  refine region_lin (.val (fun v _ => v = .agg #[.int .i64 a1, .int .u8 a2, .int .i64 a3, .int .i64 a4, .int .i64 a5]) :: .val (fun v _ => v = .agg #[.int .i64 b1, .int .u8 b2, .int .i64 b3, .int .i64 b4, .int .i64 b5]) :: .val (fun v _ => v = .bool true) :: .val (fun v _ => v = .agg #[.int .i64 a1, .int .u8 a2, .int .i64 a3, .int .i64 a4, .int .i64 a5]) :: .val (fun v _ => v = .agg #[.int .i64 b1, .int .u8 b2, .int .i64 b3, .int .i64 b4, .int .i64 b5]) :: .val (fun v _ => v = .bool true) :: .val (fun v _ => v = .bool false) :: .val (fun v _ => v = .bool false) :: .val (fun v _ => v = .agg #[.int .i64 a1, .int .u8 a2, .int .i64 a3, .int .i64 a4, .int .i64 a5]) :: .val (fun v _ => v = .agg #[.int .i64 a1, .int .u8 a2, .int .i64 a3, .int .i64 a4, .int .i64 a5]) :: .val (fun v _ => v = .bool false) :: .val (fun v _ => v = .bool false) :: .val (fun v _ => v = .bool false) :: .val (fun v _ => v = .agg #[.int .i64 b1, .int .u8 b2, .int .i64 b3, .int .i64 b4, .int .i64 b5]) :: .val (fun v _ => v = .agg #[.int .i64 a1, .int .u8 a2, .int .i64 a3, .int .i64 a4, .int .i64 a5]) :: .val (fun v _ => v = .bool false) :: .val (fun v _ => v = .agg #[.int .i64 a1, .int .u8 a2, .int .i64 a3, .int .i64 a4, .int .i64 a5]) :: .val (fun v _ => v = .agg #[.int .i64 b1, .int .u8 b2, .int .i64 b3, .int .i64 b4, .int .i64 b5]) :: .val (fun v _ => v = .bool true) :: .val (fun v _ => v = .bool false) :: .val (fun v _ => v = .bool false) :: .val (fun v _ => v = undef) :: .val (fun v _ => v = undef) :: .val (fun v _ => v = undef) :: .val (fun v _ => v = .bool false) :: .val (fun v _ => v = .bool false) :: [])
    ([] :: [] :: [(12, 0), (13, 1)] :: [] :: [] :: [(15, 3), (16, 4)] :: [(14, 2), (17, 5)] :: [(18, 6)] :: [(19, 7)] :: [(19, 7)] :: [(20, 8), (21, 9), (19, 7)] :: [(19, 7), (22, 10)] :: [(23, 11)] :: [(24, 12)] :: [(24, 12)] :: [(25, 13), (26, 14), (24, 12)] :: [(24, 12)] :: [(24, 12)] :: [(28, 16), (29, 17), (24, 12)] :: [(27, 15), (30, 18), (24, 12)] :: [(31, 19), (24, 12)] :: [(32, 20)] :: [(32, 20)] :: [(33, 21), (34, 22), (32, 20)] :: [(32, 20), (35, 23), (24, 12)] :: [(24, 12), (36, 24)] :: []) ((0, 0) :: (0, 0) :: (0, 0) :: (0, 0) :: (0, 0) :: (0, 0) :: (0, 0) :: (0, 0) :: (0, 0) :: (0, 0) :: (0, 0) :: (0, 0) :: (0, 0) :: (0, 0) :: (0, 0) :: (0, 0) :: (0, 0) :: (0, 0) :: (0, 0) :: (0, 0) :: (0, 0) :: (0, 0) :: (0, 0) :: (0, 0) :: (0, 0) :: (0, 0) :: []) 58 (by kernel_rfl) rfl rfl (by kernel_rfl) ⟨Stab.pure _ _ _, Stab.pure _ _ _, Stab.pure _ _ _, Stab.pure _ _ _, Stab.pure _ _ _, Stab.pure _ _ _, Stab.pure _ _ _, Stab.pure _ _ _, Stab.pure _ _ _, Stab.pure _ _ _, Stab.pure _ _ _, Stab.pure _ _ _, Stab.pure _ _ _, Stab.pure _ _ _, Stab.pure _ _ _, Stab.pure _ _ _, Stab.pure _ _ _, Stab.pure _ _ _, Stab.pure _ _ _, Stab.pure _ _ _, Stab.pure _ _ _, Stab.pure _ _ _, Stab.pure _ _ _, Stab.pure _ _ _, Stab.pure _ _ _, Stab.pure _ _ _, trivial⟩ ⟨?_, ?_, ?_, ?_, ?_, ?_, ?_, ?_, ?_, ?_, ?_, ?_, ?_, ?_, ?_, ?_, ?_, ?_, ?_, ?_, ?_, ?_, ?_, ?_, ?_, ?_, trivial⟩ ?_
  · intro wx hb
    intro K hK
    have mm := Box.below (Bx) hb (Box.lt (Bx))
    have m0 : wx.cell? ⟨gx, 0, none⟩ = some (.int .i64 a1) := mm.cell 0
    have m1 : wx.cell? ⟨gx, 1, none⟩ = some (.int .u8 a2) := mm.cell 1
    have m2 : wx.cell? ⟨gx, 2, none⟩ = some (.int .i64 a3) := mm.cell 2
    have m3 : wx.cell? ⟨gx, 3, none⟩ = some (.int .i64 a4) := mm.cell 3
    have m4 : wx.cell? ⟨gx, 4, none⟩ = some (.int .i64 a5) := mm.cell 4
    clear mm
    go_simp
    exact hK _ _ rfl ⟨rfl, Below.refl _ _⟩
  · intro wx hb
    intro K hK
    have mm := Box.below (By) hb (Box.lt (By))
    have m0 : wx.cell? ⟨gy, 0, none⟩ = some (.int .i64 b1) := mm.cell 0
    have m1 : wx.cell? ⟨gy, 1, none⟩ = some (.int .u8 b2) := mm.cell 1
    have m2 : wx.cell? ⟨gy, 2, none⟩ = some (.int .i64 b3) := mm.cell 2
    have m3 : wx.cell? ⟨gy, 3, none⟩ = some (.int .i64 b4) := mm.cell 3
    have m4 : wx.cell? ⟨gy, 4, none⟩ = some (.int .i64 b5) := mm.cell 4
    clear mm
    go_simp
    exact hK _ _ rfl ⟨rfl, Below.refl _ _⟩
  · intro wx hb
    rintro _ rfl
    rintro _ rfl
    intro K hK
    go_simp
    (with_reducible refine (H1.out _).mono ?_)
    rintro e wa ⟨rfl, Ba⟩
    exact hK _ _ rfl ⟨rfl, Ba⟩
  · intro wx hb
    intro K hK
    have mm := Box.below (Bx) hb (Box.lt (Bx))
    have m0 : wx.cell? ⟨gx, 0, none⟩ = some (.int .i64 a1) := mm.cell 0
    have m1 : wx.cell? ⟨gx, 1, none⟩ = some (.int .u8 a2) := mm.cell 1
    have m2 : wx.cell? ⟨gx, 2, none⟩ = some (.int .i64 a3) := mm.cell 2
    have m3 : wx.cell? ⟨gx, 3, none⟩ = some (.int .i64 a4) := mm.cell 3
    have m4 : wx.cell? ⟨gx, 4, none⟩ = some (.int .i64 a5) := mm.cell 4
    clear mm
    go_simp
    exact hK _ _ rfl ⟨rfl, Below.refl _ _⟩
  · intro wx hb
    intro K hK
    have mm := Box.below (By) hb (Box.lt (By))
    have m0 : wx.cell? ⟨gy, 0, none⟩ = some (.int .i64 b1) := mm.cell 0
    have m1 : wx.cell? ⟨gy, 1, none⟩ = some (.int .u8 b2) := mm.cell 1
    have m2 : wx.cell? ⟨gy, 2, none⟩ = some (.int .i64 b3) := mm.cell 2
    have m3 : wx.cell? ⟨gy, 3, none⟩ = some (.int .i64 b4) := mm.cell 3
    have m4 : wx.cell? ⟨gy, 4, none⟩ = some (.int .i64 b5) := mm.cell 4
    clear mm
    go_simp
    exact hK _ _ rfl ⟨rfl, Below.refl _ _⟩
  · intro wx hb
    rintro _ rfl
    rintro _ rfl
    intro K hK
    go_simp
    (with_reducible refine (H2.out _).mono ?_)
    rintro e wa ⟨rfl, Ba⟩
    exact hK _ _ rfl ⟨rfl, Ba⟩
  · intro wx hb
    rintro _ rfl
    rintro _ rfl
    intro K hK
    go_simp
    exact hK _ _ rfl ⟨rfl, Below.refl _ _⟩
  · intro wx hb
    rintro _ rfl
    intro K hK
    go_simp
    exact hK _ _ rfl ⟨rfl, Below.refl _ _⟩
  · intro wx hb
    rintro _ rfl
    refine ⟨fun _ => ?_, fun h => absurd (show true = false from h) (by decide)⟩
    intro K hK
    have mm := Box.below (Bx) hb (Box.lt (Bx))
    have m0 : wx.cell? ⟨gx, 0, none⟩ = some (.int .i64 a1) := mm.cell 0
    have m1 : wx.cell? ⟨gx, 1, none⟩ = some (.int .u8 a2) := mm.cell 1
    have m2 : wx.cell? ⟨gx, 2, none⟩ = some (.int .i64 a3) := mm.cell 2
    have m3 : wx.cell? ⟨gx, 3, none⟩ = some (.int .i64 a4) := mm.cell 3
    have m4 : wx.cell? ⟨gx, 4, none⟩ = some (.int .i64 a5) := mm.cell 4
    clear mm
    go_simp
    exact hK _ _ rfl ⟨rfl, Below.refl _ _⟩
  · intro wx hb
    rintro _ rfl
    refine ⟨fun _ => ?_, fun h => absurd (show true = false from h) (by decide)⟩
    intro K hK
    have mm := Box.below (Bx) hb (Box.lt (Bx))
    have m0 : wx.cell? ⟨gx, 0, none⟩ = some (.int .i64 a1) := mm.cell 0
    have m1 : wx.cell? ⟨gx, 1, none⟩ = some (.int .u8 a2) := mm.cell 1
    have m2 : wx.cell? ⟨gx, 2, none⟩ = some (.int .i64 a3) := mm.cell 2
    have m3 : wx.cell? ⟨gx, 3, none⟩ = some (.int .i64 a4) := mm.cell 3
    have m4 : wx.cell? ⟨gx, 4, none⟩ = some (.int .i64 a5) := mm.cell 4
    clear mm
    go_simp
    exact hK _ _ rfl ⟨rfl, Below.refl _ _⟩
  · intro wx hb
    rintro _ rfl
    rintro _ rfl
    rintro _ rfl
    refine ⟨fun _ => ?_, fun h => absurd (show true = false from h) (by decide)⟩
    intro K hK
    go_simp
    (with_reducible refine (H3.out _).mono ?_)
    rintro e wa ⟨rfl, Ba⟩
    exact hK _ _ rfl ⟨rfl, Ba⟩
  · intro wx hb
    rintro _ rfl
    rintro _ rfl
    intro K hK
    go_simp
    exact hK _ _ rfl ⟨rfl, Below.refl _ _⟩
  · intro wx hb
    rintro _ rfl
    intro K hK
    go_simp
    exact hK _ _ rfl ⟨rfl, Below.refl _ _⟩
  · intro wx hb
    rintro _ rfl
    refine ⟨fun _ => ?_, fun h => absurd (show true = false from h) (by decide)⟩
    intro K hK
    have mm := Box.below (By) hb (Box.lt (By))
    have m0 : wx.cell? ⟨gy, 0, none⟩ = some (.int .i64 b1) := mm.cell 0
    have m1 : wx.cell? ⟨gy, 1, none⟩ = some (.int .u8 b2) := mm.cell 1
    have m2 : wx.cell? ⟨gy, 2, none⟩ = some (.int .i64 b3) := mm.cell 2
    have m3 : wx.cell? ⟨gy, 3, none⟩ = some (.int .i64 b4) := mm.cell 3
    have m4 : wx.cell? ⟨gy, 4, none⟩ = some (.int .i64 b5) := mm.cell 4
    clear mm
    go_simp
    exact hK _ _ rfl ⟨rfl, Below.refl _ _⟩
  · intro wx hb
    rintro _ rfl
    refine ⟨fun _ => ?_, fun h => absurd (show true = false from h) (by decide)⟩
    intro K hK
    have mm := Box.below (Bx) hb (Box.lt (Bx))
    have m0 : wx.cell? ⟨gx, 0, none⟩ = some (.int .i64 a1) := mm.cell 0
    have m1 : wx.cell? ⟨gx, 1, none⟩ = some (.int .u8 a2) := mm.cell 1
    have m2 : wx.cell? ⟨gx, 2, none⟩ = some (.int .i64 a3) := mm.cell 2
    have m3 : wx.cell? ⟨gx, 3, none⟩ = some (.int .i64 a4) := mm.cell 3
    have m4 : wx.cell? ⟨gx, 4, none⟩ = some (.int .i64 a5) := mm.cell 4
    clear mm
    go_simp
    exact hK _ _ rfl ⟨rfl, Below.refl _ _⟩
  · intro wx hb
    rintro _ rfl
    rintro _ rfl
    rintro _ rfl
    refine ⟨fun _ => ?_, fun h => absurd (show true = false from h) (by decide)⟩
    intro K hK
    go_simp
    (with_reducible refine (H4.out _).mono ?_)
    rintro e wa ⟨rfl, Ba⟩
    exact hK _ _ rfl ⟨rfl, Ba⟩
  · intro wx hb
    rintro _ rfl
    refine ⟨fun _ => ?_, fun h => absurd (show true = false from h) (by decide)⟩
    intro K hK
    have mm := Box.below (Bx) hb (Box.lt (Bx))
    have m0 : wx.cell? ⟨gx, 0, none⟩ = some (.int .i64 a1) := mm.cell 0
    have m1 : wx.cell? ⟨gx, 1, none⟩ = some (.int .u8 a2) := mm.cell 1
    have m2 : wx.cell? ⟨gx, 2, none⟩ = some (.int .i64 a3) := mm.cell 2
    have m3 : wx.cell? ⟨gx, 3, none⟩ = some (.int .i64 a4) := mm.cell 3
    have m4 : wx.cell? ⟨gx, 4, none⟩ = some (.int .i64 a5) := mm.cell 4
    clear mm
    go_simp
    exact hK _ _ rfl ⟨rfl, Below.refl _ _⟩
  · intro wx hb
    rintro _ rfl
    refine ⟨fun _ => ?_, fun h => absurd (show true = false from h) (by decide)⟩
    intro K hK
    have mm := Box.below (By) hb (Box.lt (By))
    have m0 : wx.cell? ⟨gy, 0, none⟩ = some (.int .i64 b1) := mm.cell 0
    have m1 : wx.cell? ⟨gy, 1, none⟩ = some (.int .u8 b2) := mm.cell 1
    have m2 : wx.cell? ⟨gy, 2, none⟩ = some (.int .i64 b3) := mm.cell 2
    have m3 : wx.cell? ⟨gy, 3, none⟩ = some (.int .i64 b4) := mm.cell 3
    have m4 : wx.cell? ⟨gy, 4, none⟩ = some (.int .i64 b5) := mm.cell 4
    clear mm
    go_simp
    exact hK _ _ rfl ⟨rfl, Below.refl _ _⟩
  · intro wx hb
    rintro _ rfl
    rintro _ rfl
    rintro _ rfl
    refine ⟨fun _ => ?_, fun h => absurd (show true = false from h) (by decide)⟩
    intro K hK
    go_simp
    (with_reducible refine (H1.out _).mono ?_)
    rintro e wa ⟨rfl, Ba⟩
    exact hK _ _ rfl ⟨rfl, Ba⟩
  · intro wx hb
    rintro _ rfl
    rintro _ rfl
    rintro _ rfl
    refine ⟨fun _ => ?_, fun h => absurd (show true = false from h) (by decide)⟩
    intro K hK
    go_simp
    exact hK _ _ rfl ⟨rfl, Below.refl _ _⟩
  · intro wx hb
    rintro _ rfl
    rintro _ rfl
    refine ⟨fun _ => ?_, fun h => absurd (show true = false from h) (by decide)⟩
    intro K hK
    go_simp
    exact hK _ _ rfl ⟨rfl, Below.refl _ _⟩
  · intro wx hb
    rintro _ rfl
    exact ⟨fun h => absurd (show false = true from h) (by decide), fun _ => ⟨rfl, Below.refl _ _⟩⟩
  · intro wx hb
    rintro _ rfl
    exact ⟨fun h => absurd (show false = true from h) (by decide), fun _ => ⟨rfl, Below.refl _ _⟩⟩
  · intro wx hb
    rintro _ rfl
    rintro _ rfl
    rintro _ rfl
    exact ⟨fun h => absurd (show false = true from h) (by decide), fun _ => ⟨rfl, Below.refl _ _⟩⟩
  · intro wx hb
    rintro _ rfl
    rintro _ rfl
    rintro _ rfl
    refine ⟨fun _ => ?_, fun h => absurd (show true = false from h) (by decide)⟩
    intro K hK
    go_simp
    exact hK _ _ rfl ⟨rfl, Below.refl _ _⟩
  · intro wx hb
    rintro _ rfl
    rintro _ rfl
    intro K hK
    go_simp
    exact hK _ _ rfl ⟨rfl, Below.refl _ _⟩
  intro w2 B2
  have Bx := Box.below Bx B2 (Box.lt Bx)
  have By := Box.below By B2 (Box.lt By)
  have Bz := Box.below Bz B2 (Box.lt Bz)
  have BW := bkeep BW B2
  rintro _ rfl
  rintro _ rfl
  rintro _ rfl
  rintro _ rfl
  rintro _ rfl
  rintro _ rfl
  rintro _ rfl
  rintro _ rfl
  rintro _ rfl
  rintro _ rfl
  rintro _ rfl
  rintro _ rfl
  rintro _ rfl
  rintro _ rfl
  rintro _ rfl
  rintro _ rfl
  rintro _ rfl
  rintro _ rfl
  rintro _ rfl
  rintro _ rfl
  rintro _ rfl
  rintro _ rfl
  rintro _ rfl
  rintro _ rfl
  rintro _ rfl
  rintro _ rfl
  rintro -
  simp only [Act.put, List.setIfInBounds_toArray, List.set_cons_zero, List.set_cons_succ, List.toList_toArray, List.length_cons, List.length_nil, List.drop_succ_cons, List.drop_zero, List.drop_nil, Nat.zero_add, wpList]
  clear B2
  go_upto_region 4 with fail
  refine region_lin0 (.val (fun v _ => v = .agg #[.int .i64 0, .int .u8 0, .int .i64 0, .int .i64 0, .int .i64 0]) :: .val (fun v _ => v = .agg #[.int .i64 1, .int .u8 0, .int .i64 0, .int .i64 0, .int .i64 0]) :: .val (fun v _ => v = .bool true) :: .val (fun v _ => v = .bool true) :: .val (fun v _ => v = .agg #[.int .i64 a1, .int .u8 a2, .int .i64 a3, .int .i64 a4, .int .i64 a5]) :: .val (fun v _ => v = .agg #[.int .i64 b1, .int .u8 b2, .int .i64 b3, .int .i64 b4, .int .i64 b5]) :: .val (fun v _ => v = .bool true) :: .val (fun v _ => v = .bool false) :: .val (fun v _ => v = .bool false) :: .val (fun v _ => v = .agg #[.int .i64 b1, .int .u8 b2, .int .i64 b3, .int .i64 b4, .int .i64 b5]) :: .val (fun v _ => v = .agg #[.int .i64 c1, .int .u8 c2, .int .i64 c3, .int .i64 c4, .int .i64 c5]) :: .val (fun v _ => v = .bool false) :: .val (fun v _ => v = .bool true) :: .val (fun v _ => v = .bool true) :: .val (fun v _ => v = .bool true) :: .val (fun v _ => v = undef) :: .val (fun v _ => v = undef) :: .val (fun v _ => v = undef) :: .val (fun v _ => v = .bool true) :: .val (fun v _ => v = .bool true) :: .val (fun v _ => v = .bool true) :: [])
    ([] :: [] :: [(38, 0), (39, 1)] :: [(40, 2)] :: [(41, 3)] :: [(41, 3)] :: [(42, 4), (43, 5), (41, 3)] :: [(44, 6), (41, 3)] :: [(45, 7), (41, 3)] :: [(46, 8)] :: [(46, 8)] :: [(47, 9), (48, 10), (46, 8)] :: [(49, 11), (46, 8)] :: [(46, 8), (50, 12), (41, 3)] :: [(51, 13), (41, 3)] :: [(52, 14)] :: [(52, 14)] :: [(53, 15), (54, 16), (52, 14)] :: [(52, 14), (55, 17), (41, 3)] :: [(41, 3), (56, 18)] :: [(57, 19)] :: []) ((0, 0) :: (0, 0) :: (0, 0) :: (0, 0) :: (0, 0) :: (0, 0) :: (0, 0) :: (0, 0) :: (0, 0) :: (0, 0) :: (0, 0) :: (0, 0) :: (0, 0) :: (0, 0) :: (0, 0) :: (0, 0) :: (0, 0) :: (0, 0) :: (0, 0) :: (0, 0) :: (0, 0) :: []) 58 (by kernel_rfl) rfl rfl (by kernel_rfl) ⟨Stab.pure _ _ _, Stab.pure _ _ _, Stab.pure _ _ _, Stab.pure _ _ _, Stab.pure _ _ _, Stab.pure _ _ _, Stab.pure _ _ _, Stab.pure _ _ _, Stab.pure _ _ _, Stab.pure _ _ _, Stab.pure _ _ _, Stab.pure _ _ _, Stab.pure _ _ _, Stab.pure _ _ _, Stab.pure _ _ _, Stab.pure _ _ _, Stab.pure _ _ _, Stab.pure _ _ _, Stab.pure _ _ _, Stab.pure _ _ _, Stab.pure _ _ _, trivial⟩ ⟨?_, ?_, ?_, ?_, ?_, ?_, ?_, ?_, ?_, ?_, ?_, ?_, ?_, ?_, ?_, ?_, ?_, ?_, ?_, ?_, ?_, trivial⟩ ?_
  · intro wx hb
    intro K hK
    go_simp
    exact hK _ _ rfl ⟨rfl, Below.refl _ _⟩
  · intro wx hb
    intro K hK
    go_simp
    exact hK _ _ rfl ⟨rfl, Below.refl _ _⟩
  · intro wx hb
    rintro _ rfl
    rintro _ rfl
    intro K hK
    go_simp
    (with_reducible refine (H7.out _).mono ?_)
    rintro e wa ⟨rfl, Ba⟩
    exact hK _ _ rfl ⟨rfl, Ba⟩
  · intro wx hb
    rintro _ rfl
    intro K hK
    go_simp
    exact hK _ _ rfl ⟨rfl, Below.refl _ _⟩
  · intro wx hb
    rintro _ rfl
    refine ⟨fun _ => ?_, fun h => absurd (show true = false from h) (by decide)⟩
    intro K hK
    have mm := Box.below (Bx) hb (Box.lt (Bx))
    have m0 : wx.cell? ⟨gx, 0, none⟩ = some (.int .i64 a1) := mm.cell 0
    have m1 : wx.cell? ⟨gx, 1, none⟩ = some (.int .u8 a2) := mm.cell 1
    have m2 : wx.cell? ⟨gx, 2, none⟩ = some (.int .i64 a3) := mm.cell 2
    have m3 : wx.cell? ⟨gx, 3, none⟩ = some (.int .i64 a4) := mm.cell 3
    have m4 : wx.cell? ⟨gx, 4, none⟩ = some (.int .i64 a5) := mm.cell 4
    clear mm
    go_simp
    exact hK _ _ rfl ⟨rfl, Below.refl _ _⟩
  · intro wx hb
    rintro _ rfl
    refine ⟨fun _ => ?_, fun h => absurd (show true = false from h) (by decide)⟩
    intro K hK
    have mm := Box.below (By) hb (Box.lt (By))
    have m0 : wx.cell? ⟨gy, 0, none⟩ = some (.int .i64 b1) := mm.cell 0
    have m1 : wx.cell? ⟨gy, 1, none⟩ = some (.int .u8 b2) := mm.cell 1
    have m2 : wx.cell? ⟨gy, 2, none⟩ = some (.int .i64 b3) := mm.cell 2
    have m3 : wx.cell? ⟨gy, 3, none⟩ = some (.int .i64 b4) := mm.cell 3
    have m4 : wx.cell? ⟨gy, 4, none⟩ = some (.int .i64 b5) := mm.cell 4
    clear mm
    go_simp
    exact hK _ _ rfl ⟨rfl, Below.refl _ _⟩
  · intro wx hb
    rintro _ rfl
    rintro _ rfl
    rintro _ rfl
    refine ⟨fun _ => ?_, fun h => absurd (show true = false from h) (by decide)⟩
    intro K hK
    go_simp
    (with_reducible refine (H1.out _).mono ?_)
    rintro e wa ⟨rfl, Ba⟩
    exact hK _ _ rfl ⟨rfl, Ba⟩
  · intro wx hb
    rintro _ rfl
    rintro _ rfl
    refine ⟨fun _ => ?_, fun h => absurd (show true = false from h) (by decide)⟩
    intro K hK
    go_simp
    exact hK _ _ rfl ⟨rfl, Below.refl _ _⟩
  · intro wx hb
    rintro _ rfl
    rintro _ rfl
    refine ⟨fun _ => ?_, fun h => absurd (show true = false from h) (by decide)⟩
    intro K hK
    go_simp
    exact hK _ _ rfl ⟨rfl, Below.refl _ _⟩
  · intro wx hb
    rintro _ rfl
    refine ⟨fun _ => ?_, fun h => absurd (show true = false from h) (by decide)⟩
    intro K hK
    have mm := Box.below (By) hb (Box.lt (By))
    have m0 : wx.cell? ⟨gy, 0, none⟩ = some (.int .i64 b1) := mm.cell 0
    have m1 : wx.cell? ⟨gy, 1, none⟩ = some (.int .u8 b2) := mm.cell 1
    have m2 : wx.cell? ⟨gy, 2, none⟩ = some (.int .i64 b3) := mm.cell 2
    have m3 : wx.cell? ⟨gy, 3, none⟩ = some (.int .i64 b4) := mm.cell 3
    have m4 : wx.cell? ⟨gy, 4, none⟩ = some (.int .i64 b5) := mm.cell 4
    clear mm
    go_simp
    exact hK _ _ rfl ⟨rfl, Below.refl _ _⟩
  · intro wx hb
    rintro _ rfl
    refine ⟨fun _ => ?_, fun h => absurd (show true = false from h) (by decide)⟩
    intro K hK
    have mm := Box.below (Bz) hb (Box.lt (Bz))
    have m0 : wx.cell? ⟨gz, 0, none⟩ = some (.int .i64 c1) := mm.cell 0
    have m1 : wx.cell? ⟨gz, 1, none⟩ = some (.int .u8 c2) := mm.cell 1
    have m2 : wx.cell? ⟨gz, 2, none⟩ = some (.int .i64 c3) := mm.cell 2
    have m3 : wx.cell? ⟨gz, 3, none⟩ = some (.int .i64 c4) := mm.cell 3
    have m4 : wx.cell? ⟨gz, 4, none⟩ = some (.int .i64 c5) := mm.cell 4
    clear mm
    go_simp
    exact hK _ _ rfl ⟨rfl, Below.refl _ _⟩
  · intro wx hb
    rintro _ rfl
    rintro _ rfl
    rintro _ rfl
    refine ⟨fun _ => ?_, fun h => absurd (show true = false from h) (by decide)⟩
    intro K hK
    go_simp
    (with_reducible refine (H5.out trivial _).mono ?_)
    rintro e wa ⟨rfl, Ba⟩
    exact hK _ _ rfl ⟨rfl, Ba⟩
  · intro wx hb
    rintro _ rfl
    rintro _ rfl
    refine ⟨fun _ => ?_, fun h => absurd (show true = false from h) (by decide)⟩
    intro K hK
    go_simp
    exact hK _ _ rfl ⟨rfl, Below.refl _ _⟩
  · intro wx hb
    rintro _ rfl
    rintro _ rfl
    rintro _ rfl
    refine ⟨fun _ => ?_, fun h => absurd (show true = false from h) (by decide)⟩
    intro K hK
    go_simp
    exact hK _ _ rfl ⟨rfl, Below.refl _ _⟩
  · intro wx hb
    rintro _ rfl
    rintro _ rfl
    refine ⟨fun _ => ?_, fun h => absurd (show true = false from h) (by decide)⟩
    intro K hK
    go_simp
    exact hK _ _ rfl ⟨rfl, Below.refl _ _⟩
  · intro wx hb
    rintro _ rfl
    exact ⟨fun h => absurd (show false = true from h) (by decide), fun _ => ⟨rfl, Below.refl _ _⟩⟩
  · intro wx hb
    rintro _ rfl
    exact ⟨fun h => absurd (show false = true from h) (by decide), fun _ => ⟨rfl, Below.refl _ _⟩⟩
  · intro wx hb
    rintro _ rfl
    rintro _ rfl
    rintro _ rfl
    exact ⟨fun h => absurd (show false = true from h) (by decide), fun _ => ⟨rfl, Below.refl _ _⟩⟩
  · intro wx hb
    rintro _ rfl
    rintro _ rfl
    rintro _ rfl
    refine ⟨fun _ => ?_, fun h => absurd (show true = false from h) (by decide)⟩
    intro K hK
    go_simp
    exact hK _ _ rfl ⟨rfl, Below.refl _ _⟩
  · intro wx hb
    rintro _ rfl
    rintro _ rfl
    intro K hK
    go_simp
    exact hK _ _ rfl ⟨rfl, Below.refl _ _⟩
  · intro wx hb
    rintro _ rfl
    intro K hK
    go_simp
    exact hK _ _ rfl ⟨rfl, Below.refl _ _⟩
  intro w3 B3
  have BW := bkeep BW B3
  rintro _ rfl
  rintro _ rfl
  rintro _ rfl
  rintro _ rfl
  rintro _ rfl
  rintro _ rfl
  rintro _ rfl
  rintro _ rfl
  rintro _ rfl
  rintro _ rfl
  rintro _ rfl
  rintro _ rfl
  rintro _ rfl
  rintro _ rfl
  rintro _ rfl
  rintro _ rfl
  rintro _ rfl
  rintro _ rfl
  rintro _ rfl
  rintro _ rfl
  rintro _ rfl
  rintro -
  simp only [Act.put, List.setIfInBounds_toArray, List.set_cons_zero, List.set_cons_succ, List.toList_toArray, List.length_cons, List.length_nil, List.drop_succ_cons, List.drop_zero, List.drop_nil, Nat.zero_add, wpList]
  go_wp2_with fail
  go_ret
  exact ⟨rfl, BW⟩
set_option maxHeartbeats 4000000 in
theorem order_pq (a1 a2 a3 a4 a5 b1 b2 b3 b4 b5 c1 c2 c3 c4 c5 : Int) (w : World)
    (H1 : Hid (∀ W : World, Calls Try.prog 21 #[.agg #[.int .i64 a1, .int .u8 a2, .int .i64 a3, .int .i64 a4, .int .i64 a5], .agg #[.int .i64 b1, .int .u8 b2, .int .i64 b3, .int .i64 b4, .int .i64 b5]] W fun e w' => e = .returned (.bool true) ∧ Below W.heap.size W w'))
    (H2 : Hid (∀ W : World, Calls Try.prog 22 #[.agg #[.int .i64 a1, .int .u8 a2, .int .i64 a3, .int .i64 a4, .int .i64 a5], .agg #[.int .i64 b1, .int .u8 b2, .int .i64 b3, .int .i64 b4, .int .i64 b5]] W fun e w' => e = .returned (.bool true) ∧ Below W.heap.size W w'))
    (H3 : Hid (∀ W : World, Calls Try.prog 21 #[.agg #[.int .i64 a1, .int .u8 a2, .int .i64 a3, .int .i64 a4, .int .i64 a5], .agg #[.int .i64 a1, .int .u8 a2, .int .i64 a3, .int .i64 a4, .int .i64 a5]] W fun e w' => e = .returned (.bool false) ∧ Below W.heap.size W w'))
    (H4 : Hid (∀ W : World, Calls Try.prog 21 #[.agg #[.int .i64 b1, .int .u8 b2, .int .i64 b3, .int .i64 b4, .int .i64 b5], .agg #[.int .i64 a1, .int .u8 a2, .int .i64 a3, .int .i64 a4, .int .i64 a5]] W fun e w' => e = .returned (.bool false) ∧ Below W.heap.size W w'))
    (H5 : Hid (True → ∀ W : World, Calls Try.prog 21 #[.agg #[.int .i64 b1, .int .u8 b2, .int .i64 b3, .int .i64 b4, .int .i64 b5], .agg #[.int .i64 c1, .int .u8 c2, .int .i64 c3, .int .i64 c4, .int .i64 c5]] W fun e w' => e = .returned (.bool true) ∧ Below W.heap.size W w'))
    (H6 : Hid (True → ∀ W : World, Calls Try.prog 21 #[.agg #[.int .i64 a1, .int .u8 a2, .int .i64 a3, .int .i64 a4, .int .i64 a5], .agg #[.int .i64 c1, .int .u8 c2, .int .i64 c3, .int .i64 c4, .int .i64 c5]] W fun e w' => e = .returned (.bool true) ∧ Below W.heap.size W w'))
    (H7 : Hid (∀ W : World, Calls Try.prog 21 #[.agg #[.int .i64 0, .int .u8 0, .int .i64 0, .int .i64 0, .int .i64 0], .agg #[.int .i64 1, .int .u8 0, .int .i64 0, .int .i64 0, .int .i64 0]] W fun e w' => e = .returned (.bool true) ∧ Below W.heap.size W w')) :
    Calls Try.prog 6 #[.agg #[.int .i64 a1, .int .u8 a2, .int .i64 a3, .int .i64 a4, .int .i64 a5, .int .i64 b1, .int .u8 b2, .int .i64 b3, .int .i64 b4, .int .i64 b5, .int .i64 c1, .int .u8 c2, .int .i64 c3, .int .i64 c4, .int .i64 c5]] w fun e w' => e = .returned (.bool true) ∧ Below w.heap.size w w' := by
  have PL := Lib.hid (Box.new w 42 #[.int .i64 a1, .int .u8 a2, .int .i64 a3, .int .i64 a4, .int .i64 a5, .int .i64 b1, .int .u8 b2, .int .i64 b3, .int .i64 b4, .int .i64 b5, .int .i64 c1, .int .u8 c2, .int .i64 c3, .int .i64 c4, .int .i64 c5])
  go_enter Try.func6, Try.ntmps6
  go_upto_region 1 with fail
  refine region_lin (.val (fun v _ => v = .pointer (some ⟨w.heap.size, 0, none⟩)) :: .val (fun v _ => v = .agg #[.int .i64 a1, .int .u8 a2, .int .i64 a3, .int .i64 a4, .int .i64 a5]) :: .val (fun v _ => v = .pointer (some ⟨w.heap.size, 5, none⟩)) :: .val (fun v _ => v = .agg #[.int .i64 b1, .int .u8 b2, .int .i64 b3, .int .i64 b4, .int .i64 b5]) :: .val (fun v _ => v = .pointer (some ⟨w.heap.size, 10, none⟩)) :: .val (fun v _ => v = .agg #[.int .i64 c1, .int .u8 c2, .int .i64 c3, .int .i64 c4, .int .i64 c5]) :: .new 24 #[.int .i64 0, .int .u8 0, .int .i64 0, .int .i64 0, .int .i64 0] #[.int .i64 a1, .int .u8 a2, .int .i64 a3, .int .i64 a4, .int .i64 a5] 9 :: .new 24 #[.int .i64 0, .int .u8 0, .int .i64 0, .int .i64 0, .int .i64 0] #[.int .i64 b1, .int .u8 b2, .int .i64 b3, .int .i64 b4, .int .i64 b5] 10 :: .new 24 #[.int .i64 0, .int .u8 0, .int .i64 0, .int .i64 0, .int .i64 0] #[.int .i64 c1, .int .u8 c2, .int .i64 c3, .int .i64 c4, .int .i64 c5] 11 :: .put 24 #[.int .i64 0, .int .u8 0, .int .i64 0, .int .i64 0, .int .i64 0] #[.int .i64 a1, .int .u8 a2, .int .i64 a3, .int .i64 a4, .int .i64 a5] 3 :: .put 24 #[.int .i64 0, .int .u8 0, .int .i64 0, .int .i64 0, .int .i64 0] #[.int .i64 b1, .int .u8 b2, .int .i64 b3, .int .i64 b4, .int .i64 b5] 4 :: .put 24 #[.int .i64 0, .int .u8 0, .int .i64 0, .int .i64 0, .int .i64 0] #[.int .i64 c1, .int .u8 c2, .int .i64 c3, .int .i64 c4, .int .i64 c5] 5 :: [])
    ([] :: [(6, 0)] :: [] :: [(8, 2)] :: [] :: [(10, 4)] :: [] :: [] :: [] :: [(7, 1)] :: [(9, 3)] :: [(11, 5)] :: []) ((0, 0) :: (0, 0) :: (0, 0) :: (0, 0) :: (0, 0) :: (0, 0) :: (1, 9) :: (1, 10) :: (1, 11) :: (2, 3) :: (2, 4) :: (2, 5) :: []) 58 (by kernel_rfl) rfl rfl (by kernel_rfl) ⟨Stab.pure _ _ _, Stab.pure _ _ _, Stab.pure _ _ _, Stab.pure _ _ _, Stab.pure _ _ _, Stab.pure _ _ _, ⟨rfl, rfl, rfl⟩, ⟨rfl, rfl, rfl⟩, ⟨rfl, rfl, rfl⟩, trivial⟩ ⟨?_, ?_, ?_, ?_, ?_, ?_, ?_, ?_, ?_, ?_, ?_, ?_, trivial⟩ ?_
  · intro wx hb
    intro K hK
    go_simp
    exact hK _ _ rfl ⟨rfl, Below.refl _ _⟩
  · intro wx hb
    rintro _ rfl
    intro K hK
    have mm := Box.below (PL.out) hb (Box.lt (PL.out))
    have m0 : wx.cell? ⟨w.heap.size, 0, none⟩ = some (.int .i64 a1) := mm.cell 0
    have m1 : wx.cell? ⟨w.heap.size, 1, none⟩ = some (.int .u8 a2) := mm.cell 1
    have m2 : wx.cell? ⟨w.heap.size, 2, none⟩ = some (.int .i64 a3) := mm.cell 2
    have m3 : wx.cell? ⟨w.heap.size, 3, none⟩ = some (.int .i64 a4) := mm.cell 3
    have m4 : wx.cell? ⟨w.heap.size, 4, none⟩ = some (.int .i64 a5) := mm.cell 4
    have m5 : wx.cell? ⟨w.heap.size, 5, none⟩ = some (.int .i64 b1) := mm.cell 5
    have m6 : wx.cell? ⟨w.heap.size, 6, none⟩ = some (.int .u8 b2) := mm.cell 6
    have m7 : wx.cell? ⟨w.heap.size, 7, none⟩ = some (.int .i64 b3) := mm.cell 7
    have m8 : wx.cell? ⟨w.heap.size, 8, none⟩ = some (.int .i64 b4) := mm.cell 8
    have m9 : wx.cell? ⟨w.heap.size, 9, none⟩ = some (.int .i64 b5) := mm.cell 9
    have m10 : wx.cell? ⟨w.heap.size, 10, none⟩ = some (.int .i64 c1) := mm.cell 10
    have m11 : wx.cell? ⟨w.heap.size, 11, none⟩ = some (.int .u8 c2) := mm.cell 11
    have m12 : wx.cell? ⟨w.heap.size, 12, none⟩ = some (.int .i64 c3) := mm.cell 12
    have m13 : wx.cell? ⟨w.heap.size, 13, none⟩ = some (.int .i64 c4) := mm.cell 13
    have m14 : wx.cell? ⟨w.heap.size, 14, none⟩ = some (.int .i64 c5) := mm.cell 14
    clear mm
    go_simp
    exact hK _ _ rfl ⟨rfl, Below.refl _ _⟩
  · intro wx hb
    intro K hK
    go_simp
    exact hK _ _ rfl ⟨rfl, Below.refl _ _⟩
  · intro wx hb
    rintro _ rfl
    intro K hK
    have mm := Box.below (PL.out) hb (Box.lt (PL.out))
    have m0 : wx.cell? ⟨w.heap.size, 0, none⟩ = some (.int .i64 a1) := mm.cell 0
    have m1 : wx.cell? ⟨w.heap.size, 1, none⟩ = some (.int .u8 a2) := mm.cell 1
    have m2 : wx.cell? ⟨w.heap.size, 2, none⟩ = some (.int .i64 a3) := mm.cell 2
    have m3 : wx.cell? ⟨w.heap.size, 3, none⟩ = some (.int .i64 a4) := mm.cell 3
    have m4 : wx.cell? ⟨w.heap.size, 4, none⟩ = some (.int .i64 a5) := mm.cell 4
    have m5 : wx.cell? ⟨w.heap.size, 5, none⟩ = some (.int .i64 b1) := mm.cell 5
    have m6 : wx.cell? ⟨w.heap.size, 6, none⟩ = some (.int .u8 b2) := mm.cell 6
    have m7 : wx.cell? ⟨w.heap.size, 7, none⟩ = some (.int .i64 b3) := mm.cell 7
    have m8 : wx.cell? ⟨w.heap.size, 8, none⟩ = some (.int .i64 b4) := mm.cell 8
    have m9 : wx.cell? ⟨w.heap.size, 9, none⟩ = some (.int .i64 b5) := mm.cell 9
    have m10 : wx.cell? ⟨w.heap.size, 10, none⟩ = some (.int .i64 c1) := mm.cell 10
    have m11 : wx.cell? ⟨w.heap.size, 11, none⟩ = some (.int .u8 c2) := mm.cell 11
    have m12 : wx.cell? ⟨w.heap.size, 12, none⟩ = some (.int .i64 c3) := mm.cell 12
    have m13 : wx.cell? ⟨w.heap.size, 13, none⟩ = some (.int .i64 c4) := mm.cell 13
    have m14 : wx.cell? ⟨w.heap.size, 14, none⟩ = some (.int .i64 c5) := mm.cell 14
    clear mm
    go_simp
    exact hK _ _ rfl ⟨rfl, Below.refl _ _⟩
  · intro wx hb
    intro K hK
    go_simp
    exact hK _ _ rfl ⟨rfl, Below.refl _ _⟩
  · intro wx hb
    rintro _ rfl
    intro K hK
    have mm := Box.below (PL.out) hb (Box.lt (PL.out))
    have m0 : wx.cell? ⟨w.heap.size, 0, none⟩ = some (.int .i64 a1) := mm.cell 0
    have m1 : wx.cell? ⟨w.heap.size, 1, none⟩ = some (.int .u8 a2) := mm.cell 1
    have m2 : wx.cell? ⟨w.heap.size, 2, none⟩ = some (.int .i64 a3) := mm.cell 2
    have m3 : wx.cell? ⟨w.heap.size, 3, none⟩ = some (.int .i64 a4) := mm.cell 3
    have m4 : wx.cell? ⟨w.heap.size, 4, none⟩ = some (.int .i64 a5) := mm.cell 4
    have m5 : wx.cell? ⟨w.heap.size, 5, none⟩ = some (.int .i64 b1) := mm.cell 5
    have m6 : wx.cell? ⟨w.heap.size, 6, none⟩ = some (.int .u8 b2) := mm.cell 6
    have m7 : wx.cell? ⟨w.heap.size, 7, none⟩ = some (.int .i64 b3) := mm.cell 7
    have m8 : wx.cell? ⟨w.heap.size, 8, none⟩ = some (.int .i64 b4) := mm.cell 8
    have m9 : wx.cell? ⟨w.heap.size, 9, none⟩ = some (.int .i64 b5) := mm.cell 9
    have m10 : wx.cell? ⟨w.heap.size, 10, none⟩ = some (.int .i64 c1) := mm.cell 10
    have m11 : wx.cell? ⟨w.heap.size, 11, none⟩ = some (.int .u8 c2) := mm.cell 11
    have m12 : wx.cell? ⟨w.heap.size, 12, none⟩ = some (.int .i64 c3) := mm.cell 12
    have m13 : wx.cell? ⟨w.heap.size, 13, none⟩ = some (.int .i64 c4) := mm.cell 13
    have m14 : wx.cell? ⟨w.heap.size, 14, none⟩ = some (.int .i64 c5) := mm.cell 14
    clear mm
    go_simp
    exact hK _ _ rfl ⟨rfl, Below.refl _ _⟩
  · intro wx hb
    intro K hK
    go_simp
    exact hK _ _ rfl ⟨rfl, rfl⟩
  · intro wx hb
    intro K hK
    go_simp
    exact hK _ _ rfl ⟨rfl, rfl⟩
  · intro wx hb
    intro K hK
    go_simp
    exact hK _ _ rfl ⟨rfl, rfl⟩
  · intro wx hb
    intro g hg hbx
    rintro _ rfl
    intro K hK
    have c0 : wx.cell? ⟨g, 0, none⟩ = some (.int .i64 0) := hbx.cell 0
    have f0 := hbx.free 0
    have c1 : wx.cell? ⟨g, 1, none⟩ = some (.int .u8 0) := hbx.cell 1
    have f1 := hbx.free 1
    have c2 : wx.cell? ⟨g, 2, none⟩ = some (.int .i64 0) := hbx.cell 2
    have f2 := hbx.free 2
    have c3 : wx.cell? ⟨g, 3, none⟩ = some (.int .i64 0) := hbx.cell 3
    have f3 := hbx.free 3
    have c4 : wx.cell? ⟨g, 4, none⟩ = some (.int .i64 0) := hbx.cell 4
    have f4 := hbx.free 4
    clear hb
    go_simp
    exact hK _ _ rfl (((((((Stored.start hbx).set 0 _).set 1 _).set 2 _).set 3 _).set 4 _))
  · intro wx hb
    intro g hg hbx
    rintro _ rfl
    intro K hK
    have c0 : wx.cell? ⟨g, 0, none⟩ = some (.int .i64 0) := hbx.cell 0
    have f0 := hbx.free 0
    have c1 : wx.cell? ⟨g, 1, none⟩ = some (.int .u8 0) := hbx.cell 1
    have f1 := hbx.free 1
    have c2 : wx.cell? ⟨g, 2, none⟩ = some (.int .i64 0) := hbx.cell 2
    have f2 := hbx.free 2
    have c3 : wx.cell? ⟨g, 3, none⟩ = some (.int .i64 0) := hbx.cell 3
    have f3 := hbx.free 3
    have c4 : wx.cell? ⟨g, 4, none⟩ = some (.int .i64 0) := hbx.cell 4
    have f4 := hbx.free 4
    clear hb
    go_simp
    exact hK _ _ rfl (((((((Stored.start hbx).set 0 _).set 1 _).set 2 _).set 3 _).set 4 _))
  · intro wx hb
    intro g hg hbx
    rintro _ rfl
    intro K hK
    have c0 : wx.cell? ⟨g, 0, none⟩ = some (.int .i64 0) := hbx.cell 0
    have f0 := hbx.free 0
    have c1 : wx.cell? ⟨g, 1, none⟩ = some (.int .u8 0) := hbx.cell 1
    have f1 := hbx.free 1
    have c2 : wx.cell? ⟨g, 2, none⟩ = some (.int .i64 0) := hbx.cell 2
    have f2 := hbx.free 2
    have c3 : wx.cell? ⟨g, 3, none⟩ = some (.int .i64 0) := hbx.cell 3
    have f3 := hbx.free 3
    have c4 : wx.cell? ⟨g, 4, none⟩ = some (.int .i64 0) := hbx.cell 4
    have f4 := hbx.free 4
    clear hb
    go_simp
    exact hK _ _ rfl (((((((Stored.start hbx).set 0 _).set 1 _).set 2 _).set 3 _).set 4 _))
  intro w1 B1
  rintro _ rfl
  rintro _ rfl
  rintro _ rfl
  rintro _ rfl
  rintro _ rfl
  rintro _ rfl
  intro gx hgx Bx
  intro gy hgy By
  intro gz hgz Bz
  rintro -
  simp only [Act.put, List.setIfInBounds_toArray, List.set_cons_zero, List.set_cons_succ, List.toList_toArray, List.length_cons, List.length_nil, List.drop_succ_cons, List.drop_zero, List.drop_nil, Nat.zero_add, wpList]
  have BW := bkeep (balloc (Below.refl _ _) _) B1
  clear B1
  go_upto_region 2 with fail
  refine region_lin (.val (fun v _ => v = .agg #[.int .i64 a1, .int .u8 a2, .int .i64 a3, .int .i64 a4, .int .i64 a5]) :: .val (fun v _ => v = .agg #[.int .i64 b1, .int .u8 b2, .int .i64 b3, .int .i64 b4, .int .i64 b5]) :: .val (fun v _ => v = .bool true) :: .val (fun v _ => v = .agg #[.int .i64 a1, .int .u8 a2, .int .i64 a3, .int .i64 a4, .int .i64 a5]) :: .val (fun v _ => v = .agg #[.int .i64 b1, .int .u8 b2, .int .i64 b3, .int .i64 b4, .int .i64 b5]) :: .val (fun v _ => v = .bool true) :: .val (fun v _ => v = .bool false) :: .val (fun v _ => v = .bool false) :: .val (fun v _ => v = .agg #[.int .i64 a1, .int .u8 a2, .int .i64 a3, .int .i64 a4, .int .i64 a5]) :: .val (fun v _ => v = .agg #[.int .i64 a1, .int .u8 a2, .int .i64 a3, .int .i64 a4, .int .i64 a5]) :: .val (fun v _ => v = .bool false) :: .val (fun v _ => v = .bool false) :: .val (fun v _ => v = .bool false) :: .val (fun v _ => v = .agg #[.int .i64 b1, .int .u8 b2, .int .i64 b3, .int .i64 b4, .int .i64 b5]) :: .val (fun v _ => v = .agg #[.int .i64 a1, .int .u8 a2, .int .i64 a3, .int .i64 a4, .int .i64 a5]) :: .val (fun v _ => v = .bool false) :: .val (fun v _ => v = .agg #[.int .i64 a1, .int .u8 a2, .int .i64 a3, .int .i64 a4, .int .i64 a5]) :: .val (fun v _ => v = .agg #[.int .i64 b1, .int .u8 b2, .int .i64 b3, .int .i64 b4, .int .i64 b5]) :: .val (fun v _ => v = .bool true) :: .val (fun v _ => v = .bool false) :: .val (fun v _ => v = .bool false) :: .val (fun v _ => v = undef) :: .val (fun v _ => v = undef) :: .val (fun v _ => v = undef) :: .val (fun v _ => v = .bool false) :: .val (fun v _ => v = .bool false) :: [])
    ([] :: [] :: [(12, 0), (13, 1)] :: [] :: [] :: [(15, 3), (16, 4)] :: [(14, 2), (17, 5)] :: [(18, 6)] :: [(19, 7)] :: [(19, 7)] :: [(20, 8), (21, 9), (19, 7)] :: [(19, 7), (22, 10)] :: [(23, 11)] :: [(24, 12)] :: [(24, 12)] :: [(25, 13), (26, 14), (24, 12)] :: [(24, 12)] :: [(24, 12)] :: [(28, 16), (29, 17), (24, 12)] :: [(27, 15), (30, 18), (24, 12)] :: [(31, 19), (24, 12)] :: [(32, 20)] :: [(32, 20)] :: [(33, 21), (34, 22), (32, 20)] :: [(32, 20), (35, 23), (24, 12)] :: [(24, 12), (36, 24)] :: []) ((0, 0) :: (0, 0) :: (0, 0) :: (0, 0) :: (0, 0) :: (0, 0) :: (0, 0) :: (0, 0) :: (0, 0) :: (0, 0) :: (0, 0) :: (0, 0) :: (0, 0) :: (0, 0) :: (0, 0) :: (0, 0) :: (0, 0) :: (0, 0) :: (0, 0) :: (0, 0) :: (0, 0) :: (0, 0) :: (0, 0) :: (0, 0) :: (0, 0) :: (0, 0) :: []) 58 (by kernel_rfl) rfl rfl (by kernel_rfl) ⟨Stab.pure _ _ _, Stab.pure _ _ _, Stab.pure _ _ _, Stab.pure _ _ _, Stab.pure _ _ _, Stab.pure _ _ _, Stab.pure _ _ _, Stab.pure _ _ _, Stab.pure _ _ _, Stab.pure _ _ _, Stab.pure _ _ _, Stab.pure _ _ _, Stab.pure _ _ _, Stab.pure _ _ _, Stab.pure _ _ _, Stab.pure _ _ _, Stab.pure _ _ _, Stab.pure _ _ _, Stab.pure _ _ _, Stab.pure _ _ _, Stab.pure _ _ _, Stab.pure _ _ _, Stab.pure _ _ _, Stab.pure _ _ _, Stab.pure _ _ _, Stab.pure _ _ _, trivial⟩ ⟨?_, ?_, ?_, ?_, ?_, ?_, ?_, ?_, ?_, ?_, ?_, ?_, ?_, ?_, ?_, ?_, ?_, ?_, ?_, ?_, ?_, ?_, ?_, ?_, ?_, ?_, trivial⟩ ?_
  · intro wx hb
    intro K hK
    have mm := Box.below (Bx) hb (Box.lt (Bx))
    have m0 : wx.cell? ⟨gx, 0, none⟩ = some (.int .i64 a1) := mm.cell 0
    have m1 : wx.cell? ⟨gx, 1, none⟩ = some (.int .u8 a2) := mm.cell 1
    have m2 : wx.cell? ⟨gx, 2, none⟩ = some (.int .i64 a3) := mm.cell 2
    have m3 : wx.cell? ⟨gx, 3, none⟩ = some (.int .i64 a4) := mm.cell 3
    have m4 : wx.cell? ⟨gx, 4, none⟩ = some (.int .i64 a5) := mm.cell 4
    clear mm
    go_simp
    exact hK _ _ rfl ⟨rfl, Below.refl _ _⟩
  · intro wx hb
    intro K hK
    have mm := Box.below (By) hb (Box.lt (By))
    have m0 : wx.cell? ⟨gy, 0, none⟩ = some (.int .i64 b1) := mm.cell 0
    have m1 : wx.cell? ⟨gy, 1, none⟩ = some (.int .u8 b2) := mm.cell 1
    have m2 : wx.cell? ⟨gy, 2, none⟩ = some (.int .i64 b3) := mm.cell 2
    have m3 : wx.cell? ⟨gy, 3, none⟩ = some (.int .i64 b4) := mm.cell 3
    have m4 : wx.cell? ⟨gy, 4, none⟩ = some (.int .i64 b5) := mm.cell 4
    clear mm
    go_simp
    exact hK _ _ rfl ⟨rfl, Below.refl _ _⟩
  · intro wx hb
    rintro _ rfl
    rintro _ rfl
    intro K hK
    go_simp
    (with_reducible refine (H1.out _).mono ?_)
    rintro e wa ⟨rfl, Ba⟩
    exact hK _ _ rfl ⟨rfl, Ba⟩
  · intro wx hb
    intro K hK
    have mm := Box.below (Bx) hb (Box.lt (Bx))
    have m0 : wx.cell? ⟨gx, 0, none⟩ = some (.int .i64 a1) := mm.cell 0
    have m1 : wx.cell? ⟨gx, 1, none⟩ = some (.int .u8 a2) := mm.cell 1
    have m2 : wx.cell? ⟨gx, 2, none⟩ = some (.int .i64 a3) := mm.cell 2
    have m3 : wx.cell? ⟨gx, 3, none⟩ = some (.int .i64 a4) := mm.cell 3
    have m4 : wx.cell? ⟨gx, 4, none⟩ = some (.int .i64 a5) := mm.cell 4
    clear mm
    go_simp
    exact hK _ _ rfl ⟨rfl, Below.refl _ _⟩
  · intro wx hb
    intro K hK
    have mm := Box.below (By) hb (Box.lt (By))
    have m0 : wx.cell? ⟨gy, 0, none⟩ = some (.int .i64 b1) := mm.cell 0
    have m1 : wx.cell? ⟨gy, 1, none⟩ = some (.int .u8 b2) := mm.cell 1
    have m2 : wx.cell? ⟨gy, 2, none⟩ = some (.int .i64 b3) := mm.cell 2
    have m3 : wx.cell? ⟨gy, 3, none⟩ = some (.int .i64 b4) := mm.cell 3
    have m4 : wx.cell? ⟨gy, 4, none⟩ = some (.int .i64 b5) := mm.cell 4
    clear mm
    go_simp
    exact hK _ _ rfl ⟨rfl, Below.refl _ _⟩
  · intro wx hb
    rintro _ rfl
    rintro _ rfl
    intro K hK
    go_simp
    (with_reducible refine (H2.out _).mono ?_)
    rintro e wa ⟨rfl, Ba⟩
    exact hK _ _ rfl ⟨rfl, Ba⟩
  · intro wx hb
    rintro _ rfl
    rintro _ rfl
    intro K hK
    go_simp
    exact hK _ _ rfl ⟨rfl, Below.refl _ _⟩
  · intro wx hb
    rintro _ rfl
    intro K hK
    go_simp
    exact hK _ _ rfl ⟨rfl, Below.refl _ _⟩
  · intro wx hb
    rintro _ rfl
    refine ⟨fun _ => ?_, fun h => absurd (show true = false from h) (by decide)⟩
    intro K hK
    have mm := Box.below (Bx) hb (Box.lt (Bx))
    have m0 : wx.cell? ⟨gx, 0, none⟩ = some (.int .i64 a1) := mm.cell 0
    have m1 : wx.cell? ⟨gx, 1, none⟩ = some (.int .u8 a2) := mm.cell 1
    have m2 : wx.cell? ⟨gx, 2, none⟩ = some (.int .i64 a3) := mm.cell 2
    have m3 : wx.cell? ⟨gx, 3, none⟩ = some (.int .i64 a4) := mm.cell 3
    have m4 : wx.cell? ⟨gx, 4, none⟩ = some (.int .i64 a5) := mm.cell 4
    clear mm
    go_simp
    exact hK _ _ rfl ⟨rfl, Below.refl _ _⟩
  · intro wx hb
    rintro _ rfl
    refine ⟨fun _ => ?_, fun h => absurd (show true = false from h) (by decide)⟩
    intro K hK
    have mm := Box.below (Bx) hb (Box.lt (Bx))
    have m0 : wx.cell? ⟨gx, 0, none⟩ = some (.int .i64 a1) := mm.cell 0
    have m1 : wx.cell? ⟨gx, 1, none⟩ = some (.int .u8 a2) := mm.cell 1
    have m2 : wx.cell? ⟨gx, 2, none⟩ = some (.int .i64 a3) := mm.cell 2
    have m3 : wx.cell? ⟨gx, 3, none⟩ = some (.int .i64 a4) := mm.cell 3
    have m4 : wx.cell? ⟨gx, 4, none⟩ = some (.int .i64 a5) := mm.cell 4
    clear mm
    go_simp
    exact hK _ _ rfl ⟨rfl, Below.refl _ _⟩
  · intro wx hb
    rintro _ rfl
    rintro _ rfl
    rintro _ rfl
    refine ⟨fun _ => ?_, fun h => absurd (show true = false from h) (by decide)⟩
    intro K hK
    go_simp
    (with_reducible refine (H3.out _).mono ?_)
    rintro e wa ⟨rfl, Ba⟩
    exact hK _ _ rfl ⟨rfl, Ba⟩
  · intro wx hb
    rintro _ rfl
    rintro _ rfl
    intro K hK
    go_simp
    exact hK _ _ rfl ⟨rfl, Below.refl _ _⟩
  · intro wx hb
    rintro _ rfl
    intro K hK
    go_simp
    exact hK _ _ rfl ⟨rfl, Below.refl _ _⟩
  · intro wx hb
    rintro _ rfl
    refine ⟨fun _ => ?_, fun h => absurd (show true = false from h) (by decide)⟩
    intro K hK
    have mm := Box.below (By) hb (Box.lt (By))
    have m0 : wx.cell? ⟨gy, 0, none⟩ = some (.int .i64 b1) := mm.cell 0
    have m1 : wx.cell? ⟨gy, 1, none⟩ = some (.int .u8 b2) := mm.cell 1
    have m2 : wx.cell? ⟨gy, 2, none⟩ = some (.int .i64 b3) := mm.cell 2
    have m3 : wx.cell? ⟨gy, 3, none⟩ = some (.int .i64 b4) := mm.cell 3
    have m4 : wx.cell? ⟨gy, 4, none⟩ = some (.int .i64 b5) := mm.cell 4
    clear mm
    go_simp
    exact hK _ _ rfl ⟨rfl, Below.refl _ _⟩
  · intro wx hb
    rintro _ rfl
    refine ⟨fun _ => ?_, fun h => absurd (show true = false from h) (by decide)⟩
    intro K hK
    have mm := Box.below (Bx) hb (Box.lt (Bx))
    have m0 : wx.cell? ⟨gx, 0, none⟩ = some (.int .i64 a1) := mm.cell 0
    have m1 : wx.cell? ⟨gx, 1, none⟩ = some (.int .u8 a2) := mm.cell 1
    have m2 : wx.cell? ⟨gx, 2, none⟩ = some (.int .i64 a3) := mm.cell 2
    have m3 : wx.cell? ⟨gx, 3, none⟩ = some (.int .i64 a4) := mm.cell 3
    have m4 : wx.cell? ⟨gx, 4, none⟩ = some (.int .i64 a5) := mm.cell 4
    clear mm
    go_simp
    exact hK _ _ rfl ⟨rfl, Below.refl _ _⟩
  · intro wx hb
    rintro _ rfl
    rintro _ rfl
    rintro _ rfl
    refine ⟨fun _ => ?_, fun h => absurd (show true = false from h) (by decide)⟩
    intro K hK
    go_simp
    (with_reducible refine (H4.out _).mono ?_)
    rintro e wa ⟨rfl, Ba⟩
    exact hK _ _ rfl ⟨rfl, Ba⟩
  · intro wx hb
    rintro _ rfl
    refine ⟨fun _ => ?_, fun h => absurd (show true = false from h) (by decide)⟩
    intro K hK
    have mm := Box.below (Bx) hb (Box.lt (Bx))
    have m0 : wx.cell? ⟨gx, 0, none⟩ = some (.int .i64 a1) := mm.cell 0
    have m1 : wx.cell? ⟨gx, 1, none⟩ = some (.int .u8 a2) := mm.cell 1
    have m2 : wx.cell? ⟨gx, 2, none⟩ = some (.int .i64 a3) := mm.cell 2
    have m3 : wx.cell? ⟨gx, 3, none⟩ = some (.int .i64 a4) := mm.cell 3
    have m4 : wx.cell? ⟨gx, 4, none⟩ = some (.int .i64 a5) := mm.cell 4
    clear mm
    go_simp
    exact hK _ _ rfl ⟨rfl, Below.refl _ _⟩
  · intro wx hb
    rintro _ rfl
    refine ⟨fun _ => ?_, fun h => absurd (show true = false from h) (by decide)⟩
    intro K hK
    have mm := Box.below (By) hb (Box.lt (By))
    have m0 : wx.cell? ⟨gy, 0, none⟩ = some (.int .i64 b1) := mm.cell 0
    have m1 : wx.cell? ⟨gy, 1, none⟩ = some (.int .u8 b2) := mm.cell 1
    have m2 : wx.cell? ⟨gy, 2, none⟩ = some (.int .i64 b3) := mm.cell 2
    have m3 : wx.cell? ⟨gy, 3, none⟩ = some (.int .i64 b4) := mm.cell 3
    have m4 : wx.cell? ⟨gy, 4, none⟩ = some (.int .i64 b5) := mm.cell 4
    clear mm
    go_simp
    exact hK _ _ rfl ⟨rfl, Below.refl _ _⟩
  · intro wx hb
    rintro _ rfl
    rintro _ rfl
    rintro _ rfl
    refine ⟨fun _ => ?_, fun h => absurd (show true = false from h) (by decide)⟩
    intro K hK
    go_simp
    (with_reducible refine (H1.out _).mono ?_)
    rintro e wa ⟨rfl, Ba⟩
    exact hK _ _ rfl ⟨rfl, Ba⟩
  · intro wx hb
    rintro _ rfl
    rintro _ rfl
    rintro _ rfl
    refine ⟨fun _ => ?_, fun h => absurd (show true = false from h) (by decide)⟩
    intro K hK
    go_simp
    exact hK _ _ rfl ⟨rfl, Below.refl _ _⟩
  · intro wx hb
    rintro _ rfl
    rintro _ rfl
    refine ⟨fun _ => ?_, fun h => absurd (show true = false from h) (by decide)⟩
    intro K hK
    go_simp
    exact hK _ _ rfl ⟨rfl, Below.refl _ _⟩
  · intro wx hb
    rintro _ rfl
    exact ⟨fun h => absurd (show false = true from h) (by decide), fun _ => ⟨rfl, Below.refl _ _⟩⟩
  · intro wx hb
    rintro _ rfl
    exact ⟨fun h => absurd (show false = true from h) (by decide), fun _ => ⟨rfl, Below.refl _ _⟩⟩
  · intro wx hb
    rintro _ rfl
    rintro _ rfl
    rintro _ rfl
    exact ⟨fun h => absurd (show false = true from h) (by decide), fun _ => ⟨rfl, Below.refl _ _⟩⟩
  · intro wx hb
    rintro _ rfl
    rintro _ rfl
    rintro _ rfl
    refine ⟨fun _ => ?_, fun h => absurd (show true = false from h) (by decide)⟩
    intro K hK
    go_simp
    exact hK _ _ rfl ⟨rfl, Below.refl _ _⟩
  · intro wx hb
    rintro _ rfl
    rintro _ rfl
    intro K hK
    go_simp
    exact hK _ _ rfl ⟨rfl, Below.refl _ _⟩
  intro w2 B2
  have Bx := Box.below Bx B2 (Box.lt Bx)
  have By := Box.below By B2 (Box.lt By)
  have Bz := Box.below Bz B2 (Box.lt Bz)
  have BW := bkeep BW B2
  rintro _ rfl
  rintro _ rfl
  rintro _ rfl
  rintro _ rfl
  rintro _ rfl
  rintro _ rfl
  rintro _ rfl
  rintro _ rfl
  rintro _ rfl
  rintro _ rfl
  rintro _ rfl
  rintro _ rfl
  rintro _ rfl
  rintro _ rfl
  rintro _ rfl
  rintro _ rfl
  rintro _ rfl
  rintro _ rfl
  rintro _ rfl
  rintro _ rfl
  rintro _ rfl
  rintro _ rfl
  rintro _ rfl
  rintro _ rfl
  rintro _ rfl
  rintro _ rfl
  rintro -
  simp only [Act.put, List.setIfInBounds_toArray, List.set_cons_zero, List.set_cons_succ, List.toList_toArray, List.length_cons, List.length_nil, List.drop_succ_cons, List.drop_zero, List.drop_nil, Nat.zero_add, wpList]
  clear B2
  go_upto_region 4 with fail
  refine region_lin0 (.val (fun v _ => v = .agg #[.int .i64 0, .int .u8 0, .int .i64 0, .int .i64 0, .int .i64 0]) :: .val (fun v _ => v = .agg #[.int .i64 1, .int .u8 0, .int .i64 0, .int .i64 0, .int .i64 0]) :: .val (fun v _ => v = .bool true) :: .val (fun v _ => v = .bool true) :: .val (fun v _ => v = .agg #[.int .i64 a1, .int .u8 a2, .int .i64 a3, .int .i64 a4, .int .i64 a5]) :: .val (fun v _ => v = .agg #[.int .i64 b1, .int .u8 b2, .int .i64 b3, .int .i64 b4, .int .i64 b5]) :: .val (fun v _ => v = .bool true) :: .val (fun v _ => v = .bool false) :: .val (fun v _ => v = .bool false) :: .val (fun v _ => v = .agg #[.int .i64 b1, .int .u8 b2, .int .i64 b3, .int .i64 b4, .int .i64 b5]) :: .val (fun v _ => v = .agg #[.int .i64 c1, .int .u8 c2, .int .i64 c3, .int .i64 c4, .int .i64 c5]) :: .val (fun v _ => v = .bool true) :: .val (fun v _ => v = .bool false) :: .val (fun v _ => v = .bool false) :: .val (fun v _ => v = .bool false) :: .val (fun v _ => v = .agg #[.int .i64 a1, .int .u8 a2, .int .i64 a3, .int .i64 a4, .int .i64 a5]) :: .val (fun v _ => v = .agg #[.int .i64 c1, .int .u8 c2, .int .i64 c3, .int .i64 c4, .int .i64 c5]) :: .val (fun v _ => v = .bool true) :: .val (fun v _ => v = .bool true) :: .val (fun v _ => v = .bool true) :: .val (fun v _ => v = .bool true) :: [])
    ([] :: [] :: [(38, 0), (39, 1)] :: [(40, 2)] :: [(41, 3)] :: [(41, 3)] :: [(42, 4), (43, 5), (41, 3)] :: [(44, 6), (41, 3)] :: [(45, 7), (41, 3)] :: [(46, 8)] :: [(46, 8)] :: [(47, 9), (48, 10), (46, 8)] :: [(49, 11), (46, 8)] :: [(46, 8), (50, 12), (41, 3)] :: [(51, 13), (41, 3)] :: [(52, 14)] :: [(52, 14)] :: [(53, 15), (54, 16), (52, 14)] :: [(52, 14), (55, 17), (41, 3)] :: [(41, 3), (56, 18)] :: [(57, 19)] :: []) ((0, 0) :: (0, 0) :: (0, 0) :: (0, 0) :: (0, 0) :: (0, 0) :: (0, 0) :: (0, 0) :: (0, 0) :: (0, 0) :: (0, 0) :: (0, 0) :: (0, 0) :: (0, 0) :: (0, 0) :: (0, 0) :: (0, 0) :: (0, 0) :: (0, 0) :: (0, 0) :: (0, 0) :: []) 58 (by kernel_rfl) rfl rfl (by kernel_rfl) ⟨Stab.pure _ _ _, Stab.pure _ _ _, Stab.pure _ _ _, Stab.pure _ _ _, Stab.pure _ _ _, Stab.pure _ _ _, Stab.pure _ _ _, Stab.pure _ _ _, Stab.pure _ _ _, Stab.pure _ _ _, Stab.pure _ _ _, Stab.pure _ _ _, Stab.pure _ _ _, Stab.pure _ _ _, Stab.pure _ _ _, Stab.pure _ _ _, Stab.pure _ _ _, Stab.pure _ _ _, Stab.pure _ _ _, Stab.pure _ _ _, Stab.pure _ _ _, trivial⟩ ⟨?_, ?_, ?_, ?_, ?_, ?_, ?_, ?_, ?_, ?_, ?_, ?_, ?_, ?_, ?_, ?_, ?_, ?_, ?_, ?_, ?_, trivial⟩ ?_
  · intro wx hb
    intro K hK
    go_simp
    exact hK _ _ rfl ⟨rfl, Below.refl _ _⟩
  · intro wx hb
    intro K hK
    go_simp
    exact hK _ _ rfl ⟨rfl, Below.refl _ _⟩
  · intro wx hb
    rintro _ rfl
    rintro _ rfl
    intro K hK
    go_simp
    (with_reducible refine (H7.out _).mono ?_)
    rintro e wa ⟨rfl, Ba⟩
    exact hK _ _ rfl ⟨rfl, Ba⟩
  · intro wx hb
    rintro _ rfl
    intro K hK
    go_simp
    exact hK _ _ rfl ⟨rfl, Below.refl _ _⟩
  · intro wx hb
    rintro _ rfl
    refine ⟨fun _ => ?_, fun h => absurd (show true = false from h) (by decide)⟩
    intro K hK
    have mm := Box.below (Bx) hb (Box.lt (Bx))
    have m0 : wx.cell? ⟨gx, 0, none⟩ = some (.int .i64 a1) := mm.cell 0
    have m1 : wx.cell? ⟨gx, 1, none⟩ = some (.int .u8 a2) := mm.cell 1
    have m2 : wx.cell? ⟨gx, 2, none⟩ = some (.int .i64 a3) := mm.cell 2
    have m3 : wx.cell? ⟨gx, 3, none⟩ = some (.int .i64 a4) := mm.cell 3
    have m4 : wx.cell? ⟨gx, 4, none⟩ = some (.int .i64 a5) := mm.cell 4
    clear mm
    go_simp
    exact hK _ _ rfl ⟨rfl, Below.refl _ _⟩
  · intro wx hb
    rintro _ rfl
    refine ⟨fun _ => ?_, fun h => absurd (show true = false from h) (by decide)⟩
    intro K hK
    have mm := Box.below (By) hb (Box.lt (By))
    have m0 : wx.cell? ⟨gy, 0, none⟩ = some (.int .i64 b1) := mm.cell 0
    have m1 : wx.cell? ⟨gy, 1, none⟩ = some (.int .u8 b2) := mm.cell 1
    have m2 : wx.cell? ⟨gy, 2, none⟩ = some (.int .i64 b3) := mm.cell 2
    have m3 : wx.cell? ⟨gy, 3, none⟩ = some (.int .i64 b4) := mm.cell 3
    have m4 : wx.cell? ⟨gy, 4, none⟩ = some (.int .i64 b5) := mm.cell 4
    clear mm
    go_simp
    exact hK _ _ rfl ⟨rfl, Below.refl _ _⟩
  · intro wx hb
    rintro _ rfl
    rintro _ rfl
    rintro _ rfl
    refine ⟨fun _ => ?_, fun h => absurd (show true = false from h) (by decide)⟩
    intro K hK
    go_simp
    (with_reducible refine (H1.out _).mono ?_)
    rintro e wa ⟨rfl, Ba⟩
    exact hK _ _ rfl ⟨rfl, Ba⟩
  · intro wx hb
    rintro _ rfl
    rintro _ rfl
    refine ⟨fun _ => ?_, fun h => absurd (show true = false from h) (by decide)⟩
    intro K hK
    go_simp
    exact hK _ _ rfl ⟨rfl, Below.refl _ _⟩
  · intro wx hb
    rintro _ rfl
    rintro _ rfl
    refine ⟨fun _ => ?_, fun h => absurd (show true = false from h) (by decide)⟩
    intro K hK
    go_simp
    exact hK _ _ rfl ⟨rfl, Below.refl _ _⟩
  · intro wx hb
    rintro _ rfl
    refine ⟨fun _ => ?_, fun h => absurd (show true = false from h) (by decide)⟩
    intro K hK
    have mm := Box.below (By) hb (Box.lt (By))
    have m0 : wx.cell? ⟨gy, 0, none⟩ = some (.int .i64 b1) := mm.cell 0
    have m1 : wx.cell? ⟨gy, 1, none⟩ = some (.int .u8 b2) := mm.cell 1
    have m2 : wx.cell? ⟨gy, 2, none⟩ = some (.int .i64 b3) := mm.cell 2
    have m3 : wx.cell? ⟨gy, 3, none⟩ = some (.int .i64 b4) := mm.cell 3
    have m4 : wx.cell? ⟨gy, 4, none⟩ = some (.int .i64 b5) := mm.cell 4
    clear mm
    go_simp
    exact hK _ _ rfl ⟨rfl, Below.refl _ _⟩
  · intro wx hb
    rintro _ rfl
    refine ⟨fun _ => ?_, fun h => absurd (show true = false from h) (by decide)⟩
    intro K hK
    have mm := Box.below (Bz) hb (Box.lt (Bz))
    have m0 : wx.cell? ⟨gz, 0, none⟩ = some (.int .i64 c1) := mm.cell 0
    have m1 : wx.cell? ⟨gz, 1, none⟩ = some (.int .u8 c2) := mm.cell 1
    have m2 : wx.cell? ⟨gz, 2, none⟩ = some (.int .i64 c3) := mm.cell 2
    have m3 : wx.cell? ⟨gz, 3, none⟩ = some (.int .i64 c4) := mm.cell 3
    have m4 : wx.cell? ⟨gz, 4, none⟩ = some (.int .i64 c5) := mm.cell 4
    clear mm
    go_simp
    exact hK _ _ rfl ⟨rfl, Below.refl _ _⟩
  · intro wx hb
    rintro _ rfl
    rintro _ rfl
    rintro _ rfl
    refine ⟨fun _ => ?_, fun h => absurd (show true = false from h) (by decide)⟩
    intro K hK
    go_simp
    (with_reducible refine (H5.out trivial _).mono ?_)
    rintro e wa ⟨rfl, Ba⟩
    exact hK _ _ rfl ⟨rfl, Ba⟩
  · intro wx hb
    rintro _ rfl
    rintro _ rfl
    refine ⟨fun _ => ?_, fun h => absurd (show true = false from h) (by decide)⟩
    intro K hK
    go_simp
    exact hK _ _ rfl ⟨rfl, Below.refl _ _⟩
  · intro wx hb
    rintro _ rfl
    rintro _ rfl
    rintro _ rfl
    refine ⟨fun _ => ?_, fun h => absurd (show true = false from h) (by decide)⟩
    intro K hK
    go_simp
    exact hK _ _ rfl ⟨rfl, Below.refl _ _⟩
  · intro wx hb
    rintro _ rfl
    rintro _ rfl
    refine ⟨fun _ => ?_, fun h => absurd (show true = false from h) (by decide)⟩
    intro K hK
    go_simp
    exact hK _ _ rfl ⟨rfl, Below.refl _ _⟩
  · intro wx hb
    rintro _ rfl
    refine ⟨fun _ => ?_, fun h => absurd (show true = false from h) (by decide)⟩
    intro K hK
    have mm := Box.below (Bx) hb (Box.lt (Bx))
    have m0 : wx.cell? ⟨gx, 0, none⟩ = some (.int .i64 a1) := mm.cell 0
    have m1 : wx.cell? ⟨gx, 1, none⟩ = some (.int .u8 a2) := mm.cell 1
    have m2 : wx.cell? ⟨gx, 2, none⟩ = some (.int .i64 a3) := mm.cell 2
    have m3 : wx.cell? ⟨gx, 3, none⟩ = some (.int .i64 a4) := mm.cell 3
    have m4 : wx.cell? ⟨gx, 4, none⟩ = some (.int .i64 a5) := mm.cell 4
    clear mm
    go_simp
    exact hK _ _ rfl ⟨rfl, Below.refl _ _⟩
  · intro wx hb
    rintro _ rfl
    refine ⟨fun _ => ?_, fun h => absurd (show true = false from h) (by decide)⟩
    intro K hK
    have mm := Box.below (Bz) hb (Box.lt (Bz))
    have m0 : wx.cell? ⟨gz, 0, none⟩ = some (.int .i64 c1) := mm.cell 0
    have m1 : wx.cell? ⟨gz, 1, none⟩ = some (.int .u8 c2) := mm.cell 1
    have m2 : wx.cell? ⟨gz, 2, none⟩ = some (.int .i64 c3) := mm.cell 2
    have m3 : wx.cell? ⟨gz, 3, none⟩ = some (.int .i64 c4) := mm.cell 3
    have m4 : wx.cell? ⟨gz, 4, none⟩ = some (.int .i64 c5) := mm.cell 4
    clear mm
    go_simp
    exact hK _ _ rfl ⟨rfl, Below.refl _ _⟩
  · intro wx hb
    rintro _ rfl
    rintro _ rfl
    rintro _ rfl
    refine ⟨fun _ => ?_, fun h => absurd (show true = false from h) (by decide)⟩
    intro K hK
    go_simp
    (with_reducible refine (H6.out trivial _).mono ?_)
    rintro e wa ⟨rfl, Ba⟩
    exact hK _ _ rfl ⟨rfl, Ba⟩
  · intro wx hb
    rintro _ rfl
    rintro _ rfl
    rintro _ rfl
    refine ⟨fun _ => ?_, fun h => absurd (show true = false from h) (by decide)⟩
    intro K hK
    go_simp
    exact hK _ _ rfl ⟨rfl, Below.refl _ _⟩
  · intro wx hb
    rintro _ rfl
    rintro _ rfl
    intro K hK
    go_simp
    exact hK _ _ rfl ⟨rfl, Below.refl _ _⟩
  · intro wx hb
    rintro _ rfl
    intro K hK
    go_simp
    exact hK _ _ rfl ⟨rfl, Below.refl _ _⟩
  intro w3 B3
  have BW := bkeep BW B3
  rintro _ rfl
  rintro _ rfl
  rintro _ rfl
  rintro _ rfl
  rintro _ rfl
  rintro _ rfl
  rintro _ rfl
  rintro _ rfl
  rintro _ rfl
  rintro _ rfl
  rintro _ rfl
  rintro _ rfl
  rintro _ rfl
  rintro _ rfl
  rintro _ rfl
  rintro _ rfl
  rintro _ rfl
  rintro _ rfl
  rintro _ rfl
  rintro _ rfl
  rintro _ rfl
  rintro -
  simp only [Act.put, List.setIfInBounds_toArray, List.set_cons_zero, List.set_cons_succ, List.toList_toArray, List.length_cons, List.length_nil, List.drop_succ_cons, List.drop_zero, List.drop_nil, Nat.zero_add, wpList]
  go_wp2_with fail
  go_ret
  exact ⟨rfl, BW⟩
end Go.Proofs.Ytpeapjnfncfjiaa
