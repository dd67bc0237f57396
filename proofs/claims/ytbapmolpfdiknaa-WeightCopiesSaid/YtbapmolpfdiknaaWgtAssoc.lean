/- The walks of left, right, and the law WeightAssociates. -/
import Derived.Test.YtbapmolpfdiknaaWgtRep2
import Derived.Laws.Rows
namespace Go.Proofs.Ytbapmolpfdiknaa
set_option linter.unusedVariables false
set_option linter.unusedSimpArgs false
open Go.RowKit Go.Lib
attribute [local go_sem ↓] Go.wp_at_zero Go.wp_at_succ
abbrev CW (a b r : Wt) (e : Value) : Prop := ∀ w : World, Calls Try.prog 19 #[.agg #[.int .i64 a.n, .int .i64 a.l, .int .i64 a.h, .int .i64 a.t, .int .u64 a.v, .int .u64 a.s], .agg #[.int .i64 b.n, .int .i64 b.l, .int .i64 b.h, .int .i64 b.t, .int .u64 b.v, .int .u64 b.s]] w fun x w' => x = .returned (.tuple #[.agg #[.int .i64 r.n, .int .i64 r.l, .int .i64 r.h, .int .i64 r.t, .int .u64 r.v, .int .u64 r.s], e]) ∧ Below w.heap.size w w'
/-- three weights joined: the weight, and an error's number -/
def three3 (a b c : Wt) : Wt × Int := if a.n + b.n + c.n ≤ 1152921504606846976 then (jnW (jnW a b) c, 0) else (zW, 2)
set_option maxHeartbeats 4000000 in
theorem left_bad (a b c : Wt) (w : World) (H : Hid (CW a b zW (.iface 52 (.int .i64 2)))) :
    Calls Try.prog 22 #[.agg #[.int .i64 a.n, .int .i64 a.l, .int .i64 a.h, .int .i64 a.t, .int .u64 a.v, .int .u64 a.s, .int .i64 b.n, .int .i64 b.l, .int .i64 b.h, .int .i64 b.t, .int .u64 b.v, .int .u64 b.s, .int .i64 c.n, .int .i64 c.l, .int .i64 c.h, .int .i64 c.t, .int .u64 c.v, .int .u64 c.s]] w fun e w' => e = .returned (.agg #[.int .i64 zW.n, .int .i64 zW.l, .int .i64 zW.h, .int .i64 zW.t, .int .u64 zW.v, .int .u64 zW.s, .int .i64 2]) ∧ Below w.heap.size w w' := by
  have HPL := Lib.hid ((Box.new w 43 #[.int .i64 a.n, .int .i64 a.l, .int .i64 a.h, .int .i64 a.t, .int .u64 a.v, .int .u64 a.s, .int .i64 b.n, .int .i64 b.l, .int .i64 b.h, .int .i64 b.t, .int .u64 b.v, .int .u64 b.s, .int .i64 c.n, .int .i64 c.l, .int .i64 c.h, .int .i64 c.t, .int .u64 c.v, .int .u64 c.s]).alloc (.cells #[.int .i64 0, .int .i64 0, .int .i64 0, .int .i64 0, .int .u64 0, .int .u64 0, .int .i64 0] 45))
  have HPR := Lib.hid (Box.new_ (w := w.alloc (.cells #[.int .i64 a.n, .int .i64 a.l, .int .i64 a.h, .int .i64 a.t, .int .u64 a.v, .int .u64 a.s, .int .i64 b.n, .int .i64 b.l, .int .i64 b.h, .int .i64 b.t, .int .u64 b.v, .int .u64 b.s, .int .i64 c.n, .int .i64 c.l, .int .i64 c.h, .int .i64 c.t, .int .u64 c.v, .int .u64 c.s] 43)) (g := w.heap.size + 1) (t := 45) (cs := #[.int .i64 0, .int .i64 0, .int .i64 0, .int .i64 0, .int .u64 0, .int .u64 0, .int .i64 0]) (by simp))
  have HBW := Lib.hid (balloc (balloc (Below.refl w.heap.size w) (.cells #[.int .i64 a.n, .int .i64 a.l, .int .i64 a.h, .int .i64 a.t, .int .u64 a.v, .int .u64 a.s, .int .i64 b.n, .int .i64 b.l, .int .i64 b.h, .int .i64 b.t, .int .u64 b.v, .int .u64 b.s, .int .i64 c.n, .int .i64 c.l, .int .i64 c.h, .int .i64 c.t, .int .u64 c.v, .int .u64 c.s] 43)) (.cells #[.int .i64 0, .int .i64 0, .int .i64 0, .int .i64 0, .int .u64 0, .int .u64 0, .int .i64 0] 45))
  go_enter Try.func22, Try.ntmps22
  go_upto_region 1 with fail
  refine region_lin0 (.val (fun v _ => v = .pointer (some ⟨w.heap.size, 0, none⟩)) :: .val (fun v _ => v = .agg #[.int .i64 a.n, .int .i64 a.l, .int .i64 a.h, .int .i64 a.t, .int .u64 a.v, .int .u64 a.s]) :: .val (fun v _ => v = .pointer (some ⟨w.heap.size, 6, none⟩)) :: .val (fun v _ => v = .agg #[.int .i64 b.n, .int .i64 b.l, .int .i64 b.h, .int .i64 b.t, .int .u64 b.v, .int .u64 b.s]) :: .val (fun v _ => v = .tuple #[.agg #[.int .i64 0, .int .i64 0, .int .i64 0, .int .i64 0, .int .u64 0, .int .u64 0], .iface 52 (.int .i64 2)]) :: .val (fun v _ => v = .tuple #[.agg #[.int .i64 0, .int .i64 0, .int .i64 0, .int .i64 0, .int .u64 0, .int .u64 0], .iface 52 (.int .i64 2)]) :: .val (fun v _ => v = .agg #[.int .i64 0, .int .i64 0, .int .i64 0, .int .i64 0, .int .u64 0, .int .u64 0]) :: .val (fun v _ => v = .iface 52 (.int .i64 2)) :: .new 26 #[.int .i64 0, .int .i64 0, .int .i64 0, .int .i64 0, .int .u64 0, .int .u64 0] #[.int .i64 0, .int .i64 0, .int .i64 0, .int .i64 0, .int .u64 0, .int .u64 0] 9 :: .put 26 #[.int .i64 0, .int .i64 0, .int .i64 0, .int .i64 0, .int .u64 0, .int .u64 0] #[.int .i64 0, .int .i64 0, .int .i64 0, .int .i64 0, .int .u64 0, .int .u64 0] 3 :: .val (fun v _ => v = .iface 52 (.int .i64 2)) :: [])
    ([] :: [(6, 0)] :: [] :: [(8, 2)] :: [(7, 1), (9, 3)] :: [(10, 4)] :: [(5, 5)] :: [(5, 5)] :: [] :: [(11, 6)] :: [(12, 7)] :: []) ((0, 0) :: (0, 0) :: (0, 0) :: (0, 0) :: (0, 0) :: (0, 0) :: (0, 0) :: (0, 0) :: (1, 9) :: (2, 3) :: (0, 0) :: []) 29 (by kernel_rfl) rfl rfl (by kernel_rfl) ⟨Stab.pure _ _ _, Stab.pure _ _ _, Stab.pure _ _ _, Stab.pure _ _ _, Stab.pure _ _ _, Stab.pure _ _ _, Stab.pure _ _ _, Stab.pure _ _ _, ⟨rfl, rfl, rfl⟩, Stab.pure _ _ _, trivial⟩ ⟨?_, ?_, ?_, ?_, ?_, ?_, ?_, ?_, ?_, ?_, ?_, trivial⟩ ?_
  · intro wx hb
    intro K hK
    go_simp
    exact hK _ _ rfl ⟨rfl, Below.refl _ _⟩
  · intro wx hb
    rintro _ rfl
    intro K hK
    have mm := Box.below (HPL.out) hb (Box.lt (HPL.out))
    have m0 : wx.cell? ⟨w.heap.size, 0, none⟩ = some (.int .i64 a.n) := mm.cell 0
    have m1 : wx.cell? ⟨w.heap.size, 1, none⟩ = some (.int .i64 a.l) := mm.cell 1
    have m2 : wx.cell? ⟨w.heap.size, 2, none⟩ = some (.int .i64 a.h) := mm.cell 2
    have m3 : wx.cell? ⟨w.heap.size, 3, none⟩ = some (.int .i64 a.t) := mm.cell 3
    have m4 : wx.cell? ⟨w.heap.size, 4, none⟩ = some (.int .u64 a.v) := mm.cell 4
    have m5 : wx.cell? ⟨w.heap.size, 5, none⟩ = some (.int .u64 a.s) := mm.cell 5
    have m6 : wx.cell? ⟨w.heap.size, 6, none⟩ = some (.int .i64 b.n) := mm.cell 6
    have m7 : wx.cell? ⟨w.heap.size, 7, none⟩ = some (.int .i64 b.l) := mm.cell 7
    have m8 : wx.cell? ⟨w.heap.size, 8, none⟩ = some (.int .i64 b.h) := mm.cell 8
    have m9 : wx.cell? ⟨w.heap.size, 9, none⟩ = some (.int .i64 b.t) := mm.cell 9
    have m10 : wx.cell? ⟨w.heap.size, 10, none⟩ = some (.int .u64 b.v) := mm.cell 10
    have m11 : wx.cell? ⟨w.heap.size, 11, none⟩ = some (.int .u64 b.s) := mm.cell 11
    have m12 : wx.cell? ⟨w.heap.size, 12, none⟩ = some (.int .i64 c.n) := mm.cell 12
    have m13 : wx.cell? ⟨w.heap.size, 13, none⟩ = some (.int .i64 c.l) := mm.cell 13
    have m14 : wx.cell? ⟨w.heap.size, 14, none⟩ = some (.int .i64 c.h) := mm.cell 14
    have m15 : wx.cell? ⟨w.heap.size, 15, none⟩ = some (.int .i64 c.t) := mm.cell 15
    have m16 : wx.cell? ⟨w.heap.size, 16, none⟩ = some (.int .u64 c.v) := mm.cell 16
    have m17 : wx.cell? ⟨w.heap.size, 17, none⟩ = some (.int .u64 c.s) := mm.cell 17
    clear mm
    go_simp
    exact hK _ _ rfl ⟨rfl, Below.refl _ _⟩
  · intro wx hb
    intro K hK
    go_simp
    exact hK _ _ rfl ⟨rfl, Below.refl _ _⟩
  · intro wx hb
    rintro _ rfl
    intro K hK
    have mm := Box.below (HPL.out) hb (Box.lt (HPL.out))
    have m0 : wx.cell? ⟨w.heap.size, 0, none⟩ = some (.int .i64 a.n) := mm.cell 0
    have m1 : wx.cell? ⟨w.heap.size, 1, none⟩ = some (.int .i64 a.l) := mm.cell 1
    have m2 : wx.cell? ⟨w.heap.size, 2, none⟩ = some (.int .i64 a.h) := mm.cell 2
    have m3 : wx.cell? ⟨w.heap.size, 3, none⟩ = some (.int .i64 a.t) := mm.cell 3
    have m4 : wx.cell? ⟨w.heap.size, 4, none⟩ = some (.int .u64 a.v) := mm.cell 4
    have m5 : wx.cell? ⟨w.heap.size, 5, none⟩ = some (.int .u64 a.s) := mm.cell 5
    have m6 : wx.cell? ⟨w.heap.size, 6, none⟩ = some (.int .i64 b.n) := mm.cell 6
    have m7 : wx.cell? ⟨w.heap.size, 7, none⟩ = some (.int .i64 b.l) := mm.cell 7
    have m8 : wx.cell? ⟨w.heap.size, 8, none⟩ = some (.int .i64 b.h) := mm.cell 8
    have m9 : wx.cell? ⟨w.heap.size, 9, none⟩ = some (.int .i64 b.t) := mm.cell 9
    have m10 : wx.cell? ⟨w.heap.size, 10, none⟩ = some (.int .u64 b.v) := mm.cell 10
    have m11 : wx.cell? ⟨w.heap.size, 11, none⟩ = some (.int .u64 b.s) := mm.cell 11
    have m12 : wx.cell? ⟨w.heap.size, 12, none⟩ = some (.int .i64 c.n) := mm.cell 12
    have m13 : wx.cell? ⟨w.heap.size, 13, none⟩ = some (.int .i64 c.l) := mm.cell 13
    have m14 : wx.cell? ⟨w.heap.size, 14, none⟩ = some (.int .i64 c.h) := mm.cell 14
    have m15 : wx.cell? ⟨w.heap.size, 15, none⟩ = some (.int .i64 c.t) := mm.cell 15
    have m16 : wx.cell? ⟨w.heap.size, 16, none⟩ = some (.int .u64 c.v) := mm.cell 16
    have m17 : wx.cell? ⟨w.heap.size, 17, none⟩ = some (.int .u64 c.s) := mm.cell 17
    clear mm
    go_simp
    exact hK _ _ rfl ⟨rfl, Below.refl _ _⟩
  · intro wx hb
    rintro _ rfl
    rintro _ rfl
    intro K hK
    go_simp
    (with_reducible refine (H.out _).mono ?_)
    rintro e wa ⟨rfl, Ba⟩
    exact hK _ _ rfl ⟨rfl, Ba⟩
  · intro wx hb
    rintro _ rfl
    intro K hK
    go_simp
    exact hK _ _ rfl ⟨rfl, Below.refl _ _⟩
  · intro wx hb
    rintro _ rfl
    intro K hK
    go_simp
    exact hK _ _ rfl ⟨rfl, Below.refl _ _⟩
  · intro wx hb
    rintro _ rfl
    intro K hK
    go_simp
    exact hK _ _ rfl ⟨rfl, Below.refl _ _⟩
  · intro wx hb
    intro K hK
    go_simp
    exact hK _ _ rfl ⟨rfl, rfl⟩
  · intro wx hb
    intro g hg hbx
    rintro _ rfl
    intro K hK
    have c0 : wx.cell? ⟨g, 0, none⟩ = some (.int .i64 0) := hbx.cell 0
    have f0 := hbx.free 0
    have c1 : wx.cell? ⟨g, 1, none⟩ = some (.int .i64 0) := hbx.cell 1
    have f1 := hbx.free 1
    have c2 : wx.cell? ⟨g, 2, none⟩ = some (.int .i64 0) := hbx.cell 2
    have f2 := hbx.free 2
    have c3 : wx.cell? ⟨g, 3, none⟩ = some (.int .i64 0) := hbx.cell 3
    have f3 := hbx.free 3
    have c4 : wx.cell? ⟨g, 4, none⟩ = some (.int .u64 0) := hbx.cell 4
    have f4 := hbx.free 4
    have c5 : wx.cell? ⟨g, 5, none⟩ = some (.int .u64 0) := hbx.cell 5
    have f5 := hbx.free 5
    clear hb
    go_simp
    exact hK _ _ rfl ((((((((Stored.start hbx).set 0 _).set 1 _).set 2 _).set 3 _).set 4 _).set 5 _))
  · intro wx hb
    rintro _ rfl
    intro K hK
    go_simp
    exact hK _ _ rfl ⟨rfl, Below.refl _ _⟩
  intro w1 B1
  rintro _ rfl
  rintro _ rfl
  rintro _ rfl
  rintro _ rfl
  rintro _ rfl
  rintro _ rfl
  rintro _ rfl
  rintro _ rfl
  intro gx hgx Bx
  rintro _ rfl
  rintro -
  simp only [Act.put, List.setIfInBounds_toArray, List.set_cons_zero, List.set_cons_succ, List.toList_toArray, List.length_cons, List.length_nil, List.drop_succ_cons, List.drop_zero, List.drop_nil, Nat.zero_add, wpList]
  have PR := HPR.out.below B1 HPR.out.lt
  have HBW1 := Lib.hid (bkeep HBW.out B1)
  have y0 : w1.cell? ⟨w.heap.size + 1, 0, none⟩ = some (.int .i64 0) := PR.cell 0
  have y1 : w1.cell? ⟨w.heap.size + 1, 1, none⟩ = some (.int .i64 0) := PR.cell 1
  have y2 : w1.cell? ⟨w.heap.size + 1, 2, none⟩ = some (.int .i64 0) := PR.cell 2
  have y3 : w1.cell? ⟨w.heap.size + 1, 3, none⟩ = some (.int .i64 0) := PR.cell 3
  have y4 : w1.cell? ⟨w.heap.size + 1, 4, none⟩ = some (.int .u64 0) := PR.cell 4
  have y5 : w1.cell? ⟨w.heap.size + 1, 5, none⟩ = some (.int .u64 0) := PR.cell 5
  have y6 : w1.cell? ⟨w.heap.size + 1, 6, none⟩ = some (.int .i64 0) := PR.cell 6
  have f0 := PR.free 0; have f1 := PR.free 1; have f2 := PR.free 2; have f3 := PR.free 3; have f4 := PR.free 4; have f5 := PR.free 5; have f6 := PR.free 6
  have lt := PR.lt
  clear B1 PR
  go_wp2_with fail
  (with_reducible refine (num_err 2 _).mono ?_)
  rintro e w2 ⟨rfl, rfl⟩
  go_wp2_with fail
  refine bodyPost_ret (v := .agg #[.int .i64 0, .int .i64 0, .int .i64 0, .int .i64 0, .int .u64 0, .int .u64 0, .int .i64 2]) ?_ rfl ⟨rfl, ?_⟩
  · simp only [results, Try.results22]
    simp [go_sem, y0, y1, y2, y3, y4, y5, y6]
  · exact (((((((HBW1.out.setCell (by simp <;> omega) _).setCell (by simp <;> omega) _).setCell (by simp <;> omega) _).setCell (by simp <;> omega) _).setCell (by simp <;> omega) _).setCell (by simp <;> omega) _).setCell (by simp <;> omega) _)
set_option maxHeartbeats 4000000 in
theorem left_ok (a b c r s : Wt) (ev : Value) (k : Int) (w : World) (H : Hid (CW a b r .nilIface)) (H2 : Hid (CW r c s ev)) (HN : Hid (∀ w : World, Calls Try.prog 21 #[ev] w fun e w' => e = .returned (.int .i64 k) ∧ w = w')) :
    Calls Try.prog 22 #[.agg #[.int .i64 a.n, .int .i64 a.l, .int .i64 a.h, .int .i64 a.t, .int .u64 a.v, .int .u64 a.s, .int .i64 b.n, .int .i64 b.l, .int .i64 b.h, .int .i64 b.t, .int .u64 b.v, .int .u64 b.s, .int .i64 c.n, .int .i64 c.l, .int .i64 c.h, .int .i64 c.t, .int .u64 c.v, .int .u64 c.s]] w fun e w' => e = .returned (.agg #[.int .i64 s.n, .int .i64 s.l, .int .i64 s.h, .int .i64 s.t, .int .u64 s.v, .int .u64 s.s, .int .i64 k]) ∧ Below w.heap.size w w' := by
  have HPL := Lib.hid ((Box.new w 43 #[.int .i64 a.n, .int .i64 a.l, .int .i64 a.h, .int .i64 a.t, .int .u64 a.v, .int .u64 a.s, .int .i64 b.n, .int .i64 b.l, .int .i64 b.h, .int .i64 b.t, .int .u64 b.v, .int .u64 b.s, .int .i64 c.n, .int .i64 c.l, .int .i64 c.h, .int .i64 c.t, .int .u64 c.v, .int .u64 c.s]).alloc (.cells #[.int .i64 0, .int .i64 0, .int .i64 0, .int .i64 0, .int .u64 0, .int .u64 0, .int .i64 0] 45))
  have HPR := Lib.hid (Box.new_ (w := w.alloc (.cells #[.int .i64 a.n, .int .i64 a.l, .int .i64 a.h, .int .i64 a.t, .int .u64 a.v, .int .u64 a.s, .int .i64 b.n, .int .i64 b.l, .int .i64 b.h, .int .i64 b.t, .int .u64 b.v, .int .u64 b.s, .int .i64 c.n, .int .i64 c.l, .int .i64 c.h, .int .i64 c.t, .int .u64 c.v, .int .u64 c.s] 43)) (g := w.heap.size + 1) (t := 45) (cs := #[.int .i64 0, .int .i64 0, .int .i64 0, .int .i64 0, .int .u64 0, .int .u64 0, .int .i64 0]) (by simp))
  have HBW := Lib.hid (balloc (balloc (Below.refl w.heap.size w) (.cells #[.int .i64 a.n, .int .i64 a.l, .int .i64 a.h, .int .i64 a.t, .int .u64 a.v, .int .u64 a.s, .int .i64 b.n, .int .i64 b.l, .int .i64 b.h, .int .i64 b.t, .int .u64 b.v, .int .u64 b.s, .int .i64 c.n, .int .i64 c.l, .int .i64 c.h, .int .i64 c.t, .int .u64 c.v, .int .u64 c.s] 43)) (.cells #[.int .i64 0, .int .i64 0, .int .i64 0, .int .i64 0, .int .u64 0, .int .u64 0, .int .i64 0] 45))
  go_enter Try.func22, Try.ntmps22
  go_upto_region 1 with fail
  refine region_lin0 (.val (fun v _ => v = .pointer (some ⟨w.heap.size, 0, none⟩)) :: .val (fun v _ => v = .agg #[.int .i64 a.n, .int .i64 a.l, .int .i64 a.h, .int .i64 a.t, .int .u64 a.v, .int .u64 a.s]) :: .val (fun v _ => v = .pointer (some ⟨w.heap.size, 6, none⟩)) :: .val (fun v _ => v = .agg #[.int .i64 b.n, .int .i64 b.l, .int .i64 b.h, .int .i64 b.t, .int .u64 b.v, .int .u64 b.s]) :: .val (fun v _ => v = .tuple #[.agg #[.int .i64 r.n, .int .i64 r.l, .int .i64 r.h, .int .i64 r.t, .int .u64 r.v, .int .u64 r.s], .nilIface]) :: .val (fun v _ => v = .tuple #[.agg #[.int .i64 r.n, .int .i64 r.l, .int .i64 r.h, .int .i64 r.t, .int .u64 r.v, .int .u64 r.s], .nilIface]) :: .val (fun v _ => v = .agg #[.int .i64 r.n, .int .i64 r.l, .int .i64 r.h, .int .i64 r.t, .int .u64 r.v, .int .u64 r.s]) :: .val (fun v _ => v = .nilIface) :: .new 26 #[.int .i64 0, .int .i64 0, .int .i64 0, .int .i64 0, .int .u64 0, .int .u64 0] #[.int .i64 r.n, .int .i64 r.l, .int .i64 r.h, .int .i64 r.t, .int .u64 r.v, .int .u64 r.s] 9 :: .put 26 #[.int .i64 0, .int .i64 0, .int .i64 0, .int .i64 0, .int .u64 0, .int .u64 0] #[.int .i64 r.n, .int .i64 r.l, .int .i64 r.h, .int .i64 r.t, .int .u64 r.v, .int .u64 r.s] 3 :: .val (fun v _ => v = .nilIface) :: [])
    ([] :: [(6, 0)] :: [] :: [(8, 2)] :: [(7, 1), (9, 3)] :: [(10, 4)] :: [(5, 5)] :: [(5, 5)] :: [] :: [(11, 6)] :: [(12, 7)] :: []) ((0, 0) :: (0, 0) :: (0, 0) :: (0, 0) :: (0, 0) :: (0, 0) :: (0, 0) :: (0, 0) :: (1, 9) :: (2, 3) :: (0, 0) :: []) 29 (by kernel_rfl) rfl rfl (by kernel_rfl) ⟨Stab.pure _ _ _, Stab.pure _ _ _, Stab.pure _ _ _, Stab.pure _ _ _, Stab.pure _ _ _, Stab.pure _ _ _, Stab.pure _ _ _, Stab.pure _ _ _, ⟨rfl, rfl, rfl⟩, Stab.pure _ _ _, trivial⟩ ⟨?_, ?_, ?_, ?_, ?_, ?_, ?_, ?_, ?_, ?_, ?_, trivial⟩ ?_
  · intro wx hb
    intro K hK
    go_simp
    exact hK _ _ rfl ⟨rfl, Below.refl _ _⟩
  · intro wx hb
    rintro _ rfl
    intro K hK
    have mm := Box.below (HPL.out) hb (Box.lt (HPL.out))
    have m0 : wx.cell? ⟨w.heap.size, 0, none⟩ = some (.int .i64 a.n) := mm.cell 0
    have m1 : wx.cell? ⟨w.heap.size, 1, none⟩ = some (.int .i64 a.l) := mm.cell 1
    have m2 : wx.cell? ⟨w.heap.size, 2, none⟩ = some (.int .i64 a.h) := mm.cell 2
    have m3 : wx.cell? ⟨w.heap.size, 3, none⟩ = some (.int .i64 a.t) := mm.cell 3
    have m4 : wx.cell? ⟨w.heap.size, 4, none⟩ = some (.int .u64 a.v) := mm.cell 4
    have m5 : wx.cell? ⟨w.heap.size, 5, none⟩ = some (.int .u64 a.s) := mm.cell 5
    have m6 : wx.cell? ⟨w.heap.size, 6, none⟩ = some (.int .i64 b.n) := mm.cell 6
    have m7 : wx.cell? ⟨w.heap.size, 7, none⟩ = some (.int .i64 b.l) := mm.cell 7
    have m8 : wx.cell? ⟨w.heap.size, 8, none⟩ = some (.int .i64 b.h) := mm.cell 8
    have m9 : wx.cell? ⟨w.heap.size, 9, none⟩ = some (.int .i64 b.t) := mm.cell 9
    have m10 : wx.cell? ⟨w.heap.size, 10, none⟩ = some (.int .u64 b.v) := mm.cell 10
    have m11 : wx.cell? ⟨w.heap.size, 11, none⟩ = some (.int .u64 b.s) := mm.cell 11
    have m12 : wx.cell? ⟨w.heap.size, 12, none⟩ = some (.int .i64 c.n) := mm.cell 12
    have m13 : wx.cell? ⟨w.heap.size, 13, none⟩ = some (.int .i64 c.l) := mm.cell 13
    have m14 : wx.cell? ⟨w.heap.size, 14, none⟩ = some (.int .i64 c.h) := mm.cell 14
    have m15 : wx.cell? ⟨w.heap.size, 15, none⟩ = some (.int .i64 c.t) := mm.cell 15
    have m16 : wx.cell? ⟨w.heap.size, 16, none⟩ = some (.int .u64 c.v) := mm.cell 16
    have m17 : wx.cell? ⟨w.heap.size, 17, none⟩ = some (.int .u64 c.s) := mm.cell 17
    clear mm
    go_simp
    exact hK _ _ rfl ⟨rfl, Below.refl _ _⟩
  · intro wx hb
    intro K hK
    go_simp
    exact hK _ _ rfl ⟨rfl, Below.refl _ _⟩
  · intro wx hb
    rintro _ rfl
    intro K hK
    have mm := Box.below (HPL.out) hb (Box.lt (HPL.out))
    have m0 : wx.cell? ⟨w.heap.size, 0, none⟩ = some (.int .i64 a.n) := mm.cell 0
    have m1 : wx.cell? ⟨w.heap.size, 1, none⟩ = some (.int .i64 a.l) := mm.cell 1
    have m2 : wx.cell? ⟨w.heap.size, 2, none⟩ = some (.int .i64 a.h) := mm.cell 2
    have m3 : wx.cell? ⟨w.heap.size, 3, none⟩ = some (.int .i64 a.t) := mm.cell 3
    have m4 : wx.cell? ⟨w.heap.size, 4, none⟩ = some (.int .u64 a.v) := mm.cell 4
    have m5 : wx.cell? ⟨w.heap.size, 5, none⟩ = some (.int .u64 a.s) := mm.cell 5
    have m6 : wx.cell? ⟨w.heap.size, 6, none⟩ = some (.int .i64 b.n) := mm.cell 6
    have m7 : wx.cell? ⟨w.heap.size, 7, none⟩ = some (.int .i64 b.l) := mm.cell 7
    have m8 : wx.cell? ⟨w.heap.size, 8, none⟩ = some (.int .i64 b.h) := mm.cell 8
    have m9 : wx.cell? ⟨w.heap.size, 9, none⟩ = some (.int .i64 b.t) := mm.cell 9
    have m10 : wx.cell? ⟨w.heap.size, 10, none⟩ = some (.int .u64 b.v) := mm.cell 10
    have m11 : wx.cell? ⟨w.heap.size, 11, none⟩ = some (.int .u64 b.s) := mm.cell 11
    have m12 : wx.cell? ⟨w.heap.size, 12, none⟩ = some (.int .i64 c.n) := mm.cell 12
    have m13 : wx.cell? ⟨w.heap.size, 13, none⟩ = some (.int .i64 c.l) := mm.cell 13
    have m14 : wx.cell? ⟨w.heap.size, 14, none⟩ = some (.int .i64 c.h) := mm.cell 14
    have m15 : wx.cell? ⟨w.heap.size, 15, none⟩ = some (.int .i64 c.t) := mm.cell 15
    have m16 : wx.cell? ⟨w.heap.size, 16, none⟩ = some (.int .u64 c.v) := mm.cell 16
    have m17 : wx.cell? ⟨w.heap.size, 17, none⟩ = some (.int .u64 c.s) := mm.cell 17
    clear mm
    go_simp
    exact hK _ _ rfl ⟨rfl, Below.refl _ _⟩
  · intro wx hb
    rintro _ rfl
    rintro _ rfl
    intro K hK
    go_simp
    (with_reducible refine (H.out _).mono ?_)
    rintro e wa ⟨rfl, Ba⟩
    exact hK _ _ rfl ⟨rfl, Ba⟩
  · intro wx hb
    rintro _ rfl
    intro K hK
    go_simp
    exact hK _ _ rfl ⟨rfl, Below.refl _ _⟩
  · intro wx hb
    rintro _ rfl
    intro K hK
    go_simp
    exact hK _ _ rfl ⟨rfl, Below.refl _ _⟩
  · intro wx hb
    rintro _ rfl
    intro K hK
    go_simp
    exact hK _ _ rfl ⟨rfl, Below.refl _ _⟩
  · intro wx hb
    intro K hK
    go_simp
    exact hK _ _ rfl ⟨rfl, rfl⟩
  · intro wx hb
    intro g hg hbx
    rintro _ rfl
    intro K hK
    have c0 : wx.cell? ⟨g, 0, none⟩ = some (.int .i64 0) := hbx.cell 0
    have f0 := hbx.free 0
    have c1 : wx.cell? ⟨g, 1, none⟩ = some (.int .i64 0) := hbx.cell 1
    have f1 := hbx.free 1
    have c2 : wx.cell? ⟨g, 2, none⟩ = some (.int .i64 0) := hbx.cell 2
    have f2 := hbx.free 2
    have c3 : wx.cell? ⟨g, 3, none⟩ = some (.int .i64 0) := hbx.cell 3
    have f3 := hbx.free 3
    have c4 : wx.cell? ⟨g, 4, none⟩ = some (.int .u64 0) := hbx.cell 4
    have f4 := hbx.free 4
    have c5 : wx.cell? ⟨g, 5, none⟩ = some (.int .u64 0) := hbx.cell 5
    have f5 := hbx.free 5
    clear hb
    go_simp
    exact hK _ _ rfl ((((((((Stored.start hbx).set 0 _).set 1 _).set 2 _).set 3 _).set 4 _).set 5 _))
  · intro wx hb
    rintro _ rfl
    intro K hK
    go_simp
    exact hK _ _ rfl ⟨rfl, Below.refl _ _⟩
  intro w1 B1
  rintro _ rfl
  rintro _ rfl
  rintro _ rfl
  rintro _ rfl
  rintro _ rfl
  rintro _ rfl
  rintro _ rfl
  rintro _ rfl
  intro gx hgx Bx
  rintro _ rfl
  rintro -
  simp only [Act.put, List.setIfInBounds_toArray, List.set_cons_zero, List.set_cons_succ, List.toList_toArray, List.length_cons, List.length_nil, List.drop_succ_cons, List.drop_zero, List.drop_nil, Nat.zero_add, wpList]
  have HPL1 := Lib.hid (HPL.out.below B1 HPL.out.lt); have HPR1 := Lib.hid (HPR.out.below B1 HPR.out.lt); have HBW1 := Lib.hid (bkeep HBW.out B1)
  have ne0 : w.heap.size + 1 ≠ gx := by have := HPR.out.lt; omega
  have ne1 : gx ≠ w.heap.size + 1 := by omega
  have le : w.heap.size ≤ gx := by have := HPR.out.lt; omega
  clear B1
  have u0 : w1.cell? ⟨gx, 0, none⟩ = some (.int .i64 r.n) := Bx.cell 0
  have u1 : w1.cell? ⟨gx, 1, none⟩ = some (.int .i64 r.l) := Bx.cell 1
  have u2 : w1.cell? ⟨gx, 2, none⟩ = some (.int .i64 r.h) := Bx.cell 2
  have u3 : w1.cell? ⟨gx, 3, none⟩ = some (.int .i64 r.t) := Bx.cell 3
  have u4 : w1.cell? ⟨gx, 4, none⟩ = some (.int .u64 r.v) := Bx.cell 4
  have u5 : w1.cell? ⟨gx, 5, none⟩ = some (.int .u64 r.s) := Bx.cell 5
  have v0 : w1.cell? ⟨w.heap.size, 12, none⟩ = some (.int .i64 c.n) := HPL1.out.cell 12
  have v1 : w1.cell? ⟨w.heap.size, 13, none⟩ = some (.int .i64 c.l) := HPL1.out.cell 13
  have v2 : w1.cell? ⟨w.heap.size, 14, none⟩ = some (.int .i64 c.h) := HPL1.out.cell 14
  have v3 : w1.cell? ⟨w.heap.size, 15, none⟩ = some (.int .i64 c.t) := HPL1.out.cell 15
  have v4 : w1.cell? ⟨w.heap.size, 16, none⟩ = some (.int .u64 c.v) := HPL1.out.cell 16
  have v5 : w1.cell? ⟨w.heap.size, 17, none⟩ = some (.int .u64 c.s) := HPL1.out.cell 17
  have HBx := Lib.hid Bx
  clear Bx
  go_wp2_with fail
  (with_reducible refine (H2.out _).mono ?_)
  rintro e w2 ⟨rfl, B2⟩
  have Bx := HBx.out
  clear u0 u1 u2 u3 u4 u5 v0 v1 v2 v3 v4 v5
  have HPR2 := Lib.hid (HPR1.out.below B2 HPR1.out.lt)
  have PX := Bx.below B2 Bx.lt
  have HBW2 := Lib.hid (bkeep HBW1.out B2)
  have x0 : w2.cell? ⟨gx, 0, none⟩ = some (.int .i64 r.n) := PX.cell 0
  have x1 : w2.cell? ⟨gx, 1, none⟩ = some (.int .i64 r.l) := PX.cell 1
  have x2 : w2.cell? ⟨gx, 2, none⟩ = some (.int .i64 r.h) := PX.cell 2
  have x3 : w2.cell? ⟨gx, 3, none⟩ = some (.int .i64 r.t) := PX.cell 3
  have x4 : w2.cell? ⟨gx, 4, none⟩ = some (.int .u64 r.v) := PX.cell 4
  have x5 : w2.cell? ⟨gx, 5, none⟩ = some (.int .u64 r.s) := PX.cell 5
  have g0 := PX.free 0; have g1 := PX.free 1; have g2 := PX.free 2; have g3 := PX.free 3; have g4 := PX.free 4; have g5 := PX.free 5
  have PS := ((((((PX.set_ 0 (.int .i64 s.n)).set_ 1 (.int .i64 s.l)).set_ 2 (.int .i64 s.h)).set_ 3 (.int .i64 s.t)).set_ 4 (.int .u64 s.v)).set_ 5 (.int .u64 s.s))
  have PRX := ((((((HPR2.out.far (p := ⟨gx, 0, none⟩) ne0 (.int .i64 s.n)).far (p := ⟨gx, 1, none⟩) ne0 (.int .i64 s.l)).far (p := ⟨gx, 2, none⟩) ne0 (.int .i64 s.h)).far (p := ⟨gx, 3, none⟩) ne0 (.int .i64 s.t)).far (p := ⟨gx, 4, none⟩) ne0 (.int .u64 s.v)).far (p := ⟨gx, 5, none⟩) ne0 (.int .u64 s.s))
  have PBW := ((((((HBW2.out.setCell (p := ⟨gx, 0, none⟩) le (.int .i64 s.n)).setCell (p := ⟨gx, 1, none⟩) le (.int .i64 s.l)).setCell (p := ⟨gx, 2, none⟩) le (.int .i64 s.h)).setCell (p := ⟨gx, 3, none⟩) le (.int .i64 s.t)).setCell (p := ⟨gx, 4, none⟩) le (.int .u64 s.v)).setCell (p := ⟨gx, 5, none⟩) le (.int .u64 s.s))
  have HPRX := Lib.hid PRX; have HPBW := Lib.hid PBW
  clear B2 PX Bx PRX PBW
  go_upto_region 5 with fail
  refine region_lin (.val (fun v _ => v = .agg #[.int .i64 s.n, .int .i64 s.l, .int .i64 s.h, .int .i64 s.t, .int .u64 s.v, .int .u64 s.s]) :: .val (fun v _ => v = ev) :: .val (fun v _ => v = .int .i64 k) :: .val (fun v _ => v = .agg #[.int .i64 s.n, .int .i64 s.l, .int .i64 s.h, .int .i64 s.t, .int .u64 s.v, .int .u64 s.s, .int .i64 k]) :: [])
    ([] :: [] :: [(26, 1)] :: [(25, 0), (27, 2)] :: []) ((0, 0) :: (0, 0) :: (0, 0) :: (0, 0) :: []) 29 (by kernel_rfl) rfl rfl (by kernel_rfl) ⟨Stab.pure _ _ _, Stab.pure _ _ _, Stab.pure _ _ _, Stab.pure _ _ _, trivial⟩ ⟨?_, ?_, ?_, ?_, trivial⟩ ?_
  · intro wx hb
    intro K hK
    have mm := Box.below (PS) hb (Box.lt (PS))
    have m0 : wx.cell? ⟨gx, 0, none⟩ = some (.int .i64 s.n) := mm.cell 0
    have m1 : wx.cell? ⟨gx, 1, none⟩ = some (.int .i64 s.l) := mm.cell 1
    have m2 : wx.cell? ⟨gx, 2, none⟩ = some (.int .i64 s.h) := mm.cell 2
    have m3 : wx.cell? ⟨gx, 3, none⟩ = some (.int .i64 s.t) := mm.cell 3
    have m4 : wx.cell? ⟨gx, 4, none⟩ = some (.int .u64 s.v) := mm.cell 4
    have m5 : wx.cell? ⟨gx, 5, none⟩ = some (.int .u64 s.s) := mm.cell 5
    clear mm
    go_simp
    exact hK _ _ rfl ⟨rfl, Below.refl _ _⟩
  · intro wx hb
    intro K hK
    go_simp
    exact hK _ _ rfl ⟨rfl, Below.refl _ _⟩
  · intro wx hb
    intro vq hq; have hq : vq = ev := hq; subst vq
    intro K hK
    go_simp
    (with_reducible refine (HN.out _).mono ?_)
    rintro e wa ⟨rfl, rfl⟩
    exact hK _ _ rfl ⟨rfl, Below.refl _ _⟩
  · intro wx hb
    rintro _ rfl
    rintro _ rfl
    intro K hK
    go_simp
    exact hK _ _ rfl ⟨rfl, Below.refl _ _⟩
  intro w3 B3
  rintro _ rfl
  intro vq hq; have hq : vq = ev := hq; subst vq
  rintro _ rfl
  rintro _ rfl
  rintro -
  simp only [Act.put, List.setIfInBounds_toArray, List.set_cons_zero, List.set_cons_succ, List.toList_toArray, List.length_cons, List.length_nil, List.drop_succ_cons, List.drop_zero, List.drop_nil, Nat.zero_add]
  have PR := HPRX.out.below B3 HPRX.out.lt
  have HBW3 := Lib.hid (bkeep HPBW.out B3)
  have y0 : w3.cell? ⟨w.heap.size + 1, 0, none⟩ = some (.int .i64 0) := PR.cell 0
  have y1 : w3.cell? ⟨w.heap.size + 1, 1, none⟩ = some (.int .i64 0) := PR.cell 1
  have y2 : w3.cell? ⟨w.heap.size + 1, 2, none⟩ = some (.int .i64 0) := PR.cell 2
  have y3 : w3.cell? ⟨w.heap.size + 1, 3, none⟩ = some (.int .i64 0) := PR.cell 3
  have y4 : w3.cell? ⟨w.heap.size + 1, 4, none⟩ = some (.int .u64 0) := PR.cell 4
  have y5 : w3.cell? ⟨w.heap.size + 1, 5, none⟩ = some (.int .u64 0) := PR.cell 5
  have y6 : w3.cell? ⟨w.heap.size + 1, 6, none⟩ = some (.int .i64 0) := PR.cell 6
  have f0 := PR.free 0; have f1 := PR.free 1; have f2 := PR.free 2; have f3 := PR.free 3; have f4 := PR.free 4; have f5 := PR.free 5; have f6 := PR.free 6
  clear B3 PR PS
  go_wp2_with fail
  refine bodyPost_ret (v := .agg #[.int .i64 s.n, .int .i64 s.l, .int .i64 s.h, .int .i64 s.t, .int .u64 s.v, .int .u64 s.s, .int .i64 k]) ?_ rfl ⟨rfl, ?_⟩
  · simp only [results, Try.results22]
    simp [go_sem, y0, y1, y2, y3, y4, y5, y6]
  · exact (((((((HBW3.out.setCell (by simp <;> omega) _).setCell (by simp <;> omega) _).setCell (by simp <;> omega) _).setCell (by simp <;> omega) _).setCell (by simp <;> omega) _).setCell (by simp <;> omega) _).setCell (by simp <;> omega) _)
set_option maxHeartbeats 4000000 in
theorem right_bad (a b c : Wt) (w : World) (H : Hid (CW b c zW (.iface 52 (.int .i64 2)))) :
    Calls Try.prog 23 #[.agg #[.int .i64 a.n, .int .i64 a.l, .int .i64 a.h, .int .i64 a.t, .int .u64 a.v, .int .u64 a.s, .int .i64 b.n, .int .i64 b.l, .int .i64 b.h, .int .i64 b.t, .int .u64 b.v, .int .u64 b.s, .int .i64 c.n, .int .i64 c.l, .int .i64 c.h, .int .i64 c.t, .int .u64 c.v, .int .u64 c.s]] w fun e w' => e = .returned (.agg #[.int .i64 zW.n, .int .i64 zW.l, .int .i64 zW.h, .int .i64 zW.t, .int .u64 zW.v, .int .u64 zW.s, .int .i64 2]) ∧ Below w.heap.size w w' := by
  have HPL := Lib.hid ((Box.new w 43 #[.int .i64 a.n, .int .i64 a.l, .int .i64 a.h, .int .i64 a.t, .int .u64 a.v, .int .u64 a.s, .int .i64 b.n, .int .i64 b.l, .int .i64 b.h, .int .i64 b.t, .int .u64 b.v, .int .u64 b.s, .int .i64 c.n, .int .i64 c.l, .int .i64 c.h, .int .i64 c.t, .int .u64 c.v, .int .u64 c.s]).alloc (.cells #[.int .i64 0, .int .i64 0, .int .i64 0, .int .i64 0, .int .u64 0, .int .u64 0, .int .i64 0] 45))
  have HPR := Lib.hid (Box.new_ (w := w.alloc (.cells #[.int .i64 a.n, .int .i64 a.l, .int .i64 a.h, .int .i64 a.t, .int .u64 a.v, .int .u64 a.s, .int .i64 b.n, .int .i64 b.l, .int .i64 b.h, .int .i64 b.t, .int .u64 b.v, .int .u64 b.s, .int .i64 c.n, .int .i64 c.l, .int .i64 c.h, .int .i64 c.t, .int .u64 c.v, .int .u64 c.s] 43)) (g := w.heap.size + 1) (t := 45) (cs := #[.int .i64 0, .int .i64 0, .int .i64 0, .int .i64 0, .int .u64 0, .int .u64 0, .int .i64 0]) (by simp))
  have HBW := Lib.hid (balloc (balloc (Below.refl w.heap.size w) (.cells #[.int .i64 a.n, .int .i64 a.l, .int .i64 a.h, .int .i64 a.t, .int .u64 a.v, .int .u64 a.s, .int .i64 b.n, .int .i64 b.l, .int .i64 b.h, .int .i64 b.t, .int .u64 b.v, .int .u64 b.s, .int .i64 c.n, .int .i64 c.l, .int .i64 c.h, .int .i64 c.t, .int .u64 c.v, .int .u64 c.s] 43)) (.cells #[.int .i64 0, .int .i64 0, .int .i64 0, .int .i64 0, .int .u64 0, .int .u64 0, .int .i64 0] 45))
  go_enter Try.func23, Try.ntmps23
  go_upto_region 1 with fail
  refine region_lin0 (.val (fun v _ => v = .pointer (some ⟨w.heap.size, 6, none⟩)) :: .val (fun v _ => v = .agg #[.int .i64 b.n, .int .i64 b.l, .int .i64 b.h, .int .i64 b.t, .int .u64 b.v, .int .u64 b.s]) :: .val (fun v _ => v = .pointer (some ⟨w.heap.size, 12, none⟩)) :: .val (fun v _ => v = .agg #[.int .i64 c.n, .int .i64 c.l, .int .i64 c.h, .int .i64 c.t, .int .u64 c.v, .int .u64 c.s]) :: .val (fun v _ => v = .tuple #[.agg #[.int .i64 0, .int .i64 0, .int .i64 0, .int .i64 0, .int .u64 0, .int .u64 0], .iface 52 (.int .i64 2)]) :: .val (fun v _ => v = .tuple #[.agg #[.int .i64 0, .int .i64 0, .int .i64 0, .int .i64 0, .int .u64 0, .int .u64 0], .iface 52 (.int .i64 2)]) :: .val (fun v _ => v = .agg #[.int .i64 0, .int .i64 0, .int .i64 0, .int .i64 0, .int .u64 0, .int .u64 0]) :: .val (fun v _ => v = .iface 52 (.int .i64 2)) :: .new 26 #[.int .i64 0, .int .i64 0, .int .i64 0, .int .i64 0, .int .u64 0, .int .u64 0] #[.int .i64 0, .int .i64 0, .int .i64 0, .int .i64 0, .int .u64 0, .int .u64 0] 9 :: .put 26 #[.int .i64 0, .int .i64 0, .int .i64 0, .int .i64 0, .int .u64 0, .int .u64 0] #[.int .i64 0, .int .i64 0, .int .i64 0, .int .i64 0, .int .u64 0, .int .u64 0] 3 :: .val (fun v _ => v = .iface 52 (.int .i64 2)) :: [])
    ([] :: [(6, 0)] :: [] :: [(8, 2)] :: [(7, 1), (9, 3)] :: [(10, 4)] :: [(5, 5)] :: [(5, 5)] :: [] :: [(11, 6)] :: [(12, 7)] :: []) ((0, 0) :: (0, 0) :: (0, 0) :: (0, 0) :: (0, 0) :: (0, 0) :: (0, 0) :: (0, 0) :: (1, 9) :: (2, 3) :: (0, 0) :: []) 29 (by kernel_rfl) rfl rfl (by kernel_rfl) ⟨Stab.pure _ _ _, Stab.pure _ _ _, Stab.pure _ _ _, Stab.pure _ _ _, Stab.pure _ _ _, Stab.pure _ _ _, Stab.pure _ _ _, Stab.pure _ _ _, ⟨rfl, rfl, rfl⟩, Stab.pure _ _ _, trivial⟩ ⟨?_, ?_, ?_, ?_, ?_, ?_, ?_, ?_, ?_, ?_, ?_, trivial⟩ ?_
  · intro wx hb
    intro K hK
    go_simp
    exact hK _ _ rfl ⟨rfl, Below.refl _ _⟩
  · intro wx hb
    rintro _ rfl
    intro K hK
    have mm := Box.below (HPL.out) hb (Box.lt (HPL.out))
    have m0 : wx.cell? ⟨w.heap.size, 0, none⟩ = some (.int .i64 a.n) := mm.cell 0
    have m1 : wx.cell? ⟨w.heap.size, 1, none⟩ = some (.int .i64 a.l) := mm.cell 1
    have m2 : wx.cell? ⟨w.heap.size, 2, none⟩ = some (.int .i64 a.h) := mm.cell 2
    have m3 : wx.cell? ⟨w.heap.size, 3, none⟩ = some (.int .i64 a.t) := mm.cell 3
    have m4 : wx.cell? ⟨w.heap.size, 4, none⟩ = some (.int .u64 a.v) := mm.cell 4
    have m5 : wx.cell? ⟨w.heap.size, 5, none⟩ = some (.int .u64 a.s) := mm.cell 5
    have m6 : wx.cell? ⟨w.heap.size, 6, none⟩ = some (.int .i64 b.n) := mm.cell 6
    have m7 : wx.cell? ⟨w.heap.size, 7, none⟩ = some (.int .i64 b.l) := mm.cell 7
    have m8 : wx.cell? ⟨w.heap.size, 8, none⟩ = some (.int .i64 b.h) := mm.cell 8
    have m9 : wx.cell? ⟨w.heap.size, 9, none⟩ = some (.int .i64 b.t) := mm.cell 9
    have m10 : wx.cell? ⟨w.heap.size, 10, none⟩ = some (.int .u64 b.v) := mm.cell 10
    have m11 : wx.cell? ⟨w.heap.size, 11, none⟩ = some (.int .u64 b.s) := mm.cell 11
    have m12 : wx.cell? ⟨w.heap.size, 12, none⟩ = some (.int .i64 c.n) := mm.cell 12
    have m13 : wx.cell? ⟨w.heap.size, 13, none⟩ = some (.int .i64 c.l) := mm.cell 13
    have m14 : wx.cell? ⟨w.heap.size, 14, none⟩ = some (.int .i64 c.h) := mm.cell 14
    have m15 : wx.cell? ⟨w.heap.size, 15, none⟩ = some (.int .i64 c.t) := mm.cell 15
    have m16 : wx.cell? ⟨w.heap.size, 16, none⟩ = some (.int .u64 c.v) := mm.cell 16
    have m17 : wx.cell? ⟨w.heap.size, 17, none⟩ = some (.int .u64 c.s) := mm.cell 17
    clear mm
    go_simp
    exact hK _ _ rfl ⟨rfl, Below.refl _ _⟩
  · intro wx hb
    intro K hK
    go_simp
    exact hK _ _ rfl ⟨rfl, Below.refl _ _⟩
  · intro wx hb
    rintro _ rfl
    intro K hK
    have mm := Box.below (HPL.out) hb (Box.lt (HPL.out))
    have m0 : wx.cell? ⟨w.heap.size, 0, none⟩ = some (.int .i64 a.n) := mm.cell 0
    have m1 : wx.cell? ⟨w.heap.size, 1, none⟩ = some (.int .i64 a.l) := mm.cell 1
    have m2 : wx.cell? ⟨w.heap.size, 2, none⟩ = some (.int .i64 a.h) := mm.cell 2
    have m3 : wx.cell? ⟨w.heap.size, 3, none⟩ = some (.int .i64 a.t) := mm.cell 3
    have m4 : wx.cell? ⟨w.heap.size, 4, none⟩ = some (.int .u64 a.v) := mm.cell 4
    have m5 : wx.cell? ⟨w.heap.size, 5, none⟩ = some (.int .u64 a.s) := mm.cell 5
    have m6 : wx.cell? ⟨w.heap.size, 6, none⟩ = some (.int .i64 b.n) := mm.cell 6
    have m7 : wx.cell? ⟨w.heap.size, 7, none⟩ = some (.int .i64 b.l) := mm.cell 7
    have m8 : wx.cell? ⟨w.heap.size, 8, none⟩ = some (.int .i64 b.h) := mm.cell 8
    have m9 : wx.cell? ⟨w.heap.size, 9, none⟩ = some (.int .i64 b.t) := mm.cell 9
    have m10 : wx.cell? ⟨w.heap.size, 10, none⟩ = some (.int .u64 b.v) := mm.cell 10
    have m11 : wx.cell? ⟨w.heap.size, 11, none⟩ = some (.int .u64 b.s) := mm.cell 11
    have m12 : wx.cell? ⟨w.heap.size, 12, none⟩ = some (.int .i64 c.n) := mm.cell 12
    have m13 : wx.cell? ⟨w.heap.size, 13, none⟩ = some (.int .i64 c.l) := mm.cell 13
    have m14 : wx.cell? ⟨w.heap.size, 14, none⟩ = some (.int .i64 c.h) := mm.cell 14
    have m15 : wx.cell? ⟨w.heap.size, 15, none⟩ = some (.int .i64 c.t) := mm.cell 15
    have m16 : wx.cell? ⟨w.heap.size, 16, none⟩ = some (.int .u64 c.v) := mm.cell 16
    have m17 : wx.cell? ⟨w.heap.size, 17, none⟩ = some (.int .u64 c.s) := mm.cell 17
    clear mm
    go_simp
    exact hK _ _ rfl ⟨rfl, Below.refl _ _⟩
  · intro wx hb
    rintro _ rfl
    rintro _ rfl
    intro K hK
    go_simp
    (with_reducible refine (H.out _).mono ?_)
    rintro e wa ⟨rfl, Ba⟩
    exact hK _ _ rfl ⟨rfl, Ba⟩
  · intro wx hb
    rintro _ rfl
    intro K hK
    go_simp
    exact hK _ _ rfl ⟨rfl, Below.refl _ _⟩
  · intro wx hb
    rintro _ rfl
    intro K hK
    go_simp
    exact hK _ _ rfl ⟨rfl, Below.refl _ _⟩
  · intro wx hb
    rintro _ rfl
    intro K hK
    go_simp
    exact hK _ _ rfl ⟨rfl, Below.refl _ _⟩
  · intro wx hb
    intro K hK
    go_simp
    exact hK _ _ rfl ⟨rfl, rfl⟩
  · intro wx hb
    intro g hg hbx
    rintro _ rfl
    intro K hK
    have c0 : wx.cell? ⟨g, 0, none⟩ = some (.int .i64 0) := hbx.cell 0
    have f0 := hbx.free 0
    have c1 : wx.cell? ⟨g, 1, none⟩ = some (.int .i64 0) := hbx.cell 1
    have f1 := hbx.free 1
    have c2 : wx.cell? ⟨g, 2, none⟩ = some (.int .i64 0) := hbx.cell 2
    have f2 := hbx.free 2
    have c3 : wx.cell? ⟨g, 3, none⟩ = some (.int .i64 0) := hbx.cell 3
    have f3 := hbx.free 3
    have c4 : wx.cell? ⟨g, 4, none⟩ = some (.int .u64 0) := hbx.cell 4
    have f4 := hbx.free 4
    have c5 : wx.cell? ⟨g, 5, none⟩ = some (.int .u64 0) := hbx.cell 5
    have f5 := hbx.free 5
    clear hb
    go_simp
    exact hK _ _ rfl ((((((((Stored.start hbx).set 0 _).set 1 _).set 2 _).set 3 _).set 4 _).set 5 _))
  · intro wx hb
    rintro _ rfl
    intro K hK
    go_simp
    exact hK _ _ rfl ⟨rfl, Below.refl _ _⟩
  intro w1 B1
  rintro _ rfl
  rintro _ rfl
  rintro _ rfl
  rintro _ rfl
  rintro _ rfl
  rintro _ rfl
  rintro _ rfl
  rintro _ rfl
  intro gx hgx Bx
  rintro _ rfl
  rintro -
  simp only [Act.put, List.setIfInBounds_toArray, List.set_cons_zero, List.set_cons_succ, List.toList_toArray, List.length_cons, List.length_nil, List.drop_succ_cons, List.drop_zero, List.drop_nil, Nat.zero_add, wpList]
  have PR := HPR.out.below B1 HPR.out.lt
  have HBW1 := Lib.hid (bkeep HBW.out B1)
  have y0 : w1.cell? ⟨w.heap.size + 1, 0, none⟩ = some (.int .i64 0) := PR.cell 0
  have y1 : w1.cell? ⟨w.heap.size + 1, 1, none⟩ = some (.int .i64 0) := PR.cell 1
  have y2 : w1.cell? ⟨w.heap.size + 1, 2, none⟩ = some (.int .i64 0) := PR.cell 2
  have y3 : w1.cell? ⟨w.heap.size + 1, 3, none⟩ = some (.int .i64 0) := PR.cell 3
  have y4 : w1.cell? ⟨w.heap.size + 1, 4, none⟩ = some (.int .u64 0) := PR.cell 4
  have y5 : w1.cell? ⟨w.heap.size + 1, 5, none⟩ = some (.int .u64 0) := PR.cell 5
  have y6 : w1.cell? ⟨w.heap.size + 1, 6, none⟩ = some (.int .i64 0) := PR.cell 6
  have f0 := PR.free 0; have f1 := PR.free 1; have f2 := PR.free 2; have f3 := PR.free 3; have f4 := PR.free 4; have f5 := PR.free 5; have f6 := PR.free 6
  have lt := PR.lt
  clear B1 PR
  go_wp2_with fail
  (with_reducible refine (num_err 2 _).mono ?_)
  rintro e w2 ⟨rfl, rfl⟩
  go_wp2_with fail
  refine bodyPost_ret (v := .agg #[.int .i64 0, .int .i64 0, .int .i64 0, .int .i64 0, .int .u64 0, .int .u64 0, .int .i64 2]) ?_ rfl ⟨rfl, ?_⟩
  · simp only [results, Try.results23]
    simp [go_sem, y0, y1, y2, y3, y4, y5, y6]
  · exact (((((((HBW1.out.setCell (by simp <;> omega) _).setCell (by simp <;> omega) _).setCell (by simp <;> omega) _).setCell (by simp <;> omega) _).setCell (by simp <;> omega) _).setCell (by simp <;> omega) _).setCell (by simp <;> omega) _)
set_option maxHeartbeats 4000000 in
theorem right_ok (a b c r s : Wt) (ev : Value) (k : Int) (w : World) (H : Hid (CW b c r .nilIface)) (H2 : Hid (CW a r s ev)) (HN : Hid (∀ w : World, Calls Try.prog 21 #[ev] w fun e w' => e = .returned (.int .i64 k) ∧ w = w')) :
    Calls Try.prog 23 #[.agg #[.int .i64 a.n, .int .i64 a.l, .int .i64 a.h, .int .i64 a.t, .int .u64 a.v, .int .u64 a.s, .int .i64 b.n, .int .i64 b.l, .int .i64 b.h, .int .i64 b.t, .int .u64 b.v, .int .u64 b.s, .int .i64 c.n, .int .i64 c.l, .int .i64 c.h, .int .i64 c.t, .int .u64 c.v, .int .u64 c.s]] w fun e w' => e = .returned (.agg #[.int .i64 s.n, .int .i64 s.l, .int .i64 s.h, .int .i64 s.t, .int .u64 s.v, .int .u64 s.s, .int .i64 k]) ∧ Below w.heap.size w w' := by
  have HPL := Lib.hid ((Box.new w 43 #[.int .i64 a.n, .int .i64 a.l, .int .i64 a.h, .int .i64 a.t, .int .u64 a.v, .int .u64 a.s, .int .i64 b.n, .int .i64 b.l, .int .i64 b.h, .int .i64 b.t, .int .u64 b.v, .int .u64 b.s, .int .i64 c.n, .int .i64 c.l, .int .i64 c.h, .int .i64 c.t, .int .u64 c.v, .int .u64 c.s]).alloc (.cells #[.int .i64 0, .int .i64 0, .int .i64 0, .int .i64 0, .int .u64 0, .int .u64 0, .int .i64 0] 45))
  have HPR := Lib.hid (Box.new_ (w := w.alloc (.cells #[.int .i64 a.n, .int .i64 a.l, .int .i64 a.h, .int .i64 a.t, .int .u64 a.v, .int .u64 a.s, .int .i64 b.n, .int .i64 b.l, .int .i64 b.h, .int .i64 b.t, .int .u64 b.v, .int .u64 b.s, .int .i64 c.n, .int .i64 c.l, .int .i64 c.h, .int .i64 c.t, .int .u64 c.v, .int .u64 c.s] 43)) (g := w.heap.size + 1) (t := 45) (cs := #[.int .i64 0, .int .i64 0, .int .i64 0, .int .i64 0, .int .u64 0, .int .u64 0, .int .i64 0]) (by simp))
  have HBW := Lib.hid (balloc (balloc (Below.refl w.heap.size w) (.cells #[.int .i64 a.n, .int .i64 a.l, .int .i64 a.h, .int .i64 a.t, .int .u64 a.v, .int .u64 a.s, .int .i64 b.n, .int .i64 b.l, .int .i64 b.h, .int .i64 b.t, .int .u64 b.v, .int .u64 b.s, .int .i64 c.n, .int .i64 c.l, .int .i64 c.h, .int .i64 c.t, .int .u64 c.v, .int .u64 c.s] 43)) (.cells #[.int .i64 0, .int .i64 0, .int .i64 0, .int .i64 0, .int .u64 0, .int .u64 0, .int .i64 0] 45))
  go_enter Try.func23, Try.ntmps23
  go_upto_region 1 with fail
  refine region_lin0 (.val (fun v _ => v = .pointer (some ⟨w.heap.size, 6, none⟩)) :: .val (fun v _ => v = .agg #[.int .i64 b.n, .int .i64 b.l, .int .i64 b.h, .int .i64 b.t, .int .u64 b.v, .int .u64 b.s]) :: .val (fun v _ => v = .pointer (some ⟨w.heap.size, 12, none⟩)) :: .val (fun v _ => v = .agg #[.int .i64 c.n, .int .i64 c.l, .int .i64 c.h, .int .i64 c.t, .int .u64 c.v, .int .u64 c.s]) :: .val (fun v _ => v = .tuple #[.agg #[.int .i64 r.n, .int .i64 r.l, .int .i64 r.h, .int .i64 r.t, .int .u64 r.v, .int .u64 r.s], .nilIface]) :: .val (fun v _ => v = .tuple #[.agg #[.int .i64 r.n, .int .i64 r.l, .int .i64 r.h, .int .i64 r.t, .int .u64 r.v, .int .u64 r.s], .nilIface]) :: .val (fun v _ => v = .agg #[.int .i64 r.n, .int .i64 r.l, .int .i64 r.h, .int .i64 r.t, .int .u64 r.v, .int .u64 r.s]) :: .val (fun v _ => v = .nilIface) :: .new 26 #[.int .i64 0, .int .i64 0, .int .i64 0, .int .i64 0, .int .u64 0, .int .u64 0] #[.int .i64 r.n, .int .i64 r.l, .int .i64 r.h, .int .i64 r.t, .int .u64 r.v, .int .u64 r.s] 9 :: .put 26 #[.int .i64 0, .int .i64 0, .int .i64 0, .int .i64 0, .int .u64 0, .int .u64 0] #[.int .i64 r.n, .int .i64 r.l, .int .i64 r.h, .int .i64 r.t, .int .u64 r.v, .int .u64 r.s] 3 :: .val (fun v _ => v = .nilIface) :: [])
    ([] :: [(6, 0)] :: [] :: [(8, 2)] :: [(7, 1), (9, 3)] :: [(10, 4)] :: [(5, 5)] :: [(5, 5)] :: [] :: [(11, 6)] :: [(12, 7)] :: []) ((0, 0) :: (0, 0) :: (0, 0) :: (0, 0) :: (0, 0) :: (0, 0) :: (0, 0) :: (0, 0) :: (1, 9) :: (2, 3) :: (0, 0) :: []) 29 (by kernel_rfl) rfl rfl (by kernel_rfl) ⟨Stab.pure _ _ _, Stab.pure _ _ _, Stab.pure _ _ _, Stab.pure _ _ _, Stab.pure _ _ _, Stab.pure _ _ _, Stab.pure _ _ _, Stab.pure _ _ _, ⟨rfl, rfl, rfl⟩, Stab.pure _ _ _, trivial⟩ ⟨?_, ?_, ?_, ?_, ?_, ?_, ?_, ?_, ?_, ?_, ?_, trivial⟩ ?_
  · intro wx hb
    intro K hK
    go_simp
    exact hK _ _ rfl ⟨rfl, Below.refl _ _⟩
  · intro wx hb
    rintro _ rfl
    intro K hK
    have mm := Box.below (HPL.out) hb (Box.lt (HPL.out))
    have m0 : wx.cell? ⟨w.heap.size, 0, none⟩ = some (.int .i64 a.n) := mm.cell 0
    have m1 : wx.cell? ⟨w.heap.size, 1, none⟩ = some (.int .i64 a.l) := mm.cell 1
    have m2 : wx.cell? ⟨w.heap.size, 2, none⟩ = some (.int .i64 a.h) := mm.cell 2
    have m3 : wx.cell? ⟨w.heap.size, 3, none⟩ = some (.int .i64 a.t) := mm.cell 3
    have m4 : wx.cell? ⟨w.heap.size, 4, none⟩ = some (.int .u64 a.v) := mm.cell 4
    have m5 : wx.cell? ⟨w.heap.size, 5, none⟩ = some (.int .u64 a.s) := mm.cell 5
    have m6 : wx.cell? ⟨w.heap.size, 6, none⟩ = some (.int .i64 b.n) := mm.cell 6
    have m7 : wx.cell? ⟨w.heap.size, 7, none⟩ = some (.int .i64 b.l) := mm.cell 7
    have m8 : wx.cell? ⟨w.heap.size, 8, none⟩ = some (.int .i64 b.h) := mm.cell 8
    have m9 : wx.cell? ⟨w.heap.size, 9, none⟩ = some (.int .i64 b.t) := mm.cell 9
    have m10 : wx.cell? ⟨w.heap.size, 10, none⟩ = some (.int .u64 b.v) := mm.cell 10
    have m11 : wx.cell? ⟨w.heap.size, 11, none⟩ = some (.int .u64 b.s) := mm.cell 11
    have m12 : wx.cell? ⟨w.heap.size, 12, none⟩ = some (.int .i64 c.n) := mm.cell 12
    have m13 : wx.cell? ⟨w.heap.size, 13, none⟩ = some (.int .i64 c.l) := mm.cell 13
    have m14 : wx.cell? ⟨w.heap.size, 14, none⟩ = some (.int .i64 c.h) := mm.cell 14
    have m15 : wx.cell? ⟨w.heap.size, 15, none⟩ = some (.int .i64 c.t) := mm.cell 15
    have m16 : wx.cell? ⟨w.heap.size, 16, none⟩ = some (.int .u64 c.v) := mm.cell 16
    have m17 : wx.cell? ⟨w.heap.size, 17, none⟩ = some (.int .u64 c.s) := mm.cell 17
    clear mm
    go_simp
    exact hK _ _ rfl ⟨rfl, Below.refl _ _⟩
  · intro wx hb
    intro K hK
    go_simp
    exact hK _ _ rfl ⟨rfl, Below.refl _ _⟩
  · intro wx hb
    rintro _ rfl
    intro K hK
    have mm := Box.below (HPL.out) hb (Box.lt (HPL.out))
    have m0 : wx.cell? ⟨w.heap.size, 0, none⟩ = some (.int .i64 a.n) := mm.cell 0
    have m1 : wx.cell? ⟨w.heap.size, 1, none⟩ = some (.int .i64 a.l) := mm.cell 1
    have m2 : wx.cell? ⟨w.heap.size, 2, none⟩ = some (.int .i64 a.h) := mm.cell 2
    have m3 : wx.cell? ⟨w.heap.size, 3, none⟩ = some (.int .i64 a.t) := mm.cell 3
    have m4 : wx.cell? ⟨w.heap.size, 4, none⟩ = some (.int .u64 a.v) := mm.cell 4
    have m5 : wx.cell? ⟨w.heap.size, 5, none⟩ = some (.int .u64 a.s) := mm.cell 5
    have m6 : wx.cell? ⟨w.heap.size, 6, none⟩ = some (.int .i64 b.n) := mm.cell 6
    have m7 : wx.cell? ⟨w.heap.size, 7, none⟩ = some (.int .i64 b.l) := mm.cell 7
    have m8 : wx.cell? ⟨w.heap.size, 8, none⟩ = some (.int .i64 b.h) := mm.cell 8
    have m9 : wx.cell? ⟨w.heap.size, 9, none⟩ = some (.int .i64 b.t) := mm.cell 9
    have m10 : wx.cell? ⟨w.heap.size, 10, none⟩ = some (.int .u64 b.v) := mm.cell 10
    have m11 : wx.cell? ⟨w.heap.size, 11, none⟩ = some (.int .u64 b.s) := mm.cell 11
    have m12 : wx.cell? ⟨w.heap.size, 12, none⟩ = some (.int .i64 c.n) := mm.cell 12
    have m13 : wx.cell? ⟨w.heap.size, 13, none⟩ = some (.int .i64 c.l) := mm.cell 13
    have m14 : wx.cell? ⟨w.heap.size, 14, none⟩ = some (.int .i64 c.h) := mm.cell 14
    have m15 : wx.cell? ⟨w.heap.size, 15, none⟩ = some (.int .i64 c.t) := mm.cell 15
    have m16 : wx.cell? ⟨w.heap.size, 16, none⟩ = some (.int .u64 c.v) := mm.cell 16
    have m17 : wx.cell? ⟨w.heap.size, 17, none⟩ = some (.int .u64 c.s) := mm.cell 17
    clear mm
    go_simp
    exact hK _ _ rfl ⟨rfl, Below.refl _ _⟩
  · intro wx hb
    rintro _ rfl
    rintro _ rfl
    intro K hK
    go_simp
    (with_reducible refine (H.out _).mono ?_)
    rintro e wa ⟨rfl, Ba⟩
    exact hK _ _ rfl ⟨rfl, Ba⟩
  · intro wx hb
    rintro _ rfl
    intro K hK
    go_simp
    exact hK _ _ rfl ⟨rfl, Below.refl _ _⟩
  · intro wx hb
    rintro _ rfl
    intro K hK
    go_simp
    exact hK _ _ rfl ⟨rfl, Below.refl _ _⟩
  · intro wx hb
    rintro _ rfl
    intro K hK
    go_simp
    exact hK _ _ rfl ⟨rfl, Below.refl _ _⟩
  · intro wx hb
    intro K hK
    go_simp
    exact hK _ _ rfl ⟨rfl, rfl⟩
  · intro wx hb
    intro g hg hbx
    rintro _ rfl
    intro K hK
    have c0 : wx.cell? ⟨g, 0, none⟩ = some (.int .i64 0) := hbx.cell 0
    have f0 := hbx.free 0
    have c1 : wx.cell? ⟨g, 1, none⟩ = some (.int .i64 0) := hbx.cell 1
    have f1 := hbx.free 1
    have c2 : wx.cell? ⟨g, 2, none⟩ = some (.int .i64 0) := hbx.cell 2
    have f2 := hbx.free 2
    have c3 : wx.cell? ⟨g, 3, none⟩ = some (.int .i64 0) := hbx.cell 3
    have f3 := hbx.free 3
    have c4 : wx.cell? ⟨g, 4, none⟩ = some (.int .u64 0) := hbx.cell 4
    have f4 := hbx.free 4
    have c5 : wx.cell? ⟨g, 5, none⟩ = some (.int .u64 0) := hbx.cell 5
    have f5 := hbx.free 5
    clear hb
    go_simp
    exact hK _ _ rfl ((((((((Stored.start hbx).set 0 _).set 1 _).set 2 _).set 3 _).set 4 _).set 5 _))
  · intro wx hb
    rintro _ rfl
    intro K hK
    go_simp
    exact hK _ _ rfl ⟨rfl, Below.refl _ _⟩
  intro w1 B1
  rintro _ rfl
  rintro _ rfl
  rintro _ rfl
  rintro _ rfl
  rintro _ rfl
  rintro _ rfl
  rintro _ rfl
  rintro _ rfl
  intro gx hgx Bx
  rintro _ rfl
  rintro -
  simp only [Act.put, List.setIfInBounds_toArray, List.set_cons_zero, List.set_cons_succ, List.toList_toArray, List.length_cons, List.length_nil, List.drop_succ_cons, List.drop_zero, List.drop_nil, Nat.zero_add, wpList]
  have HPL1 := Lib.hid (HPL.out.below B1 HPL.out.lt); have HPR1 := Lib.hid (HPR.out.below B1 HPR.out.lt); have HBW1 := Lib.hid (bkeep HBW.out B1)
  have ne0 : w.heap.size + 1 ≠ gx := by have := HPR.out.lt; omega
  have ne1 : gx ≠ w.heap.size + 1 := by omega
  have le : w.heap.size ≤ gx := by have := HPR.out.lt; omega
  clear B1
  have u0 : w1.cell? ⟨gx, 0, none⟩ = some (.int .i64 r.n) := Bx.cell 0
  have u1 : w1.cell? ⟨gx, 1, none⟩ = some (.int .i64 r.l) := Bx.cell 1
  have u2 : w1.cell? ⟨gx, 2, none⟩ = some (.int .i64 r.h) := Bx.cell 2
  have u3 : w1.cell? ⟨gx, 3, none⟩ = some (.int .i64 r.t) := Bx.cell 3
  have u4 : w1.cell? ⟨gx, 4, none⟩ = some (.int .u64 r.v) := Bx.cell 4
  have u5 : w1.cell? ⟨gx, 5, none⟩ = some (.int .u64 r.s) := Bx.cell 5
  have v0 : w1.cell? ⟨w.heap.size, 0, none⟩ = some (.int .i64 a.n) := HPL1.out.cell 0
  have v1 : w1.cell? ⟨w.heap.size, 1, none⟩ = some (.int .i64 a.l) := HPL1.out.cell 1
  have v2 : w1.cell? ⟨w.heap.size, 2, none⟩ = some (.int .i64 a.h) := HPL1.out.cell 2
  have v3 : w1.cell? ⟨w.heap.size, 3, none⟩ = some (.int .i64 a.t) := HPL1.out.cell 3
  have v4 : w1.cell? ⟨w.heap.size, 4, none⟩ = some (.int .u64 a.v) := HPL1.out.cell 4
  have v5 : w1.cell? ⟨w.heap.size, 5, none⟩ = some (.int .u64 a.s) := HPL1.out.cell 5
  have HBx := Lib.hid Bx
  clear Bx
  go_wp2_with fail
  (with_reducible refine (H2.out _).mono ?_)
  rintro e w2 ⟨rfl, B2⟩
  have Bx := HBx.out
  clear u0 u1 u2 u3 u4 u5 v0 v1 v2 v3 v4 v5
  have HPR2 := Lib.hid (HPR1.out.below B2 HPR1.out.lt)
  have PX := Bx.below B2 Bx.lt
  have HBW2 := Lib.hid (bkeep HBW1.out B2)
  have x0 : w2.cell? ⟨gx, 0, none⟩ = some (.int .i64 r.n) := PX.cell 0
  have x1 : w2.cell? ⟨gx, 1, none⟩ = some (.int .i64 r.l) := PX.cell 1
  have x2 : w2.cell? ⟨gx, 2, none⟩ = some (.int .i64 r.h) := PX.cell 2
  have x3 : w2.cell? ⟨gx, 3, none⟩ = some (.int .i64 r.t) := PX.cell 3
  have x4 : w2.cell? ⟨gx, 4, none⟩ = some (.int .u64 r.v) := PX.cell 4
  have x5 : w2.cell? ⟨gx, 5, none⟩ = some (.int .u64 r.s) := PX.cell 5
  have g0 := PX.free 0; have g1 := PX.free 1; have g2 := PX.free 2; have g3 := PX.free 3; have g4 := PX.free 4; have g5 := PX.free 5
  have PS := ((((((PX.set_ 0 (.int .i64 s.n)).set_ 1 (.int .i64 s.l)).set_ 2 (.int .i64 s.h)).set_ 3 (.int .i64 s.t)).set_ 4 (.int .u64 s.v)).set_ 5 (.int .u64 s.s))
  have PRX := ((((((HPR2.out.far (p := ⟨gx, 0, none⟩) ne0 (.int .i64 s.n)).far (p := ⟨gx, 1, none⟩) ne0 (.int .i64 s.l)).far (p := ⟨gx, 2, none⟩) ne0 (.int .i64 s.h)).far (p := ⟨gx, 3, none⟩) ne0 (.int .i64 s.t)).far (p := ⟨gx, 4, none⟩) ne0 (.int .u64 s.v)).far (p := ⟨gx, 5, none⟩) ne0 (.int .u64 s.s))
  have PBW := ((((((HBW2.out.setCell (p := ⟨gx, 0, none⟩) le (.int .i64 s.n)).setCell (p := ⟨gx, 1, none⟩) le (.int .i64 s.l)).setCell (p := ⟨gx, 2, none⟩) le (.int .i64 s.h)).setCell (p := ⟨gx, 3, none⟩) le (.int .i64 s.t)).setCell (p := ⟨gx, 4, none⟩) le (.int .u64 s.v)).setCell (p := ⟨gx, 5, none⟩) le (.int .u64 s.s))
  have HPRX := Lib.hid PRX; have HPBW := Lib.hid PBW
  clear B2 PX Bx PRX PBW
  go_upto_region 5 with fail
  refine region_lin (.val (fun v _ => v = .agg #[.int .i64 s.n, .int .i64 s.l, .int .i64 s.h, .int .i64 s.t, .int .u64 s.v, .int .u64 s.s]) :: .val (fun v _ => v = ev) :: .val (fun v _ => v = .int .i64 k) :: .val (fun v _ => v = .agg #[.int .i64 s.n, .int .i64 s.l, .int .i64 s.h, .int .i64 s.t, .int .u64 s.v, .int .u64 s.s, .int .i64 k]) :: [])
    ([] :: [] :: [(26, 1)] :: [(25, 0), (27, 2)] :: []) ((0, 0) :: (0, 0) :: (0, 0) :: (0, 0) :: []) 29 (by kernel_rfl) rfl rfl (by kernel_rfl) ⟨Stab.pure _ _ _, Stab.pure _ _ _, Stab.pure _ _ _, Stab.pure _ _ _, trivial⟩ ⟨?_, ?_, ?_, ?_, trivial⟩ ?_
  · intro wx hb
    intro K hK
    have mm := Box.below (PS) hb (Box.lt (PS))
    have m0 : wx.cell? ⟨gx, 0, none⟩ = some (.int .i64 s.n) := mm.cell 0
    have m1 : wx.cell? ⟨gx, 1, none⟩ = some (.int .i64 s.l) := mm.cell 1
    have m2 : wx.cell? ⟨gx, 2, none⟩ = some (.int .i64 s.h) := mm.cell 2
    have m3 : wx.cell? ⟨gx, 3, none⟩ = some (.int .i64 s.t) := mm.cell 3
    have m4 : wx.cell? ⟨gx, 4, none⟩ = some (.int .u64 s.v) := mm.cell 4
    have m5 : wx.cell? ⟨gx, 5, none⟩ = some (.int .u64 s.s) := mm.cell 5
    clear mm
    go_simp
    exact hK _ _ rfl ⟨rfl, Below.refl _ _⟩
  · intro wx hb
    intro K hK
    go_simp
    exact hK _ _ rfl ⟨rfl, Below.refl _ _⟩
  · intro wx hb
    intro vq hq; have hq : vq = ev := hq; subst vq
    intro K hK
    go_simp
    (with_reducible refine (HN.out _).mono ?_)
    rintro e wa ⟨rfl, rfl⟩
    exact hK _ _ rfl ⟨rfl, Below.refl _ _⟩
  · intro wx hb
    rintro _ rfl
    rintro _ rfl
    intro K hK
    go_simp
    exact hK _ _ rfl ⟨rfl, Below.refl _ _⟩
  intro w3 B3
  rintro _ rfl
  intro vq hq; have hq : vq = ev := hq; subst vq
  rintro _ rfl
  rintro _ rfl
  rintro -
  simp only [Act.put, List.setIfInBounds_toArray, List.set_cons_zero, List.set_cons_succ, List.toList_toArray, List.length_cons, List.length_nil, List.drop_succ_cons, List.drop_zero, List.drop_nil, Nat.zero_add]
  have PR := HPRX.out.below B3 HPRX.out.lt
  have HBW3 := Lib.hid (bkeep HPBW.out B3)
  have y0 : w3.cell? ⟨w.heap.size + 1, 0, none⟩ = some (.int .i64 0) := PR.cell 0
  have y1 : w3.cell? ⟨w.heap.size + 1, 1, none⟩ = some (.int .i64 0) := PR.cell 1
  have y2 : w3.cell? ⟨w.heap.size + 1, 2, none⟩ = some (.int .i64 0) := PR.cell 2
  have y3 : w3.cell? ⟨w.heap.size + 1, 3, none⟩ = some (.int .i64 0) := PR.cell 3
  have y4 : w3.cell? ⟨w.heap.size + 1, 4, none⟩ = some (.int .u64 0) := PR.cell 4
  have y5 : w3.cell? ⟨w.heap.size + 1, 5, none⟩ = some (.int .u64 0) := PR.cell 5
  have y6 : w3.cell? ⟨w.heap.size + 1, 6, none⟩ = some (.int .i64 0) := PR.cell 6
  have f0 := PR.free 0; have f1 := PR.free 1; have f2 := PR.free 2; have f3 := PR.free 3; have f4 := PR.free 4; have f5 := PR.free 5; have f6 := PR.free 6
  clear B3 PR PS
  go_wp2_with fail
  refine bodyPost_ret (v := .agg #[.int .i64 s.n, .int .i64 s.l, .int .i64 s.h, .int .i64 s.t, .int .u64 s.v, .int .u64 s.s, .int .i64 k]) ?_ rfl ⟨rfl, ?_⟩
  · simp only [results, Try.results23]
    simp [go_sem, y0, y1, y2, y3, y4, y5, y6]
  · exact (((((((HBW3.out.setCell (by simp <;> omega) _).setCell (by simp <;> omega) _).setCell (by simp <;> omega) _).setCell (by simp <;> omega) _).setCell (by simp <;> omega) _).setCell (by simp <;> omega) _).setCell (by simp <;> omega) _)
end Go.Proofs.Ytbapmolpfdiknaa
