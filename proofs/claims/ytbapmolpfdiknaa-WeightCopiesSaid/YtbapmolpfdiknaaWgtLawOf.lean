/- The walk of the law WeightOf. -/
import Derived.Test.YtbapmolpfdiknaaWgtROf
import Derived.Test.YtbapmolpfdiknaaWgtAlive
import Derived.Test.YtbapmolpfdiknaaSl
import Derived.Test.YtbapmolpfdiknaaRowFrame
namespace Go.Proofs.Ytbapmolpfdiknaa
set_option linter.unusedVariables false
set_option linter.unusedSimpArgs false
open Go.RowKit Go.Lib
theorem Sl.made (w : World) (e : TypeId) (cs : Array Value) (fr : Nat × Nat) (xs : List Value) (n c : Nat) (h : cs.toList = xs) : Sl e xs n (.slice (some ⟨w.heap.size, 0, none⟩) n c) (w.alloc (.cells cs e fr)) := by
  subst h
  refine ⟨_, _, rfl, fun k u hk => ⟨_, rfl, ?_, _, _, heap_alloc_new w _⟩⟩
  obtain ⟨ad, e1, h1⟩ := RowAt.of_block (heap_alloc_new w (.cells cs e fr)) k u hk
  cases e1
  exact h1
theorem u8s_of {zs : List Int} (h : ∀ n ∈ zs, (Lit.int .u8 n).wf = true) : U8s zs := fun x hx => by have := bounds_u8 (h x hx); omega
theorem wof_w (l : List Int) (n c : Nat) (A : Option Addr) (hl : l.length = n) (hn : n ≤ 1152921504606846976) (hb : U8s l) (x : Wt) (hx : x = wOf l) (w : World) (ha : RowAt w A (vb l)) :
    Calls Try.prog 14 #[.slice A n c] w fun e w' => e = .returned (.agg #[.int .i64 x.n, .int .i64 x.l, .int .i64 x.h, .int .i64 x.t, .int .u64 x.v, .int .u64 x.s]) ∧ Below w.heap.size w w' := by subst hx; exact wof_any l n c A hl hn hb w ha
theorem rof_w (l : List Int) (n c : Nat) (A : Option Addr) (hl : l.length = n) (hn : n ≤ 1152921504606846976) (hb : U8s l) (x : Wt) (hx : x = wOf l) (w : World) (ha : RowAt w A (vb l)) :
    Calls Try.prog 15 #[.slice A n c] w fun e w' => e = .returned (.agg #[.int .i64 x.n, .int .i64 x.l, .int .i64 x.h, .int .i64 x.t, .int .u64 x.v, .int .u64 x.s]) ∧ Below w.heap.size w w' := by subst hx; exact rof_any l n c A hl hn hb w ha
theorem wvalid_of (l : List Int) (hl : (l.length : Int) ≤ 1152921504606846976) (x : Wt) (hx : x = wOf l) (w : World) : Calls Try.prog 12 #[.agg #[.int .i64 x.n, .int .i64 x.l, .int .i64 x.h, .int .i64 x.t, .int .u64 x.v, .int .u64 x.s]] w fun e w' => e = .returned (.bool true) ∧ Below w.heap.size w w' := by
  subst hx
  have h := wvalid_w _ (wOf_ok l hl) w
  rwa [wOf_vB l hl] at h
attribute [local go_sem ↓] Go.wp_at_zero Go.wp_at_succ
set_option maxHeartbeats 4000000 in
theorem law_of (l : List Int) (n c : Nat) (A : Option Addr) (hl : l.length = n) (hn : n ≤ 9223372036854775807) (hb : U8s l) (b : Int) (b0 : 0 ≤ b) (b1 : b ≤ 255) (w : World) (ha : RowAt w A (vb l)) :
    Calls Try.prog 4 #[.slice A n c, .int .u8 b] w fun e w' => e = .returned (.bool true) ∧ Below w.heap.size w w' := by
  by_cases h5 : n ≤ 5000
  · have h5' : (n : Int) ≤ 5000 := by omega
    obtain ⟨x, hx⟩ : ∃ x, x = wOf l := ⟨_, rfl⟩
    obtain ⟨y, hy⟩ : ∃ y, y = wL b := ⟨_, rfl⟩
    have HW := Lib.hid (fun (w : World) (h : RowAt w A (vb l)) => wof_w l n c A hl (by omega) hb x hx w h)
    have HR := Lib.hid (fun (w : World) (h : RowAt w A (vb l)) => rof_w l n c A hl (by omega) hb x hx w h)
    have HV := Lib.hid (wvalid_of l (by omega) x hx)
    have HL := Lib.hid (show ∀ w : World, Calls Try.prog 16 #[.int .u8 b] w fun e w' => e = .returned (.agg #[.int .i64 y.n, .int .i64 y.l, .int .i64 y.h, .int .i64 y.t, .int .u64 y.v, .int .u64 y.s]) ∧ Below w.heap.size w w' from hy ▸ wletter_any b b0 b1)
    have HB := Lib.hid (fun (c : Nat) (A : Option Addr) (w : World) (h : RowAt w A (vb [b])) => rof_w [b] 1 c A rfl (by omega) (by intro z hz; simp at hz; omega) y hy w h)
    have HA := Lib.hid ha
    clear hx hy ha hl hb
    go_enter Try.func4, Try.ntmps4
    have BW := Below.refl w.heap.size w
    go_upto_region 3 with fail
    refine region_lin0 (.val (fun v _ => v = .slice A n c) :: .val (fun v _ => v = .agg #[.int .i64 x.n, .int .i64 x.l, .int .i64 x.h, .int .i64 x.t, .int .u64 x.v, .int .u64 x.s]) :: .new 26 #[.int .i64 0, .int .i64 0, .int .i64 0, .int .i64 0, .int .u64 0, .int .u64 0] #[.int .i64 x.n, .int .i64 x.l, .int .i64 x.h, .int .i64 x.t, .int .u64 x.v, .int .u64 x.s] 3 :: .put 26 #[.int .i64 0, .int .i64 0, .int .i64 0, .int .i64 0, .int .u64 0, .int .u64 0] #[.int .i64 x.n, .int .i64 x.l, .int .i64 x.h, .int .i64 x.t, .int .u64 x.v, .int .u64 x.s] 5 :: [])
      ([] :: [(9, 0)] :: [] :: [(10, 1)] :: []) ((0, 0) :: (0, 0) :: (1, 3) :: (2, 5) :: []) 35 (by kernel_rfl) rfl rfl (by kernel_rfl) ⟨Stab.pure _ _ _, Stab.pure _ _ _, ⟨rfl, rfl, rfl⟩, trivial⟩ ⟨?_, ?_, ?_, ?_, trivial⟩ ?_
    · intro wx hb
      intro K hK
      go_simp
      exact hK _ _ rfl ⟨rfl, Below.refl _ _⟩
    · intro wx hb
      rintro _ rfl
      intro K hK
      have ra := HA.out.below hb (Nat.le_refl _)
      go_simp
      (with_reducible refine (HW.out _ ra).mono ?_)
      rintro e wa ⟨rfl, Ba⟩
      exact hK _ _ rfl ⟨rfl, Ba⟩
    · intro wx hb
      intro K hK
      go_simp
      exact hK _ _ rfl ⟨rfl, rfl⟩
    · intro wx hb
      intro g hg hbx
      rintro _ rfl
      intro K hK
      have c0 : wx.cell? ⟨g, 0, none⟩ = some (.int .i64 0) := hbx.cell 0
      have f0 := hbx.free 0
      have c1 : wx.cell? ⟨g, 1, none⟩ = some (.int .i64 0) := hbx.cell 1
      have f1 := hbx.free 1
      have c2 : wx.cell? ⟨g, 2, none⟩ = some (.int .i64 0) := hbx.cell 2
      have f2 := hbx.free 2
      have c3 : wx.cell? ⟨g, 3, none⟩ = some (.int .i64 0) := hbx.cell 3
      have f3 := hbx.free 3
      have c4 : wx.cell? ⟨g, 4, none⟩ = some (.int .u64 0) := hbx.cell 4
      have f4 := hbx.free 4
      have c5 : wx.cell? ⟨g, 5, none⟩ = some (.int .u64 0) := hbx.cell 5
      have f5 := hbx.free 5
      clear hb
      go_simp
      exact hK _ _ rfl ((((((((Stored.start hbx).set 0 _).set 1 _).set 2 _).set 3 _).set 4 _).set 5 _))
    intro w2 B2
    have BW := bkeep BW B2
    rintro _ rfl
    rintro _ rfl
    intro gx hgx Bx
    rintro -
    simp only [Act.put, List.setIfInBounds_toArray, List.set_cons_zero, List.set_cons_succ, List.toList_toArray, List.length_cons, List.length_nil, List.drop_succ_cons, List.drop_zero, List.drop_nil, Nat.zero_add, wpList]
    have RA2 := Lib.hid (HA.out.below B2 (Nat.le_refl _))
    clear B2
    go_upto_region 4 with fail
    refine region_lin (.val (fun v _ => v = .bool true) :: .val (fun v _ => v = .bool true) :: .val (fun v _ => v = .agg #[.int .i64 x.n, .int .i64 x.l, .int .i64 x.h, .int .i64 x.t, .int .u64 x.v, .int .u64 x.s]) :: .val (fun v _ => v = .slice A n c) :: .val (fun v _ => v = .agg #[.int .i64 x.n, .int .i64 x.l, .int .i64 x.h, .int .i64 x.t, .int .u64 x.v, .int .u64 x.s]) :: .val (fun v _ => v = .bool true) :: .val (fun v _ => v = .bool true) :: .val (fun v _ => v = .bool true) :: .val (fun v _ => v = .agg #[.int .i64 x.n, .int .i64 x.l, .int .i64 x.h, .int .i64 x.t, .int .u64 x.v, .int .u64 x.s]) :: .val (fun v _ => v = .bool true) :: .val (fun v _ => v = .bool true) :: .val (fun v _ => v = .bool true) :: .val (fun v _ => v = .int .u8 b) :: .val (fun v _ => v = .agg #[.int .i64 y.n, .int .i64 y.l, .int .i64 y.h, .int .i64 y.t, .int .u64 y.v, .int .u64 y.s]) :: .val (fun v _ => v = .int .u8 b) :: .val (Sl 5 (vb [b]) 1) :: .val (fun v _ => v = .agg #[.int .i64 y.n, .int .i64 y.l, .int .i64 y.h, .int .i64 y.t, .int .u64 y.v, .int .u64 y.s]) :: .val (fun v _ => v = .bool true) :: .val (fun v _ => v = .bool true) :: .val (fun v _ => v = .bool true) :: .val (fun v _ => v = .agg #[.int .i64 0, .int .i64 0, .int .i64 0, .int .i64 0, .int .u64 0, .int .u64 1]) :: .val (fun v _ => v = .agg #[.int .i64 0, .int .i64 0, .int .i64 0, .int .i64 0, .int .u64 0, .int .u64 1]) :: .val (fun v _ => v = .bool true) :: .val (fun v _ => v = .bool true) :: .val (fun v _ => v = .bool true) :: [])
      ([] :: [(11, 0)] :: [(12, 1)] :: [(12, 1)] :: [(14, 3), (12, 1)] :: [(13, 2), (15, 4), (12, 1)] :: [(12, 1), (16, 5)] :: [(17, 6)] :: [(18, 7)] :: [(19, 8), (18, 7)] :: [(18, 7), (20, 9)] :: [(21, 10)] :: [(22, 11)] :: [(23, 12), (22, 11)] :: [(22, 11)] :: [(25, 14), (22, 11)] :: [(26, 15), (22, 11)] :: [(24, 13), (27, 16), (22, 11)] :: [(22, 11), (28, 17)] :: [(29, 18)] :: [(30, 19)] :: [(30, 19)] :: [(31, 20), (32, 21), (30, 19)] :: [(30, 19), (33, 22)] :: [(34, 23)] :: []) ((0, 0) :: (0, 0) :: (0, 0) :: (0, 0) :: (0, 0) :: (0, 0) :: (0, 0) :: (0, 0) :: (0, 0) :: (0, 0) :: (0, 0) :: (0, 0) :: (0, 0) :: (0, 0) :: (0, 0) :: (0, 0) :: (0, 0) :: (0, 0) :: (0, 0) :: (0, 0) :: (0, 0) :: (0, 0) :: (0, 0) :: (0, 0) :: (0, 0) :: []) 35 (by kernel_rfl) rfl rfl (by kernel_rfl) ⟨Stab.pure _ _ _, Stab.pure _ _ _, Stab.pure _ _ _, Stab.pure _ _ _, Stab.pure _ _ _, Stab.pure _ _ _, Stab.pure _ _ _, Stab.pure _ _ _, Stab.pure _ _ _, Stab.pure _ _ _, Stab.pure _ _ _, Stab.pure _ _ _, Stab.pure _ _ _, Stab.pure _ _ _, Stab.pure _ _ _, (Sl.stab (by simp [tysOf])), Stab.pure _ _ _, Stab.pure _ _ _, Stab.pure _ _ _, Stab.pure _ _ _, Stab.pure _ _ _, Stab.pure _ _ _, Stab.pure _ _ _, Stab.pure _ _ _, Stab.pure _ _ _, trivial⟩ ⟨?_, ?_, ?_, ?_, ?_, ?_, ?_, ?_, ?_, ?_, ?_, ?_, ?_, ?_, ?_, ?_, ?_, ?_, ?_, ?_, ?_, ?_, ?_, ?_, ?_, trivial⟩ ?_
    · intro wx hb
      intro K hK
      go_simp
      (with_reducible refine (alive_any _).mono ?_)
      rintro e wa ⟨rfl, Ba⟩
      exact hK _ _ rfl ⟨rfl, Ba⟩
    · intro wx hb
      rintro _ rfl
      intro K hK
      go_simp
      exact hK _ _ rfl ⟨rfl, Below.refl _ _⟩
    · intro wx hb
      rintro _ rfl
      refine ⟨fun _ => ?_, fun h => absurd (show true = false from h) (by decide)⟩
      intro K hK
      have mm := Box.below (Bx) hb (Box.lt (Bx))
      have m0 : wx.cell? ⟨gx, 0, none⟩ = some (.int .i64 x.n) := mm.cell 0
      have m1 : wx.cell? ⟨gx, 1, none⟩ = some (.int .i64 x.l) := mm.cell 1
      have m2 : wx.cell? ⟨gx, 2, none⟩ = some (.int .i64 x.h) := mm.cell 2
      have m3 : wx.cell? ⟨gx, 3, none⟩ = some (.int .i64 x.t) := mm.cell 3
      have m4 : wx.cell? ⟨gx, 4, none⟩ = some (.int .u64 x.v) := mm.cell 4
      have m5 : wx.cell? ⟨gx, 5, none⟩ = some (.int .u64 x.s) := mm.cell 5
      clear mm
      go_simp
      exact hK _ _ rfl ⟨rfl, Below.refl _ _⟩
    · intro wx hb
      rintro _ rfl
      refine ⟨fun _ => ?_, fun h => absurd (show true = false from h) (by decide)⟩
      intro K hK
      go_simp
      exact hK _ _ rfl ⟨rfl, Below.refl _ _⟩
    · intro wx hb
      rintro _ rfl
      rintro _ rfl
      refine ⟨fun _ => ?_, fun h => absurd (show true = false from h) (by decide)⟩
      intro K hK
      have ra := RA2.out.below hb (Nat.le_refl _)
      go_simp
      (with_reducible refine (HR.out _ ra).mono ?_)
      rintro e wa ⟨rfl, Ba⟩
      exact hK _ _ rfl ⟨rfl, Ba⟩
    · intro wx hb
      rintro _ rfl
      rintro _ rfl
      rintro _ rfl
      refine ⟨fun _ => ?_, fun h => absurd (show true = false from h) (by decide)⟩
      intro K hK
      go_simp
      exact hK _ _ rfl ⟨rfl, Below.refl _ _⟩
    · intro wx hb
      rintro _ rfl
      rintro _ rfl
      intro K hK
      go_simp
      exact hK _ _ rfl ⟨rfl, Below.refl _ _⟩
    · intro wx hb
      rintro _ rfl
      intro K hK
      go_simp
      exact hK _ _ rfl ⟨rfl, Below.refl _ _⟩
    · intro wx hb
      rintro _ rfl
      refine ⟨fun _ => ?_, fun h => absurd (show true = false from h) (by decide)⟩
      intro K hK
      have mm := Box.below (Bx) hb (Box.lt (Bx))
      have m0 : wx.cell? ⟨gx, 0, none⟩ = some (.int .i64 x.n) := mm.cell 0
      have m1 : wx.cell? ⟨gx, 1, none⟩ = some (.int .i64 x.l) := mm.cell 1
      have m2 : wx.cell? ⟨gx, 2, none⟩ = some (.int .i64 x.h) := mm.cell 2
      have m3 : wx.cell? ⟨gx, 3, none⟩ = some (.int .i64 x.t) := mm.cell 3
      have m4 : wx.cell? ⟨gx, 4, none⟩ = some (.int .u64 x.v) := mm.cell 4
      have m5 : wx.cell? ⟨gx, 5, none⟩ = some (.int .u64 x.s) := mm.cell 5
      clear mm
      go_simp
      exact hK _ _ rfl ⟨rfl, Below.refl _ _⟩
    · intro wx hb
      rintro _ rfl
      rintro _ rfl
      refine ⟨fun _ => ?_, fun h => absurd (show true = false from h) (by decide)⟩
      intro K hK
      go_simp
      (with_reducible refine (HV.out _).mono ?_)
      rintro e wa ⟨rfl, Ba⟩
      exact hK _ _ rfl ⟨rfl, Ba⟩
    · intro wx hb
      rintro _ rfl
      rintro _ rfl
      intro K hK
      go_simp
      exact hK _ _ rfl ⟨rfl, Below.refl _ _⟩
    · intro wx hb
      rintro _ rfl
      intro K hK
      go_simp
      exact hK _ _ rfl ⟨rfl, Below.refl _ _⟩
    · intro wx hb
      rintro _ rfl
      refine ⟨fun _ => ?_, fun h => absurd (show true = false from h) (by decide)⟩
      intro K hK
      go_simp
      exact hK _ _ rfl ⟨rfl, Below.refl _ _⟩
    · intro wx hb
      rintro _ rfl
      rintro _ rfl
      refine ⟨fun _ => ?_, fun h => absurd (show true = false from h) (by decide)⟩
      intro K hK
      go_simp
      (with_reducible refine (HL.out _).mono ?_)
      rintro e wa ⟨rfl, Ba⟩
      exact hK _ _ rfl ⟨rfl, Ba⟩
    · intro wx hb
      rintro _ rfl
      refine ⟨fun _ => ?_, fun h => absurd (show true = false from h) (by decide)⟩
      intro K hK
      go_simp
      exact hK _ _ rfl ⟨rfl, Below.refl _ _⟩
    · intro wx hb
      rintro _ rfl
      rintro _ rfl
      refine ⟨fun _ => ?_, fun h => absurd (show true = false from h) (by decide)⟩
      intro K hK
      go_simp; exact hK _ _ rfl ⟨Sl.made _ _ _ _ _ _ _ rfl, balloc (Below.refl _ _) _⟩
    · intro wx hb
      intro v26 h26
      rintro _ rfl
      refine ⟨fun _ => ?_, fun h => absurd (show true = false from h) (by decide)⟩
      intro K hK
      obtain ⟨A2, c2, rfl, ra⟩ := h26.row
      go_simp
      (with_reducible refine (HB.out _ _ _ ra).mono ?_)
      rintro e wa ⟨rfl, Ba⟩
      exact hK _ _ rfl ⟨rfl, Ba⟩
    · intro wx hb
      rintro _ rfl
      rintro _ rfl
      rintro _ rfl
      refine ⟨fun _ => ?_, fun h => absurd (show true = false from h) (by decide)⟩
      intro K hK
      go_simp
      exact hK _ _ rfl ⟨rfl, Below.refl _ _⟩
    · intro wx hb
      rintro _ rfl
      rintro _ rfl
      intro K hK
      go_simp
      exact hK _ _ rfl ⟨rfl, Below.refl _ _⟩
    · intro wx hb
      rintro _ rfl
      intro K hK
      go_simp
      exact hK _ _ rfl ⟨rfl, Below.refl _ _⟩
    · intro wx hb
      rintro _ rfl
      refine ⟨fun _ => ?_, fun h => absurd (show true = false from h) (by decide)⟩
      intro K hK
      go_simp
      (with_reducible refine (wunit_any _).mono ?_)
      rintro e wa ⟨rfl, Ba⟩
      exact hK _ _ rfl ⟨rfl, Ba⟩
    · intro wx hb
      rintro _ rfl
      refine ⟨fun _ => ?_, fun h => absurd (show true = false from h) (by decide)⟩
      intro K hK
      go_simp
      (with_reducible refine (runit_any _).mono ?_)
      rintro e wa ⟨rfl, Ba⟩
      exact hK _ _ rfl ⟨rfl, Ba⟩
    · intro wx hb
      rintro _ rfl
      rintro _ rfl
      rintro _ rfl
      refine ⟨fun _ => ?_, fun h => absurd (show true = false from h) (by decide)⟩
      intro K hK
      go_simp
      exact hK _ _ rfl ⟨rfl, Below.refl _ _⟩
    · intro wx hb
      rintro _ rfl
      rintro _ rfl
      intro K hK
      go_simp
      exact hK _ _ rfl ⟨rfl, Below.refl _ _⟩
    · intro wx hb
      rintro _ rfl
      intro K hK
      go_simp
      exact hK _ _ rfl ⟨rfl, Below.refl _ _⟩
    intro w3 B3
    have BW := bkeep BW B3
    rintro _ rfl
    rintro _ rfl
    rintro _ rfl
    rintro _ rfl
    rintro _ rfl
    rintro _ rfl
    rintro _ rfl
    rintro _ rfl
    rintro _ rfl
    rintro _ rfl
    rintro _ rfl
    rintro _ rfl
    rintro _ rfl
    rintro _ rfl
    rintro _ rfl
    intro v26 h26
    rintro _ rfl
    rintro _ rfl
    rintro _ rfl
    rintro _ rfl
    rintro _ rfl
    rintro _ rfl
    rintro _ rfl
    rintro _ rfl
    rintro _ rfl
    rintro -
    simp only [Act.put, List.setIfInBounds_toArray, List.set_cons_zero, List.set_cons_succ, List.toList_toArray, List.length_cons, List.length_nil, List.drop_succ_cons, List.drop_zero, List.drop_nil, Nat.zero_add, wpList]
    go_wp2_with fail
    go_ret
    exact ⟨rfl, BW⟩
  · have h5' : (5000 : Int) < n := by omega
    clear h5
    go_enter Try.func4, Try.ntmps4
    go_wp2_with fail
    go_ret
    exact ⟨rfl, Below.refl _ _⟩
end Go.Proofs.Ytbapmolpfdiknaa
