/- The walk of evergreenref09.Less. -/
import Derived.Test.YtpeapjnfncfjiaaRuleLess
import Derived.Test.YtpeapjnfncfjiaaRegLin
import Derived.Deep.DeepCutAuto
namespace Go.Proofs.Ytpeapjnfncfjiaa
set_option linter.unusedVariables false
set_option linter.unusedSimpArgs false
open Go.RowKit Go.Lib
attribute [local go_sem ↓] Go.wp_at_zero Go.wp_at_succ
theorem Box.new_ {w : World} {g : Nat} {t : TypeId} {cs : Array Value} (hg : g = w.heap.size) : Box (w.alloc (.cells cs t)) g t cs := by subst hg; exact Box.new w t cs
theorem cell_at {w : World} {g : Nat} {t : TypeId} {l : List Int} {cs : Array Value} (h : Box w g t cs) (e : cs = (l.map (Value.int .i64)).toArray) {k : Nat} (hk : k < l.length) : w.cell? ⟨g, k, none⟩ = some (.int .i64 l[k]) := by
  rw [h.cell, e]
  simp [hk]

set_option maxHeartbeats 2000000 in
theorem rless_any (a1 a2 a3 a4 a5 b1 b2 b3 b4 b5 : Int) (p0 : 0 ≤ a2) (p1 : a2 ≤ 255) (q0 : 0 ≤ b2) (q1 : b2 ≤ 255) (w : World) :
    Calls Try.prog 22 #[.agg #[.int .i64 a1, .int .u8 a2, .int .i64 a3, .int .i64 a4, .int .i64 a5], .agg #[.int .i64 b1, .int .u8 b2, .int .i64 b3, .int .i64 b4, .int .i64 b5]] w fun e w' => e = .returned (.bool (lessOf a1 a2 a3 a4 a5 b1 b2 b3 b4 b5)) ∧ Below w.heap.size w w' := by
  obtain ⟨R, hR⟩ : ∃ R, R = lessOf a1 a2 a3 a4 a5 b1 b2 b3 b4 b5 := ⟨_, rfl⟩
  rw [← hR]
  have F1 := Lib.hid (fields_any a1 a2 a3 a4 a5 p0 p1); have F2 := Lib.hid (fields_any b1 b2 b3 b4 b5 q0 q1)
  have PA : Box ((w.alloc (.cells #[.int .i64 a1, .int .u8 a2, .int .i64 a3, .int .i64 a4, .int .i64 a5] 24)).alloc (.cells #[.int .i64 b1, .int .u8 b2, .int .i64 b3, .int .i64 b4, .int .i64 b5] 24)) w.heap.size 24 #[.int .i64 a1, .int .u8 a2, .int .i64 a3, .int .i64 a4, .int .i64 a5] := (Box.new w _ _).alloc _
  have PB : Box ((w.alloc (.cells #[.int .i64 a1, .int .u8 a2, .int .i64 a3, .int .i64 a4, .int .i64 a5] 24)).alloc (.cells #[.int .i64 b1, .int .u8 b2, .int .i64 b3, .int .i64 b4, .int .i64 b5] 24)) (w.heap.size + 1) 24 #[.int .i64 b1, .int .u8 b2, .int .i64 b3, .int .i64 b4, .int .i64 b5] := Box.new_ (by simp)
  have HR := Lib.hid hR; have HPA := Lib.hid PA; have HPB := Lib.hid PB
  clear hR PA PB
  go_enter Try.func22, Try.ntmps22
  go_upto_region 1 with fail
  refine region_lin (.val (fun v _ => v = .agg #[.int .i64 a1, .int .u8 a2, .int .i64 a3, .int .i64 a4, .int .i64 a5]) :: .val (fun v _ => v = .agg #[.int .i64 a1, .int .i64 a2, .int .i64 a3, .int .i64 a4, .int .i64 a5]) :: .val (fun v _ => v = .agg #[.int .i64 b1, .int .u8 b2, .int .i64 b3, .int .i64 b4, .int .i64 b5]) :: .val (fun v _ => v = .agg #[.int .i64 b1, .int .i64 b2, .int .i64 b3, .int .i64 b4, .int .i64 b5]) :: .new 64 #[.int .i64 0, .int .i64 0, .int .i64 0, .int .i64 0, .int .i64 0] #[.int .i64 a1, .int .i64 a2, .int .i64 a3, .int .i64 a4, .int .i64 a5] 6 :: .new 64 #[.int .i64 0, .int .i64 0, .int .i64 0, .int .i64 0, .int .i64 0] #[.int .i64 b1, .int .i64 b2, .int .i64 b3, .int .i64 b4, .int .i64 b5] 7 :: .put 64 #[.int .i64 0, .int .i64 0, .int .i64 0, .int .i64 0, .int .i64 0] #[.int .i64 a1, .int .i64 a2, .int .i64 a3, .int .i64 a4, .int .i64 a5] 5 :: .put 64 #[.int .i64 0, .int .i64 0, .int .i64 0, .int .i64 0, .int .i64 0] #[.int .i64 b1, .int .i64 b2, .int .i64 b3, .int .i64 b4, .int .i64 b5] 6 :: [])
    ([] :: [(8, 0)] :: [] :: [(10, 2)] :: [] :: [] :: [(9, 1)] :: [(11, 3)] :: []) ((0, 0) :: (0, 0) :: (0, 0) :: (0, 0) :: (1, 6) :: (1, 7) :: (2, 5) :: (2, 6) :: []) 30 (by kernel_rfl) rfl rfl (by kernel_rfl) ⟨Stab.pure _ _ _, Stab.pure _ _ _, Stab.pure _ _ _, Stab.pure _ _ _, ⟨rfl, rfl, rfl⟩, ⟨rfl, rfl, rfl⟩, trivial⟩ ⟨?_, ?_, ?_, ?_, ?_, ?_, ?_, ?_, trivial⟩ ?_
  · intro wx hb
    intro K hK
    have mm := Box.below (HPA.out) hb (Box.lt (HPA.out))
    have m0 : wx.cell? ⟨w.heap.size, 0, none⟩ = some (.int .i64 a1) := mm.cell 0
    have m1 : wx.cell? ⟨w.heap.size, 1, none⟩ = some (.int .u8 a2) := mm.cell 1
    have m2 : wx.cell? ⟨w.heap.size, 2, none⟩ = some (.int .i64 a3) := mm.cell 2
    have m3 : wx.cell? ⟨w.heap.size, 3, none⟩ = some (.int .i64 a4) := mm.cell 3
    have m4 : wx.cell? ⟨w.heap.size, 4, none⟩ = some (.int .i64 a5) := mm.cell 4
    clear mm
    go_simp
    exact hK _ _ rfl ⟨rfl, Below.refl _ _⟩
  · intro wx hb
    rintro _ rfl
    intro K hK
    go_simp
    (with_reducible refine (F1.out _).mono ?_)
    rintro e wa ⟨rfl, Ba⟩
    exact hK _ _ rfl ⟨rfl, Ba⟩
  · intro wx hb
    intro K hK
    have mm := Box.below (HPB.out) hb (Box.lt (HPB.out))
    have m0 : wx.cell? ⟨(w.heap.size + 1), 0, none⟩ = some (.int .i64 b1) := mm.cell 0
    have m1 : wx.cell? ⟨(w.heap.size + 1), 1, none⟩ = some (.int .u8 b2) := mm.cell 1
    have m2 : wx.cell? ⟨(w.heap.size + 1), 2, none⟩ = some (.int .i64 b3) := mm.cell 2
    have m3 : wx.cell? ⟨(w.heap.size + 1), 3, none⟩ = some (.int .i64 b4) := mm.cell 3
    have m4 : wx.cell? ⟨(w.heap.size + 1), 4, none⟩ = some (.int .i64 b5) := mm.cell 4
    clear mm
    go_simp
    exact hK _ _ rfl ⟨rfl, Below.refl _ _⟩
  · intro wx hb
    rintro _ rfl
    intro K hK
    go_simp
    (with_reducible refine (F2.out _).mono ?_)
    rintro e wa ⟨rfl, Ba⟩
    exact hK _ _ rfl ⟨rfl, Ba⟩
  · intro wx hb
    intro K hK
    go_simp
    exact hK _ _ rfl ⟨rfl, rfl⟩
  · intro wx hb
    intro K hK
    go_simp
    exact hK _ _ rfl ⟨rfl, rfl⟩
  · intro wx hb
    intro g hg hbx
    rintro _ rfl
    intro K hK
    have c0 : wx.cell? ⟨g, 0, none⟩ = some (.int .i64 0) := hbx.cell 0
    have f0 := hbx.free 0
    have c1 : wx.cell? ⟨g, 1, none⟩ = some (.int .i64 0) := hbx.cell 1
    have f1 := hbx.free 1
    have c2 : wx.cell? ⟨g, 2, none⟩ = some (.int .i64 0) := hbx.cell 2
    have f2 := hbx.free 2
    have c3 : wx.cell? ⟨g, 3, none⟩ = some (.int .i64 0) := hbx.cell 3
    have f3 := hbx.free 3
    have c4 : wx.cell? ⟨g, 4, none⟩ = some (.int .i64 0) := hbx.cell 4
    have f4 := hbx.free 4
    clear hb
    go_simp
    exact hK _ _ rfl (((((((Stored.start hbx).set 0 _).set 1 _).set 2 _).set 3 _).set 4 _))
  · intro wx hb
    intro g hg hbx
    rintro _ rfl
    intro K hK
    have c0 : wx.cell? ⟨g, 0, none⟩ = some (.int .i64 0) := hbx.cell 0
    have f0 := hbx.free 0
    have c1 : wx.cell? ⟨g, 1, none⟩ = some (.int .i64 0) := hbx.cell 1
    have f1 := hbx.free 1
    have c2 : wx.cell? ⟨g, 2, none⟩ = some (.int .i64 0) := hbx.cell 2
    have f2 := hbx.free 2
    have c3 : wx.cell? ⟨g, 3, none⟩ = some (.int .i64 0) := hbx.cell 3
    have f3 := hbx.free 3
    have c4 : wx.cell? ⟨g, 4, none⟩ = some (.int .i64 0) := hbx.cell 4
    have f4 := hbx.free 4
    clear hb
    go_simp
    exact hK _ _ rfl (((((((Stored.start hbx).set 0 _).set 1 _).set 2 _).set 3 _).set 4 _))
  intro w1 B1
  rintro _ rfl
  rintro _ rfl
  rintro _ rfl
  rintro _ rfl
  intro gx hgx Bx
  intro gy hgy By
  rintro -
  simp only [Act.put, List.setIfInBounds_toArray, List.set_cons_zero, List.set_cons_succ, List.toList_toArray, List.length_cons, List.length_nil, List.drop_succ_cons, List.drop_zero, List.drop_nil, Nat.zero_add, wpList]
  have BW := Lib.hid (bkeep (balloc (balloc (Below.refl _ _) _) _) B1)
  clear B1
  obtain ⟨la, ha⟩ : ∃ la : List Int, la = [a1, a2, a3, a4, a5] := ⟨_, rfl⟩
  obtain ⟨lb, hb⟩ : ∃ lb : List Int, lb = [b1, b2, b3, b4, b5] := ⟨_, rfl⟩
  have CA : ∀ k, (hk : k < la.length) → w1.cell? ⟨gx, k, none⟩ = some (.int .i64 la[k]) := fun k hk => cell_at Bx (by rw [ha]; rfl) hk
  have CB : ∀ k, (hk : k < lb.length) → w1.cell? ⟨gy, k, none⟩ = some (.int .i64 lb[k]) := fun k hk => cell_at By (by rw [hb]; rfl) hk
  have LA : la.length = 5 := by rw [ha]; rfl
  have LB : lb.length = 5 := by rw [hb]; rfl
  have HR2 : Hid (R = decide (orOf (List.zipWith cmpOf la lb) < 0)) := Lib.hid (by rw [HR.out, ha, hb]; rfl)
  have HCA := Lib.hid CA; have HCB := Lib.hid CB; have HLA := Lib.hid LA; have HLB := Lib.hid LB
  have bx := Bx.lt; have by_ := By.lt
  clear ha hb CA CB LA LB Bx By HR
  go_wp2_with fail
  go_loopw [7] (fun si wr => ∃ k : Nat, si = .int .i64 (k : Int) ∧ k ≤ 5 ∧ Hid (decide (orOf ((List.zipWith cmpOf la lb).drop k) < 0) = R) ∧ Hid (Below w1.heap.size w1 wr)) (fun si _ => 5 - (intOf si).toNat)
  case atStart => exact ⟨0, rfl, by omega, Lib.hid (by rw [HR2.out, List.drop_zero]), Lib.hid (Below.refl _ _)⟩
  case round =>
    obtain ⟨k, rfl, hk, H, BR⟩ := hrel
    by_cases hlt : k < 5
    · have ka : k < la.length := by rw [HLA.out]; exact hlt
      have kb : k < lb.length := by rw [HLB.out]; exact hlt
      have ca := (BR.out.cell (p := ⟨gx, k, none⟩) bx).trans (HCA.out k ka)
      have cb := (BR.out.cell (p := ⟨gy, k, none⟩) by_).trans (HCB.out k kb)
      have k0 : (0 : Int) ≤ k := by omega
      have k1 : (k : Int) < 5 := by omega
      have gxr : gx < wr.heap.size := cell_lt ca
      have gyr : gy < wr.heap.size := cell_lt cb
      obtain ⟨x, hx⟩ : ∃ x, x = la[k] := ⟨_, rfl⟩
      obtain ⟨y, hy⟩ : ∃ y, y = lb[k] := ⟨_, rfl⟩
      rw [← hx] at ca
      rw [← hy] at cb
      by_cases hxy : x = y
      · have ne : (x != y) = false := by rw [hxy]; simp
        have H2 := Lib.hid ((congrArg (fun z => decide (z < 0)) (lex_skip ka kb (by rw [HLA.out, HLB.out]) (by rw [← hx, ← hy]; exact hxy))).symm.trans H.out)
        clear hxy hx hy H
        go_upto_region 5 with fail
        refine region_lin (.val (fun v _ => v = .int .i64 (k : Int)) :: .val (fun v _ => v = .pointer (some ⟨gx, k, none⟩)) :: .val (fun v _ => v = .int .i64 x) :: .val (fun v _ => v = .int .i64 (k : Int)) :: .val (fun v _ => v = .pointer (some ⟨gy, k, none⟩)) :: .val (fun v _ => v = .int .i64 y) :: .val (fun v _ => v = .bool false) :: [])
          ([] :: [(16, 0)] :: [(17, 1)] :: [] :: [(19, 3)] :: [(20, 4)] :: [(18, 2), (21, 5)] :: []) ((0, 0) :: (0, 0) :: (0, 0) :: (0, 0) :: (0, 0) :: (0, 0) :: (0, 0) :: []) 30 (by kernel_rfl) rfl rfl (by kernel_rfl) ⟨Stab.pure _ _ _, Stab.pure _ _ _, Stab.pure _ _ _, Stab.pure _ _ _, Stab.pure _ _ _, Stab.pure _ _ _, Stab.pure _ _ _, trivial⟩ ⟨?_, ?_, ?_, ?_, ?_, ?_, ?_, trivial⟩ ?_
        · intro wx hb
          intro K hK
          go_simp
          exact hK _ _ rfl ⟨rfl, Below.refl _ _⟩
        · intro wx hb
          rintro _ rfl
          intro K hK
          go_simp
          exact hK _ _ rfl ⟨rfl, Below.refl _ _⟩
        · intro wx hb
          rintro _ rfl
          intro K hK
          have m := (hb.cell (p := ⟨gx, k, none⟩) gxr).trans ca
          go_simp
          exact hK _ _ rfl ⟨rfl, Below.refl _ _⟩
        · intro wx hb
          intro K hK
          go_simp
          exact hK _ _ rfl ⟨rfl, Below.refl _ _⟩
        · intro wx hb
          rintro _ rfl
          intro K hK
          go_simp
          exact hK _ _ rfl ⟨rfl, Below.refl _ _⟩
        · intro wx hb
          rintro _ rfl
          intro K hK
          have m := (hb.cell (p := ⟨gy, k, none⟩) gyr).trans cb
          go_simp
          exact hK _ _ rfl ⟨rfl, Below.refl _ _⟩
        · intro wx hb
          rintro _ rfl
          rintro _ rfl
          intro K hK
          go_simp
          exact hK _ _ rfl ⟨rfl, Below.refl _ _⟩
        intro w2 B2
        rintro _ rfl
        rintro _ rfl
        rintro _ rfl
        rintro _ rfl
        rintro _ rfl
        rintro _ rfl
        rintro _ rfl
        rintro -
        simp only [Act.put, List.setIfInBounds_toArray, List.set_cons_zero, List.set_cons_succ, List.toList_toArray, List.length_cons, List.length_nil, List.drop_succ_cons, List.drop_zero, List.drop_nil, Nat.zero_add, wpList]
        have BR2 := Lib.hid (bkeep BR.out B2)
        clear B2
        go_wp2_with fail
        go_roundw
        case rel => exact ⟨k + 1, by go_num, by omega, H2, BR2⟩
        case measure => simp [intOf]; omega
      · have ne : (x != y) = true := by rw [bne_iff_ne]; exact hxy
        have H2 := Lib.hid ((lex_hit ka kb (by rw [HLA.out, HLB.out]) (by rw [← hx, ← hy]; exact hxy)).symm.trans H.out)
        rw [← hx, ← hy] at H2
        clear hxy hx hy H
        go_upto_region 5 with fail
        refine region_lin (.val (fun v _ => v = .int .i64 (k : Int)) :: .val (fun v _ => v = .pointer (some ⟨gx, k, none⟩)) :: .val (fun v _ => v = .int .i64 x) :: .val (fun v _ => v = .int .i64 (k : Int)) :: .val (fun v _ => v = .pointer (some ⟨gy, k, none⟩)) :: .val (fun v _ => v = .int .i64 y) :: .val (fun v _ => v = .bool true) :: [])
          ([] :: [(16, 0)] :: [(17, 1)] :: [] :: [(19, 3)] :: [(20, 4)] :: [(18, 2), (21, 5)] :: []) ((0, 0) :: (0, 0) :: (0, 0) :: (0, 0) :: (0, 0) :: (0, 0) :: (0, 0) :: []) 30 (by kernel_rfl) rfl rfl (by kernel_rfl) ⟨Stab.pure _ _ _, Stab.pure _ _ _, Stab.pure _ _ _, Stab.pure _ _ _, Stab.pure _ _ _, Stab.pure _ _ _, Stab.pure _ _ _, trivial⟩ ⟨?_, ?_, ?_, ?_, ?_, ?_, ?_, trivial⟩ ?_
        · intro wx hb
          intro K hK
          go_simp
          exact hK _ _ rfl ⟨rfl, Below.refl _ _⟩
        · intro wx hb
          rintro _ rfl
          intro K hK
          go_simp
          exact hK _ _ rfl ⟨rfl, Below.refl _ _⟩
        · intro wx hb
          rintro _ rfl
          intro K hK
          have m := (hb.cell (p := ⟨gx, k, none⟩) gxr).trans ca
          go_simp
          exact hK _ _ rfl ⟨rfl, Below.refl _ _⟩
        · intro wx hb
          intro K hK
          go_simp
          exact hK _ _ rfl ⟨rfl, Below.refl _ _⟩
        · intro wx hb
          rintro _ rfl
          intro K hK
          go_simp
          exact hK _ _ rfl ⟨rfl, Below.refl _ _⟩
        · intro wx hb
          rintro _ rfl
          intro K hK
          have m := (hb.cell (p := ⟨gy, k, none⟩) gyr).trans cb
          go_simp
          exact hK _ _ rfl ⟨rfl, Below.refl _ _⟩
        · intro wx hb
          rintro _ rfl
          rintro _ rfl
          intro K hK
          go_simp
          exact hK _ _ rfl ⟨rfl, Below.refl _ _⟩
        intro w2 B2
        rintro _ rfl
        rintro _ rfl
        rintro _ rfl
        rintro _ rfl
        rintro _ rfl
        rintro _ rfl
        rintro _ rfl
        rintro -
        simp only [Act.put, List.setIfInBounds_toArray, List.set_cons_zero, List.set_cons_succ, List.toList_toArray, List.length_cons, List.length_nil, List.drop_succ_cons, List.drop_zero, List.drop_nil, Nat.zero_add, wpList]
        have ca2 := (B2.cell (p := ⟨gx, k, none⟩) gxr).trans ca
        have cb2 := (B2.cell (p := ⟨gy, k, none⟩) gyr).trans cb
        have gxr2 : gx < w2.heap.size := cell_lt ca2
        have gyr2 : gy < w2.heap.size := cell_lt cb2
        have BR2 := Lib.hid (bkeep BR.out B2)
        clear B2
        go_upto_region 6 with fail
        refine region_lin (.val (fun v _ => v = .int .i64 (k : Int)) :: .val (fun v _ => v = .pointer (some ⟨gx, k, none⟩)) :: .val (fun v _ => v = .int .i64 x) :: .val (fun v _ => v = .int .i64 (k : Int)) :: .val (fun v _ => v = .pointer (some ⟨gy, k, none⟩)) :: .val (fun v _ => v = .int .i64 y) :: .val (fun v _ => v = .bool (decide (x < y))) :: .val (fun v _ => v = .bool (decide (x < y))) :: [])
          ([] :: [(23, 0)] :: [(24, 1)] :: [] :: [(26, 3)] :: [(27, 4)] :: [(25, 2), (28, 5)] :: [(29, 6)] :: []) ((0, 0) :: (0, 0) :: (0, 0) :: (0, 0) :: (0, 0) :: (0, 0) :: (0, 0) :: (0, 0) :: []) 30 (by kernel_rfl) rfl rfl (by kernel_rfl) ⟨Stab.pure _ _ _, Stab.pure _ _ _, Stab.pure _ _ _, Stab.pure _ _ _, Stab.pure _ _ _, Stab.pure _ _ _, Stab.pure _ _ _, Stab.pure _ _ _, trivial⟩ ⟨?_, ?_, ?_, ?_, ?_, ?_, ?_, ?_, trivial⟩ ?_
        · intro wx hb
          intro K hK
          go_simp
          exact hK _ _ rfl ⟨rfl, Below.refl _ _⟩
        · intro wx hb
          rintro _ rfl
          intro K hK
          go_simp
          exact hK _ _ rfl ⟨rfl, Below.refl _ _⟩
        · intro wx hb
          rintro _ rfl
          intro K hK
          have m := (hb.cell (p := ⟨gx, k, none⟩) gxr2).trans ca2
          go_simp
          exact hK _ _ rfl ⟨rfl, Below.refl _ _⟩
        · intro wx hb
          intro K hK
          go_simp
          exact hK _ _ rfl ⟨rfl, Below.refl _ _⟩
        · intro wx hb
          rintro _ rfl
          intro K hK
          go_simp
          exact hK _ _ rfl ⟨rfl, Below.refl _ _⟩
        · intro wx hb
          rintro _ rfl
          intro K hK
          have m := (hb.cell (p := ⟨gy, k, none⟩) gyr2).trans cb2
          go_simp
          exact hK _ _ rfl ⟨rfl, Below.refl _ _⟩
        · intro wx hb
          rintro _ rfl
          rintro _ rfl
          intro K hK
          go_simp
          exact hK _ _ rfl ⟨rfl, Below.refl _ _⟩
        · intro wx hb
          rintro _ rfl
          intro K hK
          go_simp
          exact hK _ _ rfl ⟨rfl, Below.refl _ _⟩
        intro w3 B3
        rintro _ rfl
        rintro _ rfl
        rintro _ rfl
        rintro _ rfl
        rintro _ rfl
        rintro _ rfl
        rintro _ rfl
        rintro _ rfl
        rintro -
        simp only [Act.put, List.setIfInBounds_toArray, List.set_cons_zero, List.set_cons_succ, List.toList_toArray, List.length_cons, List.length_nil, List.drop_succ_cons, List.drop_zero, List.drop_nil, Nat.zero_add, wpList]
        have BR3 := Lib.hid (bkeep BR2.out B3)
        clear B3
        go_wp2_with fail
        go_ret
        exact ⟨retb H2.out, bkeep BW.out BR3.out⟩
    · obtain rfl : k = 5 := by omega
      have E := Lib.hid (H.out.symm.trans (by rw [List.drop_eq_nil_of_le (by simp [HLA.out, HLB.out])]))
      clear H
      go_wp2_with fail
      go_ret
      exact ⟨retb E.out.symm, bkeep BW.out BR.out⟩
end Go.Proofs.Ytpeapjnfncfjiaa
