/- The walk of the law WeightParts. -/
import Derived.Test.YtbapmolpfdiknaaWgtPlain
import Derived.Test.YtbapmolpfdiknaaWgtJoin3
import Derived.Test.YtbapmolpfdiknaaWgtLawOf
namespace Go.Proofs.Ytbapmolpfdiknaa
set_option linter.unusedVariables false
set_option linter.unusedSimpArgs false
open Go.RowKit Go.Lib
theorem vb_append (p q : List Int) : vb (p ++ q) = vb p ++ vb q := by simp [vb]
theorem row_take {w : World} {A : Option Addr} {xs : List Value} (h : RowAt w A xs) (k : Nat) : RowAt w A (xs.take k) := fun i u hu => by
  rw [List.getElem?_take] at hu
  split at hu
  · exact h i u hu
  · cases hu
theorem row_drop {w : World} {ad : Addr} {xs : List Value} (h : RowAt w (some ad) xs) (k : Nat) : RowAt w (some (ad.add k)) (xs.drop k) := fun i u hu => by
  rw [List.getElem?_drop] at hu
  obtain ⟨a2, e, hc⟩ := h (k + i) u hu
  cases e
  exact ⟨_, rfl, by rw [add_add_]; exact hc⟩
attribute [local go_sem ↓] Go.wp_at_zero Go.wp_at_succ
set_option maxHeartbeats 4000000 in
theorem parts_in (p q : List Int) (n k c : Nat) (ad : Addr) (hl : (p ++ q).length = n) (hk : p.length = k) (kn : k ≤ n) (nc : n ≤ c) (hc : c ≤ 9223372036854775807) (hn : n ≤ 5000) (hb : U8s (p ++ q)) (w : World) (ha : RowAt w (some ad) (vb (p ++ q)))  :
    Calls Try.prog 6 #[.slice (some ad) n c, .int .i64 (k : Int)] w fun e w' => e = .returned (.bool true) ∧ Below w.heap.size w w' := by
  have hbp : U8s p := fun x hx => hb x (List.mem_append_left _ hx)
  have hbq : U8s q := fun x hx => hb x (List.mem_append_right _ hx)
  have hql : q.length = n - k := by rw [List.length_append] at hl; omega
  obtain ⟨x, hx⟩ : ∃ x, x = wOf p := ⟨_, rfl⟩
  obtain ⟨y, hy⟩ : ∃ y, y = wOf q := ⟨_, rfl⟩
  obtain ⟨z, hz⟩ : ∃ z, z = wOf (p ++ q) := ⟨_, rfl⟩
  have HP := Lib.hid (fun (c : Nat) (A : Option Addr) (w : World) (h : RowAt w A (vb p)) => wof_w p k c A hk (by omega) hbp x hx w h)
  have HQ := Lib.hid (fun (c : Nat) (A : Option Addr) (w : World) (h : RowAt w A (vb q)) => wof_w q (n - k) c A hql (by omega) hbq y hy w h)
  have HZ := Lib.hid (fun (c : Nat) (A : Option Addr) (w : World) (h : RowAt w A (vb (p ++ q))) => wof_w (p ++ q) n c A hl (by omega) hb z hz w h)
  have hj := wjoin_any x y (hx ▸ wOf_ok p (by omega)) (hy ▸ wOf_ok q (by omega))
  rw [show joinW x y = (z, 0) by rw [hx, hy, hz]; exact joinW_of p q (by omega)] at hj
  have HJ := Lib.hid hj
  have RP : RowAt w (some ad) (vb p) := by
    have := row_take ha k
    rwa [vb_append, List.take_left' (by simp [vb, hk])] at this
  have RQ : RowAt w (if c = k then some ad else some (ad.add k)) (vb q) := by
    by_cases e : c = k
    · have : q = [] := List.eq_nil_of_length_eq_zero (by omega)
      rw [this]
      exact RowAt.nil _ _
    · rw [if_neg e]
      have := row_drop ha k
      rwa [vb_append, List.drop_left' (by simp [vb, hk])] at this
  have HRP := Lib.hid RP; have HRQ := Lib.hid RQ; have HA := Lib.hid ha
  have k0 : (0 : Int) ≤ k := by omega
  have k1 : (k : Int) ≤ n := by omega
  have n5 : (n : Int) ≤ 5000 := by omega
  have nc' : (n : Int) ≤ c := by omega
  have kc' : (k : Int) ≤ c := by omega
  clear hx hy hz hj RP RQ ha hbp hbq hb hl hk hql
  go_enter Try.func6, Try.ntmps6
  go_upto_region 3 with fail
  refine region_lin (.val (fun v _ => v = .slice (some ad) n c) :: .val (fun v _ => v = .int .i64 (k : Int)) :: .val (fun v _ => v = .slice (some ad) k c) :: .val (fun v _ => v = .agg #[.int .i64 x.n, .int .i64 x.l, .int .i64 x.h, .int .i64 x.t, .int .u64 x.v, .int .u64 x.s]) :: .val (fun v _ => v = .slice (some ad) n c) :: .val (fun v _ => v = .int .i64 (k : Int)) :: .val (fun v _ => v = .slice (if c = k then some ad else some (ad.add k)) (n - k) (c - k)) :: .val (fun v _ => v = .agg #[.int .i64 y.n, .int .i64 y.l, .int .i64 y.h, .int .i64 y.t, .int .u64 y.v, .int .u64 y.s]) :: .val (fun v _ => v = .tuple #[.agg #[.int .i64 z.n, .int .i64 z.l, .int .i64 z.h, .int .i64 z.t, .int .u64 z.v, .int .u64 z.s], .nilIface]) :: .val (fun v _ => v = .tuple #[.agg #[.int .i64 z.n, .int .i64 z.l, .int .i64 z.h, .int .i64 z.t, .int .u64 z.v, .int .u64 z.s], .nilIface]) :: .val (fun v _ => v = .agg #[.int .i64 z.n, .int .i64 z.l, .int .i64 z.h, .int .i64 z.t, .int .u64 z.v, .int .u64 z.s]) :: .val (fun v _ => v = .nilIface) :: .new 26 #[.int .i64 0, .int .i64 0, .int .i64 0, .int .i64 0, .int .u64 0, .int .u64 0] #[.int .i64 z.n, .int .i64 z.l, .int .i64 z.h, .int .i64 z.t, .int .u64 z.v, .int .u64 z.s] 13 :: .put 26 #[.int .i64 0, .int .i64 0, .int .i64 0, .int .i64 0, .int .u64 0, .int .u64 0] #[.int .i64 z.n, .int .i64 z.l, .int .i64 z.h, .int .i64 z.t, .int .u64 z.v, .int .u64 z.s] 5 :: .val (fun v _ => v = .nilIface) :: [])
    ([] :: [] :: [(21, 0), (22, 1)] :: [(23, 2)] :: [] :: [] :: [(25, 4), (26, 5)] :: [(27, 6)] :: [(24, 3), (28, 7)] :: [(29, 8)] :: [(20, 9)] :: [(20, 9)] :: [] :: [(30, 10)] :: [(31, 11)] :: []) ((0, 0) :: (0, 0) :: (0, 0) :: (0, 0) :: (0, 0) :: (0, 0) :: (0, 0) :: (0, 0) :: (0, 0) :: (0, 0) :: (0, 0) :: (0, 0) :: (1, 13) :: (2, 5) :: (0, 0) :: []) 43 (by kernel_rfl) rfl rfl (by kernel_rfl) ⟨Stab.pure _ _ _, Stab.pure _ _ _, Stab.pure _ _ _, Stab.pure _ _ _, Stab.pure _ _ _, Stab.pure _ _ _, Stab.pure _ _ _, Stab.pure _ _ _, Stab.pure _ _ _, Stab.pure _ _ _, Stab.pure _ _ _, Stab.pure _ _ _, ⟨rfl, rfl, rfl⟩, Stab.pure _ _ _, trivial⟩ ⟨?_, ?_, ?_, ?_, ?_, ?_, ?_, ?_, ?_, ?_, ?_, ?_, ?_, ?_, ?_, trivial⟩ ?_
  · intro wx hb
    intro K hK
    go_simp
    exact hK _ _ rfl ⟨rfl, Below.refl _ _⟩
  · intro wx hb
    intro K hK
    go_simp
    exact hK _ _ rfl ⟨rfl, Below.refl _ _⟩
  · intro wx hb
    rintro _ rfl
    rintro _ rfl
    intro K hK
    go_wp2_with fail; exact hK _ _ rfl ⟨rfl, Below.refl _ _⟩
  · intro wx hb
    rintro _ rfl
    intro K hK
    have ra := HRP.out.below hb (Nat.le_refl _)
    go_simp
    (with_reducible refine (HP.out _ _ _ ra).mono ?_)
    rintro e wa ⟨rfl, Ba⟩
    exact hK _ _ rfl ⟨rfl, Ba⟩
  · intro wx hb
    intro K hK
    go_simp
    exact hK _ _ rfl ⟨rfl, Below.refl _ _⟩
  · intro wx hb
    intro K hK
    go_simp
    exact hK _ _ rfl ⟨rfl, Below.refl _ _⟩
  · intro wx hb
    rintro _ rfl
    rintro _ rfl
    intro K hK
    go_simp
    exact hK _ _ rfl ⟨rfl, Below.refl _ _⟩
  · intro wx hb
    rintro _ rfl
    intro K hK
    have ra := HRQ.out.below hb (Nat.le_refl _)
    go_simp
    (with_reducible refine (HQ.out _ _ _ ra).mono ?_)
    rintro e wa ⟨rfl, Ba⟩
    exact hK _ _ rfl ⟨rfl, Ba⟩
  · intro wx hb
    rintro _ rfl
    rintro _ rfl
    intro K hK
    go_simp
    (with_reducible refine (HJ.out _).mono ?_)
    rintro e wa ⟨rfl, Ba⟩
    exact hK _ _ rfl ⟨rfl, Ba⟩
  · intro wx hb
    rintro _ rfl
    intro K hK
    go_simp
    exact hK _ _ rfl ⟨rfl, Below.refl _ _⟩
  · intro wx hb
    rintro _ rfl
    intro K hK
    go_simp
    exact hK _ _ rfl ⟨rfl, Below.refl _ _⟩
  · intro wx hb
    rintro _ rfl
    intro K hK
    go_simp
    exact hK _ _ rfl ⟨rfl, Below.refl _ _⟩
  · intro wx hb
    intro K hK
    go_simp
    exact hK _ _ rfl ⟨rfl, rfl⟩
  · intro wx hb
    intro g hg hbx
    rintro _ rfl
    intro K hK
    have c0 : wx.cell? ⟨g, 0, none⟩ = some (.int .i64 0) := hbx.cell 0
    have f0 := hbx.free 0
    have c1 : wx.cell? ⟨g, 1, none⟩ = some (.int .i64 0) := hbx.cell 1
    have f1 := hbx.free 1
    have c2 : wx.cell? ⟨g, 2, none⟩ = some (.int .i64 0) := hbx.cell 2
    have f2 := hbx.free 2
    have c3 : wx.cell? ⟨g, 3, none⟩ = some (.int .i64 0) := hbx.cell 3
    have f3 := hbx.free 3
    have c4 : wx.cell? ⟨g, 4, none⟩ = some (.int .u64 0) := hbx.cell 4
    have f4 := hbx.free 4
    have c5 : wx.cell? ⟨g, 5, none⟩ = some (.int .u64 0) := hbx.cell 5
    have f5 := hbx.free 5
    clear hb
    go_simp
    exact hK _ _ rfl ((((((((Stored.start hbx).set 0 _).set 1 _).set 2 _).set 3 _).set 4 _).set 5 _))
  · intro wx hb
    rintro _ rfl
    intro K hK
    go_simp
    exact hK _ _ rfl ⟨rfl, Below.refl _ _⟩
  intro w1 B1
  rintro _ rfl
  rintro _ rfl
  rintro _ rfl
  rintro _ rfl
  rintro _ rfl
  rintro _ rfl
  rintro _ rfl
  rintro _ rfl
  rintro _ rfl
  rintro _ rfl
  rintro _ rfl
  rintro _ rfl
  intro gz hgz Bz
  rintro _ rfl
  rintro -
  simp only [Act.put, List.setIfInBounds_toArray, List.set_cons_zero, List.set_cons_succ, List.toList_toArray, List.length_cons, List.length_nil, List.drop_succ_cons, List.drop_zero, List.drop_nil, Nat.zero_add, wpList]
  have BW := bkeep (Below.refl w.heap.size w) B1
  have HA1 := Lib.hid (HA.out.below B1 (Nat.le_refl _))
  clear B1
  go_upto_region 4 with fail
  refine region_lin (.val (fun v _ => v = .bool true) :: .val (fun v _ => v = .bool true) :: .val (fun v _ => v = .nilIface) :: .val (fun v _ => v = .bool true) :: .val (fun v _ => v = .bool true) :: .val (fun v _ => v = .bool true) :: .val (fun v _ => v = .agg #[.int .i64 z.n, .int .i64 z.l, .int .i64 z.h, .int .i64 z.t, .int .u64 z.v, .int .u64 z.s]) :: .val (fun v _ => v = .slice (some ad) n c) :: .val (fun v _ => v = .agg #[.int .i64 z.n, .int .i64 z.l, .int .i64 z.h, .int .i64 z.t, .int .u64 z.v, .int .u64 z.s]) :: .val (fun v _ => v = .bool true) :: .val (fun v _ => v = .bool true) :: .val (fun v _ => v = .bool true) :: [])
    ([] :: [(32, 0)] :: [(33, 1)] :: [(34, 2), (33, 1)] :: [(33, 1), (35, 3)] :: [(36, 4)] :: [(37, 5)] :: [(37, 5)] :: [(39, 7), (37, 5)] :: [(38, 6), (40, 8), (37, 5)] :: [(37, 5), (41, 9)] :: [(42, 10)] :: []) ((0, 0) :: (0, 0) :: (0, 0) :: (0, 0) :: (0, 0) :: (0, 0) :: (0, 0) :: (0, 0) :: (0, 0) :: (0, 0) :: (0, 0) :: (0, 0) :: []) 43 (by kernel_rfl) rfl rfl (by kernel_rfl) ⟨Stab.pure _ _ _, Stab.pure _ _ _, Stab.pure _ _ _, Stab.pure _ _ _, Stab.pure _ _ _, Stab.pure _ _ _, Stab.pure _ _ _, Stab.pure _ _ _, Stab.pure _ _ _, Stab.pure _ _ _, Stab.pure _ _ _, Stab.pure _ _ _, trivial⟩ ⟨?_, ?_, ?_, ?_, ?_, ?_, ?_, ?_, ?_, ?_, ?_, ?_, trivial⟩ ?_
  · intro wx hb
    intro K hK
    go_simp
    (with_reducible refine (alive_any _).mono ?_)
    rintro e wa ⟨rfl, Ba⟩
    exact hK _ _ rfl ⟨rfl, Ba⟩
  · intro wx hb
    rintro _ rfl
    intro K hK
    go_simp
    exact hK _ _ rfl ⟨rfl, Below.refl _ _⟩
  · intro wx hb
    rintro _ rfl
    refine ⟨fun _ => ?_, fun h => absurd (show true = false from h) (by decide)⟩
    intro K hK
    go_simp
    exact hK _ _ rfl ⟨rfl, Below.refl _ _⟩
  · intro wx hb
    rintro _ rfl
    rintro _ rfl
    refine ⟨fun _ => ?_, fun h => absurd (show true = false from h) (by decide)⟩
    intro K hK
    go_simp
    exact hK _ _ rfl ⟨rfl, Below.refl _ _⟩
  · intro wx hb
    rintro _ rfl
    rintro _ rfl
    intro K hK
    go_simp
    exact hK _ _ rfl ⟨rfl, Below.refl _ _⟩
  · intro wx hb
    rintro _ rfl
    intro K hK
    go_simp
    exact hK _ _ rfl ⟨rfl, Below.refl _ _⟩
  · intro wx hb
    rintro _ rfl
    refine ⟨fun _ => ?_, fun h => absurd (show true = false from h) (by decide)⟩
    intro K hK
    have mm := Box.below (Bz) hb (Box.lt (Bz))
    have m0 : wx.cell? ⟨gz, 0, none⟩ = some (.int .i64 z.n) := mm.cell 0
    have m1 : wx.cell? ⟨gz, 1, none⟩ = some (.int .i64 z.l) := mm.cell 1
    have m2 : wx.cell? ⟨gz, 2, none⟩ = some (.int .i64 z.h) := mm.cell 2
    have m3 : wx.cell? ⟨gz, 3, none⟩ = some (.int .i64 z.t) := mm.cell 3
    have m4 : wx.cell? ⟨gz, 4, none⟩ = some (.int .u64 z.v) := mm.cell 4
    have m5 : wx.cell? ⟨gz, 5, none⟩ = some (.int .u64 z.s) := mm.cell 5
    clear mm
    go_simp
    exact hK _ _ rfl ⟨rfl, Below.refl _ _⟩
  · intro wx hb
    rintro _ rfl
    refine ⟨fun _ => ?_, fun h => absurd (show true = false from h) (by decide)⟩
    intro K hK
    go_simp
    exact hK _ _ rfl ⟨rfl, Below.refl _ _⟩
  · intro wx hb
    rintro _ rfl
    rintro _ rfl
    refine ⟨fun _ => ?_, fun h => absurd (show true = false from h) (by decide)⟩
    intro K hK
    have ra := HA1.out.below hb (Nat.le_refl _)
    go_simp
    (with_reducible refine (HZ.out _ _ _ ra).mono ?_)
    rintro e wa ⟨rfl, Ba⟩
    exact hK _ _ rfl ⟨rfl, Ba⟩
  · intro wx hb
    rintro _ rfl
    rintro _ rfl
    rintro _ rfl
    refine ⟨fun _ => ?_, fun h => absurd (show true = false from h) (by decide)⟩
    intro K hK
    go_simp
    exact hK _ _ rfl ⟨rfl, Below.refl _ _⟩
  · intro wx hb
    rintro _ rfl
    rintro _ rfl
    intro K hK
    go_simp
    exact hK _ _ rfl ⟨rfl, Below.refl _ _⟩
  · intro wx hb
    rintro _ rfl
    intro K hK
    go_simp
    exact hK _ _ rfl ⟨rfl, Below.refl _ _⟩
  intro w2 B2
  have BW := bkeep BW B2
  rintro _ rfl
  rintro _ rfl
  rintro _ rfl
  rintro _ rfl
  rintro _ rfl
  rintro _ rfl
  rintro _ rfl
  rintro _ rfl
  rintro _ rfl
  rintro _ rfl
  rintro _ rfl
  rintro _ rfl
  rintro -
  simp only [Act.put, List.setIfInBounds_toArray, List.set_cons_zero, List.set_cons_succ, List.toList_toArray, List.length_cons, List.length_nil, List.drop_succ_cons, List.drop_zero, List.drop_nil, Nat.zero_add, wpList]
  go_wp2_with fail
  all_goals
    go_ret
    exact ⟨rfl, BW⟩
set_option maxHeartbeats 4000000 in
theorem parts_nil (w : World) :
    Calls Try.prog 6 #[.slice none 0 0, .int .i64 0] w fun e w' => e = .returned (.bool true) ∧ Below w.heap.size w w' := by
  obtain ⟨x, hx⟩ : ∃ x, x = wOf [] := ⟨_, rfl⟩
  have HP := Lib.hid (fun (c : Nat) (A : Option Addr) (w : World) => wof_w [] 0 c A rfl (by omega) (by intro x hx; simp at hx) x hx w (RowAt.nil _ _))
  have hj := wjoin_any x x (hx ▸ wOf_ok [] (by decide)) (hx ▸ wOf_ok [] (by decide))
  rw [show joinW x x = (x, 0) by rw [hx]; exact joinW_of [] [] (by decide)] at hj
  have HJ := Lib.hid hj
  clear hx hj
  go_enter Try.func6, Try.ntmps6
  go_upto_region 3 with fail
  refine region_lin (.val (fun v _ => v = .slice none 0 0) :: .val (fun v _ => v = .int .i64 0) :: .val (fun v _ => v = .slice none 0 0) :: .val (fun v _ => v = .agg #[.int .i64 x.n, .int .i64 x.l, .int .i64 x.h, .int .i64 x.t, .int .u64 x.v, .int .u64 x.s]) :: .val (fun v _ => v = .slice none 0 0) :: .val (fun v _ => v = .int .i64 0) :: .val (fun v _ => v = .slice none 0 0) :: .val (fun v _ => v = .agg #[.int .i64 x.n, .int .i64 x.l, .int .i64 x.h, .int .i64 x.t, .int .u64 x.v, .int .u64 x.s]) :: .val (fun v _ => v = .tuple #[.agg #[.int .i64 x.n, .int .i64 x.l, .int .i64 x.h, .int .i64 x.t, .int .u64 x.v, .int .u64 x.s], .nilIface]) :: .val (fun v _ => v = .tuple #[.agg #[.int .i64 x.n, .int .i64 x.l, .int .i64 x.h, .int .i64 x.t, .int .u64 x.v, .int .u64 x.s], .nilIface]) :: .val (fun v _ => v = .agg #[.int .i64 x.n, .int .i64 x.l, .int .i64 x.h, .int .i64 x.t, .int .u64 x.v, .int .u64 x.s]) :: .val (fun v _ => v = .nilIface) :: .new 26 #[.int .i64 0, .int .i64 0, .int .i64 0, .int .i64 0, .int .u64 0, .int .u64 0] #[.int .i64 x.n, .int .i64 x.l, .int .i64 x.h, .int .i64 x.t, .int .u64 x.v, .int .u64 x.s] 13 :: .put 26 #[.int .i64 0, .int .i64 0, .int .i64 0, .int .i64 0, .int .u64 0, .int .u64 0] #[.int .i64 x.n, .int .i64 x.l, .int .i64 x.h, .int .i64 x.t, .int .u64 x.v, .int .u64 x.s] 5 :: .val (fun v _ => v = .nilIface) :: [])
    ([] :: [] :: [(21, 0), (22, 1)] :: [(23, 2)] :: [] :: [] :: [(25, 4), (26, 5)] :: [(27, 6)] :: [(24, 3), (28, 7)] :: [(29, 8)] :: [(20, 9)] :: [(20, 9)] :: [] :: [(30, 10)] :: [(31, 11)] :: []) ((0, 0) :: (0, 0) :: (0, 0) :: (0, 0) :: (0, 0) :: (0, 0) :: (0, 0) :: (0, 0) :: (0, 0) :: (0, 0) :: (0, 0) :: (0, 0) :: (1, 13) :: (2, 5) :: (0, 0) :: []) 43 (by kernel_rfl) rfl rfl (by kernel_rfl) ⟨Stab.pure _ _ _, Stab.pure _ _ _, Stab.pure _ _ _, Stab.pure _ _ _, Stab.pure _ _ _, Stab.pure _ _ _, Stab.pure _ _ _, Stab.pure _ _ _, Stab.pure _ _ _, Stab.pure _ _ _, Stab.pure _ _ _, Stab.pure _ _ _, ⟨rfl, rfl, rfl⟩, Stab.pure _ _ _, trivial⟩ ⟨?_, ?_, ?_, ?_, ?_, ?_, ?_, ?_, ?_, ?_, ?_, ?_, ?_, ?_, ?_, trivial⟩ ?_
  · intro wx hb
    intro K hK
    go_simp
    exact hK _ _ rfl ⟨rfl, Below.refl _ _⟩
  · intro wx hb
    intro K hK
    go_simp
    exact hK _ _ rfl ⟨rfl, Below.refl _ _⟩
  · intro wx hb
    rintro _ rfl
    rintro _ rfl
    intro K hK
    go_wp2_with fail; exact hK _ _ rfl ⟨rfl, Below.refl _ _⟩
  · intro wx hb
    rintro _ rfl
    intro K hK
    go_simp
    (with_reducible refine (HP.out _ _ _).mono ?_)
    rintro e wa ⟨rfl, Ba⟩
    exact hK _ _ rfl ⟨rfl, Ba⟩
  · intro wx hb
    intro K hK
    go_simp
    exact hK _ _ rfl ⟨rfl, Below.refl _ _⟩
  · intro wx hb
    intro K hK
    go_simp
    exact hK _ _ rfl ⟨rfl, Below.refl _ _⟩
  · intro wx hb
    rintro _ rfl
    rintro _ rfl
    intro K hK
    go_wp2_with fail; exact hK _ _ rfl ⟨rfl, Below.refl _ _⟩
  · intro wx hb
    rintro _ rfl
    intro K hK
    go_simp
    (with_reducible refine (HP.out _ _ _).mono ?_)
    rintro e wa ⟨rfl, Ba⟩
    exact hK _ _ rfl ⟨rfl, Ba⟩
  · intro wx hb
    rintro _ rfl
    rintro _ rfl
    intro K hK
    go_simp
    (with_reducible refine (HJ.out _).mono ?_)
    rintro e wa ⟨rfl, Ba⟩
    exact hK _ _ rfl ⟨rfl, Ba⟩
  · intro wx hb
    rintro _ rfl
    intro K hK
    go_simp
    exact hK _ _ rfl ⟨rfl, Below.refl _ _⟩
  · intro wx hb
    rintro _ rfl
    intro K hK
    go_simp
    exact hK _ _ rfl ⟨rfl, Below.refl _ _⟩
  · intro wx hb
    rintro _ rfl
    intro K hK
    go_simp
    exact hK _ _ rfl ⟨rfl, Below.refl _ _⟩
  · intro wx hb
    intro K hK
    go_simp
    exact hK _ _ rfl ⟨rfl, rfl⟩
  · intro wx hb
    intro g hg hbx
    rintro _ rfl
    intro K hK
    have c0 : wx.cell? ⟨g, 0, none⟩ = some (.int .i64 0) := hbx.cell 0
    have f0 := hbx.free 0
    have c1 : wx.cell? ⟨g, 1, none⟩ = some (.int .i64 0) := hbx.cell 1
    have f1 := hbx.free 1
    have c2 : wx.cell? ⟨g, 2, none⟩ = some (.int .i64 0) := hbx.cell 2
    have f2 := hbx.free 2
    have c3 : wx.cell? ⟨g, 3, none⟩ = some (.int .i64 0) := hbx.cell 3
    have f3 := hbx.free 3
    have c4 : wx.cell? ⟨g, 4, none⟩ = some (.int .u64 0) := hbx.cell 4
    have f4 := hbx.free 4
    have c5 : wx.cell? ⟨g, 5, none⟩ = some (.int .u64 0) := hbx.cell 5
    have f5 := hbx.free 5
    clear hb
    go_simp
    exact hK _ _ rfl ((((((((Stored.start hbx).set 0 _).set 1 _).set 2 _).set 3 _).set 4 _).set 5 _))
  · intro wx hb
    rintro _ rfl
    intro K hK
    go_simp
    exact hK _ _ rfl ⟨rfl, Below.refl _ _⟩
  intro w1 B1
  rintro _ rfl
  rintro _ rfl
  rintro _ rfl
  rintro _ rfl
  rintro _ rfl
  rintro _ rfl
  rintro _ rfl
  rintro _ rfl
  rintro _ rfl
  rintro _ rfl
  rintro _ rfl
  rintro _ rfl
  intro gz hgz Bz
  rintro _ rfl
  rintro -
  simp only [Act.put, List.setIfInBounds_toArray, List.set_cons_zero, List.set_cons_succ, List.toList_toArray, List.length_cons, List.length_nil, List.drop_succ_cons, List.drop_zero, List.drop_nil, Nat.zero_add, wpList]
  have BW := bkeep (Below.refl w.heap.size w) B1
  clear B1
  go_upto_region 4 with fail
  refine region_lin (.val (fun v _ => v = .bool true) :: .val (fun v _ => v = .bool true) :: .val (fun v _ => v = .nilIface) :: .val (fun v _ => v = .bool true) :: .val (fun v _ => v = .bool true) :: .val (fun v _ => v = .bool true) :: .val (fun v _ => v = .agg #[.int .i64 x.n, .int .i64 x.l, .int .i64 x.h, .int .i64 x.t, .int .u64 x.v, .int .u64 x.s]) :: .val (fun v _ => v = .slice none 0 0) :: .val (fun v _ => v = .agg #[.int .i64 x.n, .int .i64 x.l, .int .i64 x.h, .int .i64 x.t, .int .u64 x.v, .int .u64 x.s]) :: .val (fun v _ => v = .bool true) :: .val (fun v _ => v = .bool true) :: .val (fun v _ => v = .bool true) :: [])
    ([] :: [(32, 0)] :: [(33, 1)] :: [(34, 2), (33, 1)] :: [(33, 1), (35, 3)] :: [(36, 4)] :: [(37, 5)] :: [(37, 5)] :: [(39, 7), (37, 5)] :: [(38, 6), (40, 8), (37, 5)] :: [(37, 5), (41, 9)] :: [(42, 10)] :: []) ((0, 0) :: (0, 0) :: (0, 0) :: (0, 0) :: (0, 0) :: (0, 0) :: (0, 0) :: (0, 0) :: (0, 0) :: (0, 0) :: (0, 0) :: (0, 0) :: []) 43 (by kernel_rfl) rfl rfl (by kernel_rfl) ⟨Stab.pure _ _ _, Stab.pure _ _ _, Stab.pure _ _ _, Stab.pure _ _ _, Stab.pure _ _ _, Stab.pure _ _ _, Stab.pure _ _ _, Stab.pure _ _ _, Stab.pure _ _ _, Stab.pure _ _ _, Stab.pure _ _ _, Stab.pure _ _ _, trivial⟩ ⟨?_, ?_, ?_, ?_, ?_, ?_, ?_, ?_, ?_, ?_, ?_, ?_, trivial⟩ ?_
  · intro wx hb
    intro K hK
    go_simp
    (with_reducible refine (alive_any _).mono ?_)
    rintro e wa ⟨rfl, Ba⟩
    exact hK _ _ rfl ⟨rfl, Ba⟩
  · intro wx hb
    rintro _ rfl
    intro K hK
    go_simp
    exact hK _ _ rfl ⟨rfl, Below.refl _ _⟩
  · intro wx hb
    rintro _ rfl
    refine ⟨fun _ => ?_, fun h => absurd (show true = false from h) (by decide)⟩
    intro K hK
    go_simp
    exact hK _ _ rfl ⟨rfl, Below.refl _ _⟩
  · intro wx hb
    rintro _ rfl
    rintro _ rfl
    refine ⟨fun _ => ?_, fun h => absurd (show true = false from h) (by decide)⟩
    intro K hK
    go_simp
    exact hK _ _ rfl ⟨rfl, Below.refl _ _⟩
  · intro wx hb
    rintro _ rfl
    rintro _ rfl
    intro K hK
    go_simp
    exact hK _ _ rfl ⟨rfl, Below.refl _ _⟩
  · intro wx hb
    rintro _ rfl
    intro K hK
    go_simp
    exact hK _ _ rfl ⟨rfl, Below.refl _ _⟩
  · intro wx hb
    rintro _ rfl
    refine ⟨fun _ => ?_, fun h => absurd (show true = false from h) (by decide)⟩
    intro K hK
    have mm := Box.below (Bz) hb (Box.lt (Bz))
    have m0 : wx.cell? ⟨gz, 0, none⟩ = some (.int .i64 x.n) := mm.cell 0
    have m1 : wx.cell? ⟨gz, 1, none⟩ = some (.int .i64 x.l) := mm.cell 1
    have m2 : wx.cell? ⟨gz, 2, none⟩ = some (.int .i64 x.h) := mm.cell 2
    have m3 : wx.cell? ⟨gz, 3, none⟩ = some (.int .i64 x.t) := mm.cell 3
    have m4 : wx.cell? ⟨gz, 4, none⟩ = some (.int .u64 x.v) := mm.cell 4
    have m5 : wx.cell? ⟨gz, 5, none⟩ = some (.int .u64 x.s) := mm.cell 5
    clear mm
    go_simp
    exact hK _ _ rfl ⟨rfl, Below.refl _ _⟩
  · intro wx hb
    rintro _ rfl
    refine ⟨fun _ => ?_, fun h => absurd (show true = false from h) (by decide)⟩
    intro K hK
    go_simp
    exact hK _ _ rfl ⟨rfl, Below.refl _ _⟩
  · intro wx hb
    rintro _ rfl
    rintro _ rfl
    refine ⟨fun _ => ?_, fun h => absurd (show true = false from h) (by decide)⟩
    intro K hK
    go_simp
    (with_reducible refine (HP.out _ _ _).mono ?_)
    rintro e wa ⟨rfl, Ba⟩
    exact hK _ _ rfl ⟨rfl, Ba⟩
  · intro wx hb
    rintro _ rfl
    rintro _ rfl
    rintro _ rfl
    refine ⟨fun _ => ?_, fun h => absurd (show true = false from h) (by decide)⟩
    intro K hK
    go_simp
    exact hK _ _ rfl ⟨rfl, Below.refl _ _⟩
  · intro wx hb
    rintro _ rfl
    rintro _ rfl
    intro K hK
    go_simp
    exact hK _ _ rfl ⟨rfl, Below.refl _ _⟩
  · intro wx hb
    rintro _ rfl
    intro K hK
    go_simp
    exact hK _ _ rfl ⟨rfl, Below.refl _ _⟩
  intro w2 B2
  have BW := bkeep BW B2
  rintro _ rfl
  rintro _ rfl
  rintro _ rfl
  rintro _ rfl
  rintro _ rfl
  rintro _ rfl
  rintro _ rfl
  rintro _ rfl
  rintro _ rfl
  rintro _ rfl
  rintro _ rfl
  rintro _ rfl
  rintro -
  simp only [Act.put, List.setIfInBounds_toArray, List.set_cons_zero, List.set_cons_succ, List.toList_toArray, List.length_cons, List.length_nil, List.drop_succ_cons, List.drop_zero, List.drop_nil, Nat.zero_add, wpList]
  go_wp2_with fail
  go_ret
  exact ⟨rfl, BW⟩
set_option maxHeartbeats 1000000 in
theorem parts_out (n c : Nat) (A : Option Addr) (hn : n ≤ 9223372036854775807) (k : Int) (k0 : -9223372036854775808 ≤ k) (k1 : k ≤ 9223372036854775807) (h : (5000 : Int) < n ∨ k < 0 ∨ (n : Int) < k) (w : World) :
    Calls Try.prog 6 #[.slice A n c, .int .i64 k] w fun e w' => e = .returned (.bool true) ∧ Below w.heap.size w w' := by
  by_cases h1 : (5000 : Int) < n
  · clear h
    go_enter Try.func6, Try.ntmps6
    go_wp2_with fail
    go_ret
    exact ⟨rfl, Below.refl _ _⟩
  · by_cases h2 : k < 0
    · clear h
      go_enter Try.func6, Try.ntmps6
      go_wp2_with fail
      go_ret
      exact ⟨rfl, Below.refl _ _⟩
    · have h3 : (n : Int) < k := by omega
      clear h
      go_enter Try.func6, Try.ntmps6
      go_wp2_with fail
      go_ret
      exact ⟨rfl, Below.refl _ _⟩
theorem law_parts (l : List Int) (n c : Nat) (A : Option Addr) (hl : l.length = n) (hn : n ≤ 9223372036854775807) (nc : n ≤ c) (hc : c ≤ 9223372036854775807) (hA : A = none → n = 0 ∧ c = 0) (hb : U8s l) (k : Int) (k0 : -9223372036854775808 ≤ k) (k1 : k ≤ 9223372036854775807) (w : World) (ha : RowAt w A (vb l)) :
    Calls Try.prog 6 #[.slice A n c, .int .i64 k] w fun e w' => e = .returned (.bool true) ∧ Below w.heap.size w w' := by
  by_cases h : (5000 : Int) < n ∨ k < 0 ∨ (n : Int) < k
  · exact parts_out n c A hn k k0 k1 h w
  · obtain ⟨k, rfl⟩ := Int.eq_ofNat_of_zero_le (show 0 ≤ k by omega)
    cases A with
    | none =>
      obtain ⟨rfl, rfl⟩ := hA rfl
      obtain rfl : k = 0 := by omega
      exact parts_nil w
    | some ad =>
      have e := List.take_append_drop k l
      rw [← e] at hl hb ha
      exact parts_in (l.take k) (l.drop k) n k c ad hl (by rw [e] at hl; rw [List.length_take]; omega) (by omega) nc hc (by omega) hb w ha
end Go.Proofs.Ytbapmolpfdiknaa
