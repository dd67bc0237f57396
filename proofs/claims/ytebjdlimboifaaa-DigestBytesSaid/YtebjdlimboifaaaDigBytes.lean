/- The law DigestBytes. -/
import Derived.Test.YtebjdlimboifaaaDigTake2
import Derived.Test.YtebjdlimboifaaaSameBytes
import Derived.Test.YtebjdlimboifaaaDigAwake
import Derived.Test.YtebjdlimboifaaaSl
namespace Go.Proofs.Ytebjdlimboifaaa
set_option linter.unusedVariables false
set_option linter.unusedSimpArgs false
open Go.RowKit Go.Lib
attribute [local go_sem ↓] Go.wp_at_zero Go.wp_at_succ
/-- a slice that leads to a row (no new variable is made beside it) -/
def Ro (xs : List Value) (n : Nat) (v : Value) (w : World) : Prop := ∃ A c, v = .slice A n c ∧ RowAt w A xs
theorem Ro.stab {h0 : Nat} {tys : List TypeId} {xs : List Value} {n : Nat} (h : tys = []) : Stab h0 tys (Ro xs n) := by
  subst h
  rintro v w w' hg ⟨A, c, rfl, hc⟩
  refine ⟨A, c, rfl, fun k u hk => ?_⟩
  obtain ⟨ad, e1, hlt, h1⟩ := hc.get hk
  exact ⟨ad, e1, (cell_same (by rw [block_add]; exact hg.block ad.block hlt (.inr fun _ _ _ _ => by simp))).trans h1⟩
set_option maxHeartbeats 4000000 in
theorem bytes_yes (va sc x y ga gb : Int) (lp l : List Int) (n c : Nat) (A : Option Addr)
    (HP : Hid (∀ w, Calls Try.prog 24 #[.agg #[.int .u64 va, .int .u64 sc]] w fun e w' => ∃ A c, e = .returned (.slice A 16 c) ∧ RowAt w' A (vb lp) ∧ Below w.heap.size w w'))
    (HRP : Hid (∀ w, Calls Try.prog 28 #[.agg #[.int .u64 va, .int .u64 sc]] w fun e w' => ∃ A c, e = .returned (.slice A 16 c) ∧ RowAt w' A (vb lp) ∧ Below w.heap.size w w'))
    (HB : Hid (∀ c A w, RowAt w A (vb lp) → Calls Try.prog 25 #[.slice A 16 c] w fun e w' => e = .returned (.tuple #[.agg #[.int .u64 x, .int .u64 y], .nilIface]) ∧ Below w.heap.size w w'))
    (HT : Hid (∀ w, RowAt w A (vb l) → Calls Try.prog 25 #[.slice A n c] w fun e w' => e = .returned (.tuple #[.agg #[.int .u64 ga, .int .u64 gb], .nilIface]) ∧ Below w.heap.size w w'))
    (HRT : Hid (∀ w, RowAt w A (vb l) → Calls Try.prog 26 #[.slice A n c] w fun e w' => e = .returned (.tuple #[.agg #[.int .u64 ga, .int .u64 gb], .bool true]) ∧ Below w.heap.size w w'))
    (HRR : Hid (∀ w, Calls Try.prog 19 #[.agg #[.int .u64 va, .int .u64 sc]] w fun e w' => e = .returned (.agg #[.int .u64 x, .int .u64 y]) ∧ Below w.heap.size w w'))
    (HGP : Hid (∀ w, Calls Try.prog 24 #[.agg #[.int .u64 ga, .int .u64 gb]] w fun e w' => ∃ A c, e = .returned (.slice A 16 c) ∧ RowAt w' A (vb l) ∧ Below w.heap.size w w')) (HL16 : Hid (l.length = n ∧ n = 16))
    (HLP : Hid (lp.length = 16)) (w : World) (ha : RowAt w A (vb l)) :
    Calls Try.prog 10 #[.agg #[.int .u64 va, .int .u64 sc], .slice A n c] w fun e w' => e = .returned (.bool true) ∧ Below w.heap.size w w' := by
  have HA := Lib.hid ha
  have Bd := Box.new w 26 #[.int .u64 va, .int .u64 sc]
  have HW := balloc (Below.refl w.heap.size w) (.cells #[.int .u64 va, .int .u64 sc] 26)
  clear ha
  go_enter Try.func10, Try.ntmps10
  go_upto_region 1 with fail
  refine region_lin0 (.val (fun v _ => v = .bool true) :: .val (fun v _ => v = .bool false) :: [])
    ([] :: [(12, 0)] :: []) ((0, 0) :: (0, 0) :: []) 74 (by kernel_rfl) rfl rfl (by kernel_rfl) ⟨Stab.pure _ _ _, Stab.pure _ _ _, trivial⟩ ⟨?_, ?_, trivial⟩ ?_
  · intro wx hb
    intro K hK
    go_simp
    (with_reducible refine (awake_any _).mono ?_)
    rintro e wa ⟨rfl, Ba⟩
    exact hK _ _ rfl ⟨rfl, Ba⟩
  · intro wx hb
    rintro _ rfl
    intro K hK
    go_simp
    exact hK _ _ rfl ⟨rfl, Below.refl _ _⟩
  intro w1 B1
  have Bd := Box.below Bd B1 (Box.lt Bd)
  have HW := bkeep HW B1
  rintro _ rfl
  rintro _ rfl
  rintro -
  simp only [Act.put, List.setIfInBounds_toArray, List.set_cons_zero, List.set_cons_succ, List.toList_toArray, List.length_cons, List.length_nil, List.drop_succ_cons, List.drop_zero, List.drop_nil, Nat.zero_add, wpList]
  have HBd := Lib.hid Bd; have HHW := Lib.hid HW
  have d0 : w1.cell? ⟨w.heap.size, 0, none⟩ = some (.int .u64 va) := Bd.cell 0
  have d1 : w1.cell? ⟨w.heap.size, 1, none⟩ = some (.int .u64 sc) := Bd.cell 1
  clear Bd HW B1
  go_wp2_with fail
  (with_reducible refine (HP.out _).mono ?_)
  rintro e w2 ⟨Ap, cp, rfl, R2, B2⟩
  have Bd := HBd.out.below B2 HBd.out.lt
  have HW := bkeep HHW.out B2
  have HR2 := Lib.hid R2
  clear R2 B2 d0 d1 HBd HHW
  go_upto_region 4 with fail
  refine region_lin0 (.val (fun v _ => v = .slice Ap 16 cp) :: .val (fun v _ => v = .tuple #[.agg #[.int .u64 x, .int .u64 y], .nilIface]) :: .val (fun v _ => v = .tuple #[.agg #[.int .u64 x, .int .u64 y], .nilIface]) :: .val (fun v _ => v = .agg #[.int .u64 x, .int .u64 y]) :: .val (fun v _ => v = .nilIface) :: .new 26 #[.int .u64 0, .int .u64 0] #[.int .u64 x, .int .u64 y] 6 :: .put 26 #[.int .u64 0, .int .u64 0] #[.int .u64 x, .int .u64 y] 6 :: .val (fun v _ => v = .nilIface) :: [])
    ([] :: [(17, 0)] :: [(18, 1)] :: [(16, 2)] :: [(16, 2)] :: [] :: [(19, 3)] :: [(20, 4)] :: []) ((0, 0) :: (0, 0) :: (0, 0) :: (0, 0) :: (0, 0) :: (1, 6) :: (2, 6) :: (0, 0) :: []) 74 (by kernel_rfl) rfl rfl (by kernel_rfl) ⟨Stab.pure _ _ _, Stab.pure _ _ _, Stab.pure _ _ _, Stab.pure _ _ _, Stab.pure _ _ _, ⟨rfl, rfl, rfl⟩, Stab.pure _ _ _, trivial⟩ ⟨?_, ?_, ?_, ?_, ?_, ?_, ?_, ?_, trivial⟩ ?_
  · intro wx hb
    intro K hK
    go_simp
    exact hK _ _ rfl ⟨rfl, Below.refl _ _⟩
  · intro wx hb
    rintro _ rfl
    intro K hK
    have ra := HR2.out.below hb (Nat.le_refl _)
    go_simp
    (with_reducible refine (HB.out _ _ _ ra).mono ?_)
    rintro e wa ⟨rfl, Ba⟩
    exact hK _ _ rfl ⟨rfl, Ba⟩
  · intro wx hb
    rintro _ rfl
    intro K hK
    go_simp
    exact hK _ _ rfl ⟨rfl, Below.refl _ _⟩
  · intro wx hb
    rintro _ rfl
    intro K hK
    go_simp
    exact hK _ _ rfl ⟨rfl, Below.refl _ _⟩
  · intro wx hb
    rintro _ rfl
    intro K hK
    go_simp
    exact hK _ _ rfl ⟨rfl, Below.refl _ _⟩
  · intro wx hb
    intro K hK
    go_simp
    exact hK _ _ rfl ⟨rfl, rfl⟩
  · intro wx hb
    intro g hg hbx
    rintro _ rfl
    intro K hK
    have c0 : wx.cell? ⟨g, 0, none⟩ = some (.int .u64 0) := hbx.cell 0
    have f0 := hbx.free 0
    have c1 : wx.cell? ⟨g, 1, none⟩ = some (.int .u64 0) := hbx.cell 1
    have f1 := hbx.free 1
    clear hb
    go_simp
    exact hK _ _ rfl ((((Stored.start hbx).set 0 _).set 1 _))
  · intro wx hb
    rintro _ rfl
    intro K hK
    go_simp
    exact hK _ _ rfl ⟨rfl, Below.refl _ _⟩
  intro w3 B3
  have Bd := Box.below Bd B3 (Box.lt Bd)
  have HW := bkeep HW B3
  rintro _ rfl
  rintro _ rfl
  rintro _ rfl
  rintro _ rfl
  rintro _ rfl
  intro gp hgp Bp
  rintro _ rfl
  rintro -
  simp only [Act.put, List.setIfInBounds_toArray, List.set_cons_zero, List.set_cons_succ, List.toList_toArray, List.length_cons, List.length_nil, List.drop_succ_cons, List.drop_zero, List.drop_nil, Nat.zero_add, wpList]
  have HR3 := Lib.hid (HR2.out.below B3 (Nat.le_refl _))
  have HRA := Lib.hid (HA.out.below HW (Nat.le_refl _))
  clear HR2 HA B3
  go_upto_region 5 with fail
  refine region_lin0 (.val (fun v _ => v = .slice A n c) :: .val (fun v _ => v = .tuple #[.agg #[.int .u64 ga, .int .u64 gb], .bool true]) :: .val (fun v _ => v = .tuple #[.agg #[.int .u64 ga, .int .u64 gb], .bool true]) :: .val (fun v _ => v = .agg #[.int .u64 ga, .int .u64 gb]) :: .val (fun v _ => v = .bool true) :: .new 26 #[.int .u64 0, .int .u64 0] #[.int .u64 ga, .int .u64 gb] 6 :: .put 26 #[.int .u64 0, .int .u64 0] #[.int .u64 ga, .int .u64 gb] 8 :: .val (fun v _ => v = .bool true) :: [])
    ([] :: [(22, 0)] :: [(23, 1)] :: [(21, 2)] :: [(21, 2)] :: [] :: [(24, 3)] :: [(25, 4)] :: []) ((0, 0) :: (0, 0) :: (0, 0) :: (0, 0) :: (0, 0) :: (1, 6) :: (2, 8) :: (0, 0) :: []) 74 (by kernel_rfl) rfl rfl (by kernel_rfl) ⟨Stab.pure _ _ _, Stab.pure _ _ _, Stab.pure _ _ _, Stab.pure _ _ _, Stab.pure _ _ _, ⟨rfl, rfl, rfl⟩, Stab.pure _ _ _, trivial⟩ ⟨?_, ?_, ?_, ?_, ?_, ?_, ?_, ?_, trivial⟩ ?_
  · intro wx hb
    intro K hK
    go_simp
    exact hK _ _ rfl ⟨rfl, Below.refl _ _⟩
  · intro wx hb
    rintro _ rfl
    intro K hK
    have ra := HRA.out.below hb (Nat.le_refl _)
    go_simp
    (with_reducible refine (HRT.out _ ra).mono ?_)
    rintro e wa ⟨rfl, Ba⟩
    exact hK _ _ rfl ⟨rfl, Ba⟩
  · intro wx hb
    rintro _ rfl
    intro K hK
    go_simp
    exact hK _ _ rfl ⟨rfl, Below.refl _ _⟩
  · intro wx hb
    rintro _ rfl
    intro K hK
    go_simp
    exact hK _ _ rfl ⟨rfl, Below.refl _ _⟩
  · intro wx hb
    rintro _ rfl
    intro K hK
    go_simp
    exact hK _ _ rfl ⟨rfl, Below.refl _ _⟩
  · intro wx hb
    intro K hK
    go_simp
    exact hK _ _ rfl ⟨rfl, rfl⟩
  · intro wx hb
    intro g hg hbx
    rintro _ rfl
    intro K hK
    have c0 : wx.cell? ⟨g, 0, none⟩ = some (.int .u64 0) := hbx.cell 0
    have f0 := hbx.free 0
    have c1 : wx.cell? ⟨g, 1, none⟩ = some (.int .u64 0) := hbx.cell 1
    have f1 := hbx.free 1
    clear hb
    go_simp
    exact hK _ _ rfl ((((Stored.start hbx).set 0 _).set 1 _))
  · intro wx hb
    rintro _ rfl
    intro K hK
    go_simp
    exact hK _ _ rfl ⟨rfl, Below.refl _ _⟩
  intro w4 B4
  have Bd := Box.below Bd B4 (Box.lt Bd)
  have Bp := Box.below Bp B4 (Box.lt Bp)
  have HW := bkeep HW B4
  rintro _ rfl
  rintro _ rfl
  rintro _ rfl
  rintro _ rfl
  rintro _ rfl
  intro gq hgq Bq
  rintro _ rfl
  rintro -
  simp only [Act.put, List.setIfInBounds_toArray, List.set_cons_zero, List.set_cons_succ, List.toList_toArray, List.length_cons, List.length_nil, List.drop_succ_cons, List.drop_zero, List.drop_nil, Nat.zero_add, wpList]
  have HR4 := Lib.hid (HR3.out.below B4 (Nat.le_refl _))
  have HRB := Lib.hid (HRA.out.below B4 (Nat.le_refl _))
  clear HR3 HRA B4
  go_upto_region 6 with fail
  refine region_lin0 (.val (fun v _ => v = .slice A n c) :: .val (fun v _ => v = .tuple #[.agg #[.int .u64 ga, .int .u64 gb], .nilIface]) :: .val (fun v _ => v = .tuple #[.agg #[.int .u64 ga, .int .u64 gb], .nilIface]) :: .val (fun v _ => v = .agg #[.int .u64 ga, .int .u64 gb]) :: .val (fun v _ => v = .nilIface) :: .new 26 #[.int .u64 0, .int .u64 0] #[.int .u64 ga, .int .u64 gb] 6 :: .put 26 #[.int .u64 0, .int .u64 0] #[.int .u64 ga, .int .u64 gb] 10 :: .val (fun v _ => v = .nilIface) :: [])
    ([] :: [(27, 0)] :: [(28, 1)] :: [(26, 2)] :: [(26, 2)] :: [] :: [(29, 3)] :: [(30, 4)] :: []) ((0, 0) :: (0, 0) :: (0, 0) :: (0, 0) :: (0, 0) :: (1, 6) :: (2, 10) :: (0, 0) :: []) 74 (by kernel_rfl) rfl rfl (by kernel_rfl) ⟨Stab.pure _ _ _, Stab.pure _ _ _, Stab.pure _ _ _, Stab.pure _ _ _, Stab.pure _ _ _, ⟨rfl, rfl, rfl⟩, Stab.pure _ _ _, trivial⟩ ⟨?_, ?_, ?_, ?_, ?_, ?_, ?_, ?_, trivial⟩ ?_
  · intro wx hb
    intro K hK
    go_simp
    exact hK _ _ rfl ⟨rfl, Below.refl _ _⟩
  · intro wx hb
    rintro _ rfl
    intro K hK
    have ra := HRB.out.below hb (Nat.le_refl _)
    go_simp
    (with_reducible refine (HT.out _ ra).mono ?_)
    rintro e wa ⟨rfl, Ba⟩
    exact hK _ _ rfl ⟨rfl, Ba⟩
  · intro wx hb
    rintro _ rfl
    intro K hK
    go_simp
    exact hK _ _ rfl ⟨rfl, Below.refl _ _⟩
  · intro wx hb
    rintro _ rfl
    intro K hK
    go_simp
    exact hK _ _ rfl ⟨rfl, Below.refl _ _⟩
  · intro wx hb
    rintro _ rfl
    intro K hK
    go_simp
    exact hK _ _ rfl ⟨rfl, Below.refl _ _⟩
  · intro wx hb
    intro K hK
    go_simp
    exact hK _ _ rfl ⟨rfl, rfl⟩
  · intro wx hb
    intro g hg hbx
    rintro _ rfl
    intro K hK
    have c0 : wx.cell? ⟨g, 0, none⟩ = some (.int .u64 0) := hbx.cell 0
    have f0 := hbx.free 0
    have c1 : wx.cell? ⟨g, 1, none⟩ = some (.int .u64 0) := hbx.cell 1
    have f1 := hbx.free 1
    clear hb
    go_simp
    exact hK _ _ rfl ((((Stored.start hbx).set 0 _).set 1 _))
  · intro wx hb
    rintro _ rfl
    intro K hK
    go_simp
    exact hK _ _ rfl ⟨rfl, Below.refl _ _⟩
  intro w5 B5
  have Bd := Box.below Bd B5 (Box.lt Bd)
  have Bp := Box.below Bp B5 (Box.lt Bp)
  have Bq := Box.below Bq B5 (Box.lt Bq)
  have HW := bkeep HW B5
  rintro _ rfl
  rintro _ rfl
  rintro _ rfl
  rintro _ rfl
  rintro _ rfl
  intro gr hgr Br
  rintro _ rfl
  rintro -
  simp only [Act.put, List.setIfInBounds_toArray, List.set_cons_zero, List.set_cons_succ, List.toList_toArray, List.length_cons, List.length_nil, List.drop_succ_cons, List.drop_zero, List.drop_nil, Nat.zero_add, wpList]
  have HR5 := Lib.hid (HR4.out.below B5 (Nat.le_refl _))
  have HRC := Lib.hid (HRB.out.below B5 (Nat.le_refl _))
  clear HR4 HRB B5
  go_upto_region 7 with fail
  refine region_lin0 (.val (fun v _ => v = .bool true) :: .val (fun v _ => v = .bool false) :: .val (fun v _ => v = .bool false) :: .val (fun v _ => v = undef) :: .val (fun v _ => v = undef) :: .val (fun v _ => v = undef) :: .val (fun v _ => v = .bool false) :: .val (fun v _ => v = .bool false) :: .val (fun v _ => v = .bool true) :: .val (fun v _ => v = .bool true) :: .val (fun v _ => v = .nilIface) :: .val (fun v _ => v = .bool false) :: .val (fun v _ => v = .bool false) :: .val (fun v _ => v = .bool false) :: .val (fun v _ => v = .bool false) :: .val (fun v _ => v = .agg #[.int .u64 ga, .int .u64 gb]) :: .val (fun v _ => v = .agg #[.int .u64 ga, .int .u64 gb]) :: .val (fun v _ => v = .bool false) :: .val (fun v _ => v = .bool false) :: [])
    ([] :: [(31, 0)] :: [(32, 1)] :: [(33, 2)] :: [(34, 3), (33, 2)] :: [(35, 4), (33, 2)] :: [(33, 2), (36, 5)] :: [(37, 6)] :: [(38, 7)] :: [(39, 8), (38, 7)] :: [(40, 9)] :: [(41, 10), (40, 9)] :: [(40, 9), (42, 11), (38, 7)] :: [(38, 7), (43, 12)] :: [(44, 13)] :: [(45, 14)] :: [(45, 14)] :: [(46, 15), (47, 16), (45, 14)] :: [(45, 14), (48, 17)] :: []) ((0, 0) :: (0, 0) :: (0, 0) :: (0, 0) :: (0, 0) :: (0, 0) :: (0, 0) :: (0, 0) :: (0, 0) :: (0, 0) :: (0, 0) :: (0, 0) :: (0, 0) :: (0, 0) :: (0, 0) :: (0, 0) :: (0, 0) :: (0, 0) :: (0, 0) :: []) 74 (by kernel_rfl) rfl rfl (by kernel_rfl) ⟨Stab.pure _ _ _, Stab.pure _ _ _, Stab.pure _ _ _, Stab.pure _ _ _, Stab.pure _ _ _, Stab.pure _ _ _, Stab.pure _ _ _, Stab.pure _ _ _, Stab.pure _ _ _, Stab.pure _ _ _, Stab.pure _ _ _, Stab.pure _ _ _, Stab.pure _ _ _, Stab.pure _ _ _, Stab.pure _ _ _, Stab.pure _ _ _, Stab.pure _ _ _, Stab.pure _ _ _, Stab.pure _ _ _, trivial⟩ ⟨?_, ?_, ?_, ?_, ?_, ?_, ?_, ?_, ?_, ?_, ?_, ?_, ?_, ?_, ?_, ?_, ?_, ?_, ?_, trivial⟩ ?_
  · intro wx hb
    intro K hK
    go_simp
    exact hK _ _ rfl ⟨rfl, Below.refl _ _⟩
  · intro wx hb
    rintro _ rfl
    intro K hK
    go_simp
    exact hK _ _ rfl ⟨rfl, Below.refl _ _⟩
  · intro wx hb
    rintro _ rfl
    intro K hK
    go_simp
    exact hK _ _ rfl ⟨rfl, Below.refl _ _⟩
  · intro wx hb
    rintro _ rfl
    exact ⟨fun h => absurd (show false = true from h) (by decide), fun _ => ⟨rfl, Below.refl _ _⟩⟩
  · intro wx hb
    intro vq hq; have hq : vq = undef := hq; subst vq
    rintro _ rfl
    exact ⟨fun h => absurd (show false = true from h) (by decide), fun _ => ⟨rfl, Below.refl _ _⟩⟩
  · intro wx hb
    intro vq hq; have hq : vq = undef := hq; subst vq
    rintro _ rfl
    exact ⟨fun h => absurd (show false = true from h) (by decide), fun _ => ⟨rfl, Below.refl _ _⟩⟩
  · intro wx hb
    rintro _ rfl
    intro vq hq; have hq : vq = undef := hq; subst vq
    intro K hK
    go_simp
    exact hK _ _ rfl ⟨rfl, Below.refl _ _⟩
  · intro wx hb
    rintro _ rfl
    intro K hK
    go_simp
    exact hK _ _ rfl ⟨rfl, Below.refl _ _⟩
  · intro wx hb
    rintro _ rfl
    refine ⟨fun _ => ?_, fun h => absurd (show true = false from h) (by decide)⟩
    intro K hK
    go_simp
    exact hK _ _ rfl ⟨rfl, Below.refl _ _⟩
  · intro wx hb
    rintro _ rfl
    rintro _ rfl
    refine ⟨fun _ => ?_, fun h => absurd (show true = false from h) (by decide)⟩
    intro K hK
    go_simp
    exact hK _ _ rfl ⟨rfl, Below.refl _ _⟩
  · intro wx hb
    rintro _ rfl
    refine ⟨fun _ => ?_, fun h => absurd (show true = false from h) (by decide)⟩
    intro K hK
    go_simp
    exact hK _ _ rfl ⟨rfl, Below.refl _ _⟩
  · intro wx hb
    rintro _ rfl
    rintro _ rfl
    refine ⟨fun _ => ?_, fun h => absurd (show true = false from h) (by decide)⟩
    intro K hK
    go_simp
    exact hK _ _ rfl ⟨rfl, Below.refl _ _⟩
  · intro wx hb
    rintro _ rfl
    rintro _ rfl
    rintro _ rfl
    refine ⟨fun _ => ?_, fun h => absurd (show true = false from h) (by decide)⟩
    intro K hK
    go_simp
    exact hK _ _ rfl ⟨rfl, Below.refl _ _⟩
  · intro wx hb
    rintro _ rfl
    rintro _ rfl
    intro K hK
    go_simp
    exact hK _ _ rfl ⟨rfl, Below.refl _ _⟩
  · intro wx hb
    rintro _ rfl
    intro K hK
    go_simp
    exact hK _ _ rfl ⟨rfl, Below.refl _ _⟩
  · intro wx hb
    rintro _ rfl
    refine ⟨fun _ => ?_, fun h => absurd (show true = false from h) (by decide)⟩
    intro K hK
    exact wp_load_row 26 (.tmp 10) rfl gr rfl 26 _ (0, 0) _ (Box.below (Br) hb (Box.lt (Br))) Try.underlying26 rfl (by kernel_rfl) (hK _ _ rfl ⟨rfl, Below.refl _ _⟩)
  · intro wx hb
    rintro _ rfl
    refine ⟨fun _ => ?_, fun h => absurd (show true = false from h) (by decide)⟩
    intro K hK
    exact wp_load_row 26 (.tmp 8) rfl gq rfl 26 _ (0, 0) _ (Box.below (Bq) hb (Box.lt (Bq))) Try.underlying26 rfl (by kernel_rfl) (hK _ _ rfl ⟨rfl, Below.refl _ _⟩)
  · intro wx hb
    rintro _ rfl
    rintro _ rfl
    rintro _ rfl
    refine ⟨fun _ => ?_, fun h => absurd (show true = false from h) (by decide)⟩
    intro K hK
    go_simp
    exact hK _ _ rfl ⟨rfl, Below.refl _ _⟩
  · intro wx hb
    rintro _ rfl
    rintro _ rfl
    intro K hK
    go_simp
    exact hK _ _ rfl ⟨rfl, Below.refl _ _⟩
  intro w6 B6
  have Bd := Box.below Bd B6 (Box.lt Bd)
  have Bp := Box.below Bp B6 (Box.lt Bp)
  have Bq := Box.below Bq B6 (Box.lt Bq)
  have Br := Box.below Br B6 (Box.lt Br)
  have HW := bkeep HW B6
  rintro _ rfl
  rintro _ rfl
  rintro _ rfl
  intro vq hq; have hq : vq = undef := hq; subst vq
  intro vq hq; have hq : vq = undef := hq; subst vq
  intro vq hq; have hq : vq = undef := hq; subst vq
  rintro _ rfl
  rintro _ rfl
  rintro _ rfl
  rintro _ rfl
  rintro _ rfl
  rintro _ rfl
  rintro _ rfl
  rintro _ rfl
  rintro _ rfl
  rintro _ rfl
  rintro _ rfl
  rintro _ rfl
  rintro _ rfl
  rintro -
  simp only [Act.put, List.setIfInBounds_toArray, List.set_cons_zero, List.set_cons_succ, List.toList_toArray, List.length_cons, List.length_nil, List.drop_succ_cons, List.drop_zero, List.drop_nil, Nat.zero_add, wpList]
  have HR6 := Lib.hid (HR5.out.below B6 (Nat.le_refl _))
  have HRD := Lib.hid (HRC.out.below B6 (Nat.le_refl _))
  clear HR5 HRC B6
  go_upto_region 9 with fail
  refine region_lin (.val (fun v _ => v = .slice Ap 16 cp) :: .val (fun v _ => v = .agg #[.int .u64 va, .int .u64 sc]) :: .val (Ro (vb lp) 16) :: .val (fun v _ => v = .bool true) :: .val (fun v _ => v = .bool true) :: .val (fun v _ => v = .nilIface) :: .val (fun v _ => v = .bool true) :: .val (fun v _ => v = .bool true) :: .val (fun v _ => v = .bool true) :: .val (fun v _ => v = .agg #[.int .u64 x, .int .u64 y]) :: .val (fun v _ => v = .agg #[.int .u64 va, .int .u64 sc]) :: .val (fun v _ => v = .agg #[.int .u64 x, .int .u64 y]) :: .val (fun v _ => v = .bool true) :: .val (fun v _ => v = .bool true) :: .val (fun v _ => v = .bool true) :: .val (fun v _ => v = .bool true) :: .val (fun v _ => v = .bool false) :: .val (fun v _ => v = .bool false) :: .val (fun v _ => v = .agg #[.int .u64 ga, .int .u64 gb]) :: .val (Ro (vb l) 16) :: .val (fun v _ => v = .slice A n c) :: .val (fun v _ => v = .bool true) :: .val (fun v _ => v = .bool true) :: .val (fun v _ => v = .bool true) :: .val (fun v _ => v = .bool true) :: [])
    ([] :: [] :: [(51, 1)] :: [(50, 0), (52, 2)] :: [(53, 3)] :: [(54, 4)] :: [(55, 5), (54, 4)] :: [(54, 4), (56, 6)] :: [(57, 7)] :: [(58, 8)] :: [(58, 8)] :: [(60, 10), (58, 8)] :: [(59, 9), (61, 11), (58, 8)] :: [(58, 8), (62, 12)] :: [(63, 13)] :: [(64, 14)] :: [(65, 15), (64, 14)] :: [(66, 16), (64, 14)] :: [(67, 17)] :: [(68, 18), (67, 17)] :: [(67, 17)] :: [(69, 19), (70, 20), (67, 17)] :: [(67, 17), (71, 21), (64, 14)] :: [(64, 14), (72, 22)] :: [(73, 23)] :: []) ((0, 0) :: (0, 0) :: (0, 0) :: (0, 0) :: (0, 0) :: (0, 0) :: (0, 0) :: (0, 0) :: (0, 0) :: (0, 0) :: (0, 0) :: (0, 0) :: (0, 0) :: (0, 0) :: (0, 0) :: (0, 0) :: (0, 0) :: (0, 0) :: (0, 0) :: (0, 0) :: (0, 0) :: (0, 0) :: (0, 0) :: (0, 0) :: (0, 0) :: []) 74 (by kernel_rfl) rfl rfl (by kernel_rfl) ⟨Stab.pure _ _ _, Stab.pure _ _ _, (Ro.stab rfl), Stab.pure _ _ _, Stab.pure _ _ _, Stab.pure _ _ _, Stab.pure _ _ _, Stab.pure _ _ _, Stab.pure _ _ _, Stab.pure _ _ _, Stab.pure _ _ _, Stab.pure _ _ _, Stab.pure _ _ _, Stab.pure _ _ _, Stab.pure _ _ _, Stab.pure _ _ _, Stab.pure _ _ _, Stab.pure _ _ _, Stab.pure _ _ _, (Ro.stab rfl), Stab.pure _ _ _, Stab.pure _ _ _, Stab.pure _ _ _, Stab.pure _ _ _, Stab.pure _ _ _, trivial⟩ ⟨?_, ?_, ?_, ?_, ?_, ?_, ?_, ?_, ?_, ?_, ?_, ?_, ?_, ?_, ?_, ?_, ?_, ?_, ?_, ?_, ?_, ?_, ?_, ?_, ?_, trivial⟩ ?_
  · intro wx hb
    intro K hK
    go_simp
    exact hK _ _ rfl ⟨rfl, Below.refl _ _⟩
  · intro wx hb
    intro K hK
    exact wp_load_row 26 (.tmp 2) rfl w.heap.size rfl 26 _ (0, 0) _ (Box.below (Bd) hb (Box.lt (Bd))) Try.underlying26 rfl (by kernel_rfl) (hK _ _ rfl ⟨rfl, Below.refl _ _⟩)
  · intro wx hb
    rintro _ rfl
    intro K hK
    go_simp; (with_reducible refine (HRP.out _).mono ?_); rintro e wa ⟨A9, c9, rfl, R9, B9⟩; exact hK _ _ rfl ⟨⟨A9, c9, rfl, R9⟩, B9⟩
  · intro wx hb
    rintro _ rfl
    intro v52 h52
    intro K hK
    have ra := HR6.out.below hb (Nat.le_refl _); obtain ⟨A9, c9, rfl, R9⟩ := h52
    go_simp
    (with_reducible refine (bytes_same lp 16 _ _ _ _ HLP.out _ ra R9).mono ?_)
    rintro e wa ⟨rfl, rfl⟩
    exact hK _ _ rfl ⟨rfl, Below.refl _ _⟩
  · intro wx hb
    rintro _ rfl
    intro K hK
    go_simp
    exact hK _ _ rfl ⟨rfl, Below.refl _ _⟩
  · intro wx hb
    rintro _ rfl
    refine ⟨fun _ => ?_, fun h => absurd (show true = false from h) (by decide)⟩
    intro K hK
    go_simp
    exact hK _ _ rfl ⟨rfl, Below.refl _ _⟩
  · intro wx hb
    rintro _ rfl
    rintro _ rfl
    refine ⟨fun _ => ?_, fun h => absurd (show true = false from h) (by decide)⟩
    intro K hK
    go_simp
    exact hK _ _ rfl ⟨rfl, Below.refl _ _⟩
  · intro wx hb
    rintro _ rfl
    rintro _ rfl
    intro K hK
    go_simp
    exact hK _ _ rfl ⟨rfl, Below.refl _ _⟩
  · intro wx hb
    rintro _ rfl
    intro K hK
    go_simp
    exact hK _ _ rfl ⟨rfl, Below.refl _ _⟩
  · intro wx hb
    rintro _ rfl
    refine ⟨fun _ => ?_, fun h => absurd (show true = false from h) (by decide)⟩
    intro K hK
    exact wp_load_row 26 (.tmp 6) rfl gp rfl 26 _ (0, 0) _ (Box.below (Bp) hb (Box.lt (Bp))) Try.underlying26 rfl (by kernel_rfl) (hK _ _ rfl ⟨rfl, Below.refl _ _⟩)
  · intro wx hb
    rintro _ rfl
    refine ⟨fun _ => ?_, fun h => absurd (show true = false from h) (by decide)⟩
    intro K hK
    exact wp_load_row 26 (.tmp 2) rfl w.heap.size rfl 26 _ (0, 0) _ (Box.below (Bd) hb (Box.lt (Bd))) Try.underlying26 rfl (by kernel_rfl) (hK _ _ rfl ⟨rfl, Below.refl _ _⟩)
  · intro wx hb
    rintro _ rfl
    rintro _ rfl
    refine ⟨fun _ => ?_, fun h => absurd (show true = false from h) (by decide)⟩
    intro K hK
    go_simp
    (with_reducible refine (HRR.out _).mono ?_)
    rintro e wa ⟨rfl, Ba⟩
    exact hK _ _ rfl ⟨rfl, Ba⟩
  · intro wx hb
    rintro _ rfl
    rintro _ rfl
    rintro _ rfl
    refine ⟨fun _ => ?_, fun h => absurd (show true = false from h) (by decide)⟩
    intro K hK
    go_simp
    exact hK _ _ rfl ⟨rfl, Below.refl _ _⟩
  · intro wx hb
    rintro _ rfl
    rintro _ rfl
    intro K hK
    go_simp
    exact hK _ _ rfl ⟨rfl, Below.refl _ _⟩
  · intro wx hb
    rintro _ rfl
    intro K hK
    go_simp
    exact hK _ _ rfl ⟨rfl, Below.refl _ _⟩
  · intro wx hb
    rintro _ rfl
    refine ⟨fun _ => ?_, fun h => absurd (show true = false from h) (by decide)⟩
    intro K hK
    go_simp
    exact hK _ _ rfl ⟨rfl, Below.refl _ _⟩
  · intro wx hb
    rintro _ rfl
    rintro _ rfl
    refine ⟨fun _ => ?_, fun h => absurd (show true = false from h) (by decide)⟩
    intro K hK
    go_simp
    exact hK _ _ rfl ⟨rfl, Below.refl _ _⟩
  · intro wx hb
    rintro _ rfl
    rintro _ rfl
    refine ⟨fun _ => ?_, fun h => absurd (show true = false from h) (by decide)⟩
    intro K hK
    go_simp
    exact hK _ _ rfl ⟨rfl, Below.refl _ _⟩
  · intro wx hb
    rintro _ rfl
    refine ⟨fun _ => ?_, fun h => absurd (show true = false from h) (by decide)⟩
    intro K hK
    exact wp_load_row 26 (.tmp 10) rfl gr rfl 26 _ (0, 0) _ (Box.below (Br) hb (Box.lt (Br))) Try.underlying26 rfl (by kernel_rfl) (hK _ _ rfl ⟨rfl, Below.refl _ _⟩)
  · intro wx hb
    rintro _ rfl
    rintro _ rfl
    refine ⟨fun _ => ?_, fun h => absurd (show true = false from h) (by decide)⟩
    intro K hK
    go_simp; (with_reducible refine (HGP.out _).mono ?_); rintro e wa ⟨A9, c9, rfl, R9, B9⟩; exact hK _ _ rfl ⟨⟨A9, c9, rfl, R9⟩, B9⟩
  · intro wx hb
    rintro _ rfl
    refine ⟨fun _ => ?_, fun h => absurd (show true = false from h) (by decide)⟩
    intro K hK
    go_simp
    exact hK _ _ rfl ⟨rfl, Below.refl _ _⟩
  · intro wx hb
    intro v69 h69
    rintro _ rfl
    rintro _ rfl
    refine ⟨fun _ => ?_, fun h => absurd (show true = false from h) (by decide)⟩
    intro K hK
    have ra := HRD.out.below hb (Nat.le_refl _); obtain ⟨A9, c9, rfl, R9⟩ := h69; obtain ⟨hl1, rfl⟩ := HL16.out; go_simp; (with_reducible refine (bytes_same l 16 _ _ _ _ hl1 _ R9 ra).mono ?_); rintro e wa ⟨rfl, rfl⟩; exact hK _ _ rfl ⟨rfl, Below.refl _ _⟩
  · intro wx hb
    rintro _ rfl
    rintro _ rfl
    rintro _ rfl
    refine ⟨fun _ => ?_, fun h => absurd (show true = false from h) (by decide)⟩
    intro K hK
    go_simp
    exact hK _ _ rfl ⟨rfl, Below.refl _ _⟩
  · intro wx hb
    rintro _ rfl
    rintro _ rfl
    intro K hK
    go_simp
    exact hK _ _ rfl ⟨rfl, Below.refl _ _⟩
  · intro wx hb
    rintro _ rfl
    intro K hK
    go_simp
    exact hK _ _ rfl ⟨rfl, Below.refl _ _⟩
  intro w7 B7
  have HW := bkeep HW B7
  rintro _ rfl
  rintro _ rfl
  intro v52 h52
  rintro _ rfl
  rintro _ rfl
  rintro _ rfl
  rintro _ rfl
  rintro _ rfl
  rintro _ rfl
  rintro _ rfl
  rintro _ rfl
  rintro _ rfl
  rintro _ rfl
  rintro _ rfl
  rintro _ rfl
  rintro _ rfl
  rintro _ rfl
  rintro _ rfl
  rintro _ rfl
  intro v69 h69
  rintro _ rfl
  rintro _ rfl
  rintro _ rfl
  rintro _ rfl
  rintro _ rfl
  rintro -
  simp only [Act.put, List.setIfInBounds_toArray, List.set_cons_zero, List.set_cons_succ, List.toList_toArray, List.length_cons, List.length_nil, List.drop_succ_cons, List.drop_zero, List.drop_nil, Nat.zero_add, wpList]
  go_wp2_with fail
  go_ret
  exact ⟨rfl, HW⟩
set_option maxHeartbeats 4000000 in
theorem bytes_no (va sc x y ga gb : Int) (lp l : List Int) (n c : Nat) (A : Option Addr)
    (HP : Hid (∀ w, Calls Try.prog 24 #[.agg #[.int .u64 va, .int .u64 sc]] w fun e w' => ∃ A c, e = .returned (.slice A 16 c) ∧ RowAt w' A (vb lp) ∧ Below w.heap.size w w'))
    (HRP : Hid (∀ w, Calls Try.prog 28 #[.agg #[.int .u64 va, .int .u64 sc]] w fun e w' => ∃ A c, e = .returned (.slice A 16 c) ∧ RowAt w' A (vb lp) ∧ Below w.heap.size w w'))
    (HB : Hid (∀ c A w, RowAt w A (vb lp) → Calls Try.prog 25 #[.slice A 16 c] w fun e w' => e = .returned (.tuple #[.agg #[.int .u64 x, .int .u64 y], .nilIface]) ∧ Below w.heap.size w w'))
    (HT : Hid (∀ w, RowAt w A (vb l) → Calls Try.prog 25 #[.slice A n c] w fun e w' => e = .returned (.tuple #[.agg #[.int .u64 ga, .int .u64 gb], .iface 48 (.int .i64 4)]) ∧ Below w.heap.size w w'))
    (HRT : Hid (∀ w, RowAt w A (vb l) → Calls Try.prog 26 #[.slice A n c] w fun e w' => e = .returned (.tuple #[.agg #[.int .u64 ga, .int .u64 gb], .bool false]) ∧ Below w.heap.size w w'))
    (HRR : Hid (∀ w, Calls Try.prog 19 #[.agg #[.int .u64 va, .int .u64 sc]] w fun e w' => e = .returned (.agg #[.int .u64 x, .int .u64 y]) ∧ Below w.heap.size w w'))
    (HLP : Hid (lp.length = 16)) (w : World) (ha : RowAt w A (vb l)) :
    Calls Try.prog 10 #[.agg #[.int .u64 va, .int .u64 sc], .slice A n c] w fun e w' => e = .returned (.bool true) ∧ Below w.heap.size w w' := by
  have HA := Lib.hid ha
  have Bd := Box.new w 26 #[.int .u64 va, .int .u64 sc]
  have HW := balloc (Below.refl w.heap.size w) (.cells #[.int .u64 va, .int .u64 sc] 26)
  clear ha
  go_enter Try.func10, Try.ntmps10
  go_upto_region 1 with fail
  refine region_lin0 (.val (fun v _ => v = .bool true) :: .val (fun v _ => v = .bool false) :: [])
    ([] :: [(12, 0)] :: []) ((0, 0) :: (0, 0) :: []) 74 (by kernel_rfl) rfl rfl (by kernel_rfl) ⟨Stab.pure _ _ _, Stab.pure _ _ _, trivial⟩ ⟨?_, ?_, trivial⟩ ?_
  · intro wx hb
    intro K hK
    go_simp
    (with_reducible refine (awake_any _).mono ?_)
    rintro e wa ⟨rfl, Ba⟩
    exact hK _ _ rfl ⟨rfl, Ba⟩
  · intro wx hb
    rintro _ rfl
    intro K hK
    go_simp
    exact hK _ _ rfl ⟨rfl, Below.refl _ _⟩
  intro w1 B1
  have Bd := Box.below Bd B1 (Box.lt Bd)
  have HW := bkeep HW B1
  rintro _ rfl
  rintro _ rfl
  rintro -
  simp only [Act.put, List.setIfInBounds_toArray, List.set_cons_zero, List.set_cons_succ, List.toList_toArray, List.length_cons, List.length_nil, List.drop_succ_cons, List.drop_zero, List.drop_nil, Nat.zero_add, wpList]
  have HBd := Lib.hid Bd; have HHW := Lib.hid HW
  have d0 : w1.cell? ⟨w.heap.size, 0, none⟩ = some (.int .u64 va) := Bd.cell 0
  have d1 : w1.cell? ⟨w.heap.size, 1, none⟩ = some (.int .u64 sc) := Bd.cell 1
  clear Bd HW B1
  go_wp2_with fail
  (with_reducible refine (HP.out _).mono ?_)
  rintro e w2 ⟨Ap, cp, rfl, R2, B2⟩
  have Bd := HBd.out.below B2 HBd.out.lt
  have HW := bkeep HHW.out B2
  have HR2 := Lib.hid R2
  clear R2 B2 d0 d1 HBd HHW
  go_upto_region 4 with fail
  refine region_lin0 (.val (fun v _ => v = .slice Ap 16 cp) :: .val (fun v _ => v = .tuple #[.agg #[.int .u64 x, .int .u64 y], .nilIface]) :: .val (fun v _ => v = .tuple #[.agg #[.int .u64 x, .int .u64 y], .nilIface]) :: .val (fun v _ => v = .agg #[.int .u64 x, .int .u64 y]) :: .val (fun v _ => v = .nilIface) :: .new 26 #[.int .u64 0, .int .u64 0] #[.int .u64 x, .int .u64 y] 6 :: .put 26 #[.int .u64 0, .int .u64 0] #[.int .u64 x, .int .u64 y] 6 :: .val (fun v _ => v = .nilIface) :: [])
    ([] :: [(17, 0)] :: [(18, 1)] :: [(16, 2)] :: [(16, 2)] :: [] :: [(19, 3)] :: [(20, 4)] :: []) ((0, 0) :: (0, 0) :: (0, 0) :: (0, 0) :: (0, 0) :: (1, 6) :: (2, 6) :: (0, 0) :: []) 74 (by kernel_rfl) rfl rfl (by kernel_rfl) ⟨Stab.pure _ _ _, Stab.pure _ _ _, Stab.pure _ _ _, Stab.pure _ _ _, Stab.pure _ _ _, ⟨rfl, rfl, rfl⟩, Stab.pure _ _ _, trivial⟩ ⟨?_, ?_, ?_, ?_, ?_, ?_, ?_, ?_, trivial⟩ ?_
  · intro wx hb
    intro K hK
    go_simp
    exact hK _ _ rfl ⟨rfl, Below.refl _ _⟩
  · intro wx hb
    rintro _ rfl
    intro K hK
    have ra := HR2.out.below hb (Nat.le_refl _)
    go_simp
    (with_reducible refine (HB.out _ _ _ ra).mono ?_)
    rintro e wa ⟨rfl, Ba⟩
    exact hK _ _ rfl ⟨rfl, Ba⟩
  · intro wx hb
    rintro _ rfl
    intro K hK
    go_simp
    exact hK _ _ rfl ⟨rfl, Below.refl _ _⟩
  · intro wx hb
    rintro _ rfl
    intro K hK
    go_simp
    exact hK _ _ rfl ⟨rfl, Below.refl _ _⟩
  · intro wx hb
    rintro _ rfl
    intro K hK
    go_simp
    exact hK _ _ rfl ⟨rfl, Below.refl _ _⟩
  · intro wx hb
    intro K hK
    go_simp
    exact hK _ _ rfl ⟨rfl, rfl⟩
  · intro wx hb
    intro g hg hbx
    rintro _ rfl
    intro K hK
    have c0 : wx.cell? ⟨g, 0, none⟩ = some (.int .u64 0) := hbx.cell 0
    have f0 := hbx.free 0
    have c1 : wx.cell? ⟨g, 1, none⟩ = some (.int .u64 0) := hbx.cell 1
    have f1 := hbx.free 1
    clear hb
    go_simp
    exact hK _ _ rfl ((((Stored.start hbx).set 0 _).set 1 _))
  · intro wx hb
    rintro _ rfl
    intro K hK
    go_simp
    exact hK _ _ rfl ⟨rfl, Below.refl _ _⟩
  intro w3 B3
  have Bd := Box.below Bd B3 (Box.lt Bd)
  have HW := bkeep HW B3
  rintro _ rfl
  rintro _ rfl
  rintro _ rfl
  rintro _ rfl
  rintro _ rfl
  intro gp hgp Bp
  rintro _ rfl
  rintro -
  simp only [Act.put, List.setIfInBounds_toArray, List.set_cons_zero, List.set_cons_succ, List.toList_toArray, List.length_cons, List.length_nil, List.drop_succ_cons, List.drop_zero, List.drop_nil, Nat.zero_add, wpList]
  have HR3 := Lib.hid (HR2.out.below B3 (Nat.le_refl _))
  have HRA := Lib.hid (HA.out.below HW (Nat.le_refl _))
  clear HR2 HA B3
  go_upto_region 5 with fail
  refine region_lin0 (.val (fun v _ => v = .slice A n c) :: .val (fun v _ => v = .tuple #[.agg #[.int .u64 ga, .int .u64 gb], .bool false]) :: .val (fun v _ => v = .tuple #[.agg #[.int .u64 ga, .int .u64 gb], .bool false]) :: .val (fun v _ => v = .agg #[.int .u64 ga, .int .u64 gb]) :: .val (fun v _ => v = .bool false) :: .new 26 #[.int .u64 0, .int .u64 0] #[.int .u64 ga, .int .u64 gb] 6 :: .put 26 #[.int .u64 0, .int .u64 0] #[.int .u64 ga, .int .u64 gb] 8 :: .val (fun v _ => v = .bool false) :: [])
    ([] :: [(22, 0)] :: [(23, 1)] :: [(21, 2)] :: [(21, 2)] :: [] :: [(24, 3)] :: [(25, 4)] :: []) ((0, 0) :: (0, 0) :: (0, 0) :: (0, 0) :: (0, 0) :: (1, 6) :: (2, 8) :: (0, 0) :: []) 74 (by kernel_rfl) rfl rfl (by kernel_rfl) ⟨Stab.pure _ _ _, Stab.pure _ _ _, Stab.pure _ _ _, Stab.pure _ _ _, Stab.pure _ _ _, ⟨rfl, rfl, rfl⟩, Stab.pure _ _ _, trivial⟩ ⟨?_, ?_, ?_, ?_, ?_, ?_, ?_, ?_, trivial⟩ ?_
  · intro wx hb
    intro K hK
    go_simp
    exact hK _ _ rfl ⟨rfl, Below.refl _ _⟩
  · intro wx hb
    rintro _ rfl
    intro K hK
    have ra := HRA.out.below hb (Nat.le_refl _)
    go_simp
    (with_reducible refine (HRT.out _ ra).mono ?_)
    rintro e wa ⟨rfl, Ba⟩
    exact hK _ _ rfl ⟨rfl, Ba⟩
  · intro wx hb
    rintro _ rfl
    intro K hK
    go_simp
    exact hK _ _ rfl ⟨rfl, Below.refl _ _⟩
  · intro wx hb
    rintro _ rfl
    intro K hK
    go_simp
    exact hK _ _ rfl ⟨rfl, Below.refl _ _⟩
  · intro wx hb
    rintro _ rfl
    intro K hK
    go_simp
    exact hK _ _ rfl ⟨rfl, Below.refl _ _⟩
  · intro wx hb
    intro K hK
    go_simp
    exact hK _ _ rfl ⟨rfl, rfl⟩
  · intro wx hb
    intro g hg hbx
    rintro _ rfl
    intro K hK
    have c0 : wx.cell? ⟨g, 0, none⟩ = some (.int .u64 0) := hbx.cell 0
    have f0 := hbx.free 0
    have c1 : wx.cell? ⟨g, 1, none⟩ = some (.int .u64 0) := hbx.cell 1
    have f1 := hbx.free 1
    clear hb
    go_simp
    exact hK _ _ rfl ((((Stored.start hbx).set 0 _).set 1 _))
  · intro wx hb
    rintro _ rfl
    intro K hK
    go_simp
    exact hK _ _ rfl ⟨rfl, Below.refl _ _⟩
  intro w4 B4
  have Bd := Box.below Bd B4 (Box.lt Bd)
  have Bp := Box.below Bp B4 (Box.lt Bp)
  have HW := bkeep HW B4
  rintro _ rfl
  rintro _ rfl
  rintro _ rfl
  rintro _ rfl
  rintro _ rfl
  intro gq hgq Bq
  rintro _ rfl
  rintro -
  simp only [Act.put, List.setIfInBounds_toArray, List.set_cons_zero, List.set_cons_succ, List.toList_toArray, List.length_cons, List.length_nil, List.drop_succ_cons, List.drop_zero, List.drop_nil, Nat.zero_add, wpList]
  have HR4 := Lib.hid (HR3.out.below B4 (Nat.le_refl _))
  have HRB := Lib.hid (HRA.out.below B4 (Nat.le_refl _))
  clear HR3 HRA B4
  go_upto_region 6 with fail
  refine region_lin0 (.val (fun v _ => v = .slice A n c) :: .val (fun v _ => v = .tuple #[.agg #[.int .u64 ga, .int .u64 gb], .iface 48 (.int .i64 4)]) :: .val (fun v _ => v = .tuple #[.agg #[.int .u64 ga, .int .u64 gb], .iface 48 (.int .i64 4)]) :: .val (fun v _ => v = .agg #[.int .u64 ga, .int .u64 gb]) :: .val (fun v _ => v = .iface 48 (.int .i64 4)) :: .new 26 #[.int .u64 0, .int .u64 0] #[.int .u64 ga, .int .u64 gb] 6 :: .put 26 #[.int .u64 0, .int .u64 0] #[.int .u64 ga, .int .u64 gb] 10 :: .val (fun v _ => v = .iface 48 (.int .i64 4)) :: [])
    ([] :: [(27, 0)] :: [(28, 1)] :: [(26, 2)] :: [(26, 2)] :: [] :: [(29, 3)] :: [(30, 4)] :: []) ((0, 0) :: (0, 0) :: (0, 0) :: (0, 0) :: (0, 0) :: (1, 6) :: (2, 10) :: (0, 0) :: []) 74 (by kernel_rfl) rfl rfl (by kernel_rfl) ⟨Stab.pure _ _ _, Stab.pure _ _ _, Stab.pure _ _ _, Stab.pure _ _ _, Stab.pure _ _ _, ⟨rfl, rfl, rfl⟩, Stab.pure _ _ _, trivial⟩ ⟨?_, ?_, ?_, ?_, ?_, ?_, ?_, ?_, trivial⟩ ?_
  · intro wx hb
    intro K hK
    go_simp
    exact hK _ _ rfl ⟨rfl, Below.refl _ _⟩
  · intro wx hb
    rintro _ rfl
    intro K hK
    have ra := HRB.out.below hb (Nat.le_refl _)
    go_simp
    (with_reducible refine (HT.out _ ra).mono ?_)
    rintro e wa ⟨rfl, Ba⟩
    exact hK _ _ rfl ⟨rfl, Ba⟩
  · intro wx hb
    rintro _ rfl
    intro K hK
    go_simp
    exact hK _ _ rfl ⟨rfl, Below.refl _ _⟩
  · intro wx hb
    rintro _ rfl
    intro K hK
    go_simp
    exact hK _ _ rfl ⟨rfl, Below.refl _ _⟩
  · intro wx hb
    rintro _ rfl
    intro K hK
    go_simp
    exact hK _ _ rfl ⟨rfl, Below.refl _ _⟩
  · intro wx hb
    intro K hK
    go_simp
    exact hK _ _ rfl ⟨rfl, rfl⟩
  · intro wx hb
    intro g hg hbx
    rintro _ rfl
    intro K hK
    have c0 : wx.cell? ⟨g, 0, none⟩ = some (.int .u64 0) := hbx.cell 0
    have f0 := hbx.free 0
    have c1 : wx.cell? ⟨g, 1, none⟩ = some (.int .u64 0) := hbx.cell 1
    have f1 := hbx.free 1
    clear hb
    go_simp
    exact hK _ _ rfl ((((Stored.start hbx).set 0 _).set 1 _))
  · intro wx hb
    rintro _ rfl
    intro K hK
    go_simp
    exact hK _ _ rfl ⟨rfl, Below.refl _ _⟩
  intro w5 B5
  have Bd := Box.below Bd B5 (Box.lt Bd)
  have Bp := Box.below Bp B5 (Box.lt Bp)
  have Bq := Box.below Bq B5 (Box.lt Bq)
  have HW := bkeep HW B5
  rintro _ rfl
  rintro _ rfl
  rintro _ rfl
  rintro _ rfl
  rintro _ rfl
  intro gr hgr Br
  rintro _ rfl
  rintro -
  simp only [Act.put, List.setIfInBounds_toArray, List.set_cons_zero, List.set_cons_succ, List.toList_toArray, List.length_cons, List.length_nil, List.drop_succ_cons, List.drop_zero, List.drop_nil, Nat.zero_add, wpList]
  have HR5 := Lib.hid (HR4.out.below B5 (Nat.le_refl _))
  have HRC := Lib.hid (HRB.out.below B5 (Nat.le_refl _))
  clear HR4 HRB B5
  go_upto_region 7 with fail
  refine region_lin0 (.val (fun v _ => v = .bool false) :: .val (fun v _ => v = .bool true) :: .val (fun v _ => v = .bool true) :: .val (fun v _ => v = .iface 48 (.int .i64 4)) :: .val (fun v _ => v = .bool true) :: .val (fun v _ => v = .bool false) :: .val (fun v _ => v = .bool false) :: .val (fun v _ => v = .bool false) :: .val (fun v _ => v = .bool false) :: .val (fun v _ => v = .bool false) :: .val (fun v _ => v = undef) :: .val (fun v _ => v = undef) :: .val (fun v _ => v = .bool false) :: .val (fun v _ => v = .bool false) :: .val (fun v _ => v = .bool false) :: .val (fun v _ => v = .agg #[.int .u64 ga, .int .u64 gb]) :: .val (fun v _ => v = .agg #[.int .u64 ga, .int .u64 gb]) :: .val (fun v _ => v = .bool false) :: .val (fun v _ => v = .bool false) :: [])
    ([] :: [(31, 0)] :: [(32, 1)] :: [(33, 2)] :: [(34, 3), (33, 2)] :: [(35, 4), (33, 2)] :: [(33, 2), (36, 5)] :: [(37, 6)] :: [(38, 7)] :: [(39, 8), (38, 7)] :: [(40, 9)] :: [(41, 10), (40, 9)] :: [(40, 9), (42, 11), (38, 7)] :: [(38, 7), (43, 12)] :: [(44, 13)] :: [(45, 14)] :: [(45, 14)] :: [(46, 15), (47, 16), (45, 14)] :: [(45, 14), (48, 17)] :: []) ((0, 0) :: (0, 0) :: (0, 0) :: (0, 0) :: (0, 0) :: (0, 0) :: (0, 0) :: (0, 0) :: (0, 0) :: (0, 0) :: (0, 0) :: (0, 0) :: (0, 0) :: (0, 0) :: (0, 0) :: (0, 0) :: (0, 0) :: (0, 0) :: (0, 0) :: []) 74 (by kernel_rfl) rfl rfl (by kernel_rfl) ⟨Stab.pure _ _ _, Stab.pure _ _ _, Stab.pure _ _ _, Stab.pure _ _ _, Stab.pure _ _ _, Stab.pure _ _ _, Stab.pure _ _ _, Stab.pure _ _ _, Stab.pure _ _ _, Stab.pure _ _ _, Stab.pure _ _ _, Stab.pure _ _ _, Stab.pure _ _ _, Stab.pure _ _ _, Stab.pure _ _ _, Stab.pure _ _ _, Stab.pure _ _ _, Stab.pure _ _ _, Stab.pure _ _ _, trivial⟩ ⟨?_, ?_, ?_, ?_, ?_, ?_, ?_, ?_, ?_, ?_, ?_, ?_, ?_, ?_, ?_, ?_, ?_, ?_, ?_, trivial⟩ ?_
  · intro wx hb
    intro K hK
    go_simp
    exact hK _ _ rfl ⟨rfl, Below.refl _ _⟩
  · intro wx hb
    rintro _ rfl
    intro K hK
    go_simp
    exact hK _ _ rfl ⟨rfl, Below.refl _ _⟩
  · intro wx hb
    rintro _ rfl
    intro K hK
    go_simp
    exact hK _ _ rfl ⟨rfl, Below.refl _ _⟩
  · intro wx hb
    rintro _ rfl
    refine ⟨fun _ => ?_, fun h => absurd (show true = false from h) (by decide)⟩
    intro K hK
    go_simp
    exact hK _ _ rfl ⟨rfl, Below.refl _ _⟩
  · intro wx hb
    rintro _ rfl
    rintro _ rfl
    refine ⟨fun _ => ?_, fun h => absurd (show true = false from h) (by decide)⟩
    intro K hK
    go_simp
    (with_reducible refine (is_yes 4 rfl _).mono ?_)
    rintro e wa ⟨rfl, rfl⟩
    exact hK _ _ rfl ⟨rfl, Below.refl _ _⟩
  · intro wx hb
    rintro _ rfl
    rintro _ rfl
    refine ⟨fun _ => ?_, fun h => absurd (show true = false from h) (by decide)⟩
    intro K hK
    go_simp
    exact hK _ _ rfl ⟨rfl, Below.refl _ _⟩
  · intro wx hb
    rintro _ rfl
    rintro _ rfl
    intro K hK
    go_simp
    exact hK _ _ rfl ⟨rfl, Below.refl _ _⟩
  · intro wx hb
    rintro _ rfl
    intro K hK
    go_simp
    exact hK _ _ rfl ⟨rfl, Below.refl _ _⟩
  · intro wx hb
    rintro _ rfl
    refine ⟨fun _ => ?_, fun h => absurd (show true = false from h) (by decide)⟩
    intro K hK
    go_simp
    exact hK _ _ rfl ⟨rfl, Below.refl _ _⟩
  · intro wx hb
    rintro _ rfl
    rintro _ rfl
    refine ⟨fun _ => ?_, fun h => absurd (show true = false from h) (by decide)⟩
    intro K hK
    go_simp
    exact hK _ _ rfl ⟨rfl, Below.refl _ _⟩
  · intro wx hb
    rintro _ rfl
    exact ⟨fun h => absurd (show false = true from h) (by decide), fun _ => ⟨rfl, Below.refl _ _⟩⟩
  · intro wx hb
    intro vq hq; have hq : vq = undef := hq; subst vq
    rintro _ rfl
    exact ⟨fun h => absurd (show false = true from h) (by decide), fun _ => ⟨rfl, Below.refl _ _⟩⟩
  · intro wx hb
    rintro _ rfl
    intro vq hq; have hq : vq = undef := hq; subst vq
    rintro _ rfl
    refine ⟨fun _ => ?_, fun h => absurd (show true = false from h) (by decide)⟩
    intro K hK
    go_simp
    exact hK _ _ rfl ⟨rfl, Below.refl _ _⟩
  · intro wx hb
    rintro _ rfl
    rintro _ rfl
    intro K hK
    go_simp
    exact hK _ _ rfl ⟨rfl, Below.refl _ _⟩
  · intro wx hb
    rintro _ rfl
    intro K hK
    go_simp
    exact hK _ _ rfl ⟨rfl, Below.refl _ _⟩
  · intro wx hb
    rintro _ rfl
    refine ⟨fun _ => ?_, fun h => absurd (show true = false from h) (by decide)⟩
    intro K hK
    exact wp_load_row 26 (.tmp 10) rfl gr rfl 26 _ (0, 0) _ (Box.below (Br) hb (Box.lt (Br))) Try.underlying26 rfl (by kernel_rfl) (hK _ _ rfl ⟨rfl, Below.refl _ _⟩)
  · intro wx hb
    rintro _ rfl
    refine ⟨fun _ => ?_, fun h => absurd (show true = false from h) (by decide)⟩
    intro K hK
    exact wp_load_row 26 (.tmp 8) rfl gq rfl 26 _ (0, 0) _ (Box.below (Bq) hb (Box.lt (Bq))) Try.underlying26 rfl (by kernel_rfl) (hK _ _ rfl ⟨rfl, Below.refl _ _⟩)
  · intro wx hb
    rintro _ rfl
    rintro _ rfl
    rintro _ rfl
    refine ⟨fun _ => ?_, fun h => absurd (show true = false from h) (by decide)⟩
    intro K hK
    go_simp
    exact hK _ _ rfl ⟨rfl, Below.refl _ _⟩
  · intro wx hb
    rintro _ rfl
    rintro _ rfl
    intro K hK
    go_simp
    exact hK _ _ rfl ⟨rfl, Below.refl _ _⟩
  intro w6 B6
  have Bd := Box.below Bd B6 (Box.lt Bd)
  have Bp := Box.below Bp B6 (Box.lt Bp)
  have Bq := Box.below Bq B6 (Box.lt Bq)
  have Br := Box.below Br B6 (Box.lt Br)
  have HW := bkeep HW B6
  rintro _ rfl
  rintro _ rfl
  rintro _ rfl
  rintro _ rfl
  rintro _ rfl
  rintro _ rfl
  rintro _ rfl
  rintro _ rfl
  rintro _ rfl
  rintro _ rfl
  intro vq hq; have hq : vq = undef := hq; subst vq
  intro vq hq; have hq : vq = undef := hq; subst vq
  rintro _ rfl
  rintro _ rfl
  rintro _ rfl
  rintro _ rfl
  rintro _ rfl
  rintro _ rfl
  rintro _ rfl
  rintro -
  simp only [Act.put, List.setIfInBounds_toArray, List.set_cons_zero, List.set_cons_succ, List.toList_toArray, List.length_cons, List.length_nil, List.drop_succ_cons, List.drop_zero, List.drop_nil, Nat.zero_add, wpList]
  have HR6 := Lib.hid (HR5.out.below B6 (Nat.le_refl _))
  have HRD := Lib.hid (HRC.out.below B6 (Nat.le_refl _))
  clear HR5 HRC B6
  go_upto_region 9 with fail
  refine region_lin (.val (fun v _ => v = .slice Ap 16 cp) :: .val (fun v _ => v = .agg #[.int .u64 va, .int .u64 sc]) :: .val (Ro (vb lp) 16) :: .val (fun v _ => v = .bool true) :: .val (fun v _ => v = .bool true) :: .val (fun v _ => v = .nilIface) :: .val (fun v _ => v = .bool true) :: .val (fun v _ => v = .bool true) :: .val (fun v _ => v = .bool true) :: .val (fun v _ => v = .agg #[.int .u64 x, .int .u64 y]) :: .val (fun v _ => v = .agg #[.int .u64 va, .int .u64 sc]) :: .val (fun v _ => v = .agg #[.int .u64 x, .int .u64 y]) :: .val (fun v _ => v = .bool true) :: .val (fun v _ => v = .bool true) :: .val (fun v _ => v = .bool true) :: .val (fun v _ => v = .bool false) :: .val (fun v _ => v = .bool true) :: .val (fun v _ => v = .bool true) :: .val (fun v _ => v = undef) :: .val (fun v _ => v = undef) :: .val (fun v _ => v = undef) :: .val (fun v _ => v = undef) :: .val (fun v _ => v = .bool true) :: .val (fun v _ => v = .bool true) :: .val (fun v _ => v = .bool true) :: [])
    ([] :: [] :: [(51, 1)] :: [(50, 0), (52, 2)] :: [(53, 3)] :: [(54, 4)] :: [(55, 5), (54, 4)] :: [(54, 4), (56, 6)] :: [(57, 7)] :: [(58, 8)] :: [(58, 8)] :: [(60, 10), (58, 8)] :: [(59, 9), (61, 11), (58, 8)] :: [(58, 8), (62, 12)] :: [(63, 13)] :: [(64, 14)] :: [(65, 15), (64, 14)] :: [(66, 16), (64, 14)] :: [(67, 17)] :: [(68, 18), (67, 17)] :: [(67, 17)] :: [(69, 19), (70, 20), (67, 17)] :: [(67, 17), (71, 21), (64, 14)] :: [(64, 14), (72, 22)] :: [(73, 23)] :: []) ((0, 0) :: (0, 0) :: (0, 0) :: (0, 0) :: (0, 0) :: (0, 0) :: (0, 0) :: (0, 0) :: (0, 0) :: (0, 0) :: (0, 0) :: (0, 0) :: (0, 0) :: (0, 0) :: (0, 0) :: (0, 0) :: (0, 0) :: (0, 0) :: (0, 0) :: (0, 0) :: (0, 0) :: (0, 0) :: (0, 0) :: (0, 0) :: (0, 0) :: []) 74 (by kernel_rfl) rfl rfl (by kernel_rfl) ⟨Stab.pure _ _ _, Stab.pure _ _ _, (Ro.stab rfl), Stab.pure _ _ _, Stab.pure _ _ _, Stab.pure _ _ _, Stab.pure _ _ _, Stab.pure _ _ _, Stab.pure _ _ _, Stab.pure _ _ _, Stab.pure _ _ _, Stab.pure _ _ _, Stab.pure _ _ _, Stab.pure _ _ _, Stab.pure _ _ _, Stab.pure _ _ _, Stab.pure _ _ _, Stab.pure _ _ _, Stab.pure _ _ _, Stab.pure _ _ _, Stab.pure _ _ _, Stab.pure _ _ _, Stab.pure _ _ _, Stab.pure _ _ _, Stab.pure _ _ _, trivial⟩ ⟨?_, ?_, ?_, ?_, ?_, ?_, ?_, ?_, ?_, ?_, ?_, ?_, ?_, ?_, ?_, ?_, ?_, ?_, ?_, ?_, ?_, ?_, ?_, ?_, ?_, trivial⟩ ?_
  · intro wx hb
    intro K hK
    go_simp
    exact hK _ _ rfl ⟨rfl, Below.refl _ _⟩
  · intro wx hb
    intro K hK
    exact wp_load_row 26 (.tmp 2) rfl w.heap.size rfl 26 _ (0, 0) _ (Box.below (Bd) hb (Box.lt (Bd))) Try.underlying26 rfl (by kernel_rfl) (hK _ _ rfl ⟨rfl, Below.refl _ _⟩)
  · intro wx hb
    rintro _ rfl
    intro K hK
    go_simp; (with_reducible refine (HRP.out _).mono ?_); rintro e wa ⟨A9, c9, rfl, R9, B9⟩; exact hK _ _ rfl ⟨⟨A9, c9, rfl, R9⟩, B9⟩
  · intro wx hb
    rintro _ rfl
    intro v52 h52
    intro K hK
    have ra := HR6.out.below hb (Nat.le_refl _); obtain ⟨A9, c9, rfl, R9⟩ := h52
    go_simp
    (with_reducible refine (bytes_same lp 16 _ _ _ _ HLP.out _ ra R9).mono ?_)
    rintro e wa ⟨rfl, rfl⟩
    exact hK _ _ rfl ⟨rfl, Below.refl _ _⟩
  · intro wx hb
    rintro _ rfl
    intro K hK
    go_simp
    exact hK _ _ rfl ⟨rfl, Below.refl _ _⟩
  · intro wx hb
    rintro _ rfl
    refine ⟨fun _ => ?_, fun h => absurd (show true = false from h) (by decide)⟩
    intro K hK
    go_simp
    exact hK _ _ rfl ⟨rfl, Below.refl _ _⟩
  · intro wx hb
    rintro _ rfl
    rintro _ rfl
    refine ⟨fun _ => ?_, fun h => absurd (show true = false from h) (by decide)⟩
    intro K hK
    go_simp
    exact hK _ _ rfl ⟨rfl, Below.refl _ _⟩
  · intro wx hb
    rintro _ rfl
    rintro _ rfl
    intro K hK
    go_simp
    exact hK _ _ rfl ⟨rfl, Below.refl _ _⟩
  · intro wx hb
    rintro _ rfl
    intro K hK
    go_simp
    exact hK _ _ rfl ⟨rfl, Below.refl _ _⟩
  · intro wx hb
    rintro _ rfl
    refine ⟨fun _ => ?_, fun h => absurd (show true = false from h) (by decide)⟩
    intro K hK
    exact wp_load_row 26 (.tmp 6) rfl gp rfl 26 _ (0, 0) _ (Box.below (Bp) hb (Box.lt (Bp))) Try.underlying26 rfl (by kernel_rfl) (hK _ _ rfl ⟨rfl, Below.refl _ _⟩)
  · intro wx hb
    rintro _ rfl
    refine ⟨fun _ => ?_, fun h => absurd (show true = false from h) (by decide)⟩
    intro K hK
    exact wp_load_row 26 (.tmp 2) rfl w.heap.size rfl 26 _ (0, 0) _ (Box.below (Bd) hb (Box.lt (Bd))) Try.underlying26 rfl (by kernel_rfl) (hK _ _ rfl ⟨rfl, Below.refl _ _⟩)
  · intro wx hb
    rintro _ rfl
    rintro _ rfl
    refine ⟨fun _ => ?_, fun h => absurd (show true = false from h) (by decide)⟩
    intro K hK
    go_simp
    (with_reducible refine (HRR.out _).mono ?_)
    rintro e wa ⟨rfl, Ba⟩
    exact hK _ _ rfl ⟨rfl, Ba⟩
  · intro wx hb
    rintro _ rfl
    rintro _ rfl
    rintro _ rfl
    refine ⟨fun _ => ?_, fun h => absurd (show true = false from h) (by decide)⟩
    intro K hK
    go_simp
    exact hK _ _ rfl ⟨rfl, Below.refl _ _⟩
  · intro wx hb
    rintro _ rfl
    rintro _ rfl
    intro K hK
    go_simp
    exact hK _ _ rfl ⟨rfl, Below.refl _ _⟩
  · intro wx hb
    rintro _ rfl
    intro K hK
    go_simp
    exact hK _ _ rfl ⟨rfl, Below.refl _ _⟩
  · intro wx hb
    rintro _ rfl
    refine ⟨fun _ => ?_, fun h => absurd (show true = false from h) (by decide)⟩
    intro K hK
    go_simp
    exact hK _ _ rfl ⟨rfl, Below.refl _ _⟩
  · intro wx hb
    rintro _ rfl
    rintro _ rfl
    refine ⟨fun _ => ?_, fun h => absurd (show true = false from h) (by decide)⟩
    intro K hK
    go_simp
    exact hK _ _ rfl ⟨rfl, Below.refl _ _⟩
  · intro wx hb
    rintro _ rfl
    rintro _ rfl
    refine ⟨fun _ => ?_, fun h => absurd (show true = false from h) (by decide)⟩
    intro K hK
    go_simp
    exact hK _ _ rfl ⟨rfl, Below.refl _ _⟩
  · intro wx hb
    rintro _ rfl
    exact ⟨fun h => absurd (show false = true from h) (by decide), fun _ => ⟨rfl, Below.refl _ _⟩⟩
  · intro wx hb
    intro vq hq; have hq : vq = undef := hq; subst vq
    rintro _ rfl
    exact ⟨fun h => absurd (show false = true from h) (by decide), fun _ => ⟨rfl, Below.refl _ _⟩⟩
  · intro wx hb
    rintro _ rfl
    exact ⟨fun h => absurd (show false = true from h) (by decide), fun _ => ⟨rfl, Below.refl _ _⟩⟩
  · intro wx hb
    intro vq hq; have hq : vq = undef := hq; subst vq
    intro vq hq; have hq : vq = undef := hq; subst vq
    rintro _ rfl
    exact ⟨fun h => absurd (show false = true from h) (by decide), fun _ => ⟨rfl, Below.refl _ _⟩⟩
  · intro wx hb
    rintro _ rfl
    intro vq hq; have hq : vq = undef := hq; subst vq
    rintro _ rfl
    refine ⟨fun _ => ?_, fun h => absurd (show true = false from h) (by decide)⟩
    intro K hK
    go_simp
    exact hK _ _ rfl ⟨rfl, Below.refl _ _⟩
  · intro wx hb
    rintro _ rfl
    rintro _ rfl
    intro K hK
    go_simp
    exact hK _ _ rfl ⟨rfl, Below.refl _ _⟩
  · intro wx hb
    rintro _ rfl
    intro K hK
    go_simp
    exact hK _ _ rfl ⟨rfl, Below.refl _ _⟩
  intro w7 B7
  have HW := bkeep HW B7
  rintro _ rfl
  rintro _ rfl
  intro v52 h52
  rintro _ rfl
  rintro _ rfl
  rintro _ rfl
  rintro _ rfl
  rintro _ rfl
  rintro _ rfl
  rintro _ rfl
  rintro _ rfl
  rintro _ rfl
  rintro _ rfl
  rintro _ rfl
  rintro _ rfl
  rintro _ rfl
  rintro _ rfl
  rintro _ rfl
  intro vq hq; have hq : vq = undef := hq; subst vq
  intro vq hq; have hq : vq = undef := hq; subst vq
  intro vq hq; have hq : vq = undef := hq; subst vq
  intro vq hq; have hq : vq = undef := hq; subst vq
  rintro _ rfl
  rintro _ rfl
  rintro _ rfl
  rintro -
  simp only [Act.put, List.setIfInBounds_toArray, List.set_cons_zero, List.set_cons_succ, List.toList_toArray, List.length_cons, List.length_nil, List.drop_succ_cons, List.drop_zero, List.drop_nil, Nat.zero_add, wpList]
  go_wp2_with fail
  go_ret
  exact ⟨rfl, HW⟩
theorem sel_up (x y : Int) (x0 : 0 ≤ x) (x1 : x < 18446744073709551616) (y0 : 0 ≤ y) (y1 : y < 18446744073709551616) :
    (acc2 x y 2).length = 16 ∧ wa (acc2 x y 2) = x ∧ wb (acc2 x y 2) = y ∧ U8s (acc2 x y 2) := by
  have e : acc2 x y 2 = up x 8 ++ up y 8 := rfl
  have l1 := up_len x 8; have l2 := up_len y 8
  have t1 : (up x 8 ++ up y 8).take 8 = up x 8 := List.take_left' l1
  have t2 : (up x 8 ++ up y 8).drop 8 = up y 8 := List.drop_left' l1
  refine ⟨by rw [e, List.length_append, l1, l2], ?_, ?_, ?_⟩
  · show wd ((((acc2 x y 2).take 16).drop 0).take 8) = x
    rw [e, List.take_of_length_le (l := up x 8 ++ up y 8) (by rw [List.length_append, l1, l2]; omega), List.drop_zero, t1, wd_up x x0 x1]
  · show wd ((((acc2 x y 2).take 16).drop 8).take 8) = y
    rw [e, List.take_of_length_le (l := up x 8 ++ up y 8) (by rw [List.length_append, l1, l2]; omega), t2, List.take_of_length_le (by omega), wd_up y y0 y1]
  · rw [e]
    intro z hz
    rcases List.mem_append.1 hz with h | h
    · exact up_u8 x 8 z h
    · exact up_u8 y 8 z h
theorem up_sel (l : List Int) (hl : l.length = 16) (hb : U8s l) : acc2 (wa l) (wb l) 2 = l := by
  have e : acc2 (wa l) (wb l) 2 = up (wa l) 8 ++ up (wb l) 8 := rfl
  have e1 : wa l = wd (l.take 8) := by
    show wd (((l.take 16).drop 0).take 8) = _
    rw [show l.take 16 = l from List.take_of_length_le (by omega), List.drop_zero]
  have e2 : wb l = wd (l.drop 8) := by
    show wd (((l.take 16).drop 8).take 8) = _
    rw [List.take_of_length_le (l := l) (by omega), List.take_of_length_le (by rw [List.length_drop]; omega)]
  rw [e, e1, e2, up_wd_any _ (by rw [List.length_take]; omega) (fun x h => hb x (List.mem_of_mem_take h)), up_wd_any _ (by rw [List.length_drop]; omega) (fun x h => hb x (List.mem_of_mem_drop h)), List.take_append_drop]
theorem law_bytes (va sc : Int) (hv : U va) (hs : U sc) (l : List Int) (n c : Nat) (A : Option Addr) (hl : l.length = n) (hn : n ≤ 140737488351232) (hb : U8s l) (w : World) (ha : RowAt w A (vb l)) :
    Calls Try.prog 10 #[.agg #[.int .u64 va, .int .u64 sc], .slice A n c] w fun e w' => e = .returned (.bool true) ∧ Below w.heap.size w w' := by
  have x1 := red_hi va; have y1 := red_hi sc
  obtain ⟨S1, S2, S3, S4⟩ := sel_up (red va) (red sc) (red_lo va) (by omega) (red_lo sc) (by omega)
  have HB := fun (c : Nat) (A : Option Addr) (w : World) (h : RowAt w A (vb (acc2 (red va) (red sc) 2))) => take_any (acc2 (red va) (red sc) 2) 16 c A S1 (by omega) S4 w h
  have tb : tkB (acc2 (red va) (red sc) 2) = true := tk_yes S1 (by rw [S2]; exact x1) (by rw [S3]; exact y1)
  have E1 : tkd (acc2 (red va) (red sc) 2) = .agg #[.int .u64 (red va), .int .u64 (red sc)] := by rw [tkd, tb, S2, S3]; rfl
  have E2 : tke (acc2 (red va) (red sc) 2) = .nilIface := by rw [tke, tb]; rfl
  rw [E1, E2] at HB
  have HT := fun (w : World) (h : RowAt w A (vb l)) => take_any l n c A hl hn hb w h
  have HRT := fun (w : World) (h : RowAt w A (vb l)) => rtake_any l n c A hl hn hb w h
  by_cases ht : tkB l = true
  · have h3 : l.length = 16 ∧ wa l < 2305843009213693951 ∧ wb l < 2305843009213693951 := by
      simp only [tkB, Bool.and_eq_true, beq_iff_eq, decide_eq_true_eq] at ht
      exact ⟨ht.1.1, ht.1.2, ht.2⟩
    have a0 := (wsel_lo l hb 16 0).1; have b0 := (wsel_lo l hb 16 1).1
    have F1 : tkd l = .agg #[.int .u64 (wa l), .int .u64 (wb l)] := by rw [tkd, ht]; rfl
    have F2 : tke l = .nilIface := by rw [tke, ht]; rfl
    rw [F1, F2] at HT
    rw [F1, ht] at HRT
    have HG := fun (w : World) => put_any (wa l) (wb l) ⟨a0, by omega⟩ ⟨b0, by omega⟩ w
    rw [red_small (wa l) a0 h3.2.1, red_small (wb l) b0 h3.2.2, up_sel l h3.1 hb] at HG
    exact bytes_yes va sc (red va) (red sc) (wa l) (wb l) _ l n c A (Lib.hid fun w => put_any va sc hv hs w) (Lib.hid fun w => rput_any va sc hv hs w) (Lib.hid HB) (Lib.hid HT) (Lib.hid HRT) (Lib.hid fun w => rred_any va sc hv hs w) (Lib.hid HG) (Lib.hid ⟨hl, by omega⟩) (Lib.hid S1) w ha
  · have ht : tkB l = false := by simpa using ht
    have F1 : tkd l = .agg #[.int .u64 0, .int .u64 0] := by rw [tkd, ht]; rfl
    have F2 : tke l = .iface 48 (.int .i64 4) := by rw [tke, ht]; rfl
    rw [F1, F2] at HT
    rw [F1, ht] at HRT
    exact bytes_no va sc (red va) (red sc) 0 0 _ l n c A (Lib.hid fun w => put_any va sc hv hs w) (Lib.hid fun w => rput_any va sc hv hs w) (Lib.hid HB) (Lib.hid HT) (Lib.hid HRT) (Lib.hid fun w => rred_any va sc hv hs w) (Lib.hid S1) w ha
end Go.Proofs.Ytebjdlimboifaaa
