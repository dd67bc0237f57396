/- Plain laws of repeated joins; the walk of digest.Repeat. -/
import Derived.Test.YtcbahojefglakaaWgtPlain
import Derived.Deep.DeepCutAuto
namespace Go.Proofs.Ytcbahojefglakaa
set_option linter.unusedVariables false
set_option linter.unusedSimpArgs false
open Go.RowKit Go.Lib

def jn (a b : Int × Int) : Int × Int := (red (a.1 * b.2 + b.1), red (a.2 * b.2))
def rdc (a : Int × Int) : Int × Int := (red a.1, red a.2)
def rD (d : Int × Int) : Nat → Int × Int
  | 0 => (0, 1)
  | k + 1 => jn (rD d k) d
theorem jn_rdc_l (a b : Int × Int) : jn (rdc a) b = jn a b := by
  unfold jn rdc
  simp only
  rw [red_mul_l, ← red_add_l, red_mul_l, red_add_l]
theorem jn_rdc_r (a b : Int × Int) : jn a (rdc b) = jn a b := by
  unfold jn rdc
  simp only
  rw [red_mul_r, red_add_r, ← red_add_l, red_mul_r, red_add_l]
theorem rdc_jn (a b : Int × Int) : rdc (jn a b) = jn a b := by unfold jn rdc; simp only [red_red]
theorem jn_assoc (a b c : Int × Int) : jn (jn a b) c = jn a (jn b c) := by
  unfold jn
  simp only
  refine Prod.ext ?_ ?_
  · simp only
    rw [red_add_r, ← red_add_l, red_mul_l, red_add_l, ← red_add_l (a.1 * _), red_mul_r, red_add_l, Int.add_mul, Int.mul_assoc, Int.add_assoc]
  · simp only
    rw [red_mul_l, red_mul_r, Int.mul_assoc]
theorem jn_one_r (a : Int × Int) : jn a (0, 1) = rdc a := by unfold jn rdc; simp
theorem jn_one_l (a : Int × Int) : jn (0, 1) a = rdc a := by unfold jn rdc; simp
theorem rdc_one : rdc (0, 1) = (0, 1) := by decide +kernel
theorem rdc_rD (d : Int × Int) (k : Nat) : rdc (rD d k) = rD d k := by
  cases k with
  | zero => exact rdc_one
  | succ k => exact rdc_jn _ _
theorem rD_one (d : Int × Int) : rD d 1 = rdc d := jn_one_l d
theorem rD_add (d : Int × Int) (a b : Nat) : rD d (a + b) = jn (rD d a) (rD d b) := by
  induction b with
  | zero => show rD d a = jn _ (0, 1); rw [jn_one_r, rdc_rD]
  | succ b ih => show jn (rD d (a + b)) d = jn _ (jn _ d); rw [ih, jn_assoc]
theorem rD_double (d : Int × Int) (m : Nat) : rD (jn d d) m = rD d (2 * m) := by
  induction m with
  | zero => rfl
  | succ m ih => show jn (rD _ m) _ = jn (jn (rD d (2 * m)) d) d; rw [ih, jn_assoc]
theorem rD_mul (d : Int × Int) (i n : Nat) : rD (rD d i) n = rD d (i * n) := by
  induction n with
  | zero => rfl
  | succ n ih => show jn (rD _ n) _ = _; rw [ih, Nat.mul_succ, rD_add]
theorem rD_succ_l (d : Int × Int) (m : Nat) : rD d (m + 1) = jn d (rD d m) := by
  rw [Nat.add_comm, rD_add, rD_one, jn_rdc_l]
theorem step_odd (r d : Int × Int) (k : Nat) (h : k % 2 = 1) : jn (jn r d) (rD (jn d d) (k / 2)) = jn r (rD d k) := by
  have e : k = 2 * (k / 2) + 1 := by omega
  rw [rD_double, jn_assoc, ← rD_succ_l, ← e]
theorem step_even (r d : Int × Int) (k : Nat) (h : k % 2 = 0) : jn r (rD (jn d d) (k / 2)) = jn r (rD d k) := by
  have e : k = 2 * (k / 2) := by omega
  rw [rD_double, ← e]
def rep (l : List Int) : Nat → List Int
  | 0 => []
  | k + 1 => rep l k ++ l
theorem dOf_rep (l : List Int) (k : Nat) : dOf (rep l k) = rD (dOf l) k := by
  induction k with
  | zero => rfl
  | succ k ih => show dOf (rep l k ++ l) = jn (rD _ k) _; rw [dOf_append, ih]; rfl
theorem u_jn (a b : Int × Int) : U (jn a b).1 ∧ U (jn a b).2 := ⟨u_red _, u_red _⟩
theorem u_rD (d : Int × Int) (k : Nat) : U (rD d k).1 ∧ U (rD d k).2 := by
  rw [← rdc_rD]; exact ⟨u_red _, u_red _⟩

attribute [local go_sem ↓] Go.wp_at_zero Go.wp_at_succ
set_option maxRecDepth 100000 in
set_option maxHeartbeats 2000000 in
theorem rep_nat (d1 d2 : Int) (k0 : Nat) (hk0 : k0 ≤ 9223372036854775807) (hd1 : U d1) (hd2 : U d2) (w : World) :
    Calls Try.prog 75 #[.agg #[.int .u64 d1, .int .u64 d2], .int .i64 (k0 : Int)] w fun e w' => e = .returned (.agg #[.int .u64 (rD (d1, d2) k0).1, .int .u64 (rD (d1, d2) k0).2]) ∧ Below w.heap.size w w' := by
  go_enter Try.func75, Try.ntmps75
  go_wp2_with fail
  (with_reducible refine (unit_any _).mono ?_)
  rintro e w1 ⟨rfl, B1⟩
  have PD : Box w1 w.heap.size 68 #[.int .u64 d1, .int .u64 d2] := ((Box.new w _ _).alloc _).below B1 (by simp; omega)
  have PR : Box w1 (w.heap.size + 1) 68 #[.int .u64 0, .int .u64 0] := (Box.new_ (by simp)).below B1 (by simp)
  have BW := bkeep (balloc (balloc (Below.refl _ _) _) _) B1
  have z1 : w.heap.size + 1 < w1.heap.size := PR.lt
  have z0 : w.heap.size < w1.heap.size := by omega
  have HPD := Lib.hid PD; have HPR := Lib.hid PR; have HBW := Lib.hid BW
  clear B1 PD PR BW
  go_wp2_with fail
  go_loopw [1] (fun si wr => ∃ (k : Nat) (r1 r2 e1 e2 : Int), si = .int .i64 k ∧ k ≤ 9223372036854775807 ∧ Hid (jn (r1, r2) (rD (e1, e2) k) = rD (d1, d2) k0) ∧ Hid (rdc (r1, r2) = (r1, r2)) ∧ U e1 ∧ U e2 ∧ U r1 ∧ U r2 ∧
    Hid (Box wr w.heap.size 68 #[.int .u64 e1, .int .u64 e2]) ∧ Hid (Box wr (w.heap.size + 1) 68 #[.int .u64 0, .int .u64 0]) ∧ Hid (Box wr w1.heap.size 68 #[.int .u64 r1, .int .u64 r2]) ∧ Hid (Below w.heap.size w wr)) (fun si _ => (intOf si).toNat)
  case atStart =>
    exact ⟨k0, 0, 1, d1, d2, rfl, hk0, Lib.hid (by rw [jn_one_l, rdc_rD]), Lib.hid rdc_one, hd1, hd2, ⟨by omega, by omega⟩, ⟨by omega, by omega⟩, Lib.hid (HPD.out.alloc _), Lib.hid (HPR.out.alloc _), Lib.hid (Box.new w1 _ _), Lib.hid (balloc HBW.out _)⟩
  case round =>
    obtain ⟨k, r1, r2, e1, e2, rfl, hk, H, HR, u1, u2, v1, v2, PD, PR, PX, BW⟩ := hrel
    have l1 := PD.out.lt; have l2 := PR.out.lt; have l3 := PX.out.lt
    by_cases hz : 0 < k
    · have hz' : (0 : Int) < k := by omega
      by_cases ho : k % 2 = 1
      · have ho' : ((k : Int) % 2 == 1) = true := by rw [beq_iff_eq]; omega
        have H2 := Lib.hid (((step_odd (r1, r2) (e1, e2) k ho).trans H.out))
        have R2 := Lib.hid (rdc_jn (r1, r2) (e1, e2))
        have J1 := Lib.hid (join_any r1 r2 e1 e2 v1 v2 u1 u2); have J2 := Lib.hid (join_any e1 e2 e1 e2 u1 u2 u1 u2)
        have PD1 := PD.out; have PX1 := PX.out
        clear ho
        go_upto_region 5 with fail
        refine region_lin0 (.val (fun v _ => v = .agg #[.int .u64 r1, .int .u64 r2]) :: .val (fun v _ => v = .agg #[.int .u64 e1, .int .u64 e2]) :: .val (fun v _ => v = .agg #[.int .u64 (red (r1 * e2 + e1)), .int .u64 (red (r2 * e2))]) :: [])
          ([] :: [] :: [(14, 0), (15, 1)] :: []) ((0, 0) :: (0, 0) :: (0, 0) :: []) 21 (by kernel_rfl) rfl rfl (by kernel_rfl) ⟨Stab.pure _ _ _, Stab.pure _ _ _, Stab.pure _ _ _, trivial⟩ ⟨?_, ?_, ?_, trivial⟩ ?_
        · intro wx hb
          intro K hK
          exact wp_load_row 68 (.tmp 5) rfl w1.heap.size rfl 68 _ (0, 0) _ (Box.below (PX1) hb (Box.lt (PX1))) Try.underlying68 rfl (by kernel_rfl) (hK _ _ rfl ⟨rfl, Below.refl _ _⟩)
        · intro wx hb
          intro K hK
          exact wp_load_row 68 (.tmp 2) rfl w.heap.size rfl 68 _ (0, 0) _ (Box.below (PD1) hb (Box.lt (PD1))) Try.underlying68 rfl (by kernel_rfl) (hK _ _ rfl ⟨rfl, Below.refl _ _⟩)
        · intro wx hb
          rintro _ rfl
          rintro _ rfl
          intro K hK
          go_simp
          (with_reducible refine (J1.out _).mono ?_)
          rintro e wa ⟨rfl, Ba⟩
          exact hK _ _ rfl ⟨rfl, Ba⟩
        intro w2 B2
        rintro _ rfl
        rintro _ rfl
        rintro _ rfl
        rintro -
        simp only [Act.put, List.setIfInBounds_toArray, List.set_cons_zero, List.set_cons_succ, List.toList_toArray, List.length_cons, List.length_nil, List.drop_succ_cons, List.drop_zero, List.drop_nil, Nat.zero_add]
        have x0 : w2.cell? ⟨w1.heap.size, 0, none⟩ = some (.int .u64 r1) := (PX1.below B2 PX1.lt).cell 0
        have x1 : w2.cell? ⟨w1.heap.size, 1, none⟩ = some (.int .u64 r2) := (PX1.below B2 PX1.lt).cell 1
        have f0 := (PX1.below B2 PX1.lt).free 0; have f1 := (PX1.below B2 PX1.lt).free 1
        have PD2 := ((PD1.below B2 PD1.lt).far (p := ⟨w1.heap.size, 0, none⟩) (by simp; omega) (.int .u64 (red (r1 * e2 + e1)))).far (p := ⟨w1.heap.size, 1, none⟩) (by simp; omega) (.int .u64 (red (r2 * e2)))
        have PR2 := ((PR.out.below B2 PR.out.lt).far (p := ⟨w1.heap.size, 0, none⟩) (by simp; omega) (.int .u64 (red (r1 * e2 + e1)))).far (p := ⟨w1.heap.size, 1, none⟩) (by simp; omega) (.int .u64 (red (r2 * e2)))
        have PX2 := ((PX1.below B2 PX1.lt).set_ 0 (.int .u64 (red (r1 * e2 + e1)))).set_ 1 (.int .u64 (red (r2 * e2)))
        have BW2 := (((bkeep BW.out B2).setCell (p := ⟨w1.heap.size, 0, none⟩) (by simp; omega) (.int .u64 (red (r1 * e2 + e1)))).setCell (p := ⟨w1.heap.size, 1, none⟩) (by simp; omega) (.int .u64 (red (r2 * e2))))
        clear B2
        go_upto_region 6 with fail
        refine region_lin0 (.val (fun v _ => v = .agg #[.int .u64 e1, .int .u64 e2]) :: .val (fun v _ => v = .agg #[.int .u64 e1, .int .u64 e2]) :: .val (fun v _ => v = .agg #[.int .u64 (red (e1 * e2 + e1)), .int .u64 (red (e2 * e2))]) :: [])
          ([] :: [] :: [(17, 0), (18, 1)] :: []) ((0, 0) :: (0, 0) :: (0, 0) :: []) 21 (by kernel_rfl) rfl rfl (by kernel_rfl) ⟨Stab.pure _ _ _, Stab.pure _ _ _, Stab.pure _ _ _, trivial⟩ ⟨?_, ?_, ?_, trivial⟩ ?_
        · intro wx hb
          intro K hK
          exact wp_load_row 68 (.tmp 2) rfl w.heap.size rfl 68 _ (0, 0) _ (Box.below (PD2) hb (Box.lt (PD2))) Try.underlying68 rfl (by kernel_rfl) (hK _ _ rfl ⟨rfl, Below.refl _ _⟩)
        · intro wx hb
          intro K hK
          exact wp_load_row 68 (.tmp 2) rfl w.heap.size rfl 68 _ (0, 0) _ (Box.below (PD2) hb (Box.lt (PD2))) Try.underlying68 rfl (by kernel_rfl) (hK _ _ rfl ⟨rfl, Below.refl _ _⟩)
        · intro wx hb
          rintro _ rfl
          rintro _ rfl
          intro K hK
          go_simp
          (with_reducible refine (J2.out _).mono ?_)
          rintro e wa ⟨rfl, Ba⟩
          exact hK _ _ rfl ⟨rfl, Ba⟩
        intro w3 B3
        rintro _ rfl
        rintro _ rfl
        rintro _ rfl
        rintro -
        simp only [Act.put, List.setIfInBounds_toArray, List.set_cons_zero, List.set_cons_succ, List.toList_toArray, List.length_cons, List.length_nil, List.drop_succ_cons, List.drop_zero, List.drop_nil, Nat.zero_add]
        have d0 : w3.cell? ⟨w.heap.size, 0, none⟩ = some (.int .u64 e1) := (Box.below PD2 B3 (Box.lt PD2)).cell 0
        have d1 : w3.cell? ⟨w.heap.size, 1, none⟩ = some (.int .u64 e2) := (Box.below PD2 B3 (Box.lt PD2)).cell 1
        have g0 := (Box.below PD2 B3 (Box.lt PD2)).free 0; have g1 := (Box.below PD2 B3 (Box.lt PD2)).free 1
        have F1 := Lib.hid (((Box.below PD2 B3 (Box.lt PD2)).set_ 0 (.int .u64 (red (e1 * e2 + e1)))).set_ 1 (.int .u64 (red (e2 * e2))))
        have F2 := Lib.hid (((Box.below PR2 B3 (Box.lt PR2)).far (p := ⟨w.heap.size, 0, none⟩) (by simp) (.int .u64 (red (e1 * e2 + e1)))).far (p := ⟨w.heap.size, 1, none⟩) (by simp) (.int .u64 (red (e2 * e2))))
        have F3 := Lib.hid (((Box.below PX2 B3 (Box.lt PX2)).far (p := ⟨w.heap.size, 0, none⟩) (by simp; omega) (.int .u64 (red (e1 * e2 + e1)))).far (p := ⟨w.heap.size, 1, none⟩) (by simp; omega) (.int .u64 (red (e2 * e2))))
        have F4 := Lib.hid (((bkeep BW2 B3).setCell (p := ⟨w.heap.size, 0, none⟩) (by simp) (.int .u64 (red (e1 * e2 + e1)))).setCell (p := ⟨w.heap.size, 1, none⟩) (by simp) (.int .u64 (red (e2 * e2))))
        clear B3
        go_wp2_with fail
        go_roundw
        case rel => exact ⟨k / 2, _, _, _, _, by go_num, by omega, H2, R2, u_red _, u_red _, u_red _, u_red _, F1, F2, F3, F4⟩
        case measure => simp [intOf]; omega
      · have ho' : ((k : Int) % 2 == 1) = false := by rw [beq_eq_false_iff_ne]; omega
        have H2 := Lib.hid (((step_even (r1, r2) (e1, e2) k (by omega)).trans H.out))
        have J2 := Lib.hid (join_any e1 e2 e1 e2 u1 u2 u1 u2)
        have PD1 := PD.out; have PR1 := PR.out; have PX1 := PX.out; have BW1 := BW.out
        clear ho
        go_upto_region 6 with fail
        refine region_lin0 (.val (fun v _ => v = .agg #[.int .u64 e1, .int .u64 e2]) :: .val (fun v _ => v = .agg #[.int .u64 e1, .int .u64 e2]) :: .val (fun v _ => v = .agg #[.int .u64 (red (e1 * e2 + e1)), .int .u64 (red (e2 * e2))]) :: [])
          ([] :: [] :: [(17, 0), (18, 1)] :: []) ((0, 0) :: (0, 0) :: (0, 0) :: []) 21 (by kernel_rfl) rfl rfl (by kernel_rfl) ⟨Stab.pure _ _ _, Stab.pure _ _ _, Stab.pure _ _ _, trivial⟩ ⟨?_, ?_, ?_, trivial⟩ ?_
        · intro wx hb
          intro K hK
          exact wp_load_row 68 (.tmp 2) rfl w.heap.size rfl 68 _ (0, 0) _ (Box.below (PD1) hb (Box.lt (PD1))) Try.underlying68 rfl (by kernel_rfl) (hK _ _ rfl ⟨rfl, Below.refl _ _⟩)
        · intro wx hb
          intro K hK
          exact wp_load_row 68 (.tmp 2) rfl w.heap.size rfl 68 _ (0, 0) _ (Box.below (PD1) hb (Box.lt (PD1))) Try.underlying68 rfl (by kernel_rfl) (hK _ _ rfl ⟨rfl, Below.refl _ _⟩)
        · intro wx hb
          rintro _ rfl
          rintro _ rfl
          intro K hK
          go_simp
          (with_reducible refine (J2.out _).mono ?_)
          rintro e wa ⟨rfl, Ba⟩
          exact hK _ _ rfl ⟨rfl, Ba⟩
        intro w3 B3
        rintro _ rfl
        rintro _ rfl
        rintro _ rfl
        rintro -
        simp only [Act.put, List.setIfInBounds_toArray, List.set_cons_zero, List.set_cons_succ, List.toList_toArray, List.length_cons, List.length_nil, List.drop_succ_cons, List.drop_zero, List.drop_nil, Nat.zero_add]
        have d0 : w3.cell? ⟨w.heap.size, 0, none⟩ = some (.int .u64 e1) := (Box.below PD1 B3 (Box.lt PD1)).cell 0
        have d1 : w3.cell? ⟨w.heap.size, 1, none⟩ = some (.int .u64 e2) := (Box.below PD1 B3 (Box.lt PD1)).cell 1
        have g0 := (Box.below PD1 B3 (Box.lt PD1)).free 0; have g1 := (Box.below PD1 B3 (Box.lt PD1)).free 1
        have F1 := Lib.hid (((Box.below PD1 B3 (Box.lt PD1)).set_ 0 (.int .u64 (red (e1 * e2 + e1)))).set_ 1 (.int .u64 (red (e2 * e2))))
        have F2 := Lib.hid (((Box.below PR1 B3 (Box.lt PR1)).far (p := ⟨w.heap.size, 0, none⟩) (by simp) (.int .u64 (red (e1 * e2 + e1)))).far (p := ⟨w.heap.size, 1, none⟩) (by simp) (.int .u64 (red (e2 * e2))))
        have F3 := Lib.hid (((Box.below PX1 B3 (Box.lt PX1)).far (p := ⟨w.heap.size, 0, none⟩) (by simp; omega) (.int .u64 (red (e1 * e2 + e1)))).far (p := ⟨w.heap.size, 1, none⟩) (by simp; omega) (.int .u64 (red (e2 * e2))))
        have F4 := Lib.hid (((bkeep BW1 B3).setCell (p := ⟨w.heap.size, 0, none⟩) (by simp) (.int .u64 (red (e1 * e2 + e1)))).setCell (p := ⟨w.heap.size, 1, none⟩) (by simp) (.int .u64 (red (e2 * e2))))
        clear B3
        go_wp2_with fail
        go_roundw
        case rel => exact ⟨k / 2, _, _, _, _, by go_num, by omega, H2, HR, u_red _, u_red _, v1, v2, F1, F2, F3, F4⟩
        case measure => simp [intOf]; omega
    · obtain rfl : k = 0 := by omega
      have E : Hid ((r1, r2) = rD (d1, d2) k0) := Lib.hid (by
        have := H.out
        rw [show rD (e1, e2) 0 = (0, 1) from rfl, jn_one_r, HR.out] at this
        exact this)
      have x0 : wr.cell? ⟨w1.heap.size, 0, none⟩ = some (.int .u64 r1) := PX.out.cell 0
      have x1 : wr.cell? ⟨w1.heap.size, 1, none⟩ = some (.int .u64 r2) := PX.out.cell 1
      have y0 : wr.cell? ⟨w.heap.size + 1, 0, none⟩ = some (.int .u64 0) := PR.out.cell 0
      have y1 : wr.cell? ⟨w.heap.size + 1, 1, none⟩ = some (.int .u64 0) := PR.out.cell 1
      have g0 := PR.out.free 0; have g1 := PR.out.free 1
      clear H HR
      go_wp2_with fail
      refine bodyPost_ret (v := .agg #[.int .u64 r1, .int .u64 r2]) ?_ rfl ⟨by rw [← E.out], ?_⟩
      · simp only [results, Try.results75]
        simp [go_sem, y0, y1]
      · exact (BW.out.setCell (by simp) _).setCell (by simp) _
set_option maxRecDepth 100000 in
set_option maxHeartbeats 1000000 in
theorem rep_neg (d1 d2 : Int) (k : Int) (hk : k ≤ 0) (hk1 : -9223372036854775808 ≤ k) (w : World) :
    Calls Try.prog 75 #[.agg #[.int .u64 d1, .int .u64 d2], .int .i64 k] w fun e w' => e = .returned (.agg #[.int .u64 0, .int .u64 1]) ∧ Below w.heap.size w w' := by
  have hz : ¬ (0 < k) := by omega
  go_enter Try.func75, Try.ntmps75
  go_wp2_with fail
  (with_reducible refine (unit_any _).mono ?_)
  rintro e w1 ⟨rfl, B1⟩
  have PR : Box w1 (w.heap.size + 1) 68 #[.int .u64 0, .int .u64 0] := (Box.new_ (by simp)).below B1 (by simp)
  have BW := Lib.hid (bkeep (balloc (balloc (Below.refl _ _) _) _) B1)
  have y0 : w1.cell? ⟨w.heap.size + 1, 0, none⟩ = some (.int .u64 0) := PR.cell 0
  have y1 : w1.cell? ⟨w.heap.size + 1, 1, none⟩ = some (.int .u64 0) := PR.cell 1
  have g0 := PR.free 0; have g1 := PR.free 1; have lt := PR.lt
  have Z := ((PR.set_ 0 (.int .u64 0)).set_ 1 (.int .u64 1)).alloc (.cells #[.int .u64 0, .int .u64 1] 68)
  have HZ := Lib.hid Z
  clear B1 PR Z
  go_wp2_with fail
  refine wp_loop_rounds 1 ?_
  rw [rounds_succ]
  go_wp2_with fail
  refine bodyPost_ret (v := .agg #[.int .u64 0, .int .u64 1]) ?_ rfl ⟨rfl, ?_⟩
  · have c0 : (((w1.setCell ⟨w.heap.size + 1, 0, none⟩ (.int .u64 0)).setCell ⟨w.heap.size + 1, 1, none⟩ (.int .u64 1)).alloc (.cells #[.int .u64 0, .int .u64 1] 68)).cell? ⟨w.heap.size + 1, 0, none⟩ = some (.int .u64 0) := HZ.out.cell 0
    have c1 : (((w1.setCell ⟨w.heap.size + 1, 0, none⟩ (.int .u64 0)).setCell ⟨w.heap.size + 1, 1, none⟩ (.int .u64 1)).alloc (.cells #[.int .u64 0, .int .u64 1] 68)).cell? ⟨w.heap.size + 1, 1, none⟩ = some (.int .u64 1) := HZ.out.cell 1
    simp only [results, Try.results75]
    simp [go_sem, c0, c1]
  · exact balloc ((BW.out.setCell (by simp) _).setCell (by simp) _) _
/-- digest.Repeat, for any number of copies. -/
theorem rep_any (d1 d2 : Int) (k : Int) (hk : k ≤ 9223372036854775807) (hk1 : -9223372036854775808 ≤ k) (hd1 : U d1) (hd2 : U d2) (w : World) :
    Calls Try.prog 75 #[.agg #[.int .u64 d1, .int .u64 d2], .int .i64 k] w fun e w' => e = .returned (.agg #[.int .u64 (rD (d1, d2) k.toNat).1, .int .u64 (rD (d1, d2) k.toNat).2]) ∧ Below w.heap.size w w' := by
  by_cases h : k ≤ 0
  · have e : k.toNat = 0 := by omega
    rw [e]
    exact rep_neg d1 d2 k h hk1 w
  · obtain ⟨n, rfl⟩ := Int.eq_ofNat_of_zero_le (show 0 ≤ k by omega)
    exact rep_nat d1 d2 n (by omega) hd1 hd2 w
end Go.Proofs.Ytcbahojefglakaa
