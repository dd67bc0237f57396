/- The walks of digest.Rest, Front. -/
import Derived.Test.YtebjdlimboifaaaDig
import Derived.Test.YtebjdlimboifaaaModMore
import Derived.Test.YtebjdlimboifaaaBase
namespace Go.Proofs.Ytebjdlimboifaaa
set_option linter.unusedVariables false
set_option linter.unusedSimpArgs false
open Go.RowKit Go.Lib

def inv (x : Int) : Int := red (x ^ 2305843009213693949)
theorem u_inv (x : Int) : U (inv x) := u_red _
theorem inv_some (a : Int) (h : U a) (hz : red a ≠ 0) (w : World) : Calls Try.prog 33 #[.int .u64 a] w fun e w' => e = .returned (.tuple #[.int .u64 (inv a), .nilIface]) ∧ w = w' := inverse_some a h.lo h.hi hz w

attribute [local go_sem ↓] Go.wp_at_zero Go.wp_at_succ
set_option maxHeartbeats 1000000 in
theorem rest_bad (a1 a2 b1 b2 : Int) (ha2 : U a2) (hb2 : U b2) (hz : red b2 = 0 ∨ red a2 = 0) (w : World) :
    Calls Try.prog 21 #[.agg #[.int .u64 a1, .int .u64 a2], .agg #[.int .u64 b1, .int .u64 b2]] w fun e w' => e = .returned (.tuple #[.agg #[.int .u64 0, .int .u64 0], .iface 48 (.int .i64 1)]) ∧ Below w.heap.size w w' := by
  have bel : ∀ o1 o2 o3 : Obj, Below w.heap.size w (((w.alloc o1).alloc o2).alloc o3) := fun o1 o2 o3 => (((Below.refl _ _).alloc (Nat.le_refl _) _).alloc (by simp) _).alloc (by simp; omega) _
  by_cases h1 : red b2 = 0
  · have I := Lib.hid (inverse_zero b2 hb2.lo hb2.hi h1)
    have HB := Lib.hid bel
    clear hz h1 bel
    go_enter Try.func21, Try.ntmps21
    go_wp2_with fail
    (with_reducible refine (I.out _).mono ?_)
    rintro e w' ⟨rfl, rfl⟩
    go_wp2_with fail
    refine bodyPost_ret (v := .tuple #[.agg #[.int .u64 0, .int .u64 0], .iface 48 (.int .i64 1)]) ?_ rfl ⟨rfl, ?_⟩
    · simp only [results, Try.results21]
      simp [go_sem]
    · exact HB.out _ _ _
  · have h2 : red a2 = 0 := by rcases hz with h | h; exact absurd h h1; exact h
    have I := Lib.hid (inv_some b2 hb2 h1)
    have t : (red a2 == 0) = true := by rw [beq_iff_eq]; exact h2
    have HB := Lib.hid bel
    clear hz h1 h2 bel
    go_enter Try.func21, Try.ntmps21
    go_wp2_with fail
    (with_reducible refine (I.out _).mono ?_)
    rintro e w' ⟨rfl, rfl⟩
    go_wp2_with fail
    (with_reducible refine (reduce_any a2 ha2.lo ha2.hi _).mono ?_)
    rintro e w' ⟨rfl, rfl⟩
    go_wp2_with fail
    refine bodyPost_ret (v := .tuple #[.agg #[.int .u64 0, .int .u64 0], .iface 48 (.int .i64 1)]) ?_ rfl ⟨rfl, ?_⟩
    · simp only [results, Try.results21]
      simp [go_sem]
    · exact HB.out _ _ _
set_option maxHeartbeats 2000000 in
theorem rest_ok (a1 a2 b1 b2 : Int) (ha1 : U a1) (ha2 : U a2) (hb1 : U b1) (hb2 : U b2) (h1 : red b2 ≠ 0) (h2 : red a2 ≠ 0) (w : World) :
    Calls Try.prog 21 #[.agg #[.int .u64 a1, .int .u64 a2], .agg #[.int .u64 b1, .int .u64 b2]] w fun e w' => e = .returned (.tuple #[.agg #[.int .u64 (red (a1 - red (b1 * red (a2 * inv b2)))), .int .u64 (red (a2 * inv b2))], .nilIface]) ∧ Below w.heap.size w w' := by
  have I := Lib.hid (inv_some b2 hb2 h1)
  have t : (red a2 == 0) = false := by rw [beq_eq_false_iff_ne]; exact h2
  clear h1 h2
  obtain ⟨y, hy⟩ : ∃ y, y = inv b2 := ⟨_, rfl⟩
  have uy : U y := hy ▸ u_inv b2
  rw [← hy] at I ⊢
  have HY := Lib.hid hy
  clear hy
  have n1 : w.heap.size < w.heap.size + 1 + 1 := by omega
  have n2 : w.heap.size < w.heap.size + 1 + 1 + 1 := by omega
  have n3 : w.heap.size + 1 < w.heap.size + 1 + 1 + 1 := by omega
  go_enter Try.func21, Try.ntmps21
  go_wp2_with fail
  (with_reducible refine (I.out _).mono ?_)
  rintro e w' ⟨rfl, rfl⟩
  go_wp2_with fail
  (with_reducible refine (reduce_any a2 ha2.lo ha2.hi _).mono ?_)
  rintro e w' ⟨rfl, rfl⟩
  go_wp2_with fail
  (with_reducible refine (mul_any a2 y ha2.lo ha2.hi uy.lo uy.hi _).mono ?_)
  rintro e w' ⟨rfl, rfl⟩
  go_wp2_with fail
  go_region_held3 (fun w' => w'.cell? ⟨w.heap.size, 0, none⟩ = some (.int .u64 a1) ∧ w'.cell? ⟨w.heap.size, 1, none⟩ = some (.int .u64 a2) ∧ w'.cell? ⟨w.heap.size + 1, 0, none⟩ = some (.int .u64 b1) ∧ w'.cell? ⟨w.heap.size + 1, 1, none⟩ = some (.int .u64 b2)) (go_keep)
    (first
      | (go_at_call 32; ((with_reducible refine (mul_any _ _ ?p1 ?p2 ?p3 ?p4 _).mono ?_)); (case p1 => first | exact rl _ | exact hb1.lo | exact ha2.lo); (case p2 => first | exact rh _ | exact hb1.hi | exact ha2.hi); (case p3 => first | exact rl _ | exact uy.lo); (case p4 => first | exact rh _ | exact uy.hi); rintro e wa ⟨rfl, rfl⟩)
      | (go_at_call 35; ((with_reducible refine (sub_any _ _ ha1.lo ha1.hi ?p1 ?p2 _).mono ?_)); (case p1 => first | exact rl _ | exact hb1.lo); (case p2 => first | exact rh _ | exact hb1.hi); rintro e wa ⟨rfl, rfl⟩))
  all_goals
    go_wp2
    refine bodyPost_ret (v := .tuple #[.agg #[.int .u64 (red (a1 - red (b1 * red (a2 * y)))), .int .u64 (red (a2 * y))], .nilIface]) ?_ rfl ⟨rfl, ?_⟩
    · simp only [results, Try.results21]
      simp [go_sem]
    · repeat (first | exact Below.refl _ _ | (with_reducible refine Below.drew ?_) | (with_reducible refine Below.alloc ?_ (by first | (simp; done) | (simp; omega)) _) | (with_reducible refine Below.setCell ?_ (by first | (simp; done) | (simp; omega)) _))
set_option maxHeartbeats 1000000 in
theorem front_bad (a1 a2 b1 b2 : Int) (ha2 : U a2) (hb2 : U b2) (hz : red b2 = 0 ∨ red a2 = 0) (w : World) :
    Calls Try.prog 22 #[.agg #[.int .u64 a1, .int .u64 a2], .agg #[.int .u64 b1, .int .u64 b2]] w fun e w' => e = .returned (.tuple #[.agg #[.int .u64 0, .int .u64 0], .iface 48 (.int .i64 1)]) ∧ Below w.heap.size w w' := by
  have bel : ∀ o1 o2 o3 : Obj, Below w.heap.size w (((w.alloc o1).alloc o2).alloc o3) := fun o1 o2 o3 => (((Below.refl _ _).alloc (Nat.le_refl _) _).alloc (by simp) _).alloc (by simp; omega) _
  by_cases h1 : red b2 = 0
  · have I := Lib.hid (inverse_zero b2 hb2.lo hb2.hi h1)
    have HB := Lib.hid bel
    clear hz h1 bel
    go_enter Try.func22, Try.ntmps22
    go_wp2_with fail
    (with_reducible refine (I.out _).mono ?_)
    rintro e w' ⟨rfl, rfl⟩
    go_wp2_with fail
    refine bodyPost_ret (v := .tuple #[.agg #[.int .u64 0, .int .u64 0], .iface 48 (.int .i64 1)]) ?_ rfl ⟨rfl, ?_⟩
    · simp only [results, Try.results22]
      simp [go_sem]
    · exact HB.out _ _ _
  · have h2 : red a2 = 0 := by rcases hz with h | h; exact absurd h h1; exact h
    have I := Lib.hid (inv_some b2 hb2 h1)
    have t : (red a2 == 0) = true := by rw [beq_iff_eq]; exact h2
    have HB := Lib.hid bel
    clear hz h1 h2 bel
    go_enter Try.func22, Try.ntmps22
    go_wp2_with fail
    (with_reducible refine (I.out _).mono ?_)
    rintro e w' ⟨rfl, rfl⟩
    go_wp2_with fail
    (with_reducible refine (reduce_any a2 ha2.lo ha2.hi _).mono ?_)
    rintro e w' ⟨rfl, rfl⟩
    go_wp2_with fail
    refine bodyPost_ret (v := .tuple #[.agg #[.int .u64 0, .int .u64 0], .iface 48 (.int .i64 1)]) ?_ rfl ⟨rfl, ?_⟩
    · simp only [results, Try.results22]
      simp [go_sem]
    · exact HB.out _ _ _
set_option maxHeartbeats 2000000 in
theorem front_ok (a1 a2 b1 b2 : Int) (ha1 : U a1) (ha2 : U a2) (hb1 : U b1) (hb2 : U b2) (h1 : red b2 ≠ 0) (h2 : red a2 ≠ 0) (w : World) :
    Calls Try.prog 22 #[.agg #[.int .u64 a1, .int .u64 a2], .agg #[.int .u64 b1, .int .u64 b2]] w fun e w' => e = .returned (.tuple #[.agg #[.int .u64 (red (red (a1 - b1) * inv b2)), .int .u64 (red (a2 * inv b2))], .nilIface]) ∧ Below w.heap.size w w' := by
  have I := Lib.hid (inv_some b2 hb2 h1)
  have t : (red a2 == 0) = false := by rw [beq_eq_false_iff_ne]; exact h2
  clear h1 h2
  obtain ⟨y, hy⟩ : ∃ y, y = inv b2 := ⟨_, rfl⟩
  have uy : U y := hy ▸ u_inv b2
  rw [← hy] at I ⊢
  have HY := Lib.hid hy
  clear hy
  have n1 : w.heap.size < w.heap.size + 1 + 1 := by omega
  have n2 : w.heap.size < w.heap.size + 1 + 1 + 1 := by omega
  have n3 : w.heap.size + 1 < w.heap.size + 1 + 1 + 1 := by omega
  go_enter Try.func22, Try.ntmps22
  go_wp2_with fail
  (with_reducible refine (I.out _).mono ?_)
  rintro e w' ⟨rfl, rfl⟩
  go_wp2_with fail
  (with_reducible refine (reduce_any a2 ha2.lo ha2.hi _).mono ?_)
  rintro e w' ⟨rfl, rfl⟩
  skip
  go_wp2_with fail
  go_region_held3 (fun w' => w'.cell? ⟨w.heap.size, 0, none⟩ = some (.int .u64 a1) ∧ w'.cell? ⟨w.heap.size, 1, none⟩ = some (.int .u64 a2) ∧ w'.cell? ⟨w.heap.size + 1, 0, none⟩ = some (.int .u64 b1) ∧ w'.cell? ⟨w.heap.size + 1, 1, none⟩ = some (.int .u64 b2)) (go_keep)
    (first
      | (go_at_call 32; ((with_reducible refine (mul_any _ _ ?p1 ?p2 ?p3 ?p4 _).mono ?_)); (case p1 => first | exact rl _ | exact hb1.lo | exact ha2.lo); (case p2 => first | exact rh _ | exact hb1.hi | exact ha2.hi); (case p3 => first | exact rl _ | exact uy.lo); (case p4 => first | exact rh _ | exact uy.hi); rintro e wa ⟨rfl, rfl⟩)
      | (go_at_call 35; ((with_reducible refine (sub_any _ _ ha1.lo ha1.hi ?p1 ?p2 _).mono ?_)); (case p1 => first | exact rl _ | exact hb1.lo); (case p2 => first | exact rh _ | exact hb1.hi); rintro e wa ⟨rfl, rfl⟩))
  all_goals
    go_wp2
    refine bodyPost_ret (v := .tuple #[.agg #[.int .u64 (red (red (a1 - b1) * y)), .int .u64 (red (a2 * y))], .nilIface]) ?_ rfl ⟨rfl, ?_⟩
    · simp only [results, Try.results22]
      simp [go_sem]
    · repeat (first | exact Below.refl _ _ | (with_reducible refine Below.drew ?_) | (with_reducible refine Below.alloc ?_ (by first | (simp; done) | (simp; omega)) _) | (with_reducible refine Below.setCell ?_ (by first | (simp; done) | (simp; omega)) _))
end Go.Proofs.Ytebjdlimboifaaa
