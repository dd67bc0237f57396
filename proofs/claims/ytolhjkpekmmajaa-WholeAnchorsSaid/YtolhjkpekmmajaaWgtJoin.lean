/- The walks of weight.Join, and of evergreenref06.join, Join. -/
import Derived.Test.YtolhjkpekmmajaaWgtOf
import Derived.Test.YtolhjkpekmmajaaWgtRef
import Derived.Test.YtolhjkpekmmajaaWgtAlive
namespace Go.Proofs.Ytolhjkpekmmajaa
set_option linter.unusedVariables false
set_option linter.unusedSimpArgs false
open Go.RowKit Go.Lib

def vW (a : Wt) : Bool := vB a.n a.l a.h a.t a.v a.s
def zW : Wt := ⟨0, 0, 0, 0, 0, 0⟩
def jnW (a b : Wt) : Wt := ⟨a.n + b.n, a.l + b.l, if a.l = 0 then a.n + b.h else a.h, if b.l = 0 then b.n + a.t else b.t, red (a.v * b.s + b.v), red (a.s * b.s)⟩
def joinW (a b : Wt) : Wt × Int := if vW a && vW b then (if a.n + b.n ≤ 1152921504606846976 then (jnW a b, 0) else (zW, 2)) else (zW, 4)
/-- what a valid weight's fields are. -/
structure Fit (a : Wt) : Prop where
  n0 : 0 ≤ a.n
  n1 : a.n ≤ 1152921504606846976
  l0 : 0 ≤ a.l
  l1 : a.l ≤ a.n
  h0 : 0 ≤ a.h
  h1 : a.h ≤ a.n
  t0 : 0 ≤ a.t
  t1 : a.t ≤ a.n
  v0 : 0 ≤ a.v
  v1 : a.v < 2305843009213693951
  s0 : 0 ≤ a.s
  s1 : a.s < 2305843009213693951
theorem vW_fit {a : Wt} (h : vW a = true) : fitW a.n a.l a.h a.t a.v ∧ a.s = scB a.n := by
  unfold vW vB at h
  rw [Bool.and_eq_true, decide_eq_true_iff, beq_iff_eq] at h
  exact h
theorem Fit.of {a : Wt} (hok : WOk a) (h : vW a = true) : Fit a := by
  obtain ⟨hf, hs⟩ := vW_fit h
  have s0 : 0 ≤ a.s := by rw [hs]; exact red_lo _
  have s1 : a.s < 2305843009213693951 := by rw [hs]; exact red_hi _
  have v0 := hok.uv.lo
  unfold fitW at hf
  constructor <;> omega
theorem wvalid_v (x : Wt) (h : WOk x) (q : Bool) (hq : vW x = q) (w : World) : Calls Try.prog 83 #[.agg #[.int .i64 x.n, .int .i64 x.l, .int .i64 x.h, .int .i64 x.t, .int .u64 x.v, .int .u64 x.s]] w fun e w' => e = .returned (.bool q) ∧ Below w.heap.size w w' := by subst hq; exact wvalid_w x h w
theorem Box.new_ {w : World} {g : Nat} {t : TypeId} {cs : Array Value} (hg : g = w.heap.size) : Box (w.alloc (.cells cs t)) g t cs := by subst hg; exact Box.new w t cs
/-- the three blocks that a function of two weights begins with. -/
theorem three (w : World) (a b : Wt) (t : TypeId) (z : Array Value) :
    Box (((w.alloc (.cells #[.int .i64 a.n, .int .i64 a.l, .int .i64 a.h, .int .i64 a.t, .int .u64 a.v, .int .u64 a.s] t)).alloc (.cells #[.int .i64 b.n, .int .i64 b.l, .int .i64 b.h, .int .i64 b.t, .int .u64 b.v, .int .u64 b.s] t)).alloc (.cells z t)) w.heap.size t #[.int .i64 a.n, .int .i64 a.l, .int .i64 a.h, .int .i64 a.t, .int .u64 a.v, .int .u64 a.s] ∧
    Box (((w.alloc (.cells #[.int .i64 a.n, .int .i64 a.l, .int .i64 a.h, .int .i64 a.t, .int .u64 a.v, .int .u64 a.s] t)).alloc (.cells #[.int .i64 b.n, .int .i64 b.l, .int .i64 b.h, .int .i64 b.t, .int .u64 b.v, .int .u64 b.s] t)).alloc (.cells z t)) (w.heap.size + 1) t #[.int .i64 b.n, .int .i64 b.l, .int .i64 b.h, .int .i64 b.t, .int .u64 b.v, .int .u64 b.s] ∧
    Box (((w.alloc (.cells #[.int .i64 a.n, .int .i64 a.l, .int .i64 a.h, .int .i64 a.t, .int .u64 a.v, .int .u64 a.s] t)).alloc (.cells #[.int .i64 b.n, .int .i64 b.l, .int .i64 b.h, .int .i64 b.t, .int .u64 b.v, .int .u64 b.s] t)).alloc (.cells z t)) (w.heap.size + 1 + 1) t z ∧
    Below w.heap.size w (((w.alloc (.cells #[.int .i64 a.n, .int .i64 a.l, .int .i64 a.h, .int .i64 a.t, .int .u64 a.v, .int .u64 a.s] t)).alloc (.cells #[.int .i64 b.n, .int .i64 b.l, .int .i64 b.h, .int .i64 b.t, .int .u64 b.v, .int .u64 b.s] t)).alloc (.cells z t)) :=
  ⟨((Box.new w _ _).alloc _).alloc _, (Box.new_ (by simp)).alloc _, Box.new_ (by simp), balloc (balloc (balloc (Below.refl _ _) _) _) _⟩
theorem lenadd_yes (a b : Int) (a0 : 0 ≤ a) (a1 : a ≤ 1152921504606846976) (b0 : 0 ≤ b) (b1 : b ≤ 1152921504606846976) (h : a + b ≤ 1152921504606846976) (w : World) : Calls Try.prog 40 #[.int .i64 a, .int .i64 b] w fun e w' => e = .returned (.tuple #[.int .i64 (a + b), .nilIface]) ∧ w = w' := by
  have := lenadd_any a b w
  rwa [show lenAdd a b = (a + b, 0) by unfold lenAdd; simp [vld_yes a a0 a1, vld_yes b b0 b1, h]] at this
theorem lenadd_long (a b : Int) (a0 : 0 ≤ a) (a1 : a ≤ 1152921504606846976) (b0 : 0 ≤ b) (b1 : b ≤ 1152921504606846976) (h : ¬ a + b ≤ 1152921504606846976) (w : World) : Calls Try.prog 40 #[.int .i64 a, .int .i64 b] w fun e w' => e = .returned (.tuple #[.int .i64 0, .iface 72 (.int .i64 2)]) ∧ w = w' := by
  have := lenadd_any a b w
  rwa [show lenAdd a b = (0, 2) by unfold lenAdd; simp [vld_yes a a0 a1, vld_yes b b0 b1, h]] at this

attribute [local go_sem ↓] Go.wp_at_zero Go.wp_at_succ
set_option maxRecDepth 100000 in
set_option maxHeartbeats 2000000 in
theorem wjoin_bada (a b : Wt) (ha : WOk a) (hb : WOk b) (ea : vW a = false) (w : World) :
    Calls Try.prog 78 #[.agg #[.int .i64 a.n, .int .i64 a.l, .int .i64 a.h, .int .i64 a.t, .int .u64 a.v, .int .u64 a.s], .agg #[.int .i64 b.n, .int .i64 b.l, .int .i64 b.h, .int .i64 b.t, .int .u64 b.v, .int .u64 b.s]] w fun e w' => e = .returned (.tuple #[.agg #[.int .i64 zW.n, .int .i64 zW.l, .int .i64 zW.h, .int .i64 zW.t, .int .u64 zW.v, .int .u64 zW.s], .iface 72 (.int .i64 4)]) ∧ Below w.heap.size w w' := by
  obtain ⟨PA, PB, PR, BW⟩ := three w a b 110 #[.int .i64 0, .int .i64 0, .int .i64 0, .int .i64 0, .int .u64 0, .int .u64 0]
  have HA := Lib.hid (wvalid_v a ha _ ea)
  clear ea 
  go_enter Try.func78, Try.ntmps78
  go_upto_region 1 with fail
  refine region_lin0 (.val (fun v _ => v = .agg #[.int .i64 a.n, .int .i64 a.l, .int .i64 a.h, .int .i64 a.t, .int .u64 a.v, .int .u64 a.s]) :: .val (fun v _ => v = .bool false) :: .val (fun v _ => v = .bool true) :: .val (fun v _ => v = .bool true) :: .val (fun v _ => v = undef) :: .val (fun v _ => v = undef) :: .val (fun v _ => v = undef) :: .val (fun v _ => v = .bool true) :: [])
    ([] :: [(9, 0)] :: [(10, 1)] :: [(11, 2)] :: [(12, 3)] :: [(13, 4), (12, 3)] :: [(14, 5), (12, 3)] :: [(12, 3), (15, 6)] :: []) ((0, 0) :: (0, 0) :: (0, 0) :: (0, 0) :: (0, 0) :: (0, 0) :: (0, 0) :: (0, 0) :: []) 66 (by kernel_rfl) rfl rfl (by kernel_rfl) ⟨Stab.pure _ _ _, Stab.pure _ _ _, Stab.pure _ _ _, Stab.pure _ _ _, Stab.pure _ _ _, Stab.pure _ _ _, Stab.pure _ _ _, Stab.pure _ _ _, trivial⟩ ⟨?_, ?_, ?_, ?_, ?_, ?_, ?_, ?_, trivial⟩ ?_
  · intro wx hb
    intro K hK
    exact wp_load_row 110 (.tmp 2) rfl w.heap.size rfl 110 _ (0, 0) _ (Box.below (PA) hb (Box.lt (PA))) Try.underlying110 rfl (by kernel_rfl) (hK _ _ rfl ⟨rfl, Below.refl _ _⟩)
  · intro wx hb
    rintro _ rfl
    intro K hK
    go_simp
    (with_reducible refine (HA.out _).mono ?_)
    rintro e wa ⟨rfl, Ba⟩
    exact hK _ _ rfl ⟨rfl, Ba⟩
  · intro wx hb
    rintro _ rfl
    intro K hK
    go_simp
    exact hK _ _ rfl ⟨rfl, Below.refl _ _⟩
  · intro wx hb
    rintro _ rfl
    intro K hK
    go_simp
    exact hK _ _ rfl ⟨rfl, Below.refl _ _⟩
  · intro wx hb
    rintro _ rfl
    exact ⟨fun h => absurd (show false = true from h) (by decide), fun _ => ⟨rfl, Below.refl _ _⟩⟩
  · intro wx hb
    intro vq hq; have hq : vq = undef := hq; subst vq
    rintro _ rfl
    exact ⟨fun h => absurd (show false = true from h) (by decide), fun _ => ⟨rfl, Below.refl _ _⟩⟩
  · intro wx hb
    intro vq hq; have hq : vq = undef := hq; subst vq
    rintro _ rfl
    exact ⟨fun h => absurd (show false = true from h) (by decide), fun _ => ⟨rfl, Below.refl _ _⟩⟩
  · intro wx hb
    rintro _ rfl
    intro vq hq; have hq : vq = undef := hq; subst vq
    intro K hK
    go_simp
    exact hK _ _ rfl ⟨rfl, Below.refl _ _⟩
  intro w1 B1
  have PR := Box.below PR B1 (Box.lt PR)
  have BW := bkeep BW B1
  rintro _ rfl
  rintro _ rfl
  rintro _ rfl
  rintro _ rfl
  intro vq hq; have hq : vq = undef := hq; subst vq
  intro vq hq; have hq : vq = undef := hq; subst vq
  intro vq hq; have hq : vq = undef := hq; subst vq
  rintro _ rfl
  rintro -
  simp only [Act.put, List.setIfInBounds_toArray, List.set_cons_zero, List.set_cons_succ, List.toList_toArray, List.length_cons, List.length_nil, List.drop_succ_cons, List.drop_zero, List.drop_nil, Nat.zero_add, wpList]
  have y0 : w1.cell? ⟨w.heap.size + 1 + 1, 0, none⟩ = some (.int .i64 0) := PR.cell 0
  have y1 : w1.cell? ⟨w.heap.size + 1 + 1, 1, none⟩ = some (.int .i64 0) := PR.cell 1
  have y2 : w1.cell? ⟨w.heap.size + 1 + 1, 2, none⟩ = some (.int .i64 0) := PR.cell 2
  have y3 : w1.cell? ⟨w.heap.size + 1 + 1, 3, none⟩ = some (.int .i64 0) := PR.cell 3
  have y4 : w1.cell? ⟨w.heap.size + 1 + 1, 4, none⟩ = some (.int .u64 0) := PR.cell 4
  have y5 : w1.cell? ⟨w.heap.size + 1 + 1, 5, none⟩ = some (.int .u64 0) := PR.cell 5
  have f0 := PR.free 0; have f1 := PR.free 1; have f2 := PR.free 2; have f3 := PR.free 3; have f4 := PR.free 4; have f5 := PR.free 5
  have lt := PR.lt
  have HBW := Lib.hid BW
  clear B1 PA PB PR BW
  go_wp2_with fail
  refine bodyPost_ret (v := .tuple #[.agg #[.int .i64 0, .int .i64 0, .int .i64 0, .int .i64 0, .int .u64 0, .int .u64 0], .iface 72 (.int .i64 4)]) ?_ rfl ⟨rfl, ?_⟩
  · simp only [results, Try.results78]
    simp [go_sem, y0, y1, y2, y3, y4, y5]
  · exact (((((HBW.out.setCell (by simp; omega) _).setCell (by simp; omega) _).setCell (by simp; omega) _).setCell (by simp; omega) _).setCell (by simp; omega) _).setCell (by simp; omega) _
set_option maxRecDepth 100000 in
set_option maxHeartbeats 2000000 in
theorem wjoin_badb (a b : Wt) (ha : WOk a) (hb : WOk b) (ea : vW a = true) (eb : vW b = false) (w : World) :
    Calls Try.prog 78 #[.agg #[.int .i64 a.n, .int .i64 a.l, .int .i64 a.h, .int .i64 a.t, .int .u64 a.v, .int .u64 a.s], .agg #[.int .i64 b.n, .int .i64 b.l, .int .i64 b.h, .int .i64 b.t, .int .u64 b.v, .int .u64 b.s]] w fun e w' => e = .returned (.tuple #[.agg #[.int .i64 zW.n, .int .i64 zW.l, .int .i64 zW.h, .int .i64 zW.t, .int .u64 zW.v, .int .u64 zW.s], .iface 72 (.int .i64 4)]) ∧ Below w.heap.size w w' := by
  obtain ⟨PA, PB, PR, BW⟩ := three w a b 110 #[.int .i64 0, .int .i64 0, .int .i64 0, .int .i64 0, .int .u64 0, .int .u64 0]
  have HA := Lib.hid (wvalid_v a ha _ ea)
  have HB := Lib.hid (wvalid_v b hb _ eb)
  clear ea eb
  go_enter Try.func78, Try.ntmps78
  go_upto_region 1 with fail
  refine region_lin0 (.val (fun v _ => v = .agg #[.int .i64 a.n, .int .i64 a.l, .int .i64 a.h, .int .i64 a.t, .int .u64 a.v, .int .u64 a.s]) :: .val (fun v _ => v = .bool true) :: .val (fun v _ => v = .bool false) :: .val (fun v _ => v = .bool false) :: .val (fun v _ => v = .agg #[.int .i64 b.n, .int .i64 b.l, .int .i64 b.h, .int .i64 b.t, .int .u64 b.v, .int .u64 b.s]) :: .val (fun v _ => v = .bool false) :: .val (fun v _ => v = .bool true) :: .val (fun v _ => v = .bool true) :: [])
    ([] :: [(9, 0)] :: [(10, 1)] :: [(11, 2)] :: [(12, 3)] :: [(13, 4), (12, 3)] :: [(14, 5), (12, 3)] :: [(12, 3), (15, 6)] :: []) ((0, 0) :: (0, 0) :: (0, 0) :: (0, 0) :: (0, 0) :: (0, 0) :: (0, 0) :: (0, 0) :: []) 66 (by kernel_rfl) rfl rfl (by kernel_rfl) ⟨Stab.pure _ _ _, Stab.pure _ _ _, Stab.pure _ _ _, Stab.pure _ _ _, Stab.pure _ _ _, Stab.pure _ _ _, Stab.pure _ _ _, Stab.pure _ _ _, trivial⟩ ⟨?_, ?_, ?_, ?_, ?_, ?_, ?_, ?_, trivial⟩ ?_
  · intro wx hb
    intro K hK
    exact wp_load_row 110 (.tmp 2) rfl w.heap.size rfl 110 _ (0, 0) _ (Box.below (PA) hb (Box.lt (PA))) Try.underlying110 rfl (by kernel_rfl) (hK _ _ rfl ⟨rfl, Below.refl _ _⟩)
  · intro wx hb
    rintro _ rfl
    intro K hK
    go_simp
    (with_reducible refine (HA.out _).mono ?_)
    rintro e wa ⟨rfl, Ba⟩
    exact hK _ _ rfl ⟨rfl, Ba⟩
  · intro wx hb
    rintro _ rfl
    intro K hK
    go_simp
    exact hK _ _ rfl ⟨rfl, Below.refl _ _⟩
  · intro wx hb
    rintro _ rfl
    intro K hK
    go_simp
    exact hK _ _ rfl ⟨rfl, Below.refl _ _⟩
  · intro wx hb
    rintro _ rfl
    refine ⟨fun _ => ?_, fun h => absurd (show true = false from h) (by decide)⟩
    intro K hK
    exact wp_load_row 110 (.tmp 3) rfl (w.heap.size + 1) rfl 110 _ (0, 0) _ (Box.below (PB) hb (Box.lt (PB))) Try.underlying110 rfl (by kernel_rfl) (hK _ _ rfl ⟨rfl, Below.refl _ _⟩)
  · intro wx hb
    rintro _ rfl
    rintro _ rfl
    refine ⟨fun _ => ?_, fun h => absurd (show true = false from h) (by decide)⟩
    intro K hK
    go_simp
    (with_reducible refine (HB.out _).mono ?_)
    rintro e wa ⟨rfl, Ba⟩
    exact hK _ _ rfl ⟨rfl, Ba⟩
  · intro wx hb
    rintro _ rfl
    rintro _ rfl
    refine ⟨fun _ => ?_, fun h => absurd (show true = false from h) (by decide)⟩
    intro K hK
    go_simp
    exact hK _ _ rfl ⟨rfl, Below.refl _ _⟩
  · intro wx hb
    rintro _ rfl
    rintro _ rfl
    intro K hK
    go_simp
    exact hK _ _ rfl ⟨rfl, Below.refl _ _⟩
  intro w1 B1
  have PR := Box.below PR B1 (Box.lt PR)
  have BW := bkeep BW B1
  rintro _ rfl
  rintro _ rfl
  rintro _ rfl
  rintro _ rfl
  rintro _ rfl
  rintro _ rfl
  rintro _ rfl
  rintro _ rfl
  rintro -
  simp only [Act.put, List.setIfInBounds_toArray, List.set_cons_zero, List.set_cons_succ, List.toList_toArray, List.length_cons, List.length_nil, List.drop_succ_cons, List.drop_zero, List.drop_nil, Nat.zero_add, wpList]
  have y0 : w1.cell? ⟨w.heap.size + 1 + 1, 0, none⟩ = some (.int .i64 0) := PR.cell 0
  have y1 : w1.cell? ⟨w.heap.size + 1 + 1, 1, none⟩ = some (.int .i64 0) := PR.cell 1
  have y2 : w1.cell? ⟨w.heap.size + 1 + 1, 2, none⟩ = some (.int .i64 0) := PR.cell 2
  have y3 : w1.cell? ⟨w.heap.size + 1 + 1, 3, none⟩ = some (.int .i64 0) := PR.cell 3
  have y4 : w1.cell? ⟨w.heap.size + 1 + 1, 4, none⟩ = some (.int .u64 0) := PR.cell 4
  have y5 : w1.cell? ⟨w.heap.size + 1 + 1, 5, none⟩ = some (.int .u64 0) := PR.cell 5
  have f0 := PR.free 0; have f1 := PR.free 1; have f2 := PR.free 2; have f3 := PR.free 3; have f4 := PR.free 4; have f5 := PR.free 5
  have lt := PR.lt
  have HBW := Lib.hid BW
  clear B1 PA PB PR BW
  go_wp2_with fail
  refine bodyPost_ret (v := .tuple #[.agg #[.int .i64 0, .int .i64 0, .int .i64 0, .int .i64 0, .int .u64 0, .int .u64 0], .iface 72 (.int .i64 4)]) ?_ rfl ⟨rfl, ?_⟩
  · simp only [results, Try.results78]
    simp [go_sem, y0, y1, y2, y3, y4, y5]
  · exact (((((HBW.out.setCell (by simp; omega) _).setCell (by simp; omega) _).setCell (by simp; omega) _).setCell (by simp; omega) _).setCell (by simp; omega) _).setCell (by simp; omega) _
end Go.Proofs.Ytolhjkpekmmajaa
