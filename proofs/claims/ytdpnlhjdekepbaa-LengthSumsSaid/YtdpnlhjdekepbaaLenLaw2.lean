/- The walks of the laws of chapter 1. -/
import Derived.Test.YtdpnlhjdekepbaaLenLaw
import Derived.Laws.BitsAllLaws
import Derived.Laws.BitsLemmas
namespace Go.Proofs.Ytdpnlhjdekepbaa
set_option linter.unusedVariables false
set_option linter.unusedSimpArgs false
open Go.RowKit Go.Lib

theorem law_adds (a b : Int) (w : World) : Calls Try.prog 3 #[.int .i64 a, .int .i64 b] w fun e w' => e = .returned (.bool true) ∧ w = w' := by
  go_enter Try.func3, Try.ntmps3
  go_wp2_with fail
  (with_reducible refine (lenadd_any a b _).mono ?_)
  rintro e w' ⟨rfl, rfl⟩
  go_wp2_with fail
  (with_reducible refine (refadd1_any a b _).mono ?_)
  rintro e w' ⟨rfl, rfl⟩
  go_wp2_with fail
  (with_reducible refine (awake_any _).mono ?_)
  rintro e w' ⟨rfl, rfl⟩
  go_wp2_with fail
  (with_reducible refine (num_any _ _).mono ?_)
  rintro e w' ⟨rfl, rfl⟩
  go_wp2_with fail
  go_ret
  exact ⟨rfl, rfl⟩
theorem law_subs (a b : Int) (w : World) : Calls Try.prog 5 #[.int .i64 a, .int .i64 b] w fun e w' => e = .returned (.bool true) ∧ w = w' := by
  go_enter Try.func5, Try.ntmps5
  go_wp2_with fail
  (with_reducible refine (lensub_any a b _).mono ?_)
  rintro e w' ⟨rfl, rfl⟩
  go_wp2_with fail
  (with_reducible refine (refsub1_any a b _).mono ?_)
  rintro e w' ⟨rfl, rfl⟩
  go_wp2_with fail
  (with_reducible refine (awake_any _).mono ?_)
  rintro e w' ⟨rfl, rfl⟩
  go_wp2_with fail
  (with_reducible refine (num_any _ _).mono ?_)
  rintro e w' ⟨rfl, rfl⟩
  go_wp2_with fail
  go_ret
  exact ⟨rfl, rfl⟩
theorem law_muls (a b : Int) (w : World) : Calls Try.prog 10 #[.int .i64 a, .int .i64 b] w fun e w' => e = .returned (.bool true) ∧ w = w' := by
  go_enter Try.func10, Try.ntmps10
  go_wp2_with fail
  (with_reducible refine (lenmul_any a b _).mono ?_)
  rintro e w' ⟨rfl, rfl⟩
  go_wp2_with fail
  (with_reducible refine (refmul1_any a b _).mono ?_)
  rintro e w' ⟨rfl, rfl⟩
  go_wp2_with fail
  (with_reducible refine (awake_any _).mono ?_)
  rintro e w' ⟨rfl, rfl⟩
  go_wp2_with fail
  (with_reducible refine (num_any _ _).mono ?_)
  rintro e w' ⟨rfl, rfl⟩
  go_wp2_with fail
  go_ret
  exact ⟨rfl, rfl⟩

def clipped (n l h : Int) : Int := if n < l then l else if h < n then h else n
theorem clip_any (n l h : Int) (w : World) : Calls Try.prog 22 #[.int .i64 n, .int .i64 l, .int .i64 h] w fun e w' => e = .returned (.int .i64 (clipped n l h)) ∧ w = w' := by
  by_cases c1 : n < l
  · have H := Lib.hid (show clipped n l h = l by unfold clipped; rw [if_pos c1])
    go_enter Try.func22, Try.ntmps22
    go_wp2_with fail
    go_ret
    exact ⟨by rw [H.out]; rfl, rfl⟩
  · by_cases c2 : h < n
    · have H := Lib.hid (show clipped n l h = h by unfold clipped; rw [if_neg c1, if_pos c2])
      go_enter Try.func22, Try.ntmps22
      go_wp2_with fail
      go_ret
      exact ⟨by rw [H.out]; rfl, rfl⟩
    · have H := Lib.hid (show clipped n l h = n by unfold clipped; rw [if_neg c1, if_neg c2])
      go_enter Try.func22, Try.ntmps22
      go_wp2_with fail
      go_ret
      exact ⟨by rw [H.out]; rfl, rfl⟩
theorem rclip_any (n l h : Int) (w : World) : Calls Try.prog 23 #[.int .i64 n, .int .i64 l, .int .i64 h] w fun e w' => e = .returned (.int .i64 (clipped n l h)) ∧ w = w' := by
  by_cases c1 : n < l
  · have H := Lib.hid (show clipped n l h = l by unfold clipped; rw [if_pos c1])
    go_enter Try.func23, Try.ntmps23
    go_wp2_with fail
    go_ret
    exact ⟨by rw [H.out]; rfl, rfl⟩
  · by_cases c2 : h < n
    · have H := Lib.hid (show clipped n l h = h by unfold clipped; rw [if_neg c1, if_pos c2])
      go_enter Try.func23, Try.ntmps23
      go_wp2_with fail
      go_ret
      exact ⟨by rw [H.out]; rfl, rfl⟩
    · have H := Lib.hid (show clipped n l h = n by unfold clipped; rw [if_neg c1, if_neg c2])
      go_enter Try.func23, Try.ntmps23
      go_wp2_with fail
      go_ret
      exact ⟨by rw [H.out]; rfl, rfl⟩
theorem law_clips (n l h : Int) (w : World) : Calls Try.prog 8 #[.int .i64 n, .int .i64 l, .int .i64 h] w fun e w' => e = .returned (.bool true) ∧ w = w' := by
  go_enter Try.func8, Try.ntmps8
  go_wp2_with fail
  (with_reducible refine (awake_any _).mono ?_)
  rintro e w' ⟨rfl, rfl⟩
  go_wp2_with fail
  (with_reducible refine (clip_any n l h _).mono ?_)
  rintro e w' ⟨rfl, rfl⟩
  go_wp2_with fail
  (with_reducible refine (rclip_any n l h _).mono ?_)
  rintro e w' ⟨rfl, rfl⟩
  go_wp2_with fail
  go_ret
  exact ⟨rfl, rfl⟩

/-- the ways through a range's tests: all hold, or the first that fails. -/
def RangeWay (f n s : Int) (p : Prop) : Prop :=
  (vld s = true ∧ 0 ≤ s ∧ s ≤ 1152921504606846976 ∧ 0 ≤ f ∧ 0 ≤ n ∧ f ≤ s ∧ n ≤ s - f ∧ p) ∨ ¬ p ∧ ((vld s = false) ∨ (vld s = true ∧ f < 0) ∨ (vld s = true ∧ 0 ≤ f ∧ n < 0) ∨ (vld s = true ∧ 0 ≤ f ∧ 0 ≤ n ∧ s < f) ∨ (vld s = true ∧ 0 ≤ f ∧ 0 ≤ n ∧ f ≤ s ∧ 0 ≤ s ∧ s ≤ 1152921504606846976 ∧ s - f < n))
def rng (f n s : Int) : Bool := vld s && decide (0 ≤ f) && decide (0 ≤ n) && decide (f ≤ s) && decide (n ≤ s - f)
theorem range_way (f n s : Int) : RangeWay f n s (rng f n s = true) := by
  unfold RangeWay
  rcases vld_cases s with ⟨vs, s0, s1⟩ | ⟨vs, _⟩
  · by_cases h : 0 ≤ f ∧ 0 ≤ n ∧ f ≤ s ∧ n ≤ s - f
    · exact .inl ⟨vs, s0, s1, h.1, h.2.1, h.2.2.1, h.2.2.2, by unfold rng; simp [vs, h]⟩
    · refine .inr ⟨fun e => h (by unfold rng at e; simp [vs] at e; omega), .inr ?_⟩
      by_cases a : 0 ≤ f
      · by_cases b : 0 ≤ n
        · by_cases c : f ≤ s
          · exact .inr (.inr (.inr ⟨vs, a, b, c, s0, s1, by omega⟩))
          · exact .inr (.inr (.inl ⟨vs, a, b, by omega⟩))
        · exact .inr (.inl ⟨vs, a, by omega⟩)
      · exact .inl ⟨vs, by omega⟩
  · exact .inr ⟨fun e => by unfold rng at e; simp [vs] at e, .inl vs⟩
theorem range_yes (f n s : Int) (h : rng f n s = true) (w : World) : Calls Try.prog 19 #[.int .i64 f, .int .i64 n, .int .i64 s] w fun e w' => e = .returned .nilIface ∧ w = w' := by
  rcases range_way f n s with ⟨vs, s0, s1, a, b, c, d, _⟩ | ⟨no, _⟩
  · clear h
    go_enter Try.func19, Try.ntmps19
    go_wp2_with fail
    (with_reducible refine (valid_any s _).mono ?_)
    rintro e w' ⟨rfl, rfl⟩
    go_wp2_with fail
    go_ret
    exact ⟨rfl, rfl⟩
  · exact absurd h no
theorem range_no (f n s : Int) (h : rng f n s = false) (w : World) : Calls Try.prog 19 #[.int .i64 f, .int .i64 n, .int .i64 s] w fun e w' => e = .returned (.iface 40 (.int .i64 1)) ∧ w = w' := by
  rcases range_way f n s with ⟨_, _, _, _, _, _, _, yes⟩ | ⟨_, hw⟩
  · rw [h] at yes; cases yes
  · clear h
    rcases hw with vs | ⟨vs, a⟩ | ⟨vs, a, b⟩ | ⟨vs, a, b, c⟩ | ⟨vs, a, b, c, s0, s1, d⟩
    all_goals
      go_enter Try.func19, Try.ntmps19
      go_wp2_with fail
      (with_reducible refine (valid_any s _).mono ?_)
      rintro e w' ⟨rfl, rfl⟩
      go_wp2_with fail
      go_ret
      exact ⟨rfl, rfl⟩
theorem rrange_any (f n s : Int) (w : World) : Calls Try.prog 20 #[.int .i64 f, .int .i64 n, .int .i64 s] w fun e w' => e = .returned (.bool (rng f n s)) ∧ w = w' := by
  rcases range_way f n s with ⟨vs, s0, s1, a, b, c, d, yes⟩ | ⟨no, hw⟩
  · have H := Lib.hid yes
    clear yes
    go_enter Try.func20, Try.ntmps20
    go_wp2_with fail
    (with_reducible refine (rvalid_any s _).mono ?_)
    rintro e w' ⟨rfl, rfl⟩
    go_wp2_with fail
    go_ret
    exact ⟨retb H.out.symm, rfl⟩
  · have H := Lib.hid (Bool.eq_false_iff.2 no)
    clear no
    rcases hw with vs | ⟨vs, a⟩ | ⟨vs, a, b⟩ | ⟨vs, a, b, c⟩ | ⟨vs, a, b, c, s0, s1, d⟩
    all_goals
      go_enter Try.func20, Try.ntmps20
      go_wp2_with fail
      (with_reducible refine (rvalid_any s _).mono ?_)
      rintro e w' ⟨rfl, rfl⟩
      go_wp2_with fail
      go_ret
      exact ⟨retb (by rw [H.out] <;> (simp; omega)), rfl⟩
theorem rng_zero (s : Int) : rng 0 0 s = vld s := by
  rcases vld_cases s with ⟨vs, s0, s1⟩ | ⟨vs, _⟩
  · unfold rng; simp [vs, s0]
  · unfold rng; simp [vs]
theorem law_ranges (f n s : Int) (w : World) : Calls Try.prog 6 #[.int .i64 f, .int .i64 n, .int .i64 s] w fun e w' => e = .returned (.bool true) ∧ w = w' := by
  cases h : rng f n s
  · have R := Lib.hid (range_no f n s h)
    cases v : vld s
    · have Z := Lib.hid (range_no 0 0 s (by rw [rng_zero, v]))
      go_enter Try.func6, Try.ntmps6
      go_wp2_with fail
      (with_reducible refine (R.out _).mono ?_)
      rintro e w' ⟨rfl, rfl⟩
      go_wp2_with fail
      (with_reducible refine (rrange_any f n s _).mono ?_)
      rintro e w' ⟨rfl, rfl⟩
      go_wp2_with fail
      (with_reducible refine (awake_any _).mono ?_)
      rintro e w' ⟨rfl, rfl⟩
      go_wp2_with fail
      (with_reducible refine (num_err 1 _).mono ?_)
      rintro e w' ⟨rfl, rfl⟩
      go_wp2_with fail
      (with_reducible refine (valid_any s _).mono ?_)
      rintro e w' ⟨rfl, rfl⟩
      go_wp2_with fail
      (with_reducible refine (Z.out _).mono ?_)
      rintro e w' ⟨rfl, rfl⟩
      go_wp2_with fail
      go_ret
      exact ⟨rfl, rfl⟩
    · have Z := Lib.hid (range_yes 0 0 s (by rw [rng_zero, v]))
      go_enter Try.func6, Try.ntmps6
      go_wp2_with fail
      (with_reducible refine (R.out _).mono ?_)
      rintro e w' ⟨rfl, rfl⟩
      go_wp2_with fail
      (with_reducible refine (rrange_any f n s _).mono ?_)
      rintro e w' ⟨rfl, rfl⟩
      go_wp2_with fail
      (with_reducible refine (awake_any _).mono ?_)
      rintro e w' ⟨rfl, rfl⟩
      go_wp2_with fail
      (with_reducible refine (num_err 1 _).mono ?_)
      rintro e w' ⟨rfl, rfl⟩
      go_wp2_with fail
      (with_reducible refine (valid_any s _).mono ?_)
      rintro e w' ⟨rfl, rfl⟩
      go_wp2_with fail
      (with_reducible refine (Z.out _).mono ?_)
      rintro e w' ⟨rfl, rfl⟩
      go_wp2_with fail
      go_ret
      exact ⟨rfl, rfl⟩
  · have R := Lib.hid (range_yes f n s h)
    have v : vld s = true := by unfold rng at h; simp at h; exact h.1.1.1.1
    have Z := Lib.hid (range_yes 0 0 s (by rw [rng_zero, v]))
    go_enter Try.func6, Try.ntmps6
    go_wp2_with fail
    (with_reducible refine (R.out _).mono ?_)
    rintro e w' ⟨rfl, rfl⟩
    go_wp2_with fail
    (with_reducible refine (rrange_any f n s _).mono ?_)
    rintro e w' ⟨rfl, rfl⟩
    go_wp2_with fail
    (with_reducible refine (awake_any _).mono ?_)
    rintro e w' ⟨rfl, rfl⟩
    go_wp2_with fail
    (with_reducible refine (num_nil _).mono ?_)
    rintro e w' ⟨rfl, rfl⟩
    go_wp2_with fail
    (with_reducible refine (valid_any s _).mono ?_)
    rintro e w' ⟨rfl, rfl⟩
    go_wp2_with fail
    (with_reducible refine (Z.out _).mono ?_)
    rintro e w' ⟨rfl, rfl⟩
    go_wp2_with fail
    go_ret
    exact ⟨rfl, rfl⟩

/-! contracts whose result is known -/
theorem add_ok (a b : Int) (ha0 : 0 ≤ a) (ha1 : a ≤ 1152921504606846976) (hb0 : 0 ≤ b) (hb1 : b ≤ 1152921504606846976) (hs : a + b ≤ 1152921504606846976) : lenAdd a b = (a + b, 0) := by
  unfold lenAdd; simp [vld_yes a ha0 ha1, vld_yes b hb0 hb1, hs]
theorem add_nil {a b : Int} (h : (lenAdd a b).2 = 0) : 0 ≤ a ∧ a ≤ 1152921504606846976 ∧ 0 ≤ b ∧ b ≤ 1152921504606846976 ∧ a + b ≤ 1152921504606846976 := by
  unfold lenAdd at h
  rcases vld_cases a with ⟨va, a0, a1⟩ | ⟨va, _⟩ <;> rcases vld_cases b with ⟨vb, b0, b1⟩ | ⟨vb, _⟩ <;> simp [va, vb] at h
  by_cases hs : a + b ≤ 1152921504606846976
  · exact ⟨a0, a1, b0, b1, hs⟩
  · simp [hs] at h
theorem sub_ok (a b : Int) (ha0 : 0 ≤ a) (ha1 : a ≤ 1152921504606846976) (hb0 : 0 ≤ b) (hb1 : b ≤ a) : lenSub a b = (a - b, 0) := by
  unfold lenSub; simp [vld_yes a ha0 ha1, vld_yes b hb0 (by omega), hb1]
theorem sub_nil {a b : Int} (h : (lenSub a b).2 = 0) : 0 ≤ a ∧ a ≤ 1152921504606846976 ∧ 0 ≤ b ∧ b ≤ a := by
  unfold lenSub at h
  rcases vld_cases a with ⟨va, a0, a1⟩ | ⟨va, _⟩ <;> rcases vld_cases b with ⟨vb, b0, b1⟩ | ⟨vb, _⟩ <;> simp [va, vb] at h
  by_cases hs : b ≤ a
  · exact ⟨a0, a1, b0, hs⟩
  · simp [hs] at h
theorem mul_nil {a k : Int} (h : (lenMul a k).2 = 0) : 0 ≤ a ∧ a ≤ 1152921504606846976 ∧ 0 ≤ k ∧ a * k ≤ 1152921504606846976 := by
  unfold lenMul at h
  rcases vld_cases a with ⟨va, a0, a1⟩ | ⟨va, _⟩ <;> by_cases hk : 0 ≤ k <;> simp [va, hk] at h
  by_cases hs : a * k ≤ 1152921504606846976
  · exact ⟨a0, a1, hk, hs⟩
  · simp [hs] at h
theorem mul_ok (a k : Int) (ha0 : 0 ≤ a) (ha1 : a ≤ 1152921504606846976) (hk : 0 ≤ k) (hs : a * k ≤ 1152921504606846976) : lenMul a k = (a * k, 0) := by
  unfold lenMul; simp [vld_yes a ha0 ha1, hk, hs]
theorem lenadd_nil (a b s : Int) (h : lenAdd a b = (s, 0)) (w : World) : Calls Try.prog 12 #[.int .i64 a, .int .i64 b] w fun e w' => e = .returned (.tuple #[.int .i64 s, .nilIface]) ∧ w = w' := by
  have := lenadd_any a b w; rw [h] at this; exact this
theorem lenadd_bad (a b : Int) (h : (lenAdd a b).2 ≠ 0) (w : World) : Calls Try.prog 12 #[.int .i64 a, .int .i64 b] w fun e w' => e = .returned (.tuple #[.int .i64 (lenAdd a b).1, .iface 40 (.int .i64 (lenAdd a b).2)]) ∧ w = w' := by
  have := lenadd_any a b w; rw [errv_pos _ h] at this; exact this
theorem lensub_nil (a b s : Int) (h : lenSub a b = (s, 0)) (w : World) : Calls Try.prog 17 #[.int .i64 a, .int .i64 b] w fun e w' => e = .returned (.tuple #[.int .i64 s, .nilIface]) ∧ w = w' := by
  have := lensub_any a b w; rw [h] at this; exact this
theorem lensub_bad (a b : Int) (h : (lenSub a b).2 ≠ 0) (w : World) : Calls Try.prog 17 #[.int .i64 a, .int .i64 b] w fun e w' => e = .returned (.tuple #[.int .i64 (lenSub a b).1, .iface 40 (.int .i64 (lenSub a b).2)]) ∧ w = w' := by
  have := lensub_any a b w; rw [errv_pos _ h] at this; exact this
theorem lenmul_nil (a b s : Int) (h : lenMul a b = (s, 0)) (w : World) : Calls Try.prog 26 #[.int .i64 a, .int .i64 b] w fun e w' => e = .returned (.tuple #[.int .i64 s, .nilIface]) ∧ w = w' := by
  have := lenmul_any a b w; rw [h] at this; exact this
theorem lenmul_bad (a b : Int) (h : (lenMul a b).2 ≠ 0) (w : World) : Calls Try.prog 26 #[.int .i64 a, .int .i64 b] w fun e w' => e = .returned (.tuple #[.int .i64 (lenMul a b).1, .iface 40 (.int .i64 (lenMul a b).2)]) ∧ w = w' := by
  have := lenmul_any a b w; rw [errv_pos _ h] at this; exact this

theorem law_undoes (a b : Int) (w : World) : Calls Try.prog 7 #[.int .i64 a, .int .i64 b] w fun e w' => e = .returned (.bool true) ∧ w = w' := by
  by_cases h1 : (lenAdd a b).2 = 0
  · obtain ⟨a0, a1, b0, b1, hs⟩ := add_nil h1
    have A := Lib.hid (lenadd_nil a b (a + b) (add_ok a b a0 a1 b0 b1 hs))
    have B := Lib.hid (lensub_nil (a + b) b a (by rw [sub_ok (a + b) b (by omega) hs b0 (by omega)]; congr 1; omega))
    clear h1
    by_cases h2 : (lenSub a b).2 = 0
    · obtain ⟨_, _, _, hle⟩ := sub_nil h2
      have C := Lib.hid (lensub_nil a b (a - b) (sub_ok a b a0 a1 b0 hle))
      have D := Lib.hid (lenadd_nil b (a - b) a (by rw [add_ok b (a - b) b0 b1 (by omega) (by omega) (by omega)]; congr 1; omega))
      clear h2
      go_enter Try.func7, Try.ntmps7
      go_wp2_with fail
      (with_reducible refine (awake_any _).mono ?_)
      rintro e w' ⟨rfl, rfl⟩
      go_wp2_with fail
      (with_reducible refine (A.out _).mono ?_)
      rintro e w' ⟨rfl, rfl⟩
      go_wp2_with fail
      (with_reducible refine (B.out _).mono ?_)
      rintro e w' ⟨rfl, rfl⟩
      go_wp2_with fail
      (with_reducible refine (C.out _).mono ?_)
      rintro e w' ⟨rfl, rfl⟩
      go_wp2_with fail
      (with_reducible refine (D.out _).mono ?_)
      rintro e w' ⟨rfl, rfl⟩
      go_wp2_with fail
      go_ret
      exact ⟨rfl, rfl⟩
    · have C := Lib.hid (lensub_bad a b h2)
      clear h2
      go_enter Try.func7, Try.ntmps7
      go_wp2_with fail
      (with_reducible refine (awake_any _).mono ?_)
      rintro e w' ⟨rfl, rfl⟩
      go_wp2_with fail
      (with_reducible refine (A.out _).mono ?_)
      rintro e w' ⟨rfl, rfl⟩
      go_wp2_with fail
      (with_reducible refine (B.out _).mono ?_)
      rintro e w' ⟨rfl, rfl⟩
      go_wp2_with fail
      (with_reducible refine (C.out _).mono ?_)
      rintro e w' ⟨rfl, rfl⟩
      go_wp2_with fail
      go_ret
      exact ⟨rfl, rfl⟩
  · have A := Lib.hid (lenadd_bad a b h1)
    clear h1
    by_cases h2 : (lenSub a b).2 = 0
    · obtain ⟨a0, a1, b0, hle⟩ := sub_nil h2
      have C := Lib.hid (lensub_nil a b (a - b) (sub_ok a b a0 a1 b0 hle))
      have D := Lib.hid (lenadd_nil b (a - b) a (by rw [add_ok b (a - b) b0 (by omega) (by omega) (by omega) (by omega)]; congr 1; omega))
      clear h2
      go_enter Try.func7, Try.ntmps7
      go_wp2_with fail
      (with_reducible refine (awake_any _).mono ?_)
      rintro e w' ⟨rfl, rfl⟩
      go_wp2_with fail
      (with_reducible refine (A.out _).mono ?_)
      rintro e w' ⟨rfl, rfl⟩
      go_wp2_with fail
      (with_reducible refine (C.out _).mono ?_)
      rintro e w' ⟨rfl, rfl⟩
      go_wp2_with fail
      (with_reducible refine (D.out _).mono ?_)
      rintro e w' ⟨rfl, rfl⟩
      go_wp2_with fail
      go_ret
      exact ⟨rfl, rfl⟩
    · have C := Lib.hid (lensub_bad a b h2)
      clear h2
      go_enter Try.func7, Try.ntmps7
      go_wp2_with fail
      (with_reducible refine (awake_any _).mono ?_)
      rintro e w' ⟨rfl, rfl⟩
      go_wp2_with fail
      (with_reducible refine (A.out _).mono ?_)
      rintro e w' ⟨rfl, rfl⟩
      go_wp2_with fail
      (with_reducible refine (C.out _).mono ?_)
      rintro e w' ⟨rfl, rfl⟩
      go_wp2_with fail
      go_ret
      exact ⟨rfl, rfl⟩

theorem mask61 (k : Int) : bits .and .i64 k 2305843009213693951 = k % 2305843009213693952 := by
  show IntKind.i64.wrap ((BitVec.ofInt 64 k &&& BitVec.ofInt 64 2305843009213693951).toNat : Int) = _
  rw [BitVec.toNat_and, BitVec.toNat_ofInt, BitVec.toNat_ofInt, IntKind.wrap_i64]
  have e : (k % ((2 ^ 64 : Nat) : Int)).toNat &&& ((2305843009213693951 : Int) % ((2 ^ 64 : Nat) : Int)).toNat = (k % ((2 ^ 64 : Nat) : Int)).toNat % 2305843009213693952 := Nat.and_two_pow_sub_one_eq_mod _ 61
  rw [e]
  omega

theorem law_dist (a k m : Int) (w : World) : Calls Try.prog 11 #[.int .i64 a, .int .i64 k, .int .i64 m] w fun e w' => e = .returned (.bool true) ∧ w = w' := by
  have mk := mask61 k; have mm := mask61 m
  have k0 : 0 ≤ k % 2305843009213693952 := by omega
  have k1 : k % 2305843009213693952 < 2305843009213693952 := by omega
  have m0 : 0 ≤ m % 2305843009213693952 := by omega
  have m1 : m % 2305843009213693952 < 2305843009213693952 := by omega
  by_cases h1 : (lenMul a (k % 2305843009213693952)).2 = 0
  · obtain ⟨a0, a1, _, x1⟩ := mul_nil h1
    have x0 : 0 ≤ a * (k % 2305843009213693952) := Int.mul_nonneg a0 k0
    have A := Lib.hid (lenmul_nil _ _ _ (mul_ok a _ a0 a1 k0 x1))
    clear h1
    by_cases h2 : (lenMul a (m % 2305843009213693952)).2 = 0
    · obtain ⟨_, _, _, y1⟩ := mul_nil h2
      have y0 : 0 ≤ a * (m % 2305843009213693952) := Int.mul_nonneg a0 m0
      have B := Lib.hid (lenmul_nil _ _ _ (mul_ok a _ a0 a1 m0 y1))
      have e : lenMul a (k % 2305843009213693952 + m % 2305843009213693952) = lenAdd (a * (k % 2305843009213693952)) (a * (m % 2305843009213693952)) := by
        unfold lenMul lenAdd
        have hk : decide (0 ≤ k % 2305843009213693952 + m % 2305843009213693952) = true := by simp; omega
        rw [vld_yes a a0 a1, hk, vld_yes _ x0 x1, vld_yes _ y0 y1, Int.mul_add]
      have C := lenmul_any a (k % 2305843009213693952 + m % 2305843009213693952)
      rw [e] at C
      have D := Lib.hid C
      clear h2 e C
      go_enter Try.func11, Try.ntmps11
      go_wp2_with fail
      (with_reducible refine (A.out _).mono ?_)
      rintro e w' ⟨rfl, rfl⟩
      go_wp2_with fail
      (with_reducible refine (B.out _).mono ?_)
      rintro e w' ⟨rfl, rfl⟩
      go_wp2_with fail
      (with_reducible refine (awake_any _).mono ?_)
      rintro e w' ⟨rfl, rfl⟩
      go_wp2_with fail
      (with_reducible refine (lenadd_any (a * (k % 2305843009213693952)) (a * (m % 2305843009213693952)) _).mono ?_)
      rintro e w' ⟨rfl, rfl⟩
      go_wp2_with fail
      (with_reducible refine (D.out _).mono ?_)
      rintro e w' ⟨rfl, rfl⟩
      go_wp2_with fail
      (with_reducible refine (num_any _ _).mono ?_)
      rintro e w' ⟨rfl, rfl⟩
      go_wp2_with fail
      (with_reducible refine (num_any _ _).mono ?_)
      rintro e w' ⟨rfl, rfl⟩
      go_wp2_with fail
      go_ret
      exact ⟨rfl, rfl⟩
    · have B := Lib.hid (lenmul_bad _ _ h2)
      clear h2
      go_enter Try.func11, Try.ntmps11
      go_wp2_with fail
      (with_reducible refine (A.out _).mono ?_)
      rintro e w' ⟨rfl, rfl⟩
      go_wp2_with fail
      (with_reducible refine (B.out _).mono ?_)
      rintro e w' ⟨rfl, rfl⟩
      go_wp2_with fail
      (with_reducible refine (awake_any _).mono ?_)
      rintro e w' ⟨rfl, rfl⟩
      go_wp2_with fail
      go_ret
      exact ⟨rfl, rfl⟩
  · have A := Lib.hid (lenmul_bad _ _ h1)
    clear h1
    go_enter Try.func11, Try.ntmps11
    go_wp2_with fail
    (with_reducible refine (A.out _).mono ?_)
    rintro e w' ⟨rfl, rfl⟩
    go_wp2_with fail
    (with_reducible refine (lenmul_any _ _ _).mono ?_)
    rintro e w' ⟨rfl, rfl⟩
    go_wp2_with fail
    (with_reducible refine (awake_any _).mono ?_)
    rintro e w' ⟨rfl, rfl⟩
    go_wp2_with fail
    go_ret
    exact ⟨rfl, rfl⟩

theorem law_logs (n : Int) (h1 : n ≤ 9223372036854775807) (w : World) : Calls Try.prog 4 #[.int .i64 n] w fun e w' => e = .returned (.bool true) ∧ w = w' := by
  by_cases h0 : 1 ≤ n
  · obtain ⟨l0, l1, l2⟩ := bitLenAux_bounds 64 n.toNat (by omega) (by omega)
    have hL : Lib.bitLen n.toNat = bitLenAux 64 n.toNat := rfl
    rw [← hL] at l0 l1 l2
    have lx : Lib.bitLen n.toNat ≤ 63 := Lib.bitLen_le n.toNat 63 (by omega) (by omega)
    obtain ⟨j, hj⟩ : ∃ j, Lib.bitLen n.toNat = j + 1 := ⟨Lib.bitLen n.toNat - 1, by omega⟩
    have e : n / 2 ^ j = 1 := by
      rw [hj] at l1 l2
      simp only [Nat.add_sub_cancel] at l1
      obtain ⟨q, rfl⟩ := Int.eq_ofNat_of_zero_le (show 0 ≤ n by omega)
      simp only [Int.toNat_natCast] at l1 l2
      have : q / 2 ^ j = 1 := by
        rw [Nat.pow_succ] at l2
        apply Nat.le_antisymm
        · exact Nat.lt_succ_iff.1 ((Nat.div_lt_iff_lt_mul (Nat.two_pow_pos j)).2 (by omega))
        · exact (Nat.le_div_iff_mul_le (Nat.two_pow_pos j)).2 (by omega)
      have e2 : (2 : Int) ^ j = ((2 ^ j : Nat) : Int) := by rw [Int.natCast_pow]; rfl
      rw [e2, ← Int.natCast_ediv, this]; rfl
    have L := log_some n h0 h1
    rw [hj, show ((j + 1 : Nat) : Int) - 1 = (j : Int) by omega] at L
    have LL := Lib.hid L
    have hj2 : j ≤ 62 := by omega
    have t : (n / 2 ^ j == 1) = true := by rw [e]; rfl
    clear hL hj e L l0 l1 l2 lx
    go_enter Try.func4, Try.ntmps4
    go_wp2_with fail
    (with_reducible refine (LL.out _).mono ?_)
    rintro e w' ⟨rfl, rfl⟩
    go_wp2_with fail
    (with_reducible refine (awake_any _).mono ?_)
    rintro e w' ⟨rfl, rfl⟩
    go_wp2_with fail
    go_ret
    exact ⟨rfl, rfl⟩
  · go_enter Try.func4, Try.ntmps4
    go_wp2_with fail
    (with_reducible refine (log_none n (by omega) _).mono ?_)
    rintro e w' ⟨rfl, rfl⟩
    go_wp2_with fail
    (with_reducible refine (awake_any _).mono ?_)
    rintro e w' ⟨rfl, rfl⟩
    go_wp2_with fail
    (with_reducible refine (awake_any _).mono ?_)
    rintro e w' ⟨rfl, rfl⟩
    go_wp2_with fail
    go_ret
    exact ⟨rfl, rfl⟩
end Go.Proofs.Ytdpnlhjdekepbaa
