/- Plain laws of weights: of two texts one after the other; joins of three; repetitions. -/
import Derived.Test.YtolhjkpekmmajaaWgtJoin
namespace Go.Proofs.Ytolhjkpekmmajaa
set_option linter.unusedVariables false
set_option linter.unusedSimpArgs false
open Go.RowKit Go.Lib
theorem wstep_yes (n i L H T : Int) : wstep n (i, L, H, T) 10 = (i + 1, L + 1, if L = 0 then i else H, n - 1 - i) := by unfold wstep; simp
theorem wstep_no (n i L H T b : Int) (hb : b ≠ 10) : wstep n (i, L, H, T) b = (i + 1, L, H, T) := by unfold wstep; simp [hb]
theorem wk_two (N K : Int) (p : List Int) : (wk N p).2.1 = (wk K p).2.1 ∧ 0 ≤ (wk N p).2.1 ∧ ((wk N p).2.1 ≠ 0 → (wk N p).2.2.1 = (wk K p).2.2.1 ∧ N - (wk N p).2.2.2 = K - (wk K p).2.2.2) ∧
    ((wk N p).2.1 = 0 → (wk N p).2.2.1 = N ∧ (wk N p).2.2.2 = N ∧ (wk K p).2.2.1 = K ∧ (wk K p).2.2.2 = K) := by
  induction p using snocRec with
  | nil => simp [wk]
  | snoc m b ih =>
    have h1 := wk_len N m; have h2 := wk_len K m
    rw [wk_snoc, wk_snoc]
    generalize wk N m = x at *
    generalize wk K m = y at *
    obtain ⟨x0, x1, x2, x3⟩ := x
    obtain ⟨y0, y1, y2, y3⟩ := y
    simp only at ih h1 h2
    obtain ⟨i1, i2, i3, i4⟩ := ih
    by_cases hb : b = 10
    · subst hb
      rw [wstep_yes, wstep_yes]
      simp only
      by_cases h0 : x1 = 0
      · have h0' : y1 = 0 := by omega
        rw [if_pos h0, if_pos h0']
        omega
      · have h0' : ¬ y1 = 0 := by omega
        have := i3 h0
        rw [if_neg h0, if_neg h0']
        omega
    · rw [wstep_no _ _ _ _ _ _ hb, wstep_no _ _ _ _ _ _ hb]
      exact ⟨i1, i2, i3, i4⟩
theorem wk_app (N K M : Int) (p q : List Int) :
    (wk N (p ++ q)).2.1 = (wk K p).2.1 + (wk M q).2.1 ∧ 0 ≤ (wk K p).2.1 ∧ 0 ≤ (wk M q).2.1 ∧
    ((wk K p).2.1 ≠ 0 → (wk N (p ++ q)).2.2.1 = (wk K p).2.2.1) ∧
    ((wk K p).2.1 = 0 → (wk M q).2.1 ≠ 0 → (wk N (p ++ q)).2.2.1 = p.length + (wk M q).2.2.1) ∧
    ((wk K p).2.1 = 0 → (wk M q).2.1 = 0 → (wk N (p ++ q)).2.2.1 = N ∧ (wk N (p ++ q)).2.2.2 = N) ∧
    ((wk M q).2.1 ≠ 0 → (wk N (p ++ q)).2.2.2 = N - p.length - M + (wk M q).2.2.2) ∧
    ((wk M q).2.1 = 0 → (wk K p).2.1 ≠ 0 → (wk N (p ++ q)).2.2.2 = N - K + (wk K p).2.2.2) ∧
    ((wk M q).2.1 = 0 → (wk M q).2.2.1 = M ∧ (wk M q).2.2.2 = M) ∧ ((wk K p).2.1 = 0 → (wk K p).2.2.1 = K ∧ (wk K p).2.2.2 = K) := by
  induction q using snocRec with
  | nil =>
    rw [List.append_nil]
    obtain ⟨i1, i2, i3, i4⟩ := wk_two N K p
    have e : wk M [] = (0, 0, M, M) := rfl
    rw [e]
    simp only
    refine ⟨by omega, by omega, by omega, fun h => ?_, fun _ h => absurd rfl h, fun h _ => ?_, fun h => absurd rfl h, fun _ h => ?_, fun _ => by simp, fun h => ?_⟩
    · exact (i3 (by omega)).1
    · have := i4 (by omega); omega
    · have := i3 (by omega); omega
    · have := i4 (by omega); omega
  | snoc m b ih =>
    have h1 := wk_len N (p ++ m); have h2 := wk_len M m
    rw [← List.append_assoc, wk_snoc, wk_snoc]
    generalize wk N (p ++ m) = x at *
    generalize wk M m = y at *
    generalize wk K p = z at *
    obtain ⟨x0, x1, x2, x3⟩ := x
    obtain ⟨y0, y1, y2, y3⟩ := y
    obtain ⟨z0, z1, z2, z3⟩ := z
    simp only [List.length_append, Int.natCast_add] at h1 h2 ih
    obtain ⟨j1, j2, j3, j4, j5, j6, j7, j8, j9, j10⟩ := ih
    by_cases hb : b = 10
    · subst hb
      rw [wstep_yes, wstep_yes]
      simp only
      by_cases h0 : z1 = 0 <;> by_cases h3 : y1 = 0
      · have h4 : x1 = 0 := by omega
        rw [if_pos h4, if_pos h3]
        have := j10 h0
        omega
      · have h4 : ¬ x1 = 0 := by omega
        rw [if_neg h4, if_neg h3]
        have := j10 h0; have := j5 h0 h3
        omega
      · have h4 : ¬ x1 = 0 := by omega
        rw [if_neg h4, if_pos h3]
        have := j4 h0
        omega
      · have h4 : ¬ x1 = 0 := by omega
        rw [if_neg h4, if_neg h3]
        have := j4 h0
        omega
    · rw [wstep_no _ _ _ _ _ _ hb, wstep_no _ _ _ _ _ _ hb]
      exact ⟨j1, j2, j3, j4, j5, j6, j7, j8, j9, j10⟩
theorem dOf_append (l m : List Int) : dOf (l ++ m) = (red ((dOf l).1 * (dOf m).2 + (dOf m).1), red ((dOf l).2 * (dOf m).2)) := by
  induction m using snocRec with
  | nil =>
    have h := red_id l
    simp [dOf] at h ⊢
    exact Prod.ext h.1.symm h.2.1.symm
  | snoc m b ih =>
    rw [← List.append_assoc, dOf_snoc, ih, dOf_snoc]
    unfold dStep
    simp only
    refine Prod.ext ?_ ?_
    · simp only
      rw [red_add_r, ← red_add_l (red (_ + _) * _), red_mul_l, red_add_l, ← red_add_l ((dOf l).1 * _), red_mul_r, red_add_l]
      congr 1
      rw [Int.add_mul, Int.mul_assoc]
      omega
    · simp only
      rw [red_mul_l, red_mul_r, Int.mul_assoc]
theorem jn_of (p q : List Int) : jnW (wOf p) (wOf q) = wOf (p ++ q) := by
  obtain ⟨a1, a2, a3, a4, a5, a6, a7, a8, a9, a10⟩ := wk_app ((p ++ q).length) p.length q.length p q
  unfold jnW wOf
  rw [dOf_append]
  simp only [List.length_append, Int.natCast_add] at *
  simp only [Wt.mk.injEq, true_and, and_true]
  refine ⟨a1.symm, ?_, ?_⟩
  · split <;> omega
  · split <;> omega
theorem vW_of (l : List Int) (hl : (l.length : Int) ≤ 1152921504606846976) : vW (wOf l) = true := wOf_vB l hl
theorem joinW_of (p q : List Int) (h : ((p ++ q).length : Int) ≤ 1152921504606846976) : joinW (wOf p) (wOf q) = (wOf (p ++ q), 0) := by
  simp only [List.length_append, Int.natCast_add] at h
  unfold joinW
  rw [vW_of p (by omega), vW_of q (by omega)]
  simp only [Bool.and_self, if_true]
  rw [if_pos (show (wOf p).n + (wOf q).n ≤ _ from h), jn_of]

-- joins of any valid weights
theorem scB_add (a b : Int) (ha : 0 ≤ a) (hb : 0 ≤ b) : red (scB a * scB b) = scB (a + b) := by
  unfold scB
  rw [red_mul_l, red_mul_r, ← Int.pow_add]
  congr 2
  omega
theorem vW_mk {a : Wt} (hf : fitW a.n a.l a.h a.t a.v) (hs : a.s = scB a.n) : vW a = true := by
  unfold vW vB
  rw [Bool.and_eq_true, decide_eq_true_iff, beq_iff_eq]
  exact ⟨hf, hs⟩
theorem jn_valid (a b : Wt) (ha : vW a = true) (hb : vW b = true) (va : 0 ≤ a.v) (vb : 0 ≤ b.v) (hl : a.n + b.n ≤ 1152921504606846976) : vW (jnW a b) = true := by
  obtain ⟨fa, sa⟩ := vW_fit ha
  obtain ⟨fb, sb⟩ := vW_fit hb
  have hh := red_hi (a.v * b.s + b.v)
  refine vW_mk ?_ ?_
  · unfold jnW fitW at *
    simp only
    refine ⟨by omega, by omega, by omega, fun h => ?_, fun h => ?_, hh, fun h => ?_⟩
    · rw [if_pos (by omega), if_pos (by omega)]; omega
    · split <;> split <;> omega
    · have h1 : a.v = 0 := by omega
      have h2 : b.v = 0 := by omega
      rw [h1, h2]; simp [red]
  · unfold jnW
    simp only
    rw [sa, sb]
    exact scB_add _ _ (by unfold fitW at fa; omega) (by unfold fitW at fb; omega)
theorem wjn_assoc (a b c : Wt) (la : 0 ≤ a.l) (lb : 0 ≤ b.l) (lc : 0 ≤ c.l) (hb : b.l = 0 → b.h = b.n ∧ b.t = b.n) : jnW (jnW a b) c = jnW a (jnW b c) := by
  unfold jnW
  simp only [Wt.mk.injEq]
  refine ⟨by omega, by omega, ?_, ?_, ?_, ?_⟩
  · by_cases h1 : a.l = 0 <;> by_cases h2 : b.l = 0 <;> simp [h1, h2] <;> (try split) <;> omega
  · by_cases h1 : c.l = 0 <;> by_cases h2 : b.l = 0 <;> simp [h1, h2] <;> (try split) <;> omega
  · rw [red_add_r, ← red_add_l, red_mul_l, red_add_l, ← red_add_l (a.v * _), red_mul_r, red_add_l, Int.add_mul, Int.mul_assoc, Int.add_assoc]
  · rw [red_mul_l, red_mul_r, Int.mul_assoc]
end Go.Proofs.Ytolhjkpekmmajaa
