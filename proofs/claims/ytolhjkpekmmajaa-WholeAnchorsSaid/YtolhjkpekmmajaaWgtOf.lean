/- Weights of texts: plain laws; the walks of weight.Unit, Letter, Of. -/
import Derived.Test.YtolhjkpekmmajaaWgt
import Derived.Test.YtolhjkpekmmajaaDigOf
namespace Go.Proofs.Ytolhjkpekmmajaa
set_option linter.unusedVariables false
set_option linter.unusedSimpArgs false
open Go.RowKit Go.Lib

structure Wt where
  n : Int
  l : Int
  h : Int
  t : Int
  v : Int
  s : Int
/-- the numbers fit their kinds. -/
structure WOk (x : Wt) : Prop where
  n0 : -9223372036854775808 ≤ x.n
  n1 : x.n ≤ 9223372036854775807
  l0 : -9223372036854775808 ≤ x.l
  l1 : x.l ≤ 9223372036854775807
  h0 : -9223372036854775808 ≤ x.h
  h1 : x.h ≤ 9223372036854775807
  t0 : -9223372036854775808 ≤ x.t
  t1 : x.t ≤ 9223372036854775807
  uv : U x.v
  us : U x.s
/-- lines, head, tail of the beginning p of a text of n letters -/
def wstep (n : Int) (q : Int × Int × Int × Int) (b : Int) : Int × Int × Int × Int :=
  (q.1 + 1, if b = 10 then (q.2.1 + 1, if q.2.1 = 0 then q.1 else q.2.2.1, n - 1 - q.1) else q.2)
def wk (n : Int) (p : List Int) : Int × Int × Int × Int := p.foldl (wstep n) (0, 0, n, n)
theorem wk_snoc (n : Int) (p : List Int) (b : Int) : wk n (p ++ [b]) = wstep n (wk n p) b := by unfold wk; rw [List.foldl_append]; rfl
theorem snocRec {α : Type} {p : List α → Prop} (m : List α) (nil : p []) (snoc : ∀ m b, p m → p (m ++ [b])) : p m := by
  have key : ∀ n (l : List α), l.length = n → p l := by
    intro n
    induction n with
    | zero => intro l h; rw [List.eq_nil_of_length_eq_zero h]; exact nil
    | succ n ih =>
      intro l h
      rcases List.eq_nil_or_concat l with rfl | ⟨l', b, rfl⟩
      · simp at h
      · rw [List.concat_eq_append] at h ⊢
        exact snoc l' b (ih l' (by simpa using h))
  exact key _ m rfl
theorem wk_len (n : Int) (p : List Int) : (wk n p).1 = p.length := by
  induction p using snocRec with
  | nil => rfl
  | snoc m b ih => rw [wk_snoc]; simp [wstep, ih]
theorem wk_fit (n : Int) (p : List Int) (hp : (p.length : Int) ≤ n) : ((wk n p).2.1 = 0 ∧ (wk n p).2.2.1 = n ∧ (wk n p).2.2.2 = n) ∨
    (1 ≤ (wk n p).2.1 ∧ 0 ≤ (wk n p).2.2.1 ∧ 0 ≤ (wk n p).2.2.2 ∧ (wk n p).2.2.1 + ((wk n p).2.1 - 1) ≤ n - 1 - (wk n p).2.2.2 ∧ ((wk n p).2.1 = 1 → (wk n p).2.2.1 = n - 1 - (wk n p).2.2.2) ∧ n - 1 - (wk n p).2.2.2 < p.length) := by
  induction p using snocRec with
  | nil => left; exact ⟨rfl, rfl, rfl⟩
  | snoc m b ih =>
    have hl := wk_len n m
    simp only [List.length_append, List.length_singleton] at hp ⊢
    have ih' := ih (by omega)
    rw [wk_snoc]
    generalize wk n m = q at *
    obtain ⟨q0, q1, q2, q3⟩ := q
    simp only [wstep] at *
    split
    · right
      simp only
      split <;> omega
    · simp only
      omega
def wOf (l : List Int) : Wt := ⟨l.length, (wk l.length l).2.1, (wk l.length l).2.2.1, (wk l.length l).2.2.2, (dOf l).1, (dOf l).2⟩
theorem dOf_snoc (l : List Int) (b : Int) : dOf (l ++ [b]) = dStep (dOf l) b := by unfold dOf; rw [List.foldl_append]; rfl
theorem red_id (l : List Int) : red (dOf l).1 = (dOf l).1 ∧ red (dOf l).2 = (dOf l).2 ∧ 0 ≤ (dOf l).1 ∧ (dOf l).1 < 2305843009213693951 ∧ 0 ≤ (dOf l).2 ∧ (dOf l).2 < 2305843009213693951 := by
  have key : 0 ≤ (dOf l).1 ∧ (dOf l).1 < 2305843009213693951 ∧ 0 ≤ (dOf l).2 ∧ (dOf l).2 < 2305843009213693951 := by
    rcases List.eq_nil_or_concat l with rfl | ⟨l', b, rfl⟩
    · simp [dOf]
    · rw [List.concat_eq_append, dOf_snoc]
      exact ⟨red_lo _, red_hi _, red_lo _, red_hi _⟩
  exact ⟨red_small _ key.1 key.2.1, red_small _ key.2.2.1 key.2.2.2, key⟩
theorem dOf_scale (l : List Int) : (dOf l).2 = scB l.length := by
  unfold scB
  rw [Int.toNat_natCast]
  induction l using snocRec with
  | nil => decide +kernel
  | snoc m b ih =>
    rw [dOf_snoc]
    simp only [dStep, List.length_append, List.length_singleton]
    rw [ih, red_mul_l, Int.pow_succ]
theorem wOf_fit (l : List Int) (hl : (l.length : Int) ≤ 1152921504606846976) : fitW (wOf l).n (wOf l).l (wOf l).h (wOf l).t (wOf l).v := by
  have hw := wk_fit l.length l (by omega)
  have hd := red_id l
  unfold wOf fitW
  simp only
  refine ⟨by omega, hl, by omega, fun h => by omega, fun h => by omega, hd.2.2.2.1, fun h => ?_⟩
  have : l = [] := List.eq_nil_of_length_eq_zero (by omega)
  rw [this]; rfl
theorem wOf_ok (l : List Int) (hl : (l.length : Int) ≤ 1152921504606846976) : WOk (wOf l) := by
  have hw := wk_fit l.length l (by omega)
  have hd := red_id l
  unfold wOf
  constructor <;> simp only <;> first | omega | exact ⟨by omega, by omega⟩
theorem wOf_vB (l : List Int) (hl : (l.length : Int) ≤ 1152921504606846976) : vB (wOf l).n (wOf l).l (wOf l).h (wOf l).t (wOf l).v (wOf l).s = true := by
  rw [← vB_at (wOf_fit l hl)]
  show ((dOf l).2 == scB l.length) = true
  rw [dOf_scale, beq_iff_eq]

set_option maxHeartbeats 1000000 in
theorem wunit_any (w : World) : Calls Try.prog 71 #[] w fun e w' => e = .returned (.agg #[.int .i64 0, .int .i64 0, .int .i64 0, .int .i64 0, .int .u64 0, .int .u64 1]) ∧ Below w.heap.size w w' := by
  go_enter Try.func71, Try.ntmps71
  go_wp2_with fail
  (with_reducible refine (unit_any _).mono ?_)
  rintro e w1 ⟨rfl, B1⟩
  have PR : Box w1 w.heap.size 110 #[.int .i64 0, .int .i64 0, .int .i64 0, .int .i64 0, .int .u64 0, .int .u64 0] := (Box.new w _ _).below B1 (by simp)
  have BW := bkeep (balloc (Below.refl _ _) _) B1
  have y0 := PR.cell 0; have y1 := PR.cell 1; have y2 := PR.cell 2; have y3 := PR.cell 3; have y4 := PR.cell 4; have y5 := PR.cell 5
  simp only [List.getElem?_toArray, List.getElem?_cons_zero, List.getElem?_cons_succ] at y0 y1 y2 y3 y4 y5
  have f0 := PR.free 0; have f1 := PR.free 1; have f2 := PR.free 2; have f3 := PR.free 3; have f4 := PR.free 4; have f5 := PR.free 5
  have HBW := Lib.hid BW
  clear B1 PR BW
  go_wp2_with fail
  refine bodyPost_ret (v := .agg #[.int .i64 0, .int .i64 0, .int .i64 0, .int .i64 0, .int .u64 0, .int .u64 1]) ?_ rfl ⟨rfl, ?_⟩
  · simp only [results, Try.results71]
    simp [go_sem, y0, y1, y2, y3, y4, y5]
  · exact (((((HBW.out.setCell (by simp) _).setCell (by simp) _).setCell (by simp) _).setCell (by simp) _).setCell (by simp) _).setCell (by simp) _

theorem wk_yes (n : Int) (p : List Int) (k L H T : Int) (h : (k, L, H, T) = wk n p) : wk n (p ++ [10]) = (k + 1, L + 1, if L = 0 then k else H, n - 1 - k) := by rw [wk_snoc, ← h]; rfl
theorem wk_no (n : Int) (p : List Int) (k L H T b : Int) (hb : b ≠ 10) (h : (k, L, H, T) = wk n p) : wk n (p ++ [b]) = (k + 1, L, H, T) := by rw [wk_snoc, ← h]; unfold wstep; simp [hb]

attribute [local go_sem ↓] Go.wp_at_zero Go.wp_at_succ
end Go.Proofs.Ytolhjkpekmmajaa
