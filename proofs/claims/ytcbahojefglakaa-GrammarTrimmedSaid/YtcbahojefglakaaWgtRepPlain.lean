/- Plain laws of a weight repeated. -/
import Derived.Test.YtcbahojefglakaaWgtPlain
import Derived.Test.YtcbahojefglakaaDigRep
namespace Go.Proofs.Ytcbahojefglakaa
set_option linter.unusedVariables false
set_option linter.unusedSimpArgs false
open Go.RowKit Go.Lib
def uW : Wt := ⟨0, 0, 0, 0, 0, 1⟩
def repU (w : Wt) : Nat → Wt
  | 0 => uW
  | k + 1 => jnW (repU w k) w
/-- the fields of k copies, at once -/
def clW (w : Wt) (k : Nat) : Wt := ⟨w.n * k, w.l * k, if w.l = 0 then w.n * k else w.h, if w.l = 0 then w.n * k else w.t, (rD (w.v, w.s) k).1, (rD (w.v, w.s) k).2⟩
theorem Wt.same {a b : Wt} (h1 : a.n = b.n) (h2 : a.l = b.l) (h3 : a.h = b.h) (h4 : a.t = b.t) (h5 : a.v = b.v) (h6 : a.s = b.s) : a = b := by
  cases a; cases b; simp only at *; subst h1 h2 h3 h4 h5 h6; rfl
theorem fit_facts {w : Wt} (h : vW w = true) : (w.l = 0 → w.h = w.n ∧ w.t = w.n) ∧ 0 ≤ w.l ∧ w.l ≤ w.n ∧ 0 ≤ w.n ∧ w.n ≤ 1152921504606846976 := by
  obtain ⟨hf, _⟩ := vW_fit h
  unfold fitW at hf
  omega
theorem jn_u_l (w : Wt) (h : vW w = true) (hv : 0 ≤ w.v) : jnW uW w = w := by
  obtain ⟨h1, h2, h3, h4, _⟩ := fit_facts h
  obtain ⟨hf, hs⟩ := vW_fit h
  have hv1 : w.v < 2305843009213693951 := by unfold fitW at hf; omega
  have hs0 : 0 ≤ w.s := by rw [hs]; exact red_lo _
  have hs1 : w.s < 2305843009213693951 := by rw [hs]; exact red_hi _
  unfold jnW uW
  refine Wt.same ?_ ?_ ?_ ?_ ?_ ?_ <;> simp only
  · omega
  · omega
  · simp
  · split <;> omega
  · rw [Int.zero_mul, Int.zero_add, red_small _ hv hv1]
  · rw [Int.one_mul, red_small _ hs0 hs1]
theorem jn_u_r (w : Wt) (h : vW w = true) (hv : 0 ≤ w.v) : jnW w uW = w := by
  obtain ⟨h1, h2, h3, h4, _⟩ := fit_facts h
  obtain ⟨hf, hs⟩ := vW_fit h
  have hv1 : w.v < 2305843009213693951 := by unfold fitW at hf; omega
  have hs0 : 0 ≤ w.s := by rw [hs]; exact red_lo _
  have hs1 : w.s < 2305843009213693951 := by rw [hs]; exact red_hi _
  unfold jnW uW
  refine Wt.same ?_ ?_ ?_ ?_ ?_ ?_ <;> simp only
  · omega
  · omega
  · split <;> omega
  · simp
  · rw [Int.mul_one, Int.add_zero, red_small _ hv hv1]
  · rw [Int.mul_one, red_small _ hs0 hs1]
theorem cl_one (w : Wt) (h : vW w = true) (hv : 0 ≤ w.v) : clW w 1 = w := by
  obtain ⟨h1, h2, h3, h4, _⟩ := fit_facts h
  have e := jn_u_l w h hv
  have e5 := congrArg Wt.v e; have e6 := congrArg Wt.s e
  unfold clW
  refine Wt.same ?_ ?_ ?_ ?_ e5 e6 <;> simp only
  · omega
  · omega
  · split <;> omega
  · split <;> omega
theorem cl_step (w : Wt) (h : vW w = true) (k : Nat) (hk : 1 ≤ k) : jnW (clW w k) w = clW w (k + 1) := by
  obtain ⟨h1, h2, h3, h4, _⟩ := fit_facts h
  have e0 : ((k + 1 : Nat) : Int) = k + 1 := by omega
  have en : w.n * ((k : Int) + 1) = w.n * k + w.n := by rw [Int.mul_add, Int.mul_one]
  have el : w.l * ((k : Int) + 1) = w.l * k + w.l := by rw [Int.mul_add, Int.mul_one]
  have ez : w.l * (k : Int) = 0 ↔ w.l = 0 := by
    constructor
    · intro e
      rcases Int.mul_eq_zero.1 e with e | e
      · exact e
      · omega
    · intro e; rw [e, Int.zero_mul]
  unfold clW jnW
  refine Wt.same ?_ ?_ ?_ ?_ rfl rfl <;> simp only [e0, en, el]
  · by_cases hl : w.l = 0
    · rw [if_pos (ez.2 hl), if_pos hl]; omega
    · rw [if_neg (fun e => hl (ez.1 e)), if_neg hl, if_neg hl]
  · by_cases hl : w.l = 0
    · rw [if_pos hl, if_pos hl, if_pos hl]; omega
    · rw [if_neg hl, if_neg hl]
theorem rep_cl (w : Wt) (h : vW w = true) (hv : 0 ≤ w.v) (k : Nat) (hk : 1 ≤ k) : repU w k = clW w k := by
  induction k with
  | zero => omega
  | succ k ih =>
    show jnW (repU w k) w = _
    by_cases h0 : k = 0
    · subst h0
      show jnW uW w = _
      rw [jn_u_l w h hv, cl_one w h hv]
    · rw [ih (by omega), cl_step w h k (by omega)]
theorem uW_valid : vW uW = true := by
  refine vW_mk (by unfold uW fitW; simp) ?_
  unfold uW scB
  decide +kernel
theorem rep_n (w : Wt) (k : Nat) : (repU w k).n = w.n * k := by
  induction k with
  | zero => simp [repU, uW]
  | succ k ih =>
    show (repU w k).n + w.n = _
    rw [ih, Int.natCast_succ, Int.mul_add, Int.mul_one]
theorem rep_v0 (w : Wt) (k : Nat) : 0 ≤ (repU w k).v := by
  cases k with
  | zero => exact Int.le_refl 0
  | succ k => exact red_lo _
theorem rep_valid (w : Wt) (h : vW w = true) (hv : 0 ≤ w.v) (k : Nat) (hk : w.n * k ≤ 1152921504606846976) : vW (repU w k) = true := by
  induction k with
  | zero => exact uW_valid
  | succ k ih =>
    obtain ⟨_, _, _, h4, _⟩ := fit_facts h
    rw [Int.natCast_succ, Int.mul_add, Int.mul_one] at hk
    refine jn_valid _ _ (ih (by omega)) h (rep_v0 w k) hv (by rw [rep_n]; exact hk)
theorem zero_u (w : Wt) (h : vW w = true) (hv : 0 ≤ w.v) (h0 : w.n = 0) : w = uW := by
  obtain ⟨hf, hs⟩ := vW_fit h
  unfold fitW at hf
  unfold uW
  refine Wt.same ?_ ?_ ?_ ?_ ?_ ?_ <;> simp only
  · exact h0
  · omega
  · omega
  · omega
  · omega
  · rw [hs, h0]; decide +kernel
theorem rep_u (k : Nat) : repU uW k = uW := by
  induction k with
  | zero => rfl
  | succ k ih => show jnW (repU uW k) uW = _; rw [ih, jn_u_r uW uW_valid (by decide)]
theorem rep_l0 (w : Wt) (h : 0 ≤ w.l) (k : Nat) : 0 ≤ (repU w k).l := by
  induction k with
  | zero => exact Int.le_refl 0
  | succ k ih => show 0 ≤ (repU w k).l + w.l; omega
theorem rep_lz (w : Wt) (h : vW w = true) (hv : 0 ≤ w.v) (k : Nat) : (repU w k).l = 0 → (repU w k).h = (repU w k).n ∧ (repU w k).t = (repU w k).n := by
  obtain ⟨h1, h2, h3, h4, _⟩ := fit_facts h
  induction k with
  | zero => intro _; exact ⟨rfl, rfl⟩
  | succ k ih =>
    have hl := rep_l0 w h2 k
    intro e
    have e' : (repU w k).l + w.l = 0 := e
    have := ih (by omega)
    have hw := h1 (by omega)
    show (if (repU w k).l = 0 then (repU w k).n + w.h else (repU w k).h) = (repU w k).n + w.n ∧ (if w.l = 0 then w.n + (repU w k).t else w.t) = (repU w k).n + w.n
    rw [if_pos (by omega), if_pos (by omega)]
    omega
theorem rep_add (w : Wt) (h : vW w = true) (hv : 0 ≤ w.v) (a b : Nat) (hab : w.n * a ≤ 1152921504606846976) : repU w (a + b) = jnW (repU w a) (repU w b) := by
  obtain ⟨h1, h2, h3, h4, _⟩ := fit_facts h
  induction b with
  | zero => exact (jn_u_r _ (rep_valid w h hv a hab) (rep_v0 w a)).symm
  | succ b ih =>
    show jnW (repU w (a + b)) w = jnW (repU w a) (jnW (repU w b) w)
    rw [ih, wjn_assoc _ _ _ (rep_l0 w h2 a) (rep_l0 w h2 b) h2 (rep_lz w h hv b)]
theorem rep_mul (w : Wt) (h : vW w = true) (hv : 0 ≤ w.v) (i n : Nat) (hin : w.n * (i * n : Nat) ≤ 1152921504606846976) : repU (repU w i) n = repU w (i * n) := by
  obtain ⟨h1, h2, h3, h4, _⟩ := fit_facts h
  induction n with
  | zero => rfl
  | succ n ih =>
    have e : w.n * ((i * (n + 1) : Nat) : Int) = w.n * ((i * n : Nat) : Int) + w.n * i := by rw [Nat.mul_succ, Int.natCast_add, Int.mul_add]
    have p1 : 0 ≤ w.n * (i : Int) := Int.mul_nonneg h4 (by omega)
    show jnW (repU (repU w i) n) (repU w i) = _
    rw [ih (by omega), Nat.mul_succ, rep_add w h hv _ _ (by omega)]
theorem rep_of (p : List Int) (k : Nat) : repU (wOf p) k = wOf (rep p k) := by
  induction k with
  | zero => unfold wOf; rfl
  | succ k ih => show jnW (repU _ k) _ = wOf (rep p k ++ p); rw [ih, jn_of]
def repW (w : Wt) (k : Int) : Wt × Int := if vW w then (if 0 ≤ k then (if w.n * k ≤ 1152921504606846976 then (repU w k.toNat, 0) else (zW, 2)) else (zW, 1)) else (zW, 4)
end Go.Proofs.Ytcbahojefglakaa
