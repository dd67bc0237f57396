/- Weights: what a valid one is; the walks of weight.Valid and of the reference's. -/
import Derived.Test.YtolhjkpekmmajaaLen
import Derived.Test.YtolhjkpekmmajaaModPow
import Derived.Test.YtolhjkpekmmajaaDig
import Derived.Test.YtolhjkpekmmajaaRegLin
import Derived.Deep.DeepCutAuto
import Derived.IntWalk
import Derived.Deep.QuietTactic
import Derived.BigQuiet
import Derived.Deep.Light
namespace Go.Proofs.Ytolhjkpekmmajaa
set_option linter.unusedVariables false
set_option linter.unusedSimpArgs false
open Go.RowKit Go.Lib

/-- the scale of a text of n letters -/
def scB (n : Int) : Int := red (1103515245 ^ n.toNat)
/-- The fields of a weight fit each other (but for the scale). -/
def fitW (n l h t v : Int) : Prop := 0 ≤ n ∧ n ≤ 1152921504606846976 ∧ 0 ≤ l ∧ (l = 0 → h = n ∧ t = n) ∧ (l ≠ 0 → 0 ≤ h ∧ h ≤ n ∧ 0 ≤ t ∧ t ≤ n - h ∧ l ≤ n - h - t ∧ (l = 1 → n - h - t = 1)) ∧ v < 2305843009213693951 ∧ (n = 0 → v = 0)
instance (n l h t v : Int) : Decidable (fitW n l h t v) := by unfold fitW; infer_instance
def vB (n l h t v s : Int) : Bool := decide (fitW n l h t v) && (s == scB n)
theorem vB_no {n l h t v s : Int} (H : ¬ fitW n l h t v) : false = vB n l h t v s := by unfold vB; simp [H]
theorem vB_at {n l h t v s : Int} (H : fitW n l h t v) : (s == scB n) = vB n l h t v s := by unfold vB; simp [H]

theorem vB_at2 {m n l h t v s : Int} (e : m = n) (H : fitW n l h t v) : (s == scB m) = vB n l h t v s := e ▸ vB_at (e ▸ H)
theorem pow_sc (n : Int) (h0 : 0 ≤ n) (h1 : n ≤ 1152921504606846976) (w : World) : Calls Try.prog 87 #[.int .u64 1103515245, .int .u64 n] w fun e w' => e = .returned (.int .u64 (scB n)) ∧ w = w' := pow_any 1103515245 n (by omega) (by omega) h0 (by omega) w
attribute [local go_sem ↓] Go.wp_at_zero Go.wp_at_succ
set_option maxHeartbeats 4000000 in
theorem wvalid_any (n l h t v s : Int) (n0 : -9223372036854775808 ≤ n) (n1 : n ≤ 9223372036854775807) (l0 : -9223372036854775808 ≤ l) (l1 : l ≤ 9223372036854775807) (h0 : -9223372036854775808 ≤ h) (h1 : h ≤ 9223372036854775807)
    (t0 : -9223372036854775808 ≤ t) (t1 : t ≤ 9223372036854775807) (uv : U v) (us : U s) (w : World) :
    Calls Try.prog 83 #[.agg #[.int .i64 n, .int .i64 l, .int .i64 h, .int .i64 t, .int .u64 v, .int .u64 s]] w fun e w' => e = .returned (.bool (vB n l h t v s)) ∧ Below w.heap.size w w' := by
  rcases vld_cases n with ⟨hv, hv0, hv1⟩ | ⟨hv, hvn⟩
  · go_enter Try.func83, Try.ntmps83
    go_wp2_with ((go_at_call 20; ((with_reducible refine (valid_any _ _).mono ?_); (rintro e wa ⟨rfl, rfl⟩))))
    all_goals first
      | (go_ret; refine ⟨retb (vB_no ?_), balloc (Below.refl _ _) _⟩; go_light; (try simp only [bne_iff_ne, beq_iff_eq, ne_eq, bne_eq_false_iff_eq, beq_eq_false_iff_ne] at *); unfold fitW; omega)
      | (go_quiet ((go_at_call 87; (refine quiet_left1 (pow_sc _ ?_ ?_ _) <;> omega))); go_wp2; go_ret; refine ⟨retb (vB_at2 ?_ ?_), ?_⟩; omega; (go_light; (try simp only [bne_iff_ne, beq_iff_eq, ne_eq, bne_eq_false_iff_eq, beq_eq_false_iff_ne] at *); unfold fitW; omega); (first | exact below_drewN (balloc (Below.refl _ _) _) _ | exact (balloc (Below.refl _ _) _).drew))
  · go_enter Try.func83, Try.ntmps83
    go_wp2_with ((go_at_call 20; ((with_reducible refine (valid_any _ _).mono ?_); (rintro e wa ⟨rfl, rfl⟩))))
    go_ret
    exact ⟨retb (vB_no (by unfold fitW; omega)), balloc (Below.refl _ _) _⟩
end Go.Proofs.Ytolhjkpekmmajaa
