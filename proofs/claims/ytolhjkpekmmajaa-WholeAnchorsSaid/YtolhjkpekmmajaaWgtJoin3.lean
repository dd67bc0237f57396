/- The walks of evergreenref06.join, Join; both Joins, whole; the law WeightJoins. -/
import Derived.Test.YtolhjkpekmmajaaWgtJoin2
namespace Go.Proofs.Ytolhjkpekmmajaa
set_option linter.unusedVariables false
set_option linter.unusedSimpArgs false
open Go.RowKit Go.Lib
attribute [local go_sem ↓] Go.wp_at_zero Go.wp_at_succ
theorem four (w : World) (a b : Wt) (t : TypeId) (z x : Array Value) :
    Box ((((w.alloc (.cells #[.int .i64 a.n, .int .i64 a.l, .int .i64 a.h, .int .i64 a.t, .int .u64 a.v, .int .u64 a.s] t)).alloc (.cells #[.int .i64 b.n, .int .i64 b.l, .int .i64 b.h, .int .i64 b.t, .int .u64 b.v, .int .u64 b.s] t)).alloc (.cells z t)).alloc (.cells x t)) w.heap.size t #[.int .i64 a.n, .int .i64 a.l, .int .i64 a.h, .int .i64 a.t, .int .u64 a.v, .int .u64 a.s] ∧
    Box ((((w.alloc (.cells #[.int .i64 a.n, .int .i64 a.l, .int .i64 a.h, .int .i64 a.t, .int .u64 a.v, .int .u64 a.s] t)).alloc (.cells #[.int .i64 b.n, .int .i64 b.l, .int .i64 b.h, .int .i64 b.t, .int .u64 b.v, .int .u64 b.s] t)).alloc (.cells z t)).alloc (.cells x t)) (w.heap.size + 1) t #[.int .i64 b.n, .int .i64 b.l, .int .i64 b.h, .int .i64 b.t, .int .u64 b.v, .int .u64 b.s] ∧
    Box ((((w.alloc (.cells #[.int .i64 a.n, .int .i64 a.l, .int .i64 a.h, .int .i64 a.t, .int .u64 a.v, .int .u64 a.s] t)).alloc (.cells #[.int .i64 b.n, .int .i64 b.l, .int .i64 b.h, .int .i64 b.t, .int .u64 b.v, .int .u64 b.s] t)).alloc (.cells z t)).alloc (.cells x t)) (w.heap.size + 1 + 1) t z ∧
    Box ((((w.alloc (.cells #[.int .i64 a.n, .int .i64 a.l, .int .i64 a.h, .int .i64 a.t, .int .u64 a.v, .int .u64 a.s] t)).alloc (.cells #[.int .i64 b.n, .int .i64 b.l, .int .i64 b.h, .int .i64 b.t, .int .u64 b.v, .int .u64 b.s] t)).alloc (.cells z t)).alloc (.cells x t)) (w.heap.size + 1 + 1 + 1) t x ∧
    Below w.heap.size w ((((w.alloc (.cells #[.int .i64 a.n, .int .i64 a.l, .int .i64 a.h, .int .i64 a.t, .int .u64 a.v, .int .u64 a.s] t)).alloc (.cells #[.int .i64 b.n, .int .i64 b.l, .int .i64 b.h, .int .i64 b.t, .int .u64 b.v, .int .u64 b.s] t)).alloc (.cells z t)).alloc (.cells x t)) :=
  ⟨(((Box.new w _ _).alloc _).alloc _).alloc _, ((Box.new_ (by simp)).alloc _).alloc _, (Box.new_ (by simp)).alloc _, Box.new_ (by simp), balloc (balloc (balloc (balloc (Below.refl _ _) _) _) _) _⟩
theorem jn_parts (a b : Wt) (v : Value) (h : v = .agg #[.int .i64 (a.n + b.n), .int .i64 (a.l + b.l), .int .i64 (if a.l = 0 then a.n + b.h else a.h), .int .i64 (if b.l = 0 then b.n + a.t else b.t), .int .u64 (red (a.v * b.s + b.v)), .int .u64 (red (a.s * b.s))]) : v = .agg #[.int .i64 (jnW a b).n, .int .i64 (jnW a b).l, .int .i64 (jnW a b).h, .int .i64 (jnW a b).t, .int .u64 (jnW a b).v, .int .u64 (jnW a b).s] := h
theorem wjoin_ok (a b : Wt) (ha : WOk a) (hb : WOk b) (ea : vW a = true) (eb : vW b = true) (hl : a.n + b.n ≤ 1152921504606846976) (w : World) :
    Calls Try.prog 78 #[.agg #[.int .i64 a.n, .int .i64 a.l, .int .i64 a.h, .int .i64 a.t, .int .u64 a.v, .int .u64 a.s], .agg #[.int .i64 b.n, .int .i64 b.l, .int .i64 b.h, .int .i64 b.t, .int .u64 b.v, .int .u64 b.s]] w fun e w' => e = .returned (.tuple #[.agg #[.int .i64 (jnW a b).n, .int .i64 (jnW a b).l, .int .i64 (jnW a b).h, .int .i64 (jnW a b).t, .int .u64 (jnW a b).v, .int .u64 (jnW a b).s], .nilIface]) ∧ Below w.heap.size w w' := by
  unfold jnW
  simp only
  by_cases la : a.l = 0 <;> by_cases lb : b.l = 0
  · have h := wjoin_ok00 a b ha hb ea eb hl (by rw [beq_iff_eq]; exact la) (by rw [beq_iff_eq]; exact lb) w
    rw [if_pos la, if_pos lb]; exact h
  · have h := wjoin_ok01 a b ha hb ea eb hl (by rw [beq_iff_eq]; exact la) (by rw [beq_eq_false_iff_ne]; exact lb) w
    rw [if_pos la, if_neg lb]; exact h
  · have h := wjoin_ok10 a b ha hb ea eb hl (by rw [beq_eq_false_iff_ne]; exact la) (by rw [beq_iff_eq]; exact lb) w
    rw [if_neg la, if_pos lb]; exact h
  · have h := wjoin_ok11 a b ha hb ea eb hl (by rw [beq_eq_false_iff_ne]; exact la) (by rw [beq_eq_false_iff_ne]; exact lb) w
    rw [if_neg la, if_neg lb]; exact h
theorem wjoin_any (a b : Wt) (ha : WOk a) (hb : WOk b) (w : World) :
    Calls Try.prog 78 #[.agg #[.int .i64 a.n, .int .i64 a.l, .int .i64 a.h, .int .i64 a.t, .int .u64 a.v, .int .u64 a.s], .agg #[.int .i64 b.n, .int .i64 b.l, .int .i64 b.h, .int .i64 b.t, .int .u64 b.v, .int .u64 b.s]] w fun e w' => e = .returned (.tuple #[.agg #[.int .i64 (joinW a b).1.n, .int .i64 (joinW a b).1.l, .int .i64 (joinW a b).1.h, .int .i64 (joinW a b).1.t, .int .u64 (joinW a b).1.v, .int .u64 (joinW a b).1.s], errv (joinW a b).2]) ∧ Below w.heap.size w w' := by
  unfold joinW
  cases ea : vW a with
  | false => simpa [ea, errv] using wjoin_bada a b ha hb ea w
  | true =>
    cases eb : vW b with
    | false => simpa [ea, eb, errv] using wjoin_badb a b ha hb ea eb w
    | true =>
      by_cases hl : a.n + b.n ≤ 1152921504606846976
      · simpa [ea, eb, hl, errv] using wjoin_ok a b ha hb ea eb hl w
      · simpa [ea, eb, hl, errv] using wjoin_long a b ha hb ea eb hl w
end Go.Proofs.Ytolhjkpekmmajaa
