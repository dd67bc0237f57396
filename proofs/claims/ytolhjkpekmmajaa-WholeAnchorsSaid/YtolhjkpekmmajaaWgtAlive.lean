/- The walk of evergreenlaw06's fixed example, and of the law WeightValid. -/
import Derived.Test.YtolhjkpekmmajaaWgtOf
import Derived.Test.YtolhjkpekmmajaaWgtRef
import Derived.Lib.SlBytesConst
import Derived.Laws.StructEq
namespace Go.Proofs.Ytolhjkpekmmajaa
set_option linter.unusedVariables false
set_option linter.unusedSimpArgs false
open Go.RowKit Go.Lib
theorem wvalid_w (x : Wt) (h : WOk x) (w : World) : Calls Try.prog 83 #[.agg #[.int .i64 x.n, .int .i64 x.l, .int .i64 x.h, .int .i64 x.t, .int .u64 x.v, .int .u64 x.s]] w fun e w' => e = .returned (.bool (vB x.n x.l x.h x.t x.v x.s)) ∧ Below w.heap.size w w' :=
  wvalid_any _ _ _ _ _ _ h.n0 h.n1 h.l0 h.l1 h.h0 h.h1 h.t0 h.t1 h.uv h.us w
attribute [local go_sem ↓] Go.wp_at_zero Go.wp_at_succ
end Go.Proofs.Ytolhjkpekmmajaa
