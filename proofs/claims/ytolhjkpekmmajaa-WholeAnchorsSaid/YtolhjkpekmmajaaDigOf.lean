/- The walk of digest.Of. -/
import Derived.Test.YtolhjkpekmmajaaDig
import Derived.Test.YtolhjkpekmmajaaOwnB
import Derived.Test.YtolhjkpekmmajaaVarPlain
namespace Go.Proofs.Ytolhjkpekmmajaa
set_option linter.unusedVariables false
set_option linter.unusedSimpArgs false
open Go.RowKit Go.Lib

theorem vb_get {l : List Int} {k : Nat} (hk : k < l.length) : (vb l)[k]? = some (.int .u8 (l[k]'hk)) := by simp [vb, hk]
def dStep (d : Int × Int) (b : Int) : Int × Int := (red (d.1 * 1103515245 + (b + 1)), red (d.2 * 1103515245))
def dOf (l : List Int) : Int × Int := l.foldl dStep (0, 1)
theorem dOf_step (l : List Int) (k : Nat) (hk : k < l.length) : dOf (l.take (k + 1)) = dStep (dOf (l.take k)) l[k] := by
  unfold dOf
  rw [List.take_succ_eq_append_getElem hk, List.foldl_append]
  rfl

attribute [local go_sem ↓] Go.wp_at_zero Go.wp_at_succ
end Go.Proofs.Ytolhjkpekmmajaa
