/- How long a rule's bytes are . -/
import Derived.Test.YtcbahojefglakaaGrEncPlain
import Derived.Test.YtcbahojefglakaaOpenRules
namespace Go.Proofs.Ytcbahojefglakaa
set_option linter.unusedVariables false
set_option linter.unusedSimpArgs false
open Go.RowKit Go.Lib
attribute [local go_sem ↓] Go.wp_at_zero Go.wp_at_succ
theorem enc1_len {r : Rl} {n : Int} (hn : n ≤ 1000000) (t1 : r.tm ≤ 9223372036854775807) (h : rc r n = 0) : (enc1 r n).length ≤ 21 := by
  obtain ⟨kd, lt, lf, rg, tm⟩ := r
  have h' : checkCode kd lt lf rg tm n = 0 := h
  clear h
  simp only at t1
  obtain ⟨_, ⟨rfl, rfl, rfl, rfl⟩ | ⟨rfl, rfl, rfl, p1, p2, q1, q2⟩ | ⟨rfl, rfl, rfl, t2, p1, p2⟩⟩ := valid_way h'
  · show ([1, lt] : List Int).length ≤ 21
    simp
  · have h1 := (vput_len 9 (n - lf).toNat (by omega)).2
    have h2 := (vput_len 9 (n - rg).toNat (by omega)).2
    show (([2] ++ vput (n - lf).toNat) ++ vput (n - rg).toNat).length ≤ 21
    simp; omega
  · have h1 := (vput_len 9 (n - lf).toNat (by omega)).2
    have h2 := (vput_len 9 (tm - 2).toNat (by omega)).2
    show (([3] ++ vput (n - lf).toNat) ++ vput (tm - 2).toNat).length ≤ 21
    simp; omega
end Go.Proofs.Ytcbahojefglakaa
