/- What hands back a list of rules; small words for rules' cells. -/
import Derived.Test.YtolhjkpekmmajaaRl
import Derived.Test.YtolhjkpekmmajaaOwnB
namespace Go.Proofs.Ytolhjkpekmmajaa
set_option linter.unusedVariables false
set_option linter.unusedSimpArgs false
open Go.RowKit Go.Lib
/-- what hands back a list of rules and an error -/
def RulesOut (l : List Rl) (er : Value) (w : World) (e : Ending) (w' : World) : Prop := ∃ A c, e = .returned (.tuple #[.slice A l.length c, er]) ∧ RowAt w' A (gc l) ∧ Below w.heap.size w w'
theorem box_new_ {w : World} {g : Nat} {t : TypeId} {cs : Array Value} (h : g = w.heap.size) : Box (w.alloc (.cells cs t)) g t cs := by subst h; exact Box.new w t cs
theorem gc_one' (r : Rl) : gc [r] = r.cells := by simp [gc]
theorem gc_snoc (l : List Rl) (r : Rl) : gc l ++ r.cells = gc (l ++ [r]) := by rw [gc_app, gc_one']
theorem cells_one (r : Rl) : ∀ u ∈ r.cells, u.oneCell' = true := by rw [← gc_one']; exact gc_one _
end Go.Proofs.Ytolhjkpekmmajaa
