/- A list of rules that came in, opened. -/
import Derived.Test.YtolhjkpekmmajaaOpenRule
import Derived.Test.YtolhjkpekmmajaaRl
namespace Go.Proofs.Ytolhjkpekmmajaa
set_option linter.unusedVariables false
set_option linter.unusedSimpArgs false
open Go.ChangeShapes Go.WideShapes Go.ChangeAt Go.RowKit Go.Deep
set_option maxRecDepth 100000
def Rl.Ok (r : Rl) : Prop := RuleOk r.kd r.lt r.lf r.rg r.tm
instance : Inhabited Rl := ⟨⟨0, 0, 0, 0, 0⟩⟩
/-- what a list of rules that came in is -/
structure RulesIn (W : World) (a : Option Addr) (len cap : Nat) (rs : List Rl) : Prop where
  row : RowAt W a (gc rs)
  ln : rs.length = len
  le : len ≤ cap
  top : cap ≤ 9223372036854775807
  nil : a = none → len = 0 ∧ cap = 0
  ok : ∀ r ∈ rs, r.Ok
theorem gc_at {g : List Rl} {k : Nat} {u : Value} (h : (gc g)[k]? = some u) : ∃ r, g[k / 5]? = some r ∧ r.cells[k % 5]? = some u := by
  have hk : k < g.length * 5 := by have := (List.getElem?_eq_some_iff.1 h).1; rwa [gc_len] at this
  have hr : g[k / 5]? = some (g[k / 5]'(by omega)) := List.getElem?_eq_getElem _
  have hj : k % 5 < (g[k / 5]'(by omega)).cells.length := by show k % 5 < 5; omega
  refine ⟨_, hr, ?_⟩
  have e := gc_get (j := k % 5) hr (List.getElem?_eq_getElem hj)
  rw [Nat.div_add_mod'] at e
  rw [e] at h
  rw [List.getElem?_eq_getElem hj, h]
end Go.Proofs.Ytolhjkpekmmajaa
