/- A list of rules that came in, opened. -/
import Derived.Test.YtcbahojefglakaaOpenRule
import Derived.Test.YtcbahojefglakaaRl
namespace Go.Proofs.Ytcbahojefglakaa
set_option linter.unusedVariables false
set_option linter.unusedSimpArgs false
open Go.ChangeShapes Go.WideShapes Go.ChangeAt Go.RowKit Go.Deep
set_option maxRecDepth 100000
def Rl.Ok (r : Rl) : Prop := RuleOk r.kd r.lt r.lf r.rg r.tm
instance : Inhabited Rl := ⟨⟨0, 0, 0, 0, 0⟩⟩
/-- what a list of rules that came in is -/
structure RulesIn (W : World) (a : Option Addr) (len cap : Nat) (rs : List Rl) : Prop where
  row : RowAt W a (gc rs)
  ln : rs.length = len
  le : len ≤ cap
  top : cap ≤ 9223372036854775807
  nil : a = none → len = 0 ∧ cap = 0
  ok : ∀ r ∈ rs, r.Ok
theorem gc_at {g : List Rl} {k : Nat} {u : Value} (h : (gc g)[k]? = some u) : ∃ r, g[k / 5]? = some r ∧ r.cells[k % 5]? = some u := by
  have hk : k < g.length * 5 := by have := (List.getElem?_eq_some_iff.1 h).1; rwa [gc_len] at this
  have hr : g[k / 5]? = some (g[k / 5]'(by omega)) := List.getElem?_eq_getElem _
  have hj : k % 5 < (g[k / 5]'(by omega)).cells.length := by show k % 5 < 5; omega
  refine ⟨_, hr, ?_⟩
  have e := gc_get (j := k % 5) hr (List.getElem?_eq_getElem hj)
  rw [Nat.div_add_mod'] at e
  rw [e] at h
  rw [List.getElem?_eq_getElem hj, h]
section
variable {H : Type} {enc : TypeId × Value → H} {W : World}
theorem open_rules {d : DataW H} {p : List MemPlace} {v : Value} (ho : Value.okWide Try.prog W .any 0 22 v) (h : DataW.Trod enc Try.prog W 0 (fun _ => true) true 22 v d p) :
    ∃ a len cap rs, v = .slice a len cap ∧ RulesIn W a len cap rs := by
  obtain ⟨a0, len0, cap0, rfl⟩ := okWide_slice Try.underlying22 ho
  obtain ⟨fuel, hf⟩ := h
  change DataW.trod enc Try.prog W 0 (fun _ => true) true fuel 22 [.slice a0 len0 cap0] = some (d, p) at hf
  rcases open_slice Try.underlying22 hf with ⟨e, _⟩ | ⟨a, len, cap, m, n, D, Pl, e, _, hl, hm, hmm, _, hx⟩
  · simp only [List.cons.injEq, Value.slice.injEq, and_true] at e
    obtain ⟨rfl, rfl, rfl⟩ := e
    exact ⟨none, 0, 0, [], rfl, ⟨RowAt.nil _ _, rfl, Nat.le_refl _, by omega, fun _ => ⟨rfl, rfl⟩, fun r hr => by cases hr⟩⟩
  · simp only [List.cons.injEq, Value.slice.injEq, and_true] at e
    obtain ⟨rfl, rfl, rfl⟩ := e
    simp only [if_true] at hmm
    subst hmm
    rw [rule_cells] at hx
    have key : ∀ i, i < len0 → ∃ r : Rl, r.Ok ∧ ∀ j u, r.cells[j]? = some u → W.cell? ((a.add (i * 5)).add j) = some u := by
      intro i hi
      obtain ⟨cs', h1, h2⟩ := hx i (by omega)
      obtain ⟨kd, lt, lf, rg, tm, e, ok⟩ := rule_of_trod h2
      obtain ⟨_, hlen, hc⟩ := World.cells?_some h1
      refine ⟨⟨kd, lt, lf, rg, tm⟩, ok, fun j u hu => ?_⟩
      have hj : j < 5 := (List.getElem?_eq_some_iff.1 hu).1
      have h5 := hc j hj
      rw [e] at h5
      exact h5.trans hu
    obtain ⟨R, hR⟩ := choose_lt (α := Rl) (n := len0) key
    have hRl : ∀ i, i < len0 → ((List.range len0).map R)[i]? = some (R i) := fun i hi => by rw [List.getElem?_map, List.getElem?_range hi]; rfl
    refine ⟨some a, len0, _, (List.range len0).map R, rfl, ⟨?_, by simp, hl, by have : maxLen = 9223372036854775807 := rfl; omega, fun h => (by cases h), ?_⟩⟩
    · intro k u hk
      obtain ⟨r, h1, h2⟩ := gc_at hk
      have hi : k / 5 < len0 := by have := (List.getElem?_eq_some_iff.1 h1).1; simpa using this
      rw [hRl _ hi] at h1
      cases h1
      refine ⟨a, rfl, ?_⟩
      have e := (hR _ hi).2 _ _ h2
      rw [add_add_, Nat.div_add_mod'] at e
      exact e
    · intro r hr
      simp only [List.mem_map, List.mem_range] at hr
      obtain ⟨i, hi, rfl⟩ := hr
      exact (hR i hi).1
end
end Go.Proofs.Ytcbahojefglakaa
