/- What the frames of this seat's laws share. -/
import Derived.Test.YtolhjkpekmmajaaChecked
import Derived.WalkKit
import Derived.ProofKit
import Derived.OpenShut
import Derived.ShutString
import Derived.ChangeOld
import Derived.Below
import Derived.SizedLaws
namespace Go.Proofs.Ytolhjkpekmmajaa
set_option linter.unusedVariables false
set_option linter.unusedSimpArgs false
open Go.ChangeShapes Go.WideShapes Go.ChangeAt Go.RowKit
theorem own : ownKnob Try.prog.godebug = none := by kernel_rfl
theorem laidOut : laidOutB Try.prog = true := by kernel_rfl

/-- A slice of integers that came in: nil, or a row of 'cap' cells, the numbers zs (the first 'len' are its elements). -/
def IsRow (k : IntKind) (w : World) (a : Option Addr) (len cap : Nat) (zs : List Int) : Prop :=
  (a = none ∧ len = 0 ∧ cap = 0 ∧ zs = []) ∨
  ∃ x, a = some x ∧ len ≤ cap ∧ cap ≤ maxLen ∧ zs.length = cap ∧ (∀ i, i < zs.length → w.cell? (x.add i) = some (.int k (zs.getD i 0))) ∧ ∀ n ∈ zs, (Lit.int k n).wf = true

set_option maxRecDepth 10000
section
variable {H : Type} {enc : TypeId × Value → H} {W : World}
theorem open_row {k : IntKind} {t e : TypeId} {v : Value} {d : DataW H} {p : List MemPlace} {b : Nat} (ht : Try.prog.underlying t = some (.slice e)) (he : Try.prog.underlying e = some (.int k)) (hc : Try.prog.cellsOf e = 1)
    (ho : Value.okWide Try.prog W .any b t v) (h : DataW.Trod enc Try.prog W 0 (fun _ => true) true t v d p) (n : Nat) (hn : Try.prog.bytesOf e = n)
    (hs : ∀ es sp, d = .slice es sp → (es.length + sp.length) * Try.prog.bytesOf e ≤ reachBytes) :
    ∃ (a : Option Addr) (len cap : Nat) (zs : List Int), v = .slice a len cap ∧ IsRow k W a len cap zs ∧ len ≤ cap ∧ cap * n ≤ 140737488351232 := by
  obtain ⟨a, len, cap, rfl⟩ := okWide_slice ht ho
  obtain ⟨fuel, hf⟩ := h
  rcases open_ints ht he hc hf with ⟨hcs, _⟩ | ⟨x, l, c, zs, hcs, _, hl, hm, hz, hx, hcell, hwz⟩
  · simp [Value.cells] at hcs
    obtain ⟨rfl, rfl, rfl⟩ := hcs
    exact ⟨none, 0, 0, [], rfl, .inl ⟨rfl, rfl, rfl, rfl⟩, Nat.le_refl _, by omega⟩
  · simp [Value.cells] at hcs
    obtain ⟨rfl, rfl, rfl⟩ := hcs
    simp only [Prod.mk.injEq] at hx
    have h2 := hs _ _ hx.1
    simp only [if_true] at hz
    simp only [lits, List.length_map, List.length_take, List.length_drop, reachBytes, hn] at h2
    have e1 : min len zs.length + (zs.length - len) = cap := by omega
    rw [e1] at h2
    exact ⟨_, _, _, zs, rfl, .inr ⟨x, rfl, hl, hm, hz, hcell, hwz⟩, hl, h2⟩
end
end Go.Proofs.Ytolhjkpekmmajaa
