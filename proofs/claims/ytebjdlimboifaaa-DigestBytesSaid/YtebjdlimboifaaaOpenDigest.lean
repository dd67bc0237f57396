/- A digest that came in, by value: opened to its two numbers. -/
import Derived.Test.YtebjdlimboifaaaFrame
import Derived.Test.YtebjdlimboifaaaWords
import Derived.Test.YtebjdlimboifaaaDig
import Derived.Deep.Slices
namespace Go.Proofs.Ytebjdlimboifaaa
set_option linter.unusedVariables false
set_option linter.unusedSimpArgs false
open Go.ChangeShapes Go.WideShapes Go.ChangeAt Go.RowKit Go.Deep

/-- the two numbers fit their kind. -/
structure DigOk (va sc : Int) : Prop where
  va : U va
  sc : U sc
theorem dig_cells : Try.prog.cellsOf 26 = 2 := by kernel_rfl

section
variable {H : Type} {enc : TypeId × Value → H} {W : World} {base : Nat} {spare : Nat → Bool} {held : Bool}
theorem dig_of_trod {fuel : Nat} {cs : List Value} {x : DataW H × List MemPlace} (h : DataW.trod enc Try.prog W base spare held fuel 26 cs = some x) :
    ∃ va sc, cs = [.int .u64 va, .int .u64 sc] ∧ DigOk va sc := by
  obtain ⟨xs, n, _, _, hlen, hxl, hg⟩ := DataW.trod_struct Try.underlying26 h
  rw [dig_cells] at hlen
  match cs, hlen with
  | [c0, c1], _ =>
    match xs, hxl with
    | [x0, x1], _ =>
      have h0 : DataW.trod enc Try.prog W base spare held n 24 (([c0, c1].drop 0).take (Try.prog.cellsOf 24)) = some x0 := hg 0 _ rfl
      have h1 : DataW.trod enc Try.prog W base spare held n 24 (([c0, c1].drop 1).take (Try.prog.cellsOf 24)) = some x1 := hg 1 _ rfl
      have k3 : Try.prog.cellsOf 24 = 1 := by kernel_rfl
      rw [k3] at h0 h1
      obtain ⟨a, e0, _, w0⟩ := DataW.trod_int Try.underlying24 h0
      obtain ⟨b, e1, _, w1⟩ := DataW.trod_int Try.underlying24 h1
      simp at e0 e1
      subst e0; subst e1
      obtain ⟨a0, a1⟩ := bounds_u64 w0; obtain ⟨b0, b1⟩ := bounds_u64 w1
      exact ⟨a, b, rfl, ⟨⟨a0, by omega⟩, ⟨b0, by omega⟩⟩⟩
theorem open_digest {r : Reach} {b : Nat} {v : Value} {d : DataW H} {p : List MemPlace} (ho : Value.okWide Try.prog W r b 26 v) (h : DataW.Trod enc Try.prog W base spare held 26 v d p) :
    ∃ va sc, v = .agg #[.int .u64 va, .int .u64 sc] ∧ DigOk va sc := by
  obtain ⟨cs, rfl, hsz⟩ := okWide_struct Try.underlying26 ho
  obtain ⟨fuel, hf⟩ := h
  obtain ⟨va, sc, e, ok⟩ := dig_of_trod hf
  refine ⟨va, sc, ?_, ok⟩
  simp only [Value.cells] at e
  rw [← Array.toList_inj.1 (show cs.toList = (#[.int .u64 va, .int .u64 sc] : Array Value).toList from e)]
end
end Go.Proofs.Ytebjdlimboifaaa
