/- Three rules that came in, an array by value: opened to their numbers. -/
import Derived.Test.YtpeapjnfncfjiaaOpenRule
import Derived.OpenShut
namespace Go.Proofs.Ytpeapjnfncfjiaa
set_option linter.unusedVariables false
set_option linter.unusedSimpArgs false
open Go.ChangeShapes Go.WideShapes Go.ChangeAt Go.RowKit Go.Deep
theorem rule3_cells : Try.prog.cellsOf 42 = 15 := by kernel_rfl
theorem split15 (cs : List Value) (a b c : List Value) (h0 : (cs.drop 0).take 5 = a) (h1 : (cs.drop 5).take 5 = b) (h2 : (cs.drop 10).take 5 = c) (hl : cs.length = 15) : cs = a ++ b ++ c := by
  match cs, hl with
  | [x0, x1, x2, x3, x4, x5, x6, x7, x8, x9, x10, x11, x12, x13, x14], _ => subst h0 h1 h2; rfl
section
variable {H : Type} {enc : TypeId × Value → H} {W : World} {base : Nat} {spare : Nat → Bool} {held : Bool}
theorem open_rule3 {r : Reach} {b : Nat} {v : Value} {d : DataW H} {p : List MemPlace} (ho : Value.okWide Try.prog W r b 42 v) (h : DataW.Trod enc Try.prog W base spare held 42 v d p) :
    ∃ a1 a2 a3 a4 a5 b1 b2 b3 b4 b5 c1 c2 c3 c4 c5, v = .agg #[.int .i64 a1, .int .u8 a2, .int .i64 a3, .int .i64 a4, .int .i64 a5, .int .i64 b1, .int .u8 b2, .int .i64 b3, .int .i64 b4, .int .i64 b5, .int .i64 c1, .int .u8 c2, .int .i64 c3, .int .i64 c4, .int .i64 c5] ∧
      RuleOk a1 a2 a3 a4 a5 ∧ RuleOk b1 b2 b3 b4 b5 ∧ RuleOk c1 c2 c3 c4 c5 := by
  have ho' := ho
  simp only [Value.okWide, Try.underlying42] at ho'
  obtain ⟨cs, rfl, hsz, _⟩ := ho'
  obtain ⟨fuel, hf⟩ := h
  obtain ⟨xs, m, _, _, hlen, hxl, hg⟩ := DataW.trod_array Try.underlying42 hf
  rw [rule3_cells] at hlen
  rw [rule_cells] at hg
  match xs, hxl with
  | [x0, x1, x2], _ =>
    obtain ⟨a1, a2, a3, a4, a5, ea, oka⟩ := rule_of_trod (hg 0 (by omega))
    obtain ⟨b1, b2, b3, b4, b5, eb, okb⟩ := rule_of_trod (hg 1 (by omega))
    obtain ⟨c1, c2, c3, c4, c5, ec, okc⟩ := rule_of_trod (hg 2 (by omega))
    refine ⟨a1, a2, a3, a4, a5, b1, b2, b3, b4, b5, c1, c2, c3, c4, c5, ?_, oka, okb, okc⟩
    have := split15 _ _ _ _ ea eb ec hlen
    simp only [Value.cells] at this
    rw [← Array.toList_inj.1 (show cs.toList = (#[.int .i64 a1, .int .u8 a2, .int .i64 a3, .int .i64 a4, .int .i64 a5, .int .i64 b1, .int .u8 b2, .int .i64 b3, .int .i64 b4, .int .i64 b5, .int .i64 c1, .int .u8 c2, .int .i64 c3, .int .i64 c4, .int .i64 c5] : Array Value).toList from this)]
end
end Go.Proofs.Ytpeapjnfncfjiaa
