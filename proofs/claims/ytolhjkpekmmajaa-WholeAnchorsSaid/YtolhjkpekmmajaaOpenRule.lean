/- A rule that came in: by value, in an array of three, in a slice: opened to its five numbers. -/
import Derived.Test.YtolhjkpekmmajaaFrame
import Derived.Test.YtolhjkpekmmajaaWords
import Derived.Deep.Slices
namespace Go.Proofs.Ytolhjkpekmmajaa
set_option linter.unusedVariables false
set_option linter.unusedSimpArgs false
open Go.ChangeShapes Go.WideShapes Go.ChangeAt Go.RowKit Go.Deep
set_option maxRecDepth 100000

/-- the five numbers fit their kinds. -/
structure RuleOk (kd lt lf rg tm : Int) : Prop where
  kd0 : -9223372036854775808 ≤ kd
  kd1 : kd ≤ 9223372036854775807
  lt0 : 0 ≤ lt
  lt1 : lt ≤ 255
  lf0 : -9223372036854775808 ≤ lf
  lf1 : lf ≤ 9223372036854775807
  rg0 : -9223372036854775808 ≤ rg
  rg1 : rg ≤ 9223372036854775807
  tm0 : -9223372036854775808 ≤ tm
  tm1 : tm ≤ 9223372036854775807
theorem rule_cells : Try.prog.cellsOf 147 = 5 := by kernel_rfl

section
variable {H : Type} {enc : TypeId × Value → H} {W : World} {base : Nat} {spare : Nat → Bool} {held : Bool}
theorem rule_of_trod {fuel : Nat} {cs : List Value} {x : DataW H × List MemPlace} (h : DataW.trod enc Try.prog W base spare held fuel 147 cs = some x) :
    ∃ kd lt lf rg tm, cs = [.int .i64 kd, .int .u8 lt, .int .i64 lf, .int .i64 rg, .int .i64 tm] ∧ RuleOk kd lt lf rg tm := by
  obtain ⟨xs, n, _, _, hlen, hxl, hg⟩ := DataW.trod_struct Try.underlying147 h
  rw [rule_cells] at hlen
  match cs, hlen with
  | [c0, c1, c2, c3, c4], _ =>
    match xs, hxl with
    | [x0, x1, x2, x3, x4], _ =>
      have h0 : DataW.trod enc Try.prog W base spare held n 3 (([c0, c1, c2, c3, c4].drop 0).take (Try.prog.cellsOf 3)) = some x0 := hg 0 _ rfl
      have h1 : DataW.trod enc Try.prog W base spare held n 5 (([c0, c1, c2, c3, c4].drop 1).take (Try.prog.cellsOf 5)) = some x1 := hg 1 _ rfl
      have h2 : DataW.trod enc Try.prog W base spare held n 56 (([c0, c1, c2, c3, c4].drop 2).take (Try.prog.cellsOf 56)) = some x2 := hg 2 _ rfl
      have h3 : DataW.trod enc Try.prog W base spare held n 56 (([c0, c1, c2, c3, c4].drop 3).take (Try.prog.cellsOf 56)) = some x3 := hg 3 _ rfl
      have h4 : DataW.trod enc Try.prog W base spare held n 3 (([c0, c1, c2, c3, c4].drop 4).take (Try.prog.cellsOf 3)) = some x4 := hg 4 _ rfl
      have k3 : Try.prog.cellsOf 3 = 1 := by kernel_rfl
      have k5 : Try.prog.cellsOf 5 = 1 := by kernel_rfl
      have k22 : Try.prog.cellsOf 56 = 1 := by kernel_rfl
      rw [k3] at h0 h4; rw [k5] at h1; rw [k22] at h2 h3
      obtain ⟨a, e0, _, w0⟩ := DataW.trod_int Try.underlying3 h0
      obtain ⟨b, e1, _, w1⟩ := DataW.trod_int Try.underlying5 h1
      obtain ⟨c, e2, _, w2⟩ := DataW.trod_int Try.underlying56 h2
      obtain ⟨d, e3, _, w3⟩ := DataW.trod_int Try.underlying56 h3
      obtain ⟨e, e4, _, w4⟩ := DataW.trod_int Try.underlying3 h4
      simp at e0 e1 e2 e3 e4
      subst e0; subst e1; subst e2; subst e3; subst e4
      obtain ⟨a0, a1⟩ := bounds_i64 w0; obtain ⟨b0, b1⟩ := bounds_u8 w1; obtain ⟨c0, c1⟩ := bounds_i64 w2; obtain ⟨d0, d1⟩ := bounds_i64 w3; obtain ⟨f0, f1⟩ := bounds_i64 w4
      exact ⟨a, b, c, d, e, rfl, ⟨a0, a1, b0, b1, c0, c1, d0, d1, f0, f1⟩⟩
theorem open_rule {r : Reach} {b : Nat} {v : Value} {d : DataW H} {p : List MemPlace} (ho : Value.okWide Try.prog W r b 147 v) (h : DataW.Trod enc Try.prog W base spare held 147 v d p) :
    ∃ kd lt lf rg tm, v = .agg #[.int .i64 kd, .int .u8 lt, .int .i64 lf, .int .i64 rg, .int .i64 tm] ∧ RuleOk kd lt lf rg tm := by
  obtain ⟨cs, rfl, hsz⟩ := okWide_struct Try.underlying147 ho
  obtain ⟨fuel, hf⟩ := h
  obtain ⟨kd, lt, lf, rg, tm, e, ok⟩ := rule_of_trod hf
  refine ⟨kd, lt, lf, rg, tm, ?_, ok⟩
  simp only [Value.cells] at e
  rw [← Array.toList_inj.1 (show cs.toList = (#[.int .i64 kd, .int .u8 lt, .int .i64 lf, .int .i64 rg, .int .i64 tm] : Array Value).toList from e)]
end
end Go.Proofs.Ytolhjkpekmmajaa
