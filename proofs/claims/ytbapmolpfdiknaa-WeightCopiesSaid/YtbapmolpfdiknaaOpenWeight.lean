/- A weight that came in: by value, in an array of three: opened to its numbers. -/
import Derived.Test.YtbapmolpfdiknaaFrame
import Derived.Test.YtbapmolpfdiknaaWgtOf
import Derived.Deep.Slices
import Derived.OpenShut
namespace Go.Proofs.Ytbapmolpfdiknaa
set_option linter.unusedVariables false
set_option linter.unusedSimpArgs false
open Go.ChangeShapes Go.WideShapes Go.ChangeAt Go.RowKit Go.Deep
theorem wgt_cells : Try.prog.cellsOf 26 = 6 := by kernel_rfl
theorem wdig_cells : Try.prog.cellsOf 24 = 2 := by kernel_rfl
section
variable {H : Type} {enc : TypeId × Value → H} {W : World} {base : Nat} {spare : Nat → Bool} {held : Bool}
theorem wdig_of_trod {fuel : Nat} {cs : List Value} {x : DataW H × List MemPlace} (h : DataW.trod enc Try.prog W base spare held fuel 24 cs = some x) :
    ∃ va sc, cs = [.int .u64 va, .int .u64 sc] ∧ U va ∧ U sc := by
  obtain ⟨xs, n, _, _, hlen, hxl, hg⟩ := DataW.trod_struct Try.underlying24 h
  rw [wdig_cells] at hlen
  match cs, hlen with
  | [c0, c1], _ =>
    match xs, hxl with
    | [x0, x1], _ =>
      have h0 : DataW.trod enc Try.prog W base spare held n 22 (([c0, c1].drop 0).take (Try.prog.cellsOf 22)) = some x0 := hg 0 _ rfl
      have h1 : DataW.trod enc Try.prog W base spare held n 22 (([c0, c1].drop 1).take (Try.prog.cellsOf 22)) = some x1 := hg 1 _ rfl
      have k3 : Try.prog.cellsOf 22 = 1 := by kernel_rfl
      rw [k3] at h0 h1
      obtain ⟨a, e0, _, w0⟩ := DataW.trod_int Try.underlying22 h0
      obtain ⟨b, e1, _, w1⟩ := DataW.trod_int Try.underlying22 h1
      simp at e0 e1
      subst e0; subst e1
      obtain ⟨a0, a1⟩ := bounds_u64 w0; obtain ⟨b0, b1⟩ := bounds_u64 w1
      exact ⟨a, b, rfl, ⟨a0, by omega⟩, ⟨b0, by omega⟩⟩
theorem wgt_of_trod {fuel : Nat} {cs : List Value} {x : DataW H × List MemPlace} (h : DataW.trod enc Try.prog W base spare held fuel 26 cs = some x) :
    ∃ y : Wt, cs = [.int .i64 y.n, .int .i64 y.l, .int .i64 y.h, .int .i64 y.t, .int .u64 y.v, .int .u64 y.s] ∧ WOk y := by
  obtain ⟨xs, n, _, _, hlen, hxl, hg⟩ := DataW.trod_struct Try.underlying26 h
  rw [wgt_cells] at hlen
  match cs, hlen with
  | [c0, c1, c2, c3, c4, c5], _ =>
    match xs, hxl with
    | [x0, x1, x2, x3, x4], _ =>
      have h0 : DataW.trod enc Try.prog W base spare held n 3 (([c0, c1, c2, c3, c4, c5].drop 0).take (Try.prog.cellsOf 3)) = some x0 := hg 0 _ rfl
      have h1 : DataW.trod enc Try.prog W base spare held n 3 (([c0, c1, c2, c3, c4, c5].drop 1).take (Try.prog.cellsOf 3)) = some x1 := hg 1 _ rfl
      have h2 : DataW.trod enc Try.prog W base spare held n 3 (([c0, c1, c2, c3, c4, c5].drop 2).take (Try.prog.cellsOf 3)) = some x2 := hg 2 _ rfl
      have h3 : DataW.trod enc Try.prog W base spare held n 3 (([c0, c1, c2, c3, c4, c5].drop 3).take (Try.prog.cellsOf 3)) = some x3 := hg 3 _ rfl
      have h4 : DataW.trod enc Try.prog W base spare held n 24 (([c0, c1, c2, c3, c4, c5].drop 4).take (Try.prog.cellsOf 24)) = some x4 := hg 4 _ rfl
      have k3 : Try.prog.cellsOf 3 = 1 := by kernel_rfl
      rw [k3] at h0 h1 h2 h3
      rw [wdig_cells] at h4
      obtain ⟨a, e0, _, w0⟩ := DataW.trod_int Try.underlying3 h0
      obtain ⟨b, e1, _, w1⟩ := DataW.trod_int Try.underlying3 h1
      obtain ⟨c, e2, _, w2⟩ := DataW.trod_int Try.underlying3 h2
      obtain ⟨d, e3, _, w3⟩ := DataW.trod_int Try.underlying3 h3
      obtain ⟨va, sc, e4, u4, u5⟩ := wdig_of_trod h4
      simp at e0 e1 e2 e3 e4
      obtain ⟨e4, e5⟩ := e4
      subst e0; subst e1; subst e2; subst e3; subst e4; subst e5
      obtain ⟨a0, a1⟩ := bounds_i64 w0; obtain ⟨b0, b1⟩ := bounds_i64 w1; obtain ⟨c0, c1⟩ := bounds_i64 w2; obtain ⟨d0, d1⟩ := bounds_i64 w3
      exact ⟨⟨a, b, c, d, va, sc⟩, rfl, ⟨a0, a1, b0, b1, c0, c1, d0, d1, u4, u5⟩⟩
theorem open_weight {r : Reach} {b : Nat} {v : Value} {d : DataW H} {p : List MemPlace} (ho : Value.okWide Try.prog W r b 26 v) (h : DataW.Trod enc Try.prog W base spare held 26 v d p) :
    ∃ y : Wt, v = .agg #[.int .i64 y.n, .int .i64 y.l, .int .i64 y.h, .int .i64 y.t, .int .u64 y.v, .int .u64 y.s] ∧ WOk y := by
  obtain ⟨cs, rfl, hsz⟩ := okWide_struct Try.underlying26 ho
  obtain ⟨fuel, hf⟩ := h
  obtain ⟨y, e, ok⟩ := wgt_of_trod hf
  refine ⟨y, ?_, ok⟩
  simp only [Value.cells] at e
  rw [← Array.toList_inj.1 (show cs.toList = (#[.int .i64 y.n, .int .i64 y.l, .int .i64 y.h, .int .i64 y.t, .int .u64 y.v, .int .u64 y.s] : Array Value).toList from e)]
theorem wgt3_cells : Try.prog.cellsOf 43 = 18 := by kernel_rfl
theorem split18 (cs : List Value) (a b c : List Value) (h0 : (cs.drop 0).take 6 = a) (h1 : (cs.drop 6).take 6 = b) (h2 : (cs.drop 12).take 6 = c) (hl : cs.length = 18) : cs = a ++ b ++ c := by
  match cs, hl with
  | [x0, x1, x2, x3, x4, x5, x6, x7, x8, x9, x10, x11, x12, x13, x14, x15, x16, x17], _ => subst h0 h1 h2; rfl
theorem open_weight3 {r : Reach} {b : Nat} {v : Value} {d : DataW H} {p : List MemPlace} (ho : Value.okWide Try.prog W r b 43 v) (h : DataW.Trod enc Try.prog W base spare held 43 v d p) :
    ∃ x y z : Wt, v = .agg #[.int .i64 x.n, .int .i64 x.l, .int .i64 x.h, .int .i64 x.t, .int .u64 x.v, .int .u64 x.s, .int .i64 y.n, .int .i64 y.l, .int .i64 y.h, .int .i64 y.t, .int .u64 y.v, .int .u64 y.s, .int .i64 z.n, .int .i64 z.l, .int .i64 z.h, .int .i64 z.t, .int .u64 z.v, .int .u64 z.s] ∧ WOk x ∧ WOk y ∧ WOk z := by
  have ho' := ho
  simp only [Value.okWide, Try.underlying43] at ho'
  obtain ⟨cs, rfl, hsz, _⟩ := ho'
  obtain ⟨fuel, hf⟩ := h
  obtain ⟨xs, m, _, _, hlen, hxl, hg⟩ := DataW.trod_array Try.underlying43 hf
  rw [wgt3_cells] at hlen
  rw [wgt_cells] at hg
  match xs, hxl with
  | [x0, x1, x2], _ =>
    obtain ⟨x, ea, oka⟩ := wgt_of_trod (hg 0 (by omega))
    obtain ⟨y, eb, okb⟩ := wgt_of_trod (hg 1 (by omega))
    obtain ⟨z, ec, okc⟩ := wgt_of_trod (hg 2 (by omega))
    refine ⟨x, y, z, ?_, oka, okb, okc⟩
    have := split18 _ _ _ _ ea eb ec hlen
    simp only [Value.cells] at this
    rw [← Array.toList_inj.1 (show cs.toList = (#[.int .i64 x.n, .int .i64 x.l, .int .i64 x.h, .int .i64 x.t, .int .u64 x.v, .int .u64 x.s, .int .i64 y.n, .int .i64 y.l, .int .i64 y.h, .int .i64 y.t, .int .u64 y.v, .int .u64 y.s, .int .i64 z.n, .int .i64 z.l, .int .i64 z.h, .int .i64 z.t, .int .u64 z.v, .int .u64 z.s] : Array Value).toList from this)]
end
end Go.Proofs.Ytbapmolpfdiknaa
