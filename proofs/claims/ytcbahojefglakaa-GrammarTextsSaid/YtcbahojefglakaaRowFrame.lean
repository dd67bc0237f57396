/- From the frame's word for a slice of integers that came in (IsRow) to the walk's (RowAt). -/
import Derived.Test.YtcbahojefglakaaFrame
import Derived.Test.YtcbahojefglakaaWords
namespace Go.Proofs.Ytcbahojefglakaa
set_option linter.unusedVariables false
set_option linter.unusedSimpArgs false
open Go.RowKit
theorem row_of_is {k : IntKind} {w : World} {a : Option Addr} {len cap : Nat} {zs : List Int} (h : IsRow k w a len cap zs) : RowAt w a ((zs.take len).map (.int k)) := by
  intro i u hu
  rcases h with ⟨rfl, rfl, rfl, rfl⟩ | ⟨x, rfl, hl, _, hz, hc, _⟩
  · simp at hu
  · have hi : i < ((zs.take len).map (Value.int k)).length := (List.getElem?_eq_some_iff.1 hu).1
    simp only [List.length_map, List.length_take] at hi
    refine ⟨x, rfl, (hc i (by omega)).trans ?_⟩
    rw [List.getElem?_map, List.getElem?_take_of_lt (by omega), List.getElem?_eq_getElem (by omega)] at hu
    simp only [Option.map_some, Option.some.injEq] at hu
    rw [← hu, List.getD_eq_getElem?_getD, List.getElem?_eq_getElem (by omega)]
    rfl
theorem len_of_is {k : IntKind} {w : World} {a : Option Addr} {len cap : Nat} {zs : List Int} (h : IsRow k w a len cap zs) : (zs.take len).length = len := by
  rcases h with ⟨rfl, rfl, rfl, rfl⟩ | ⟨x, rfl, hl, _, hz, _, _⟩
  · rfl
  · rw [List.length_take]; omega
theorem wf_of_is {k : IntKind} {w : World} {a : Option Addr} {len cap : Nat} {zs : List Int} (h : IsRow k w a len cap zs) : ∀ n ∈ zs.take len, (Lit.int k n).wf = true := by
  rcases h with ⟨rfl, rfl, rfl, rfl⟩ | ⟨x, rfl, _, _, _, _, hw⟩
  · intro n hn; simp at hn
  · exact fun n hn => hw n (List.mem_of_mem_take hn)
theorem nil_of_is {k : IntKind} {w : World} {a : Option Addr} {len cap : Nat} {zs : List Int} (h : IsRow k w a len cap zs) : a = none → len = 0 ∧ cap = 0 := by
  rcases h with ⟨rfl, rfl, rfl, rfl⟩ | ⟨x, rfl, _⟩
  · exact fun _ => ⟨rfl, rfl⟩
  · intro h; cases h
end Go.Proofs.Ytcbahojefglakaa
