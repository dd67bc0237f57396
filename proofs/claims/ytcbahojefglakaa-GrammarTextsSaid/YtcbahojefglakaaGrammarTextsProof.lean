/- The law GrammarTexts of the given program returns true for every input, and each argument reads afterwards as it read before. No condition beyond those of the given row. -/
import Derived.Test.YtcbahojefglakaaRows
import Derived.Test.YtcbahojefglakaaGrTexts
import Derived.Test.YtcbahojefglakaaU8s
import Derived.Test.YtcbahojefglakaaRowFrame
import Derived.Test.YtcbahojefglakaaFrame
namespace Go.Proofs.Ytcbahojefglakaa.grammarTexts
open Go.ChangeShapes Go.WideShapes Go.ChangeAt Go.RowKit
open Go.ChangeMaps (open_string shut_string)
set_option linter.unusedVariables false

set_option maxRecDepth 100000 in
theorem lifted (os : Os) (started : os.Started) (H : Type) (enc : TypeId × Value → H) :
    ReturnsInHanded {} Try.checked os 6 .any (Rows.grammarTextsSpec.pre6 enc Try.prog Try.f6 Rows.grammarTextsRow.domain false) (Rows.grammarTextsSpec.post enc Try.prog Try.f6 false true false false) := by
  refine returnsInHanded_of_change_sized (C := Try.checked) own started (by kernel_rfl) Try.func6
    (ChangeSpec.witness6 (enc := enc) (C := Try.checked) false ⟨#[], #[.slice none 0 0, .bool false], []⟩ 8 (by kernel_rfl) (by kernel_rfl) (by kernel_rfl) (by kernel_rfl)) ?_
  intro W base args ds gs before hval0 hW hcnd hsz0 _
  have hval : ∀ (j : Nat) t v, Try.f6.params[j]? = some t → args[j]? = some v → Value.okWide Try.prog W .any base t v := hval0
  have hW' := hW
  obtain ⟨p, q, hA0, hV, rfl, hfz, hnd⟩ := hW
  have hA : DataW.TrodAll enc Try.prog W 0 (fun _ => true) true Try.f6.params.toList args.toList ds p := hA0
  have hsz : (DataW.weightsEach Try.prog (Try.f6.params.toList ++ Rows.grammarTextsSpec.plain.varTypes Try.prog) (ds ++ gs)).all (· ≤ reachBytes) = true := hsz0
  rw [Try.params6] at hA hval hsz
  obtain ⟨v0, vs0, d0, ds0, p0, q0, hargs, rfl, rfl, h0, r0⟩ := trodAll_cons hA
  obtain ⟨v1, vs1, d1, ds1, p1, q1, rfl, rfl, rfl, h1, r1⟩ := trodAll_cons r0
  obtain ⟨rfl, rfl, rfl⟩ := trodAll_nil r1
  obtain rfl : args = #[v0, v1] := by cases args; simp_all
  obtain ⟨rfl, rfl⟩ := trodVars_none hV
  have k0 := h0
  have plc0 : ∀ x ∈ p0, x.block < W.heap.size := by obtain ⟨m, hm⟩ := k0; exact DataW.trod_lt m _ _ _ hm
  obtain ⟨a0, len0, cap0, z0, rfl, w0, c0, g0⟩ := open_row (k := .u8) Try.underlying27 Try.underlying5 (by kernel_rfl) (hval 0 27 v0 rfl rfl) k0 1 (by kernel_rfl) (fun es sp hd => sized_slice hsz (j := 0) (t := 27) (e := 5) rfl (by rw [← hd]; rfl) Try.underlying27)
  have k1 := h1
  have plc1 : ∀ x ∈ p1, x.block < W.heap.size := by obtain ⟨m, hm⟩ := k1; exact DataW.trod_lt m _ _ _ hm
  obtain ⟨a1, rfl, _, _⟩ := open_bool Try.underlying4 (hval 1 4 v1 rfl rfl) h1
  clear hA0 hval0
  have hwalk : Calls Try.prog 6 _ W fun e w' => e = .returned (.bool true) ∧ Below W.heap.size W w' := law_texts (z0.take len0) len0 cap0 a0 (len_of_is w0) (u8s_of (wf_of_is w0)) a1 W (row_of_is w0)
  refine hwalk.mono fun e W' ⟨he, bel⟩ => ?_
  subst he
  exact ⟨_, rfl, _, _, _, [], _, [], hW', trodAll_mk1 (shut_bool Try.underlying4 _), (trodAll_cons_mk (Below.trod laidOut (by kernel_rfl) (of_decide_eq_true (by kernel_rfl)) k0 bel plc0) (trodAll_cons_mk (Below.trod laidOut (by kernel_rfl) (of_decide_eq_true (by kernel_rfl)) k1 bel plc1) trodAll_mk0)), rfl, bel.frame _, fun h => by cases h⟩

theorem over : Rows.grammarTextsRow.holds Try.pinned (OpenSpec.ofChange Rows.grammarTextsSpec) :=
  OpenClaim.holds_of_wide 6 Try.f6 rfl rfl rfl rfl rfl rfl rfl ⟨rfl, rfl, rfl, rfl, rfl⟩ rfl rfl rfl rfl rfl (by kernel_rfl) Try.func6 (by kernel_rfl)
    (of_decide_eq_true (by kernel_rfl)) (by unfold Func.isWrapper; first | (rw [if_pos (by decide +kernel)]; kernel_rfl) | (rw [if_neg (by decide +kernel)]; exact ⟨rfl, rfl⟩))
    (fun os started H enc _ => lifted os started H enc)

theorem proved : Rows.GrammarTextsSaid := over
#print axioms proved
end Go.Proofs.Ytcbahojefglakaa.grammarTexts
