/- The law GrammarDecodes of the given program returns true for every input, and each argument reads afterwards as it read before. No condition beyond those of the given row. -/
import Derived.Test.YtcbahojefglakaaRows
import Derived.Test.YtcbahojefglakaaGrDecodes
import Derived.Test.YtcbahojefglakaaRowFrame
import Derived.Test.YtcbahojefglakaaFrame
namespace Go.Proofs.Ytcbahojefglakaa.grammarDecodes
open Go.ChangeShapes Go.WideShapes Go.ChangeAt Go.RowKit
open Go.ChangeMaps (open_string shut_string)
set_option linter.unusedVariables false

set_option maxRecDepth 100000 in
theorem lifted (os : Os) (started : os.Started) (H : Type) (enc : TypeId × Value → H) :
    ReturnsInHanded {} Try.checked os 11 .any (Rows.grammarDecodesSpec.pre6 enc Try.prog Try.f11 Rows.grammarDecodesRow.domain false) (Rows.grammarDecodesSpec.post enc Try.prog Try.f11 false true false false) := by
  refine returnsInHanded_of_change_sized (C := Try.checked) own started (by kernel_rfl) Try.func11
    (ChangeSpec.witness6 (enc := enc) (C := Try.checked) false ⟨#[], #[.slice none 0 0], []⟩ 8 (by kernel_rfl) (by kernel_rfl) (by kernel_rfl) (by kernel_rfl)) ?_
  intro W base args ds gs before hval0 hW hcnd hsz0 _
  have hval : ∀ (j : Nat) t v, Try.f11.params[j]? = some t → args[j]? = some v → Value.okWide Try.prog W .any base t v := hval0
  have hW' := hW
  obtain ⟨p, q, hA0, hV, rfl, hfz, hnd⟩ := hW
  have hA : DataW.TrodAll enc Try.prog W 0 (fun _ => true) true Try.f11.params.toList args.toList ds p := hA0
  have hsz : (DataW.weightsEach Try.prog (Try.f11.params.toList ++ Rows.grammarDecodesSpec.plain.varTypes Try.prog) (ds ++ gs)).all (· ≤ reachBytes) = true := hsz0
  rw [Try.params11] at hA hval hsz
  obtain ⟨v0, vs0, d0, ds0, p0, q0, hargs, rfl, rfl, h0, r0⟩ := trodAll_cons hA
  obtain ⟨rfl, rfl, rfl⟩ := trodAll_nil r0
  obtain rfl : args = #[v0] := by cases args; simp_all
  obtain ⟨rfl, rfl⟩ := trodVars_none hV
  have k0 := h0
  have plc0 : ∀ x ∈ p0, x.block < W.heap.size := by obtain ⟨m, hm⟩ := k0; exact DataW.trod_lt m _ _ _ hm
  obtain ⟨a0, len0, cap0, z0, rfl, w0, c0, g0⟩ := open_row (k := .u8) Try.underlying27 Try.underlying5 (by kernel_rfl) (hval 0 27 v0 rfl rfl) k0 1 (by kernel_rfl) (fun es sp hd => sized_slice hsz (j := 0) (t := 27) (e := 5) rfl (by rw [← hd]; rfl) Try.underlying27)
  clear hA0 hval0
  have hwalk : Calls Try.prog 11 _ W fun e w' => e = .returned (.bool true) ∧ Below W.heap.size W w' := law_decodes (z0.take len0) len0 cap0 a0 (len_of_is w0) (u8s_of (wf_of_is w0)) W (row_of_is w0)
  refine hwalk.mono fun e W' ⟨he, bel⟩ => ?_
  subst he
  exact ⟨_, rfl, _, _, _, [], _, [], hW', trodAll_mk1 (shut_bool Try.underlying4 _), (trodAll_cons_mk (Below.trod laidOut (by kernel_rfl) (of_decide_eq_true (by kernel_rfl)) k0 bel plc0) trodAll_mk0), rfl, bel.frame _, fun h => by cases h⟩

theorem over : Rows.grammarDecodesRow.holds Try.pinned (OpenSpec.ofChange Rows.grammarDecodesSpec) :=
  OpenClaim.holds_of_wide 11 Try.f11 rfl rfl rfl rfl rfl rfl rfl ⟨rfl, rfl, rfl, rfl, rfl⟩ rfl rfl rfl rfl rfl (by kernel_rfl) Try.func11 (by kernel_rfl)
    (of_decide_eq_true (by kernel_rfl)) (by unfold Func.isWrapper; first | (rw [if_pos (by decide +kernel)]; kernel_rfl) | (rw [if_neg (by decide +kernel)]; exact ⟨rfl, rfl⟩))
    (fun os started H enc _ => lifted os started H enc)

theorem proved : Rows.GrammarDecodesSaid := over
#print axioms proved
end Go.Proofs.Ytcbahojefglakaa.grammarDecodes
