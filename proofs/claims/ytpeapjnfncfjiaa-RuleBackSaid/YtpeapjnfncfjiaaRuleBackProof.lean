/- The law RuleBack of the given program returns true for every input, and each argument reads afterwards as it read before. No condition beyond those of the given row. -/
import Derived.Test.YtpeapjnfncfjiaaRows
import Derived.Test.YtpeapjnfncfjiaaRuleBack
import Derived.Test.YtpeapjnfncfjiaaU8s
import Derived.Test.YtpeapjnfncfjiaaRowFrame
import Derived.Test.YtpeapjnfncfjiaaOpenRule
import Derived.Test.YtpeapjnfncfjiaaFrame
namespace Go.Proofs.Ytpeapjnfncfjiaa.ruleBack
open Go.ChangeShapes Go.WideShapes Go.ChangeAt Go.RowKit
open Go.ChangeMaps (open_string shut_string)
set_option linter.unusedVariables false

set_option maxRecDepth 100000 in
theorem lifted (os : Os) (started : os.Started) (H : Type) (enc : TypeId × Value → H) :
    ReturnsInHanded {} Try.checked os 10 .any (Rows.ruleBackSpec.pre6 enc Try.prog Try.f10 Rows.ruleBackRow.domain false) (Rows.ruleBackSpec.post enc Try.prog Try.f10 false true false false) := by
  refine returnsInHanded_of_change_sized (C := Try.checked) own started (by kernel_rfl) Try.func10
    (ChangeSpec.witness6 (enc := enc) (C := Try.checked) false ⟨#[], #[.agg #[.int .i64 0, .int .u8 0, .int .i64 0, .int .i64 0, .int .i64 0], .int .i64 0, .slice none 0 0], []⟩ 8 (by kernel_rfl) (by kernel_rfl) (by kernel_rfl) (by kernel_rfl)) ?_
  intro W base args ds gs before hval0 hW hcnd hsz0 _
  have hval : ∀ (j : Nat) t v, Try.f10.params[j]? = some t → args[j]? = some v → Value.okWide Try.prog W .any base t v := hval0
  have hW' := hW
  obtain ⟨p, q, hA0, hV, rfl, hfz, hnd⟩ := hW
  have hA : DataW.TrodAll enc Try.prog W 0 (fun _ => true) true Try.f10.params.toList args.toList ds p := hA0
  have hsz : (DataW.weightsEach Try.prog (Try.f10.params.toList ++ Rows.ruleBackSpec.plain.varTypes Try.prog) (ds ++ gs)).all (· ≤ reachBytes) = true := hsz0
  rw [Try.params10] at hA hval hsz
  obtain ⟨v0, vs0, d0, ds0, p0, q0, hargs, rfl, rfl, h0, r0⟩ := trodAll_cons hA
  obtain ⟨v1, vs1, d1, ds1, p1, q1, rfl, rfl, rfl, h1, r1⟩ := trodAll_cons r0
  obtain ⟨v2, vs2, d2, ds2, p2, q2, rfl, rfl, rfl, h2, r2⟩ := trodAll_cons r1
  obtain ⟨rfl, rfl, rfl⟩ := trodAll_nil r2
  obtain rfl : args = #[v0, v1, v2] := by cases args; simp_all
  obtain ⟨rfl, rfl⟩ := trodVars_none hV
  have k0 := h0
  have plc0 : ∀ x ∈ p0, x.block < W.heap.size := by obtain ⟨m, hm⟩ := k0; exact DataW.trod_lt m _ _ _ hm
  obtain ⟨kd0, lt0, lf0, rg0, tm0, rfl, ok0⟩ := open_rule (hval 0 24 v0 rfl rfl) k0
  have k1 := h1
  have plc1 : ∀ x ∈ p1, x.block < W.heap.size := by obtain ⟨m, hm⟩ := k1; exact DataW.trod_lt m _ _ _ hm
  obtain ⟨a1, rfl, _, _, w1⟩ := open_int Try.underlying3 (hval 1 3 v1 rfl rfl) h1
  obtain ⟨l1, u1⟩ := bounds_i64 w1
  have k2 := h2
  have plc2 : ∀ x ∈ p2, x.block < W.heap.size := by obtain ⟨m, hm⟩ := k2; exact DataW.trod_lt m _ _ _ hm
  obtain ⟨a2, len2, cap2, z2, rfl, w2, c2, g2⟩ := open_row (k := .u8) Try.underlying45 Try.underlying5 (by kernel_rfl) (hval 2 45 v2 rfl rfl) k2 1 (by kernel_rfl) (fun es sp hd => sized_slice hsz (j := 2) (t := 45) (e := 5) rfl (by rw [← hd]; rfl) Try.underlying45)
  clear hA0 hval0
  have hwalk : Calls Try.prog 10 _ W fun e w' => e = .returned (.bool true) ∧ Below W.heap.size W w' := law_back kd0 lt0 lf0 rg0 tm0 a1 ok0.lt0 ok0.lt1 (by omega) (by omega) ok0.tm1 (z2.take len2) len2 cap2 a2 (len_of_is w2) (by omega) (u8s_of (wf_of_is w2)) W (row_of_is w2)
  refine hwalk.mono fun e W' ⟨he, bel⟩ => ?_
  subst he
  exact ⟨_, rfl, _, _, _, [], _, [], hW', trodAll_mk1 (shut_bool Try.underlying4 _), (trodAll_cons_mk (Below.trod laidOut (by kernel_rfl) (of_decide_eq_true (by kernel_rfl)) k0 bel plc0) (trodAll_cons_mk (Below.trod laidOut (by kernel_rfl) (of_decide_eq_true (by kernel_rfl)) k1 bel plc1) (trodAll_cons_mk (Below.trod laidOut (by kernel_rfl) (of_decide_eq_true (by kernel_rfl)) k2 bel plc2) trodAll_mk0))), rfl, bel.frame _, fun h => by cases h⟩

theorem over : Rows.ruleBackRow.holds Try.pinned (OpenSpec.ofChange Rows.ruleBackSpec) :=
  OpenClaim.holds_of_wide 10 Try.f10 rfl rfl rfl rfl rfl rfl rfl ⟨rfl, rfl, rfl, rfl, rfl⟩ rfl rfl rfl rfl rfl (by kernel_rfl) Try.func10 (by kernel_rfl)
    (of_decide_eq_true (by kernel_rfl)) (by unfold Func.isWrapper; first | (rw [if_pos (by decide +kernel)]; kernel_rfl) | (rw [if_neg (by decide +kernel)]; exact ⟨rfl, rfl⟩))
    (fun os started H enc _ => lifted os started H enc)

theorem proved : Rows.RuleBackSaid := over
#print axioms proved
end Go.Proofs.Ytpeapjnfncfjiaa.ruleBack
