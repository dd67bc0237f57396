/- The law DigestBytes of the given program returns true for every input, and each argument reads afterwards as it read before. No condition beyond those of the given row. -/
import Derived.Test.YtebjdlimboifaaaRows
import Derived.Test.YtebjdlimboifaaaDigBytes
import Derived.Test.YtebjdlimboifaaaU8s
import Derived.Test.YtebjdlimboifaaaRowFrame
import Derived.Test.YtebjdlimboifaaaOpenDigest
import Derived.Test.YtebjdlimboifaaaFrame
namespace Go.Proofs.Ytebjdlimboifaaa.digestBytes
open Go.ChangeShapes Go.WideShapes Go.ChangeAt Go.RowKit
open Go.ChangeMaps (open_string shut_string)
set_option linter.unusedVariables false

set_option maxRecDepth 100000 in
theorem lifted (os : Os) (started : os.Started) (H : Type) (enc : TypeId × Value → H) :
    ReturnsInHanded {} Try.checked os 10 .any (Rows.digestBytesSpec.pre6 enc Try.prog Try.f10 Rows.digestBytesRow.domain false) (Rows.digestBytesSpec.post enc Try.prog Try.f10 false true false false) := by
  refine returnsInHanded_of_change_sized (C := Try.checked) own started (by kernel_rfl) Try.func10
    (ChangeSpec.witness6 (enc := enc) (C := Try.checked) false ⟨#[], #[.agg #[.int .u64 0, .int .u64 0], .slice none 0 0], []⟩ 8 (by kernel_rfl) (by kernel_rfl) (by kernel_rfl) (by kernel_rfl)) ?_
  intro W base args ds gs before hval0 hW hcnd hsz0 _
  have hval : ∀ (j : Nat) t v, Try.f10.params[j]? = some t → args[j]? = some v → Value.okWide Try.prog W .any base t v := hval0
  have hW' := hW
  obtain ⟨p, q, hA0, hV, rfl, hfz, hnd⟩ := hW
  have hA : DataW.TrodAll enc Try.prog W 0 (fun _ => true) true Try.f10.params.toList args.toList ds p := hA0
  have hsz : (DataW.weightsEach Try.prog (Try.f10.params.toList ++ Rows.digestBytesSpec.plain.varTypes Try.prog) (ds ++ gs)).all (· ≤ reachBytes) = true := hsz0
  rw [Try.params10] at hA hval hsz
  obtain ⟨v0, vs0, d0, ds0, p0, q0, hargs, rfl, rfl, h0, r0⟩ := trodAll_cons hA
  obtain ⟨v1, vs1, d1, ds1, p1, q1, rfl, rfl, rfl, h1, r1⟩ := trodAll_cons r0
  obtain ⟨rfl, rfl, rfl⟩ := trodAll_nil r1
  obtain rfl : args = #[v0, v1] := by cases args; simp_all
  obtain ⟨rfl, rfl⟩ := trodVars_none hV
  have k0 := h0
  have plc0 : ∀ x ∈ p0, x.block < W.heap.size := by obtain ⟨m, hm⟩ := k0; exact DataW.trod_lt m _ _ _ hm
  obtain ⟨va0, sc0, rfl, ok0⟩ := open_digest (hval 0 26 v0 rfl rfl) k0
  have k1 := h1
  have plc1 : ∀ x ∈ p1, x.block < W.heap.size := by obtain ⟨m, hm⟩ := k1; exact DataW.trod_lt m _ _ _ hm
  obtain ⟨a1, len1, cap1, z1, rfl, w1, c1, g1⟩ := open_row (k := .u8) Try.underlying29 Try.underlying5 (by kernel_rfl) (hval 1 29 v1 rfl rfl) k1 1 (by kernel_rfl) (fun es sp hd => sized_slice hsz (j := 1) (t := 29) (e := 5) rfl (by rw [← hd]; rfl) Try.underlying29)
  clear hA0 hval0
  have hwalk : Calls Try.prog 10 _ W fun e w' => e = .returned (.bool true) ∧ Below W.heap.size W w' := law_bytes va0 sc0 ok0.va ok0.sc (z1.take len1) len1 cap1 a1 (len_of_is w1) (by omega) (u8s_of (wf_of_is w1)) W (row_of_is w1)
  refine hwalk.mono fun e W' ⟨he, bel⟩ => ?_
  subst he
  exact ⟨_, rfl, _, _, _, [], _, [], hW', trodAll_mk1 (shut_bool Try.underlying4 _), (trodAll_cons_mk (Below.trod laidOut (by kernel_rfl) (of_decide_eq_true (by kernel_rfl)) k0 bel plc0) (trodAll_cons_mk (Below.trod laidOut (by kernel_rfl) (of_decide_eq_true (by kernel_rfl)) k1 bel plc1) trodAll_mk0)), rfl, bel.frame _, fun h => by cases h⟩

theorem over : Rows.digestBytesRow.holds Try.pinned (OpenSpec.ofChange Rows.digestBytesSpec) :=
  OpenClaim.holds_of_wide 10 Try.f10 rfl rfl rfl rfl rfl rfl rfl ⟨rfl, rfl, rfl, rfl, rfl⟩ rfl rfl rfl rfl rfl (by kernel_rfl) Try.func10 (by kernel_rfl)
    (of_decide_eq_true (by kernel_rfl)) (by unfold Func.isWrapper; first | (rw [if_pos (by decide +kernel)]; kernel_rfl) | (rw [if_neg (by decide +kernel)]; exact ⟨rfl, rfl⟩))
    (fun os started H enc _ => lifted os started H enc)

theorem proved : Rows.DigestBytesSaid := over
#print axioms proved
end Go.Proofs.Ytebjdlimboifaaa.digestBytes
