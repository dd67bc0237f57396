/- Two rules compared. -/
import Derived.Test.YtcbahojefglakaaRl
import Derived.Laws.StructEq
namespace Go.Proofs.Ytcbahojefglakaa
set_option linter.unusedVariables false
set_option linter.unusedSimpArgs false
open Go.RowKit Go.Lib
theorem rule_fields : (Try.prog.fieldsOf 46).toList.map (fun f => (f.name, f.type, f.offset)) = [("Kind", 3, 0), ("Letter", 5, 1), ("Left", 44, 2), ("Right", 44, 3), ("Times", 3, 4)] := by kernel_rfl
theorem run_eqFields_rule (d : Nat) (x y : Rl) (w : World) :
    (Op.equalIn (d + 2) 46 x.val y.val).run Try.prog w = .ok (decide (x = y)) w := by
  have hu : Try.prog.underlying 46 = some (.struct (Try.prog.fieldsOf 46)) := by kernel_rfl
  have hp : Try.prog.stoodInHeld 46 = false := by kernel_rfl
  have hf := rule_fields
  rw [run_equalIn_agg w (d + 1) _ _ _ hu hp]
  generalize (Try.prog.fieldsOf 46).toList = fs at hf
  have hl : fs.length = 5 := by have := congrArg List.length hf; simpa using this
  match fs, hl with
  | [f0, f1, f2, f3, f4], _ =>
    simp only [List.map_cons, List.map_nil, List.cons.injEq, Prod.mk.injEq, and_true] at hf
    obtain ⟨⟨n0, t0, o0⟩, ⟨n1, t1, o1⟩, ⟨n2, t2, o2⟩, ⟨n3, t3, o3⟩, ⟨n4, t4, o4⟩⟩ := hf
    obtain ⟨kd, lt, lf, rg, tm⟩ := x
    obtain ⟨kd2, lt2, lf2, rg2, tm2⟩ := y
    simp only [Op.eqFields, n0, n1, n2, n3, n4, t0, t1, t2, t3, t4, o0, o1, o2, o3, o4]
    by_cases h0 : kd = kd2 <;> by_cases h1 : lt = lt2 <;> by_cases h2 : lf = lf2 <;> by_cases h3 : rg = rg2 <;> by_cases h4 : tm = tm2 <;>
      simp [go_sem, h0, h1, h2, h3, h4, Try.underlying3, Try.underlying5, Try.underlying44]
theorem run_eql_rule (x y : Rl) (w : World) : (binOp .eql 46 x.val y.val).run Try.prog w = .ok (.bool (decide (x = y))) w := by
  rw [run_eql_struct, run_eqFields_rule 9998]
  rfl
end Go.Proofs.Ytcbahojefglakaa
