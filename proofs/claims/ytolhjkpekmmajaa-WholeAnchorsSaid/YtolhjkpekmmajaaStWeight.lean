/- The walk of the store's Weight at a rule. -/
import Derived.Test.YtolhjkpekmmajaaStPair
namespace Go.Proofs.Ytolhjkpekmmajaa
set_option linter.unusedVariables false
set_option linter.unusedSimpArgs false
open Go.RowKit Go.Lib Go.Maps
attribute [local go_sem ↓] Go.wp_at_zero Go.wp_at_succ
theorem field_weight (kd lt_ lf rg tm n l h t v s dp : Int) (ev : Bool) (w : World) : (Instr.field 149 (.agg #[.int .i64 kd, .int .u8 lt_, .int .i64 lf, .int .i64 rg, .int .i64 tm, .int .i64 n, .int .i64 l, .int .i64 h, .int .i64 t, .int .u64 v, .int .u64 s, .int .i64 dp, .bool ev]) 1).run Try.prog w = .ok (.agg #[.int .i64 n, .int .i64 l, .int .i64 h, .int .i64 t, .int .u64 v, .int .u64 s]) w := by kernel_rfl
set_option maxRecDepth 100000 in
set_option maxHeartbeats 4000000 in
theorem weight_rule (L : List En) (k : Nat) (e : En) (he : L[k]? = some e) (hL : L.length ≤ 1048576) (B S G : Nat) (w : World) (st : St w B S G L) :
    Calls Try.prog 34 #[.pointer (some ⟨S, 0, none⟩), .int .i64 ((k : Int) + 1)] w fun r w' => r = .returned (.tuple #[.agg #[.int .i64 e.w.n, .int .i64 e.w.l, .int .i64 e.w.h, .int .i64 e.w.t, .int .u64 e.w.v, .int .u64 e.w.s], .nilIface]) ∧ Below w.heap.size w w' := by
  have hkl := (List.getElem?_eq_some_iff.1 he).1
  have HK := Lib.hid (fun w st => known_yes L ((k : Int) + 1) (by omega) (by omega) B S G w st)
  have HA := Lib.hid (fun w st => at_rule L k e he hL B S G w st)
  obtain ⟨⟨kd, lt_, lf, rg, tm⟩, ⟨n, l, h, t, v, s⟩, dp, ev⟩ := e
  have HA' : Hid (∀ w, St w B S G L → Calls Try.prog 54 #[.pointer (some ⟨S, 0, none⟩), .int .i64 ((k : Int) + 1)] w fun r w' => r = .returned (.agg #[.int .i64 kd, .int .u8 lt_, .int .i64 lf, .int .i64 rg, .int .i64 tm, .int .i64 n, .int .i64 l, .int .i64 h, .int .i64 t, .int .u64 v, .int .u64 s, .int .i64 dp, .bool ev]) ∧ Below w.heap.size w w') := HA
  have hf := field_weight kd lt_ lf rg tm n l h t v s dp ev
  have BA := balloc (Below.refl w.heap.size w) (.cells #[.int .i64 0, .int .i64 0, .int .i64 0, .int .i64 0, .int .u64 0, .int .u64 0] 110)
  have HSA := Lib.hid (st.below BA); have HBA := Lib.hid BA
  clear he hkl hL HA st BA
  go_enter Try.func34, Try.ntmps34
  go_wp2_with fail
  (with_reducible refine (HK.out _ HSA.out).mono ?_)
  rintro e w' ⟨rfl, rfl⟩
  go_wp2_with fail
  (with_reducible refine (HA'.out _ HSA.out).mono ?_)
  rintro e w1 ⟨rfl, B1⟩
  have PR : Box w1 w.heap.size 110 #[.int .i64 0, .int .i64 0, .int .i64 0, .int .i64 0, .int .u64 0, .int .u64 0] := (Box.new w _ _).below B1 (by simp)
  have BW := bkeep HBA.out B1
  have y0 := PR.cell 0; have y1 := PR.cell 1; have y2 := PR.cell 2; have y3 := PR.cell 3; have y4 := PR.cell 4; have y5 := PR.cell 5
  simp only [List.getElem?_toArray, List.getElem?_cons_zero, List.getElem?_cons_succ] at y0 y1 y2 y3 y4 y5
  have f0 := PR.free 0; have f1 := PR.free 1; have f2 := PR.free 2; have f3 := PR.free 3; have f4 := PR.free 4; have f5 := PR.free 5
  have HBW := Lib.hid BW
  clear B1 PR BW
  go_wp2_with fail
  refine bodyPost_ret (v := .tuple #[.agg #[.int .i64 n, .int .i64 l, .int .i64 h, .int .i64 t, .int .u64 v, .int .u64 s], .nilIface]) ?_ rfl ⟨rfl, ?_⟩
  · simp only [results, Try.results34]
    simp [go_sem, y0, y1, y2, y3, y4, y5]
  · repeat (first | (with_reducible exact HBW.out) | (with_reducible refine Below.setCell ?_ (by simp) _))
end Go.Proofs.Ytolhjkpekmmajaa
