/- The walks of the store's Depth and Even at any known ID. -/
import Derived.Test.YtolhjkpekmmajaaStPair0
namespace Go.Proofs.Ytolhjkpekmmajaa
set_option linter.unusedVariables false
set_option linter.unusedSimpArgs false
open Go.RowKit Go.Lib Go.Maps
attribute [local go_sem ↓] Go.wp_at_zero Go.wp_at_succ
theorem field_depth (kd lt_ lf rg tm n l h t v s dp : Int) (ev : Bool) (w : World) : (Instr.field 149 (.agg #[.int .i64 kd, .int .u8 lt_, .int .i64 lf, .int .i64 rg, .int .i64 tm, .int .i64 n, .int .i64 l, .int .i64 h, .int .i64 t, .int .u64 v, .int .u64 s, .int .i64 dp, .bool ev]) 2).run Try.prog w = .ok (.int .i64 dp) w := by kernel_rfl
theorem field_even (kd lt_ lf rg tm n l h t v s dp : Int) (ev : Bool) (w : World) : (Instr.field 149 (.agg #[.int .i64 kd, .int .u8 lt_, .int .i64 lf, .int .i64 rg, .int .i64 tm, .int .i64 n, .int .i64 l, .int .i64 h, .int .i64 t, .int .u64 v, .int .u64 s, .int .i64 dp, .bool ev]) 3).run Try.prog w = .ok (.bool ev) w := by kernel_rfl
theorem at_any (L : List En) (x : Int) (h0 : 0 ≤ x) (h1 : x ≤ L.length) (hL : L.length ≤ 1048576) (B S G : Nat) (w : World) (st : St w B S G L) :
    Calls Try.prog 54 #[.pointer (some ⟨S, 0, none⟩), .int .i64 x] w fun r w' => r = .returned (.agg (ent L x).cells.toArray) ∧ Below w.heap.size w w' := by
  by_cases hx : x = 0
  · subst hx; rw [ent_zero]; exact at_zero L S w
  · have he := ent_at (L := L) (x := x) (by omega) h1
    have := at_rule L (x - 1).toNat (ent L x) he hL B S G w st
    rw [show (((x - 1).toNat : Nat) : Int) + 1 = x by omega] at this
    exact this
set_option maxRecDepth 100000 in
theorem depth_any (L : List En) (x : Int) (h0 : 0 ≤ x) (h1 : x ≤ L.length) (hL : L.length ≤ 1048576) (B S G : Nat) (w : World) (st : St w B S G L) :
    Calls Try.prog 68 #[.pointer (some ⟨S, 0, none⟩), .int .i64 x] w fun r w' => r = .returned (.tuple #[.int .i64 (ent L x).dp, .nilIface]) ∧ Below w.heap.size w w' := by
  have HK := Lib.hid (fun w st => known_yes L x h0 h1 B S G w st)
  have HA := Lib.hid (fun w st => at_any L x h0 h1 hL B S G w st)
  have HST := Lib.hid st
  obtain ⟨e, he⟩ : ∃ e, e = ent L x := ⟨_, rfl⟩
  rw [← he] at HA ⊢
  obtain ⟨⟨kd, lt_, lf, rg, tm⟩, ⟨n, l, h, t, v, s⟩, dp, ev⟩ := e
  have HA' : Hid (∀ w, St w B S G L → Calls Try.prog 54 #[.pointer (some ⟨S, 0, none⟩), .int .i64 x] w fun r w' => r = .returned (.agg #[.int .i64 kd, .int .u8 lt_, .int .i64 lf, .int .i64 rg, .int .i64 tm, .int .i64 n, .int .i64 l, .int .i64 h, .int .i64 t, .int .u64 v, .int .u64 s, .int .i64 dp, .bool ev]) ∧ Below w.heap.size w w') := HA
  have hf := field_depth kd lt_ lf rg tm n l h t v s dp ev
  clear h0 h1 hL st HA he
  go_enter Try.func68, Try.ntmps68
  go_wp2_with fail
  (with_reducible refine (HK.out _ HST.out).mono ?_)
  rintro e w' ⟨rfl, rfl⟩
  go_wp2_with fail
  (with_reducible refine (HA'.out _ HST.out).mono ?_)
  rintro e w1 ⟨rfl, B1⟩
  go_wp2_with fail
  go_ret2
  exact ⟨rfl, B1⟩
set_option maxRecDepth 100000 in
theorem even_any (L : List En) (x : Int) (h0 : 0 ≤ x) (h1 : x ≤ L.length) (hL : L.length ≤ 1048576) (B S G : Nat) (w : World) (st : St w B S G L) :
    Calls Try.prog 69 #[.pointer (some ⟨S, 0, none⟩), .int .i64 x] w fun r w' => r = .returned (.bool (ent L x).ev) ∧ Below w.heap.size w w' := by
  have HK := Lib.hid (fun w st => known_yes L x h0 h1 B S G w st)
  have HA := Lib.hid (fun w st => at_any L x h0 h1 hL B S G w st)
  have HST := Lib.hid st
  obtain ⟨e, he⟩ : ∃ e, e = ent L x := ⟨_, rfl⟩
  rw [← he] at HA ⊢
  obtain ⟨⟨kd, lt_, lf, rg, tm⟩, ⟨n, l, h, t, v, s⟩, dp, ev⟩ := e
  have HA' : Hid (∀ w, St w B S G L → Calls Try.prog 54 #[.pointer (some ⟨S, 0, none⟩), .int .i64 x] w fun r w' => r = .returned (.agg #[.int .i64 kd, .int .u8 lt_, .int .i64 lf, .int .i64 rg, .int .i64 tm, .int .i64 n, .int .i64 l, .int .i64 h, .int .i64 t, .int .u64 v, .int .u64 s, .int .i64 dp, .bool ev]) ∧ Below w.heap.size w w') := HA
  have hf := field_even kd lt_ lf rg tm n l h t v s dp ev
  clear h0 h1 hL st HA he
  go_enter Try.func69, Try.ntmps69
  go_wp2_with fail
  (with_reducible refine (HK.out _ HST.out).mono ?_)
  rintro e w' ⟨rfl, rfl⟩
  go_wp2_with fail
  (with_reducible refine (HA'.out _ HST.out).mono ?_)
  rintro e w1 ⟨rfl, B1⟩
  go_wp2_with fail
  go_ret
  exact ⟨rfl, B1⟩
end Go.Proofs.Ytolhjkpekmmajaa
