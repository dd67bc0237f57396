/- Moved, Same, Clone; a copy that is the call's own; an empty list of rules with room. -/
import Derived.Test.YtcbahojefglakaaGrDepLaw
import Derived.Laws.MakeOwn
namespace Go.Proofs.Ytcbahojefglakaa
set_option linter.unusedVariables false
set_option linter.unusedSimpArgs false
open Go.RowKit Go.Lib
attribute [local go_sem ↓] Go.wp_at_zero Go.wp_at_succ
def wrp (x : Int) : Int := IntKind.i64.wrap x
/-- a rule, its references moved by a number -/
def mvd (by_ : Int) (r : Rl) : Rl := if r.kd = 1 then r else if r.kd = 2 then ⟨r.kd, r.lt, wrp (r.lf + by_), wrp (r.rg + by_), r.tm⟩ else ⟨r.kd, r.lt, wrp (r.lf + by_), r.rg, r.tm⟩
theorem moved_one (lt lf rg tm b : Int) (w : World) : Calls Try.prog 35 #[.agg #[.int .i64 1, .int .u8 lt, .int .i64 lf, .int .i64 rg, .int .i64 tm], .int .i64 b] w fun e w' => e = .returned (.agg #[.int .i64 1, .int .u8 lt, .int .i64 lf, .int .i64 rg, .int .i64 tm]) ∧ Below w.heap.size w w' := by
  have zn : w.heap.size ≠ w.heap.size + 1 := by omega
  go_enter Try.func35, Try.ntmps35
  go_wp2_with fail
  refine bodyPost_ret (v := .agg #[.int .i64 1, .int .u8 lt, .int .i64 lf, .int .i64 rg, .int .i64 tm]) ?_ rfl ⟨rfl, ?_⟩
  · simp only [results, Try.results35]
    simp [go_sem]
  · repeat (first | exact Below.refl _ _ | (with_reducible refine Below.drew ?_) | (with_reducible refine Below.alloc ?_ (by first | (simp; done) | (simp; omega)) _) | (with_reducible refine Below.setCell ?_ (by simp) _))
theorem moved_two (lt lf rg tm b l2 r2 : Int) (h1 : wrp (lf + b) = l2) (h2 : wrp (rg + b) = r2) (w : World) : Calls Try.prog 35 #[.agg #[.int .i64 2, .int .u8 lt, .int .i64 lf, .int .i64 rg, .int .i64 tm], .int .i64 b] w fun e w' => e = .returned (.agg #[.int .i64 2, .int .u8 lt, .int .i64 l2, .int .i64 r2, .int .i64 tm]) ∧ Below w.heap.size w w' := by
  have zn : w.heap.size ≠ w.heap.size + 1 := by omega
  have e1 : IntKind.i64.wrap (lf + b) = l2 := h1
  have e2 : IntKind.i64.wrap (rg + b) = r2 := h2
  clear h1 h2
  go_enter Try.func35, Try.ntmps35
  go_wp2_with fail
  refine bodyPost_ret (v := .agg #[.int .i64 2, .int .u8 lt, .int .i64 l2, .int .i64 r2, .int .i64 tm]) ?_ rfl ⟨rfl, ?_⟩
  · simp only [results, Try.results35]
    simp [go_sem]
  · repeat (first | exact Below.refl _ _ | (with_reducible refine Below.drew ?_) | (with_reducible refine Below.alloc ?_ (by first | (simp; done) | (simp; omega)) _) | (with_reducible refine Below.setCell ?_ (by simp) _))
theorem moved_else (kd lt lf rg tm b l2 : Int) (k1 : kd ≠ 1) (k2 : kd ≠ 2) (h1 : wrp (lf + b) = l2) (w : World) : Calls Try.prog 35 #[.agg #[.int .i64 kd, .int .u8 lt, .int .i64 lf, .int .i64 rg, .int .i64 tm], .int .i64 b] w fun e w' => e = .returned (.agg #[.int .i64 kd, .int .u8 lt, .int .i64 l2, .int .i64 rg, .int .i64 tm]) ∧ Below w.heap.size w w' := by
  have zn : w.heap.size ≠ w.heap.size + 1 := by omega
  have q1 : (kd != 1) = true := by rw [bne_iff_ne]; exact k1
  have q2 : (kd == 2) = false := by rw [beq_eq_false_iff_ne]; exact k2
  have e1 : IntKind.i64.wrap (lf + b) = l2 := h1
  clear h1 k1 k2
  go_enter Try.func35, Try.ntmps35
  go_wp2_with fail
  refine bodyPost_ret (v := .agg #[.int .i64 kd, .int .u8 lt, .int .i64 l2, .int .i64 rg, .int .i64 tm]) ?_ rfl ⟨rfl, ?_⟩
  · simp only [results, Try.results35]
    simp [go_sem]
  · repeat (first | exact Below.refl _ _ | (with_reducible refine Below.drew ?_) | (with_reducible refine Below.alloc ?_ (by first | (simp; done) | (simp; omega)) _) | (with_reducible refine Below.setCell ?_ (by simp) _))
theorem moved_any (r : Rl) (b : Int) (w : World) : Calls Try.prog 35 #[r.val, .int .i64 b] w fun e w' => e = .returned (mvd b r).val ∧ Below w.heap.size w w' := by
  obtain ⟨kd, lt, lf, rg, tm⟩ := r
  by_cases h1 : kd = 1
  · subst h1; exact moved_one lt lf rg tm b w
  · by_cases h2 : kd = 2
    · subst h2; exact moved_two lt lf rg tm b _ _ rfl rfl w
    · have e : mvd b ⟨kd, lt, lf, rg, tm⟩ = ⟨kd, lt, wrp (lf + b), rg, tm⟩ := by unfold mvd; rw [if_neg h1, if_neg h2]
      rw [e]
      exact moved_else kd lt lf rg tm b _ h1 h2 rfl w
/-- what hands back a list of rules of the call's own -/
def OwnRules (w : World) (g : List Rl) (n : Nat) (e : Ending) (w' : World) : Prop := ∃ A c, e = .returned (.slice A n c) ∧ w'.ownsRow w.heap.size 46 5 (.slice A n c) n (gc g) ∧ Below w.heap.size w w'
theorem copied_own (g : List Rl) (n c : Nat) (A : Option Addr) (hl : g.length = n) (hn : n ≤ 3518437208883) (w : World) (ha : RowAt w A (gc g)) :
    Calls Try.prog 18 #[.slice A n c] w (OwnRules w g n) := by
  obtain ⟨i0_, hi, hz0, hz1, hz2⟩ := info_parts5 info_rule
  have HI := Lib.hid hi; have HZ := Lib.hid hz0; have HZ1 := Lib.hid hz1; have HZ2 := Lib.hid hz2
  have HA := Lib.hid (ha.below (balloc (Below.refl w.heap.size w) (.cells #[] 46)) (Nat.le_refl _))
  have HL := Lib.hid hl
  have HO := Lib.hid (own_made w 46 5)
  clear hi hz0 hz1 hz2 ha hl
  go_enter Try.func18, Try.ntmps18
  go_wp2_with (refine wpList_app _ (by rfl) (.tmp 3) (.tmp 4) _ rfl (w.heap.size) 46 i0_ _ 5 40 Try.underlying22 HI.out HZ.out HZ1.out HZ2.out rfl (by omega) (.slice (some ⟨w.heap.size, 0, none⟩) 0 0) 0 [] rfl HO.out A n c (gc g) rfl (by rw [gc_len, HL.out]) HA.out (gc_one g) (by simp only [maxLen]; omega) (by omega) ?size ?_)
  case size => simp
  intro A3 c3 w3 own3 gr3 at3
  have B3 := Lib.hid ((balloc (Below.refl w.heap.size w) (.cells #[] 46)).grown gr3 (by simp) (own_ge HO.out))
  have HO3 := Lib.hid own3
  clear own3 gr3 at3
  go_wp2_with fail
  go_ret
  exact ⟨A3, c3, rfl, HO3.out, B3.out⟩
set_option maxRecDepth 100000 in
theorem clone_any (g : List Rl) (n c : Nat) (ad : Addr) (hl : g.length = n) (hn : n ≤ 3518437208883) (w : World) (ha : RowAt w (some ad) (gc g)) :
    Calls Try.prog 52 #[.slice (some ad) n c] w (OwnRules w g n) := by
  obtain ⟨i0_, hi, hz0, hz1, hz2⟩ := info_parts5 info_rule
  have HI := Lib.hid hi; have HZ := Lib.hid hz0; have HZ1 := Lib.hid hz1; have HZ2 := Lib.hid hz2
  have HA := Lib.hid (ha.below (balloc (Below.refl w.heap.size w) (.cells #[] 46)) (Nat.le_refl _))
  have HL := Lib.hid hl
  have HO := Lib.hid (own_made w 46 5)
  have hnil : ∀ w : World, (binOp .eql 22 (.slice (some ad) n c) (.slice none 0 0)).run Try.prog w = .ok (.bool false) w := fun w => Lib.run_eql_slice_nil w 22 46 (some ad) n c 0 0 Try.underlying22
  clear hi hz0 hz1 hz2 ha hl
  go_enter Try.func52, Try.ntmps52
  go_wp2_with (refine wpList_app _ (by rfl) (.tmp 5) (.tmp 6) _ rfl (w.heap.size) 46 i0_ _ 5 40 Try.underlying22 HI.out HZ.out HZ1.out HZ2.out rfl (by omega) (.slice (some ⟨w.heap.size, 0, none⟩) 0 0) 0 [] rfl HO.out (some ad) n c (gc g) rfl (by rw [gc_len, HL.out]) HA.out (gc_one g) (by simp only [maxLen]; omega) (by omega) ?size ?_)
  case size => simp
  intro A3 c3 w3 own3 gr3 at3
  have B3 := Lib.hid ((balloc (Below.refl w.heap.size w) (.cells #[] 46)).grown gr3 (by simp) (own_ge HO.out))
  have HO3 := Lib.hid own3
  clear own3 gr3 at3
  go_wp2_with fail
  go_ret
  exact ⟨A3, c3, rfl, HO3.out, B3.out⟩
set_option maxRecDepth 100000 in
theorem clone_nil (w : World) : Calls Try.prog 52 #[.slice none 0 0] w (OwnRules w [] 0) := by
  have hnil : ∀ w : World, (binOp .eql 22 (.slice none 0 0) (.slice none 0 0)).run Try.prog w = .ok (.bool true) w := fun w => Lib.run_eql_slice_nil w 22 46 none 0 0 0 0 Try.underlying22
  go_enter Try.func52, Try.ntmps52
  go_wp2_with fail
  go_ret
  exact ⟨none, 0, rfl, ⟨rfl, .inl ⟨rfl, rfl⟩⟩, Below.refl _ _⟩
def room (c : Nat) : Array Value := madeCells (Value.agg #[.int .i64 0, .int .u8 0, .int .i64 0, .int .i64 0, .int .i64 0]).cells (c * 5)
theorem mk_rules (c : Nat) (hc : c ≤ 1000000) (w : World) (ci : Int) (hci : ci = c) :
    (Instr.makeSlice 22 (.int .i64 0) (.int .i64 ci)).run Try.prog w = .ok (.slice (some ⟨w.heap.size, 0, none⟩) 0 c) (w.alloc (.cells (room c) 46)) := by
  obtain ⟨i0_, hi, hz0, hz1, hz2⟩ := info_parts5 info_rule
  have h := run_makeSlice (P := Try.prog) w 22 46 i0_ _ Try.underlying22 hi hz0 .i64 .i64 0 ci (by omega) (by omega) (by rw [hz1]; omega) (by rw [hz2]; omega) (by omega)
  rw [h, hz1, hci]
  rfl
theorem own_room (w : World) (c : Nat) (hc : c ≤ 1000000) : (w.alloc (.cells (room c) 46)).ownsRow w.heap.size 46 5 (.slice (some ⟨w.heap.size, 0, none⟩) 0 c) 0 [] :=
  ⟨by simp, .inr ⟨w.heap.size, c, room c, rfl, Nat.le_refl _, heap_alloc_new w _, Nat.zero_le _, by simp only [maxLen]; omega, by simp [room, madeCells], by simp⟩⟩
end Go.Proofs.Ytcbahojefglakaa
