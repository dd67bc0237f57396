/- The walks of rule.Refs, evergreenref09.Refs, evergreenbase.IDs. -/
import Derived.Test.YtcbahojefglakaaWords
import Derived.Deep.QuietTactic
import Derived.BigQuiet
namespace Go.Proofs.Ytcbahojefglakaa
set_option linter.unusedVariables false
set_option linter.unusedSimpArgs false
open Go.RowKit Go.Lib

/-- a rule's value. -/
abbrev rv (kd lt lf rg tm : Int) : Value := .agg #[.int .i64 kd, .int .u8 lt, .int .i64 lf, .int .i64 rg, .int .i64 tm]
/-- a rule's references. -/
def refsOf (kd lf rg : Int) : List Int := if kd = 2 then [lf, rg] else if kd = 3 then [lf] else []
def vi (l : List Int) : List Value := l.map (.int .i64)
theorem refsOf_le (kd lf rg : Int) : (refsOf kd lf rg).length ≤ 2 := by unfold refsOf; split <;> (try split) <;> simp

theorem refs_any (kd lt lf rg tm : Int) (w : World) : Calls Try.prog 50 #[.agg #[.int .i64 kd, .int .u8 lt, .int .i64 lf, .int .i64 rg, .int .i64 tm]] w (SliceOut w (refsOf kd lf rg).length (vi (refsOf kd lf rg))) := by
  by_cases h2 : kd = 2
  · subst h2
    go_enter Try.func50, Try.ntmps50
    go_wp2
    go_ret
    exact ⟨_, _, rfl, RowAt.new _ _ _ (by simp) rfl, ((Below.refl _ _).alloc (Nat.le_refl _) _).alloc (by simp) _⟩
  · by_cases h3 : kd = 3
    · subst h3
      go_enter Try.func50, Try.ntmps50
      go_wp2
      go_ret
      exact ⟨_, _, rfl, RowAt.new _ _ _ (by simp) rfl, ((Below.refl _ _).alloc (Nat.le_refl _) _).alloc (by simp) _⟩
    · have e2 : (kd == 2) = false := by rw [beq_eq_false_iff_ne]; exact h2
      have e3 : (kd == 3) = false := by rw [beq_eq_false_iff_ne]; exact h3
      have R := Lib.hid (show refsOf kd lf rg = [] by unfold refsOf; rw [if_neg h2, if_neg h3])
      clear h2 h3
      go_enter Try.func50, Try.ntmps50
      go_wp2
      go_ret
      rw [R.out]
      exact ⟨_, _, rfl, RowAt.nil _ _, (Below.refl _ _).alloc (Nat.le_refl _) _⟩
theorem vi_get {l : List Int} {k : Nat} (hk : k < l.length) : (vi l)[k]? = some (.int .i64 (l[k]'hk)) := by simp [vi, hk]
theorem row_drewN {w : World} {A : Option Addr} {xs : List Value} (h : RowAt w A xs) (q : Nat) : RowAt (w.drewN q) A xs := h
end Go.Proofs.Ytcbahojefglakaa
