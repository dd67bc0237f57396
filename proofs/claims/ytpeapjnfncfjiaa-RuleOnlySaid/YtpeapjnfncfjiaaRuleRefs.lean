/- The walks of rule.Refs, evergreenref09.Refs, evergreenbase.IDs. -/
import Derived.Test.YtpeapjnfncfjiaaWords
import Derived.Deep.QuietTactic
import Derived.BigQuiet
namespace Go.Proofs.Ytpeapjnfncfjiaa
set_option linter.unusedVariables false
set_option linter.unusedSimpArgs false
open Go.RowKit Go.Lib

/-- a rule's value. -/
abbrev rv (kd lt lf rg tm : Int) : Value := .agg #[.int .i64 kd, .int .u8 lt, .int .i64 lf, .int .i64 rg, .int .i64 tm]
/-- a rule's references. -/
def refsOf (kd lf rg : Int) : List Int := if kd = 2 then [lf, rg] else if kd = 3 then [lf] else []
def vi (l : List Int) : List Value := l.map (.int .i64)
theorem refsOf_le (kd lf rg : Int) : (refsOf kd lf rg).length ≤ 2 := by unfold refsOf; split <;> (try split) <;> simp

theorem refs_any (kd lt lf rg tm : Int) (w : World) : Calls Try.prog 12 #[.agg #[.int .i64 kd, .int .u8 lt, .int .i64 lf, .int .i64 rg, .int .i64 tm]] w (SliceOut w (refsOf kd lf rg).length (vi (refsOf kd lf rg))) := by
  by_cases h2 : kd = 2
  · subst h2
    go_enter Try.func12, Try.ntmps12
    go_wp2
    go_ret
    exact ⟨_, _, rfl, RowAt.new _ _ _ (by simp) rfl, ((Below.refl _ _).alloc (Nat.le_refl _) _).alloc (by simp) _⟩
  · by_cases h3 : kd = 3
    · subst h3
      go_enter Try.func12, Try.ntmps12
      go_wp2
      go_ret
      exact ⟨_, _, rfl, RowAt.new _ _ _ (by simp) rfl, ((Below.refl _ _).alloc (Nat.le_refl _) _).alloc (by simp) _⟩
    · have e2 : (kd == 2) = false := by rw [beq_eq_false_iff_ne]; exact h2
      have e3 : (kd == 3) = false := by rw [beq_eq_false_iff_ne]; exact h3
      have R := Lib.hid (show refsOf kd lf rg = [] by unfold refsOf; rw [if_neg h2, if_neg h3])
      clear h2 h3
      go_enter Try.func12, Try.ntmps12
      go_wp2
      go_ret
      rw [R.out]
      exact ⟨_, _, rfl, RowAt.nil _ _, (Below.refl _ _).alloc (Nat.le_refl _) _⟩
theorem rrefs_any (kd lt lf rg tm : Int) (w : World) : Calls Try.prog 14 #[.agg #[.int .i64 kd, .int .u8 lt, .int .i64 lf, .int .i64 rg, .int .i64 tm]] w (SliceOut w (refsOf kd lf rg).length (vi (refsOf kd lf rg))) := by
  by_cases h2 : kd = 2
  · subst h2
    go_enter Try.func14, Try.ntmps14
    go_wp2
    go_ret
    exact ⟨_, _, rfl, RowAt.new _ _ _ (by simp) rfl, ((Below.refl _ _).alloc (Nat.le_refl _) _).alloc (by simp) _⟩
  · by_cases h3 : kd = 3
    · subst h3
      go_enter Try.func14, Try.ntmps14
      go_wp2
      go_ret
      exact ⟨_, _, rfl, RowAt.new _ _ _ (by simp) rfl, ((Below.refl _ _).alloc (Nat.le_refl _) _).alloc (by simp) _⟩
    · have e2 : (kd == 2) = false := by rw [beq_eq_false_iff_ne]; exact h2
      have e3 : (kd == 3) = false := by rw [beq_eq_false_iff_ne]; exact h3
      have R := Lib.hid (show refsOf kd lf rg = [] by unfold refsOf; rw [if_neg h2, if_neg h3])
      clear h2 h3
      go_enter Try.func14, Try.ntmps14
      go_wp2
      go_ret
      rw [R.out]
      exact ⟨_, _, rfl, RowAt.nil _ _, (Below.refl _ _).alloc (Nat.le_refl _) _⟩
theorem vi_get {l : List Int} {k : Nat} (hk : k < l.length) : (vi l)[k]? = some (.int .i64 (l[k]'hk)) := by simp [vi, hk]
theorem row_drewN {w : World} {A : Option Addr} {xs : List Value} (h : RowAt w A xs) (q : Nat) : RowAt (w.drewN q) A xs := h
set_option maxHeartbeats 400000 in
theorem ids_same (A C : Option Addr) (c d : Nat) (l : List Int) (n : Nat) (hl : l.length = n) (hm : n ≤ 9223372036854775807) (w : World) (ha : RowAt w A (vi l)) (hb : RowAt w C (vi l)) :
    Calls Try.prog 13 #[.slice A n c, .slice C n d] w fun e w' => e = .returned (.bool true) ∧ ∃ q, w' = w.drewN q := by
  have HL := Lib.hid hl; have HA := Lib.hid ha; have HB := Lib.hid hb
  clear hl ha hb
  go_enter Try.func13, Try.ntmps13
  go_wp2_with fail
  go_loopw [5] (fun si wr => ∃ (k q : Nat), si = .int .i64 k ∧ k ≤ n ∧ wr = w.drewN q) (fun si _ => n - (intOf si).toNat)
  case atStart => exact ⟨0, 0, rfl, by omega, rfl⟩
  case round =>
    obtain ⟨k, q, rfl, hk, rfl⟩ := hrel
    by_cases hlt : k < n
    · have hkl : k < l.length := by rw [HL.out]; exact hlt
      obtain ⟨a1, rfl, g1, c1⟩ := HA.out.get (vi_get hkl)
      obtain ⟨a2, rfl, g2, c2⟩ := HB.out.get (vi_get hkl)
      obtain ⟨z, hz⟩ : ∃ z, z = l[k] := ⟨_, rfl⟩
      rw [← hz] at c1 c2
      have HZ := Lib.hid hz
      have i0 : (0 : Int) ≤ (k : Int) := by omega
      have i1 : (k : Int) < (n : Int) := by omega
      clear hz
      go_wp2_with fail
      go_quiet (fail)
      go_wp2_with fail
      go_roundw
      case rel => exact ⟨k + 1, q + nq, by go_num, by omega, rfl⟩
      case measure => simp [intOf]; omega
    · go_wp2_with fail
      go_ret
      exact ⟨rfl, _, rfl⟩

end Go.Proofs.Ytpeapjnfncfjiaa
