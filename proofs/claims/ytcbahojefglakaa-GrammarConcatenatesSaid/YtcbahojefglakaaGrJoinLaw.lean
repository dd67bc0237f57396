/- The law GrammarJoins at every pair of grammars. -/
import Derived.Test.YtcbahojefglakaaGrJoins
namespace Go.Proofs.Ytcbahojefglakaa
set_option linter.unusedVariables false
set_option linter.unusedSimpArgs false
open Go.RowKit Go.Lib
theorem wrp_id {x : Int} (h0 : -9223372036854775808 ≤ x) (h1 : x ≤ 9223372036854775807) : wrp x = x := IntWalk.i64_in _ ⟨by omega, by omega⟩
theorem mvd_zero {h : List Rl} (hv : gcode 0 h = 0) (hm : h.length ≤ 100000) : h.map (mvd 0) = h := by
  refine List.ext_getElem? fun i => ?_
  rw [List.getElem?_map]
  match hr : h[i]? with
  | none => rfl
  | some r =>
    have hi := (List.getElem?_eq_some_iff.1 hr).1
    have hw := rule_way hv hr
    obtain ⟨kd, lt, lf, rg, tm⟩ := r
    simp only at hw
    refine congrArg some ?_
    unfold mvd
    rcases hw with ⟨rfl, rfl, rfl, rfl⟩ | ⟨rfl, rfl, rfl, p1, p2, q1, q2⟩ | ⟨rfl, rfl, rfl, t2, p1, p2⟩
    · rfl
    · show (⟨2, 0, wrp (lf + 0), wrp (rg + 0), 0⟩ : Rl) = _
      rw [Int.add_zero, Int.add_zero, wrp_id (by omega) (by omega), wrp_id (by omega) (by omega)]
    · show (⟨3, 0, wrp (lf + 0), 0, tm⟩ : Rl) = _
      rw [Int.add_zero, wrp_id (by omega) (by omega)]
theorem joined_W1 {g h : List Rl} (hv : gcode 0 h = 0) (hm : h.length ≤ 100000) : joined g h = W1 g h := by
  unfold joined W1 W0
  by_cases h1 : g.length = 0
  · rw [if_pos h1, if_neg (by omega)]
    have : g = [] := List.eq_nil_of_length_eq_zero h1
    subst this
    exact (mvd_zero hv hm).symm
  · rw [if_neg h1]
    by_cases h2 : h.length = 0
    · rw [if_pos h2, if_neg (by omega)]
      have : h = [] := List.eq_nil_of_length_eq_zero h2
      subst this
      simp
    · rw [if_neg h2, if_pos ⟨by omega, by omega⟩]
theorem law_joins (g h : List Rl) (n c m d : Nat) (A B : Option Addr) (k : Int) (hg : g.length = n) (hh : h.length = m) (w : World) (ha : RowAt w A (gc g)) (hb : RowAt w B (gc h)) :
    Calls Try.prog 8 #[.slice A n c, .slice B m d, .int .i64 k] w fun e w' => e = .returned (.bool true) ∧ Below w.heap.size w w' := by
  by_cases hn : n ≤ 100
  · by_cases hm : m ≤ 100
    · refine jlaw_ok g h n c m d A B k hg hh hn hm (gcode 0 g) (gcode 0 h) (jnOut g h).2 rfl (jnOut g h).1 ?_ ?_ ?_ ?_
        (Lib.hid fun w a => rcheck_g g n c A hg (by omega) w a) (Lib.hid fun w a => rcheck_g h m d B hh (by omega) w a)
        (Lib.hid fun w a => copied_own g n c A hg (by omega) w a) (Lib.hid fun w a => copied_own h m d B hh (by omega) w a)
        (Lib.hid fun A c B d w f a b => join_any g h n c m d A B hg hh (by omega) (by omega) f w a b)
        (Lib.hid fun A c w a => rep_any g n c A k hg (by omega) w a) w ha hb
      · intro e; unfold jnOut; rw [if_pos e]
      · intro e; unfold jnOut; rw [if_neg (by simp [e])]
        by_cases e2 : gcode 0 h = 0
        · rw [if_neg (by simp [e2])]; exact e2.symm
        · rw [if_pos e2]
      · intro e; unfold jnOut at e ⊢
        by_cases e1 : gcode 0 g = 0
        · rw [if_neg (by simp [e1])] at e ⊢
          by_cases e2 : gcode 0 h = 0
          · rw [if_neg (by simp [e2])] at e; exact absurd rfl e
          · rw [if_pos e2]
        · rw [if_pos e1]
      · intro e; unfold jnOut at e ⊢
        by_cases e1 : gcode 0 g = 0
        · rw [if_neg (by simp [e1])] at e ⊢
          by_cases e2 : gcode 0 h = 0
          · rw [if_neg (by simp [e2])]; exact joined_W1 e2 (by omega)
          · rw [if_pos e2] at e; exact absurd e e2
        · rw [if_pos e1] at e; exact absurd e e1
    · exact jlaw_long n c m d A B k (.inr (by omega)) w
  · exact jlaw_long n c m d A B k (.inl (by omega)) w
end Go.Proofs.Ytcbahojefglakaa
