/- The law GrammarConcatenates at every pair of grammars. -/
import Derived.Test.YtcbahojefglakaaGrConc2
namespace Go.Proofs.Ytcbahojefglakaa
set_option linter.unusedVariables false
set_option linter.unusedSimpArgs false
open Go.RowKit Go.Lib
theorem law_conc (g h : List Rl) (n c m d : Nat) (A B : Option Addr) (k : Int) (hk0 : 0 ≤ k) (hk1 : k ≤ 255) (hg : g.length = n) (hh : h.length = m) (hB : B = none → m = 0 ∧ d = 0) (w : World) (ha : RowAt w A (gc g)) (hb : RowAt w B (gc h)) :
    Calls Try.prog 9 #[.slice A n c, .slice B m d, .int .u8 k] w fun e w' => e = .returned (.bool true) ∧ Below w.heap.size w w' := by
  by_cases hn : n ≤ 40
  · by_cases hm : m ≤ 40
    · have HCG := Lib.hid fun w a => copied_any g n c A hg (by omega) w a
      have HCH := Lib.hid fun w a => copied_any h m d B hh (by omega) w a
      have HEG := fun A c w a => expand_any g n c A hg (by omega) 500 w a
      have HEH := fun A c w a => expand_any h m c A hh (by omega) 500 w a
      by_cases h1 : (exOut g 500).2 = 0
      · by_cases h2 : (exOut h 500).2 = 0
        · obtain ⟨G1, L1⟩ := good_of_ex h1
          obtain ⟨G2, L2⟩ := good_of_ex h2
          rw [h1, errv_zero] at HEG; rw [h2, errv_zero] at HEH
          have c5 : clipI 500 0 65536 = 500 := by decide
          rw [c5] at L1 L2
          generalize (exOut g 500).1 = X at G1 L1 HEG
          generalize (exOut h 500).1 = Y at G2 L2 HEH
          have GJ := good_join G1 G2 (by omega) (by omega) (by omega) (by omega)
          have ej : jnOut g h = (joined g h, 0) := by unfold jnOut; rw [if_neg (by simp [G1.code]), if_neg (by simp [G2.code])]
          have c10 : clipI 1000 0 65536 = 1000 := by decide
          have eJ : exOut (joined g h) 1000 = (X ++ Y, 0) := ex_of_good GJ (by rw [c10]; simp; omega)
          have lJ : (joined g h).length ≤ 1000000 := by unfold joined; split <;> (try split) <;> (try simp) <;> omega
          have HJ := Lib.hid fun w a b => join_any g h n c m d A B hg hh (by omega) (by omega) hB w a b
          rw [ej, errv_zero] at HJ
          have HEJ := fun A c w a => expand_any (joined g h) _ c A rfl lJ 1000 w a
          rw [eJ, errv_zero] at HEJ
          have key : ∃ R, rpOut g (k % 8) = (R, 0) ∧ R.length ≤ 1000000 ∧ exOut R 4000 = ((List.replicate (k % 8).toNat X).flatten, 0) := by
            have c4 : clipI 4000 0 65536 = 4000 := by decide
            have q0 : 0 ≤ k % 8 := by omega
            have q7 : k % 8 ≤ 7 := by omega
            generalize k % 8 = q at q0 q7
            have hzl : ((List.replicate q.toNat X).flatten.length : Int) ≤ 4000 := by
              rw [rep_len]
              have : q.toNat * X.length ≤ 7 * 500 := Nat.mul_le_mul (by omega) (by omega)
              omega
            unfold rpOut
            rw [if_neg (by simp [G1.code]), if_neg (by omega)]
            by_cases z : q = 0 ∨ g.length = 0
            · rw [if_pos z]
              refine ⟨[], rfl, by simp, ?_⟩
              have : (List.replicate q.toNat X).flatten = [] := by
                rcases z with z | z
                · subst z; rfl
                · rw [G1.nil z]; simp
              rw [this]; rfl
            · rw [if_neg z]
              by_cases o : 1 < q
              · rw [if_pos o]
                exact ⟨_, rfl, by simp; omega, ex_of_good (good_rep G1 (by omega) (by omega) (by omega) o (by omega)) (by rw [c4]; exact hzl)⟩
              · rw [if_neg o]
                have : q = 1 := by omega
                subst this
                refine ⟨g, rfl, by omega, ?_⟩
                have e : (List.replicate (1 : Int).toNat X).flatten = X := by simp
                rw [e] at hzl ⊢
                exact ex_of_good G1 (by rw [c4]; exact hzl)
          obtain ⟨R, eR, lR, eZ⟩ := key
          have HRP := fun w a => rep_any g n c A (k % 8) hg (by omega) w a
          rw [eR, errv_zero] at HRP
          have HER := fun A c w a => expand_any R _ c A rfl lR 4000 w a
          rw [eZ, errv_zero] at HER
          exact claw_ok g h n c m d A B k hk0 hk1 hn hm hB X Y (by omega) (by omega) _ R _ rfl HCG HCH (Lib.hid HEG) (Lib.hid HEH) HJ (Lib.hid HEJ) (Lib.hid HRP) (Lib.hid HER) w ha hb
        · exact claw_bad g h n c m d A B k hn hm _ _ _ _ (.inr h2) HCG HCH (Lib.hid HEG) (Lib.hid HEH) w ha hb
      · exact claw_bad g h n c m d A B k hn hm _ _ _ _ (.inl h1) HCG HCH (Lib.hid HEG) (Lib.hid HEH) w ha hb
    · exact claw_long n c m d A B k (.inr (by omega)) w
  · exact claw_long n c m d A B k (.inl (by omega)) w
end Go.Proofs.Ytcbahojefglakaa
