/- The walk of the law GrammarTrims. -/
import Derived.Test.YtcbahojefglakaaGrRTrim
import Derived.Test.YtcbahojefglakaaGrSame
import Derived.Test.YtcbahojefglakaaGrExpAny
namespace Go.Proofs.Ytcbahojefglakaa
set_option linter.unusedVariables false
set_option linter.unusedSimpArgs false
open Go.RowKit Go.Lib
attribute [local go_sem ↓] Go.wp_at_zero Go.wp_at_succ
theorem trims_long (n c : Nat) (A : Option Addr) (hn : 100 < n) (w : World) : Calls Try.prog 7 #[.slice A n c] w fun e w' => e = .returned (.bool true) ∧ Below w.heap.size w w' := by
  have hn2 : (100 : Int) < (n : Int) := by omega
  clear hn
  go_enter Try.func7, Try.ntmps7
  go_wp2_with fail
  go_ret
  exact ⟨rfl, Below.refl _ _⟩
theorem trims_bad (n c : Nat) (A : Option Addr) (hn : n ≤ 100) (k : Int) (hk : (k != 0) = true) (cells : List Value)
    (HR : Hid (∀ w, RowAt w A cells → Calls Try.prog 30 #[.slice A n c] w fun e w' => e = .returned (.int .i64 k) ∧ Below w.heap.size w w')) (w : World) (ha : RowAt w A cells) :
    Calls Try.prog 7 #[.slice A n c] w fun e w' => e = .returned (.bool true) ∧ Below w.heap.size w w' := by
  have hn2 : ¬ (100 : Int) < (n : Int) := by omega
  have HA := Lib.hid ha
  clear hn ha
  go_enter Try.func7, Try.ntmps7
  go_wp2_with fail
  (with_reducible refine (HR.out _ HA.out).mono ?_)
  rintro e w1 ⟨rfl, B1⟩
  have BW := Lib.hid B1
  clear B1
  go_wp2_with fail
  go_ret
  exact ⟨rfl, BW.out⟩
set_option maxRecDepth 100000 in
set_option maxHeartbeats 4000000 in
theorem trims_ok (g T : List Rl) (n c m : Nat) (A : Option Addr) (hl : g.length = n) (hn : n ≤ 100) (hm : T.length = m) (hm1 : m ≤ 1000)
    (HR : Hid (∀ w, RowAt w A (gc g) → Calls Try.prog 30 #[.slice A n c] w fun e w' => e = .returned (.int .i64 0) ∧ Below w.heap.size w w'))
    (HC : Hid (∀ w, RowAt w A (gc g) → Calls Try.prog 18 #[.slice A n c] w (SliceOut w n (gc g))))
    (HT : Hid (∀ A c w, RowAt w A (gc g) → Calls Try.prog 31 #[.slice A n c] w (RulesOut T .nilIface w)))
    (HRT : Hid (∀ w, RowAt w A (gc g) → Calls Try.prog 33 #[.slice A n c] w (SliceOut w T.length (gc T))))
    (w : World) (ha : RowAt w A (gc g)) :
    Calls Try.prog 7 #[.slice A n c] w fun e w' => e = .returned (.bool true) ∧ Below w.heap.size w w' := by
  have hn2 : ¬ (100 : Int) < (n : Int) := by omega
  have HA := Lib.hid ha; have HM := Lib.hid hm
  clear hn ha hl hm
  go_enter Try.func7, Try.ntmps7
  go_wp2_with fail
  (with_reducible refine (HR.out _ HA.out).mono ?_)
  rintro e w1 ⟨rfl, B1⟩
  have BW1 := Lib.hid B1
  clear B1
  go_wp2_with fail
  (with_reducible refine (HC.out _ (HA.out.below BW1.out (Nat.le_refl _))).mono ?_)
  rintro e w2 ⟨A2, c2, rfl, R2, B2⟩
  have BW2 := Lib.hid (bkeep BW1.out B2); have HR2 := Lib.hid R2
  clear B2 R2
  go_wp2_with fail
  (with_reducible refine (HT.out _ _ _ HR2.out).mono ?_)
  rintro e w3 ⟨A3, c3, rfl, R3, B3⟩
  rw [HM.out]
  have BW3 := Lib.hid (bkeep BW2.out B3); have HR3 := Lib.hid R3
  clear B3 R3
  go_wp2_with fail
  (with_reducible refine (awake_any _).mono ?_)
  rintro e w4 ⟨rfl, B4⟩
  have BW4 := Lib.hid (bkeep BW3.out B4); have HR4 := Lib.hid (HR3.out.below B4 (Nat.le_refl _))
  clear B4
  go_wp2_with fail
  (with_reducible refine (HRT.out _ (HA.out.below BW4.out (Nat.le_refl _))).mono ?_)
  rintro e w5 ⟨A5, c5, rfl, R5, B5⟩
  rw [HM.out]
  have BW5 := Lib.hid (bkeep BW4.out B5); have HR5 := Lib.hid (HR4.out.below B5 (Nat.le_refl _)); have HX5 := Lib.hid R5
  clear B5 R5
  go_wp2_with fail
  (with_reducible refine (same_any T m _ _ _ _ HM.out (by omega) _ HR5.out HX5.out).mono ?_)
  rintro e w6 ⟨rfl, B6⟩
  have BW6 := Lib.hid (bkeep BW5.out B6)
  clear B6
  go_wp2_with fail
  go_ret
  exact ⟨rfl, BW6.out⟩
theorem trFrom_out (u : List Bool) : ∀ (g : List Rl) (i : Nat) (s : List Rl × List Int), (trFrom u i g s).1.length ≤ s.1.length + g.length
  | [], _, s => Nat.le_refl _
  | r :: g, i, s => by
    have h := trFrom_out u g (i + 1) (trStep u i r s)
    have h2 : (trStep u i r s).1.length ≤ s.1.length + 1 := by
      unfold trStep
      split
      · split <;> simp
      · omega
    show (trFrom u (i + 1) g (trStep u i r s)).1.length ≤ _
    simp only [List.length_cons]; omega
theorem trim_le (g : List Rl) : (trim g).length ≤ g.length := by
  have := trFrom_out (used g) g 0 (tr0 g.length)
  unfold trim
  simpa [tr0] using this
theorem law_trims (g : List Rl) (n c : Nat) (A : Option Addr) (hl : g.length = n) (hok : ∀ r ∈ g, r.Ok) (w : World) (ha : RowAt w A (gc g)) :
    Calls Try.prog 7 #[.slice A n c] w fun e w' => e = .returned (.bool true) ∧ Below w.heap.size w w' := by
  by_cases hn : n ≤ 100
  · have HRC := Lib.hid fun w a => rcheck_g g n c A hl (by omega) w a
    by_cases h0 : gcode 0 g = 0
    · rw [h0] at HRC
      have hle := trim_le g
      exact trims_ok g (trim g) n c (trim g).length A hl hn rfl (by omega) HRC (Lib.hid fun w a => copied_any g n c A hl (by omega) w a) (Lib.hid fun A c w a => trim_ok g n c A hl (by omega) h0 hok w a)
        (Lib.hid fun w a => rtrim_any g n c A hl (by omega) h0 hok w a) w ha
    · exact trims_bad n c A hn _ (by rw [bne_iff_ne]; exact h0) (gc g) HRC w ha
  · exact trims_long n c A (by omega) w
end Go.Proofs.Ytcbahojefglakaa
