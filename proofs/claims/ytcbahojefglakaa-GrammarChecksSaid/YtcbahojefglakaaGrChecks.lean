/- The walk of the law GrammarChecks. Written by wip/gen/grchecks.py. -/
import Derived.Test.YtcbahojefglakaaGrPEnc
import Derived.Test.YtcbahojefglakaaGrJoinBase
import Derived.Test.YtcbahojefglakaaOpenRules
namespace Go.Proofs.Ytcbahojefglakaa
set_option linter.unusedVariables false
set_option linter.unusedSimpArgs false
open Go.RowKit Go.Lib
attribute [local go_sem ↓] Go.wp_at_zero Go.wp_at_succ
/-- nothing and an error -/
def NilErr (k : Int) (w : World) (e : Ending) (w' : World) : Prop := ∃ A c, e = .returned (.tuple #[.slice A 0 c, .iface 50 (.int .i64 k)]) ∧ Below w.heap.size w w'
theorem weights_err (n c : Nat) (A : Option Addr) (k : Int) (cells : List Value) (HC : Hid (∀ w, RowAt w A cells → Calls Try.prog 42 #[.slice A n c] w fun e w' => e = .returned (.iface 50 (.int .i64 k)) ∧ Below w.heap.size w w'))
    (w : World) (ha : RowAt w A cells) : Calls Try.prog 40 #[.slice A n c] w (NilErr k w) := by
  have HA := Lib.hid ha
  clear ha
  go_enter Try.func40, Try.ntmps40
  go_wp2_with fail
  (with_reducible refine (HC.out _ HA.out).mono ?_)
  rintro e w1 ⟨rfl, B1⟩
  have BW1 := Lib.hid B1
  clear B1
  go_wp2_with fail
  go_ret2
  exact ⟨none, 0, rfl, BW1.out⟩
theorem trim_err (n c : Nat) (A : Option Addr) (k : Int) (cells : List Value) (HC : Hid (∀ w, RowAt w A cells → Calls Try.prog 42 #[.slice A n c] w fun e w' => e = .returned (.iface 50 (.int .i64 k)) ∧ Below w.heap.size w w'))
    (w : World) (ha : RowAt w A cells) : Calls Try.prog 31 #[.slice A n c] w (NilErr k w) := by
  have HA := Lib.hid ha
  clear ha
  go_enter Try.func31, Try.ntmps31
  go_wp2_with fail
  (with_reducible refine (HC.out _ HA.out).mono ?_)
  rintro e w1 ⟨rfl, B1⟩
  have BW1 := Lib.hid B1
  clear B1
  go_wp2_with fail
  go_ret2
  exact ⟨none, 0, rfl, BW1.out⟩
theorem depths_err (n c : Nat) (A : Option Addr) (k : Int) (cells : List Value) (HC : Hid (∀ w, RowAt w A cells → Calls Try.prog 45 #[.slice A n c] w (IntsOut [] (.iface 50 (.int .i64 k)) w)))
    (w : World) (ha : RowAt w A cells) : Calls Try.prog 23 #[.slice A n c] w (NilErr k w) := by
  have HA := Lib.hid ha
  clear ha
  go_enter Try.func23, Try.ntmps23
  go_wp2_with fail
  (with_reducible refine (HC.out _ HA.out).mono ?_)
  rintro e w1 ⟨A1, c1, rfl, R1, B1⟩
  have BW1 := Lib.hid B1
  clear B1 R1
  go_wp2_with fail
  go_ret2
  exact ⟨none, 0, rfl, BW1.out⟩
theorem uses_err (n c : Nat) (A : Option Addr) (k : Int) (cells : List Value) (HC : Hid (∀ w, RowAt w A cells → Calls Try.prog 45 #[.slice A n c] w (IntsOut [] (.iface 50 (.int .i64 k)) w)))
    (w : World) (ha : RowAt w A cells) : Calls Try.prog 26 #[.slice A n c] w (NilErr k w) := by
  have HA := Lib.hid ha
  clear ha
  go_enter Try.func26, Try.ntmps26
  go_wp2_with fail
  (with_reducible refine (HC.out _ HA.out).mono ?_)
  rintro e w1 ⟨A1, c1, rfl, R1, B1⟩
  have BW1 := Lib.hid B1
  clear B1 R1
  go_wp2_with fail
  go_ret2
  exact ⟨none, 0, rfl, BW1.out⟩
theorem clong (n c : Nat) (A : Option Addr) (hn : 200 < n) (w : World) : Calls Try.prog 14 #[.slice A n c] w fun e w' => e = .returned (.bool true) ∧ Below w.heap.size w w' := by
  have hn2 : (200 : Int) < (n : Int) := by omega
  clear hn
  go_enter Try.func14, Try.ntmps14
  go_wp2_with fail
  go_ret
  exact ⟨rfl, Below.refl _ _⟩
set_option maxRecDepth 100000 in
set_option maxHeartbeats 8000000 in
theorem cgood (n c : Nat) (A : Option Addr) (hn : n ≤ 200) (cells : List Value)
    (HR : Hid (∀ w, RowAt w A cells → Calls Try.prog 30 #[.slice A n c] w fun e w' => e = .returned (.int .i64 0) ∧ Below w.heap.size w w'))
    (HCP : Hid (∀ w, RowAt w A cells → Calls Try.prog 18 #[.slice A n c] w (SliceOut w n cells)))
    (HC : Hid (∀ A c w, RowAt w A cells → Calls Try.prog 42 #[.slice A n c] w fun e w' => e = .returned .nilIface ∧ Below w.heap.size w w'))
    (w : World) (ha : RowAt w A cells) :
    Calls Try.prog 14 #[.slice A n c] w fun e w' => e = .returned (.bool true) ∧ Below w.heap.size w w' := by
  have hn2 : ¬ (200 : Int) < (n : Int) := by omega
  have HA := Lib.hid ha
  clear hn ha
  go_enter Try.func14, Try.ntmps14
  go_wp2_with fail
  (with_reducible refine (HR.out _ HA.out).mono ?_)
  rintro e w1 ⟨rfl, B1⟩
  have BW1 := Lib.hid B1
  clear B1
  go_wp2_with fail
  (with_reducible refine (awake_any _).mono ?_)
  rintro e w2 ⟨rfl, B2⟩
  have BW2 := Lib.hid (bkeep BW1.out B2)
  clear B2
  go_wp2_with fail
  (with_reducible refine (HCP.out _ (HA.out.below BW2.out (Nat.le_refl _))).mono ?_)
  rintro e w3 ⟨A3, c3, rfl, R3, B3⟩
  have BW3 := Lib.hid (bkeep BW2.out B3); have HR3 := Lib.hid R3
  clear B3 R3
  go_wp2_with fail
  (with_reducible refine (HC.out _ _ _ HR3.out).mono ?_)
  rintro e w4 ⟨rfl, B4⟩
  have BW4 := Lib.hid (bkeep BW3.out B4)
  clear B4
  go_wp2_with fail
  (with_reducible refine (num_nil _).mono ?_)
  rintro e w5 ⟨rfl, rfl⟩
  go_wp2_with fail
  go_ret
  exact ⟨rfl, BW4.out⟩
set_option maxRecDepth 100000 in
set_option maxHeartbeats 16000000 in
theorem cbad (n c : Nat) (A : Option Addr) (hn : n ≤ 200) (k : Int) (k0 : (k == 0) = false) (cells : List Value)
    (HR : Hid (∀ w, RowAt w A cells → Calls Try.prog 30 #[.slice A n c] w fun e w' => e = .returned (.int .i64 k) ∧ Below w.heap.size w w'))
    (HCP : Hid (∀ w, RowAt w A cells → Calls Try.prog 18 #[.slice A n c] w (SliceOut w n cells)))
    (HC : Hid (∀ A c w, RowAt w A cells → Calls Try.prog 42 #[.slice A n c] w fun e w' => e = .returned (.iface 50 (.int .i64 k)) ∧ Below w.heap.size w w'))
    (HW : Hid (∀ w, RowAt w A cells → Calls Try.prog 40 #[.slice A n c] w (NilErr k w)))
    (HD : Hid (∀ w, RowAt w A cells → Calls Try.prog 23 #[.slice A n c] w (NilErr k w)))
    (HX : Hid (∀ w, RowAt w A cells → Calls Try.prog 17 #[.slice A n c, .int .i64 9] w (NilErr k w)))
    (HU : Hid (∀ w, RowAt w A cells → Calls Try.prog 26 #[.slice A n c] w (NilErr k w)))
    (HT : Hid (∀ w, RowAt w A cells → Calls Try.prog 31 #[.slice A n c] w (NilErr k w)))
    (HE : Hid (∀ w, RowAt w A cells → Calls Try.prog 37 #[.slice A n c] w (NilErr k w)))
    (w : World) (ha : RowAt w A cells) :
    Calls Try.prog 14 #[.slice A n c] w fun e w' => e = .returned (.bool true) ∧ Below w.heap.size w w' := by
  have hn2 : ¬ (200 : Int) < (n : Int) := by omega
  have kn : (k != k) = false := by simp
  have ke : (k == k) = true := by simp
  have HA := Lib.hid ha
  clear hn ha
  go_enter Try.func14, Try.ntmps14
  go_wp2_with fail
  (with_reducible refine (HR.out _ HA.out).mono ?_)
  rintro e w1 ⟨rfl, B1⟩
  have BW1 := Lib.hid B1
  clear B1
  go_wp2_with fail
  (with_reducible refine (awake_any _).mono ?_)
  rintro e w2 ⟨rfl, B2⟩
  have BW2 := Lib.hid (bkeep BW1.out B2)
  clear B2
  go_wp2_with fail
  (with_reducible refine (HCP.out _ (HA.out.below BW2.out (Nat.le_refl _))).mono ?_)
  rintro e w3 ⟨A3, c3, rfl, R3, B3⟩
  have BW3 := Lib.hid (bkeep BW2.out B3); have HR3 := Lib.hid R3
  clear B3 R3
  go_wp2_with fail
  (with_reducible refine (HC.out _ _ _ HR3.out).mono ?_)
  rintro e w4 ⟨rfl, B4⟩
  have BW4 := Lib.hid (bkeep BW3.out B4)
  clear B4
  go_wp2_with fail
  (with_reducible refine (num_err k _).mono ?_)
  rintro e wq ⟨rfl, rfl⟩
  go_wp2_with fail
  (with_reducible refine (HW.out _ (HA.out.below BW4.out (Nat.le_refl _))).mono ?_)
  rintro e w5 ⟨A5, c5, rfl, B5⟩
  have BW5 := Lib.hid (bkeep BW4.out B5)
  clear B5
  go_wp2_with fail
  (with_reducible refine (HD.out _ (HA.out.below BW5.out (Nat.le_refl _))).mono ?_)
  rintro e w6 ⟨A6, c6, rfl, B6⟩
  have BW6 := Lib.hid (bkeep BW5.out B6)
  clear B6
  go_wp2_with fail
  (with_reducible refine (HX.out _ (HA.out.below BW6.out (Nat.le_refl _))).mono ?_)
  rintro e w7 ⟨A7, c7, rfl, B7⟩
  have BW7 := Lib.hid (bkeep BW6.out B7)
  clear B7
  go_wp2_with fail
  (with_reducible refine (HU.out _ (HA.out.below BW7.out (Nat.le_refl _))).mono ?_)
  rintro e w8 ⟨A8, c8, rfl, B8⟩
  have BW8 := Lib.hid (bkeep BW7.out B8)
  clear B8
  go_wp2_with fail
  (with_reducible refine (HT.out _ (HA.out.below BW8.out (Nat.le_refl _))).mono ?_)
  rintro e w9 ⟨A9, c9, rfl, B9⟩
  have BW9 := Lib.hid (bkeep BW8.out B9)
  clear B9
  go_wp2_with fail
  (with_reducible refine (HE.out _ (HA.out.below BW9.out (Nat.le_refl _))).mono ?_)
  rintro e w10 ⟨A10, c10, rfl, B10⟩
  have BW10 := Lib.hid (bkeep BW9.out B10)
  clear B10
  go_wp2_with fail
  (with_reducible refine (num_err k _).mono ?_)
  rintro e wq ⟨rfl, rfl⟩
  go_wp2_with fail
  (with_reducible refine (num_err k _).mono ?_)
  rintro e wq ⟨rfl, rfl⟩
  go_wp2_with fail
  (with_reducible refine (num_err k _).mono ?_)
  rintro e wq ⟨rfl, rfl⟩
  go_wp2_with fail
  (with_reducible refine (num_err k _).mono ?_)
  rintro e wq ⟨rfl, rfl⟩
  go_wp2_with fail
  (with_reducible refine (num_err k _).mono ?_)
  rintro e wq ⟨rfl, rfl⟩
  go_wp2_with fail
  (with_reducible refine (num_err k _).mono ?_)
  rintro e wq ⟨rfl, rfl⟩
  go_wp2_with fail
  go_ret
  exact ⟨rfl, BW10.out⟩
theorem law_checks (g : List Rl) (n c : Nat) (A : Option Addr) (hl : g.length = n) (hok : ∀ r ∈ g, r.Ok) (w : World) (ha : RowAt w A (gc g)) :
    Calls Try.prog 14 #[.slice A n c] w fun e w' => e = .returned (.bool true) ∧ Below w.heap.size w w' := by
  by_cases hn : n ≤ 200
  · have HR := fun w a => rcheck_g g n c A hl (by omega) w a
    have HCP := Lib.hid fun w a => copied_any g n c A hl (by omega) w a
    have HC := fun A c w a => check_g g n c A hl (by omega) w a
    by_cases h0 : gcode 0 g = 0
    · rw [h0] at HR HC
      exact cgood n c A hn (gc g) (Lib.hid HR) HCP (Lib.hid HC) w ha
    · have HLn := fun w a => lengths_out g n c A hl (by omega) w a
      have HPE := fun w a => pencode_any g n c A hl (by omega) (fun r hr => (hok r hr).tm1) w a
      rw [lens_bad h0] at HLn
      have e0 : encOut g = [] := if_neg h0
      rw [e0] at HPE
      obtain ⟨k, hk⟩ : ∃ k, k = gcode 0 g := ⟨_, rfl⟩
      rw [← hk] at HR HC HLn HPE h0
      have HX := fun w a => expand_bad n c A [] k 9 (gc g) h0 (Lib.hid HLn) w a
      simp only [errv_pos k h0] at HC HLn HPE HX
      have HCk := Lib.hid fun w a => HC A c w a
      refine cbad n c A hn k (by rw [beq_eq_false_iff_ne]; exact h0) (gc g) (Lib.hid HR) HCP (Lib.hid HC) (Lib.hid fun w a => weights_err n c A k (gc g) HCk w a) (Lib.hid fun w a => depths_err n c A k (gc g) (Lib.hid HLn) w a)
        (Lib.hid fun w a => (HX w a).mono ?_) (Lib.hid fun w a => uses_err n c A k (gc g) (Lib.hid HLn) w a) (Lib.hid fun w a => trim_err n c A k (gc g) HCk w a) (Lib.hid fun w a => (HPE w a).mono ?_) w ha
      · rintro e w' ⟨A1, c1, he, _, hb⟩
        exact ⟨A1, c1, he, hb⟩
      · rintro e w' ⟨A1, c1, he, _, hb⟩
        exact ⟨A1, c1, he, hb⟩
  · exact clong n c A (by omega) w
end Go.Proofs.Ytcbahojefglakaa
