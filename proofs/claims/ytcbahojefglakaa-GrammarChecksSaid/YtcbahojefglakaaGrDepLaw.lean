/- The walk of the law GrammarDepths. Written by wip/gen/grdep3.py. -/
import Derived.Test.YtcbahojefglakaaGrDepRef
namespace Go.Proofs.Ytcbahojefglakaa
set_option linter.unusedVariables false
set_option linter.unusedSimpArgs false
open Go.RowKit Go.Lib
attribute [local go_sem ↓] Go.wp_at_zero Go.wp_at_succ
def depOut (g : List Rl) : List Int × Int := if (lens g).2 ≠ 0 then ([], (lens g).2) else (deps g, 0)
set_option maxRecDepth 100000 in
set_option maxHeartbeats 4000000 in
theorem depths_bad (n c : Nat) (A : Option Addr) (Ls : List Int) (k : Int) (cells : List Value) (hk : k ≠ 0)
    (HLC : Hid (∀ w, RowAt w A cells → Calls Try.prog 45 #[.slice A n c] w (IntsOut Ls (errv k) w))) (w : World) (ha : RowAt w A cells) :
    Calls Try.prog 23 #[.slice A n c] w (IntsOut [] (errv k) w) := by
  rw [errv_pos k hk] at HLC ⊢
  have HA := Lib.hid ha
  clear ha hk
  go_enter Try.func23, Try.ntmps23
  go_wp2_with fail
  (with_reducible refine (HLC.out _ HA.out).mono ?_)
  rintro e w1 ⟨A1, c1, rfl, R1, B1⟩
  have BW1 := Lib.hid B1
  clear R1 B1
  go_wp2_with fail
  go_ret2
  exact ⟨none, 0, rfl, RowAt.nil _ _, BW1.out⟩
theorem depths_any (g : List Rl) (n c : Nat) (A : Option Addr) (hl : g.length = n) (hn : n ≤ 1000000) (w : World) (ha : RowAt w A (gc g)) :
    Calls Try.prog 23 #[.slice A n c] w (IntsOut (depOut g).1 (errv (depOut g).2) w) := by
  have HC := fun w h => lengths_out g n c A hl hn w h
  by_cases h0 : (lens g).2 = 0
  · rw [h0] at HC
    have e : depOut g = (deps g, 0) := by unfold depOut; rw [if_neg (by simp [h0])]
    rw [e]
    exact depths_ok g n c A hl hn (lens_g h0) _ rfl _ (Lib.hid HC) w ha
  · have e : depOut g = ([], (lens g).2) := by unfold depOut; rw [if_pos h0]
    rw [e]
    exact depths_bad n c A _ _ (gc g) h0 (Lib.hid HC) w ha
theorem dlaw_long (n c : Nat) (A : Option Addr) (hn : 200 < n) (w : World) :
    Calls Try.prog 4 #[.slice A n c] w fun e w' => e = .returned (.bool true) ∧ Below w.heap.size w w' := by
  have hn2 : (200 : Int) < (n : Int) := by omega
  clear hn
  go_enter Try.func4, Try.ntmps4
  go_wp2_with fail
  go_ret
  exact ⟨rfl, Below.refl _ _⟩
set_option maxRecDepth 100000 in
set_option maxHeartbeats 4000000 in
theorem dlaw_bad (n c : Nat) (A : Option Addr) (k : Int) (hk : k ≠ 0) (L : List Int) (hn : n ≤ 200) (cells : List Value)
    (HR : Hid (∀ w, RowAt w A cells → Calls Try.prog 15 #[.slice A n c] w (IntsOut L (.int .i64 k) w)))
    (HC : Hid (∀ w, RowAt w A cells → Calls Try.prog 18 #[.slice A n c] w (SliceOut w n cells)))
    (HE : Hid (∀ A c w, RowAt w A cells → Calls Try.prog 23 #[.slice A n c] w (IntsOut [] (errv k) w)))
    (w : World) (ha : RowAt w A cells) :
    Calls Try.prog 4 #[.slice A n c] w fun e w' => e = .returned (.bool true) ∧ Below w.heap.size w w' := by
  have HA := Lib.hid ha
  have hn2 : ¬ (200 : Int) < (n : Int) := by omega
  have k2 : (k != 0) = true := by rw [bne_iff_ne]; exact hk
  have k3 : (k != k) = false := by simp
  clear hk
  clear hn ha
  go_enter Try.func4, Try.ntmps4
  go_wp2_with fail
  (with_reducible refine (HC.out _ HA.out).mono ?_)
  rintro e w1 ⟨A1, c1, rfl, R1, B1⟩
  have BW1 := Lib.hid (B1)
  have HA1 := Lib.hid (HA.out.below B1 (Nat.le_refl _))
  have RC := Lib.hid R1
  clear R1 B1
  go_wp2_with fail
  (with_reducible refine (HE.out _ _ _ RC.out).mono ?_)
  rintro e w2 ⟨A2, c2, rfl, R2, B2⟩
  have BW2 := Lib.hid (bkeep BW1.out B2)
  have HA2 := Lib.hid (HA1.out.below B2 (Nat.le_refl _))
  have RX := Lib.hid R2
  clear R2 B2
  go_wp2_with fail
  (with_reducible refine (HR.out _ HA2.out).mono ?_)
  rintro e w3 ⟨A3, c3, rfl, R3, B3⟩
  have BW3 := Lib.hid (bkeep BW2.out B3)
  have HA3 := Lib.hid (HA2.out.below B3 (Nat.le_refl _))
  have RX3 := Lib.hid (RX.out.below B3 (Nat.le_refl _))
  clear R3 B3
  go_wp2_with fail
  (with_reducible refine (awake_any _).mono ?_)
  rintro e w4 ⟨rfl, B4⟩
  have BW4 := Lib.hid (bkeep BW3.out B4); have HA4 := Lib.hid (HA3.out.below B4 (Nat.le_refl _)); have RX4 := Lib.hid (RX3.out.below B4 (Nat.le_refl _))
  clear B4
  go_wp2_with fail
  (with_reducible refine (num_any _ _).mono ?_)
  rintro e wn ⟨rfl, rfl⟩
  go_wp2_with fail
  go_ret
  exact ⟨rfl, BW4.out⟩
set_option maxRecDepth 100000 in
set_option maxHeartbeats 4000000 in
theorem dlaw_ok (n c : Nat) (A : Option Addr) (D L : List Int) (hD : D.length = n)  (hn : n ≤ 200) (cells : List Value)
    (HR : Hid (∀ w, RowAt w A cells → Calls Try.prog 15 #[.slice A n c] w (IntsOut L (.int .i64 0) w)))
    (HC : Hid (∀ w, RowAt w A cells → Calls Try.prog 18 #[.slice A n c] w (SliceOut w n cells)))
    (HE : Hid (∀ A c w, RowAt w A cells → Calls Try.prog 23 #[.slice A n c] w (IntsOut D (errv 0) w)))
    (HP : Hid (∀ w, RowAt w A cells → Calls Try.prog 25 #[.slice A n c] w (SliceOut w n (vi D))))
    (w : World) (ha : RowAt w A cells) :
    Calls Try.prog 4 #[.slice A n c] w fun e w' => e = .returned (.bool true) ∧ Below w.heap.size w w' := by
  have HA := Lib.hid ha
  have hn2 : ¬ (200 : Int) < (n : Int) := by omega
  have HD := Lib.hid hD; have HN := Lib.hid hn
  clear hD
  clear hn ha
  go_enter Try.func4, Try.ntmps4
  go_wp2_with fail
  (with_reducible refine (HC.out _ HA.out).mono ?_)
  rintro e w1 ⟨A1, c1, rfl, R1, B1⟩
  have BW1 := Lib.hid (B1)
  have HA1 := Lib.hid (HA.out.below B1 (Nat.le_refl _))
  have RC := Lib.hid R1
  clear R1 B1
  go_wp2_with fail
  (with_reducible refine (HE.out _ _ _ RC.out).mono ?_)
  rintro e w2 ⟨A2, c2, rfl, R2, B2⟩
  have BW2 := Lib.hid (bkeep BW1.out B2)
  have HA2 := Lib.hid (HA1.out.below B2 (Nat.le_refl _))
  have RX := Lib.hid R2
  clear R2 B2
  rw [HD.out]
  go_wp2_with fail
  (with_reducible refine (HR.out _ HA2.out).mono ?_)
  rintro e w3 ⟨A3, c3, rfl, R3, B3⟩
  have BW3 := Lib.hid (bkeep BW2.out B3)
  have HA3 := Lib.hid (HA2.out.below B3 (Nat.le_refl _))
  have RX3 := Lib.hid (RX.out.below B3 (Nat.le_refl _))
  clear R3 B3
  go_wp2_with fail
  (with_reducible refine (awake_any _).mono ?_)
  rintro e w4 ⟨rfl, B4⟩
  have BW4 := Lib.hid (bkeep BW3.out B4); have HA4 := Lib.hid (HA3.out.below B4 (Nat.le_refl _)); have RX4 := Lib.hid (RX3.out.below B4 (Nat.le_refl _))
  clear B4
  go_wp2_with fail
  (with_reducible refine (num_any _ _).mono ?_)
  rintro e wn ⟨rfl, rfl⟩
  go_wp2_with fail
  (with_reducible refine (HP.out _ HA4.out).mono ?_)
  rintro e w5 ⟨A5, c5, rfl, R5, B5⟩
  have BW5 := Lib.hid (bkeep BW4.out B5)
  have HA5 := Lib.hid (HA4.out.below B5 (Nat.le_refl _))
  have RX5 := Lib.hid (RX4.out.below B5 (Nat.le_refl _)); have RY := Lib.hid R5
  clear R5 B5
  go_wp2_with fail
  (with_reducible refine (ints_same D n _ _ _ _ HD.out (by have := HN.out; omega) _ RX5.out RY.out).mono ?_)
  rintro e w6 ⟨rfl, B6⟩
  have BW6 := Lib.hid (bkeep BW5.out B6)
  clear B6
  go_wp2_with fail
  go_ret
  exact ⟨rfl, BW6.out⟩
theorem law_depths (g : List Rl) (n c : Nat) (A : Option Addr) (hl : g.length = n) (w : World) (ha : RowAt w A (gc g)) :
    Calls Try.prog 4 #[.slice A n c] w fun e w' => e = .returned (.bool true) ∧ Below w.heap.size w w' := by
  by_cases hn : n ≤ 200
  · have HR := fun w h => rlengths_any g n c A hl (by omega) w h
    have HC := Lib.hid fun w h => copied_any g n c A hl (by omega) w h
    have HE := fun A c w h => depths_any g n c A hl (by omega) w h
    by_cases h0 : (lens g).2 = 0
    · rw [h0] at HR
      have e : depOut g = (deps g, 0) := by unfold depOut; rw [if_neg (by simp [h0])]
      rw [e] at HE
      exact dlaw_ok n c A _ _ ((deps_len g).trans hl) hn (gc g) (Lib.hid HR) HC (Lib.hid HE) (Lib.hid fun w h => rdepths_any g n c A hl (by omega) (lens_g h0) w h) w ha
    · have e : depOut g = ([], (lens g).2) := by unfold depOut; rw [if_pos h0]
      rw [e] at HE
      exact dlaw_bad n c A _ h0 _ hn (gc g) (Lib.hid HR) HC (Lib.hid HE) w ha
  · exact dlaw_long n c A (by omega) w
end Go.Proofs.Ytcbahojefglakaa
