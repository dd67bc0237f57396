/- The walk of the law GrammarExpands. Written by wip/gen/grlaws.py. -/
import Derived.Test.YtcbahojefglakaaGrExpAny
namespace Go.Proofs.Ytcbahojefglakaa
set_option linter.unusedVariables false
set_option linter.unusedSimpArgs false
open Go.RowKit Go.Lib
attribute [local go_sem ↓] Go.wp_at_zero Go.wp_at_succ
theorem lens_nil {g : List Rl} (h : (lens g).2 ≠ 0) : (lens g).1 = [] := by
  by_cases h0 : gcode 0 g = 0
  · rw [lens_ok h0] at h ⊢
    have key : ∀ (g : List Rl) (acc : List Int), (lensFrom acc g).2 ≠ 0 → (lensFrom acc g).1 = [] := by
      intro g
      induction g with
      | nil => intro acc h; exact absurd rfl h
      | cons r g ih =>
        intro acc h
        have e : lensFrom acc (r :: g) = if (len1 acc r).2 = 0 then lensFrom (acc ++ [(len1 acc r).1]) g else ([], (len1 acc r).2) := rfl
        rw [e] at h ⊢
        by_cases h1 : (len1 acc r).2 = 0
        · rw [if_pos h1] at h ⊢; exact ih _ h
        · rw [if_neg h1]
    exact key g [] h
  · rw [lens_bad h0]
theorem law_long (n c : Nat) (A : Option Addr) (most : Int) (hn : 200 < n) (w : World) :
    Calls Try.prog 3 #[.slice A n c, .int .i64 most] w fun e w' => e = .returned (.bool true) ∧ Below w.heap.size w w' := by
  have hn2 : (200 : Int) < (n : Int) := by omega
  clear hn
  go_enter Try.func3, Try.ntmps3
  go_wp2_with fail
  go_ret
  exact ⟨rfl, Below.refl _ _⟩

set_option maxRecDepth 100000 in
set_option maxHeartbeats 4000000 in
theorem law_bad (n c : Nat) (A : Option Addr) (most : Int) (k : Int) (hk : k ≠ 0) (Y : List Int) (b : Bool) (hn : n ≤ 200) (cells : List Value)
    (HR : Hid (∀ w, RowAt w A cells → Calls Try.prog 15 #[.slice A n c] w (IntsOut [] (.int .i64 k) w)))
    (HC : Hid (∀ w, RowAt w A cells → Calls Try.prog 18 #[.slice A n c] w (SliceOut w n cells)))
    (HE : Hid (∀ A c w, RowAt w A cells → Calls Try.prog 17 #[.slice A n c, .int .i64 most] w (BytesOut [] (errv k) w)))
    (HP : Hid (∀ w, RowAt w A cells → Calls Try.prog 21 #[.slice A n c, .int .i64 (n : Int)] w (BytesOut Y (.bool b) w)))
    (w : World) (ha : RowAt w A cells) :
    Calls Try.prog 3 #[.slice A n c, .int .i64 most] w fun e w' => e = .returned (.bool true) ∧ Below w.heap.size w w' := by
  have HA := Lib.hid ha
  have hn2 : ¬ (200 : Int) < (n : Int) := by omega
  clear hn ha
  have k1 : (k == 0) = false := by rw [beq_eq_false_iff_ne]; exact hk
  have k2 : (k != 0) = true := by rw [bne_iff_ne]; exact hk
  have k3 : (k != k) = false := by simp
  clear hk
  go_enter Try.func3, Try.ntmps3
  go_wp2_with fail
  (with_reducible refine (HR.out _ HA.out).mono ?_)
  rintro e w1 ⟨A1, c1, rfl, R1, B1⟩
  have BW1 := Lib.hid (B1)
  have HA1 := Lib.hid (HA.out.below B1 (Nat.le_refl _))
  clear R1 B1
  go_wp2_with fail
  (with_reducible refine (HC.out _ HA1.out).mono ?_)
  rintro e w2 ⟨A2, c2, rfl, R2, B2⟩
  have BW2 := Lib.hid (bkeep BW1.out B2)
  have HA2 := Lib.hid (HA1.out.below B2 (Nat.le_refl _))
  have RC := Lib.hid R2
  clear R2 B2
  go_wp2_with fail
  (with_reducible refine (HE.out _ _ _ RC.out).mono ?_)
  rintro e w3 ⟨A3, c3, rfl, R3, B3⟩
  have BW3 := Lib.hid (bkeep BW2.out B3)
  have HA3 := Lib.hid (HA2.out.below B3 (Nat.le_refl _))
  have RX := Lib.hid R3
  clear R3 B3
  go_wp2_with fail
  (with_reducible refine (awake_any _).mono ?_)
  rintro e w4 ⟨rfl, B4⟩
  have BW4 := Lib.hid (bkeep BW3.out B4); have HA4 := Lib.hid (HA3.out.below B4 (Nat.le_refl _)); have RX4 := Lib.hid (RX.out.below B4 (Nat.le_refl _))
  clear B4
  go_wp2_with fail
  (with_reducible refine (num_any _ _).mono ?_)
  rintro e wn ⟨rfl, rfl⟩
  go_wp2_with fail
  (with_reducible refine (HP.out _ HA4.out).mono ?_)
  rintro e w5 ⟨A5, c5, rfl, R5, B5⟩
  have BW5 := Lib.hid (bkeep BW4.out B5)
  have HA5 := Lib.hid (HA4.out.below B5 (Nat.le_refl _))
  have RX5 := Lib.hid (RX4.out.below B5 (Nat.le_refl _)); have RY := Lib.hid R5
  clear R5 B5
  go_wp2_with fail
  go_ret
  exact ⟨rfl, BW5.out⟩
set_option maxRecDepth 100000 in
set_option maxHeartbeats 4000000 in
theorem law_nil (n c : Nat) (A : Option Addr) (most : Int) (h0 : n = 0) (hn : n ≤ 200) (cells : List Value)
    (HR : Hid (∀ w, RowAt w A cells → Calls Try.prog 15 #[.slice A n c] w (IntsOut [] (.int .i64 0) w)))
    (HC : Hid (∀ w, RowAt w A cells → Calls Try.prog 18 #[.slice A n c] w (SliceOut w n cells)))
    (HE : Hid (∀ A c w, RowAt w A cells → Calls Try.prog 17 #[.slice A n c, .int .i64 most] w (BytesOut [] (errv 0) w)))
    (HP : Hid (∀ w, RowAt w A cells → Calls Try.prog 21 #[.slice A n c, .int .i64 (n : Int)] w (BytesOut [] (.bool true) w)))
    (w : World) (ha : RowAt w A cells) :
    Calls Try.prog 3 #[.slice A n c, .int .i64 most] w fun e w' => e = .returned (.bool true) ∧ Below w.heap.size w w' := by
  have HA := Lib.hid ha
  have hn2 : ¬ (200 : Int) < (n : Int) := by omega
  clear hn ha
  subst h0
  have HP := Lib.hid (show ∀ w, RowAt w A cells → Calls Try.prog 21 #[.slice A 0 c, .int .i64 0] w (BytesOut [] (.bool true) w) from HP.out)
  have q0 : ¬ clipI most 0 65536 < 0 := by have := (clip_hi most).1; omega
  obtain ⟨q, hq⟩ : ∃ q, q = clipI most 0 65536 := ⟨_, rfl⟩
  have HQ := Lib.hid (fun w => rclip_any most 0 65536 w)
  rw [← hq] at HQ q0
  clear hq
  go_enter Try.func3, Try.ntmps3
  go_wp2_with fail
  (with_reducible refine (HR.out _ HA.out).mono ?_)
  rintro e w1 ⟨A1, c1, rfl, R1, B1⟩
  have BW1 := Lib.hid (B1)
  have HA1 := Lib.hid (HA.out.below B1 (Nat.le_refl _))
  clear R1 B1
  go_wp2_with fail
  (with_reducible refine (HQ.out _).mono ?_)
  rintro e wq ⟨rfl, rfl⟩
  go_wp2_with fail
  (with_reducible refine (HC.out _ HA1.out).mono ?_)
  rintro e w2 ⟨A2, c2, rfl, R2, B2⟩
  have BW2 := Lib.hid (bkeep BW1.out B2)
  have HA2 := Lib.hid (HA1.out.below B2 (Nat.le_refl _))
  have RC := Lib.hid R2
  clear R2 B2
  go_wp2_with fail
  (with_reducible refine (HE.out _ _ _ RC.out).mono ?_)
  rintro e w3 ⟨A3, c3, rfl, R3, B3⟩
  have BW3 := Lib.hid (bkeep BW2.out B3)
  have HA3 := Lib.hid (HA2.out.below B3 (Nat.le_refl _))
  have RX := Lib.hid R3
  clear R3 B3
  go_wp2_with fail
  (with_reducible refine (awake_any _).mono ?_)
  rintro e w4 ⟨rfl, B4⟩
  have BW4 := Lib.hid (bkeep BW3.out B4); have HA4 := Lib.hid (HA3.out.below B4 (Nat.le_refl _)); have RX4 := Lib.hid (RX.out.below B4 (Nat.le_refl _))
  clear B4
  go_wp2_with fail
  (with_reducible refine (num_any _ _).mono ?_)
  rintro e wn ⟨rfl, rfl⟩
  go_wp2_with fail
  (with_reducible refine (HP.out _ HA4.out).mono ?_)
  rintro e w5 ⟨A5, c5, rfl, R5, B5⟩
  have BW5 := Lib.hid (bkeep BW4.out B5)
  have HA5 := Lib.hid (HA4.out.below B5 (Nat.le_refl _))
  have RX5 := Lib.hid (RX4.out.below B5 (Nat.le_refl _)); have RY := Lib.hid R5
  clear R5 B5
  go_wp2_with fail
  (with_reducible refine (bytes_same [] 0 _ _ _ _ rfl _ RX5.out RY.out).mono ?_)
  rintro e wb ⟨rfl, rfl⟩
  go_wp2_with fail
  go_ret
  exact ⟨rfl, BW5.out⟩
set_option maxRecDepth 100000 in
set_option maxHeartbeats 4000000 in
theorem law_large (n c : Nat) (A : Option Addr) (most : Int) (m N : Nat) (L : List Int) (hm : n = m + 1) (hL : L.length = n) (hLm : L.getD m 0 = N) (hqn : clipI most 0 65536 < N) (Y : List Int) (b : Bool) (hn : n ≤ 200) (cells : List Value)
    (HR : Hid (∀ w, RowAt w A cells → Calls Try.prog 15 #[.slice A n c] w (IntsOut L (.int .i64 0) w)))
    (HC : Hid (∀ w, RowAt w A cells → Calls Try.prog 18 #[.slice A n c] w (SliceOut w n cells)))
    (HE : Hid (∀ A c w, RowAt w A cells → Calls Try.prog 17 #[.slice A n c, .int .i64 most] w (BytesOut [] (errv 9) w)))
    (HP : Hid (∀ w, RowAt w A cells → Calls Try.prog 21 #[.slice A n c, .int .i64 (n : Int)] w (BytesOut Y (.bool b) w)))
    (w : World) (ha : RowAt w A cells) :
    Calls Try.prog 3 #[.slice A n c, .int .i64 most] w fun e w' => e = .returned (.bool true) ∧ Below w.heap.size w w' := by
  have HA := Lib.hid ha
  have hn2 : ¬ (200 : Int) < (n : Int) := by omega
  clear hn ha
  have HLL := Lib.hid hL; have HLM := Lib.hid hLm; have HM := Lib.hid hm
  have hnm : (n : Int) - 1 = (m : Int) := by omega
  have nm1 : (m : Int) < (n : Int) := by omega
  have m0 : (0 : Int) ≤ (m : Int) := by omega
  have n1 : (0 : Int) < (n : Int) := by omega
  obtain ⟨q, hq⟩ : ∃ q, q = clipI most 0 65536 := ⟨_, rfl⟩
  have HQ := Lib.hid (fun w => rclip_any most 0 65536 w)
  rw [← hq] at HQ hqn
  clear hq hm hL hLm
  go_enter Try.func3, Try.ntmps3
  go_wp2_with fail
  (with_reducible refine (HR.out _ HA.out).mono ?_)
  rintro e w1 ⟨A1, c1, rfl, R1, B1⟩
  have BW1 := Lib.hid (B1)
  have HA1 := Lib.hid (HA.out.below B1 (Nat.le_refl _))
  rw [HLL.out]
  have hml : m < L.length := by rw [HLL.out, HM.out]; omega
  obtain ⟨a1, rfl, ha1, ca1⟩ := R1.get (vi_get hml)
  have cm : w1.cell? (a1.add m) = some (.int .i64 (N : Int)) := (row_cell R1 hml).trans (by rw [HLM.out])
  clear ca1 hml
  clear R1 B1
  go_wp2_with fail
  (with_reducible refine (HQ.out _).mono ?_)
  rintro e wq ⟨rfl, rfl⟩
  go_wp2_with fail
  (with_reducible refine (HC.out _ HA1.out).mono ?_)
  rintro e w2 ⟨A2, c2, rfl, R2, B2⟩
  have BW2 := Lib.hid (bkeep BW1.out B2)
  have HA2 := Lib.hid (HA1.out.below B2 (Nat.le_refl _))
  have RC := Lib.hid R2
  clear R2 B2
  go_wp2_with fail
  (with_reducible refine (HE.out _ _ _ RC.out).mono ?_)
  rintro e w3 ⟨A3, c3, rfl, R3, B3⟩
  have BW3 := Lib.hid (bkeep BW2.out B3)
  have HA3 := Lib.hid (HA2.out.below B3 (Nat.le_refl _))
  have RX := Lib.hid R3
  clear R3 B3
  go_wp2_with fail
  (with_reducible refine (awake_any _).mono ?_)
  rintro e w4 ⟨rfl, B4⟩
  have BW4 := Lib.hid (bkeep BW3.out B4); have HA4 := Lib.hid (HA3.out.below B4 (Nat.le_refl _)); have RX4 := Lib.hid (RX.out.below B4 (Nat.le_refl _))
  clear B4
  go_wp2_with fail
  (with_reducible refine (num_any _ _).mono ?_)
  rintro e wn ⟨rfl, rfl⟩
  go_wp2_with fail
  (with_reducible refine (HP.out _ HA4.out).mono ?_)
  rintro e w5 ⟨A5, c5, rfl, R5, B5⟩
  have BW5 := Lib.hid (bkeep BW4.out B5)
  have HA5 := Lib.hid (HA4.out.below B5 (Nat.le_refl _))
  have RX5 := Lib.hid (RX4.out.below B5 (Nat.le_refl _)); have RY := Lib.hid R5
  clear R5 B5
  go_wp2_with fail
  go_ret
  exact ⟨rfl, BW5.out⟩
set_option maxRecDepth 100000 in
set_option maxHeartbeats 4000000 in
theorem law_most (n c : Nat) (A : Option Addr) (most : Int) (m N : Nat) (L : List Int) (hm : n = m + 1) (hL : L.length = n) (hLm : L.getD m 0 = N) (hqn : ¬ clipI most 0 65536 < N) (hN : 4096 < N) (hn : n ≤ 200) (cells : List Value)
    (HR : Hid (∀ w, RowAt w A cells → Calls Try.prog 15 #[.slice A n c] w (IntsOut L (.int .i64 0) w)))
    (w : World) (ha : RowAt w A cells) :
    Calls Try.prog 3 #[.slice A n c, .int .i64 most] w fun e w' => e = .returned (.bool true) ∧ Below w.heap.size w w' := by
  have HA := Lib.hid ha
  have hn2 : ¬ (200 : Int) < (n : Int) := by omega
  clear hn ha
  have HLL := Lib.hid hL; have HLM := Lib.hid hLm; have HM := Lib.hid hm
  have hnm : (n : Int) - 1 = (m : Int) := by omega
  have nm1 : (m : Int) < (n : Int) := by omega
  have m0 : (0 : Int) ≤ (m : Int) := by omega
  have n1 : (0 : Int) < (n : Int) := by omega
  obtain ⟨q, hq⟩ : ∃ q, q = clipI most 0 65536 := ⟨_, rfl⟩
  have HQ := Lib.hid (fun w => rclip_any most 0 65536 w)
  rw [← hq] at HQ hqn
  clear hq hm hL hLm
  have hN2 : (4096 : Int) < (N : Int) := by omega
  clear hN
  go_enter Try.func3, Try.ntmps3
  go_wp2_with fail
  (with_reducible refine (HR.out _ HA.out).mono ?_)
  rintro e w1 ⟨A1, c1, rfl, R1, B1⟩
  have BW1 := Lib.hid (B1)
  have HA1 := Lib.hid (HA.out.below B1 (Nat.le_refl _))
  rw [HLL.out]
  have hml : m < L.length := by rw [HLL.out, HM.out]; omega
  obtain ⟨a1, rfl, ha1, ca1⟩ := R1.get (vi_get hml)
  have cm : w1.cell? (a1.add m) = some (.int .i64 (N : Int)) := (row_cell R1 hml).trans (by rw [HLM.out])
  clear ca1 hml
  clear R1 B1
  go_wp2_with fail
  (with_reducible refine (HQ.out _).mono ?_)
  rintro e wq ⟨rfl, rfl⟩
  go_wp2_with fail
  go_ret
  exact ⟨rfl, BW1.out⟩
set_option maxRecDepth 100000 in
set_option maxHeartbeats 4000000 in
theorem law_ok (n c : Nat) (A : Option Addr) (most : Int) (m N : Nat) (L : List Int) (hm : n = m + 1) (hL : L.length = n) (hLm : L.getD m 0 = N) (hqn : ¬ clipI most 0 65536 < N) (hN : ¬ 4096 < N) (X : List Int) (hn : n ≤ 200) (cells : List Value)
    (HR : Hid (∀ w, RowAt w A cells → Calls Try.prog 15 #[.slice A n c] w (IntsOut L (.int .i64 0) w)))
    (HC : Hid (∀ w, RowAt w A cells → Calls Try.prog 18 #[.slice A n c] w (SliceOut w n cells)))
    (HE : Hid (∀ A c w, RowAt w A cells → Calls Try.prog 17 #[.slice A n c, .int .i64 most] w (BytesOut X (errv 0) w)))
    (HP : Hid (∀ w, RowAt w A cells → Calls Try.prog 21 #[.slice A n c, .int .i64 (n : Int)] w (BytesOut X (.bool true) w)))
    (w : World) (ha : RowAt w A cells) :
    Calls Try.prog 3 #[.slice A n c, .int .i64 most] w fun e w' => e = .returned (.bool true) ∧ Below w.heap.size w w' := by
  have HA := Lib.hid ha
  have hn2 : ¬ (200 : Int) < (n : Int) := by omega
  clear hn ha
  have HLL := Lib.hid hL; have HLM := Lib.hid hLm; have HM := Lib.hid hm
  have hnm : (n : Int) - 1 = (m : Int) := by omega
  have nm1 : (m : Int) < (n : Int) := by omega
  have m0 : (0 : Int) ≤ (m : Int) := by omega
  have n1 : (0 : Int) < (n : Int) := by omega
  obtain ⟨q, hq⟩ : ∃ q, q = clipI most 0 65536 := ⟨_, rfl⟩
  have HQ := Lib.hid (fun w => rclip_any most 0 65536 w)
  rw [← hq] at HQ hqn
  clear hq hm hL hLm
  have hN2 : ¬ (4096 : Int) < (N : Int) := by omega
  clear hN
  go_enter Try.func3, Try.ntmps3
  go_wp2_with fail
  (with_reducible refine (HR.out _ HA.out).mono ?_)
  rintro e w1 ⟨A1, c1, rfl, R1, B1⟩
  have BW1 := Lib.hid (B1)
  have HA1 := Lib.hid (HA.out.below B1 (Nat.le_refl _))
  rw [HLL.out]
  have hml : m < L.length := by rw [HLL.out, HM.out]; omega
  obtain ⟨a1, rfl, ha1, ca1⟩ := R1.get (vi_get hml)
  have cm : w1.cell? (a1.add m) = some (.int .i64 (N : Int)) := (row_cell R1 hml).trans (by rw [HLM.out])
  clear ca1 hml
  clear R1 B1
  go_wp2_with fail
  (with_reducible refine (HQ.out _).mono ?_)
  rintro e wq ⟨rfl, rfl⟩
  go_wp2_with fail
  (with_reducible refine (HC.out _ HA1.out).mono ?_)
  rintro e w2 ⟨A2, c2, rfl, R2, B2⟩
  have BW2 := Lib.hid (bkeep BW1.out B2)
  have HA2 := Lib.hid (HA1.out.below B2 (Nat.le_refl _))
  have RC := Lib.hid R2
  clear R2 B2
  go_wp2_with fail
  (with_reducible refine (HE.out _ _ _ RC.out).mono ?_)
  rintro e w3 ⟨A3, c3, rfl, R3, B3⟩
  have BW3 := Lib.hid (bkeep BW2.out B3)
  have HA3 := Lib.hid (HA2.out.below B3 (Nat.le_refl _))
  have RX := Lib.hid R3
  clear R3 B3
  go_wp2_with fail
  (with_reducible refine (awake_any _).mono ?_)
  rintro e w4 ⟨rfl, B4⟩
  have BW4 := Lib.hid (bkeep BW3.out B4); have HA4 := Lib.hid (HA3.out.below B4 (Nat.le_refl _)); have RX4 := Lib.hid (RX.out.below B4 (Nat.le_refl _))
  clear B4
  go_wp2_with fail
  (with_reducible refine (num_any _ _).mono ?_)
  rintro e wn ⟨rfl, rfl⟩
  go_wp2_with fail
  (with_reducible refine (HP.out _ HA4.out).mono ?_)
  rintro e w5 ⟨A5, c5, rfl, R5, B5⟩
  have BW5 := Lib.hid (bkeep BW4.out B5)
  have HA5 := Lib.hid (HA4.out.below B5 (Nat.le_refl _))
  have RX5 := Lib.hid (RX4.out.below B5 (Nat.le_refl _)); have RY := Lib.hid R5
  clear R5 B5
  go_wp2_with fail
  (with_reducible refine (bytes_same X X.length _ _ _ _ rfl _ RX5.out RY.out).mono ?_)
  rintro e wb ⟨rfl, rfl⟩
  go_wp2_with fail
  go_ret
  exact ⟨rfl, BW5.out⟩
theorem law_expands (g : List Rl) (n c : Nat) (A : Option Addr) (hl : g.length = n) (most : Int) (w : World) (ha : RowAt w A (gc g)) :
    Calls Try.prog 3 #[.slice A n c, .int .i64 most] w fun e w' => e = .returned (.bool true) ∧ Below w.heap.size w w' := by
  by_cases hn : n ≤ 200
  · have HR := fun w h => rlengths_any g n c A hl (by omega) w h
    have HC := Lib.hid fun w h => copied_any g n c A hl (by omega) w h
    have HE := fun A c w h => expand_any g n c A hl (by omega) most w h
    have HP := fun w h => rplain_any g n c A hl (by omega) w h
    by_cases h0 : (lens g).2 = 0
    · obtain ⟨t1, t2⟩ := lens_text (lens_g h0) h0
      rw [h0] at HR
      by_cases hz : g.length = 0
      · have el : (lens g).1 = [] := List.eq_nil_of_length_eq_zero (by omega)
        have ee : exOut g most = ([], 0) := by unfold exOut; rw [if_neg (by simp [h0]), if_pos hz]
        have ep : plOut g = ([], true) := by unfold plOut; rw [if_neg (by simp [h0]), if_pos hz]
        rw [el] at HR; rw [ee] at HE; rw [ep] at HP
        exact law_nil n c A most (by omega) hn (gc g) (Lib.hid HR) HC (Lib.hid HE) (Lib.hid HP) w ha
      · obtain ⟨m, hm⟩ : ∃ m, n = m + 1 := ⟨n - 1, by omega⟩
        have hgm : g.length - 1 = m := by omega
        have hr : g[m]? = some (g[m]'(by omega)) := List.getElem?_eq_getElem _
        have hlm := t2 m _ hr
        by_cases hq : clipI most 0 65536 < (tx g m).length
        · have ee : exOut g most = ([], 9) := by unfold exOut; rw [if_neg (by simp [h0]), if_neg hz, hgm, if_pos hq]
          rw [ee] at HE
          exact law_large n c A most m _ _ hm (by omega) hlm hq _ _ hn (gc g) (Lib.hid HR) HC (Lib.hid HE) (Lib.hid HP) w ha
        · have ee : exOut g most = (tx g m, 0) := by unfold exOut; rw [if_neg (by simp [h0]), if_neg hz, hgm, if_neg hq]
          rw [ee] at HE
          by_cases hN : 4096 < (tx g m).length
          · exact law_most n c A most m _ _ hm (by omega) hlm hq hN hn (gc g) (Lib.hid HR) w ha
          · have ep : plOut g = (tx g m, true) := by unfold plOut; rw [if_neg (by simp [h0]), if_neg hz, hgm, if_neg hN]
            rw [ep] at HP
            exact law_ok n c A most m _ _ hm (by omega) hlm hq hN _ hn (gc g) (Lib.hid HR) HC (Lib.hid HE) (Lib.hid HP) w ha
    · have ee : exOut g most = ([], (lens g).2) := by unfold exOut; rw [if_pos h0]
      rw [ee] at HE; rw [lens_nil h0] at HR
      exact law_bad n c A most _ h0 _ _ hn (gc g) (Lib.hid HR) HC (Lib.hid HE) (Lib.hid HP) w ha
  · exact law_long n c A most (by omega) w
end Go.Proofs.Ytcbahojefglakaa
