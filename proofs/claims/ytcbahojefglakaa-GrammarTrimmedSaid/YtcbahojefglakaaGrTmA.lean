import Derived.Test.YtcbahojefglakaaGrExpAny
/- The walk of the law GrammarExpands. Written by wip/gen/grlaws.py. -/
namespace Go.Proofs.Ytcbahojefglakaa
set_option linter.unusedVariables false
set_option linter.unusedSimpArgs false
open Go.RowKit Go.Lib
attribute [local go_sem ↓] Go.wp_at_zero Go.wp_at_succ
theorem lens_nil {g : List Rl} (h : (lens g).2 ≠ 0) : (lens g).1 = [] := by
  by_cases h0 : gcode 0 g = 0
  · rw [lens_ok h0] at h ⊢
    have key : ∀ (g : List Rl) (acc : List Int), (lensFrom acc g).2 ≠ 0 → (lensFrom acc g).1 = [] := by
      intro g
      induction g with
      | nil => intro acc h; exact absurd rfl h
      | cons r g ih =>
        intro acc h
        have e : lensFrom acc (r :: g) = if (len1 acc r).2 = 0 then lensFrom (acc ++ [(len1 acc r).1]) g else ([], (len1 acc r).2) := rfl
        rw [e] at h ⊢
        by_cases h1 : (len1 acc r).2 = 0
        · rw [if_pos h1] at h ⊢; exact ih _ h
        · rw [if_neg h1]
    exact key g [] h
  · rw [lens_bad h0]
theorem law_long (n c : Nat) (A : Option Addr) (most : Int) (hn : 200 < n) (w : World) :
    Calls Try.prog 3 #[.slice A n c, .int .i64 most] w fun e w' => e = .returned (.bool true) ∧ Below w.heap.size w w' := by
  have hn2 : (200 : Int) < (n : Int) := by omega
  clear hn
  go_enter Try.func3, Try.ntmps3
  go_wp2_with fail
  go_ret
  exact ⟨rfl, Below.refl _ _⟩

set_option maxRecDepth 100000 in
set_option maxHeartbeats 4000000 in
theorem law_bad (n c : Nat) (A : Option Addr) (most : Int) (k : Int) (hk : k ≠ 0) (Y : List Int) (b : Bool) (hn : n ≤ 200) (cells : List Value)
    (HR : Hid (∀ w, RowAt w A cells → Calls Try.prog 15 #[.slice A n c] w (IntsOut [] (.int .i64 k) w)))
    (HC : Hid (∀ w, RowAt w A cells → Calls Try.prog 18 #[.slice A n c] w (SliceOut w n cells)))
    (HE : Hid (∀ A c w, RowAt w A cells → Calls Try.prog 17 #[.slice A n c, .int .i64 most] w (BytesOut [] (errv k) w)))
    (HP : Hid (∀ w, RowAt w A cells → Calls Try.prog 21 #[.slice A n c, .int .i64 (n : Int)] w (BytesOut Y (.bool b) w)))
    (w : World) (ha : RowAt w A cells) :
    Calls Try.prog 3 #[.slice A n c, .int .i64 most] w fun e w' => e = .returned (.bool true) ∧ Below w.heap.size w w' := by
  have HA := Lib.hid ha
  have hn2 : ¬ (200 : Int) < (n : Int) := by omega
  clear hn ha
  have k1 : (k == 0) = false := by rw [beq_eq_false_iff_ne]; exact hk
  have k2 : (k != 0) = true := by rw [bne_iff_ne]; exact hk
  have k3 : (k != k) = false := by simp
  clear hk
  go_enter Try.func3, Try.ntmps3
  go_wp2_with fail
  (with_reducible refine (HR.out _ HA.out).mono ?_)
  rintro e w1 ⟨A1, c1, rfl, R1, B1⟩
  have BW1 := Lib.hid (B1)
  have HA1 := Lib.hid (HA.out.below B1 (Nat.le_refl _))
  clear R1 B1
  go_wp2_with fail
  (with_reducible refine (HC.out _ HA1.out).mono ?_)
  rintro e w2 ⟨A2, c2, rfl, R2, B2⟩
  have BW2 := Lib.hid (bkeep BW1.out B2)
  have HA2 := Lib.hid (HA1.out.below B2 (Nat.le_refl _))
  have RC := Lib.hid R2
  clear R2 B2
  go_wp2_with fail
  (with_reducible refine (HE.out _ _ _ RC.out).mono ?_)
  rintro e w3 ⟨A3, c3, rfl, R3, B3⟩
  have BW3 := Lib.hid (bkeep BW2.out B3)
  have HA3 := Lib.hid (HA2.out.below B3 (Nat.le_refl _))
  have RX := Lib.hid R3
  clear R3 B3
  go_wp2_with fail
  (with_reducible refine (awake_any _).mono ?_)
  rintro e w4 ⟨rfl, B4⟩
  have BW4 := Lib.hid (bkeep BW3.out B4); have HA4 := Lib.hid (HA3.out.below B4 (Nat.le_refl _)); have RX4 := Lib.hid (RX.out.below B4 (Nat.le_refl _))
  clear B4
  go_wp2_with fail
  (with_reducible refine (num_any _ _).mono ?_)
  rintro e wn ⟨rfl, rfl⟩
  go_wp2_with fail
  (with_reducible refine (HP.out _ HA4.out).mono ?_)
  rintro e w5 ⟨A5, c5, rfl, R5, B5⟩
  have BW5 := Lib.hid (bkeep BW4.out B5)
  have HA5 := Lib.hid (HA4.out.below B5 (Nat.le_refl _))
  have RX5 := Lib.hid (RX4.out.below B5 (Nat.le_refl _)); have RY := Lib.hid R5
  clear R5 B5
  go_wp2_with fail
  go_ret
  exact ⟨rfl, BW5.out⟩
set_option maxRecDepth 100000 in
set_option maxHeartbeats 4000000 in
theorem law_nil (n c : Nat) (A : Option Addr) (most : Int) (h0 : n = 0) (hn : n ≤ 200) (cells : List Value)
    (HR : Hid (∀ w, RowAt w A cells → Calls Try.prog 15 #[.slice A n c] w (IntsOut [] (.int .i64 0) w)))
    (HC : Hid (∀ w, RowAt w A cells → Calls Try.prog 18 #[.slice A n c] w (SliceOut w n cells)))
    (HE : Hid (∀ A c w, RowAt w A cells → Calls Try.prog 17 #[.slice A n c, .int .i64 most] w (BytesOut [] (errv 0) w)))
    (HP : Hid (∀ w, RowAt w A cells → Calls Try.prog 21 #[.slice A n c, .int .i64 (n : Int)] w (BytesOut [] (.bool true) w)))
    (w : World) (ha : RowAt w A cells) :
    Calls Try.prog 3 #[.slice A n c, .int .i64 most] w fun e w' => e = .returned (.bool true) ∧ Below w.heap.size w w' := by
  have HA := Lib.hid ha
  have hn2 : ¬ (200 : Int) < (n : Int) := by omega
  clear hn ha
  subst h0
  have HP := Lib.hid (show ∀ w, RowAt w A cells → Calls Try.prog 21 #[.slice A 0 c, .int .i64 0] w (BytesOut [] (.bool true) w) from HP.out)
  have q0 : ¬ clipI most 0 65536 < 0 := by have := (clip_hi most).1; omega
  obtain ⟨q, hq⟩ : ∃ q, q = clipI most 0 65536 := ⟨_, rfl⟩
  have HQ := Lib.hid (fun w => rclip_any most 0 65536 w)
  rw [← hq] at HQ q0
  clear hq
  go_enter Try.func3, Try.ntmps3
  go_wp2_with fail
  (with_reducible refine (HR.out _ HA.out).mono ?_)
  rintro e w1 ⟨A1, c1, rfl, R1, B1⟩
  have BW1 := Lib.hid (B1)
  have HA1 := Lib.hid (HA.out.below B1 (Nat.le_refl _))
  clear R1 B1
  go_wp2_with fail
  (with_reducible refine (HQ.out _).mono ?_)
  rintro e wq ⟨rfl, rfl⟩
  go_wp2_with fail
  (with_reducible refine (HC.out _ HA1.out).mono ?_)
  rintro e w2 ⟨A2, c2, rfl, R2, B2⟩
  have BW2 := Lib.hid (bkeep BW1.out B2)
  have HA2 := Lib.hid (HA1.out.below B2 (Nat.le_refl _))
  have RC := Lib.hid R2
  clear R2 B2
  go_wp2_with fail
  (with_reducible refine (HE.out _ _ _ RC.out).mono ?_)
  rintro e w3 ⟨A3, c3, rfl, R3, B3⟩
  have BW3 := Lib.hid (bkeep BW2.out B3)
  have HA3 := Lib.hid (HA2.out.below B3 (Nat.le_refl _))
  have RX := Lib.hid R3
  clear R3 B3
  go_wp2_with fail
  (with_reducible refine (awake_any _).mono ?_)
  rintro e w4 ⟨rfl, B4⟩
  have BW4 := Lib.hid (bkeep BW3.out B4); have HA4 := Lib.hid (HA3.out.below B4 (Nat.le_refl _)); have RX4 := Lib.hid (RX.out.below B4 (Nat.le_refl _))
  clear B4
  go_wp2_with fail
  (with_reducible refine (num_any _ _).mono ?_)
  rintro e wn ⟨rfl, rfl⟩
  go_wp2_with fail
  (with_reducible refine (HP.out _ HA4.out).mono ?_)
  rintro e w5 ⟨A5, c5, rfl, R5, B5⟩
  have BW5 := Lib.hid (bkeep BW4.out B5)
  have HA5 := Lib.hid (HA4.out.below B5 (Nat.le_refl _))
  have RX5 := Lib.hid (RX4.out.below B5 (Nat.le_refl _)); have RY := Lib.hid R5
  clear R5 B5
  go_wp2_with fail
  (with_reducible refine (bytes_same [] 0 _ _ _ _ rfl _ RX5.out RY.out).mono ?_)
  rintro e wb ⟨rfl, rfl⟩
  go_wp2_with fail
  go_ret
  exact ⟨rfl, BW5.out⟩
set_option maxRecDepth 100000 in
set_option maxHeartbeats 4000000 in
theorem law_large (n c : Nat) (A : Option Addr) (most : Int) (m N : Nat) (L : List Int) (hm : n = m + 1) (hL : L.length = n) (hLm : L.getD m 0 = N) (hqn : clipI most 0 65536 < N) (Y : List Int) (b : Bool) (hn : n ≤ 200) (cells : List Value)
    (HR : Hid (∀ w, RowAt w A cells → Calls Try.prog 15 #[.slice A n c] w (IntsOut L (.int .i64 0) w)))
    (HC : Hid (∀ w, RowAt w A cells → Calls Try.prog 18 #[.slice A n c] w (SliceOut w n cells)))
    (HE : Hid (∀ A c w, RowAt w A cells → Calls Try.prog 17 #[.slice A n c, .int .i64 most] w (BytesOut [] (errv 9) w)))
    (HP : Hid (∀ w, RowAt w A cells → Calls Try.prog 21 #[.slice A n c, .int .i64 (n : Int)] w (BytesOut Y (.bool b) w)))
    (w : World) (ha : RowAt w A cells) :
    Calls Try.prog 3 #[.slice A n c, .int .i64 most] w fun e w' => e = .returned (.bool true) ∧ Below w.heap.size w w' := by
  have HA := Lib.hid ha
  have hn2 : ¬ (200 : Int) < (n : Int) := by omega
  clear hn ha
  have HLL := Lib.hid hL; have HLM := Lib.hid hLm; have HM := Lib.hid hm
  have hnm : (n : Int) - 1 = (m : Int) := by omega
  have nm1 : (m : Int) < (n : Int) := by omega
  have m0 : (0 : Int) ≤ (m : Int) := by omega
  have n1 : (0 : Int) < (n : Int) := by omega
  obtain ⟨q, hq⟩ : ∃ q, q = clipI most 0 65536 := ⟨_, rfl⟩
  have HQ := Lib.hid (fun w => rclip_any most 0 65536 w)
  rw [← hq] at HQ hqn
  clear hq hm hL hLm
  go_enter Try.func3, Try.ntmps3
  go_wp2_with fail
  (with_reducible refine (HR.out _ HA.out).mono ?_)
  rintro e w1 ⟨A1, c1, rfl, R1, B1⟩
  have BW1 := Lib.hid (B1)
  have HA1 := Lib.hid (HA.out.below B1 (Nat.le_refl _))
  rw [HLL.out]
  have hml : m < L.length := by rw [HLL.out, HM.out]; omega
  obtain ⟨a1, rfl, ha1, ca1⟩ := R1.get (vi_get hml)
  have cm : w1.cell? (a1.add m) = some (.int .i64 (N : Int)) := (row_cell R1 hml).trans (by rw [HLM.out])
  clear ca1 hml
  clear R1 B1
  go_wp2_with fail
  (with_reducible refine (HQ.out _).mono ?_)
  rintro e wq ⟨rfl, rfl⟩
  go_wp2_with fail
  (with_reducible refine (HC.out _ HA1.out).mono ?_)
  rintro e w2 ⟨A2, c2, rfl, R2, B2⟩
  have BW2 := Lib.hid (bkeep BW1.out B2)
  have HA2 := Lib.hid (HA1.out.below B2 (Nat.le_refl _))
  have RC := Lib.hid R2
  clear R2 B2
  go_wp2_with fail
  (with_reducible refine (HE.out _ _ _ RC.out).mono ?_)
  rintro e w3 ⟨A3, c3, rfl, R3, B3⟩
  have BW3 := Lib.hid (bkeep BW2.out B3)
  have HA3 := Lib.hid (HA2.out.below B3 (Nat.le_refl _))
  have RX := Lib.hid R3
  clear R3 B3
  go_wp2_with fail
  (with_reducible refine (awake_any _).mono ?_)
  rintro e w4 ⟨rfl, B4⟩
  have BW4 := Lib.hid (bkeep BW3.out B4); have HA4 := Lib.hid (HA3.out.below B4 (Nat.le_refl _)); have RX4 := Lib.hid (RX.out.below B4 (Nat.le_refl _))
  clear B4
  go_wp2_with fail
  (with_reducible refine (num_any _ _).mono ?_)
  rintro e wn ⟨rfl, rfl⟩
  go_wp2_with fail
  (with_reducible refine (HP.out _ HA4.out).mono ?_)
  rintro e w5 ⟨A5, c5, rfl, R5, B5⟩
  have BW5 := Lib.hid (bkeep BW4.out B5)
  have HA5 := Lib.hid (HA4.out.below B5 (Nat.le_refl _))
  have RX5 := Lib.hid (RX4.out.below B5 (Nat.le_refl _)); have RY := Lib.hid R5
  clear R5 B5
  go_wp2_with fail
  go_ret
  exact ⟨rfl, BW5.out⟩
set_option maxRecDepth 100000 in
set_option maxHeartbeats 4000000 in
theorem law_most (n c : Nat) (A : Option Addr) (most : Int) (m N : Nat) (L : List Int) (hm : n = m + 1) (hL : L.length = n) (hLm : L.getD m 0 = N) (hqn : ¬ clipI most 0 65536 < N) (hN : 4096 < N) (hn : n ≤ 200) (cells : List Value)
    (HR : Hid (∀ w, RowAt w A cells → Calls Try.prog 15 #[.slice A n c] w (IntsOut L (.int .i64 0) w)))
    (w : World) (ha : RowAt w A cells) :
    Calls Try.prog 3 #[.slice A n c, .int .i64 most] w fun e w' => e = .returned (.bool true) ∧ Below w.heap.size w w' := by
  have HA := Lib.hid ha
  have hn2 : ¬ (200 : Int) < (n : Int) := by omega
  clear hn ha
  have HLL := Lib.hid hL; have HLM := Lib.hid hLm; have HM := Lib.hid hm
  have hnm : (n : Int) - 1 = (m : Int) := by omega
  have nm1 : (m : Int) < (n : Int) := by omega
  have m0 : (0 : Int) ≤ (m : Int) := by omega
  have n1 : (0 : Int) < (n : Int) := by omega
  obtain ⟨q, hq⟩ : ∃ q, q = clipI most 0 65536 := ⟨_, rfl⟩
  have HQ := Lib.hid (fun w => rclip_any most 0 65536 w)
  rw [← hq] at HQ hqn
  clear hq hm hL hLm
  have hN2 : (4096 : Int) < (N : Int) := by omega
  clear hN
  go_enter Try.func3, Try.ntmps3
  go_wp2_with fail
  (with_reducible refine (HR.out _ HA.out).mono ?_)
  rintro e w1 ⟨A1, c1, rfl, R1, B1⟩
  have BW1 := Lib.hid (B1)
  have HA1 := Lib.hid (HA.out.below B1 (Nat.le_refl _))
  rw [HLL.out]
  have hml : m < L.length := by rw [HLL.out, HM.out]; omega
  obtain ⟨a1, rfl, ha1, ca1⟩ := R1.get (vi_get hml)
  have cm : w1.cell? (a1.add m) = some (.int .i64 (N : Int)) := (row_cell R1 hml).trans (by rw [HLM.out])
  clear ca1 hml
  clear R1 B1
  go_wp2_with fail
  (with_reducible refine (HQ.out _).mono ?_)
  rintro e wq ⟨rfl, rfl⟩
  go_wp2_with fail
  go_ret
  exact ⟨rfl, BW1.out⟩
set_option maxRecDepth 100000 in
set_option maxHeartbeats 4000000 in
theorem law_ok (n c : Nat) (A : Option Addr) (most : Int) (m N : Nat) (L : List Int) (hm : n = m + 1) (hL : L.length = n) (hLm : L.getD m 0 = N) (hqn : ¬ clipI most 0 65536 < N) (hN : ¬ 4096 < N) (X : List Int) (hn : n ≤ 200) (cells : List Value)
    (HR : Hid (∀ w, RowAt w A cells → Calls Try.prog 15 #[.slice A n c] w (IntsOut L (.int .i64 0) w)))
    (HC : Hid (∀ w, RowAt w A cells → Calls Try.prog 18 #[.slice A n c] w (SliceOut w n cells)))
    (HE : Hid (∀ A c w, RowAt w A cells → Calls Try.prog 17 #[.slice A n c, .int .i64 most] w (BytesOut X (errv 0) w)))
    (HP : Hid (∀ w, RowAt w A cells → Calls Try.prog 21 #[.slice A n c, .int .i64 (n : Int)] w (BytesOut X (.bool true) w)))
    (w : World) (ha : RowAt w A cells) :
    Calls Try.prog 3 #[.slice A n c, .int .i64 most] w fun e w' => e = .returned (.bool true) ∧ Below w.heap.size w w' := by
  have HA := Lib.hid ha
  have hn2 : ¬ (200 : Int) < (n : Int) := by omega
  clear hn ha
  have HLL := Lib.hid hL; have HLM := Lib.hid hLm; have HM := Lib.hid hm
  have hnm : (n : Int) - 1 = (m : Int) := by omega
  have nm1 : (m : Int) < (n : Int) := by omega
  have m0 : (0 : Int) ≤ (m : Int) := by omega
  have n1 : (0 : Int) < (n : Int) := by omega
  obtain ⟨q, hq⟩ : ∃ q, q = clipI most 0 65536 := ⟨_, rfl⟩
  have HQ := Lib.hid (fun w => rclip_any most 0 65536 w)
  rw [← hq] at HQ hqn
  clear hq hm hL hLm
  have hN2 : ¬ (4096 : Int) < (N : Int) := by omega
  clear hN
  go_enter Try.func3, Try.ntmps3
  go_wp2_with fail
  (with_reducible refine (HR.out _ HA.out).mono ?_)
  rintro e w1 ⟨A1, c1, rfl, R1, B1⟩
  have BW1 := Lib.hid (B1)
  have HA1 := Lib.hid (HA.out.below B1 (Nat.le_refl _))
  rw [HLL.out]
  have hml : m < L.length := by rw [HLL.out, HM.out]; omega
  obtain ⟨a1, rfl, ha1, ca1⟩ := R1.get (vi_get hml)
  have cm : w1.cell? (a1.add m) = some (.int .i64 (N : Int)) := (row_cell R1 hml).trans (by rw [HLM.out])
  clear ca1 hml
  clear R1 B1
  go_wp2_with fail
  (with_reducible refine (HQ.out _).mono ?_)
  rintro e wq ⟨rfl, rfl⟩
  go_wp2_with fail
  (with_reducible refine (HC.out _ HA1.out).mono ?_)
  rintro e w2 ⟨A2, c2, rfl, R2, B2⟩
  have BW2 := Lib.hid (bkeep BW1.out B2)
  have HA2 := Lib.hid (HA1.out.below B2 (Nat.le_refl _))
  have RC := Lib.hid R2
  clear R2 B2
  go_wp2_with fail
  (with_reducible refine (HE.out _ _ _ RC.out).mono ?_)
  rintro e w3 ⟨A3, c3, rfl, R3, B3⟩
  have BW3 := Lib.hid (bkeep BW2.out B3)
  have HA3 := Lib.hid (HA2.out.below B3 (Nat.le_refl _))
  have RX := Lib.hid R3
  clear R3 B3
  go_wp2_with fail
  (with_reducible refine (awake_any _).mono ?_)
  rintro e w4 ⟨rfl, B4⟩
  have BW4 := Lib.hid (bkeep BW3.out B4); have HA4 := Lib.hid (HA3.out.below B4 (Nat.le_refl _)); have RX4 := Lib.hid (RX.out.below B4 (Nat.le_refl _))
  clear B4
  go_wp2_with fail
  (with_reducible refine (num_any _ _).mono ?_)
  rintro e wn ⟨rfl, rfl⟩
  go_wp2_with fail
  (with_reducible refine (HP.out _ HA4.out).mono ?_)
  rintro e w5 ⟨A5, c5, rfl, R5, B5⟩
  have BW5 := Lib.hid (bkeep BW4.out B5)
  have HA5 := Lib.hid (HA4.out.below B5 (Nat.le_refl _))
  have RX5 := Lib.hid (RX4.out.below B5 (Nat.le_refl _)); have RY := Lib.hid R5
  clear R5 B5
  go_wp2_with fail
  (with_reducible refine (bytes_same X X.length _ _ _ _ rfl _ RX5.out RY.out).mono ?_)
  rintro e wb ⟨rfl, rfl⟩
  go_wp2_with fail
  go_ret
  exact ⟨rfl, BW5.out⟩
theorem law_expands (g : List Rl) (n c : Nat) (A : Option Addr) (hl : g.length = n) (most : Int) (w : World) (ha : RowAt w A (gc g)) :
    Calls Try.prog 3 #[.slice A n c, .int .i64 most] w fun e w' => e = .returned (.bool true) ∧ Below w.heap.size w w' := by
  by_cases hn : n ≤ 200
  · have HR := fun w h => rlengths_any g n c A hl (by omega) w h
    have HC := Lib.hid fun w h => copied_any g n c A hl (by omega) w h
    have HE := fun A c w h => expand_any g n c A hl (by omega) most w h
    have HP := fun w h => rplain_any g n c A hl (by omega) w h
    by_cases h0 : (lens g).2 = 0
    · obtain ⟨t1, t2⟩ := lens_text (lens_g h0) h0
      rw [h0] at HR
      by_cases hz : g.length = 0
      · have el : (lens g).1 = [] := List.eq_nil_of_length_eq_zero (by omega)
        have ee : exOut g most = ([], 0) := by unfold exOut; rw [if_neg (by simp [h0]), if_pos hz]
        have ep : plOut g = ([], true) := by unfold plOut; rw [if_neg (by simp [h0]), if_pos hz]
        rw [el] at HR; rw [ee] at HE; rw [ep] at HP
        exact law_nil n c A most (by omega) hn (gc g) (Lib.hid HR) HC (Lib.hid HE) (Lib.hid HP) w ha
      · obtain ⟨m, hm⟩ : ∃ m, n = m + 1 := ⟨n - 1, by omega⟩
        have hgm : g.length - 1 = m := by omega
        have hr : g[m]? = some (g[m]'(by omega)) := List.getElem?_eq_getElem _
        have hlm := t2 m _ hr
        by_cases hq : clipI most 0 65536 < (tx g m).length
        · have ee : exOut g most = ([], 9) := by unfold exOut; rw [if_neg (by simp [h0]), if_neg hz, hgm, if_pos hq]
          rw [ee] at HE
          exact law_large n c A most m _ _ hm (by omega) hlm hq _ _ hn (gc g) (Lib.hid HR) HC (Lib.hid HE) (Lib.hid HP) w ha
        · have ee : exOut g most = (tx g m, 0) := by unfold exOut; rw [if_neg (by simp [h0]), if_neg hz, hgm, if_neg hq]
          rw [ee] at HE
          by_cases hN : 4096 < (tx g m).length
          · exact law_most n c A most m _ _ hm (by omega) hlm hq hN hn (gc g) (Lib.hid HR) w ha
          · have ep : plOut g = (tx g m, true) := by unfold plOut; rw [if_neg (by simp [h0]), if_neg hz, hgm, if_neg hN]
            rw [ep] at HP
            exact law_ok n c A most m _ _ hm (by omega) hlm hq hN _ hn (gc g) (Lib.hid HR) HC (Lib.hid HE) (Lib.hid HP) w ha
    · have ee : exOut g most = ([], (lens g).2) := by unfold exOut; rw [if_pos h0]
      rw [ee] at HE; rw [lens_nil h0] at HR
      exact law_bad n c A most _ h0 _ _ hn (gc g) (Lib.hid HR) HC (Lib.hid HE) (Lib.hid HP) w ha
  · exact law_long n c A most (by omega) w
end Go.Proofs.Ytcbahojefglakaa
/- Depths, its reference, Ints, and the walk of the law GrammarDepths. Written by wip/gen/grdep.py. -/
namespace Go.Proofs.Ytcbahojefglakaa
set_option linter.unusedVariables false
set_option linter.unusedSimpArgs false
open Go.RowKit Go.Lib
attribute [local go_sem ↓] Go.wp_at_zero Go.wp_at_succ
def maxI (x y : Int) : Int := if y > x then y else x
def dep1 (acc : List Int) (r : Rl) : Int :=
  if r.kd = 1 then 0 else if r.kd = 2 then 1 + maxI (acc.getD (r.lf - 1).toNat 0) (acc.getD (r.rg - 1).toNat 0) else 1 + acc.getD (r.lf - 1).toNat 0
def deps (g : List Rl) : List Int := fwd dep1 [] g
theorem deps_len (g : List Rl) : (deps g).length = g.length := by unfold deps; rw [fwd_len]; simp
theorem dep_step {acc : List Int} {g : List Rl} {i : Nat} {r : Rl} (h : g[i]? = some r) : fwd dep1 acc (g.drop i) = fwd dep1 (acc ++ [dep1 acc r]) (g.drop (i + 1)) := by rw [drop_of h]; rfl
def DB (acc : List Int) : Prop := ∀ j, j < acc.length → 0 ≤ acc.getD j 0 ∧ acc.getD j 0 ≤ j
theorem DB.snoc {acc : List Int} {v : Int} (h : DB acc) (h0 : 0 ≤ v) (h1 : v ≤ acc.length) : DB (acc ++ [v]) := by
  intro j hj
  rw [List.getD_eq_getElem?_getD]
  by_cases hl : j < acc.length
  · rw [List.getElem?_append_left hl, ← List.getD_eq_getElem?_getD]; exact h j hl
  · have : j = acc.length := by simp at hj; omega
    subst this
    rw [List.getElem?_append_right (Nat.le_refl _), Nat.sub_self]
    exact ⟨h0, h1⟩
theorem arr_pad {acc : List Int} {n : Nat} (h : acc.length < n) : arr (acc ++ [0]) n = arr acc n := by
  unfold arr
  have e : n - acc.length = (n - (acc ++ [0]).length) + 1 := by simp; omega
  rw [e, List.replicate_succ, List.append_assoc]
  rfl
theorem max_ints (ats : Array TypeId) (ty : TypeId) (x y : Int) : Builtin.max_ ats ty #[.int .i64 x, .int .i64 y] = pure (.int .i64 (maxI x y)) := rfl
set_option maxRecDepth 100000 in
set_option maxHeartbeats 8000000 in
theorem depths_ok (g : List Rl) (n c : Nat) (A : Option Addr) (hl : g.length = n) (hn : n ≤ 1000000) (h0 : gcode 0 g = 0) (cells : List Value) (hcells : cells = gc g) (L : List Int)
    (HC : Hid (∀ w, RowAt w A cells → Calls Try.prog 45 #[.slice A n c] w (IntsOut L .nilIface w))) (w : World) (ha : RowAt w A cells) :
    Calls Try.prog 23 #[.slice A n c] w (IntsOut (deps g) .nilIface w) := by
  obtain ⟨D, hD⟩ : ∃ D, D = deps g := ⟨_, rfl⟩
  rw [← hD]
  have HA := Lib.hid ha; have HL := Lib.hid hl; have H0 := Lib.hid h0; have HD := Lib.hid hD; have HCE := Lib.hid hcells
  clear ha hl h0 hD hcells
  go_enter Try.func23, Try.ntmps23
  go_wp2_with fail
  (with_reducible refine (HC.out _ HA.out).mono ?_)
  rintro e w1 ⟨A1, c1, rfl, R1, B1⟩
  have BW1 := Lib.hid B1
  have HA1 := Lib.hid (HCE.out ▸ HA.out.below B1 (Nat.le_refl _))
  have mk := fun w => mk_ints n (by omega) w
  clear R1 B1
  go_wp2_with fail
  clear mk
  have BG := Lib.hid (Box.new w1 3 (arr [] n))
  have B0 := Lib.hid (balloc BW1.out (.cells (arr [] n) 3))
  have HA2 := Lib.hid (HA1.out.below (balloc (Below.refl w1.heap.size w1) (.cells (arr [] n) 3)) (Nat.le_refl _))
  have zg : w.heap.size ≤ w1.heap.size := BW1.out.size
  go_loopw [7, 8, 22] (fun _ _ si wr => ∃ (i : Nat) (acc : List Int), si = .int .i64 (i : Int) ∧ i ≤ n ∧ Hid (acc.length = i ∧ fwd dep1 acc (g.drop i) = D ∧ DB acc) ∧ Hid (Box wr w1.heap.size 3 (arr acc n)) ∧ Hid (Below w1.heap.size w1 wr)) (fun _ _ si _ => n - (intOf si).toNat)
  case atStart => exact ⟨0, [], rfl, by omega, Lib.hid ⟨rfl, HD.out.symm, fun j hj => by simp at hj⟩, BG, Lib.hid ((Below.refl w1.heap.size w1).alloc (Nat.le_refl _) _)⟩
  case round =>
    obtain ⟨i, acc, rfl, hi, HG, HB, BW⟩ := hrel
    by_cases hlt : i < n
    · have hil : i < g.length := by rw [HL.out]; exact hlt
      obtain ⟨r, hr⟩ : ∃ r, g[i]? = some r := ⟨_, List.getElem?_eq_getElem hil⟩
      have hway := rule_way H0.out hr
      obtain ⟨ad, rfl, hadl, c0, c1, c2, c3, c4⟩ := row_rl (HA1.out.below BW.out (Nat.le_refl _)) hr
      have HR := Lib.hid hr
      obtain ⟨kd, lt, lf, rg, tm⟩ := r
      simp only at c0 c1 c2 c3 c4 hway
      have i0 : (0 : Int) ≤ i := by omega
      have i1 : (i : Int) < (n : Int) := by omega
      have zw : w1.heap.size < wr.heap.size := HB.out.lt
      have zn : w1.heap.size ≠ wr.heap.size := by omega
      have v0 : wr.cell? ⟨w1.heap.size, i, none⟩ = some (.int .i64 0) := (HB.out.cell i).trans (arr_zero (by rw [HG.out.1]; exact Nat.le_refl _) hlt)
      have f0 := HB.out.free i
      clear hr
      rcases hway with ⟨rfl, rfl, rfl, rfl⟩ | ⟨rfl, rfl, rfl, p1, p2, q1, q2⟩ | ⟨rfl, rfl, rfl, t2, p1, p2⟩
      · have HG2 : Hid ((acc ++ [(0 : Int)]).length = i + 1 ∧ fwd dep1 (acc ++ [0]) (g.drop (i + 1)) = D ∧ DB (acc ++ [0])) := Lib.hid ⟨by simp [HG.out.1], (dep_step HR.out).symm.trans HG.out.2.1, HG.out.2.2.snoc (Int.le_refl _) (by omega)⟩
        have HB2 : Hid (Box wr w1.heap.size 3 (arr (acc ++ [0]) n)) := Lib.hid (by rw [arr_pad (by rw [HG.out.1]; exact hlt)]; exact HB.out)
        go_wp2_with fail
        go_roundw
        case rel => exact ⟨i + 1, acc ++ [0], by go_num, by omega, HG2, Lib.hid (HB2.out.alloc _), Lib.hid (balloc BW.out _)⟩
        case measure => simp [intOf]; omega
      · obtain ⟨a, rfl⟩ : ∃ a : Nat, lf = (a : Int) + 1 := ⟨(lf - 1).toNat, by omega⟩
        obtain ⟨b, rfl⟩ : ∃ b : Nat, rg = (b : Int) + 1 := ⟨(rg - 1).toNat, by omega⟩
        have ai : a < i := by omega
        have an : (a : Int) < n := by omega
        have a0 : (0 : Int) ≤ a := by omega
        have bi : b < i := by omega
        have bn : (b : Int) < n := by omega
        have b0 : (0 : Int) ≤ b := by omega
        obtain ⟨x, hx⟩ : ∃ x, x = acc.getD a 0 := ⟨_, rfl⟩
        obtain ⟨y, hy⟩ : ∃ y, y = acc.getD b 0 := ⟨_, rfl⟩
        have cx : wr.cell? ⟨w1.heap.size, a, none⟩ = some (.int .i64 x) := (HB.out.cell a).trans ((arr_get (by rw [HG.out.1]; exact ai)).trans (by rw [hx]))
        obtain ⟨xlo, xhi⟩ : 0 ≤ x ∧ x ≤ a := by rw [hx]; exact HG.out.2.2 a (by rw [HG.out.1]; exact ai)
        have cy : wr.cell? ⟨w1.heap.size, b, none⟩ = some (.int .i64 y) := (HB.out.cell b).trans ((arr_get (by rw [HG.out.1]; exact bi)).trans (by rw [hy]))
        obtain ⟨ylo, yhi⟩ : 0 ≤ y ∧ y ≤ b := by rw [hy]; exact HG.out.2.2 b (by rw [HG.out.1]; exact bi)
        obtain ⟨m, hm⟩ : ∃ m, m = maxI x y := ⟨_, rfl⟩
        have hmax : ∀ ats ty, Builtin.max_ ats ty #[.int .i64 x, .int .i64 y] = pure (.int .i64 m) := fun ats ty => by rw [hm]; exact max_ints ats ty x y
        obtain ⟨mlo, mhi⟩ : 0 ≤ m ∧ m < i := by rw [hm]; unfold maxI; split <;> omega
        obtain ⟨vv, hv⟩ : ∃ vv, vv = 1 + m := ⟨_, rfl⟩
        have wv : IntKind.i64.wrap (1 + m) = vv := by rw [hv]; exact IntWalk.i64_in _ ⟨by omega, by omega⟩
        have HE : Hid (dep1 acc ⟨2, 0, (a : Int) + 1, (b : Int) + 1, 0⟩ = vv) := Lib.hid (by
          have ea : ((a : Int) + 1 - 1).toNat = a := by omega
          have eb : ((b : Int) + 1 - 1).toNat = b := by omega
          show 1 + maxI (acc.getD ((a : Int) + 1 - 1).toNat 0) (acc.getD ((b : Int) + 1 - 1).toNat 0) = vv
          rw [ea, eb, ← hx, ← hy, hv, hm])
        have HG2 : Hid ((acc ++ [vv]).length = i + 1 ∧ fwd dep1 (acc ++ [vv]) (g.drop (i + 1)) = D ∧ DB (acc ++ [vv])) := Lib.hid ⟨by simp [HG.out.1], by rw [← HE.out]; exact (dep_step HR.out).symm.trans HG.out.2.1, HG.out.2.2.snoc (by omega) (by rw [HG.out.1]; omega)⟩
        have wa : IntKind.i64.wrap (a : Int) = a := IntWalk.i64_in _ ⟨by omega, by omega⟩
        have wb : IntKind.i64.wrap (b : Int) = b := IntWalk.i64_in _ ⟨by omega, by omega⟩
        have HB2 : Hid (Box (wr.setCell ⟨w1.heap.size, i, none⟩ (.int .i64 vv)) w1.heap.size 3 (arr (acc ++ [vv]) n)) := Lib.hid (by
          have h1 := HB.out.set_ i (.int .i64 vv)
          have h2 := arr_set (acc := acc) (n := n) vv (by rw [HG.out.1]; exact hlt)
          rw [HG.out.1] at h2
          rw [h2] at h1
          exact h1)
        have HBw := Lib.hid (HB.out.alloc (.cells #[.int .i64 2, .int .u8 0, .int .i64 ((a : Int) + 1), .int .i64 ((b : Int) + 1), .int .i64 0] 46))
        have BW0 := balloc BW.out (.cells #[.int .i64 2, .int .u8 0, .int .i64 ((a : Int) + 1), .int .i64 ((b : Int) + 1), .int .i64 0] 46)
        have BX := Box.new wr 46 #[.int .i64 2, .int .u8 0, .int .i64 ((a : Int) + 1), .int .i64 ((b : Int) + 1), .int .i64 0]
        clear hx hy hm hv
        go_upto_region 10 with fail
        refine Rs.region_st (sx := 17) (px := ⟨w1.heap.size, i, none⟩) (ux := (.int .i64 vv)) (bs := [true, true, true, true, true, true, true, true, true, true, true, true, true, true, true, true, true, true]) (.val (fun v _ => v = .slice (some ⟨w1.heap.size, 0, none⟩) n n) :: .val (fun v _ => v = .int .i64 (i : Int)) :: .val (fun v _ => v = .slice (some ⟨w1.heap.size, 0, none⟩) n n) :: .val (fun v _ => v = .pointer (some ⟨wr.heap.size, 2, none⟩)) :: .val (fun v _ => v = .int .i64 ((a : Int) + 1)) :: .val (fun v _ => v = .int .i64 (a : Int)) :: .val (fun v _ => v = .pointer (some ⟨w1.heap.size, a, none⟩)) :: .val (fun v _ => v = .int .i64 x) :: .val (fun v _ => v = .slice (some ⟨w1.heap.size, 0, none⟩) n n) :: .val (fun v _ => v = .pointer (some ⟨wr.heap.size, 3, none⟩)) :: .val (fun v _ => v = .int .i64 ((b : Int) + 1)) :: .val (fun v _ => v = .int .i64 (b : Int)) :: .val (fun v _ => v = .pointer (some ⟨w1.heap.size, b, none⟩)) :: .val (fun v _ => v = .int .i64 y) :: .val (fun v _ => v = .int .i64 m) :: .val (fun v _ => v = .int .i64 vv) :: .val (fun v _ => v = .pointer (some ⟨w1.heap.size, i, none⟩)) :: .st ⟨w1.heap.size, i, none⟩ ((.int .i64 vv)) :: [])
          ([] :: [] :: [] :: [] :: [(34, 3)] :: [(35, 4)] :: [(33, 2), (36, 5)] :: [(37, 6)] :: [] :: [] :: [(40, 9)] :: [(41, 10)] :: [(39, 8), (42, 11)] :: [(43, 12)] :: [(38, 7), (44, 13)] :: [(45, 14)] :: [(31, 0), (32, 1)] :: [(47, 16), (46, 15)] :: []) ((0, 0) :: (0, 0) :: (0, 0) :: (0, 0) :: (0, 0) :: (0, 0) :: (0, 0) :: (0, 0) :: (0, 0) :: (0, 0) :: (0, 0) :: (0, 0) :: (0, 0) :: (0, 0) :: (0, 0) :: (0, 0) :: (0, 0) :: (3, 0) :: []) 62 (by kernel_rfl) rfl rfl (by kernel_rfl) (by kernel_rfl) rfl (by first | omega | (simp; omega)) ⟨⟨rfl, rfl⟩, trivial⟩ (by decide) ⟨⟨Rs.Stab.pure _ _ _, fun _ _ h => h⟩, ⟨Rs.Stab.pure _ _ _, fun _ _ h => h⟩, ⟨Rs.Stab.pure _ _ _, fun _ _ h => h⟩, ⟨Rs.Stab.pure _ _ _, fun _ _ h => h⟩, ⟨Rs.Stab.pure _ _ _, fun _ _ h => h⟩, ⟨Rs.Stab.pure _ _ _, fun _ _ h => h⟩, ⟨Rs.Stab.pure _ _ _, fun _ _ h => h⟩, ⟨Rs.Stab.pure _ _ _, fun _ _ h => h⟩, ⟨Rs.Stab.pure _ _ _, fun _ _ h => h⟩, ⟨Rs.Stab.pure _ _ _, fun _ _ h => h⟩, ⟨Rs.Stab.pure _ _ _, fun _ _ h => h⟩, ⟨Rs.Stab.pure _ _ _, fun _ _ h => h⟩, ⟨Rs.Stab.pure _ _ _, fun _ _ h => h⟩, ⟨Rs.Stab.pure _ _ _, fun _ _ h => h⟩, ⟨Rs.Stab.pure _ _ _, fun _ _ h => h⟩, ⟨Rs.Stab.pure _ _ _, fun _ _ h => h⟩, ⟨Rs.Stab.pure _ _ _, fun _ _ h => h⟩, trivial⟩ ⟨?_, ?_, ?_, ?_, ?_, ?_, ?_, ?_, ?_, ?_, ?_, ?_, ?_, ?_, ?_, ?_, ?_, ?_, trivial⟩ ?_
        · intro wx hb0
          have hb : Below _ _ wx := hb0
          intro K hK
          go_simp
          exact hK _ _ rfl ⟨rfl, Below.refl _ _⟩
        · intro wx hb0
          have hb : Below _ _ wx := hb0
          intro K hK
          go_simp
          exact hK _ _ rfl ⟨rfl, Below.refl _ _⟩
        · intro wx hb0
          have hb : Below _ _ wx := hb0
          intro K hK
          go_simp
          exact hK _ _ rfl ⟨rfl, Below.refl _ _⟩
        · intro wx hb0
          have hb : Below _ _ wx := hb0
          intro K hK
          go_simp
          exact hK _ _ rfl ⟨rfl, Below.refl _ _⟩
        · intro wx hb0
          have hb : Below _ _ wx := hb0
          rintro _ rfl
          intro K hK
          have mm := Box.below (BX) hb (Box.lt (BX))
          have m0 : wx.cell? ⟨wr.heap.size, 0, none⟩ = some (.int .i64 2) := mm.cell 0
          have m1 : wx.cell? ⟨wr.heap.size, 1, none⟩ = some (.int .u8 0) := mm.cell 1
          have m2 : wx.cell? ⟨wr.heap.size, 2, none⟩ = some (.int .i64 ((a : Int) + 1)) := mm.cell 2
          have m3 : wx.cell? ⟨wr.heap.size, 3, none⟩ = some (.int .i64 ((b : Int) + 1)) := mm.cell 3
          have m4 : wx.cell? ⟨wr.heap.size, 4, none⟩ = some (.int .i64 0) := mm.cell 4
          clear mm
          go_simp
          exact hK _ _ rfl ⟨rfl, Below.refl _ _⟩
        · intro wx hb0
          have hb : Below _ _ wx := hb0
          rintro _ rfl
          intro K hK
          go_simp
          exact hK _ _ rfl ⟨rfl, Below.refl _ _⟩
        · intro wx hb0
          have hb : Below _ _ wx := hb0
          rintro _ rfl
          rintro _ rfl
          intro K hK
          go_simp
          exact hK _ _ rfl ⟨rfl, Below.refl _ _⟩
        · intro wx hb0
          have hb : Below _ _ wx := hb0
          rintro _ rfl
          intro K hK
          have zz := (hb.cell (p := ⟨w1.heap.size, a, none⟩) HBw.out.lt).trans ((HBw.out.cell a).trans ((HB.out.cell a).symm.trans cx)); go_simp; exact hK _ _ rfl ⟨rfl, Below.refl _ _⟩
        · intro wx hb0
          have hb : Below _ _ wx := hb0
          intro K hK
          go_simp
          exact hK _ _ rfl ⟨rfl, Below.refl _ _⟩
        · intro wx hb0
          have hb : Below _ _ wx := hb0
          intro K hK
          go_simp
          exact hK _ _ rfl ⟨rfl, Below.refl _ _⟩
        · intro wx hb0
          have hb : Below _ _ wx := hb0
          rintro _ rfl
          intro K hK
          have mm := Box.below (BX) hb (Box.lt (BX))
          have m0 : wx.cell? ⟨wr.heap.size, 0, none⟩ = some (.int .i64 2) := mm.cell 0
          have m1 : wx.cell? ⟨wr.heap.size, 1, none⟩ = some (.int .u8 0) := mm.cell 1
          have m2 : wx.cell? ⟨wr.heap.size, 2, none⟩ = some (.int .i64 ((a : Int) + 1)) := mm.cell 2
          have m3 : wx.cell? ⟨wr.heap.size, 3, none⟩ = some (.int .i64 ((b : Int) + 1)) := mm.cell 3
          have m4 : wx.cell? ⟨wr.heap.size, 4, none⟩ = some (.int .i64 0) := mm.cell 4
          clear mm
          go_simp
          exact hK _ _ rfl ⟨rfl, Below.refl _ _⟩
        · intro wx hb0
          have hb : Below _ _ wx := hb0
          rintro _ rfl
          intro K hK
          go_simp
          exact hK _ _ rfl ⟨rfl, Below.refl _ _⟩
        · intro wx hb0
          have hb : Below _ _ wx := hb0
          rintro _ rfl
          rintro _ rfl
          intro K hK
          go_simp
          exact hK _ _ rfl ⟨rfl, Below.refl _ _⟩
        · intro wx hb0
          have hb : Below _ _ wx := hb0
          rintro _ rfl
          intro K hK
          have zz := (hb.cell (p := ⟨w1.heap.size, b, none⟩) HBw.out.lt).trans ((HBw.out.cell b).trans ((HB.out.cell b).symm.trans cy)); go_simp; exact hK _ _ rfl ⟨rfl, Below.refl _ _⟩
        · intro wx hb0
          have hb : Below _ _ wx := hb0
          rintro _ rfl
          rintro _ rfl
          intro K hK
          go_simp
          exact hK _ _ rfl ⟨rfl, Below.refl _ _⟩
        · intro wx hb0
          have hb : Below _ _ wx := hb0
          rintro _ rfl
          intro K hK
          go_simp
          exact hK _ _ rfl ⟨rfl, Below.refl _ _⟩
        · intro wx hb0
          have hb : Below _ _ wx := hb0
          rintro _ rfl
          rintro _ rfl
          intro K hK
          go_simp
          exact hK _ _ rfl ⟨rfl, Below.refl _ _⟩
        · intro wx hb0
          have hb : Below _ _ wx := hb0
          rintro _ rfl
          rintro _ rfl
          intro K hK
          have zc := (hb.cell (p := ⟨w1.heap.size, i, none⟩) HBw.out.lt).trans ((HBw.out.cell i).trans ((HB.out.cell i).symm.trans v0)); have zf := (Box.below HBw.out hb HBw.out.lt).free i
          go_simp
          exact hK _ _ rfl rfl
        intro w3 B3
        rintro _ rfl
        rintro _ rfl
        rintro _ rfl
        rintro _ rfl
        rintro _ rfl
        rintro _ rfl
        rintro _ rfl
        rintro _ rfl
        rintro _ rfl
        rintro _ rfl
        rintro _ rfl
        rintro _ rfl
        rintro _ rfl
        rintro _ rfl
        rintro _ rfl
        rintro _ rfl
        rintro _ rfl
        rintro -
        simp only [Act.put, List.setIfInBounds_toArray, List.set_cons_zero, List.set_cons_succ, List.toList_toArray, List.length_cons, List.length_nil, List.drop_succ_cons, List.drop_zero, List.drop_nil, Nat.zero_add, wpList]
        have HB4 : Hid (Box w3 w1.heap.size 3 (arr (acc ++ [vv]) n)) := Lib.hid (by
          have h1 := HBw.out.set_ i (.int .i64 vv)
          have h2 := arr_set (acc := acc) (n := n) vv (by rw [HG.out.1]; exact hlt)
          rw [HG.out.1] at h2
          rw [h2] at h1
          exact h1.below B3 HBw.out.lt)
        have BW4 := Lib.hid ((BW0.setCell (p := ⟨w1.heap.size, i, none⟩) (Nat.le_refl _) (.int .i64 vv)).trans (B3.mono BW0.size))
        clear B3 BW0 BX HB2
        go_wp2_with fail
        go_roundw
        case rel => exact ⟨i + 1, acc ++ [vv], by go_num, by omega, HG2, HB4, BW4⟩
        case measure => simp [intOf]; omega
      · obtain ⟨a, rfl⟩ : ∃ a : Nat, lf = (a : Int) + 1 := ⟨(lf - 1).toNat, by omega⟩
        have ai : a < i := by omega
        have an : (a : Int) < n := by omega
        have a0 : (0 : Int) ≤ a := by omega
        obtain ⟨x, hx⟩ : ∃ x, x = acc.getD a 0 := ⟨_, rfl⟩
        have cx : wr.cell? ⟨w1.heap.size, a, none⟩ = some (.int .i64 x) := (HB.out.cell a).trans ((arr_get (by rw [HG.out.1]; exact ai)).trans (by rw [hx]))
        obtain ⟨xlo, xhi⟩ : 0 ≤ x ∧ x ≤ a := by rw [hx]; exact HG.out.2.2 a (by rw [HG.out.1]; exact ai)
        obtain ⟨vv, hv⟩ : ∃ vv, vv = 1 + x := ⟨_, rfl⟩
        have wv : IntKind.i64.wrap (1 + x) = vv := by rw [hv]; exact IntWalk.i64_in _ ⟨by omega, by omega⟩
        have HE : Hid (dep1 acc ⟨3, 0, (a : Int) + 1, 0, tm⟩ = vv) := Lib.hid (by
          have ea : ((a : Int) + 1 - 1).toNat = a := by omega
          show 1 + acc.getD ((a : Int) + 1 - 1).toNat 0 = vv
          rw [ea, ← hx, hv])
        have HG2 : Hid ((acc ++ [vv]).length = i + 1 ∧ fwd dep1 (acc ++ [vv]) (g.drop (i + 1)) = D ∧ DB (acc ++ [vv])) := Lib.hid ⟨by simp [HG.out.1], by rw [← HE.out]; exact (dep_step HR.out).symm.trans HG.out.2.1, HG.out.2.2.snoc (by omega) (by rw [HG.out.1]; omega)⟩
        have wa : IntKind.i64.wrap (a : Int) = a := IntWalk.i64_in _ ⟨by omega, by omega⟩
        have HB2 : Hid (Box (wr.setCell ⟨w1.heap.size, i, none⟩ (.int .i64 vv)) w1.heap.size 3 (arr (acc ++ [vv]) n)) := Lib.hid (by
          have h1 := HB.out.set_ i (.int .i64 vv)
          have h2 := arr_set (acc := acc) (n := n) vv (by rw [HG.out.1]; exact hlt)
          rw [HG.out.1] at h2
          rw [h2] at h1
          exact h1)
        have HBw := Lib.hid (HB.out.alloc (.cells #[.int .i64 3, .int .u8 0, .int .i64 ((a : Int) + 1), .int .i64 0, .int .i64 tm] 46))
        have BW0 := balloc BW.out (.cells #[.int .i64 3, .int .u8 0, .int .i64 ((a : Int) + 1), .int .i64 0, .int .i64 tm] 46)
        clear hx hv
        have BW2 := Lib.hid (BW.out.setCell (p := ⟨w1.heap.size, i, none⟩) (Nat.le_refl _) (.int .i64 vv))
        have HB4 : Hid (Box ((wr.alloc (.cells #[.int .i64 3, .int .u8 0, .int .i64 ((a : Int) + 1), .int .i64 0, .int .i64 tm] 46)).setCell ⟨w1.heap.size, i, none⟩ (.int .i64 vv)) w1.heap.size 3 (arr (acc ++ [vv]) n)) := Lib.hid (by
          have h1 := HBw.out.set_ i (.int .i64 vv)
          have h2 := arr_set (acc := acc) (n := n) vv (by rw [HG.out.1]; exact hlt)
          rw [HG.out.1] at h2
          rw [h2] at h1
          exact h1)
        have BW4 := Lib.hid (BW0.setCell (p := ⟨w1.heap.size, i, none⟩) (Nat.le_refl _) (.int .i64 vv))
        clear BW0
        go_wp2_with fail
        go_roundw
        case rel => first | exact ⟨i + 1, acc ++ [vv], by go_num, by omega, HG2, HB4, BW4⟩ | exact ⟨i + 1, acc ++ [vv], by go_num, by omega, HG2, Lib.hid (HB2.out.alloc _), Lib.hid (balloc BW2.out _)⟩
        case measure => simp [intOf]; omega
    · obtain rfl : i = n := by omega
      have HG2 : Hid (acc = D) := Lib.hid (by
        have h := HG.out.2.1
        rw [List.drop_of_length_le (by rw [HL.out]; exact Nat.le_refl _)] at h
        exact h)
      go_wp2_with fail
      go_ret2
      refine ⟨some ⟨w1.heap.size, 0, none⟩, i, by rw [← HG2.out, HG.out.1]; rfl, by rw [← HG2.out]; exact arr_row HB.out HG.out.1, ?_⟩
      exact BW1.out.trans (BW.out.mono BW1.out.size)
end Go.Proofs.Ytcbahojefglakaa
/- The reference's Depths; Ints at equal lists. Written by wip/gen/grdep2.py. -/
namespace Go.Proofs.Ytcbahojefglakaa
set_option linter.unusedVariables false
set_option linter.unusedSimpArgs false
open Go.RowKit Go.Lib
attribute [local go_sem ↓] Go.wp_at_zero Go.wp_at_succ
set_option maxRecDepth 100000 in
set_option maxHeartbeats 4000000 in
theorem ints_same (l : List Int) (n c d : Nat) (A C : Option Addr) (hl : l.length = n) (hn : n ≤ 1000000) (w : World) (ha : RowAt w A (vi l)) (hb : RowAt w C (vi l)) :
    Calls Try.prog 24 #[.slice A n c, .slice C n d] w fun e w' => e = .returned (.bool true) ∧ Below w.heap.size w w' := by
  have HA := Lib.hid ha; have HB := Lib.hid hb; have HL := Lib.hid hl
  clear ha hb hl
  go_enter Try.func24, Try.ntmps24
  go_wp2_with fail
  go_loopw [5] (fun si wr => ∃ i : Nat, si = .int .i64 (i : Int) ∧ i ≤ n ∧ Hid (Below w.heap.size w wr)) (fun si _ => n - (intOf si).toNat)
  case atStart => exact ⟨0, rfl, by omega, Lib.hid (Below.refl _ _)⟩
  case round =>
    obtain ⟨i, rfl, hi, BW⟩ := hrel
    by_cases hlt : i < n
    · have hil : i < l.length := by rw [HL.out]; exact hlt
      obtain ⟨a1, rfl, ha1, _⟩ := (HA.out.below BW.out (Nat.le_refl _)).get (vi_get hil)
      obtain ⟨b1, rfl, hb1, _⟩ := (HB.out.below BW.out (Nat.le_refl _)).get (vi_get hil)
      obtain ⟨x, hx⟩ : ∃ x, x = l.getD i 0 := ⟨_, rfl⟩
      have cx : wr.cell? (a1.add i) = some (.int .i64 x) := (row_cell (HA.out.below BW.out (Nat.le_refl _)) hil).trans (by rw [hx])
      have cy : wr.cell? (b1.add i) = some (.int .i64 x) := (row_cell (HB.out.below BW.out (Nat.le_refl _)) hil).trans (by rw [hx])
      have ha2 : (a1.add i).block < wr.heap.size := by rw [block_add]; exact ha1
      have hb2 : (b1.add i).block < wr.heap.size := by rw [block_add]; exact hb1
      have i0 : (0 : Int) ≤ i := by omega
      have i1 : (i : Int) < (n : Int) := by omega
      clear hx
      go_upto_region 6 with fail
      refine region_lin (.val (fun v _ => v = .slice (some a1) n c) :: .val (fun v _ => v = .int .i64 (i : Int)) :: .val (fun v _ => v = .pointer (some (a1.add i))) :: .val (fun v _ => v = .int .i64 x) :: .val (fun v _ => v = .slice (some b1) n d) :: .val (fun v _ => v = .int .i64 (i : Int)) :: .val (fun v _ => v = .pointer (some (b1.add i))) :: .val (fun v _ => v = .int .i64 x) :: .val (fun v _ => v = .bool false) :: [])
        ([] :: [] :: [(17, 0), (18, 1)] :: [(19, 2)] :: [] :: [] :: [(21, 4), (22, 5)] :: [(23, 6)] :: [(20, 3), (24, 7)] :: []) ((0, 0) :: (0, 0) :: (0, 0) :: (0, 0) :: (0, 0) :: (0, 0) :: (0, 0) :: (0, 0) :: (0, 0) :: []) 26 (by kernel_rfl) rfl rfl (by kernel_rfl) ⟨Stab.pure _ _ _, Stab.pure _ _ _, Stab.pure _ _ _, Stab.pure _ _ _, Stab.pure _ _ _, Stab.pure _ _ _, Stab.pure _ _ _, Stab.pure _ _ _, Stab.pure _ _ _, trivial⟩ ⟨?_, ?_, ?_, ?_, ?_, ?_, ?_, ?_, ?_, trivial⟩ ?_
      · intro wx hb
        intro K hK
        go_simp
        exact hK _ _ rfl ⟨rfl, Below.refl _ _⟩
      · intro wx hb
        intro K hK
        go_simp
        exact hK _ _ rfl ⟨rfl, Below.refl _ _⟩
      · intro wx hb
        rintro _ rfl
        rintro _ rfl
        intro K hK
        go_simp
        exact hK _ _ rfl ⟨rfl, Below.refl _ _⟩
      · intro wx hb
        rintro _ rfl
        intro K hK
        have zz := (hb.cell (p := a1.add i) ha2).trans cx; go_simp; exact hK _ _ rfl ⟨rfl, Below.refl _ _⟩
      · intro wx hb
        intro K hK
        go_simp
        exact hK _ _ rfl ⟨rfl, Below.refl _ _⟩
      · intro wx hb
        intro K hK
        go_simp
        exact hK _ _ rfl ⟨rfl, Below.refl _ _⟩
      · intro wx hb
        rintro _ rfl
        rintro _ rfl
        intro K hK
        go_simp
        exact hK _ _ rfl ⟨rfl, Below.refl _ _⟩
      · intro wx hb
        rintro _ rfl
        intro K hK
        have zz := (hb.cell (p := b1.add i) hb2).trans cy; go_simp; exact hK _ _ rfl ⟨rfl, Below.refl _ _⟩
      · intro wx hb
        rintro _ rfl
        rintro _ rfl
        intro K hK
        go_simp
        exact hK _ _ rfl ⟨rfl, Below.refl _ _⟩
      intro w3 B3
      rintro _ rfl
      rintro _ rfl
      rintro _ rfl
      rintro _ rfl
      rintro _ rfl
      rintro _ rfl
      rintro _ rfl
      rintro _ rfl
      rintro _ rfl
      rintro -
      simp only [Act.put, List.setIfInBounds_toArray, List.set_cons_zero, List.set_cons_succ, List.toList_toArray, List.length_cons, List.length_nil, List.drop_succ_cons, List.drop_zero, List.drop_nil, Nat.zero_add, wpList]
      have BW3 := Lib.hid (bkeep BW.out B3)
      clear B3
      go_wp2_with fail
      go_roundw
      case rel => exact ⟨i + 1, by go_num, by omega, BW3⟩
      case measure => simp [intOf]; omega
    · obtain rfl : i = n := by omega
      go_wp2_with fail
      go_ret
      exact ⟨rfl, BW.out⟩
set_option maxRecDepth 100000 in
set_option maxHeartbeats 8000000 in
theorem rdepths_any (g : List Rl) (n c : Nat) (A : Option Addr) (hl : g.length = n) (hn : n ≤ 1000000) (h0 : gcode 0 g = 0) (w : World) (ha : RowAt w A (gc g)) :
    Calls Try.prog 25 #[.slice A n c] w (SliceOut w n (vi (deps g))) := by
  obtain ⟨D, hD⟩ : ∃ D, D = deps g := ⟨_, rfl⟩
  rw [← hD]
  obtain ⟨i0_, hi, hz0, hz1, hz2⟩ := info_parts5 info_int
  have HI := Lib.hid hi; have HZ := Lib.hid hz0; have HZ1 := Lib.hid hz1; have HZ2 := Lib.hid hz2
  have HA := Lib.hid ha; have HL := Lib.hid hl; have H0 := Lib.hid h0; have HD := Lib.hid hD
  clear ha hl h0 hD hi hz0 hz1 hz2
  go_enter Try.func25, Try.ntmps25
  go_wp2_with fail
  go_loopw [3, 4, 5] (fun so si _ wr => ∃ (i : Nat) (acc : List Int) (A1 : Option Addr) (c1 : Nat), si = .int .i64 (i : Int) ∧ i ≤ n ∧ so = .slice A1 i c1 ∧ Hid (acc.length = i ∧ fwd dep1 acc (g.drop i) = D ∧ DB acc) ∧ Hid (wr.ownsRow w.heap.size 3 1 (.slice A1 i c1) i (vi acc)) ∧ Hid (Below w.heap.size w wr)) (fun _ si _ _ => n - (intOf si).toNat)
  case atStart => exact ⟨0, [], none, 0, rfl, by omega, rfl, Lib.hid ⟨rfl, HD.out.symm, fun j hj => by simp at hj⟩, Lib.hid ⟨by simp [vi], .inl ⟨rfl, rfl⟩⟩, Lib.hid (Below.refl _ _)⟩
  case round =>
    obtain ⟨i, acc, A1, c1, rfl, hi, rfl, HG, HO, BW⟩ := hrel
    by_cases hlt : i < n
    · have hil : i < g.length := by rw [HL.out]; exact hlt
      obtain ⟨r, hr⟩ : ∃ r, g[i]? = some r := ⟨_, List.getElem?_eq_getElem hil⟩
      have hway := rule_way H0.out hr
      obtain ⟨ad, rfl, hadl, c0, c1_, c2, c3, c4⟩ := row_rl (HA.out.below BW.out (Nat.le_refl _)) hr
      have HR := Lib.hid hr
      obtain ⟨kd, lt, lf, rg, tm⟩ := r
      simp only at c0 c1_ c2 c3 c4 hway
      have i0 : (0 : Int) ≤ i := by omega
      have i1 : (i : Int) < (n : Int) := by omega
      clear hr
      rcases hway with ⟨rfl, rfl, rfl, rfl⟩ | ⟨rfl, rfl, rfl, p1, p2, q1, q2⟩ | ⟨rfl, rfl, rfl, t2, p1, p2⟩
      · have HG2 : Hid ((acc ++ [(0 : Int)]).length = i + 1 ∧ fwd dep1 (acc ++ [0]) (g.drop (i + 1)) = D ∧ DB (acc ++ [0])) := Lib.hid ⟨by simp [HG.out.1], (dep_step HR.out).symm.trans HG.out.2.1, HG.out.2.2.snoc (Int.le_refl _) (by omega)⟩
        have HAp := Lib.hid (own_alloc HO.out (.cells #[.int .i64 0] 3))
        go_wp2_with (refine wpList_app _ (by rfl) (.tmp 58) (.tmp 60) _ rfl w.heap.size 3 i0_ _ 1 8 Try.underlying23 HI.out HZ.out HZ1.out HZ2.out rfl (by omega) (.slice A1 i c1) i (vi acc) rfl HAp.out (some ⟨wr.heap.size, 0, none⟩) 1 1 (vi [0]) rfl rfl ?row (vi_one _) (by simp only [maxLen]; omega) (by omega) ?size ?_)
        case row => exact RowAt.of_block (heap_alloc_new wr _)
        case size => have := BW.out.size; simp; omega
        intro A5 c5 w5 own5 gr5 at5
        have B5 := Lib.hid ((balloc BW.out _).grown gr5 (by have := BW.out.size; simp; omega) (own_ge HO.out))
        rw [← vi_app] at own5
        have HO5 := Lib.hid own5
        clear own5 gr5 at5
        go_wp2_with fail
        go_roundw
        case rel => exact ⟨i + 1, acc ++ [0], A5, c5, by go_num, by omega, rfl, HG2, HO5, B5⟩
        case measure => simp [intOf]; omega
      · obtain ⟨a, rfl⟩ : ∃ a : Nat, lf = (a : Int) + 1 := ⟨(lf - 1).toNat, by omega⟩
        obtain ⟨b, rfl⟩ : ∃ b : Nat, rg = (b : Int) + 1 := ⟨(rg - 1).toNat, by omega⟩
        have ai : a < i := by omega
        have an : (a : Int) < i := by omega
        have a0 : (0 : Int) ≤ a := by omega
        have ai2 : a < acc.length := by rw [HG.out.1]; exact ai
        have bi : b < i := by omega
        have bn : (b : Int) < i := by omega
        have b0 : (0 : Int) ≤ b := by omega
        have bi2 : b < acc.length := by rw [HG.out.1]; exact bi
        obtain ⟨ar, rfl, harl, hcl⟩ := (own_row _ HO.out).get (vi_get ai2); clear hcl
        obtain ⟨x, hx⟩ : ∃ x, x = acc.getD a 0 := ⟨_, rfl⟩
        have cx : wr.cell? (ar.add a) = some (.int .i64 x) := (row_cell (own_row _ HO.out) ai2).trans (by rw [hx])
        obtain ⟨xlo, xhi⟩ : 0 ≤ x ∧ x ≤ a := by rw [hx]; exact HG.out.2.2 a ai2
        have wx : IntKind.i64.wrap (1 + x) = 1 + x := IntWalk.i64_in _ ⟨by omega, by omega⟩
        have wa : IntKind.i64.wrap (a : Int) = a := IntWalk.i64_in _ ⟨by omega, by omega⟩
        obtain ⟨y, hy⟩ : ∃ y, y = acc.getD b 0 := ⟨_, rfl⟩
        have cy : wr.cell? (ar.add b) = some (.int .i64 y) := (row_cell (own_row _ HO.out) bi2).trans (by rw [hy])
        obtain ⟨ylo, yhi⟩ : 0 ≤ y ∧ y ≤ b := by rw [hy]; exact HG.out.2.2 b bi2
        have wy : IntKind.i64.wrap (1 + y) = 1 + y := IntWalk.i64_in _ ⟨by omega, by omega⟩
        have wb : IntKind.i64.wrap (b : Int) = b := IntWalk.i64_in _ ⟨by omega, by omega⟩
        by_cases hq : 1 + x < 1 + y
        · skip
          have HE : Hid (dep1 acc ⟨2, 0, (a : Int) + 1, (b : Int) + 1, 0⟩ = (1 + y)) := Lib.hid (by
            have ea : ((a : Int) + 1 - 1).toNat = a := by omega
            have eb : ((b : Int) + 1 - 1).toNat = b := by omega
            show 1 + maxI (acc.getD ((a : Int) + 1 - 1).toNat 0) (acc.getD ((b : Int) + 1 - 1).toNat 0) = (1 + y)
            rw [ea, eb, ← hx, ← hy]; unfold maxI; rw [if_pos (by omega)])
          have HG2 : Hid ((acc ++ [(1 + y)]).length = i + 1 ∧ fwd dep1 (acc ++ [(1 + y)]) (g.drop (i + 1)) = D ∧ DB (acc ++ [(1 + y)])) := Lib.hid ⟨by simp [HG.out.1], by rw [← HE.out]; exact (dep_step HR.out).symm.trans HG.out.2.1, HG.out.2.2.snoc (by omega) (by rw [HG.out.1]; omega)⟩
          clear hx hy
          have HAp := Lib.hid (own_alloc HO.out (.cells #[.int .i64 (1 + y)] 3))
          go_wp2_with (refine wpList_app _ (by rfl) (.tmp 58) (.tmp 60) _ rfl w.heap.size 3 i0_ _ 1 8 Try.underlying23 HI.out HZ.out HZ1.out HZ2.out rfl (by omega) (.slice (some ar) i c1) i (vi acc) rfl HAp.out (some ⟨wr.heap.size, 0, none⟩) 1 1 (vi [(1 + y)]) rfl rfl ?row (vi_one _) (by simp only [maxLen]; omega) (by omega) ?size ?_)
          case row => exact RowAt.of_block (heap_alloc_new wr _)
          case size => have := BW.out.size; simp; omega
          intro A5 c5 w5 own5 gr5 at5
          have B5 := Lib.hid ((balloc BW.out _).grown gr5 (by have := BW.out.size; simp; omega) (own_ge HO.out))
          rw [← vi_app] at own5
          have HO5 := Lib.hid own5
          clear own5 gr5 at5
          go_wp2_with fail
          go_roundw
          case rel => exact ⟨i + 1, acc ++ [(1 + y)], A5, c5, by go_num, by omega, rfl, HG2, HO5, B5⟩
          case measure => simp [intOf]; omega
        · skip
          have HE : Hid (dep1 acc ⟨2, 0, (a : Int) + 1, (b : Int) + 1, 0⟩ = (1 + x)) := Lib.hid (by
            have ea : ((a : Int) + 1 - 1).toNat = a := by omega
            have eb : ((b : Int) + 1 - 1).toNat = b := by omega
            show 1 + maxI (acc.getD ((a : Int) + 1 - 1).toNat 0) (acc.getD ((b : Int) + 1 - 1).toNat 0) = (1 + x)
            rw [ea, eb, ← hx, ← hy]; unfold maxI; rw [if_neg (by omega)])
          have HG2 : Hid ((acc ++ [(1 + x)]).length = i + 1 ∧ fwd dep1 (acc ++ [(1 + x)]) (g.drop (i + 1)) = D ∧ DB (acc ++ [(1 + x)])) := Lib.hid ⟨by simp [HG.out.1], by rw [← HE.out]; exact (dep_step HR.out).symm.trans HG.out.2.1, HG.out.2.2.snoc (by omega) (by rw [HG.out.1]; omega)⟩
          clear hx hy
          have HAp := Lib.hid (own_alloc HO.out (.cells #[.int .i64 (1 + x)] 3))
          go_wp2_with (refine wpList_app _ (by rfl) (.tmp 58) (.tmp 60) _ rfl w.heap.size 3 i0_ _ 1 8 Try.underlying23 HI.out HZ.out HZ1.out HZ2.out rfl (by omega) (.slice (some ar) i c1) i (vi acc) rfl HAp.out (some ⟨wr.heap.size, 0, none⟩) 1 1 (vi [(1 + x)]) rfl rfl ?row (vi_one _) (by simp only [maxLen]; omega) (by omega) ?size ?_)
          case row => exact RowAt.of_block (heap_alloc_new wr _)
          case size => have := BW.out.size; simp; omega
          intro A5 c5 w5 own5 gr5 at5
          have B5 := Lib.hid ((balloc BW.out _).grown gr5 (by have := BW.out.size; simp; omega) (own_ge HO.out))
          rw [← vi_app] at own5
          have HO5 := Lib.hid own5
          clear own5 gr5 at5
          go_wp2_with fail
          go_roundw
          case rel => exact ⟨i + 1, acc ++ [(1 + x)], A5, c5, by go_num, by omega, rfl, HG2, HO5, B5⟩
          case measure => simp [intOf]; omega
      · obtain ⟨a, rfl⟩ : ∃ a : Nat, lf = (a : Int) + 1 := ⟨(lf - 1).toNat, by omega⟩
        have ai : a < i := by omega
        have an : (a : Int) < i := by omega
        have a0 : (0 : Int) ≤ a := by omega
        have ai2 : a < acc.length := by rw [HG.out.1]; exact ai
        obtain ⟨ar, rfl, harl, hcl⟩ := (own_row _ HO.out).get (vi_get ai2); clear hcl
        obtain ⟨x, hx⟩ : ∃ x, x = acc.getD a 0 := ⟨_, rfl⟩
        have cx : wr.cell? (ar.add a) = some (.int .i64 x) := (row_cell (own_row _ HO.out) ai2).trans (by rw [hx])
        obtain ⟨xlo, xhi⟩ : 0 ≤ x ∧ x ≤ a := by rw [hx]; exact HG.out.2.2 a ai2
        have wx : IntKind.i64.wrap (1 + x) = 1 + x := IntWalk.i64_in _ ⟨by omega, by omega⟩
        have wa : IntKind.i64.wrap (a : Int) = a := IntWalk.i64_in _ ⟨by omega, by omega⟩
        have HE : Hid (dep1 acc ⟨3, 0, (a : Int) + 1, 0, tm⟩ = (1 + x)) := Lib.hid (by
          have ea : ((a : Int) + 1 - 1).toNat = a := by omega
          show 1 + acc.getD ((a : Int) + 1 - 1).toNat 0 = (1 + x)
          rw [ea, ← hx])
        have HG2 : Hid ((acc ++ [(1 + x)]).length = i + 1 ∧ fwd dep1 (acc ++ [(1 + x)]) (g.drop (i + 1)) = D ∧ DB (acc ++ [(1 + x)])) := Lib.hid ⟨by simp [HG.out.1], by rw [← HE.out]; exact (dep_step HR.out).symm.trans HG.out.2.1, HG.out.2.2.snoc (by omega) (by rw [HG.out.1]; omega)⟩
        clear hx
        have HAp := Lib.hid (own_alloc HO.out (.cells #[.int .i64 (1 + x)] 3))
        go_wp2_with (refine wpList_app _ (by rfl) (.tmp 58) (.tmp 60) _ rfl w.heap.size 3 i0_ _ 1 8 Try.underlying23 HI.out HZ.out HZ1.out HZ2.out rfl (by omega) (.slice (some ar) i c1) i (vi acc) rfl HAp.out (some ⟨wr.heap.size, 0, none⟩) 1 1 (vi [(1 + x)]) rfl rfl ?row (vi_one _) (by simp only [maxLen]; omega) (by omega) ?size ?_)
        case row => exact RowAt.of_block (heap_alloc_new wr _)
        case size => have := BW.out.size; simp; omega
        intro A5 c5 w5 own5 gr5 at5
        have B5 := Lib.hid ((balloc BW.out _).grown gr5 (by have := BW.out.size; simp; omega) (own_ge HO.out))
        rw [← vi_app] at own5
        have HO5 := Lib.hid own5
        clear own5 gr5 at5
        go_wp2_with fail
        go_roundw
        case rel => exact ⟨i + 1, acc ++ [(1 + x)], A5, c5, by go_num, by omega, rfl, HG2, HO5, B5⟩
        case measure => simp [intOf]; omega
    · obtain rfl : i = n := by omega
      have HG2 : Hid (acc = D) := Lib.hid (by
        have h := HG.out.2.1
        rw [List.drop_of_length_le (by rw [HL.out]; exact Nat.le_refl _)] at h
        exact h)
      go_wp2_with fail
      go_ret
      exact ⟨A1, c1, rfl, by rw [← HG2.out]; exact own_row _ HO.out, BW.out⟩
end Go.Proofs.Ytcbahojefglakaa
/- The walk of the law GrammarDepths. Written by wip/gen/grdep3.py. -/
namespace Go.Proofs.Ytcbahojefglakaa
set_option linter.unusedVariables false
set_option linter.unusedSimpArgs false
open Go.RowKit Go.Lib
attribute [local go_sem ↓] Go.wp_at_zero Go.wp_at_succ
def depOut (g : List Rl) : List Int × Int := if (lens g).2 ≠ 0 then ([], (lens g).2) else (deps g, 0)
set_option maxRecDepth 100000 in
set_option maxHeartbeats 4000000 in
theorem depths_bad (n c : Nat) (A : Option Addr) (Ls : List Int) (k : Int) (cells : List Value) (hk : k ≠ 0)
    (HLC : Hid (∀ w, RowAt w A cells → Calls Try.prog 45 #[.slice A n c] w (IntsOut Ls (errv k) w))) (w : World) (ha : RowAt w A cells) :
    Calls Try.prog 23 #[.slice A n c] w (IntsOut [] (errv k) w) := by
  rw [errv_pos k hk] at HLC ⊢
  have HA := Lib.hid ha
  clear ha hk
  go_enter Try.func23, Try.ntmps23
  go_wp2_with fail
  (with_reducible refine (HLC.out _ HA.out).mono ?_)
  rintro e w1 ⟨A1, c1, rfl, R1, B1⟩
  have BW1 := Lib.hid B1
  clear R1 B1
  go_wp2_with fail
  go_ret2
  exact ⟨none, 0, rfl, RowAt.nil _ _, BW1.out⟩
theorem depths_any (g : List Rl) (n c : Nat) (A : Option Addr) (hl : g.length = n) (hn : n ≤ 1000000) (w : World) (ha : RowAt w A (gc g)) :
    Calls Try.prog 23 #[.slice A n c] w (IntsOut (depOut g).1 (errv (depOut g).2) w) := by
  have HC := fun w h => lengths_out g n c A hl hn w h
  by_cases h0 : (lens g).2 = 0
  · rw [h0] at HC
    have e : depOut g = (deps g, 0) := by unfold depOut; rw [if_neg (by simp [h0])]
    rw [e]
    exact depths_ok g n c A hl hn (lens_g h0) _ rfl _ (Lib.hid HC) w ha
  · have e : depOut g = ([], (lens g).2) := by unfold depOut; rw [if_pos h0]
    rw [e]
    exact depths_bad n c A _ _ (gc g) h0 (Lib.hid HC) w ha
theorem dlaw_long (n c : Nat) (A : Option Addr) (hn : 200 < n) (w : World) :
    Calls Try.prog 4 #[.slice A n c] w fun e w' => e = .returned (.bool true) ∧ Below w.heap.size w w' := by
  have hn2 : (200 : Int) < (n : Int) := by omega
  clear hn
  go_enter Try.func4, Try.ntmps4
  go_wp2_with fail
  go_ret
  exact ⟨rfl, Below.refl _ _⟩
set_option maxRecDepth 100000 in
set_option maxHeartbeats 4000000 in
theorem dlaw_bad (n c : Nat) (A : Option Addr) (k : Int) (hk : k ≠ 0) (L : List Int) (hn : n ≤ 200) (cells : List Value)
    (HR : Hid (∀ w, RowAt w A cells → Calls Try.prog 15 #[.slice A n c] w (IntsOut L (.int .i64 k) w)))
    (HC : Hid (∀ w, RowAt w A cells → Calls Try.prog 18 #[.slice A n c] w (SliceOut w n cells)))
    (HE : Hid (∀ A c w, RowAt w A cells → Calls Try.prog 23 #[.slice A n c] w (IntsOut [] (errv k) w)))
    (w : World) (ha : RowAt w A cells) :
    Calls Try.prog 4 #[.slice A n c] w fun e w' => e = .returned (.bool true) ∧ Below w.heap.size w w' := by
  have HA := Lib.hid ha
  have hn2 : ¬ (200 : Int) < (n : Int) := by omega
  have k2 : (k != 0) = true := by rw [bne_iff_ne]; exact hk
  have k3 : (k != k) = false := by simp
  clear hk
  clear hn ha
  go_enter Try.func4, Try.ntmps4
  go_wp2_with fail
  (with_reducible refine (HC.out _ HA.out).mono ?_)
  rintro e w1 ⟨A1, c1, rfl, R1, B1⟩
  have BW1 := Lib.hid (B1)
  have HA1 := Lib.hid (HA.out.below B1 (Nat.le_refl _))
  have RC := Lib.hid R1
  clear R1 B1
  go_wp2_with fail
  (with_reducible refine (HE.out _ _ _ RC.out).mono ?_)
  rintro e w2 ⟨A2, c2, rfl, R2, B2⟩
  have BW2 := Lib.hid (bkeep BW1.out B2)
  have HA2 := Lib.hid (HA1.out.below B2 (Nat.le_refl _))
  have RX := Lib.hid R2
  clear R2 B2
  go_wp2_with fail
  (with_reducible refine (HR.out _ HA2.out).mono ?_)
  rintro e w3 ⟨A3, c3, rfl, R3, B3⟩
  have BW3 := Lib.hid (bkeep BW2.out B3)
  have HA3 := Lib.hid (HA2.out.below B3 (Nat.le_refl _))
  have RX3 := Lib.hid (RX.out.below B3 (Nat.le_refl _))
  clear R3 B3
  go_wp2_with fail
  (with_reducible refine (awake_any _).mono ?_)
  rintro e w4 ⟨rfl, B4⟩
  have BW4 := Lib.hid (bkeep BW3.out B4); have HA4 := Lib.hid (HA3.out.below B4 (Nat.le_refl _)); have RX4 := Lib.hid (RX3.out.below B4 (Nat.le_refl _))
  clear B4
  go_wp2_with fail
  (with_reducible refine (num_any _ _).mono ?_)
  rintro e wn ⟨rfl, rfl⟩
  go_wp2_with fail
  go_ret
  exact ⟨rfl, BW4.out⟩
set_option maxRecDepth 100000 in
set_option maxHeartbeats 4000000 in
theorem dlaw_ok (n c : Nat) (A : Option Addr) (D L : List Int) (hD : D.length = n)  (hn : n ≤ 200) (cells : List Value)
    (HR : Hid (∀ w, RowAt w A cells → Calls Try.prog 15 #[.slice A n c] w (IntsOut L (.int .i64 0) w)))
    (HC : Hid (∀ w, RowAt w A cells → Calls Try.prog 18 #[.slice A n c] w (SliceOut w n cells)))
    (HE : Hid (∀ A c w, RowAt w A cells → Calls Try.prog 23 #[.slice A n c] w (IntsOut D (errv 0) w)))
    (HP : Hid (∀ w, RowAt w A cells → Calls Try.prog 25 #[.slice A n c] w (SliceOut w n (vi D))))
    (w : World) (ha : RowAt w A cells) :
    Calls Try.prog 4 #[.slice A n c] w fun e w' => e = .returned (.bool true) ∧ Below w.heap.size w w' := by
  have HA := Lib.hid ha
  have hn2 : ¬ (200 : Int) < (n : Int) := by omega
  have HD := Lib.hid hD; have HN := Lib.hid hn
  clear hD
  clear hn ha
  go_enter Try.func4, Try.ntmps4
  go_wp2_with fail
  (with_reducible refine (HC.out _ HA.out).mono ?_)
  rintro e w1 ⟨A1, c1, rfl, R1, B1⟩
  have BW1 := Lib.hid (B1)
  have HA1 := Lib.hid (HA.out.below B1 (Nat.le_refl _))
  have RC := Lib.hid R1
  clear R1 B1
  go_wp2_with fail
  (with_reducible refine (HE.out _ _ _ RC.out).mono ?_)
  rintro e w2 ⟨A2, c2, rfl, R2, B2⟩
  have BW2 := Lib.hid (bkeep BW1.out B2)
  have HA2 := Lib.hid (HA1.out.below B2 (Nat.le_refl _))
  have RX := Lib.hid R2
  clear R2 B2
  rw [HD.out]
  go_wp2_with fail
  (with_reducible refine (HR.out _ HA2.out).mono ?_)
  rintro e w3 ⟨A3, c3, rfl, R3, B3⟩
  have BW3 := Lib.hid (bkeep BW2.out B3)
  have HA3 := Lib.hid (HA2.out.below B3 (Nat.le_refl _))
  have RX3 := Lib.hid (RX.out.below B3 (Nat.le_refl _))
  clear R3 B3
  go_wp2_with fail
  (with_reducible refine (awake_any _).mono ?_)
  rintro e w4 ⟨rfl, B4⟩
  have BW4 := Lib.hid (bkeep BW3.out B4); have HA4 := Lib.hid (HA3.out.below B4 (Nat.le_refl _)); have RX4 := Lib.hid (RX3.out.below B4 (Nat.le_refl _))
  clear B4
  go_wp2_with fail
  (with_reducible refine (num_any _ _).mono ?_)
  rintro e wn ⟨rfl, rfl⟩
  go_wp2_with fail
  (with_reducible refine (HP.out _ HA4.out).mono ?_)
  rintro e w5 ⟨A5, c5, rfl, R5, B5⟩
  have BW5 := Lib.hid (bkeep BW4.out B5)
  have HA5 := Lib.hid (HA4.out.below B5 (Nat.le_refl _))
  have RX5 := Lib.hid (RX4.out.below B5 (Nat.le_refl _)); have RY := Lib.hid R5
  clear R5 B5
  go_wp2_with fail
  (with_reducible refine (ints_same D n _ _ _ _ HD.out (by have := HN.out; omega) _ RX5.out RY.out).mono ?_)
  rintro e w6 ⟨rfl, B6⟩
  have BW6 := Lib.hid (bkeep BW5.out B6)
  clear B6
  go_wp2_with fail
  go_ret
  exact ⟨rfl, BW6.out⟩
theorem law_depths (g : List Rl) (n c : Nat) (A : Option Addr) (hl : g.length = n) (w : World) (ha : RowAt w A (gc g)) :
    Calls Try.prog 4 #[.slice A n c] w fun e w' => e = .returned (.bool true) ∧ Below w.heap.size w w' := by
  by_cases hn : n ≤ 200
  · have HR := fun w h => rlengths_any g n c A hl (by omega) w h
    have HC := Lib.hid fun w h => copied_any g n c A hl (by omega) w h
    have HE := fun A c w h => depths_any g n c A hl (by omega) w h
    by_cases h0 : (lens g).2 = 0
    · rw [h0] at HR
      have e : depOut g = (deps g, 0) := by unfold depOut; rw [if_neg (by simp [h0])]
      rw [e] at HE
      exact dlaw_ok n c A _ _ ((deps_len g).trans hl) hn (gc g) (Lib.hid HR) HC (Lib.hid HE) (Lib.hid fun w h => rdepths_any g n c A hl (by omega) (lens_g h0) w h) w ha
    · have e : depOut g = ([], (lens g).2) := by unfold depOut; rw [if_pos h0]
      rw [e] at HE
      exact dlaw_bad n c A _ h0 _ hn (gc g) (Lib.hid HR) HC (Lib.hid HE) w ha
  · exact dlaw_long n c A (by omega) w
end Go.Proofs.Ytcbahojefglakaa
/- Plain laws of Uses: how often each rule occurs. -/
namespace Go.Proofs.Ytcbahojefglakaa
set_option linter.unusedVariables false
set_option linter.unusedSimpArgs false
/-- a finite sum -/
def sm : Nat → (Nat → Int) → Int
  | 0, _ => 0
  | n + 1, f => sm n f + f n
theorem sm_congr {f f' : Nat → Int} : ∀ (n : Nat), (∀ j, j < n → f j = f' j) → sm n f = sm n f'
  | 0, _ => rfl
  | n + 1, h => by
    show sm n f + f n = sm n f' + f' n
    rw [sm_congr n (fun j hj => h j (by omega)), h n (by omega)]
theorem sm_plus (f d : Nat → Int) : ∀ (n : Nat), sm n (fun j => f j + d j) = sm n f + sm n d
  | 0 => rfl
  | n + 1 => by
    show sm n (fun j => f j + d j) + (f n + d n) = (sm n f + f n) + (sm n d + d n)
    rw [sm_plus f d n]; omega
theorem sm_zero {f : Nat → Int} : ∀ (n : Nat), (∀ j, j < n → f j = 0) → sm n f = 0
  | 0, _ => rfl
  | n + 1, h => by
    show sm n f + f n = 0
    rw [sm_zero n (fun j hj => h j (by omega)), h n (by omega)]; rfl
theorem sm_one (a : Nat) (y : Int) : ∀ (n : Nat), a < n → sm n (fun j => if j = a then y else 0) = y
  | n + 1, h => by
    show sm n (fun j => if j = a then y else 0) + (if n = a then y else 0) = y
    by_cases e : n = a
    · rw [if_pos e, sm_zero n (fun j hj => if_neg (by omega))]; omega
    · rw [if_neg e, sm_one a y n (by omega)]; omega
theorem sm_pos {f : Nat → Int} : ∀ (n : Nat), (∀ j, j < n → 0 ≤ f j) → 0 ≤ sm n f
  | 0, _ => Int.le_refl _
  | n + 1, h => by
    show 0 ≤ sm n f + f n
    have := sm_pos n (fun j hj => h j (by omega)); have := h n (by omega); omega
theorem sm_mono {f : Nat → Int} {m : Nat} : ∀ (n : Nat), m ≤ n → (∀ j, j < n → 0 ≤ f j) → sm m f ≤ sm n f
  | 0, hm, _ => by have : m = 0 := by omega
                   subst this; exact Int.le_refl _
  | n + 1, hm, h => by
    by_cases e : m = n + 1
    · subst e; exact Int.le_refl _
    · show sm m f ≤ sm n f + f n
      have h1 : sm m f ≤ sm n f := sm_mono n (by omega) (fun j hj => h j (by omega))
      have h2 := h n (by omega)
      omega
theorem sm_ge {f : Nat → Int} {a : Nat} : ∀ (n : Nat), a < n → (∀ j, j < n → 0 ≤ f j) → f a ≤ sm n f
  | n + 1, ha, h => by
    show f a ≤ sm n f + f n
    by_cases e : a = n
    · subst e; have := sm_pos a (fun j hj => h j (by omega)); omega
    · have h1 : f a ≤ sm n f := sm_ge n (by omega) (fun j hj => h j (by omega))
      have h2 := h n (by omega)
      omega
/-- 1 at a letter -/
def ltr (g : List Rl) (j : Nat) : Int := match g[j]? with
  | some r => if r.kd = 1 then 1 else 0
  | none => 0
theorem ltr_at {g : List Rl} {j : Nat} {r : Rl} (h : g[j]? = some r) : ltr g j = if r.kd = 1 then 1 else 0 := by unfold ltr; rw [h]
theorem ltr_pos (g : List Rl) (j : Nat) : 0 ≤ ltr g j := by unfold ltr; split <;> (try split) <;> omega
def ln (g : List Rl) (j : Nat) : Int := ((tx g j).length : Int)
def wt (g : List Rl) (i j : Nat) : Int := if j < i then ln g j else ltr g j
theorem wt_pos (g : List Rl) (i j : Nat) : 0 ≤ wt g i j := by
  unfold wt ln; split
  · omega
  · exact ltr_pos g j
def up (o : List Int) (a : Nat) (x : Int) : List Int := o.set a (o.getD a 0 + x)
theorem up_len (o : List Int) (a : Nat) (x : Int) : (up o a x).length = o.length := by simp [up]
theorem lset_getD {o : List Int} {a j : Nat} {v : Int} (h : a < o.length) : (o.set a v).getD j 0 = if j = a then v else o.getD j 0 := by
  rw [List.getD_eq_getElem?_getD, List.getD_eq_getElem?_getD, List.getElem?_set]
  by_cases e : a = j
  · subst e; rw [if_pos rfl, if_pos h, if_pos rfl]; rfl
  · rw [if_neg e, if_neg (fun h => e h.symm)]
theorem up_at {o : List Int} {a j : Nat} {x : Int} (h : a < o.length) : (up o a x).getD j 0 = o.getD j 0 + if j = a then x else 0 := by
  unfold up
  rw [lset_getD h]
  by_cases e : j = a
  · subst e; rw [if_pos rfl, if_pos rfl]
  · rw [if_neg e, if_neg e]; omega
structure UInv (g : List Rl) (n : Nat) (T : Int) (i : Nat) (o : List Int) : Prop where
  len : o.length = n
  pos : ∀ j, 0 ≤ o.getD j 0
  le : ∀ j, o.getD j 0 ≤ T
  sum : sm n (fun j => o.getD j 0 * wt g i j) = T
section
variable {g : List Rl} {n i : Nat} {T : Int} {o : List Int}
theorem mul_if (p : Prop) [Decidable p] (x y : Int) : (if p then x else 0) * y = if p then x * y else 0 := by split <;> simp
/-- one more rule done: what it gives to those behind it has its own length -/
theorem UInv.step (hg : gcode 0 g = 0) (h : UInv g n T (i + 1) o) (hn : g.length = n) (hi : i < n) {o' : List Int} {x : Int} (a b : Nat) (xa xb : Int) (ha : a < i) (hb : b < i) (hx : x = o.getD i 0) (xa0 : 0 ≤ xa) (xb0 : 0 ≤ xb)
    (ho : o'.length = n) (he : ∀ j, o'.getD j 0 = o.getD j 0 + (if j = a then xa else 0) + (if j = b then xb else 0)) (hl : ltr g i = 0) (hw : x * ln g i = xa * ln g a + xb * ln g b) : UInv g n T i o' := by
  have pos : ∀ j, 0 ≤ o'.getD j 0 := by
    intro j; rw [he]; have := h.pos j; split <;> split <;> omega
  have sum : sm n (fun j => o'.getD j 0 * wt g i j) = T := by
    have e : sm n (fun j => o'.getD j 0 * wt g i j) = sm n (fun j => (o.getD j 0 * wt g (i + 1) j) + (((if j = i then -(x * ln g i) else 0) + (if j = a then xa * ln g a else 0)) + (if j = b then xb * ln g b else 0))) := by
      refine sm_congr n fun j hj => ?_
      rw [he]
      by_cases h1 : j < i
      · have e1 : wt g i j = ln g j := if_pos h1
        have e2 : wt g (i + 1) j = ln g j := if_pos (by omega)
        rw [e1, e2, if_neg (show ¬ j = i by omega), Int.add_mul, Int.add_mul, mul_if, mul_if]
        have q1 : (if j = a then xa * ln g j else 0) = if j = a then xa * ln g a else 0 := by
          by_cases e : j = a
          · subst e; rfl
          · rw [if_neg e, if_neg e]
        have q2 : (if j = b then xb * ln g j else 0) = if j = b then xb * ln g b else 0 := by
          by_cases e : j = b
          · subst e; rfl
          · rw [if_neg e, if_neg e]
        rw [q1, q2]; omega
      · rw [if_neg (show ¬ j = a by omega), if_neg (show ¬ j = b by omega), if_neg (show ¬ j = a by omega), if_neg (show ¬ j = b by omega)]
        have e1 : wt g i j = ltr g j := if_neg h1
        rw [e1]
        by_cases h2 : j = i
        · subst h2
          have e2 : wt g (j + 1) j = ln g j := if_pos (by omega)
          rw [e2, hl, if_pos rfl, ← hx, Int.mul_zero]; omega
        · have e2 : wt g (i + 1) j = ltr g j := if_neg (by omega)
          rw [e2, if_neg h2]; simp
    rw [e, sm_plus, sm_plus, sm_plus, h.sum, sm_one i _ n hi, sm_one a _ n (by omega), sm_one b _ n (by omega)]
    omega
  refine ⟨ho, pos, fun j => ?_, sum⟩
  by_cases hj : j < i
  · have h1 := sm_ge (f := fun j => o'.getD j 0 * wt g i j) n (show j < n by omega) (fun k _ => Int.mul_nonneg (pos k) (wt_pos g i k))
    rw [sum] at h1
    have e1 : wt g i j = ln g j := if_pos hj
    simp only [e1] at h1
    have h2 : 1 ≤ ln g j := by
      have := tx_pos hg j _ (List.getElem?_eq_getElem (show j < g.length by omega)); unfold ln; omega
    have h3 := Int.mul_le_mul_of_nonneg_left h2 (pos j)
    omega
  · rw [he, if_neg (by omega), if_neg (by omega)]; have := h.le j; omega
theorem UInv.letter {lt : Int} (h : UInv g n T (i + 1) o) (hr : g[i]? = some ⟨1, lt, 0, 0, 0⟩) : UInv g n T i o := by
  refine ⟨h.len, h.pos, h.le, ?_⟩
  rw [← h.sum]
  refine sm_congr n fun j _ => ?_
  have : wt g i j = wt g (i + 1) j := by
    unfold wt
    by_cases h1 : j < i
    · rw [if_pos h1, if_pos (by omega)]
    · by_cases h2 : j = i
      · subst h2
        rw [if_neg h1, if_pos (by omega), ltr_at hr]
        unfold ln; rw [tx_letter hr]; rfl
      · rw [if_neg h1, if_neg (by omega)]
  rw [this]
theorem UInv.pair (hg : gcode 0 g = 0) (h : UInv g n T (i + 1) o) (hn : g.length = n) {a b : Nat} (hr : g[i]? = some ⟨2, 0, (a : Int) + 1, (b : Int) + 1, 0⟩) (ha : a < i) (hb : b < i) :
    UInv g n T i (up (up o a (o.getD i 0)) b (o.getD i 0)) := by
  have hi : i < n := by rw [← hn]; exact (List.getElem?_eq_some_iff.1 hr).1
  refine h.step hg hn hi (x := o.getD i 0) a b (o.getD i 0) (o.getD i 0) ha hb rfl (h.pos i) (h.pos i) (by rw [up_len, up_len, h.len]) (fun j => ?_) (by rw [ltr_at hr]; rfl) ?_
  · rw [up_at (by rw [up_len, h.len]; omega), up_at (by rw [h.len]; omega)]
  · unfold ln; rw [tx_pair hr ha hb, List.length_append, Int.natCast_add, Int.mul_add]
theorem UInv.power (hg : gcode 0 g = 0) (h : UInv g n T (i + 1) o) (hn : g.length = n) {a : Nat} {tm : Int} (hr : g[i]? = some ⟨3, 0, (a : Int) + 1, 0, tm⟩) (ha : a < i) (ht : 2 ≤ tm) :
    UInv g n T i (up o a (o.getD i 0 * tm)) := by
  have hi : i < n := by rw [← hn]; exact (List.getElem?_eq_some_iff.1 hr).1
  refine h.step hg hn hi (x := o.getD i 0) a a (o.getD i 0 * tm) 0 ha ha rfl (Int.mul_nonneg (h.pos i) (by omega)) (Int.le_refl _) (by rw [up_len, h.len]) (fun j => ?_) (by rw [ltr_at hr]; rfl) ?_
  · rw [up_at (by rw [h.len]; omega)]; have : (if j = a then (0 : Int) else 0) = 0 := by split <;> rfl
    omega
  · unfold ln
    rw [tx_power hr ha, List.length_flatten, List.map_replicate, List.sum_replicate_nat, Int.natCast_mul, Int.zero_mul, Int.add_zero, Int.mul_assoc, show ((tm.toNat : Nat) : Int) = tm by omega]
end
def ust (g : List Rl) (i : Nat) (o : List Int) : List Int := match g[i]? with
  | some r => if r.kd = 2 then up (up o (r.lf - 1).toNat (o.getD i 0)) (r.rg - 1).toNat (o.getD i 0) else if r.kd = 3 then up o (r.lf - 1).toNat (o.getD i 0 * r.tm) else o
  | none => o
def usesFrom (g : List Rl) : Nat → List Int → List Int
  | 0, o => o
  | i + 1, o => usesFrom g i (ust g i o)
def us0 (n : Nat) : List Int := (List.replicate n (0 : Int)).set (n - 1) 1
def uses (g : List Rl) : List Int := usesFrom g g.length (us0 g.length)
section
variable {g : List Rl} {i : Nat} {o : List Int} {a b : Nat} {lt tm : Int}
theorem ust_letter (hr : g[i]? = some ⟨1, lt, 0, 0, 0⟩) : ust g i o = o := by unfold ust; rw [hr]; rfl
theorem ust_pair (hr : g[i]? = some ⟨2, 0, (a : Int) + 1, (b : Int) + 1, 0⟩) : ust g i o = up (up o a (o.getD i 0)) b (o.getD i 0) := by
  unfold ust; rw [hr]
  show up (up o ((a : Int) + 1 - 1).toNat (o.getD i 0)) ((b : Int) + 1 - 1).toNat (o.getD i 0) = _
  rw [show ((a : Int) + 1 - 1).toNat = a by omega, show ((b : Int) + 1 - 1).toNat = b by omega]
theorem ust_power (hr : g[i]? = some ⟨3, 0, (a : Int) + 1, 0, tm⟩) : ust g i o = up o a (o.getD i 0 * tm) := by
  unfold ust; rw [hr]
  show up o ((a : Int) + 1 - 1).toNat (o.getD i 0 * tm) = _
  rw [show ((a : Int) + 1 - 1).toNat = a by omega]
end
/-- the length of the whole text -/
def tot (g : List Rl) : Int := if g.length = 0 then 0 else ln g (g.length - 1)
theorem inv_start (g : List Rl) (hg : gcode 0 g = 0) : UInv g g.length (tot g) g.length (us0 g.length) := by
  by_cases h0 : g.length = 0
  · have e : us0 g.length = [] := by rw [h0]; rfl
    have t : tot g = 0 := if_pos h0
    rw [e, t]
    exact ⟨h0.symm, fun j => by simp, fun j => by simp, by rw [h0]; rfl⟩
  · obtain ⟨m, hm⟩ : ∃ m, g.length = m + 1 := ⟨g.length - 1, by omega⟩
    have t : tot g = ln g m := by unfold tot; rw [if_neg h0, hm]; rfl
    have gd : ∀ j, (us0 g.length).getD j 0 = if j = m then 1 else 0 := by
      intro j
      unfold us0
      rw [hm, Nat.add_sub_cancel, lset_getD (by simp)]
      by_cases e : j = m
      · rw [if_pos e, if_pos e]
      · rw [if_neg e, if_neg e, List.getD_eq_getElem?_getD, List.getElem?_replicate]; split <;> rfl
    have p1 : 1 ≤ ln g m := by
      have := tx_pos hg m _ (List.getElem?_eq_getElem (show m < g.length by omega)); unfold ln; omega
    rw [t]
    refine ⟨by unfold us0; simp, fun j => by rw [gd]; split <;> omega, fun j => by rw [gd]; split <;> omega, ?_⟩
    rw [sm_congr (f' := fun j => if j = m then ln g m else 0) g.length (fun j hj => ?_), sm_one m _ _ (by omega)]
    rw [gd, mul_if]
    by_cases e : j = m
    · subst e; rw [if_pos rfl, if_pos rfl, Int.one_mul]; exact if_pos hj
    · rw [if_neg e, if_neg e]
theorem inv_uses (g : List Rl) (hg : gcode 0 g = 0) : UInv g g.length (tot g) 0 (uses g) := by
  have key : ∀ (i : Nat) (o : List Int), i ≤ g.length → UInv g g.length (tot g) i o → UInv g g.length (tot g) 0 (usesFrom g i o) := by
    intro i
    induction i with
    | zero => intro o _ h; exact h
    | succ i ih =>
      intro o hi h
      refine ih _ (by omega) ?_
      have hr : g[i]? = some (g[i]'(by omega)) := List.getElem?_eq_getElem _
      rcases rule_way' hg hr with ⟨lt, e⟩ | ⟨a, b, e, ha, hb⟩ | ⟨a, tm, e, ha, ht⟩
      · rw [e] at hr; rw [ust_letter hr]; exact h.letter hr
      · rw [e] at hr; rw [ust_pair hr]; exact h.pair hg rfl hr ha hb
      · rw [e] at hr; rw [ust_power hr]; exact h.power hg rfl hr ha ht
  exact key _ _ (Nat.le_refl _) (inv_start g hg)
theorem lens_le {g : List Rl} (h0 : (lens g).2 = 0) {i : Nat} (hi : i < g.length) : ln g i ≤ 1152921504606846976 := by
  have hg := lens_g h0
  have hr : g[i]? = some (g[i]'hi) := List.getElem?_eq_getElem _
  have h1 := (lens_text hg h0).2 i _ hr
  rw [lens_ok hg] at h0 h1
  obtain ⟨L, hL⟩ : ∃ L, lensFrom [] g = (L, 0) := ⟨(lensFrom [] g).1, by rw [← h0]⟩
  rw [hL] at h1
  obtain ⟨h2, h3⟩ := lens_at g [] L hL
  have h4 := fwd_at0 (f := fun acc r => (len1 acc r).1) g i _ hr
  rw [← h2] at h4
  have h5 := h3 i _ hr
  rw [List.length_nil, Nat.zero_add] at h5
  have h6 : (len1 (L.take i) g[i]).1 ≤ 1152921504606846976 := by
    unfold len1 at h5 ⊢
    split
    · rename_i q; rw [if_pos q] at h5
      unfold lenAdd at h5 ⊢
      split
      · rename_i q1; rw [if_pos q1] at h5
        split
        · assumption
        · rename_i q2; rw [if_neg q2] at h5; simp at h5
      · rename_i q1; rw [if_neg q1] at h5; simp at h5
    · rename_i q; rw [if_neg q] at h5
      split
      · rename_i q; rw [if_pos q] at h5
        unfold lenMul at h5 ⊢
        split
        · rename_i q1; rw [if_pos q1] at h5
          split
          · assumption
          · rename_i q2; rw [if_neg q2] at h5; simp at h5
        · rename_i q1; rw [if_neg q1] at h5; simp at h5
      · simp
  have h7 : L.getD i 0 = (len1 (L.take i) g[i]).1 := by rw [List.getD_eq_getElem?_getD, h4]; rfl
  unfold ln
  rw [← h1]
  show L.getD i 0 ≤ _
  rw [h7]; exact h6
theorem tot_le {g : List Rl} (h0 : (lens g).2 = 0) : tot g ≤ 1152921504606846976 := by
  unfold tot; split
  · omega
  · exact lens_le h0 (by omega)
end Go.Proofs.Ytcbahojefglakaa
/- The walk of grammar.Uses. Written by wip/gen/gruses.py. -/
namespace Go.Proofs.Ytcbahojefglakaa
set_option linter.unusedVariables false
set_option linter.unusedSimpArgs false
open Go.RowKit Go.Lib
attribute [local go_sem ↓] Go.wp_at_zero Go.wp_at_succ
theorem arr_vi (n : Nat) : arr [] n = (vi (List.replicate n 0)).toArray := by simp [arr]
theorem via_set (l : List Int) (a : Nat) (v : Int) : ((vi l).toArray).setIfInBounds a (.int .i64 v) = (vi (l.set a v)).toArray := by
  rw [List.setIfInBounds_toArray]; simp [vi, List.map_set]
theorem via_at {l : List Int} {k : Nat} (h : k < l.length) : (vi l).toArray[k]? = some (.int .i64 (l.getD k 0)) := by
  rw [List.getElem?_toArray, vi_get h, List.getD_eq_getElem?_getD, List.getElem?_eq_getElem h]; rfl
set_option maxRecDepth 100000 in
set_option maxHeartbeats 8000000 in
theorem uses_ok (g : List Rl) (n c : Nat) (A : Option Addr) (hl : g.length = n) (hn : n ≤ 1000000) (h0 : gcode 0 g = 0) (T : Int) (hT : T = tot g) (hTle : T ≤ 1152921504606846976) (cells : List Value) (hcells : cells = gc g) (L : List Int)
    (HC : Hid (∀ w, RowAt w A cells → Calls Try.prog 45 #[.slice A n c] w (IntsOut L .nilIface w))) (w : World) (ha : RowAt w A cells) :
    Calls Try.prog 26 #[.slice A n c] w (IntsOut (uses g) .nilIface w) := by
  obtain ⟨U, hU⟩ : ∃ U, U = uses g := ⟨_, rfl⟩
  rw [← hU]
  have hst : usesFrom g n (us0 n) = U ∧ UInv g n T n (us0 n) := by
    have := inv_start g h0
    rw [hl, ← hT] at this
    exact ⟨by rw [hU]; unfold uses; rw [hl], this⟩
  have HA := Lib.hid ha; have HL := Lib.hid hl; have H0 := Lib.hid h0; have HS := Lib.hid hst; have HCE := Lib.hid hcells
  clear ha hl h0 hU hcells hst hT
  go_enter Try.func26, Try.ntmps26
  go_wp2_with fail
  (with_reducible refine (HC.out _ HA.out).mono ?_)
  rintro e w1 ⟨A1, c1, rfl, R1, B1⟩
  have BW1 := Lib.hid B1
  have HA1 := Lib.hid (HCE.out ▸ HA.out.below B1 (Nat.le_refl _))
  have mk := fun w => mk_ints n (by omega) w
  clear R1 B1
  go_wp2_with fail
  clear mk
  have BG := Lib.hid (Box.new w1 3 (arr [] n))
  rw [arr_vi] at BG ⊢
  have zg : w.heap.size ≤ w1.heap.size := BW1.out.size
  go_loopw [7, 8] (fun si _ wr => ∃ (k : Int) (i : Nat) (o m : List Int), si = .int .i64 k ∧ k + 1 = i ∧ i ≤ n ∧ Hid (usesFrom g i o = U ∧ UInv g n T i o) ∧ Hid ((i = n → m = List.replicate n 0 ∧ o = us0 n) ∧ (i ≠ n → m = o)) ∧ Hid (Box wr w1.heap.size 3 (vi m).toArray) ∧ Hid (Below w1.heap.size w1 wr)) (fun si _ _ => (intOf si + 1).toNat)
  case atStart => exact ⟨(n : Int) - 1, n, us0 n, List.replicate n 0, by go_num, by omega, Nat.le_refl _, HS, Lib.hid ⟨fun _ => ⟨rfl, rfl⟩, fun h => absurd rfl h⟩, BG, Lib.hid ((Below.refl w1.heap.size w1).alloc (Nat.le_refl _) _)⟩
  case round =>
    obtain ⟨k, i, o, m, rfl, hk, hi, HG, HM, HB, BW⟩ := hrel
    by_cases hz : i = 0
    · obtain rfl : k = -1 := by omega
      have HG2 : Hid (m = U ∧ U.length = n) := Lib.hid (by
        have h1 := HG.out.1; have h2 := HG.out.2.len
        subst hz
        have h1 : o = U := h1
        by_cases hn0 : 0 = n
        · have h3 := HM.out.1 hn0
          have e : us0 n = List.replicate n 0 := by rw [← hn0]; rfl
          rw [e] at h3
          exact ⟨by rw [h3.1, ← h3.2, h1], by rw [← h1, h2]⟩
        · exact ⟨(HM.out.2 hn0).trans h1, by rw [← h1, h2]⟩)
      go_wp2_with fail
      go_ret2
      refine ⟨some ⟨w1.heap.size, 0, none⟩, n, by rw [HG2.out.2]; rfl, by rw [← HG2.out.1]; exact RowAt.of_block HB.out, ?_⟩
      exact BW1.out.trans (BW.out.mono BW1.out.size)
    · obtain ⟨j, rfl⟩ : ∃ j, i = j + 1 := ⟨i - 1, by omega⟩
      obtain rfl : k = (j : Int) := by omega
      clear hk hz
      have hjl : j < g.length := by rw [HL.out]; exact hi
      obtain ⟨r, hr⟩ : ∃ r, g[j]? = some r := ⟨_, List.getElem?_eq_getElem hjl⟩
      have HR := Lib.hid hr
      have j0 : (0 : Int) ≤ j := by omega
      have j1 : (j : Int) < (n : Int) := by omega
      have zw : w1.heap.size < wr.heap.size := HB.out.lt
      have zn : w1.heap.size ≠ wr.heap.size := by omega
      have wj : IntKind.i64.wrap (j : Int) = j := IntWalk.i64_in _ ⟨by omega, by omega⟩
      obtain ⟨x, hx⟩ : ∃ x, x = o.getD j 0 := ⟨_, rfl⟩
      have HX := Lib.hid hx
      have xlo : 0 ≤ x := by rw [hx]; exact HG.out.2.pos j
      have xhi : x ≤ T := by rw [hx]; exact HG.out.2.le j
      clear hr hx
      by_cases hjn : j + 1 = n
      · have q1 : ((j : Int) == (n : Int) - 1) = true := by rw [beq_iff_eq]; omega
        have v0 : wr.cell? ⟨w1.heap.size, j, none⟩ = some (.int .i64 0) := (HB.out.cell j).trans (by rw [(HM.out.1 hjn).1, via_at (by simp; omega), List.getD_eq_getElem?_getD, List.getElem?_replicate, if_pos (by omega)]; rfl)
        have f0 := HB.out.free j
        obtain ⟨wq, hwq⟩ : ∃ wq, wq = (wr.setCell ⟨w1.heap.size, j, none⟩ (.int .i64 1)) := ⟨_, rfl⟩
        have HB1 : Hid (Box wq w1.heap.size 3 (vi o).toArray) := Lib.hid (by
          rw [hwq]
          have h1 := HB.out.set_ j (.int .i64 1)
          rw [via_set, (HM.out.1 hjn).1] at h1
          rw [(HM.out.1 hjn).2]
          have e : us0 n = (List.replicate n 0).set j 1 := by unfold us0; rw [← hjn, Nat.add_sub_cancel]
          rw [e]; exact h1)
        have BW1_ : Hid (Below w1.heap.size w1 wq) := Lib.hid (hwq ▸ BW.out.setCell (p := ⟨w1.heap.size, j, none⟩) (Nat.le_refl _) (.int .i64 1))
        go_upto_region 10 with fail
        rw [← hwq]
        clear hwq v0 f0 zw zn HB
        have zw : w1.heap.size < wq.heap.size := HB1.out.lt
        have zn : w1.heap.size ≠ wq.heap.size := by omega
        clear HM
        have hway := rule_way H0.out HR.out
        obtain ⟨ad, rfl, hadl, c0, c1, c2, c3, c4⟩ := row_rl (HA1.out.below BW1_.out (Nat.le_refl _)) HR.out
        obtain ⟨kd, lt, lf, rg, tm⟩ := r
        simp only at c0 c1 c2 c3 c4 hway
        rcases hway with ⟨rfl, rfl, rfl, rfl⟩ | ⟨rfl, rfl, rfl, p1, p2, q1_, q2_⟩ | ⟨rfl, rfl, rfl, t2, p1, p2⟩
        · have HG2 : Hid (usesFrom g j o = U ∧ UInv g n T j o) := Lib.hid ⟨by have := HG.out.1; rw [show usesFrom g (j + 1) o = usesFrom g j (ust g j o) from rfl, ust_letter HR.out] at this; exact this, HG.out.2.letter HR.out⟩
          go_wp2_with fail
          go_roundw
          case rel => exact ⟨(j : Int) - 1, j, o, o, by go_num, by omega, by omega, HG2, Lib.hid ⟨fun h => absurd h (by omega), fun _ => rfl⟩, Lib.hid (HB1.out.alloc _), Lib.hid (balloc BW1_.out _)⟩
          case measure => simp [intOf] <;> omega
        · obtain ⟨a, rfl⟩ : ∃ a : Nat, lf = (a : Int) + 1 := ⟨(lf - 1).toNat, by omega⟩
          obtain ⟨b, rfl⟩ : ∃ b : Nat, rg = (b : Int) + 1 := ⟨(rg - 1).toNat, by omega⟩
          have ai : a < j := by omega
          have an : (a : Int) < n := by omega
          have a0 : (0 : Int) ≤ a := by omega
          have wa : IntKind.i64.wrap (a : Int) = a := IntWalk.i64_in _ ⟨by omega, by omega⟩
          have bi : b < j := by omega
          have bn : (b : Int) < n := by omega
          have b0 : (0 : Int) ≤ b := by omega
          have wb : IntKind.i64.wrap (b : Int) = b := IntWalk.i64_in _ ⟨by omega, by omega⟩
          have HN : Hid (UInv g n T j (up (up o a x) b x)) := Lib.hid (by rw [HX.out]; exact HG.out.2.pair H0.out HL.out HR.out ai bi)
          have HG2 : Hid (usesFrom g j (up (up o a x) b x) = U) := Lib.hid (by have := HG.out.1; rw [show usesFrom g (j + 1) o = usesFrom g j (ust g j o) from rfl, ust_pair HR.out, ← HX.out] at this; exact this)
          have hol : o.length = n := HG.out.2.len
          obtain ⟨p, hp⟩ : ∃ p, p = o.getD a 0 := ⟨_, rfl⟩
          have hpa : (vi o).toArray[a]? = some (.int .i64 p) := by rw [hp]; exact via_at (by omega)
          have hpj : (vi o).toArray[j]? = some (.int .i64 x) := by rw [HX.out]; exact via_at (by omega)
          have plo : 0 ≤ p := by rw [hp]; exact HG.out.2.pos a
          obtain ⟨o1, ho1⟩ : ∃ o1, o1 = up o a x := ⟨_, rfl⟩
          have ho1l : o1.length = n := by rw [ho1, up_len, hol]
          have e1 : ∀ k, o1.getD k 0 = o.getD k 0 + if k = a then x else 0 := fun k => by rw [ho1]; exact up_at (by omega)
          have e2 : ∀ k, (up o1 b x).getD k 0 = o1.getD k 0 + if k = b then x else 0 := fun k => up_at (by omega)
          rw [← ho1] at HN HG2
          have hpx : p + x ≤ T := by have h1 := HN.out.le a; rw [e2, e1, if_pos rfl, ← hp] at h1; split at h1 <;> omega
          have hs1 : o.set a (p + x) = o1 := by rw [ho1, hp]; rfl
          obtain ⟨q, hq⟩ : ∃ q, q = o1.getD b 0 := ⟨_, rfl⟩
          have qlo : 0 ≤ q := by rw [hq, e1]; have := HG.out.2.pos b; split <;> omega
          have hqx : q + x ≤ T := by have h1 := HN.out.le b; rw [e2, if_pos rfl, ← hq] at h1; exact h1
          have hs2 : o1.set b (q + x) = up o1 b x := by rw [hq]; rfl
          have hqb : (vi o1).toArray[b]? = some (.int .i64 q) := by rw [hq]; exact via_at (by omega)
          have hqj : (vi o1).toArray[j]? = some (.int .i64 x) := by rw [via_at (by omega), e1, if_neg (by omega), ← HX.out]; simp
          clear e1 e2 ho1 hp hq
          obtain ⟨v1, hv1⟩ : ∃ v1, v1 = p + x := ⟨_, rfl⟩
          have wv1 : IntKind.i64.wrap (p + x) = v1 := by rw [hv1]; exact IntWalk.i64_in _ ⟨by omega, by omega⟩
          obtain ⟨v2, hv2⟩ : ∃ v2, v2 = q + x := ⟨_, rfl⟩
          have wv2 : IntKind.i64.wrap (q + x) = v2 := by rw [hv2]; exact IntWalk.i64_in _ ⟨by omega, by omega⟩
          rw [← hv1] at hs1; rw [← hv2] at hs2
          have HBw := Lib.hid (HB1.out.alloc (.cells #[.int .i64 2, .int .u8 0, .int .i64 ((a : Int) + 1), .int .i64 ((b : Int) + 1), .int .i64 0] 46))
          have BX := Box.new wq 46 #[.int .i64 2, .int .u8 0, .int .i64 ((a : Int) + 1), .int .i64 ((b : Int) + 1), .int .i64 0]
          have BW0 := balloc BW1_.out (.cells #[.int .i64 2, .int .u8 0, .int .i64 ((a : Int) + 1), .int .i64 ((b : Int) + 1), .int .i64 0] 46)
          have hR : wq.heap.size ≠ w1.heap.size := by have := HB1.out.lt; omega
          clear hv1 hv2
          go_upto_region 13 with fail
          refine Rs.region_st (sx := 12) (px := ⟨w1.heap.size, a, none⟩) (ux := (.int .i64 v1)) (bs := [true, true, true, true, true, true, true, true, true, true, true, true, true]) (.val (fun v _ => v = .slice (some ⟨w1.heap.size, 0, none⟩) n n) :: .val (fun v _ => v = .pointer (some ⟨wq.heap.size, 2, none⟩)) :: .val (fun v _ => v = .int .i64 ((a : Int) + 1)) :: .val (fun v _ => v = .int .i64 (a : Int)) :: .val (fun v _ => v = .pointer (some ⟨w1.heap.size, a, none⟩)) :: .val (fun v _ => v = .int .i64 p) :: .val (fun v _ => v = .slice (some ⟨w1.heap.size, 0, none⟩) n n) :: .val (fun v _ => v = .int .i64 (j : Int)) :: .val (fun v _ => v = .pointer (some ⟨w1.heap.size, j, none⟩)) :: .val (fun v _ => v = .int .i64 x) :: .val (fun v _ => v = .int .i64 v1) :: .val (fun v _ => v = .pointer (some ⟨w1.heap.size, a, none⟩)) :: .st ⟨w1.heap.size, a, none⟩ ((.int .i64 v1)) :: [])
            ([] :: [] :: [(44, 1)] :: [(45, 2)] :: [(43, 0), (46, 3)] :: [(47, 4)] :: [] :: [] :: [(49, 6), (50, 7)] :: [(51, 8)] :: [(48, 5), (52, 9)] :: [(43, 0), (46, 3)] :: [(54, 11), (53, 10)] :: []) ((0, 0) :: (0, 0) :: (0, 0) :: (0, 0) :: (0, 0) :: (0, 0) :: (0, 0) :: (0, 0) :: (0, 0) :: (0, 0) :: (0, 0) :: (0, 0) :: (3, 0) :: []) 85 (by kernel_rfl) rfl rfl (by kernel_rfl) (by kernel_rfl) rfl (by first | omega | (simp; omega)) ⟨⟨rfl, rfl⟩, trivial⟩ (by decide) ⟨⟨Rs.Stab.pure _ _ _, fun _ _ h => h⟩, ⟨Rs.Stab.pure _ _ _, fun _ _ h => h⟩, ⟨Rs.Stab.pure _ _ _, fun _ _ h => h⟩, ⟨Rs.Stab.pure _ _ _, fun _ _ h => h⟩, ⟨Rs.Stab.pure _ _ _, fun _ _ h => h⟩, ⟨Rs.Stab.pure _ _ _, fun _ _ h => h⟩, ⟨Rs.Stab.pure _ _ _, fun _ _ h => h⟩, ⟨Rs.Stab.pure _ _ _, fun _ _ h => h⟩, ⟨Rs.Stab.pure _ _ _, fun _ _ h => h⟩, ⟨Rs.Stab.pure _ _ _, fun _ _ h => h⟩, ⟨Rs.Stab.pure _ _ _, fun _ _ h => h⟩, ⟨Rs.Stab.pure _ _ _, fun _ _ h => h⟩, trivial⟩ ⟨?_, ?_, ?_, ?_, ?_, ?_, ?_, ?_, ?_, ?_, ?_, ?_, ?_, trivial⟩ ?_
          · intro wx hb0
            have hb : Below _ _ wx := hb0
            intro K hK
            go_simp
            exact hK _ _ rfl ⟨rfl, Below.refl _ _⟩
          · intro wx hb0
            have hb : Below _ _ wx := hb0
            intro K hK
            go_simp
            exact hK _ _ rfl ⟨rfl, Below.refl _ _⟩
          · intro wx hb0
            have hb : Below _ _ wx := hb0
            rintro _ rfl
            intro K hK
            have mm := Box.below (BX) hb (Box.lt (BX))
            have m0 : wx.cell? ⟨wq.heap.size, 0, none⟩ = some (.int .i64 2) := mm.cell 0
            have m1 : wx.cell? ⟨wq.heap.size, 1, none⟩ = some (.int .u8 0) := mm.cell 1
            have m2 : wx.cell? ⟨wq.heap.size, 2, none⟩ = some (.int .i64 ((a : Int) + 1)) := mm.cell 2
            have m3 : wx.cell? ⟨wq.heap.size, 3, none⟩ = some (.int .i64 ((b : Int) + 1)) := mm.cell 3
            have m4 : wx.cell? ⟨wq.heap.size, 4, none⟩ = some (.int .i64 0) := mm.cell 4
            clear mm
            go_simp
            exact hK _ _ rfl ⟨rfl, Below.refl _ _⟩
          · intro wx hb0
            have hb : Below _ _ wx := hb0
            rintro _ rfl
            intro K hK
            go_simp
            exact hK _ _ rfl ⟨rfl, Below.refl _ _⟩
          · intro wx hb0
            have hb : Below _ _ wx := hb0
            rintro _ rfl
            rintro _ rfl
            intro K hK
            go_simp
            exact hK _ _ rfl ⟨rfl, Below.refl _ _⟩
          · intro wx hb0
            have hb : Below _ _ wx := hb0
            rintro _ rfl
            intro K hK
            have zz := (hb.cell (p := ⟨w1.heap.size, a, none⟩) HBw.out.lt).trans ((HBw.out.cell a).trans hpa); go_simp; exact hK _ _ rfl ⟨rfl, Below.refl _ _⟩
          · intro wx hb0
            have hb : Below _ _ wx := hb0
            intro K hK
            go_simp
            exact hK _ _ rfl ⟨rfl, Below.refl _ _⟩
          · intro wx hb0
            have hb : Below _ _ wx := hb0
            intro K hK
            go_simp
            exact hK _ _ rfl ⟨rfl, Below.refl _ _⟩
          · intro wx hb0
            have hb : Below _ _ wx := hb0
            rintro _ rfl
            rintro _ rfl
            intro K hK
            go_simp
            exact hK _ _ rfl ⟨rfl, Below.refl _ _⟩
          · intro wx hb0
            have hb : Below _ _ wx := hb0
            rintro _ rfl
            intro K hK
            have zz := (hb.cell (p := ⟨w1.heap.size, j, none⟩) HBw.out.lt).trans ((HBw.out.cell j).trans hpj); go_simp; exact hK _ _ rfl ⟨rfl, Below.refl _ _⟩
          · intro wx hb0
            have hb : Below _ _ wx := hb0
            rintro _ rfl
            rintro _ rfl
            intro K hK
            go_simp
            exact hK _ _ rfl ⟨rfl, Below.refl _ _⟩
          · intro wx hb0
            have hb : Below _ _ wx := hb0
            rintro _ rfl
            rintro _ rfl
            intro K hK
            go_simp
            exact hK _ _ rfl ⟨rfl, Below.refl _ _⟩
          · intro wx hb0
            have hb : Below _ _ wx := hb0
            rintro _ rfl
            rintro _ rfl
            intro K hK
            have zc := (hb.cell (p := ⟨w1.heap.size, a, none⟩) HBw.out.lt).trans ((HBw.out.cell a).trans hpa); have zf := (Box.below HBw.out hb HBw.out.lt).free a
            go_simp
            exact hK _ _ rfl rfl
          intro w3 B3
          rintro _ rfl
          rintro _ rfl
          rintro _ rfl
          rintro _ rfl
          rintro _ rfl
          rintro _ rfl
          rintro _ rfl
          rintro _ rfl
          rintro _ rfl
          rintro _ rfl
          rintro _ rfl
          rintro _ rfl
          rintro -
          simp only [Act.put, List.setIfInBounds_toArray, List.set_cons_zero, List.set_cons_succ, List.toList_toArray, List.length_cons, List.length_nil, List.drop_succ_cons, List.drop_zero, List.drop_nil, Nat.zero_add, wpList]
          have HB3 : Hid (Box w3 w1.heap.size 3 (vi (o.set a v1)).toArray) := Lib.hid (by
            have h1 := HBw.out.set_ a (.int .i64 v1)
            rw [via_set] at h1
            exact h1.below B3 HBw.out.lt)
          rw [hs1] at HB3
          have BW3 := (BW0.setCell (p := ⟨w1.heap.size, a, none⟩) (Nat.le_refl _) (.int .i64 v1)).trans (B3.mono BW0.size)
          have BX3 := (BX.far (p := ⟨w1.heap.size, a, none⟩) hR (.int .i64 v1)).below B3 BX.lt
          clear B3 BW0 BX hpa hpj HBw
          have zw3 : w1.heap.size < w3.heap.size := HB3.out.lt
          go_upto_region 14 with fail
          refine Rs.region_st (sx := 12) (px := ⟨w1.heap.size, b, none⟩) (ux := (.int .i64 v2)) (bs := [true, true, true, true, true, true, true, true, true, true, true, true, true]) (.val (fun v _ => v = .slice (some ⟨w1.heap.size, 0, none⟩) n n) :: .val (fun v _ => v = .pointer (some ⟨wq.heap.size, 3, none⟩)) :: .val (fun v _ => v = .int .i64 ((b : Int) + 1)) :: .val (fun v _ => v = .int .i64 (b : Int)) :: .val (fun v _ => v = .pointer (some ⟨w1.heap.size, b, none⟩)) :: .val (fun v _ => v = .int .i64 q) :: .val (fun v _ => v = .slice (some ⟨w1.heap.size, 0, none⟩) n n) :: .val (fun v _ => v = .int .i64 (j : Int)) :: .val (fun v _ => v = .pointer (some ⟨w1.heap.size, j, none⟩)) :: .val (fun v _ => v = .int .i64 x) :: .val (fun v _ => v = .int .i64 v2) :: .val (fun v _ => v = .pointer (some ⟨w1.heap.size, b, none⟩)) :: .st ⟨w1.heap.size, b, none⟩ ((.int .i64 v2)) :: [])
            ([] :: [] :: [(56, 1)] :: [(57, 2)] :: [(55, 0), (58, 3)] :: [(59, 4)] :: [] :: [] :: [(61, 6), (62, 7)] :: [(63, 8)] :: [(60, 5), (64, 9)] :: [(55, 0), (58, 3)] :: [(66, 11), (65, 10)] :: []) ((0, 0) :: (0, 0) :: (0, 0) :: (0, 0) :: (0, 0) :: (0, 0) :: (0, 0) :: (0, 0) :: (0, 0) :: (0, 0) :: (0, 0) :: (0, 0) :: (3, 0) :: []) 85 (by kernel_rfl) rfl rfl (by kernel_rfl) (by kernel_rfl) rfl (by first | omega | (simp; omega)) ⟨⟨rfl, rfl⟩, trivial⟩ (by decide) ⟨⟨Rs.Stab.pure _ _ _, fun _ _ h => h⟩, ⟨Rs.Stab.pure _ _ _, fun _ _ h => h⟩, ⟨Rs.Stab.pure _ _ _, fun _ _ h => h⟩, ⟨Rs.Stab.pure _ _ _, fun _ _ h => h⟩, ⟨Rs.Stab.pure _ _ _, fun _ _ h => h⟩, ⟨Rs.Stab.pure _ _ _, fun _ _ h => h⟩, ⟨Rs.Stab.pure _ _ _, fun _ _ h => h⟩, ⟨Rs.Stab.pure _ _ _, fun _ _ h => h⟩, ⟨Rs.Stab.pure _ _ _, fun _ _ h => h⟩, ⟨Rs.Stab.pure _ _ _, fun _ _ h => h⟩, ⟨Rs.Stab.pure _ _ _, fun _ _ h => h⟩, ⟨Rs.Stab.pure _ _ _, fun _ _ h => h⟩, trivial⟩ ⟨?_, ?_, ?_, ?_, ?_, ?_, ?_, ?_, ?_, ?_, ?_, ?_, ?_, trivial⟩ ?_
          · intro wx hb0
            have hb : Below _ _ wx := hb0
            intro K hK
            go_simp
            exact hK _ _ rfl ⟨rfl, Below.refl _ _⟩
          · intro wx hb0
            have hb : Below _ _ wx := hb0
            intro K hK
            go_simp
            exact hK _ _ rfl ⟨rfl, Below.refl _ _⟩
          · intro wx hb0
            have hb : Below _ _ wx := hb0
            rintro _ rfl
            intro K hK
            have mm := Box.below (BX3) hb (Box.lt (BX3))
            have m0 : wx.cell? ⟨wq.heap.size, 0, none⟩ = some (.int .i64 2) := mm.cell 0
            have m1 : wx.cell? ⟨wq.heap.size, 1, none⟩ = some (.int .u8 0) := mm.cell 1
            have m2 : wx.cell? ⟨wq.heap.size, 2, none⟩ = some (.int .i64 ((a : Int) + 1)) := mm.cell 2
            have m3 : wx.cell? ⟨wq.heap.size, 3, none⟩ = some (.int .i64 ((b : Int) + 1)) := mm.cell 3
            have m4 : wx.cell? ⟨wq.heap.size, 4, none⟩ = some (.int .i64 0) := mm.cell 4
            clear mm
            go_simp
            exact hK _ _ rfl ⟨rfl, Below.refl _ _⟩
          · intro wx hb0
            have hb : Below _ _ wx := hb0
            rintro _ rfl
            intro K hK
            go_simp
            exact hK _ _ rfl ⟨rfl, Below.refl _ _⟩
          · intro wx hb0
            have hb : Below _ _ wx := hb0
            rintro _ rfl
            rintro _ rfl
            intro K hK
            go_simp
            exact hK _ _ rfl ⟨rfl, Below.refl _ _⟩
          · intro wx hb0
            have hb : Below _ _ wx := hb0
            rintro _ rfl
            intro K hK
            have zz := (hb.cell (p := ⟨w1.heap.size, b, none⟩) HB3.out.lt).trans ((HB3.out.cell b).trans hqb); go_simp; exact hK _ _ rfl ⟨rfl, Below.refl _ _⟩
          · intro wx hb0
            have hb : Below _ _ wx := hb0
            intro K hK
            go_simp
            exact hK _ _ rfl ⟨rfl, Below.refl _ _⟩
          · intro wx hb0
            have hb : Below _ _ wx := hb0
            intro K hK
            go_simp
            exact hK _ _ rfl ⟨rfl, Below.refl _ _⟩
          · intro wx hb0
            have hb : Below _ _ wx := hb0
            rintro _ rfl
            rintro _ rfl
            intro K hK
            go_simp
            exact hK _ _ rfl ⟨rfl, Below.refl _ _⟩
          · intro wx hb0
            have hb : Below _ _ wx := hb0
            rintro _ rfl
            intro K hK
            have zz := (hb.cell (p := ⟨w1.heap.size, j, none⟩) HB3.out.lt).trans ((HB3.out.cell j).trans hqj); go_simp; exact hK _ _ rfl ⟨rfl, Below.refl _ _⟩
          · intro wx hb0
            have hb : Below _ _ wx := hb0
            rintro _ rfl
            rintro _ rfl
            intro K hK
            go_simp
            exact hK _ _ rfl ⟨rfl, Below.refl _ _⟩
          · intro wx hb0
            have hb : Below _ _ wx := hb0
            rintro _ rfl
            rintro _ rfl
            intro K hK
            go_simp
            exact hK _ _ rfl ⟨rfl, Below.refl _ _⟩
          · intro wx hb0
            have hb : Below _ _ wx := hb0
            rintro _ rfl
            rintro _ rfl
            intro K hK
            have zc := (hb.cell (p := ⟨w1.heap.size, b, none⟩) HB3.out.lt).trans ((HB3.out.cell b).trans hqb); have zf := (Box.below HB3.out hb HB3.out.lt).free b
            go_simp
            exact hK _ _ rfl rfl
          intro w4 B4
          rintro _ rfl
          rintro _ rfl
          rintro _ rfl
          rintro _ rfl
          rintro _ rfl
          rintro _ rfl
          rintro _ rfl
          rintro _ rfl
          rintro _ rfl
          rintro _ rfl
          rintro _ rfl
          rintro _ rfl
          rintro -
          simp only [Act.put, List.setIfInBounds_toArray, List.set_cons_zero, List.set_cons_succ, List.toList_toArray, List.length_cons, List.length_nil, List.drop_succ_cons, List.drop_zero, List.drop_nil, Nat.zero_add, wpList]
          have HB4 : Hid (Box w4 w1.heap.size 3 (vi (o1.set b v2)).toArray) := Lib.hid (by
            have h1 := HB3.out.set_ b (.int .i64 v2)
            rw [via_set] at h1
            exact h1.below B4 HB3.out.lt)
          rw [hs2] at HB4
          have BW4 := Lib.hid ((BW3.setCell (p := ⟨w1.heap.size, b, none⟩) (Nat.le_refl _) (.int .i64 v2)).trans (B4.mono BW3.size))
          clear B4 BW3 BX3
          go_wp2_with fail
          go_roundw
          case rel => exact ⟨(j : Int) - 1, j, (up o1 b x), (up o1 b x), by go_num, by omega, by omega, Lib.hid ⟨HG2.out, HN.out⟩, Lib.hid ⟨fun h => absurd h (by omega), fun _ => rfl⟩, HB4, BW4⟩
          case measure => simp [intOf] <;> omega
        · obtain ⟨a, rfl⟩ : ∃ a : Nat, lf = (a : Int) + 1 := ⟨(lf - 1).toNat, by omega⟩
          have ai : a < j := by omega
          have an : (a : Int) < n := by omega
          have a0 : (0 : Int) ≤ a := by omega
          have wa : IntKind.i64.wrap (a : Int) = a := IntWalk.i64_in _ ⟨by omega, by omega⟩
          have HN : Hid (UInv g n T j (up o a (x * tm))) := Lib.hid (by rw [HX.out]; exact HG.out.2.power H0.out HL.out HR.out ai t2)
          have HG2 : Hid (usesFrom g j (up o a (x * tm)) = U) := Lib.hid (by have := HG.out.1; rw [show usesFrom g (j + 1) o = usesFrom g j (ust g j o) from rfl, ust_power HR.out, ← HX.out] at this; exact this)
          have hol : o.length = n := HG.out.2.len
          obtain ⟨p, hp⟩ : ∃ p, p = o.getD a 0 := ⟨_, rfl⟩
          have hpa : (vi o).toArray[a]? = some (.int .i64 p) := by rw [hp]; exact via_at (by omega)
          have hpj : (vi o).toArray[j]? = some (.int .i64 x) := by rw [HX.out]; exact via_at (by omega)
          have plo : 0 ≤ p := by rw [hp]; exact HG.out.2.pos a
          have e1 : ∀ k, (up o a (x * tm)).getD k 0 = o.getD k 0 + if k = a then x * tm else 0 := fun k => up_at (by omega)
          have hpx : p + x * tm ≤ T := by have h1 := HN.out.le a; rw [e1, if_pos rfl, ← hp] at h1; exact h1
          have xtm : 0 ≤ x * tm := Int.mul_nonneg xlo (by omega)
          have hs1 : o.set a (p + x * tm) = up o a (x * tm) := by rw [hp]; rfl
          clear e1 hp
          obtain ⟨y, hy⟩ : ∃ y, y = x * tm := ⟨_, rfl⟩
          rw [← hy] at hpx xtm hs1 HN HG2
          have wy : IntKind.i64.wrap (x * tm) = y := by rw [← hy]; exact IntWalk.i64_in _ ⟨by omega, by omega⟩
          obtain ⟨v1, hv1⟩ : ∃ v1, v1 = p + y := ⟨_, rfl⟩
          have wv1 : IntKind.i64.wrap (p + y) = v1 := by rw [hv1]; exact IntWalk.i64_in _ ⟨by omega, by omega⟩
          rw [← hv1] at hs1
          have HBw := Lib.hid (HB1.out.alloc (.cells #[.int .i64 3, .int .u8 0, .int .i64 ((a : Int) + 1), .int .i64 0, .int .i64 tm] 46))
          have BX := Box.new wq 46 #[.int .i64 3, .int .u8 0, .int .i64 ((a : Int) + 1), .int .i64 0, .int .i64 tm]
          have BW0 := balloc BW1_.out (.cells #[.int .i64 3, .int .u8 0, .int .i64 ((a : Int) + 1), .int .i64 0, .int .i64 tm] 46)
          have hR : wq.heap.size ≠ w1.heap.size := by have := HB1.out.lt; omega
          clear hv1 hy
          go_upto_region 16 with fail
          refine Rs.region_st (sx := 15) (px := ⟨w1.heap.size, a, none⟩) (ux := (.int .i64 v1)) (bs := [true, true, true, true, true, true, true, true, true, true, true, true, true, true, true, true]) (.val (fun v _ => v = .slice (some ⟨w1.heap.size, 0, none⟩) n n) :: .val (fun v _ => v = .pointer (some ⟨wq.heap.size, 2, none⟩)) :: .val (fun v _ => v = .int .i64 ((a : Int) + 1)) :: .val (fun v _ => v = .int .i64 (a : Int)) :: .val (fun v _ => v = .pointer (some ⟨w1.heap.size, a, none⟩)) :: .val (fun v _ => v = .int .i64 p) :: .val (fun v _ => v = .slice (some ⟨w1.heap.size, 0, none⟩) n n) :: .val (fun v _ => v = .int .i64 (j : Int)) :: .val (fun v _ => v = .pointer (some ⟨w1.heap.size, j, none⟩)) :: .val (fun v _ => v = .int .i64 x) :: .val (fun v _ => v = .pointer (some ⟨wq.heap.size, 4, none⟩)) :: .val (fun v _ => v = .int .i64 tm) :: .val (fun v _ => v = .int .i64 y) :: .val (fun v _ => v = .int .i64 v1) :: .val (fun v _ => v = .pointer (some ⟨w1.heap.size, a, none⟩)) :: .st ⟨w1.heap.size, a, none⟩ ((.int .i64 v1)) :: [])
            ([] :: [] :: [(70, 1)] :: [(71, 2)] :: [(69, 0), (72, 3)] :: [(73, 4)] :: [] :: [] :: [(75, 6), (76, 7)] :: [(77, 8)] :: [] :: [(79, 10)] :: [(78, 9), (80, 11)] :: [(74, 5), (81, 12)] :: [(69, 0), (72, 3)] :: [(83, 14), (82, 13)] :: []) ((0, 0) :: (0, 0) :: (0, 0) :: (0, 0) :: (0, 0) :: (0, 0) :: (0, 0) :: (0, 0) :: (0, 0) :: (0, 0) :: (0, 0) :: (0, 0) :: (0, 0) :: (0, 0) :: (0, 0) :: (3, 0) :: []) 85 (by kernel_rfl) rfl rfl (by kernel_rfl) (by kernel_rfl) rfl (by first | omega | (simp; omega)) ⟨⟨rfl, rfl⟩, trivial⟩ (by decide) ⟨⟨Rs.Stab.pure _ _ _, fun _ _ h => h⟩, ⟨Rs.Stab.pure _ _ _, fun _ _ h => h⟩, ⟨Rs.Stab.pure _ _ _, fun _ _ h => h⟩, ⟨Rs.Stab.pure _ _ _, fun _ _ h => h⟩, ⟨Rs.Stab.pure _ _ _, fun _ _ h => h⟩, ⟨Rs.Stab.pure _ _ _, fun _ _ h => h⟩, ⟨Rs.Stab.pure _ _ _, fun _ _ h => h⟩, ⟨Rs.Stab.pure _ _ _, fun _ _ h => h⟩, ⟨Rs.Stab.pure _ _ _, fun _ _ h => h⟩, ⟨Rs.Stab.pure _ _ _, fun _ _ h => h⟩, ⟨Rs.Stab.pure _ _ _, fun _ _ h => h⟩, ⟨Rs.Stab.pure _ _ _, fun _ _ h => h⟩, ⟨Rs.Stab.pure _ _ _, fun _ _ h => h⟩, ⟨Rs.Stab.pure _ _ _, fun _ _ h => h⟩, ⟨Rs.Stab.pure _ _ _, fun _ _ h => h⟩, trivial⟩ ⟨?_, ?_, ?_, ?_, ?_, ?_, ?_, ?_, ?_, ?_, ?_, ?_, ?_, ?_, ?_, ?_, trivial⟩ ?_
          · intro wx hb0
            have hb : Below _ _ wx := hb0
            intro K hK
            go_simp
            exact hK _ _ rfl ⟨rfl, Below.refl _ _⟩
          · intro wx hb0
            have hb : Below _ _ wx := hb0
            intro K hK
            go_simp
            exact hK _ _ rfl ⟨rfl, Below.refl _ _⟩
          · intro wx hb0
            have hb : Below _ _ wx := hb0
            rintro _ rfl
            intro K hK
            have mm := Box.below (BX) hb (Box.lt (BX))
            have m0 : wx.cell? ⟨wq.heap.size, 0, none⟩ = some (.int .i64 3) := mm.cell 0
            have m1 : wx.cell? ⟨wq.heap.size, 1, none⟩ = some (.int .u8 0) := mm.cell 1
            have m2 : wx.cell? ⟨wq.heap.size, 2, none⟩ = some (.int .i64 ((a : Int) + 1)) := mm.cell 2
            have m3 : wx.cell? ⟨wq.heap.size, 3, none⟩ = some (.int .i64 0) := mm.cell 3
            have m4 : wx.cell? ⟨wq.heap.size, 4, none⟩ = some (.int .i64 tm) := mm.cell 4
            clear mm
            go_simp
            exact hK _ _ rfl ⟨rfl, Below.refl _ _⟩
          · intro wx hb0
            have hb : Below _ _ wx := hb0
            rintro _ rfl
            intro K hK
            go_simp
            exact hK _ _ rfl ⟨rfl, Below.refl _ _⟩
          · intro wx hb0
            have hb : Below _ _ wx := hb0
            rintro _ rfl
            rintro _ rfl
            intro K hK
            go_simp
            exact hK _ _ rfl ⟨rfl, Below.refl _ _⟩
          · intro wx hb0
            have hb : Below _ _ wx := hb0
            rintro _ rfl
            intro K hK
            have zz := (hb.cell (p := ⟨w1.heap.size, a, none⟩) HBw.out.lt).trans ((HBw.out.cell a).trans hpa); go_simp; exact hK _ _ rfl ⟨rfl, Below.refl _ _⟩
          · intro wx hb0
            have hb : Below _ _ wx := hb0
            intro K hK
            go_simp
            exact hK _ _ rfl ⟨rfl, Below.refl _ _⟩
          · intro wx hb0
            have hb : Below _ _ wx := hb0
            intro K hK
            go_simp
            exact hK _ _ rfl ⟨rfl, Below.refl _ _⟩
          · intro wx hb0
            have hb : Below _ _ wx := hb0
            rintro _ rfl
            rintro _ rfl
            intro K hK
            go_simp
            exact hK _ _ rfl ⟨rfl, Below.refl _ _⟩
          · intro wx hb0
            have hb : Below _ _ wx := hb0
            rintro _ rfl
            intro K hK
            have zz := (hb.cell (p := ⟨w1.heap.size, j, none⟩) HBw.out.lt).trans ((HBw.out.cell j).trans hpj); go_simp; exact hK _ _ rfl ⟨rfl, Below.refl _ _⟩
          · intro wx hb0
            have hb : Below _ _ wx := hb0
            intro K hK
            go_simp
            exact hK _ _ rfl ⟨rfl, Below.refl _ _⟩
          · intro wx hb0
            have hb : Below _ _ wx := hb0
            rintro _ rfl
            intro K hK
            have mm := Box.below (BX) hb (Box.lt (BX))
            have m0 : wx.cell? ⟨wq.heap.size, 0, none⟩ = some (.int .i64 3) := mm.cell 0
            have m1 : wx.cell? ⟨wq.heap.size, 1, none⟩ = some (.int .u8 0) := mm.cell 1
            have m2 : wx.cell? ⟨wq.heap.size, 2, none⟩ = some (.int .i64 ((a : Int) + 1)) := mm.cell 2
            have m3 : wx.cell? ⟨wq.heap.size, 3, none⟩ = some (.int .i64 0) := mm.cell 3
            have m4 : wx.cell? ⟨wq.heap.size, 4, none⟩ = some (.int .i64 tm) := mm.cell 4
            clear mm
            go_simp
            exact hK _ _ rfl ⟨rfl, Below.refl _ _⟩
          · intro wx hb0
            have hb : Below _ _ wx := hb0
            rintro _ rfl
            rintro _ rfl
            intro K hK
            go_simp
            exact hK _ _ rfl ⟨rfl, Below.refl _ _⟩
          · intro wx hb0
            have hb : Below _ _ wx := hb0
            rintro _ rfl
            rintro _ rfl
            intro K hK
            go_simp
            exact hK _ _ rfl ⟨rfl, Below.refl _ _⟩
          · intro wx hb0
            have hb : Below _ _ wx := hb0
            rintro _ rfl
            rintro _ rfl
            intro K hK
            go_simp
            exact hK _ _ rfl ⟨rfl, Below.refl _ _⟩
          · intro wx hb0
            have hb : Below _ _ wx := hb0
            rintro _ rfl
            rintro _ rfl
            intro K hK
            have zc := (hb.cell (p := ⟨w1.heap.size, a, none⟩) HBw.out.lt).trans ((HBw.out.cell a).trans hpa); have zf := (Box.below HBw.out hb HBw.out.lt).free a
            go_simp
            exact hK _ _ rfl rfl
          intro w3 B3
          rintro _ rfl
          rintro _ rfl
          rintro _ rfl
          rintro _ rfl
          rintro _ rfl
          rintro _ rfl
          rintro _ rfl
          rintro _ rfl
          rintro _ rfl
          rintro _ rfl
          rintro _ rfl
          rintro _ rfl
          rintro _ rfl
          rintro _ rfl
          rintro _ rfl
          rintro -
          simp only [Act.put, List.setIfInBounds_toArray, List.set_cons_zero, List.set_cons_succ, List.toList_toArray, List.length_cons, List.length_nil, List.drop_succ_cons, List.drop_zero, List.drop_nil, Nat.zero_add, wpList]
          have HB3 : Hid (Box w3 w1.heap.size 3 (vi (o.set a v1)).toArray) := Lib.hid (by
            have h1 := HBw.out.set_ a (.int .i64 v1)
            rw [via_set] at h1
            exact h1.below B3 HBw.out.lt)
          rw [hs1] at HB3
          have BW3 := (BW0.setCell (p := ⟨w1.heap.size, a, none⟩) (Nat.le_refl _) (.int .i64 v1)).trans (B3.mono BW0.size)
          have BW4 := Lib.hid BW3
          clear B3 BW0 BX BW3
          go_wp2_with fail
          go_roundw
          case rel => exact ⟨(j : Int) - 1, j, (up o a y), (up o a y), by go_num, by omega, by omega, Lib.hid ⟨HG2.out, HN.out⟩, Lib.hid ⟨fun h => absurd h (by omega), fun _ => rfl⟩, HB3, BW4⟩
          case measure => simp [intOf] <;> omega
      · have q1 : ((j : Int) == (n : Int) - 1) = false := by rw [beq_eq_false_iff_ne]; omega
        have HB1 : Hid (Box wr w1.heap.size 3 (vi o).toArray) := Lib.hid (by have := HB.out; rw [HM.out.2 hjn] at this; exact this)
        have BW1_ := BW
        clear HM
        have hway := rule_way H0.out HR.out
        obtain ⟨ad, rfl, hadl, c0, c1, c2, c3, c4⟩ := row_rl (HA1.out.below BW1_.out (Nat.le_refl _)) HR.out
        obtain ⟨kd, lt, lf, rg, tm⟩ := r
        simp only at c0 c1 c2 c3 c4 hway
        rcases hway with ⟨rfl, rfl, rfl, rfl⟩ | ⟨rfl, rfl, rfl, p1, p2, q1_, q2_⟩ | ⟨rfl, rfl, rfl, t2, p1, p2⟩
        · have HG2 : Hid (usesFrom g j o = U ∧ UInv g n T j o) := Lib.hid ⟨by have := HG.out.1; rw [show usesFrom g (j + 1) o = usesFrom g j (ust g j o) from rfl, ust_letter HR.out] at this; exact this, HG.out.2.letter HR.out⟩
          go_wp2_with fail
          go_roundw
          case rel => exact ⟨(j : Int) - 1, j, o, o, by go_num, by omega, by omega, HG2, Lib.hid ⟨fun h => absurd h (by omega), fun _ => rfl⟩, Lib.hid (HB1.out.alloc _), Lib.hid (balloc BW1_.out _)⟩
          case measure => simp [intOf] <;> omega
        · obtain ⟨a, rfl⟩ : ∃ a : Nat, lf = (a : Int) + 1 := ⟨(lf - 1).toNat, by omega⟩
          obtain ⟨b, rfl⟩ : ∃ b : Nat, rg = (b : Int) + 1 := ⟨(rg - 1).toNat, by omega⟩
          have ai : a < j := by omega
          have an : (a : Int) < n := by omega
          have a0 : (0 : Int) ≤ a := by omega
          have wa : IntKind.i64.wrap (a : Int) = a := IntWalk.i64_in _ ⟨by omega, by omega⟩
          have bi : b < j := by omega
          have bn : (b : Int) < n := by omega
          have b0 : (0 : Int) ≤ b := by omega
          have wb : IntKind.i64.wrap (b : Int) = b := IntWalk.i64_in _ ⟨by omega, by omega⟩
          have HN : Hid (UInv g n T j (up (up o a x) b x)) := Lib.hid (by rw [HX.out]; exact HG.out.2.pair H0.out HL.out HR.out ai bi)
          have HG2 : Hid (usesFrom g j (up (up o a x) b x) = U) := Lib.hid (by have := HG.out.1; rw [show usesFrom g (j + 1) o = usesFrom g j (ust g j o) from rfl, ust_pair HR.out, ← HX.out] at this; exact this)
          have hol : o.length = n := HG.out.2.len
          obtain ⟨p, hp⟩ : ∃ p, p = o.getD a 0 := ⟨_, rfl⟩
          have hpa : (vi o).toArray[a]? = some (.int .i64 p) := by rw [hp]; exact via_at (by omega)
          have hpj : (vi o).toArray[j]? = some (.int .i64 x) := by rw [HX.out]; exact via_at (by omega)
          have plo : 0 ≤ p := by rw [hp]; exact HG.out.2.pos a
          obtain ⟨o1, ho1⟩ : ∃ o1, o1 = up o a x := ⟨_, rfl⟩
          have ho1l : o1.length = n := by rw [ho1, up_len, hol]
          have e1 : ∀ k, o1.getD k 0 = o.getD k 0 + if k = a then x else 0 := fun k => by rw [ho1]; exact up_at (by omega)
          have e2 : ∀ k, (up o1 b x).getD k 0 = o1.getD k 0 + if k = b then x else 0 := fun k => up_at (by omega)
          rw [← ho1] at HN HG2
          have hpx : p + x ≤ T := by have h1 := HN.out.le a; rw [e2, e1, if_pos rfl, ← hp] at h1; split at h1 <;> omega
          have hs1 : o.set a (p + x) = o1 := by rw [ho1, hp]; rfl
          obtain ⟨q, hq⟩ : ∃ q, q = o1.getD b 0 := ⟨_, rfl⟩
          have qlo : 0 ≤ q := by rw [hq, e1]; have := HG.out.2.pos b; split <;> omega
          have hqx : q + x ≤ T := by have h1 := HN.out.le b; rw [e2, if_pos rfl, ← hq] at h1; exact h1
          have hs2 : o1.set b (q + x) = up o1 b x := by rw [hq]; rfl
          have hqb : (vi o1).toArray[b]? = some (.int .i64 q) := by rw [hq]; exact via_at (by omega)
          have hqj : (vi o1).toArray[j]? = some (.int .i64 x) := by rw [via_at (by omega), e1, if_neg (by omega), ← HX.out]; simp
          clear e1 e2 ho1 hp hq
          obtain ⟨v1, hv1⟩ : ∃ v1, v1 = p + x := ⟨_, rfl⟩
          have wv1 : IntKind.i64.wrap (p + x) = v1 := by rw [hv1]; exact IntWalk.i64_in _ ⟨by omega, by omega⟩
          obtain ⟨v2, hv2⟩ : ∃ v2, v2 = q + x := ⟨_, rfl⟩
          have wv2 : IntKind.i64.wrap (q + x) = v2 := by rw [hv2]; exact IntWalk.i64_in _ ⟨by omega, by omega⟩
          rw [← hv1] at hs1; rw [← hv2] at hs2
          have HBw := Lib.hid (HB1.out.alloc (.cells #[.int .i64 2, .int .u8 0, .int .i64 ((a : Int) + 1), .int .i64 ((b : Int) + 1), .int .i64 0] 46))
          have BX := Box.new wr 46 #[.int .i64 2, .int .u8 0, .int .i64 ((a : Int) + 1), .int .i64 ((b : Int) + 1), .int .i64 0]
          have BW0 := balloc BW1_.out (.cells #[.int .i64 2, .int .u8 0, .int .i64 ((a : Int) + 1), .int .i64 ((b : Int) + 1), .int .i64 0] 46)
          have hR : wr.heap.size ≠ w1.heap.size := by have := HB1.out.lt; omega
          clear hv1 hv2
          go_upto_region 13 with fail
          refine Rs.region_st (sx := 12) (px := ⟨w1.heap.size, a, none⟩) (ux := (.int .i64 v1)) (bs := [true, true, true, true, true, true, true, true, true, true, true, true, true]) (.val (fun v _ => v = .slice (some ⟨w1.heap.size, 0, none⟩) n n) :: .val (fun v _ => v = .pointer (some ⟨wr.heap.size, 2, none⟩)) :: .val (fun v _ => v = .int .i64 ((a : Int) + 1)) :: .val (fun v _ => v = .int .i64 (a : Int)) :: .val (fun v _ => v = .pointer (some ⟨w1.heap.size, a, none⟩)) :: .val (fun v _ => v = .int .i64 p) :: .val (fun v _ => v = .slice (some ⟨w1.heap.size, 0, none⟩) n n) :: .val (fun v _ => v = .int .i64 (j : Int)) :: .val (fun v _ => v = .pointer (some ⟨w1.heap.size, j, none⟩)) :: .val (fun v _ => v = .int .i64 x) :: .val (fun v _ => v = .int .i64 v1) :: .val (fun v _ => v = .pointer (some ⟨w1.heap.size, a, none⟩)) :: .st ⟨w1.heap.size, a, none⟩ ((.int .i64 v1)) :: [])
            ([] :: [] :: [(44, 1)] :: [(45, 2)] :: [(43, 0), (46, 3)] :: [(47, 4)] :: [] :: [] :: [(49, 6), (50, 7)] :: [(51, 8)] :: [(48, 5), (52, 9)] :: [(43, 0), (46, 3)] :: [(54, 11), (53, 10)] :: []) ((0, 0) :: (0, 0) :: (0, 0) :: (0, 0) :: (0, 0) :: (0, 0) :: (0, 0) :: (0, 0) :: (0, 0) :: (0, 0) :: (0, 0) :: (0, 0) :: (3, 0) :: []) 85 (by kernel_rfl) rfl rfl (by kernel_rfl) (by kernel_rfl) rfl (by first | omega | (simp; omega)) ⟨⟨rfl, rfl⟩, trivial⟩ (by decide) ⟨⟨Rs.Stab.pure _ _ _, fun _ _ h => h⟩, ⟨Rs.Stab.pure _ _ _, fun _ _ h => h⟩, ⟨Rs.Stab.pure _ _ _, fun _ _ h => h⟩, ⟨Rs.Stab.pure _ _ _, fun _ _ h => h⟩, ⟨Rs.Stab.pure _ _ _, fun _ _ h => h⟩, ⟨Rs.Stab.pure _ _ _, fun _ _ h => h⟩, ⟨Rs.Stab.pure _ _ _, fun _ _ h => h⟩, ⟨Rs.Stab.pure _ _ _, fun _ _ h => h⟩, ⟨Rs.Stab.pure _ _ _, fun _ _ h => h⟩, ⟨Rs.Stab.pure _ _ _, fun _ _ h => h⟩, ⟨Rs.Stab.pure _ _ _, fun _ _ h => h⟩, ⟨Rs.Stab.pure _ _ _, fun _ _ h => h⟩, trivial⟩ ⟨?_, ?_, ?_, ?_, ?_, ?_, ?_, ?_, ?_, ?_, ?_, ?_, ?_, trivial⟩ ?_
          · intro wx hb0
            have hb : Below _ _ wx := hb0
            intro K hK
            go_simp
            exact hK _ _ rfl ⟨rfl, Below.refl _ _⟩
          · intro wx hb0
            have hb : Below _ _ wx := hb0
            intro K hK
            go_simp
            exact hK _ _ rfl ⟨rfl, Below.refl _ _⟩
          · intro wx hb0
            have hb : Below _ _ wx := hb0
            rintro _ rfl
            intro K hK
            have mm := Box.below (BX) hb (Box.lt (BX))
            have m0 : wx.cell? ⟨wr.heap.size, 0, none⟩ = some (.int .i64 2) := mm.cell 0
            have m1 : wx.cell? ⟨wr.heap.size, 1, none⟩ = some (.int .u8 0) := mm.cell 1
            have m2 : wx.cell? ⟨wr.heap.size, 2, none⟩ = some (.int .i64 ((a : Int) + 1)) := mm.cell 2
            have m3 : wx.cell? ⟨wr.heap.size, 3, none⟩ = some (.int .i64 ((b : Int) + 1)) := mm.cell 3
            have m4 : wx.cell? ⟨wr.heap.size, 4, none⟩ = some (.int .i64 0) := mm.cell 4
            clear mm
            go_simp
            exact hK _ _ rfl ⟨rfl, Below.refl _ _⟩
          · intro wx hb0
            have hb : Below _ _ wx := hb0
            rintro _ rfl
            intro K hK
            go_simp
            exact hK _ _ rfl ⟨rfl, Below.refl _ _⟩
          · intro wx hb0
            have hb : Below _ _ wx := hb0
            rintro _ rfl
            rintro _ rfl
            intro K hK
            go_simp
            exact hK _ _ rfl ⟨rfl, Below.refl _ _⟩
          · intro wx hb0
            have hb : Below _ _ wx := hb0
            rintro _ rfl
            intro K hK
            have zz := (hb.cell (p := ⟨w1.heap.size, a, none⟩) HBw.out.lt).trans ((HBw.out.cell a).trans hpa); go_simp; exact hK _ _ rfl ⟨rfl, Below.refl _ _⟩
          · intro wx hb0
            have hb : Below _ _ wx := hb0
            intro K hK
            go_simp
            exact hK _ _ rfl ⟨rfl, Below.refl _ _⟩
          · intro wx hb0
            have hb : Below _ _ wx := hb0
            intro K hK
            go_simp
            exact hK _ _ rfl ⟨rfl, Below.refl _ _⟩
          · intro wx hb0
            have hb : Below _ _ wx := hb0
            rintro _ rfl
            rintro _ rfl
            intro K hK
            go_simp
            exact hK _ _ rfl ⟨rfl, Below.refl _ _⟩
          · intro wx hb0
            have hb : Below _ _ wx := hb0
            rintro _ rfl
            intro K hK
            have zz := (hb.cell (p := ⟨w1.heap.size, j, none⟩) HBw.out.lt).trans ((HBw.out.cell j).trans hpj); go_simp; exact hK _ _ rfl ⟨rfl, Below.refl _ _⟩
          · intro wx hb0
            have hb : Below _ _ wx := hb0
            rintro _ rfl
            rintro _ rfl
            intro K hK
            go_simp
            exact hK _ _ rfl ⟨rfl, Below.refl _ _⟩
          · intro wx hb0
            have hb : Below _ _ wx := hb0
            rintro _ rfl
            rintro _ rfl
            intro K hK
            go_simp
            exact hK _ _ rfl ⟨rfl, Below.refl _ _⟩
          · intro wx hb0
            have hb : Below _ _ wx := hb0
            rintro _ rfl
            rintro _ rfl
            intro K hK
            have zc := (hb.cell (p := ⟨w1.heap.size, a, none⟩) HBw.out.lt).trans ((HBw.out.cell a).trans hpa); have zf := (Box.below HBw.out hb HBw.out.lt).free a
            go_simp
            exact hK _ _ rfl rfl
          intro w3 B3
          rintro _ rfl
          rintro _ rfl
          rintro _ rfl
          rintro _ rfl
          rintro _ rfl
          rintro _ rfl
          rintro _ rfl
          rintro _ rfl
          rintro _ rfl
          rintro _ rfl
          rintro _ rfl
          rintro _ rfl
          rintro -
          simp only [Act.put, List.setIfInBounds_toArray, List.set_cons_zero, List.set_cons_succ, List.toList_toArray, List.length_cons, List.length_nil, List.drop_succ_cons, List.drop_zero, List.drop_nil, Nat.zero_add, wpList]
          have HB3 : Hid (Box w3 w1.heap.size 3 (vi (o.set a v1)).toArray) := Lib.hid (by
            have h1 := HBw.out.set_ a (.int .i64 v1)
            rw [via_set] at h1
            exact h1.below B3 HBw.out.lt)
          rw [hs1] at HB3
          have BW3 := (BW0.setCell (p := ⟨w1.heap.size, a, none⟩) (Nat.le_refl _) (.int .i64 v1)).trans (B3.mono BW0.size)
          have BX3 := (BX.far (p := ⟨w1.heap.size, a, none⟩) hR (.int .i64 v1)).below B3 BX.lt
          clear B3 BW0 BX hpa hpj HBw
          have zw3 : w1.heap.size < w3.heap.size := HB3.out.lt
          go_upto_region 14 with fail
          refine Rs.region_st (sx := 12) (px := ⟨w1.heap.size, b, none⟩) (ux := (.int .i64 v2)) (bs := [true, true, true, true, true, true, true, true, true, true, true, true, true]) (.val (fun v _ => v = .slice (some ⟨w1.heap.size, 0, none⟩) n n) :: .val (fun v _ => v = .pointer (some ⟨wr.heap.size, 3, none⟩)) :: .val (fun v _ => v = .int .i64 ((b : Int) + 1)) :: .val (fun v _ => v = .int .i64 (b : Int)) :: .val (fun v _ => v = .pointer (some ⟨w1.heap.size, b, none⟩)) :: .val (fun v _ => v = .int .i64 q) :: .val (fun v _ => v = .slice (some ⟨w1.heap.size, 0, none⟩) n n) :: .val (fun v _ => v = .int .i64 (j : Int)) :: .val (fun v _ => v = .pointer (some ⟨w1.heap.size, j, none⟩)) :: .val (fun v _ => v = .int .i64 x) :: .val (fun v _ => v = .int .i64 v2) :: .val (fun v _ => v = .pointer (some ⟨w1.heap.size, b, none⟩)) :: .st ⟨w1.heap.size, b, none⟩ ((.int .i64 v2)) :: [])
            ([] :: [] :: [(56, 1)] :: [(57, 2)] :: [(55, 0), (58, 3)] :: [(59, 4)] :: [] :: [] :: [(61, 6), (62, 7)] :: [(63, 8)] :: [(60, 5), (64, 9)] :: [(55, 0), (58, 3)] :: [(66, 11), (65, 10)] :: []) ((0, 0) :: (0, 0) :: (0, 0) :: (0, 0) :: (0, 0) :: (0, 0) :: (0, 0) :: (0, 0) :: (0, 0) :: (0, 0) :: (0, 0) :: (0, 0) :: (3, 0) :: []) 85 (by kernel_rfl) rfl rfl (by kernel_rfl) (by kernel_rfl) rfl (by first | omega | (simp; omega)) ⟨⟨rfl, rfl⟩, trivial⟩ (by decide) ⟨⟨Rs.Stab.pure _ _ _, fun _ _ h => h⟩, ⟨Rs.Stab.pure _ _ _, fun _ _ h => h⟩, ⟨Rs.Stab.pure _ _ _, fun _ _ h => h⟩, ⟨Rs.Stab.pure _ _ _, fun _ _ h => h⟩, ⟨Rs.Stab.pure _ _ _, fun _ _ h => h⟩, ⟨Rs.Stab.pure _ _ _, fun _ _ h => h⟩, ⟨Rs.Stab.pure _ _ _, fun _ _ h => h⟩, ⟨Rs.Stab.pure _ _ _, fun _ _ h => h⟩, ⟨Rs.Stab.pure _ _ _, fun _ _ h => h⟩, ⟨Rs.Stab.pure _ _ _, fun _ _ h => h⟩, ⟨Rs.Stab.pure _ _ _, fun _ _ h => h⟩, ⟨Rs.Stab.pure _ _ _, fun _ _ h => h⟩, trivial⟩ ⟨?_, ?_, ?_, ?_, ?_, ?_, ?_, ?_, ?_, ?_, ?_, ?_, ?_, trivial⟩ ?_
          · intro wx hb0
            have hb : Below _ _ wx := hb0
            intro K hK
            go_simp
            exact hK _ _ rfl ⟨rfl, Below.refl _ _⟩
          · intro wx hb0
            have hb : Below _ _ wx := hb0
            intro K hK
            go_simp
            exact hK _ _ rfl ⟨rfl, Below.refl _ _⟩
          · intro wx hb0
            have hb : Below _ _ wx := hb0
            rintro _ rfl
            intro K hK
            have mm := Box.below (BX3) hb (Box.lt (BX3))
            have m0 : wx.cell? ⟨wr.heap.size, 0, none⟩ = some (.int .i64 2) := mm.cell 0
            have m1 : wx.cell? ⟨wr.heap.size, 1, none⟩ = some (.int .u8 0) := mm.cell 1
            have m2 : wx.cell? ⟨wr.heap.size, 2, none⟩ = some (.int .i64 ((a : Int) + 1)) := mm.cell 2
            have m3 : wx.cell? ⟨wr.heap.size, 3, none⟩ = some (.int .i64 ((b : Int) + 1)) := mm.cell 3
            have m4 : wx.cell? ⟨wr.heap.size, 4, none⟩ = some (.int .i64 0) := mm.cell 4
            clear mm
            go_simp
            exact hK _ _ rfl ⟨rfl, Below.refl _ _⟩
          · intro wx hb0
            have hb : Below _ _ wx := hb0
            rintro _ rfl
            intro K hK
            go_simp
            exact hK _ _ rfl ⟨rfl, Below.refl _ _⟩
          · intro wx hb0
            have hb : Below _ _ wx := hb0
            rintro _ rfl
            rintro _ rfl
            intro K hK
            go_simp
            exact hK _ _ rfl ⟨rfl, Below.refl _ _⟩
          · intro wx hb0
            have hb : Below _ _ wx := hb0
            rintro _ rfl
            intro K hK
            have zz := (hb.cell (p := ⟨w1.heap.size, b, none⟩) HB3.out.lt).trans ((HB3.out.cell b).trans hqb); go_simp; exact hK _ _ rfl ⟨rfl, Below.refl _ _⟩
          · intro wx hb0
            have hb : Below _ _ wx := hb0
            intro K hK
            go_simp
            exact hK _ _ rfl ⟨rfl, Below.refl _ _⟩
          · intro wx hb0
            have hb : Below _ _ wx := hb0
            intro K hK
            go_simp
            exact hK _ _ rfl ⟨rfl, Below.refl _ _⟩
          · intro wx hb0
            have hb : Below _ _ wx := hb0
            rintro _ rfl
            rintro _ rfl
            intro K hK
            go_simp
            exact hK _ _ rfl ⟨rfl, Below.refl _ _⟩
          · intro wx hb0
            have hb : Below _ _ wx := hb0
            rintro _ rfl
            intro K hK
            have zz := (hb.cell (p := ⟨w1.heap.size, j, none⟩) HB3.out.lt).trans ((HB3.out.cell j).trans hqj); go_simp; exact hK _ _ rfl ⟨rfl, Below.refl _ _⟩
          · intro wx hb0
            have hb : Below _ _ wx := hb0
            rintro _ rfl
            rintro _ rfl
            intro K hK
            go_simp
            exact hK _ _ rfl ⟨rfl, Below.refl _ _⟩
          · intro wx hb0
            have hb : Below _ _ wx := hb0
            rintro _ rfl
            rintro _ rfl
            intro K hK
            go_simp
            exact hK _ _ rfl ⟨rfl, Below.refl _ _⟩
          · intro wx hb0
            have hb : Below _ _ wx := hb0
            rintro _ rfl
            rintro _ rfl
            intro K hK
            have zc := (hb.cell (p := ⟨w1.heap.size, b, none⟩) HB3.out.lt).trans ((HB3.out.cell b).trans hqb); have zf := (Box.below HB3.out hb HB3.out.lt).free b
            go_simp
            exact hK _ _ rfl rfl
          intro w4 B4
          rintro _ rfl
          rintro _ rfl
          rintro _ rfl
          rintro _ rfl
          rintro _ rfl
          rintro _ rfl
          rintro _ rfl
          rintro _ rfl
          rintro _ rfl
          rintro _ rfl
          rintro _ rfl
          rintro _ rfl
          rintro -
          simp only [Act.put, List.setIfInBounds_toArray, List.set_cons_zero, List.set_cons_succ, List.toList_toArray, List.length_cons, List.length_nil, List.drop_succ_cons, List.drop_zero, List.drop_nil, Nat.zero_add, wpList]
          have HB4 : Hid (Box w4 w1.heap.size 3 (vi (o1.set b v2)).toArray) := Lib.hid (by
            have h1 := HB3.out.set_ b (.int .i64 v2)
            rw [via_set] at h1
            exact h1.below B4 HB3.out.lt)
          rw [hs2] at HB4
          have BW4 := Lib.hid ((BW3.setCell (p := ⟨w1.heap.size, b, none⟩) (Nat.le_refl _) (.int .i64 v2)).trans (B4.mono BW3.size))
          clear B4 BW3 BX3
          go_wp2_with fail
          go_roundw
          case rel => exact ⟨(j : Int) - 1, j, (up o1 b x), (up o1 b x), by go_num, by omega, by omega, Lib.hid ⟨HG2.out, HN.out⟩, Lib.hid ⟨fun h => absurd h (by omega), fun _ => rfl⟩, HB4, BW4⟩
          case measure => simp [intOf] <;> omega
        · obtain ⟨a, rfl⟩ : ∃ a : Nat, lf = (a : Int) + 1 := ⟨(lf - 1).toNat, by omega⟩
          have ai : a < j := by omega
          have an : (a : Int) < n := by omega
          have a0 : (0 : Int) ≤ a := by omega
          have wa : IntKind.i64.wrap (a : Int) = a := IntWalk.i64_in _ ⟨by omega, by omega⟩
          have HN : Hid (UInv g n T j (up o a (x * tm))) := Lib.hid (by rw [HX.out]; exact HG.out.2.power H0.out HL.out HR.out ai t2)
          have HG2 : Hid (usesFrom g j (up o a (x * tm)) = U) := Lib.hid (by have := HG.out.1; rw [show usesFrom g (j + 1) o = usesFrom g j (ust g j o) from rfl, ust_power HR.out, ← HX.out] at this; exact this)
          have hol : o.length = n := HG.out.2.len
          obtain ⟨p, hp⟩ : ∃ p, p = o.getD a 0 := ⟨_, rfl⟩
          have hpa : (vi o).toArray[a]? = some (.int .i64 p) := by rw [hp]; exact via_at (by omega)
          have hpj : (vi o).toArray[j]? = some (.int .i64 x) := by rw [HX.out]; exact via_at (by omega)
          have plo : 0 ≤ p := by rw [hp]; exact HG.out.2.pos a
          have e1 : ∀ k, (up o a (x * tm)).getD k 0 = o.getD k 0 + if k = a then x * tm else 0 := fun k => up_at (by omega)
          have hpx : p + x * tm ≤ T := by have h1 := HN.out.le a; rw [e1, if_pos rfl, ← hp] at h1; exact h1
          have xtm : 0 ≤ x * tm := Int.mul_nonneg xlo (by omega)
          have hs1 : o.set a (p + x * tm) = up o a (x * tm) := by rw [hp]; rfl
          clear e1 hp
          obtain ⟨y, hy⟩ : ∃ y, y = x * tm := ⟨_, rfl⟩
          rw [← hy] at hpx xtm hs1 HN HG2
          have wy : IntKind.i64.wrap (x * tm) = y := by rw [← hy]; exact IntWalk.i64_in _ ⟨by omega, by omega⟩
          obtain ⟨v1, hv1⟩ : ∃ v1, v1 = p + y := ⟨_, rfl⟩
          have wv1 : IntKind.i64.wrap (p + y) = v1 := by rw [hv1]; exact IntWalk.i64_in _ ⟨by omega, by omega⟩
          rw [← hv1] at hs1
          have HBw := Lib.hid (HB1.out.alloc (.cells #[.int .i64 3, .int .u8 0, .int .i64 ((a : Int) + 1), .int .i64 0, .int .i64 tm] 46))
          have BX := Box.new wr 46 #[.int .i64 3, .int .u8 0, .int .i64 ((a : Int) + 1), .int .i64 0, .int .i64 tm]
          have BW0 := balloc BW1_.out (.cells #[.int .i64 3, .int .u8 0, .int .i64 ((a : Int) + 1), .int .i64 0, .int .i64 tm] 46)
          have hR : wr.heap.size ≠ w1.heap.size := by have := HB1.out.lt; omega
          clear hv1 hy
          go_upto_region 16 with fail
          refine Rs.region_st (sx := 15) (px := ⟨w1.heap.size, a, none⟩) (ux := (.int .i64 v1)) (bs := [true, true, true, true, true, true, true, true, true, true, true, true, true, true, true, true]) (.val (fun v _ => v = .slice (some ⟨w1.heap.size, 0, none⟩) n n) :: .val (fun v _ => v = .pointer (some ⟨wr.heap.size, 2, none⟩)) :: .val (fun v _ => v = .int .i64 ((a : Int) + 1)) :: .val (fun v _ => v = .int .i64 (a : Int)) :: .val (fun v _ => v = .pointer (some ⟨w1.heap.size, a, none⟩)) :: .val (fun v _ => v = .int .i64 p) :: .val (fun v _ => v = .slice (some ⟨w1.heap.size, 0, none⟩) n n) :: .val (fun v _ => v = .int .i64 (j : Int)) :: .val (fun v _ => v = .pointer (some ⟨w1.heap.size, j, none⟩)) :: .val (fun v _ => v = .int .i64 x) :: .val (fun v _ => v = .pointer (some ⟨wr.heap.size, 4, none⟩)) :: .val (fun v _ => v = .int .i64 tm) :: .val (fun v _ => v = .int .i64 y) :: .val (fun v _ => v = .int .i64 v1) :: .val (fun v _ => v = .pointer (some ⟨w1.heap.size, a, none⟩)) :: .st ⟨w1.heap.size, a, none⟩ ((.int .i64 v1)) :: [])
            ([] :: [] :: [(70, 1)] :: [(71, 2)] :: [(69, 0), (72, 3)] :: [(73, 4)] :: [] :: [] :: [(75, 6), (76, 7)] :: [(77, 8)] :: [] :: [(79, 10)] :: [(78, 9), (80, 11)] :: [(74, 5), (81, 12)] :: [(69, 0), (72, 3)] :: [(83, 14), (82, 13)] :: []) ((0, 0) :: (0, 0) :: (0, 0) :: (0, 0) :: (0, 0) :: (0, 0) :: (0, 0) :: (0, 0) :: (0, 0) :: (0, 0) :: (0, 0) :: (0, 0) :: (0, 0) :: (0, 0) :: (0, 0) :: (3, 0) :: []) 85 (by kernel_rfl) rfl rfl (by kernel_rfl) (by kernel_rfl) rfl (by first | omega | (simp; omega)) ⟨⟨rfl, rfl⟩, trivial⟩ (by decide) ⟨⟨Rs.Stab.pure _ _ _, fun _ _ h => h⟩, ⟨Rs.Stab.pure _ _ _, fun _ _ h => h⟩, ⟨Rs.Stab.pure _ _ _, fun _ _ h => h⟩, ⟨Rs.Stab.pure _ _ _, fun _ _ h => h⟩, ⟨Rs.Stab.pure _ _ _, fun _ _ h => h⟩, ⟨Rs.Stab.pure _ _ _, fun _ _ h => h⟩, ⟨Rs.Stab.pure _ _ _, fun _ _ h => h⟩, ⟨Rs.Stab.pure _ _ _, fun _ _ h => h⟩, ⟨Rs.Stab.pure _ _ _, fun _ _ h => h⟩, ⟨Rs.Stab.pure _ _ _, fun _ _ h => h⟩, ⟨Rs.Stab.pure _ _ _, fun _ _ h => h⟩, ⟨Rs.Stab.pure _ _ _, fun _ _ h => h⟩, ⟨Rs.Stab.pure _ _ _, fun _ _ h => h⟩, ⟨Rs.Stab.pure _ _ _, fun _ _ h => h⟩, ⟨Rs.Stab.pure _ _ _, fun _ _ h => h⟩, trivial⟩ ⟨?_, ?_, ?_, ?_, ?_, ?_, ?_, ?_, ?_, ?_, ?_, ?_, ?_, ?_, ?_, ?_, trivial⟩ ?_
          · intro wx hb0
            have hb : Below _ _ wx := hb0
            intro K hK
            go_simp
            exact hK _ _ rfl ⟨rfl, Below.refl _ _⟩
          · intro wx hb0
            have hb : Below _ _ wx := hb0
            intro K hK
            go_simp
            exact hK _ _ rfl ⟨rfl, Below.refl _ _⟩
          · intro wx hb0
            have hb : Below _ _ wx := hb0
            rintro _ rfl
            intro K hK
            have mm := Box.below (BX) hb (Box.lt (BX))
            have m0 : wx.cell? ⟨wr.heap.size, 0, none⟩ = some (.int .i64 3) := mm.cell 0
            have m1 : wx.cell? ⟨wr.heap.size, 1, none⟩ = some (.int .u8 0) := mm.cell 1
            have m2 : wx.cell? ⟨wr.heap.size, 2, none⟩ = some (.int .i64 ((a : Int) + 1)) := mm.cell 2
            have m3 : wx.cell? ⟨wr.heap.size, 3, none⟩ = some (.int .i64 0) := mm.cell 3
            have m4 : wx.cell? ⟨wr.heap.size, 4, none⟩ = some (.int .i64 tm) := mm.cell 4
            clear mm
            go_simp
            exact hK _ _ rfl ⟨rfl, Below.refl _ _⟩
          · intro wx hb0
            have hb : Below _ _ wx := hb0
            rintro _ rfl
            intro K hK
            go_simp
            exact hK _ _ rfl ⟨rfl, Below.refl _ _⟩
          · intro wx hb0
            have hb : Below _ _ wx := hb0
            rintro _ rfl
            rintro _ rfl
            intro K hK
            go_simp
            exact hK _ _ rfl ⟨rfl, Below.refl _ _⟩
          · intro wx hb0
            have hb : Below _ _ wx := hb0
            rintro _ rfl
            intro K hK
            have zz := (hb.cell (p := ⟨w1.heap.size, a, none⟩) HBw.out.lt).trans ((HBw.out.cell a).trans hpa); go_simp; exact hK _ _ rfl ⟨rfl, Below.refl _ _⟩
          · intro wx hb0
            have hb : Below _ _ wx := hb0
            intro K hK
            go_simp
            exact hK _ _ rfl ⟨rfl, Below.refl _ _⟩
          · intro wx hb0
            have hb : Below _ _ wx := hb0
            intro K hK
            go_simp
            exact hK _ _ rfl ⟨rfl, Below.refl _ _⟩
          · intro wx hb0
            have hb : Below _ _ wx := hb0
            rintro _ rfl
            rintro _ rfl
            intro K hK
            go_simp
            exact hK _ _ rfl ⟨rfl, Below.refl _ _⟩
          · intro wx hb0
            have hb : Below _ _ wx := hb0
            rintro _ rfl
            intro K hK
            have zz := (hb.cell (p := ⟨w1.heap.size, j, none⟩) HBw.out.lt).trans ((HBw.out.cell j).trans hpj); go_simp; exact hK _ _ rfl ⟨rfl, Below.refl _ _⟩
          · intro wx hb0
            have hb : Below _ _ wx := hb0
            intro K hK
            go_simp
            exact hK _ _ rfl ⟨rfl, Below.refl _ _⟩
          · intro wx hb0
            have hb : Below _ _ wx := hb0
            rintro _ rfl
            intro K hK
            have mm := Box.below (BX) hb (Box.lt (BX))
            have m0 : wx.cell? ⟨wr.heap.size, 0, none⟩ = some (.int .i64 3) := mm.cell 0
            have m1 : wx.cell? ⟨wr.heap.size, 1, none⟩ = some (.int .u8 0) := mm.cell 1
            have m2 : wx.cell? ⟨wr.heap.size, 2, none⟩ = some (.int .i64 ((a : Int) + 1)) := mm.cell 2
            have m3 : wx.cell? ⟨wr.heap.size, 3, none⟩ = some (.int .i64 0) := mm.cell 3
            have m4 : wx.cell? ⟨wr.heap.size, 4, none⟩ = some (.int .i64 tm) := mm.cell 4
            clear mm
            go_simp
            exact hK _ _ rfl ⟨rfl, Below.refl _ _⟩
          · intro wx hb0
            have hb : Below _ _ wx := hb0
            rintro _ rfl
            rintro _ rfl
            intro K hK
            go_simp
            exact hK _ _ rfl ⟨rfl, Below.refl _ _⟩
          · intro wx hb0
            have hb : Below _ _ wx := hb0
            rintro _ rfl
            rintro _ rfl
            intro K hK
            go_simp
            exact hK _ _ rfl ⟨rfl, Below.refl _ _⟩
          · intro wx hb0
            have hb : Below _ _ wx := hb0
            rintro _ rfl
            rintro _ rfl
            intro K hK
            go_simp
            exact hK _ _ rfl ⟨rfl, Below.refl _ _⟩
          · intro wx hb0
            have hb : Below _ _ wx := hb0
            rintro _ rfl
            rintro _ rfl
            intro K hK
            have zc := (hb.cell (p := ⟨w1.heap.size, a, none⟩) HBw.out.lt).trans ((HBw.out.cell a).trans hpa); have zf := (Box.below HBw.out hb HBw.out.lt).free a
            go_simp
            exact hK _ _ rfl rfl
          intro w3 B3
          rintro _ rfl
          rintro _ rfl
          rintro _ rfl
          rintro _ rfl
          rintro _ rfl
          rintro _ rfl
          rintro _ rfl
          rintro _ rfl
          rintro _ rfl
          rintro _ rfl
          rintro _ rfl
          rintro _ rfl
          rintro _ rfl
          rintro _ rfl
          rintro _ rfl
          rintro -
          simp only [Act.put, List.setIfInBounds_toArray, List.set_cons_zero, List.set_cons_succ, List.toList_toArray, List.length_cons, List.length_nil, List.drop_succ_cons, List.drop_zero, List.drop_nil, Nat.zero_add, wpList]
          have HB3 : Hid (Box w3 w1.heap.size 3 (vi (o.set a v1)).toArray) := Lib.hid (by
            have h1 := HBw.out.set_ a (.int .i64 v1)
            rw [via_set] at h1
            exact h1.below B3 HBw.out.lt)
          rw [hs1] at HB3
          have BW3 := (BW0.setCell (p := ⟨w1.heap.size, a, none⟩) (Nat.le_refl _) (.int .i64 v1)).trans (B3.mono BW0.size)
          have BW4 := Lib.hid BW3
          clear B3 BW0 BX BW3
          go_wp2_with fail
          go_roundw
          case rel => exact ⟨(j : Int) - 1, j, (up o a y), (up o a y), by go_num, by omega, by omega, Lib.hid ⟨HG2.out, HN.out⟩, Lib.hid ⟨fun h => absurd h (by omega), fun _ => rfl⟩, HB3, BW4⟩
          case measure => simp [intOf] <;> omega
end Go.Proofs.Ytcbahojefglakaa
