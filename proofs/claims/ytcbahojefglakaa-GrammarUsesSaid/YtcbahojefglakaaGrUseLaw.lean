/- The walk of the law GrammarUses. Written by wip/gen/gruses3.py. -/
import Derived.Test.YtcbahojefglakaaGrRUses
namespace Go.Proofs.Ytcbahojefglakaa
set_option linter.unusedVariables false
set_option linter.unusedSimpArgs false
open Go.RowKit Go.Lib
attribute [local go_sem ↓] Go.wp_at_zero Go.wp_at_succ
def useOut (g : List Rl) : List Int × Int := if (lens g).2 ≠ 0 then ([], (lens g).2) else (uses g, 0)
set_option maxRecDepth 100000 in
set_option maxHeartbeats 4000000 in
theorem uses_bad (n c : Nat) (A : Option Addr) (Ls : List Int) (k : Int) (cells : List Value) (hk : k ≠ 0)
    (HLC : Hid (∀ w, RowAt w A cells → Calls Try.prog 45 #[.slice A n c] w (IntsOut Ls (errv k) w))) (w : World) (ha : RowAt w A cells) :
    Calls Try.prog 26 #[.slice A n c] w (IntsOut [] (errv k) w) := by
  rw [errv_pos k hk] at HLC ⊢
  have HA := Lib.hid ha
  clear ha hk
  go_enter Try.func26, Try.ntmps26
  go_wp2_with fail
  (with_reducible refine (HLC.out _ HA.out).mono ?_)
  rintro e w1 ⟨A1, c1, rfl, R1, B1⟩
  have BW1 := Lib.hid B1
  clear R1 B1
  go_wp2_with fail
  go_ret2
  exact ⟨none, 0, rfl, RowAt.nil _ _, BW1.out⟩
theorem uses_any (g : List Rl) (n c : Nat) (A : Option Addr) (hl : g.length = n) (hn : n ≤ 1000000) (w : World) (ha : RowAt w A (gc g)) :
    Calls Try.prog 26 #[.slice A n c] w (IntsOut (useOut g).1 (errv (useOut g).2) w) := by
  have HC := fun w h => lengths_out g n c A hl hn w h
  by_cases h0 : (lens g).2 = 0
  · rw [h0] at HC
    have e : useOut g = (uses g, 0) := by unfold useOut; rw [if_neg (by simp [h0])]
    rw [e]
    exact uses_ok g n c A hl hn (lens_g h0) _ rfl (tot_le h0) _ rfl _ (Lib.hid HC) w ha
  · have e : useOut g = ([], (lens g).2) := by unfold useOut; rw [if_pos h0]
    rw [e]
    exact uses_bad n c A _ _ (gc g) h0 (Lib.hid HC) w ha
theorem ulaw_long (n c : Nat) (A : Option Addr) (hn : 200 < n) (w : World) :
    Calls Try.prog 5 #[.slice A n c] w fun e w' => e = .returned (.bool true) ∧ Below w.heap.size w w' := by
  have hn2 : (200 : Int) < (n : Int) := by omega
  clear hn
  go_enter Try.func5, Try.ntmps5
  go_wp2_with fail
  go_ret
  exact ⟨rfl, Below.refl _ _⟩
set_option maxRecDepth 100000 in
set_option maxHeartbeats 4000000 in
theorem ulaw_bad (n c : Nat) (A : Option Addr) (k : Int) (hk : k ≠ 0) (hn : n ≤ 200) (cells : List Value)
    (HR : Hid (∀ w, RowAt w A cells → Calls Try.prog 15 #[.slice A n c] w (IntsOut [] (.int .i64 k) w)))
    (HC : Hid (∀ w, RowAt w A cells → Calls Try.prog 18 #[.slice A n c] w (SliceOut w n cells)))
    (HE : Hid (∀ A c w, RowAt w A cells → Calls Try.prog 26 #[.slice A n c] w (IntsOut [] (errv k) w)))
    (w : World) (ha : RowAt w A cells) :
    Calls Try.prog 5 #[.slice A n c] w fun e w' => e = .returned (.bool true) ∧ Below w.heap.size w w' := by
  have HA := Lib.hid ha
  have hn2 : ¬ (200 : Int) < (n : Int) := by omega
  have k2 : (k != 0) = true := by rw [bne_iff_ne]; exact hk
  have k3 : (k != k) = false := by simp
  clear hk hn ha
  go_enter Try.func5, Try.ntmps5
  go_wp2_with fail
  (with_reducible refine (HR.out _ HA.out).mono ?_)
  rintro e w1 ⟨A1, c1, rfl, R1, B1⟩
  have BW1 := Lib.hid (B1)
  have HA1 := Lib.hid (HA.out.below B1 (Nat.le_refl _))
  have RL := Lib.hid R1
  clear R1 B1
  go_wp2_with fail
  (with_reducible refine (HC.out _ HA1.out).mono ?_)
  rintro e w2 ⟨A2, c2, rfl, R2, B2⟩
  have BW2 := Lib.hid (bkeep BW1.out B2)
  have HA2 := Lib.hid (HA1.out.below B2 (Nat.le_refl _))
  have RC := Lib.hid R2
  have RL2 := Lib.hid (RL.out.below B2 (Nat.le_refl _))
  clear R2 B2
  go_wp2_with fail
  (with_reducible refine (HE.out _ _ _ RC.out).mono ?_)
  rintro e w3 ⟨A3, c3, rfl, R3, B3⟩
  have BW3 := Lib.hid (bkeep BW2.out B3)
  have HA3 := Lib.hid (HA2.out.below B3 (Nat.le_refl _))
  have RX := Lib.hid R3
  have RL3 := Lib.hid (RL2.out.below B3 (Nat.le_refl _))
  clear R3 B3
  go_wp2_with fail
  (with_reducible refine (awake_any _).mono ?_)
  rintro e w4 ⟨rfl, B4⟩
  have BW4 := Lib.hid (bkeep BW3.out B4); have HA4 := Lib.hid (HA3.out.below B4 (Nat.le_refl _)); have RX4 := Lib.hid (RX.out.below B4 (Nat.le_refl _)); have RL4 := Lib.hid (RL3.out.below B4 (Nat.le_refl _))
  clear B4
  go_wp2_with fail
  (with_reducible refine (num_any _ _).mono ?_)
  rintro e wn ⟨rfl, rfl⟩
  go_wp2_with fail
  go_ret
  exact ⟨rfl, BW4.out⟩
set_option maxRecDepth 100000 in
set_option maxHeartbeats 4000000 in
theorem ulaw_nil (n c : Nat) (A : Option Addr) (h0 : n = 0) (hn : n ≤ 200) (cells : List Value)
    (HR : Hid (∀ w, RowAt w A cells → Calls Try.prog 15 #[.slice A n c] w (IntsOut [] (.int .i64 0) w)))
    (HC : Hid (∀ w, RowAt w A cells → Calls Try.prog 18 #[.slice A n c] w (SliceOut w n cells)))
    (HE : Hid (∀ A c w, RowAt w A cells → Calls Try.prog 26 #[.slice A n c] w (IntsOut [] (errv 0) w)))
    (w : World) (ha : RowAt w A cells) :
    Calls Try.prog 5 #[.slice A n c] w fun e w' => e = .returned (.bool true) ∧ Below w.heap.size w w' := by
  have HA := Lib.hid ha
  have hn2 : ¬ (200 : Int) < (n : Int) := by omega
  subst h0
  clear hn ha
  go_enter Try.func5, Try.ntmps5
  go_wp2_with fail
  (with_reducible refine (HR.out _ HA.out).mono ?_)
  rintro e w1 ⟨A1, c1, rfl, R1, B1⟩
  have BW1 := Lib.hid (B1)
  have HA1 := Lib.hid (HA.out.below B1 (Nat.le_refl _))
  have RL := Lib.hid R1
  clear R1 B1
  go_wp2_with fail
  (with_reducible refine (HC.out _ HA1.out).mono ?_)
  rintro e w2 ⟨A2, c2, rfl, R2, B2⟩
  have BW2 := Lib.hid (bkeep BW1.out B2)
  have HA2 := Lib.hid (HA1.out.below B2 (Nat.le_refl _))
  have RC := Lib.hid R2
  have RL2 := Lib.hid (RL.out.below B2 (Nat.le_refl _))
  clear R2 B2
  go_wp2_with fail
  (with_reducible refine (HE.out _ _ _ RC.out).mono ?_)
  rintro e w3 ⟨A3, c3, rfl, R3, B3⟩
  have BW3 := Lib.hid (bkeep BW2.out B3)
  have HA3 := Lib.hid (HA2.out.below B3 (Nat.le_refl _))
  have RX := Lib.hid R3
  have RL3 := Lib.hid (RL2.out.below B3 (Nat.le_refl _))
  clear R3 B3
  go_wp2_with fail
  (with_reducible refine (awake_any _).mono ?_)
  rintro e w4 ⟨rfl, B4⟩
  have BW4 := Lib.hid (bkeep BW3.out B4); have HA4 := Lib.hid (HA3.out.below B4 (Nat.le_refl _)); have RX4 := Lib.hid (RX.out.below B4 (Nat.le_refl _)); have RL4 := Lib.hid (RL3.out.below B4 (Nat.le_refl _))
  clear B4
  go_wp2_with fail
  (with_reducible refine (num_any _ _).mono ?_)
  rintro e wn ⟨rfl, rfl⟩
  go_wp2_with fail
  go_ret
  exact ⟨rfl, BW4.out⟩
set_option maxRecDepth 100000 in
set_option maxHeartbeats 4000000 in
theorem ulaw_ok (n c : Nat) (A : Option Addr) (g : List Rl) (hcg : g.length = n) (h0 : gcode 0 g = 0) (m : Nat) (hm : n = m + 1) (L U : List Int) (hL : L.length = n) (T : Int) (hLm : L.getD m 0 = T) (hT : T ≤ 1152921504606846976) (hI : UInv g n T 0 U) (hn : n ≤ 200) (cells : List Value) (hcells : cells = gc g)
    (HR : Hid (∀ w, RowAt w A cells → Calls Try.prog 15 #[.slice A n c] w (IntsOut L (.int .i64 0) w)))
    (HC : Hid (∀ w, RowAt w A cells → Calls Try.prog 18 #[.slice A n c] w (SliceOut w n cells)))
    (HE : Hid (∀ A c w, RowAt w A cells → Calls Try.prog 26 #[.slice A n c] w (IntsOut U (errv 0) w)))
    (HP : Hid (∀ w, RowAt w A cells → Calls Try.prog 27 #[.slice A n c] w (SliceOut w n (vi U))))
    (w : World) (ha : RowAt w A cells) :
    Calls Try.prog 5 #[.slice A n c] w fun e w' => e = .returned (.bool true) ∧ Below w.heap.size w w' := by
  have HA := Lib.hid ha
  have hn2 : ¬ (200 : Int) < (n : Int) := by omega
  subst hcells
  have HGL := Lib.hid hcg; have H0 := Lib.hid h0; have HLL := Lib.hid hL; have HLM := Lib.hid hLm; have HI := Lib.hid hI; have HM := Lib.hid hm
  have hnm : (n : Int) - 1 = (m : Int) := by omega
  have nm1 : (m : Int) < (n : Int) := by omega
  have m0 : (0 : Int) ≤ (m : Int) := by omega
  have n1 : (0 : Int) < (n : Int) := by omega
  have nz : ((n : Int) == 0) = false := by rw [beq_eq_false_iff_ne]; omega
  have nn : ((n : Int) != (n : Int)) = false := by simp
  have hsum : Hid (sm n (fun j => U.getD j 0 * ltr g j) = T ∧ ∀ j, 0 ≤ U.getD j 0 * ltr g j) := Lib.hid ⟨by rw [← hI.sum]; exact sm_congr n fun j _ => rfl, fun j => Int.mul_nonneg (hI.pos j) (ltr_pos g j)⟩
  clear hcg h0 hL hLm hI hm ha
  go_enter Try.func5, Try.ntmps5
  go_wp2_with fail
  (with_reducible refine (HR.out _ HA.out).mono ?_)
  rintro e w1 ⟨A1, c1, rfl, R1, B1⟩
  have BW1 := Lib.hid (B1)
  have HA1 := Lib.hid (HA.out.below B1 (Nat.le_refl _))
  have RL := Lib.hid R1
  clear R1 B1
  rw [HLL.out]
  go_wp2_with fail
  (with_reducible refine (HC.out _ HA1.out).mono ?_)
  rintro e w2 ⟨A2, c2, rfl, R2, B2⟩
  have BW2 := Lib.hid (bkeep BW1.out B2)
  have HA2 := Lib.hid (HA1.out.below B2 (Nat.le_refl _))
  have RC := Lib.hid R2
  have RL2 := Lib.hid (RL.out.below B2 (Nat.le_refl _))
  clear R2 B2
  go_wp2_with fail
  (with_reducible refine (HE.out _ _ _ RC.out).mono ?_)
  rintro e w3 ⟨A3, c3, rfl, R3, B3⟩
  have BW3 := Lib.hid (bkeep BW2.out B3)
  have HA3 := Lib.hid (HA2.out.below B3 (Nat.le_refl _))
  have RX := Lib.hid R3
  have RL3 := Lib.hid (RL2.out.below B3 (Nat.le_refl _))
  clear R3 B3
  rw [HI.out.len]
  go_wp2_with fail
  (with_reducible refine (awake_any _).mono ?_)
  rintro e w4 ⟨rfl, B4⟩
  have BW4 := Lib.hid (bkeep BW3.out B4); have HA4 := Lib.hid (HA3.out.below B4 (Nat.le_refl _)); have RX4 := Lib.hid (RX.out.below B4 (Nat.le_refl _)); have RL4 := Lib.hid (RL3.out.below B4 (Nat.le_refl _))
  clear B4
  go_wp2_with fail
  (with_reducible refine (num_any _ _).mono ?_)
  rintro e wn ⟨rfl, rfl⟩
  go_wp2_with fail
  go_loopw [7, 8] (fun ss si wr => ∃ (i : Nat) (s : Int), ss = .int .i64 s ∧ si = .int .i64 (i : Int) ∧ i ≤ n ∧ Hid (s = sm i (fun j => U.getD j 0 * ltr g j)) ∧ Hid (Below w4.heap.size w4 wr)) (fun _ si _ => n - (intOf si).toNat)
  case atStart => exact ⟨0, 0, rfl, rfl, by omega, Lib.hid rfl, Lib.hid (Below.refl _ _)⟩
  case round =>
    obtain ⟨i, s, rfl, rfl, hi, HS, BW⟩ := hrel
    have hml : m < L.length := by rw [HLL.out, HM.out]; omega
    obtain ⟨gl, rfl, hgl, hcl⟩ := (RL4.out.below BW.out (Nat.le_refl _)).get (vi_get hml)
    clear hcl
    have cT : wr.cell? (gl.add m) = some (.int .i64 T) := (row_cell (RL4.out.below BW.out (Nat.le_refl _)) hml).trans (by rw [HLM.out])
    have hgl2 : (gl.add m).block < wr.heap.size := by rw [block_add]; exact hgl
    have wm : IntKind.i64.wrap (m : Int) = m := IntWalk.i64_in _ ⟨by omega, by omega⟩
    by_cases hlt : i < n
    · have hil : i < U.length := by rw [HI.out.len]; exact hlt
      obtain ⟨gu, rfl, hgu, hcu⟩ := (RX4.out.below BW.out (Nat.le_refl _)).get (vi_get hil)
      clear hcu
      obtain ⟨u, hu⟩ : ∃ u, u = U.getD i 0 := ⟨_, rfl⟩
      have cu : wr.cell? (gu.add i) = some (.int .i64 u) := (row_cell (RX4.out.below BW.out (Nat.le_refl _)) hil).trans (by rw [hu])
      have hgu2 : (gu.add i).block < wr.heap.size := by rw [block_add]; exact hgu
      have u0 : ¬ u < 0 := by have := HI.out.pos i; omega
      have uT : ¬ T < u := by have := HI.out.le i; omega
      have hg2 : i < g.length := by rw [HGL.out]; exact hlt
      obtain ⟨r, hr⟩ : ∃ r, g[i]? = some r := ⟨_, List.getElem?_eq_getElem hg2⟩
      obtain ⟨ad, rfl, hadl, d0, d1, d2, d3, d4⟩ := row_rl (HA4.out.below BW.out (Nat.le_refl _)) hr
      have i0 : (0 : Int) ≤ i := by omega
      have i1 : (i : Int) < (n : Int) := by omega
      have wi : IntKind.i64.wrap (i : Int) = i := IntWalk.i64_in _ ⟨by omega, by omega⟩
      have hs1 : sm (i + 1) (fun j => U.getD j 0 * ltr g j) = s + u * ltr g i := by rw [HS.out, hu]; rfl
      have hsT : sm (i + 1) (fun j => U.getD j 0 * ltr g j) ≤ T := by rw [← hsum.out.1]; exact sm_mono n (by omega) (fun j _ => hsum.out.2 j)
      have s0 : 0 ≤ s := by rw [HS.out]; exact sm_pos i (fun j _ => hsum.out.2 j)
      rw [ltr_at hr] at hs1
      obtain ⟨kd, lt, lf, rg, tm⟩ := r
      simp only at d0 d1 d2 d3 d4 hs1
      have HR1 := Lib.hid hs1
      have BW0 := BW.out
      clear hr hu d1 d2 d3 d4
      go_upto_region 13 with fail
      refine region_lin (.val (fun v _ => v = .slice (some gu) n c3) :: .val (fun v _ => v = .int .i64 (i : Int)) :: .val (fun v _ => v = .pointer (some (gu.add i))) :: .val (fun v _ => v = .int .i64 u) :: .val (fun v _ => v = .bool false) :: .val (fun v _ => v = .bool false) :: .val (fun v _ => v = .slice (some gu) n c3) :: .val (fun v _ => v = .int .i64 (i : Int)) :: .val (fun v _ => v = .pointer (some (gu.add i))) :: .val (fun v _ => v = .int .i64 u) :: .val (fun v _ => v = .slice (some gl) n c1) :: .val (fun v _ => v = .slice (some ad) n c) :: .val (fun v _ => v = .int .i64 (n : Int)) :: .val (fun v _ => v = .int .i64 (m : Int)) :: .val (fun v _ => v = .pointer (some (gl.add m))) :: .val (fun v _ => v = .int .i64 T) :: .val (fun v _ => v = .bool false) :: .val (fun v _ => v = .bool false) :: [])
        ([] :: [] :: [(51, 0), (52, 1)] :: [(53, 2)] :: [(54, 3)] :: [(55, 4)] :: [(56, 5)] :: [(56, 5)] :: [(57, 6), (58, 7), (56, 5)] :: [(59, 8), (56, 5)] :: [(56, 5)] :: [(56, 5)] :: [(62, 11), (56, 5)] :: [(63, 12), (56, 5)] :: [(61, 10), (64, 13), (56, 5)] :: [(65, 14), (56, 5)] :: [(60, 9), (66, 15), (56, 5)] :: [(56, 5), (67, 16)] :: []) ((0, 0) :: (0, 0) :: (0, 0) :: (0, 0) :: (0, 0) :: (0, 0) :: (0, 0) :: (0, 0) :: (0, 0) :: (0, 0) :: (0, 0) :: (0, 0) :: (0, 0) :: (0, 0) :: (0, 0) :: (0, 0) :: (0, 0) :: (0, 0) :: []) 103 (by kernel_rfl) rfl rfl (by kernel_rfl) ⟨Stab.pure _ _ _, Stab.pure _ _ _, Stab.pure _ _ _, Stab.pure _ _ _, Stab.pure _ _ _, Stab.pure _ _ _, Stab.pure _ _ _, Stab.pure _ _ _, Stab.pure _ _ _, Stab.pure _ _ _, Stab.pure _ _ _, Stab.pure _ _ _, Stab.pure _ _ _, Stab.pure _ _ _, Stab.pure _ _ _, Stab.pure _ _ _, Stab.pure _ _ _, Stab.pure _ _ _, trivial⟩ ⟨?_, ?_, ?_, ?_, ?_, ?_, ?_, ?_, ?_, ?_, ?_, ?_, ?_, ?_, ?_, ?_, ?_, ?_, trivial⟩ ?_
      · intro wx hb
        intro K hK
        go_simp
        exact hK _ _ rfl ⟨rfl, Below.refl _ _⟩
      · intro wx hb
        intro K hK
        go_simp
        exact hK _ _ rfl ⟨rfl, Below.refl _ _⟩
      · intro wx hb
        rintro _ rfl
        rintro _ rfl
        intro K hK
        go_simp
        exact hK _ _ rfl ⟨rfl, Below.refl _ _⟩
      · intro wx hb
        rintro _ rfl
        intro K hK
        have zz := (hb.cell (p := gu.add i) hgu2).trans cu; go_simp; exact hK _ _ rfl ⟨rfl, Below.refl _ _⟩
      · intro wx hb
        rintro _ rfl
        intro K hK
        go_simp
        exact hK _ _ rfl ⟨rfl, Below.refl _ _⟩
      · intro wx hb
        rintro _ rfl
        intro K hK
        go_simp
        exact hK _ _ rfl ⟨rfl, Below.refl _ _⟩
      · intro wx hb
        rintro _ rfl
        refine ⟨fun _ => ?_, fun h => absurd (show true = false from h) (by decide)⟩
        intro K hK
        go_simp
        exact hK _ _ rfl ⟨rfl, Below.refl _ _⟩
      · intro wx hb
        rintro _ rfl
        refine ⟨fun _ => ?_, fun h => absurd (show true = false from h) (by decide)⟩
        intro K hK
        go_simp
        exact hK _ _ rfl ⟨rfl, Below.refl _ _⟩
      · intro wx hb
        rintro _ rfl
        rintro _ rfl
        rintro _ rfl
        refine ⟨fun _ => ?_, fun h => absurd (show true = false from h) (by decide)⟩
        intro K hK
        go_simp
        exact hK _ _ rfl ⟨rfl, Below.refl _ _⟩
      · intro wx hb
        rintro _ rfl
        rintro _ rfl
        refine ⟨fun _ => ?_, fun h => absurd (show true = false from h) (by decide)⟩
        intro K hK
        have zz := (hb.cell (p := gu.add i) hgu2).trans cu; go_simp; exact hK _ _ rfl ⟨rfl, Below.refl _ _⟩
      · intro wx hb
        rintro _ rfl
        refine ⟨fun _ => ?_, fun h => absurd (show true = false from h) (by decide)⟩
        intro K hK
        go_simp
        exact hK _ _ rfl ⟨rfl, Below.refl _ _⟩
      · intro wx hb
        rintro _ rfl
        refine ⟨fun _ => ?_, fun h => absurd (show true = false from h) (by decide)⟩
        intro K hK
        go_simp
        exact hK _ _ rfl ⟨rfl, Below.refl _ _⟩
      · intro wx hb
        rintro _ rfl
        rintro _ rfl
        refine ⟨fun _ => ?_, fun h => absurd (show true = false from h) (by decide)⟩
        intro K hK
        go_simp
        exact hK _ _ rfl ⟨rfl, Below.refl _ _⟩
      · intro wx hb
        rintro _ rfl
        rintro _ rfl
        refine ⟨fun _ => ?_, fun h => absurd (show true = false from h) (by decide)⟩
        intro K hK
        go_simp
        exact hK _ _ rfl ⟨rfl, Below.refl _ _⟩
      · intro wx hb
        rintro _ rfl
        rintro _ rfl
        rintro _ rfl
        refine ⟨fun _ => ?_, fun h => absurd (show true = false from h) (by decide)⟩
        intro K hK
        go_simp
        exact hK _ _ rfl ⟨rfl, Below.refl _ _⟩
      · intro wx hb
        rintro _ rfl
        rintro _ rfl
        refine ⟨fun _ => ?_, fun h => absurd (show true = false from h) (by decide)⟩
        intro K hK
        have zz := (hb.cell (p := gl.add m) hgl2).trans cT; go_simp; exact hK _ _ rfl ⟨rfl, Below.refl _ _⟩
      · intro wx hb
        rintro _ rfl
        rintro _ rfl
        rintro _ rfl
        refine ⟨fun _ => ?_, fun h => absurd (show true = false from h) (by decide)⟩
        intro K hK
        go_simp
        exact hK _ _ rfl ⟨rfl, Below.refl _ _⟩
      · intro wx hb
        rintro _ rfl
        rintro _ rfl
        intro K hK
        go_simp
        exact hK _ _ rfl ⟨rfl, Below.refl _ _⟩
      intro w5 B5
      have BW0 := bkeep BW0 B5
      rintro _ rfl
      rintro _ rfl
      rintro _ rfl
      rintro _ rfl
      rintro _ rfl
      rintro _ rfl
      rintro _ rfl
      rintro _ rfl
      rintro _ rfl
      rintro _ rfl
      rintro _ rfl
      rintro _ rfl
      rintro _ rfl
      rintro _ rfl
      rintro _ rfl
      rintro _ rfl
      rintro _ rfl
      rintro _ rfl
      rintro -
      simp only [Act.put, List.setIfInBounds_toArray, List.set_cons_zero, List.set_cons_succ, List.toList_toArray, List.length_cons, List.length_nil, List.drop_succ_cons, List.drop_zero, List.drop_nil, Nat.zero_add, wpList]
      have c0' := (B5.cell (p := ad.add (i * 5)) (by rw [block_add]; exact hadl)).trans d0
      have cu' := (B5.cell (p := gu.add i) hgu2).trans cu
      have cT' := (B5.cell (p := gl.add m) hgl2).trans cT
      have ha5 : ad.block < w5.heap.size := by have := B5.size; omega
      clear B5 d0 cu cT BW
      by_cases hk : kd = 1
      · rw [if_pos hk, Int.mul_one] at hs1
        have HS2 : Hid (s + u = sm (i + 1) (fun j => U.getD j 0 * ltr g j)) := Lib.hid hs1.symm
        have sT : ¬ T < s + u := by omega
        have ws : IntKind.i64.wrap (s + u) = s + u := IntWalk.i64_in _ ⟨by omega, by omega⟩
        subst hk
        clear hs1 hsT HR1 HS
        go_wp2_with fail
        go_roundw
        case rel => exact ⟨i + 1, s + u, by go_num, by go_num, by omega, HS2, Lib.hid BW0⟩
        case measure => simp [intOf] <;> omega
      · rw [if_neg hk, Int.mul_zero, Int.add_zero] at hs1
        have HS2 : Hid (s = sm (i + 1) (fun j => U.getD j 0 * ltr g j)) := Lib.hid hs1.symm
        have sT : ¬ T < s := by omega
        have kq : (kd == 1) = false := by rw [beq_eq_false_iff_ne]; exact hk
        clear hs1 hsT HR1 HS hk
        go_wp2_with fail
        go_roundw
        case rel => exact ⟨i + 1, s, rfl, by go_num, by omega, HS2, Lib.hid BW0⟩
        case measure => simp [intOf] <;> omega
    · obtain rfl : i = n := by omega
      obtain rfl : s = T := HS.out.trans hsum.out.1
      have BW0 := Lib.hid BW.out
      have HA5 := Lib.hid (HA4.out.below BW.out (Nat.le_refl _)); have RX5 := Lib.hid (RX4.out.below BW.out (Nat.le_refl _)); have BW5 := Lib.hid (bkeep BW4.out BW.out)
      have ss : (s == s) = true := by simp
      clear HS BW
      go_wp2_with fail
      (with_reducible refine (HP.out _ HA5.out).mono ?_)
      rintro e w6 ⟨A6, c6, rfl, R6, B6⟩
      have BW6 := Lib.hid (bkeep BW5.out B6); have RX6 := Lib.hid (RX5.out.below B6 (Nat.le_refl _)); have RY := Lib.hid R6
      clear R6 B6
      go_wp2_with fail
      (with_reducible refine (ints_same U i _ _ _ _ HI.out.len (by omega) _ RX6.out RY.out).mono ?_)
      rintro e w7 ⟨rfl, B7⟩
      have BW7 := Lib.hid (bkeep BW6.out B7)
      clear B7
      go_wp2_with fail
      go_ret
      exact ⟨rfl, BW7.out⟩
theorem law_uses (g : List Rl) (n c : Nat) (A : Option Addr) (hl : g.length = n) (w : World) (ha : RowAt w A (gc g)) :
    Calls Try.prog 5 #[.slice A n c] w fun e w' => e = .returned (.bool true) ∧ Below w.heap.size w w' := by
  by_cases hn : n ≤ 200
  · have HR := fun w h => rlengths_any g n c A hl (by omega) w h
    have HC := Lib.hid fun w h => copied_any g n c A hl (by omega) w h
    have HE := fun A c w h => uses_any g n c A hl (by omega) w h
    by_cases h0 : (lens g).2 = 0
    · have hg := lens_g h0
      obtain ⟨t1, t2⟩ := lens_text hg h0
      rw [h0] at HR
      have e : useOut g = (uses g, 0) := by unfold useOut; rw [if_neg (by simp [h0])]
      rw [e] at HE
      have hI := inv_uses g hg
      rw [hl] at hI
      by_cases hz : n = 0
      · have el : (lens g).1 = [] := List.eq_nil_of_length_eq_zero (by omega)
        have eu : uses g = [] := List.eq_nil_of_length_eq_zero (by rw [hI.len]; exact hz)
        rw [el] at HR; rw [eu] at HE
        exact ulaw_nil n c A hz hn (gc g) (Lib.hid HR) HC (Lib.hid HE) w ha
      · obtain ⟨m, hm⟩ : ∃ m, n = m + 1 := ⟨n - 1, by omega⟩
        have hgm : g.length - 1 = m := by omega
        have hr : g[m]? = some (g[m]'(by omega)) := List.getElem?_eq_getElem _
        have ht : tot g = ln g m := by unfold tot; rw [if_neg (by omega), hgm]
        have hlm : (lens g).1.getD m 0 = tot g := by rw [ht]; exact t2 m _ hr
        exact ulaw_ok n c A g hl hg m hm _ _ (by omega) _ hlm (tot_le h0) hI hn _ rfl (Lib.hid HR) HC (Lib.hid HE) (Lib.hid fun w h => ruses_any g n c A hl (by omega) hg _ rfl (tot_le h0) w h) w ha
    · have e : useOut g = ([], (lens g).2) := by unfold useOut; rw [if_pos h0]
      rw [e] at HE; rw [lens_nil h0] at HR
      exact ulaw_bad n c A _ h0 hn (gc g) (Lib.hid HR) HC (Lib.hid HE) w ha
  · exact ulaw_long n c A (by omega) w
end Go.Proofs.Ytcbahojefglakaa
