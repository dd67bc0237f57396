/- Expand at every grammar; Plain; awake. -/
import Derived.Test.YtcbahojefglakaaGrPlainFn
import Derived.Test.YtcbahojefglakaaSameBytes
namespace Go.Proofs.Ytcbahojefglakaa
set_option linter.unusedVariables false
set_option linter.unusedSimpArgs false
open Go.RowKit Go.Lib
attribute [local go_sem ↓] Go.wp_at_zero Go.wp_at_succ
def exOut (g : List Rl) (most : Int) : List Int × Int :=
  if (lens g).2 ≠ 0 then ([], (lens g).2) else if g.length = 0 then ([], 0) else if clipI most 0 65536 < (tx g (g.length - 1)).length then ([], 9) else (tx g (g.length - 1), 0)
theorem lens_g {g : List Rl} (h : (lens g).2 = 0) : gcode 0 g = 0 := by
  by_cases h0 : gcode 0 g = 0
  · exact h0
  · rw [lens_bad h0] at h; exact h
theorem clip_hi (n : Int) : 0 ≤ clipI n 0 65536 ∧ clipI n 0 65536 ≤ 65536 := by unfold clipI; split <;> (try split) <;> omega
set_option maxRecDepth 100000 in
set_option maxHeartbeats 4000000 in
theorem expand_bad (n c : Nat) (A : Option Addr) (Ls : List Int) (k most : Int) (cells : List Value) (hk : k ≠ 0)
    (HLC : Hid (∀ w, RowAt w A cells → Calls Try.prog 45 #[.slice A n c] w (IntsOut Ls (errv k) w))) (w : World) (ha : RowAt w A cells) :
    Calls Try.prog 17 #[.slice A n c, .int .i64 most] w (BytesOut [] (errv k) w) := by
  rw [errv_pos k hk] at HLC ⊢
  have HA := Lib.hid ha
  clear ha hk
  go_enter Try.func17, Try.ntmps17
  go_wp2_with fail
  (with_reducible refine (HLC.out _ HA.out).mono ?_)
  rintro e w1 ⟨A1, c1, rfl, R1, B1⟩
  have BW1 := Lib.hid B1
  clear R1 B1
  go_wp2_with fail
  go_ret2
  exact ⟨none, 0, rfl, RowAt.nil _ _, BW1.out⟩
set_option maxRecDepth 100000 in
set_option maxHeartbeats 4000000 in
theorem expand_nil (c : Nat) (A : Option Addr) (most : Int) (cells : List Value)
    (HLC : Hid (∀ w, RowAt w A cells → Calls Try.prog 45 #[.slice A 0 c] w (IntsOut [] .nilIface w))) (w : World) (ha : RowAt w A cells) :
    Calls Try.prog 17 #[.slice A 0 c, .int .i64 most] w (BytesOut [] .nilIface w) := by
  have HA := Lib.hid ha
  clear ha
  go_enter Try.func17, Try.ntmps17
  go_wp2_with fail
  (with_reducible refine (HLC.out _ HA.out).mono ?_)
  rintro e w1 ⟨A1, c1, rfl, R1, B1⟩
  have BW1 := Lib.hid B1
  clear R1 B1
  go_wp2_with fail
  go_ret2
  exact ⟨none, 0, rfl, RowAt.nil _ _, BW1.out⟩
set_option maxRecDepth 100000 in
set_option maxHeartbeats 4000000 in
theorem expand_large (n m c N : Nat) (A : Option Addr) (L : List Int) (most : Int) (cells : List Value) (hm : n = m + 1) (hn : n ≤ 1000000) (hL : L.length = n) (hLm : L.getD m 0 = N) (hmost : clipI most 0 65536 < N)
    (HLC : Hid (∀ w, RowAt w A cells → Calls Try.prog 45 #[.slice A n c] w (IntsOut L .nilIface w))) (w : World) (ha : RowAt w A cells) :
    Calls Try.prog 17 #[.slice A n c, .int .i64 most] w (BytesOut [] (.iface 50 (.int .i64 9)) w) := by
  obtain ⟨q, hq⟩ : ∃ q, q = clipI most 0 65536 := ⟨_, rfl⟩
  have HC := Lib.hid (fun w => clip_any most 0 65536 w)
  rw [← hq] at HC hmost
  have HA := Lib.hid ha; have HLL := Lib.hid hL; have HLM := Lib.hid hLm
  have hn0 : ((n : Int) == 0) = false := by rw [beq_eq_false_iff_ne]; omega
  have hnm : (n : Int) - 1 = (m : Int) := by omega
  have HM := Lib.hid hm
  have nm1 : (m : Int) < (n : Int) := by omega
  have m0 : (0 : Int) ≤ (m : Int) := by omega
  have n1 : (1 : Int) ≤ (n : Int) := by omega
  clear hq ha hL hLm hm
  go_enter Try.func17, Try.ntmps17
  go_wp2_with fail
  (with_reducible refine (HLC.out _ HA.out).mono ?_)
  rintro e w1 ⟨A1, c1, rfl, R1, B1⟩
  rw [HLL.out]
  have hml : m < L.length := by rw [HLL.out, HM.out]; omega
  obtain ⟨a1, rfl, ha1, ca1⟩ := R1.get (vi_get hml)
  have cm : w1.cell? (a1.add m) = some (.int .i64 (N : Int)) := (row_cell R1 hml).trans (by rw [HLM.out])
  have BW1 := Lib.hid B1
  clear R1 B1 ca1 hml
  go_wp2_with fail
  (with_reducible refine (HC.out _).mono ?_)
  rintro e w' ⟨rfl, rfl⟩
  go_wp2_with fail
  go_ret2
  exact ⟨none, 0, rfl, RowAt.nil _ _, BW1.out⟩
theorem expand_any (g : List Rl) (n c : Nat) (A : Option Addr) (hl : g.length = n) (hn : n ≤ 1000000) (most : Int) (w : World) (ha : RowAt w A (gc g)) :
    Calls Try.prog 17 #[.slice A n c, .int .i64 most] w (BytesOut (exOut g most).1 (errv (exOut g most).2) w) := by
  have HC := fun w h => lengths_out g n c A hl hn w h
  by_cases h0 : (lens g).2 = 0
  · obtain ⟨t1, t2⟩ := lens_text (lens_g h0) h0
    rw [h0] at HC
    by_cases hz : g.length = 0
    · have hn0 : n = 0 := by omega
      subst hn0
      have e : exOut g most = ([], 0) := by unfold exOut; rw [if_neg (by simp [h0]), if_pos hz]
      have el : (lens g).1 = [] := List.eq_nil_of_length_eq_zero (by omega)
      rw [el] at HC
      rw [e]
      exact expand_nil c A most (gc g) (Lib.hid HC) w ha
    · obtain ⟨m, hm⟩ : ∃ m, n = m + 1 := ⟨n - 1, by omega⟩
      have hgm : g.length - 1 = m := by omega
      have hr : g[m]? = some (g[m]'(by omega)) := List.getElem?_eq_getElem _
      have hlm := t2 m _ hr
      by_cases hq : clipI most 0 65536 < (tx g m).length
      · have e : exOut g most = ([], 9) := by unfold exOut; rw [if_neg (by simp [h0]), if_neg hz, hgm, if_pos hq]
        rw [e]
        exact expand_large n m c (tx g m).length A (lens g).1 most (gc g) hm hn (by omega) hlm hq (Lib.hid HC) w ha
      · have e : exOut g most = (tx g m, 0) := by unfold exOut; rw [if_neg (by simp [h0]), if_neg hz, hgm, if_neg hq]
        rw [e]
        have := (clip_hi most).2
        exact expand_ok g n m c A hl hm hn (lens_g h0) (tx g m) rfl (by omega) most hq (lens g).1 (by omega) hlm (Lib.hid HC) w ha
  · have e : exOut g most = ([], (lens g).2) := by unfold exOut; rw [if_pos h0]
    rw [e]
    exact expand_bad n c A (lens g).1 (lens g).2 most (gc g) h0 (Lib.hid HC) w ha
def plOut (g : List Rl) : List Int × Bool :=
  if (lens g).2 ≠ 0 then ([], false) else if g.length = 0 then ([], true) else if 4096 < (tx g (g.length - 1)).length then ([], false) else (tx g (g.length - 1), true)
set_option maxRecDepth 100000 in
set_option maxHeartbeats 4000000 in
theorem rplain_any (g : List Rl) (n c : Nat) (A : Option Addr) (hl : g.length = n) (hn : n ≤ 1000000) (w : World) (ha : RowAt w A (gc g)) :
    Calls Try.prog 21 #[.slice A n c, .int .i64 (n : Int)] w (BytesOut (plOut g).1 (.bool (plOut g).2) w) := by
  have HC := fun w h => rlengths_any g n c A hl hn w h
  have n0 : ¬ (n : Int) < 0 := by omega
  by_cases h0 : (lens g).2 = 0
  · obtain ⟨t1, t2⟩ := lens_text (lens_g h0) h0
    rw [h0] at HC
    by_cases hz : g.length = 0
    · have hn0 : n = 0 := by omega
      subst hn0
      have e : plOut g = ([], true) := by unfold plOut; rw [if_neg (by simp [h0]), if_pos hz]
      rw [e]
      have HCC := Lib.hid HC; have HA := Lib.hid ha
      clear HC ha hl hz t1 t2 h0 e n0
      go_enter Try.func21, Try.ntmps21
      go_wp2_with fail
      (with_reducible refine (HCC.out _ HA.out).mono ?_)
      rintro e w1 ⟨A1, c1, rfl, R1, B1⟩
      have BW1 := Lib.hid B1
      clear R1 B1
      have hpl : ∀ w : World, Calls Try.prog 47 #[.slice A 0 c, .int .i64 0] w fun e w' => e = .returned (.slice none 0 0) ∧ w = w' := by
        intro w
        go_enter Try.func47, Try.ntmps47
        go_wp2
        go_ret
        exact ⟨rfl, rfl⟩
      have HPL := Lib.hid hpl
      clear hpl
      go_wp2_with fail
      (with_reducible refine (HPL.out _).mono ?_)
      rintro e w' ⟨rfl, rfl⟩
      go_wp2_with fail
      go_ret2
      exact ⟨none, 0, rfl, RowAt.nil _ _, BW1.out⟩
    · obtain ⟨m, hm⟩ : ∃ m, n = m + 1 := ⟨n - 1, by omega⟩
      have hgm : g.length - 1 = m := by omega
      have hr : g[m]? = some (g[m]'(by omega)) := List.getElem?_eq_getElem _
      have hlm := t2 m _ hr
      have HP := fun h w ha => plain_any g n c A hl hn (lens_g h0) m _ hr h w ha
      obtain ⟨X, hX⟩ : ∃ X, X = tx g m := ⟨_, rfl⟩
      rw [← hX] at HP hlm
      obtain ⟨N, hN⟩ : ∃ N, N = X.length := ⟨_, rfl⟩
      rw [← hN] at hlm
      have ez : plOut g = if 4096 < N then ([], false) else (X, true) := by unfold plOut; rw [if_neg (by simp [h0]), if_neg hz, hgm, ← hX, ← hN]
      have hnm : (n : Int) - 1 = (m : Int) := by omega
      have hmn : (m : Int) + 1 = (n : Int) := by omega
      rw [hmn] at HP
      have n1 : (0 : Int) < (n : Int) := by omega
      have nm1 : (m : Int) < (n : Int) := by omega
      have m0 : (0 : Int) ≤ (m : Int) := by omega
      have hLL : (lens g).1.length = n := by omega
      generalize (lens g).1 = L at HC hlm hLL
      have HLL := Lib.hid hLL; have HLM := Lib.hid hlm; have HM := Lib.hid hm
      have HCC := Lib.hid HC; have HA := Lib.hid ha; have HPP := Lib.hid HP; have HNN := Lib.hid hN
      by_cases hq : 4096 < N
      · rw [if_pos hq] at ez
        rw [ez]
        have hq2 : (4096 : Int) < (N : Int) := by omega
        clear HC ha hl hz t1 t2 h0 ez hX hN HP hr hlm hgm hm hmn hLL HPP
        go_enter Try.func21, Try.ntmps21
        go_wp2_with fail
        (with_reducible refine (HCC.out _ HA.out).mono ?_)
        rintro e w1 ⟨A1, c1, rfl, R1, B1⟩
        rw [HLL.out]
        have hml : m < L.length := by rw [HLL.out, HM.out]; omega
        obtain ⟨a1, rfl, ha1, ca1⟩ := R1.get (vi_get hml)
        have cm : w1.cell? (a1.add m) = some (.int .i64 (N : Int)) := (row_cell R1 hml).trans (by rw [HLM.out])
        have BW1 := Lib.hid B1
        clear R1 B1 ca1 hml
        go_wp2_with fail
        go_ret2
        exact ⟨none, 0, rfl, RowAt.nil _ _, BW1.out⟩
      · rw [if_neg hq] at ez
        rw [ez]
        have hq2 : ¬ (4096 : Int) < (N : Int) := by omega
        have HPQ := Lib.hid (HPP.out (by rw [← HNN.out]; omega))
        clear HC ha hl hz t1 t2 h0 ez hX hN HP hr hlm hgm hm hmn hLL HPP
        go_enter Try.func21, Try.ntmps21
        go_wp2_with fail
        (with_reducible refine (HCC.out _ HA.out).mono ?_)
        rintro e w1 ⟨A1, c1, rfl, R1, B1⟩
        rw [HLL.out]
        have hml : m < L.length := by rw [HLL.out, HM.out]; omega
        obtain ⟨a1, rfl, ha1, ca1⟩ := R1.get (vi_get hml)
        have cm : w1.cell? (a1.add m) = some (.int .i64 (N : Int)) := (row_cell R1 hml).trans (by rw [HLM.out])
        have BW1 := Lib.hid B1
        have HA1 := Lib.hid (HA.out.below B1 (Nat.le_refl _))
        clear R1 B1 ca1 hml
        go_wp2_with fail
        (with_reducible refine (HPQ.out _ HA1.out).mono ?_)
        rintro e w2 ⟨A2, c2, rfl, O2, B2⟩
        have HO2 := Lib.hid O2
        have BW2 := Lib.hid (bkeep BW1.out B2)
        clear O2 B2
        go_wp2_with fail
        go_ret2
        exact ⟨A2, c2, rfl, own_row _ HO2.out, BW2.out⟩
  · have e : plOut g = ([], false) := by unfold plOut; rw [if_pos h0]
    rw [e]
    generalize (lens g).2 = k at HC h0
    generalize (lens g).1 = L at HC
    have kn : (k != 0) = true := by rw [bne_iff_ne]; exact h0
    have HCC := Lib.hid HC; have HA := Lib.hid ha
    clear HC ha hl h0 e
    go_enter Try.func21, Try.ntmps21
    go_wp2_with fail
    (with_reducible refine (HCC.out _ HA.out).mono ?_)
    rintro e w1 ⟨A1, c1, rfl, R1, B1⟩
    have BW1 := Lib.hid B1
    clear R1 B1
    go_wp2_with fail
    go_ret2
    exact ⟨none, 0, rfl, RowAt.nil _ _, BW1.out⟩
def G4 : List Rl := [⟨1, 97, 0, 0, 0⟩, ⟨1, 98, 0, 0, 0⟩, ⟨2, 0, 1, 2, 0⟩, ⟨3, 0, 3, 0, 3⟩]
theorem ex_G4 : exOut G4 6 = ([97, 98, 97, 98, 97, 98], 0) := by decide
set_option maxHeartbeats 4000000 in
theorem awake_any (w : World) : Calls Try.prog 19 #[] w fun e w' => e = .returned (.bool true) ∧ Below w.heap.size w w' := by
  have he := fun c A w h => expand_any G4 4 c A rfl (by omega) 6 w h
  rw [ex_G4] at he
  have HE := Lib.hid he
  clear he
  go_enter Try.func19, Try.ntmps19
  go_wp2_with fail
  (with_reducible refine (HE.out _ _ _ ?row).mono ?_)
  case row => exact RowAt.new _ _ _ (by simp) rfl
  rintro e w1 ⟨A1, c1, rfl, R1, B1⟩
  rw [errv_zero]
  have hcv := run_conv_row [97, 98, 97, 98, 97, 98] 6 c1 A1 rfl w1 R1
  have es : strOfNums [97, 98, 97, 98, 97, 98] = ⟨#[97, 98, 97, 98, 97, 98]⟩ := rfl
  rw [es] at hcv
  have HB := Lib.hid ((balloc (Below.refl w.heap.size w) _).trans (B1.mono (by simp)))
  clear es R1 B1
  go_wp2_with fail
  go_ret
  exact ⟨rfl, HB.out⟩
end Go.Proofs.Ytcbahojefglakaa
