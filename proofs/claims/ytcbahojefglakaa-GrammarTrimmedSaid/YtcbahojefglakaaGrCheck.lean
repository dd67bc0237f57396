/- The walks of evergreenlaw11.copied, evergreenref11.Rule, Check and of grammar.Check. -/
import Derived.Test.YtcbahojefglakaaRl
import Derived.Test.YtcbahojefglakaaRuleCheck
import Derived.Test.YtcbahojefglakaaAppend
namespace Go.Proofs.Ytcbahojefglakaa
set_option linter.unusedVariables false
set_option linter.unusedSimpArgs false
open Go.RowKit Go.Lib
def rc (r : Rl) (n : Int) : Int := checkCode r.kd r.lt r.lf r.rg r.tm n
/-- the code of the first rule that is not valid; i rules stand before -/
def gcode : Nat → List Rl → Int
  | _, [] => 0
  | i, r :: g => if rc r (i + 1) = 0 then gcode (i + 1) g else rc r (i + 1)
theorem drop_of {α : Type} {g : List α} {i : Nat} {r : α} (h : g[i]? = some r) : g.drop i = r :: g.drop (i + 1) := by
  obtain ⟨hi, e⟩ := List.getElem?_eq_some_iff.1 h
  rw [List.drop_eq_getElem_cons hi, e]
theorem gcode_ok {g : List Rl} {i : Nat} {r : Rl} (h : g[i]? = some r) (h0 : rc r (i + 1) = 0) : gcode i (g.drop i) = gcode (i + 1) (g.drop (i + 1)) := by
  rw [drop_of h]; show (if rc r (i + 1) = 0 then _ else _) = _; rw [if_pos h0]
theorem gcode_bad {g : List Rl} {i : Nat} {r : Rl} (h : g[i]? = some r) (h0 : rc r (i + 1) ≠ 0) : gcode i (g.drop i) = rc r (i + 1) := by
  rw [drop_of h]; show (if rc r (i + 1) = 0 then _ else _) = _; rw [if_neg h0]
theorem gcode_end {g : List Rl} {i : Nat} (h : g.length ≤ i) : gcode i (g.drop i) = 0 := by rw [List.drop_eq_nil_of_le h]; rfl
set_option maxHeartbeats 1000000 in
theorem check_g (g : List Rl) (n c : Nat) (A : Option Addr) (hl : g.length = n) (hn : n ≤ 140737488355328) (w : World) (ha : RowAt w A (gc g)) :
    Calls Try.prog 42 #[.slice A n c] w fun e w' => e = .returned (errv (gcode 0 g)) ∧ Below w.heap.size w w' := by
  have HA := Lib.hid ha; have HL := Lib.hid hl
  clear ha hl
  go_enter Try.func42, Try.ntmps42
  go_wp2_with fail
  go_loopw [3, 4, 5, 8] (fun _ _ _ si wr => ∃ i : Nat, si = .int .i64 (i : Int) ∧ i ≤ n ∧ Hid (gcode i (g.drop i) = gcode 0 g) ∧ Hid (Below w.heap.size w wr)) (fun _ _ _ si _ => n - (intOf si).toNat)
  case atStart => exact ⟨0, rfl, by omega, Lib.hid rfl, Lib.hid (Below.refl _ _)⟩
  case round =>
    obtain ⟨i, rfl, hi, HG, BW⟩ := hrel
    by_cases hlt : i < n
    · have hil : i < g.length := by rw [HL.out]; exact hlt
      obtain ⟨r, hr⟩ : ∃ r, g[i]? = some r := ⟨_, List.getElem?_eq_getElem hil⟩
      obtain ⟨ad, rfl, hadl, c0, c1, c2, c3, c4⟩ := row_rl (HA.out.below BW.out (Nat.le_refl _)) hr
      have HC := fun w => check_any r.kd r.lt r.lf r.rg r.tm (i + 1) (by omega) (by omega) w
      obtain ⟨k, hk⟩ : ∃ k, k = rc r (i + 1) := ⟨_, rfl⟩
      rw [show checkCode r.kd r.lt r.lf r.rg r.tm (i + 1) = k from hk.symm] at HC
      have HCC := Lib.hid HC; have HK := Lib.hid hk
      obtain ⟨kd, lt, lf, rg, tm⟩ := r
      simp only at c0 c1 c2 c3 c4
      have i0 : (0 : Int) ≤ i := by omega
      have i1 : (i : Int) < (n : Int) := by omega
      have HR := Lib.hid hr
      have HB := Lib.hid (balloc BW.out (.cells #[.int .i64 kd, .int .u8 lt, .int .i64 lf, .int .i64 rg, .int .i64 tm] 46))
      clear hr HC hk
      go_wp2_with fail
      (with_reducible refine (HCC.out _).mono ?_)
      rintro e w1 ⟨rfl, B1⟩
      have BW1 := Lib.hid (bkeep HB.out B1)
      clear B1
      by_cases k0 : k = 0
      · subst k0
        rw [errv_zero]
        have HG2 := Lib.hid ((gcode_ok HR.out HK.out.symm).symm.trans HG.out)
        clear HK HCC HG
        go_wp2_with fail
        go_roundw
        case rel => exact ⟨i + 1, by go_num, by omega, HG2, BW1⟩
        case measure => simp [intOf]; omega
      · rw [errv_pos k k0]
        have HG2 := Lib.hid (HG.out.symm.trans ((gcode_bad HR.out (by rw [← HK.out]; exact k0)).trans HK.out.symm))
        clear HG HCC
        go_wp2_with fail
        go_ret
        exact ⟨by rw [HG2.out, errv_pos k k0]; rfl, BW1.out⟩
    · obtain rfl : i = n := by omega
      have HG2 := Lib.hid (HG.out.symm.trans (gcode_end (by rw [HL.out]; exact Nat.le_refl _)))
      clear HG
      go_wp2_with fail
      go_ret
      exact ⟨by rw [HG2.out]; rfl, BW.out⟩
theorem earlier_any (x n : Int) (n0 : -9223372036854775808 < n) (w : World) : Calls Try.prog 68 #[.int .i64 x, .int .i64 n] w fun e w' => e = .returned (.bool (inB n x)) ∧ w = w' := by
  by_cases h1 : 1 ≤ x
  · by_cases h2 : x < n
    · have h : inB n x = true := by unfold inB; simp; omega
      rw [h]
      clear h
      go_enter Try.func68, Try.ntmps68
      go_wp2
      go_ret
      exact ⟨rfl, rfl⟩
    · have h : inB n x = false := by unfold inB; simp; omega
      rw [h]
      clear h
      go_enter Try.func68, Try.ntmps68
      go_wp2
      go_ret
      exact ⟨rfl, rfl⟩
  · have h : inB n x = false := by unfold inB; simp; omega
    rw [h]
    clear h
    go_enter Try.func68, Try.ntmps68
    go_wp2
    go_ret
    exact ⟨rfl, rfl⟩
set_option maxHeartbeats 4000000 in
theorem rule_any (kd lt lf rg tm n : Int) (n0 : -9223372036854775808 < n) (n1 : n ≤ 9223372036854775807) (w : World) :
    Calls Try.prog 49 #[.agg #[.int .i64 kd, .int .u8 lt, .int .i64 lf, .int .i64 rg, .int .i64 tm], .int .i64 n] w fun e w' => e = .returned (.int .i64 (checkCode kd lt lf rg tm n)) ∧ Below w.heap.size w w' := by
  have nb : ∀ a : Int, (a == 0) = true → (a != 0) = false := fun a h => by simp at h; simp [h]
  have nc : ∀ a : Int, (a == 0) = false → (a != 0) = true := fun a h => by simp at h; simp [h]
  have HB := fun (w : World) (c : Array Value) => Lib.hid (balloc (Below.refl w.heap.size w) (.cells c 46))
  rcases form_way kd lt lf rg tm with ⟨rfl, a, b, c, f⟩ | ⟨rfl, a, f⟩ | ⟨rfl, a, b, f⟩ | ⟨rfl, a, b, c, f⟩ | ⟨rfl, a, b, f⟩ | ⟨rfl, a, f⟩ | ⟨rfl, a, b, f⟩ | ⟨rfl, a, b, c, f⟩ | ⟨rfl, a, f⟩ | ⟨rfl, a, b, f⟩ | ⟨rfl, a, b, c, f⟩ | ⟨a, b, c, f⟩
  case inl =>
    have a' := nb _ a; have b' := nb _ b; have c' := nb _ c
    have HF := Lib.hid (check_ok (n := n) f)
    clear a b c f nb nc
    by_cases hn : n < 1
    · have HQ := Lib.hid (HF.out.trans (show placeCode (refsOf 1 lf rg) n = 1 by unfold placeCode rangedB; simp; omega))
      clear HF
      generalize checkCode 1 lt lf rg tm n = k at HQ ⊢
      go_enter Try.func49, Try.ntmps49
      go_wp2_with fail
      go_ret
      exact ⟨by rw [HQ.out]; rfl, (HB _ _).out⟩
    · have HQ := Lib.hid (HF.out.trans (show placeCode (refsOf 1 lf rg) n = 0 by unfold placeCode rangedB; simp [refsOf]; omega))
      clear HF
      generalize checkCode 1 lt lf rg tm n = k at HQ ⊢
      go_enter Try.func49, Try.ntmps49
      go_wp2_with fail
      go_ret
      exact ⟨by rw [HQ.out]; rfl, (HB _ _).out⟩
  case inr.inr.inr.inr.inl =>
    have a' := nb _ a; have b' := nb _ b
    have HF := Lib.hid (check_ok (n := n) f)
    clear a b f nb nc
    have e1 := fun w => earlier_any lf n n0 w
    have e2 := fun w => earlier_any rg n n0 w
    by_cases hn : n < 1
    · have HQ := Lib.hid (HF.out.trans (show placeCode (refsOf 2 lf rg) n = 1 by unfold placeCode rangedB; simp; omega))
      clear HF e1 e2
      generalize checkCode 2 lt lf rg tm n = k at HQ ⊢
      go_enter Try.func49, Try.ntmps49
      go_wp2_with fail
      go_ret
      exact ⟨by rw [HQ.out]; rfl, (HB _ _).out⟩
    · cases h1 : inB n lf with
      | false =>
        have HQ := Lib.hid (HF.out.trans (show placeCode (refsOf 2 lf rg) n = 1 by unfold placeCode rangedB; simp [refsOf, h1]))
        rw [h1] at e1
        have HE1 := Lib.hid e1
        clear HF e1 e2 h1
        generalize checkCode 2 lt lf rg tm n = k at HQ ⊢
        go_enter Try.func49, Try.ntmps49
        go_wp2_with fail
        (with_reducible refine (HE1.out _).mono ?_)
        rintro e w' ⟨rfl, rfl⟩
        go_wp2_with fail
        go_ret
        exact ⟨by rw [HQ.out]; rfl, (HB _ _).out⟩
      | true =>
        rw [h1] at e1
        have HE1 := Lib.hid e1
        cases h2 : inB n rg with
        | false =>
          have HQ := Lib.hid (HF.out.trans (show placeCode (refsOf 2 lf rg) n = 1 by unfold placeCode rangedB; simp [refsOf, h1, h2]))
          rw [h2] at e2
          have HE2 := Lib.hid e2
          clear HF e1 e2 h1 h2
          generalize checkCode 2 lt lf rg tm n = k at HQ ⊢
          go_enter Try.func49, Try.ntmps49
          go_wp2_with fail
          (with_reducible refine (HE1.out _).mono ?_)
          rintro e w' ⟨rfl, rfl⟩
          go_wp2_with fail
          (with_reducible refine (HE2.out _).mono ?_)
          rintro e w' ⟨rfl, rfl⟩
          go_wp2_with fail
          go_ret
          exact ⟨by rw [HQ.out]; rfl, (HB _ _).out⟩
        | true =>
          have HQ := Lib.hid (HF.out.trans (show placeCode (refsOf 2 lf rg) n = 0 by unfold placeCode rangedB; simp [refsOf, h1, h2]; omega))
          rw [h2] at e2
          have HE2 := Lib.hid e2
          clear HF e1 e2 h1 h2
          generalize checkCode 2 lt lf rg tm n = k at HQ ⊢
          go_enter Try.func49, Try.ntmps49
          go_wp2_with fail
          (with_reducible refine (HE1.out _).mono ?_)
          rintro e w' ⟨rfl, rfl⟩
          go_wp2_with fail
          (with_reducible refine (HE2.out _).mono ?_)
          rintro e w' ⟨rfl, rfl⟩
          go_wp2_with fail
          go_ret
          exact ⟨by rw [HQ.out]; rfl, (HB _ _).out⟩
  case inr.inr.inr.inr.inr.inr.inr.inl =>
    have a' := nb _ a; have b' := nb _ b
    have d1 : ¬ tm < 2 := by simp at c; omega
    have HF := Lib.hid (check_ok (n := n) f)
    clear a b c f nb nc
    have e1 := fun w => earlier_any lf n n0 w
    by_cases hn : n < 1
    · have HQ := Lib.hid (HF.out.trans (show placeCode (refsOf 3 lf rg) n = 1 by unfold placeCode rangedB; simp; omega))
      clear HF e1
      generalize checkCode 3 lt lf rg tm n = k at HQ ⊢
      go_enter Try.func49, Try.ntmps49
      go_wp2_with fail
      go_ret
      exact ⟨by rw [HQ.out]; rfl, (HB _ _).out⟩
    · cases h1 : inB n lf with
      | false =>
        have HQ := Lib.hid (HF.out.trans (show placeCode (refsOf 3 lf rg) n = 1 by unfold placeCode rangedB; simp [refsOf, h1]))
        rw [h1] at e1
        have HE1 := Lib.hid e1
        clear HF e1 h1
        generalize checkCode 3 lt lf rg tm n = k at HQ ⊢
        go_enter Try.func49, Try.ntmps49
        go_wp2_with fail
        (with_reducible refine (HE1.out _).mono ?_)
        rintro e w' ⟨rfl, rfl⟩
        go_wp2_with fail
        go_ret
        exact ⟨by rw [HQ.out]; rfl, (HB _ _).out⟩
      | true =>
        have HQ := Lib.hid (HF.out.trans (show placeCode (refsOf 3 lf rg) n = 0 by unfold placeCode rangedB; simp [refsOf, h1]; omega))
        rw [h1] at e1
        have HE1 := Lib.hid e1
        clear HF e1 h1
        generalize checkCode 3 lt lf rg tm n = k at HQ ⊢
        go_enter Try.func49, Try.ntmps49
        go_wp2_with fail
        (with_reducible refine (HE1.out _).mono ?_)
        rintro e w' ⟨rfl, rfl⟩
        go_wp2_with fail
        go_ret
        exact ⟨by rw [HQ.out]; rfl, (HB _ _).out⟩
  all_goals
    have HQ := Lib.hid (check_bad (n := n) f)
    try have a' := nc _ a
    try have b' := nc _ b
    try have c' := nc _ c
    try have a'' := nb _ a
    try have b'' := nb _ b
    try have c'' := (show tm < 2 by simp at c; omega)
    generalize checkCode _ _ _ _ _ _ = k at HQ ⊢
    clear f nb nc
    go_enter Try.func49, Try.ntmps49
    go_wp2_with fail
    go_ret
    exact ⟨by rw [HQ.out]; rfl, (HB _ _).out⟩
end Go.Proofs.Ytcbahojefglakaa
