/- The walks of cmp.Compare, cmp.Or, rule.Less, evergreenref09.fields, Less. -/
import Derived.Test.YtpeapjnfncfjiaaRuleRefs
import Derived.Deep.RegionHeld3
import Derived.Deep.DrawnRows
import Derived.Deep.DeepCutAuto
import Derived.Deep.QuietTactic
import Derived.BigQuiet
namespace Go.Proofs.Ytpeapjnfncfjiaa
set_option linter.unusedVariables false
set_option linter.unusedSimpArgs false
open Go.RowKit Go.Lib

def cmpOf (a b : Int) : Int := if a < b then -1 else if b < a then 1 else 0
theorem cmpi_any (a b : Int) (w : World) : Calls Try.prog 33 #[.int .i64 a, .int .i64 b] w fun e w' => e = .returned (.int .i64 (cmpOf a b)) ∧ w = w' := by
  have na : (a != a) = false := by simp
  have nb : (b != b) = false := by simp
  by_cases h : a < b
  · have H := Lib.hid (show cmpOf a b = -1 by unfold cmpOf; rw [if_pos h])
    go_enter Try.func33, Try.ntmps33
    go_wp2
    go_ret
    exact ⟨by rw [H.out]; rfl, rfl⟩
  · by_cases g : b < a
    · have H := Lib.hid (show cmpOf a b = 1 by unfold cmpOf; rw [if_neg h, if_pos g])
      go_enter Try.func33, Try.ntmps33
      go_wp2
      go_ret
      exact ⟨by rw [H.out]; rfl, rfl⟩
    · have H := Lib.hid (show cmpOf a b = 0 by unfold cmpOf; rw [if_neg h, if_neg g])
      go_enter Try.func33, Try.ntmps33
      go_wp2
      go_ret
      exact ⟨by rw [H.out]; rfl, rfl⟩
theorem cmpb_any (a b : Int) (w : World) : Calls Try.prog 34 #[.int .u8 a, .int .u8 b] w fun e w' => e = .returned (.int .i64 (cmpOf a b)) ∧ w = w' := by
  have na : (a != a) = false := by simp
  have nb : (b != b) = false := by simp
  by_cases h : a < b
  · have H := Lib.hid (show cmpOf a b = -1 by unfold cmpOf; rw [if_pos h])
    go_enter Try.func34, Try.ntmps34
    go_wp2
    go_ret
    exact ⟨by rw [H.out]; rfl, rfl⟩
  · by_cases g : b < a
    · have H := Lib.hid (show cmpOf a b = 1 by unfold cmpOf; rw [if_neg h, if_pos g])
      go_enter Try.func34, Try.ntmps34
      go_wp2
      go_ret
      exact ⟨by rw [H.out]; rfl, rfl⟩
    · have H := Lib.hid (show cmpOf a b = 0 by unfold cmpOf; rw [if_neg h, if_neg g])
      go_enter Try.func34, Try.ntmps34
      go_wp2
      go_ret
      exact ⟨by rw [H.out]; rfl, rfl⟩
theorem cmpd_any (a b : Int) (w : World) : Calls Try.prog 35 #[.int .i64 a, .int .i64 b] w fun e w' => e = .returned (.int .i64 (cmpOf a b)) ∧ w = w' := by
  have na : (a != a) = false := by simp
  have nb : (b != b) = false := by simp
  by_cases h : a < b
  · have H := Lib.hid (show cmpOf a b = -1 by unfold cmpOf; rw [if_pos h])
    go_enter Try.func35, Try.ntmps35
    go_wp2
    go_ret
    exact ⟨by rw [H.out]; rfl, rfl⟩
  · by_cases g : b < a
    · have H := Lib.hid (show cmpOf a b = 1 by unfold cmpOf; rw [if_neg h, if_pos g])
      go_enter Try.func35, Try.ntmps35
      go_wp2
      go_ret
      exact ⟨by rw [H.out]; rfl, rfl⟩
    · have H := Lib.hid (show cmpOf a b = 0 by unfold cmpOf; rw [if_neg h, if_neg g])
      go_enter Try.func35, Try.ntmps35
      go_wp2
      go_ret
      exact ⟨by rw [H.out]; rfl, rfl⟩

def orOf : List Int → Int
  | [] => 0
  | x :: r => if x = 0 then orOf r else x
theorem orOf_skip {l : List Int} {k : Nat} (hk : k < l.length) (h : l[k] = 0) : orOf (l.drop k) = orOf (l.drop (k + 1)) := by
  rw [List.drop_eq_getElem_cons hk, orOf, if_pos h]
theorem orOf_hit {l : List Int} {k : Nat} (hk : k < l.length) (h : l[k] ≠ 0) : orOf (l.drop k) = l[k] := by
  rw [List.drop_eq_getElem_cons hk, orOf, if_neg h]
theorem or_any (l : List Int) (n c : Nat) (A : Option Addr) (hl : l.length = n) (hn : n ≤ 9223372036854775807) (w : World) (ha : RowAt w A (vi l)) :
    Calls Try.prog 32 #[.slice A n c] w fun e w' => e = .returned (.int .i64 (orOf l)) ∧ w = w' := by
  have HA := Lib.hid ha; have HL := Lib.hid hl
  clear ha hl
  go_enter Try.func32, Try.ntmps32
  go_wp2_with fail
  go_loop [8] (fun si => ∃ k : Nat, si = .int .i64 k ∧ k ≤ n ∧ Hid (orOf (l.drop k) = orOf l)) (fun si => n - (intOf si).toNat)
  case atStart => exact ⟨0, rfl, by omega, Lib.hid rfl⟩
  case round =>
    obtain ⟨k, rfl, hk, H⟩ := hrel
    by_cases hlt : k < n
    · have hkl : k < l.length := by rw [HL.out]; exact hlt
      obtain ⟨ad, rfl, _, c1⟩ := HA.out.get (vi_get hkl)
      obtain ⟨x, hx⟩ : ∃ x, x = l[k] := ⟨_, rfl⟩
      rw [← hx] at c1
      by_cases hz : x = 0
      · have H2 := Lib.hid ((orOf_skip hkl (by rw [← hx]; exact hz)).symm.trans H.out)
        subst hz
        clear hx H
        go_wp2_with fail
        go_round
        case rel => exact ⟨k + 1, by go_num, by omega, H2⟩
        case measure => simp [intOf]; omega
      · have H2 := Lib.hid ((orOf_hit hkl (by rw [← hx]; exact hz)).symm.trans H.out)
        have hz' : (x != 0) = true := by rw [bne_iff_ne]; exact hz
        have HX := Lib.hid hx
        clear hx H hz
        go_wp2_with fail
        go_ret
        exact ⟨by rw [← H2.out, ← HX.out]; rfl, rfl⟩
    · obtain rfl : k = n := by omega
      have e : orOf l = 0 := by rw [← H.out, List.drop_eq_nil_of_le (by rw [HL.out]; exact Nat.le_refl _)]; rfl
      have E := Lib.hid e
      clear H e
      go_wp2_with fail
      go_ret
      exact ⟨by rw [E.out]; rfl, rfl⟩

/-- does the rule a come before the rule b? -/
def lessOf (a1 a2 a3 a4 a5 b1 b2 b3 b4 b5 : Int) : Bool := decide (orOf [cmpOf a1 b1, cmpOf a2 b2, cmpOf a3 b3, cmpOf a4 b4, cmpOf a5 b5] < 0)
attribute [local go_sem ↓] Go.wp_at_zero Go.wp_at_succ
set_option maxHeartbeats 2000000 in
theorem less_any (a1 a2 a3 a4 a5 b1 b2 b3 b4 b5 : Int) (w : World) :
    Calls Try.prog 21 #[.agg #[.int .i64 a1, .int .u8 a2, .int .i64 a3, .int .i64 a4, .int .i64 a5], .agg #[.int .i64 b1, .int .u8 b2, .int .i64 b3, .int .i64 b4, .int .i64 b5]] w fun e w' => e = .returned (.bool (lessOf a1 a2 a3 a4 a5 b1 b2 b3 b4 b5)) ∧ Below w.heap.size w w' := by
  have O : ∀ W A c, RowAt W A (vi [cmpOf a1 b1, cmpOf a2 b2, cmpOf a3 b3, cmpOf a4 b4, cmpOf a5 b5]) → Calls Try.prog 32 #[.slice A 5 c] W fun e w' => e = .returned (.int .i64 (orOf [cmpOf a1 b1, cmpOf a2 b2, cmpOf a3 b3, cmpOf a4 b4, cmpOf a5 b5])) ∧ W = w' := fun W A c h => or_any _ 5 c A rfl (by omega) W h
  obtain ⟨R, hR⟩ : ∃ R, R = orOf [cmpOf a1 b1, cmpOf a2 b2, cmpOf a3 b3, cmpOf a4 b4, cmpOf a5 b5] := ⟨_, rfl⟩
  unfold lessOf
  rw [← hR] at O ⊢
  have HO := Lib.hid O
  clear O hR
  go_enter Try.func21, Try.ntmps21
  go_wp2_with fail
  go_region_held3 (fun w' => w'.cell? ⟨w.heap.size, 0, none⟩ = some (.int .i64 a1) ∧ w'.cell? ⟨w.heap.size, 1, none⟩ = some (.int .u8 a2) ∧ w'.cell? ⟨w.heap.size, 2, none⟩ = some (.int .i64 a3) ∧ w'.cell? ⟨w.heap.size, 3, none⟩ = some (.int .i64 a4) ∧ w'.cell? ⟨w.heap.size, 4, none⟩ = some (.int .i64 a5) ∧
      w'.cell? ⟨w.heap.size + 1, 0, none⟩ = some (.int .i64 b1) ∧ w'.cell? ⟨w.heap.size + 1, 1, none⟩ = some (.int .u8 b2) ∧ w'.cell? ⟨w.heap.size + 1, 2, none⟩ = some (.int .i64 b3) ∧ w'.cell? ⟨w.heap.size + 1, 3, none⟩ = some (.int .i64 b4) ∧ w'.cell? ⟨w.heap.size + 1, 4, none⟩ = some (.int .i64 b5)) (go_keep)
    (first
      | (go_at_call 33; ((with_reducible refine (cmpi_any _ _ _).mono ?_)); rintro e wa ⟨rfl, rfl⟩)
      | (go_at_call 34; ((with_reducible refine (cmpb_any _ _ _).mono ?_)); rintro e wa ⟨rfl, rfl⟩)
      | (go_at_call 35; ((with_reducible refine (cmpd_any _ _ _).mono ?_)); rintro e wa ⟨rfl, rfl⟩)
      | (go_at_call 32; ((with_reducible refine (HO.out _ _ _ ?ro).mono ?_)); (case ro => first | exact RowAt.new _ _ _ (by simp) rfl | exact (RowAt.new _ _ _ (by simp) rfl).drew); rintro e wa ⟨rfl, rfl⟩))
  all_goals
    go_wp2
    go_ret
    refine ⟨rfl, ?_⟩
    repeat (first | exact Below.refl _ _ | (with_reducible refine Below.drew ?_) | (with_reducible refine Below.alloc ?_ (by first | (simp; done) | (simp; omega)) _))

set_option maxHeartbeats 400000 in
theorem fields_any (a1 a2 a3 a4 a5 : Int) (b0 : 0 ≤ a2) (b1 : a2 ≤ 255) (w : World) : Calls Try.prog 36 #[.agg #[.int .i64 a1, .int .u8 a2, .int .i64 a3, .int .i64 a4, .int .i64 a5]] w fun e w' => e = .returned (.agg #[.int .i64 a1, .int .i64 a2, .int .i64 a3, .int .i64 a4, .int .i64 a5]) ∧ Below w.heap.size w w' := by
  go_enter Try.func36, Try.ntmps36
  go_wp2
  refine bodyPost_ret (v := .agg #[.int .i64 a1, .int .i64 a2, .int .i64 a3, .int .i64 a4, .int .i64 a5]) ?_ rfl ⟨rfl, ?_⟩
  · simp only [results, Try.results36]
    simp [go_sem]
  · repeat (first | exact Below.refl _ _ | (with_reducible refine Below.drew ?_) | (with_reducible refine Below.alloc ?_ (by first | (simp; done) | (simp; omega)) _) | (with_reducible refine Below.setCell ?_ (by simp) _))

theorem lex_skip {a b : List Int} {k : Nat} (ha : k < a.length) (hb : k < b.length) (hl : a.length = b.length) (h : a[k] = b[k]) : orOf ((List.zipWith cmpOf a b).drop k) = orOf ((List.zipWith cmpOf a b).drop (k + 1)) := by
  apply orOf_skip (by simp; omega)
  simp [h, cmpOf]
theorem lex_hit {a b : List Int} {k : Nat} (ha : k < a.length) (hb : k < b.length) (hl : a.length = b.length) (h : a[k] ≠ b[k]) : decide (orOf ((List.zipWith cmpOf a b).drop k) < 0) = decide (a[k] < b[k]) := by
  rw [orOf_hit (by simp; omega) (by simp [cmpOf]; split <;> (try split) <;> omega)]
  simp only [List.getElem_zipWith, cmpOf]
  split <;> (try split) <;> simp <;> omega
theorem rless_end (a b : List Int) : decide (orOf ((List.zipWith cmpOf a b).drop (List.zipWith cmpOf a b).length) < 0) = false := by
  rw [List.drop_length]; rfl

end Go.Proofs.Ytpeapjnfncfjiaa
