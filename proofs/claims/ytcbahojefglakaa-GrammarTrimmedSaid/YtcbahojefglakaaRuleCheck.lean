/- The walks of rule.place, rule.Check and of evergreenref09.formed, ranged, Check. -/
import Derived.Test.YtcbahojefglakaaRuleRefs
namespace Go.Proofs.Ytcbahojefglakaa
set_option linter.unusedVariables false
set_option linter.unusedSimpArgs false
open Go.RowKit Go.Lib

def formedB (kd lt lf rg tm : Int) : Bool := if kd = 1 then lf == 0 && rg == 0 && tm == 0 else if kd = 2 then lt == 0 && tm == 0 else if kd = 3 then lt == 0 && rg == 0 && decide (2 ≤ tm) else false
def inB (n x : Int) : Bool := decide (1 ≤ x) && decide (x ≤ n - 1)
def rangedB (l : List Int) (n : Int) : Bool := decide (1 ≤ n) && l.all (inB n)
def placeCode (l : List Int) (n : Int) : Int := if rangedB l n then 0 else 1
def checkCode (kd lt lf rg tm n : Int) : Int := if formedB kd lt lf rg tm then placeCode (refsOf kd lf rg) n else 4

theorem check_ok {kd lt lf rg tm n : Int} (f : formedB kd lt lf rg tm = true) : checkCode kd lt lf rg tm n = placeCode (refsOf kd lf rg) n := by unfold checkCode; rw [if_pos f]
theorem check_bad {kd lt lf rg tm n : Int} (f : formedB kd lt lf rg tm = false) : checkCode kd lt lf rg tm n = 4 := by unfold checkCode; rw [f]; rfl
/-- the ways through a rule's form. -/
def FormWay (kd lt lf rg tm : Int) : Prop :=
  (kd = 1 ∧ (lf == 0) = true ∧ (rg == 0) = true ∧ (tm == 0) = true ∧ formedB 1 lt lf rg tm = true) ∨ (kd = 1 ∧ (lf == 0) = false ∧ formedB 1 lt lf rg tm = false) ∨ (kd = 1 ∧ (lf == 0) = true ∧ (rg == 0) = false ∧ formedB 1 lt lf rg tm = false) ∨
  (kd = 1 ∧ (lf == 0) = true ∧ (rg == 0) = true ∧ (tm == 0) = false ∧ formedB 1 lt lf rg tm = false) ∨
  (kd = 2 ∧ (lt == 0) = true ∧ (tm == 0) = true ∧ formedB 2 lt lf rg tm = true) ∨ (kd = 2 ∧ (lt == 0) = false ∧ formedB 2 lt lf rg tm = false) ∨ (kd = 2 ∧ (lt == 0) = true ∧ (tm == 0) = false ∧ formedB 2 lt lf rg tm = false) ∨
  (kd = 3 ∧ (lt == 0) = true ∧ (rg == 0) = true ∧ decide (2 ≤ tm) = true ∧ formedB 3 lt lf rg tm = true) ∨ (kd = 3 ∧ (lt == 0) = false ∧ formedB 3 lt lf rg tm = false) ∨ (kd = 3 ∧ (lt == 0) = true ∧ (rg == 0) = false ∧ formedB 3 lt lf rg tm = false) ∨
  (kd = 3 ∧ (lt == 0) = true ∧ (rg == 0) = true ∧ decide (2 ≤ tm) = false ∧ formedB 3 lt lf rg tm = false) ∨
  ((kd == 1) = false ∧ (kd == 2) = false ∧ (kd == 3) = false ∧ formedB kd lt lf rg tm = false)
theorem form_way (kd lt lf rg tm : Int) : FormWay kd lt lf rg tm := by
  unfold FormWay
  have d : ∀ x : Int, (x == 0) = true ∨ (x == 0) = false := fun x => by cases x == 0 <;> simp
  by_cases h1 : kd = 1
  · subst h1
    rcases d lf with a | a <;> rcases d rg with b | b <;> rcases d tm with c | c <;> simp [a, b, c, formedB]
  · by_cases h2 : kd = 2
    · subst h2
      rcases d lt with a | a <;> rcases d tm with c | c <;> simp [a, c, formedB]
    · by_cases h3 : kd = 3
      · subst h3
        rcases d lt with a | a <;> rcases d rg with b | b <;> by_cases c : 2 ≤ tm <;> simp [a, b, c, formedB]
      · have e1 : (kd == 1) = false := by rw [beq_eq_false_iff_ne]; exact h1
        have e2 : (kd == 2) = false := by rw [beq_eq_false_iff_ne]; exact h2
        have e3 : (kd == 3) = false := by rw [beq_eq_false_iff_ne]; exact h3
        simp [h1, h2, h3, formedB]

theorem all_take {l : List Int} {n : Int} {k : Nat} (hk : k < l.length) (h : (l.take k).all (inB n) = true) (hx : inB n l[k] = true) : (l.take (k + 1)).all (inB n) = true := by
  rw [List.take_succ_eq_append_getElem hk, List.all_append, h]
  simp [hx]
theorem all_bad {l : List Int} {n : Int} {k : Nat} (hk : k < l.length) (hx : inB n l[k] = false) : rangedB l n = false := by
  unfold rangedB
  have : l.all (inB n) = false := by
    rw [List.all_eq_false]
    exact ⟨l[k], List.getElem_mem hk, by simp [hx]⟩
  simp [this]

set_option maxHeartbeats 400000 in
theorem place_any (kd lt lf rg tm n : Int) (n0 : -9223372036854775808 ≤ n) (n1 : n ≤ 9223372036854775807) (w : World) :
    Calls Try.prog 70 #[.agg #[.int .i64 kd, .int .u8 lt, .int .i64 lf, .int .i64 rg, .int .i64 tm], .int .i64 n] w fun e w' => e = .returned (errv (placeCode (refsOf kd lf rg) n)) ∧ Below w.heap.size w w' := by
  by_cases hn : n < 1
  · have H := Lib.hid (show placeCode (refsOf kd lf rg) n = 1 by unfold placeCode rangedB; simp; omega)
    go_enter Try.func70, Try.ntmps70
    go_wp2_with fail
    go_ret
    exact ⟨by rw [H.out]; rfl, (Below.refl _ _).alloc (Nat.le_refl _) _⟩
  · replace hn : 1 ≤ n := by omega
    obtain ⟨l, hl⟩ : ∃ l, l = refsOf kd lf rg := ⟨_, rfl⟩
    have hle : l.length ≤ 2 := by rw [hl]; exact refsOf_le kd lf rg
    have R := refs_any kd lt lf rg tm
    rw [← hl] at R ⊢
    have RR := Lib.hid R
    have HL := Lib.hid hl
    clear R hl
    go_enter Try.func70, Try.ntmps70
    go_wp2_with fail
    (with_reducible refine (RR.out _).mono ?_)
    rintro e w1 ⟨A, c, rfl, RA, B1⟩
    have hbw : Below w.heap.size w w1 := ((Below.refl _ _).alloc (Nat.le_refl _) _).trans (B1.mono (by simp))
    have HB := Lib.hid hbw; have HA := Lib.hid RA
    clear hbw RA B1 RR
    go_wp2_with fail
    go_loop [13] (fun si => ∃ k : Nat, si = .int .i64 k ∧ k ≤ l.length ∧ Hid ((l.take k).all (inB n) = true)) (fun si => l.length - (intOf si).toNat)
    case atStart => exact ⟨0, rfl, by omega, Lib.hid (by simp)⟩
    case round =>
      obtain ⟨k, rfl, hk, H⟩ := hrel
      by_cases hlt : k < l.length
      · obtain ⟨ad, rfl, g1, c1⟩ := HA.out.get (vi_get hlt)
        obtain ⟨x, hx⟩ : ∃ x, x = l[k] := ⟨_, rfl⟩
        rw [← hx] at c1
        by_cases b1 : x < 1
        · have E := Lib.hid (show placeCode l n = 1 by unfold placeCode; rw [all_bad hlt (by rw [← hx]; unfold inB; simp; omega)]; rfl)
          clear hx H
          go_wp2_with fail
          go_ret
          exact ⟨by rw [E.out]; rfl, HB.out⟩
        · by_cases b2 : n - 1 < x
          · have E := Lib.hid (show placeCode l n = 1 by unfold placeCode; rw [all_bad hlt (by rw [← hx]; unfold inB; simp; omega)]; rfl)
            clear hx H
            go_wp2_with fail
            go_ret
            exact ⟨by rw [E.out]; rfl, HB.out⟩
          · have H' := Lib.hid (all_take hlt H.out (by rw [← hx]; unfold inB; simp; omega))
            clear hx H
            go_wp2_with fail
            go_round
            case rel => exact ⟨k + 1, by go_num, by omega, H'⟩
            case measure => simp [intOf]; omega
      · obtain rfl : k = l.length := by omega
        have E := Lib.hid (show placeCode l n = 0 by unfold placeCode rangedB; have := H.out; rw [List.take_length] at this; rw [this]; simp [hn])
        clear H
        go_wp2_with fail
        go_ret
        exact ⟨by rw [E.out]; rfl, HB.out⟩

set_option maxHeartbeats 800000 in
theorem check_any (kd lt lf rg tm n : Int) (n0 : -9223372036854775808 ≤ n) (n1 : n ≤ 9223372036854775807) (w : World) :
    Calls Try.prog 64 #[.agg #[.int .i64 kd, .int .u8 lt, .int .i64 lf, .int .i64 rg, .int .i64 tm], .int .i64 n] w fun e w' => e = .returned (errv (checkCode kd lt lf rg tm n)) ∧ Below w.heap.size w w' := by
  rcases form_way kd lt lf rg tm with ⟨rfl, a, b, c, f⟩ | ⟨rfl, a, f⟩ | ⟨rfl, a, b, f⟩ | ⟨rfl, a, b, c, f⟩ | ⟨rfl, a, b, f⟩ | ⟨rfl, a, f⟩ | ⟨rfl, a, b, f⟩ | ⟨rfl, a, b, c, f⟩ | ⟨rfl, a, f⟩ | ⟨rfl, a, b, f⟩ | ⟨rfl, a, b, c, f⟩ | ⟨a, b, c, f⟩
  case inl | inr.inr.inr.inr.inl | inr.inr.inr.inr.inr.inr.inr.inl =>
    have H := Lib.hid (check_ok (n := n) f)
    clear f
    go_enter Try.func64, Try.ntmps64
    go_wp2_with fail
    (with_reducible refine (place_any _ _ _ _ _ _ n0 n1 _).mono ?_)
    rintro e w1 ⟨rfl, B1⟩
    go_wp2_with fail
    go_ret
    exact ⟨by rw [H.out]; rfl, ((Below.refl _ _).alloc (Nat.le_refl _) _).trans (B1.mono (by simp))⟩
  all_goals
    have H := Lib.hid (check_bad (n := n) f)
    clear f
    go_enter Try.func64, Try.ntmps64
    go_wp2_with fail
    go_ret
    exact ⟨by rw [H.out]; rfl, (Below.refl _ _).alloc (Nat.le_refl _) _⟩

end Go.Proofs.Ytcbahojefglakaa
