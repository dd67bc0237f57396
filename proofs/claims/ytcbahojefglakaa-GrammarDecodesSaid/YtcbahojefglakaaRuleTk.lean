/- What rule.Take hands back, in plain words. -/
import Derived.Test.YtcbahojefglakaaRuleCheck
import Derived.Test.YtcbahojefglakaaRuleTwo
import Derived.Test.YtcbahojefglakaaRl
namespace Go.Proofs.Ytcbahojefglakaa
set_option linter.unusedVariables false
set_option linter.unusedSimpArgs false
open Go.RowKit Go.Lib
def rzero (code : Int) : Rl × Int × Int := (⟨0, 0, 0, 0, 0⟩, 0, code)
def tfin (r : Rl) (used n : Int) : Rl × Int × Int := if rangedB (refsOf r.kd r.lf r.rg) n then (r, used, 0) else rzero 1
def tkR (l : List Int) (n : Int) : Rl × Int × Int :=
  match l with
  | [] => rzero 4
  | k :: t =>
    if k = 1 then (match t with
      | [] => rzero 4
      | b :: _ => tfin ⟨1, b, 0, 0, 0⟩ 2 n)
    else if k = 2 then (match twoOf l with
      | none => rzero 4
      | some p => if n < 1 then rzero 1 else tfin ⟨2, 0, n - p.1, n - p.2.1, 0⟩ p.2.2 n)
    else if k = 3 then (match twoOf l with
      | none => rzero 4
      | some p => if 9223372036854775805 < p.2.1 then rzero 4 else if n < 1 then rzero 1 else tfin ⟨3, 0, n - p.1, 0, p.2.1 + 2⟩ p.2.2 n)
    else rzero 4
theorem tfin_yes {r : Rl} {used n : Int} (h : rangedB (refsOf r.kd r.lf r.rg) n = true) : tfin r used n = (r, used, 0) := by unfold tfin; rw [if_pos h]
theorem tfin_no {r : Rl} {used n : Int} (h : rangedB (refsOf r.kd r.lf r.rg) n = false) : tfin r used n = rzero 1 := by unfold tfin; rw [h]; rfl
theorem place_yes {kd lf rg n : Int} (h : rangedB (refsOf kd lf rg) n = true) : errv (placeCode (refsOf kd lf rg) n) = .nilIface := by unfold placeCode; rw [if_pos h]; rfl
theorem place_no {kd lf rg n : Int} (h : rangedB (refsOf kd lf rg) n = false) : errv (placeCode (refsOf kd lf rg) n) = .iface 50 (.int .i64 1) := by unfold placeCode; rw [h]; rfl
/-- the ways through Take -/
inductive TkWay (l : List Int) (n : Int) : Rl × Int × Int → Prop where
  | empty (h : l = []) : TkWay l n (rzero 4)
  | kind (k : Int) (h : l[0]? = some k) (h1 : (k == 1) = false) (h2 : (k == 2) = false) (h3 : (k == 3) = false) : TkWay l n (rzero 4)
  | short (h : l = [1]) : TkWay l n (rzero 4)
  | letter (b : Int) (h : l[0]? = some 1) (h2 : l[1]? = some b) : TkWay l n (tfin ⟨1, b, 0, 0, 0⟩ 2 n)
  | none2 (h : l[0]? = some 2) (h2 : twoOf l = none) : TkWay l n (rzero 4)
  | none3 (h : l[0]? = some 3) (h2 : twoOf l = none) : TkWay l n (rzero 4)
  | pair (x y e : Nat) (h : l[0]? = some 2) (h2 : twoOf l = some (x, y, e)) : TkWay l n (if n < 1 then rzero 1 else tfin ⟨2, 0, n - x, n - y, 0⟩ e n)
  | big (x y e : Nat) (h : l[0]? = some 3) (h2 : twoOf l = some (x, y, e)) (h3 : 9223372036854775805 < (y : Int)) : TkWay l n (rzero 4)
  | power (x y e : Nat) (h : l[0]? = some 3) (h2 : twoOf l = some (x, y, e)) (h3 : (y : Int) ≤ 9223372036854775805) : TkWay l n (if n < 1 then rzero 1 else tfin ⟨3, 0, n - x, 0, y + 2⟩ e n)
theorem tk_way (l : List Int) (n : Int) : TkWay l n (tkR l n) := by
  match l with
  | [] => exact .empty rfl
  | k :: t =>
    by_cases h1 : k = 1
    · subst h1
      match t with
      | [] => exact .short rfl
      | b :: t => exact .letter b rfl rfl
    · have e1 : (k == 1) = false := beq_eq_false_iff_ne.2 h1
      by_cases h2 : k = 2
      · subst h2
        cases ht : twoOf (2 :: t) with
        | none =>
          have e : tkR (2 :: t) n = rzero 4 := by simp [tkR, ht]
          rw [e]; exact .none2 rfl ht
        | some p =>
          obtain ⟨x, y, q⟩ := p
          have e : tkR (2 :: t) n = if n < 1 then rzero 1 else tfin ⟨2, 0, n - x, n - y, 0⟩ q n := by simp [tkR, ht]
          rw [e]; exact .pair x y q rfl ht
      · have e2 : (k == 2) = false := beq_eq_false_iff_ne.2 h2
        by_cases h3 : k = 3
        · subst h3
          cases ht : twoOf (3 :: t) with
          | none =>
            have e : tkR (3 :: t) n = rzero 4 := by simp [tkR, ht]
            rw [e]; exact .none3 rfl ht
          | some p =>
            obtain ⟨x, y, q⟩ := p
            by_cases hy : 9223372036854775805 < (y : Int)
            · have e : tkR (3 :: t) n = rzero 4 := by simp [tkR, ht]; intro h; omega
              rw [e]; exact .big x y q rfl ht hy
            · have e : tkR (3 :: t) n = if n < 1 then rzero 1 else tfin ⟨3, 0, n - x, 0, y + 2⟩ q n := by simp [tkR, ht]; intro h; omega
              rw [e]; exact .power x y q rfl ht (by omega)
        · have e3 : (k == 3) = false := beq_eq_false_iff_ne.2 h3
          have e : tkR (k :: t) n = rzero 4 := by simp [tkR, h1, h2, h3]
          rw [e]; exact .kind k rfl e1 e2 e3
/-- what the two functions hand back, as values -/
def TkOut (w : World) (R : Rl × Int × Int) (e : Ending) (w' : World) : Prop := e = .returned (.tuple #[R.1.val, .int .i64 R.2.1, errv R.2.2]) ∧ Below w.heap.size w w'
def RTkOut (w : World) (R : Rl × Int × Int) (e : Ending) (w' : World) : Prop := e = .returned (.tuple #[R.1.val, .int .i64 R.2.1, .int .i64 R.2.2]) ∧ Below w.heap.size w w'
end Go.Proofs.Ytcbahojefglakaa
