/- The laws RulePuts and RuleShifts. -/
import Derived.Test.YtpeapjnfncfjiaaRulePut
import Derived.Test.YtpeapjnfncfjiaaRuleRPut
import Derived.Test.YtpeapjnfncfjiaaSameBytes
import Derived.Deep.DrawnRows
namespace Go.Proofs.Ytpeapjnfncfjiaa
set_option linter.unusedVariables false
set_option linter.unusedSimpArgs false
open Go.RowKit Go.Lib
attribute [local go_sem ↓] Go.wp_at_zero Go.wp_at_succ
def PutOut (l : List Int) (r : Value) (w : World) (e : Ending) (w' : World) : Prop := ∃ A c, e = .returned (.tuple #[.slice A l.length c, r]) ∧ RowAt w' A (vb l) ∧ Below w.heap.size w w'
def putL (kd lt lf rg tm n : Int) : List Int := if checkCode kd lt lf rg tm n = 0 then encR kd lt lf rg tm n else []
theorem putL_ok {kd lt lf rg tm n : Int} (h : checkCode kd lt lf rg tm n = 0) : putL kd lt lf rg tm n = encR kd lt lf rg tm n := if_pos h
theorem put_ok (kd lt lf rg tm n : Int) (n0 : -9223372036854775808 ≤ n) (n1 : n ≤ 9223372036854775807) (t1 : tm ≤ 9223372036854775807) (h : checkCode kd lt lf rg tm n = 0) (w : World) :
    Calls Try.prog 23 #[.agg #[.int .i64 kd, .int .u8 lt, .int .i64 lf, .int .i64 rg, .int .i64 tm], .int .i64 n] w (PutOut (encR kd lt lf rg tm n) .nilIface w) := by
  obtain ⟨_, ⟨rfl, rfl, rfl, rfl⟩ | ⟨rfl, rfl, rfl, a0, a1, b0, b1⟩ | ⟨rfl, rfl, rfl, b0, a0, a1⟩⟩ := valid_way h
  · exact put_k1 lt n n0 n1 h w
  · exact put_k2 lf rg n n0 n1 a0 a1 b0 b1 h w
  · exact put_k3 lf tm n n0 n1 a0 a1 b0 t1 h w
theorem rput_ok (kd lt lf rg tm n : Int) (n0 : -9223372036854775808 ≤ n) (n1 : n ≤ 9223372036854775807) (t1 : tm ≤ 9223372036854775807) (h : checkCode kd lt lf rg tm n = 0) (w : World) :
    Calls Try.prog 24 #[.agg #[.int .i64 kd, .int .u8 lt, .int .i64 lf, .int .i64 rg, .int .i64 tm], .int .i64 n] w (PutOut (encR kd lt lf rg tm n) (.int .i64 0) w) := by
  obtain ⟨_, ⟨rfl, rfl, rfl, rfl⟩ | ⟨rfl, rfl, rfl, a0, a1, b0, b1⟩ | ⟨rfl, rfl, rfl, b0, a0, a1⟩⟩ := valid_way h
  · exact rput_k1 lt n n0 n1 h w
  · exact rput_k2 lf rg n n0 n1 a0 a1 b0 b1 h w
  · exact rput_k3 lf tm n n0 n1 a0 a1 b0 t1 h w
theorem put_all (kd lt lf rg tm n : Int) (n0 : -9223372036854775808 ≤ n) (n1 : n ≤ 9223372036854775807) (t1 : tm ≤ 9223372036854775807) (w : World) :
    Calls Try.prog 23 #[.agg #[.int .i64 kd, .int .u8 lt, .int .i64 lf, .int .i64 rg, .int .i64 tm], .int .i64 n] w (PutOut (putL kd lt lf rg tm n) (errv (checkCode kd lt lf rg tm n)) w) := by
  by_cases h : checkCode kd lt lf rg tm n = 0
  · rw [putL_ok h, h]; exact put_ok kd lt lf rg tm n n0 n1 t1 h w
  · rw [show putL kd lt lf rg tm n = [] from if_neg h]
    exact (put_bad kd lt lf rg tm n n0 n1 h w).mono fun e w' ⟨h1, h2⟩ => ⟨none, 0, h1, RowAt.nil _ _, h2⟩
theorem rput_all (kd lt lf rg tm n : Int) (n0 : -9223372036854775808 ≤ n) (n1 : n ≤ 9223372036854775807) (t1 : tm ≤ 9223372036854775807) (w : World) :
    Calls Try.prog 24 #[.agg #[.int .i64 kd, .int .u8 lt, .int .i64 lf, .int .i64 rg, .int .i64 tm], .int .i64 n] w (PutOut (putL kd lt lf rg tm n) (.int .i64 (checkCode kd lt lf rg tm n)) w) := by
  by_cases h : checkCode kd lt lf rg tm n = 0
  · rw [putL_ok h, h]; exact rput_ok kd lt lf rg tm n n0 n1 t1 h w
  · rw [show putL kd lt lf rg tm n = [] from if_neg h]
    exact (rput_bad kd lt lf rg tm n n0 n1 h w).mono fun e w' ⟨h1, h2⟩ => ⟨none, 0, h1, RowAt.nil _ _, h2⟩
theorem enc_221 : encR 2 0 1 2 0 3 = [2, 2, 1] := by
  have e : encR 2 0 1 2 0 3 = ([2] ++ vput (3 - 1 : Int).toNat) ++ vput (3 - 2 : Int).toNat := rfl
  rw [e, vput_lt (by decide), vput_lt (by decide)]; rfl
theorem alive_any (w : World) : Calls Try.prog 25 #[] w fun e w' => e = .returned (.bool true) ∧ Below w.heap.size w w' := by
  have hp := fun w => put_ok 2 0 1 2 0 3 (by decide) (by decide) (by decide) (by decide) w
  rw [enc_221] at hp
  have HP := Lib.hid hp
  clear hp
  go_enter Try.func25, Try.ntmps25
  go_wp2_with fail
  (with_reducible refine (HP.out _).mono ?_)
  rintro e w1 ⟨A, c, rfl, R1, B1⟩
  have HB := Lib.hid B1
  obtain ⟨ad, rfl, _, c00⟩ := R1.get (k := 0) (u := .int .u8 2) rfl
  obtain ⟨a1, e1, _, c10⟩ := R1.get (k := 1) (u := .int .u8 2) rfl
  cases e1
  obtain ⟨a2, e2, _, c20⟩ := R1.get (k := 2) (u := .int .u8 1) rfl
  cases e2
  have c0 : w1.cell? ad = some (.int .u8 2) := by simpa [Addr.add] using c00
  have c1 := c10; have c2 := c20
  simp only [Addr.add] at c1 c2
  simp at c1 c2
  clear R1 B1 c00 c10 c20
  go_wp2_with fail
  go_ret
  exact ⟨rfl, HB.out⟩
set_option maxHeartbeats 1000000 in
theorem law_puts (kd lt lf rg tm n : Int) (n0 : -9223372036854775808 ≤ n) (n1 : n ≤ 9223372036854775807) (t1 : tm ≤ 9223372036854775807) (w : World) :
    Calls Try.prog 7 #[.agg #[.int .i64 kd, .int .u8 lt, .int .i64 lf, .int .i64 rg, .int .i64 tm], .int .i64 n] w fun e w' => e = .returned (.bool true) ∧ Below w.heap.size w w' := by
  have HP := fun w => put_all kd lt lf rg tm n n0 n1 t1 w
  have HR := fun w => rput_all kd lt lf rg tm n n0 n1 t1 w
  generalize putL kd lt lf rg tm n = L at HP HR
  generalize checkCode kd lt lf rg tm n = k at HP HR
  have HPP := Lib.hid HP; have HRR := Lib.hid HR
  have HBx := Lib.hid (Box.new w 24 #[.int .i64 kd, .int .u8 lt, .int .i64 lf, .int .i64 rg, .int .i64 tm])
  have HB := Lib.hid (balloc (Below.refl w.heap.size w) (.cells #[.int .i64 kd, .int .u8 lt, .int .i64 lf, .int .i64 rg, .int .i64 tm] 24))
  clear HP HR
  go_enter Try.func7, Try.ntmps7
  go_wp2_with fail
  (with_reducible refine (HPP.out _).mono ?_)
  rintro e w1 ⟨A, c, rfl, R1, B1⟩
  have Bx := HBx.out.below B1 HBx.out.lt
  have BW1 := Lib.hid (bkeep HB.out B1)
  have HR1 := Lib.hid R1
  have k0 : w1.cell? ⟨w.heap.size, 0, none⟩ = some (.int .i64 kd) := Bx.cell 0
  have k1 : w1.cell? ⟨w.heap.size, 1, none⟩ = some (.int .u8 lt) := Bx.cell 1
  have k2 : w1.cell? ⟨w.heap.size, 2, none⟩ = some (.int .i64 lf) := Bx.cell 2
  have k3 : w1.cell? ⟨w.heap.size, 3, none⟩ = some (.int .i64 rg) := Bx.cell 3
  have k4 : w1.cell? ⟨w.heap.size, 4, none⟩ = some (.int .i64 tm) := Bx.cell 4
  clear R1 B1 Bx
  go_wp2_with fail
  (with_reducible refine (HRR.out _).mono ?_)
  rintro e w2 ⟨A2, c2, rfl, R2, B2⟩
  have BW2 := Lib.hid (bkeep BW1.out B2)
  have HR12 := Lib.hid (HR1.out.below B2 (Nat.le_refl _))
  have HR2 := Lib.hid R2
  clear R2 B2 k0 k1 k2 k3 k4
  go_wp2_with fail
  (with_reducible refine (alive_any _).mono ?_)
  rintro e w3 ⟨rfl, B3⟩
  have BW3 := Lib.hid (bkeep BW2.out B3)
  have r1 := HR12.out.below B3 (Nat.le_refl _)
  have r2 := HR2.out.below B3 (Nat.le_refl _)
  have HS := Lib.hid (bytes_same L L.length c c2 A A2 rfl w3 r1 r2)
  clear B3 r1 r2
  go_wp2_with fail
  (with_reducible refine (HS.out).mono ?_)
  rintro e w' ⟨rfl, rfl⟩
  go_wp2_with fail
  (with_reducible refine (num_any k _).mono ?_)
  rintro e w' ⟨rfl, rfl⟩
  go_wp2_with fail
  go_ret
  exact ⟨by simp, BW3.out⟩
end Go.Proofs.Ytpeapjnfncfjiaa
