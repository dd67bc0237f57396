/- The law RuleShifts. Written by wip/gen/ruleshift.py. -/
import Derived.Test.YtpeapjnfncfjiaaRulePutLaw
namespace Go.Proofs.Ytpeapjnfncfjiaa
set_option linter.unusedVariables false
set_option linter.unusedSimpArgs false
open Go.RowKit Go.Lib
attribute [local go_sem ↓] Go.wp_at_zero Go.wp_at_succ
theorem row_set {w : World} {A : Option Addr} {L : List Int} (h : RowAt w A (vb L)) {p : Addr} {z : Int} (hp : w.cell? p = some (.int .i64 z)) (u : Value) : RowAt (w.setCell p u) A (vb L) := fun k v hk => by
  obtain ⟨ad, e, hc⟩ := h k v hk
  refine ⟨ad, e, (World.cell?_setCell_other w _ _ u (fun he => ?_)).trans hc⟩
  rw [← he, hp] at hc
  have hm := List.mem_of_getElem? hk
  simp only [vb, List.mem_map] at hm
  obtain ⟨x, _, rfl⟩ := hm
  simp at hc
set_option maxRecDepth 100000 in
set_option maxHeartbeats 2000000 in
theorem shifts_out (kd lt lf rg tm n y : Int) (n0 : -9223372036854775808 ≤ n) (n1 : n ≤ 9223372036854775807) (t1 : tm ≤ 9223372036854775807) (y0 : -9223372036854775808 ≤ y) (y1 : y ≤ 9223372036854775807)
    (h : checkCode kd lt lf rg tm n ≠ 0 ∨ y < 0 ∨ 1099511627776 < y ∨ 1099511627776 < n) (w : World) :
    Calls Try.prog 8 #[.agg #[.int .i64 kd, .int .u8 lt, .int .i64 lf, .int .i64 rg, .int .i64 tm], .int .i64 n, .int .i64 y] w fun e w' => e = .returned (.bool true) ∧ Below w.heap.size w w' := by
  have HP := fun w => put_all kd lt lf rg tm n n0 n1 t1 w
  generalize putL kd lt lf rg tm n = L at HP
  generalize checkCode kd lt lf rg tm n = k at HP h
  have HPP := Lib.hid HP
  have HH := Lib.hid h
  have HBx := Lib.hid (Box.new w 24 #[.int .i64 kd, .int .u8 lt, .int .i64 lf, .int .i64 rg, .int .i64 tm])
  have HB := Lib.hid (balloc (Below.refl w.heap.size w) (.cells #[.int .i64 kd, .int .u8 lt, .int .i64 lf, .int .i64 rg, .int .i64 tm] 24))
  clear HP h
  go_enter Try.func8, Try.ntmps8
  go_wp2_with fail
  (with_reducible refine (alive_any _).mono ?_)
  rintro e w1 ⟨rfl, B1⟩
  have Bx := HBx.out.below B1 HBx.out.lt
  have BW1 := Lib.hid (bkeep HB.out B1)
  have HX1 := Lib.hid Bx
  have k0 : w1.cell? ⟨w.heap.size, 0, none⟩ = some (.int .i64 kd) := Bx.cell 0
  have k1 : w1.cell? ⟨w.heap.size, 1, none⟩ = some (.int .u8 lt) := Bx.cell 1
  have k2 : w1.cell? ⟨w.heap.size, 2, none⟩ = some (.int .i64 lf) := Bx.cell 2
  have k3 : w1.cell? ⟨w.heap.size, 3, none⟩ = some (.int .i64 rg) := Bx.cell 3
  have k4 : w1.cell? ⟨w.heap.size, 4, none⟩ = some (.int .i64 tm) := Bx.cell 4
  clear B1 Bx
  go_wp2_with fail
  (with_reducible refine (HPP.out _).mono ?_)
  rintro e w2 ⟨A, c, rfl, R1, B2⟩
  have Bx := HX1.out.below B2 HX1.out.lt
  have BW2 := Lib.hid (bkeep BW1.out B2)
  have HX2 := Lib.hid Bx
  have HR1 := Lib.hid R1
  clear k0 k1 k2 k3 k4 HX1
  have k0 : w2.cell? ⟨w.heap.size, 0, none⟩ = some (.int .i64 kd) := Bx.cell 0
  have f0 := Bx.free 0
  have k1 : w2.cell? ⟨w.heap.size, 1, none⟩ = some (.int .u8 lt) := Bx.cell 1
  have f1 := Bx.free 1
  have k2 : w2.cell? ⟨w.heap.size, 2, none⟩ = some (.int .i64 lf) := Bx.cell 2
  have f2 := Bx.free 2
  have k3 : w2.cell? ⟨w.heap.size, 3, none⟩ = some (.int .i64 rg) := Bx.cell 3
  have f3 := Bx.free 3
  have k4 : w2.cell? ⟨w.heap.size, 4, none⟩ = some (.int .i64 tm) := Bx.cell 4
  have f4 := Bx.free 4
  clear B2 R1 Bx
  by_cases hk : k = 0
  · subst hk
    rw [errv_zero]
    have h := HH.out
    clear HH
    by_cases a : y < 0
    · clear h
      go_wp2_with fail
      go_ret
      exact ⟨rfl, BW2.out⟩
    · by_cases b : 1099511627776 < y
      · clear h
        go_wp2_with fail
        go_ret
        exact ⟨rfl, BW2.out⟩
      · have d : 1099511627776 < n := by omega
        clear h
        go_wp2_with fail
        go_ret
        exact ⟨rfl, BW2.out⟩
  · rw [errv_pos k hk]
    clear HH
    go_wp2_with fail
    go_ret
    exact ⟨rfl, BW2.out⟩
set_option maxRecDepth 100000 in
set_option maxHeartbeats 2000000 in
theorem shifts_k1 (lt n y : Int) (L : List Int) (n0 : 1 ≤ n) (n1 : n ≤ 1099511627776) (y0 : 0 ≤ y) (y1 : y ≤ 1099511627776)
    (HPP : Hid (∀ w, Calls Try.prog 23 #[.agg #[.int .i64 1, .int .u8 lt, .int .i64 0, .int .i64 0, .int .i64 0], .int .i64 n] w (PutOut L .nilIface w))) (HPQ : Hid (∀ w, Calls Try.prog 23 #[.agg #[.int .i64 1, .int .u8 lt, .int .i64 0, .int .i64 0, .int .i64 0], .int .i64 (n + y)] w (PutOut L .nilIface w))) (w : World) :
    Calls Try.prog 8 #[.agg #[.int .i64 1, .int .u8 lt, .int .i64 0, .int .i64 0, .int .i64 0], .int .i64 n, .int .i64 y] w fun e w' => e = .returned (.bool true) ∧ Below w.heap.size w w' := by
  have ny : ¬ y < 0 := by omega
  have nn : ¬ 1099511627776 < n := by omega
  have n2 : ¬ 1099511627776 < y := by omega
  have HBx := Lib.hid (Box.new w 24 #[.int .i64 1, .int .u8 lt, .int .i64 0, .int .i64 0, .int .i64 0])
  have HB := Lib.hid (balloc (Below.refl w.heap.size w) (.cells #[.int .i64 1, .int .u8 lt, .int .i64 0, .int .i64 0, .int .i64 0] 24))
  go_enter Try.func8, Try.ntmps8
  go_wp2_with fail
  (with_reducible refine (alive_any _).mono ?_)
  rintro e w1 ⟨rfl, B1⟩
  have Bx := HBx.out.below B1 HBx.out.lt
  have BW1 := Lib.hid (bkeep HB.out B1)
  have HX1 := Lib.hid Bx
  have k0 : w1.cell? ⟨w.heap.size, 0, none⟩ = some (.int .i64 1) := Bx.cell 0
  have k1 : w1.cell? ⟨w.heap.size, 1, none⟩ = some (.int .u8 lt) := Bx.cell 1
  have k2 : w1.cell? ⟨w.heap.size, 2, none⟩ = some (.int .i64 0) := Bx.cell 2
  have k3 : w1.cell? ⟨w.heap.size, 3, none⟩ = some (.int .i64 0) := Bx.cell 3
  have k4 : w1.cell? ⟨w.heap.size, 4, none⟩ = some (.int .i64 0) := Bx.cell 4
  clear B1 Bx
  go_wp2_with fail
  (with_reducible refine (HPP.out _).mono ?_)
  rintro e w2 ⟨A, c, rfl, R1, B2⟩
  have Bx := HX1.out.below B2 HX1.out.lt
  have BW2 := Lib.hid (bkeep BW1.out B2)
  have HX2 := Lib.hid Bx
  have HR1 := Lib.hid R1
  clear k0 k1 k2 k3 k4 HX1
  have k0 : w2.cell? ⟨w.heap.size, 0, none⟩ = some (.int .i64 1) := Bx.cell 0
  have f0 := Bx.free 0
  have k1 : w2.cell? ⟨w.heap.size, 1, none⟩ = some (.int .u8 lt) := Bx.cell 1
  have f1 := Bx.free 1
  have k2 : w2.cell? ⟨w.heap.size, 2, none⟩ = some (.int .i64 0) := Bx.cell 2
  have f2 := Bx.free 2
  have k3 : w2.cell? ⟨w.heap.size, 3, none⟩ = some (.int .i64 0) := Bx.cell 3
  have f3 := Bx.free 3
  have k4 : w2.cell? ⟨w.heap.size, 4, none⟩ = some (.int .i64 0) := Bx.cell 4
  have f4 := Bx.free 4
  clear B2 R1 Bx
  go_wp2_with fail
  (with_reducible refine (HPQ.out _).mono ?_)
  rintro e w3 ⟨A2, c2, rfl, R2, B3⟩
  have hA := HR1.out.below B3 (Nat.le_refl _)
  have BC := bkeep BW2.out B3
  have HS := Lib.hid (bytes_same L L.length c c2 A A2 rfl w3 hA R2)
  have HBC := Lib.hid BC
  clear hA R2 B3 BC
  go_wp2_with fail
  (with_reducible refine (HS.out).mono ?_)
  rintro e w' ⟨rfl, rfl⟩
  go_wp2_with fail
  go_ret
  exact ⟨rfl, HBC.out⟩
set_option maxRecDepth 100000 in
set_option maxHeartbeats 2000000 in
theorem shifts_k2 (lf rg n y : Int) (L : List Int) (n0 : 1 ≤ n) (n1 : n ≤ 1099511627776) (y0 : 0 ≤ y) (y1 : y ≤ 1099511627776) (a0 : 0 < lf) (a1 : lf ≤ 1099511627776) (b0 : 0 < rg) (b1 : rg ≤ 1099511627776)
    (HPP : Hid (∀ w, Calls Try.prog 23 #[.agg #[.int .i64 2, .int .u8 0, .int .i64 lf, .int .i64 rg, .int .i64 0], .int .i64 n] w (PutOut L .nilIface w))) (HPQ : Hid (∀ w, Calls Try.prog 23 #[.agg #[.int .i64 2, .int .u8 0, .int .i64 (lf + y), .int .i64 (rg + y), .int .i64 0], .int .i64 (n + y)] w (PutOut L .nilIface w))) (w : World) :
    Calls Try.prog 8 #[.agg #[.int .i64 2, .int .u8 0, .int .i64 lf, .int .i64 rg, .int .i64 0], .int .i64 n, .int .i64 y] w fun e w' => e = .returned (.bool true) ∧ Below w.heap.size w w' := by
  have ny : ¬ y < 0 := by omega
  have nn : ¬ 1099511627776 < n := by omega
  have n2 : ¬ 1099511627776 < y := by omega
  have HBx := Lib.hid (Box.new w 24 #[.int .i64 2, .int .u8 0, .int .i64 lf, .int .i64 rg, .int .i64 0])
  have HB := Lib.hid (balloc (Below.refl w.heap.size w) (.cells #[.int .i64 2, .int .u8 0, .int .i64 lf, .int .i64 rg, .int .i64 0] 24))
  go_enter Try.func8, Try.ntmps8
  go_wp2_with fail
  (with_reducible refine (alive_any _).mono ?_)
  rintro e w1 ⟨rfl, B1⟩
  have Bx := HBx.out.below B1 HBx.out.lt
  have BW1 := Lib.hid (bkeep HB.out B1)
  have HX1 := Lib.hid Bx
  have k0 : w1.cell? ⟨w.heap.size, 0, none⟩ = some (.int .i64 2) := Bx.cell 0
  have k1 : w1.cell? ⟨w.heap.size, 1, none⟩ = some (.int .u8 0) := Bx.cell 1
  have k2 : w1.cell? ⟨w.heap.size, 2, none⟩ = some (.int .i64 lf) := Bx.cell 2
  have k3 : w1.cell? ⟨w.heap.size, 3, none⟩ = some (.int .i64 rg) := Bx.cell 3
  have k4 : w1.cell? ⟨w.heap.size, 4, none⟩ = some (.int .i64 0) := Bx.cell 4
  clear B1 Bx
  go_wp2_with fail
  (with_reducible refine (HPP.out _).mono ?_)
  rintro e w2 ⟨A, c, rfl, R1, B2⟩
  have Bx := HX1.out.below B2 HX1.out.lt
  have BW2 := Lib.hid (bkeep BW1.out B2)
  have HX2 := Lib.hid Bx
  have HR1 := Lib.hid R1
  clear k0 k1 k2 k3 k4 HX1
  have k0 : w2.cell? ⟨w.heap.size, 0, none⟩ = some (.int .i64 2) := Bx.cell 0
  have f0 := Bx.free 0
  have k1 : w2.cell? ⟨w.heap.size, 1, none⟩ = some (.int .u8 0) := Bx.cell 1
  have f1 := Bx.free 1
  have k2 : w2.cell? ⟨w.heap.size, 2, none⟩ = some (.int .i64 lf) := Bx.cell 2
  have f2 := Bx.free 2
  have k3 : w2.cell? ⟨w.heap.size, 3, none⟩ = some (.int .i64 rg) := Bx.cell 3
  have f3 := Bx.free 3
  have k4 : w2.cell? ⟨w.heap.size, 4, none⟩ = some (.int .i64 0) := Bx.cell 4
  have f4 := Bx.free 4
  clear B2 R1 Bx
  go_wp2_with fail
  (with_reducible refine (HPQ.out _).mono ?_)
  rintro e w3 ⟨A2, c2, rfl, R2, B3⟩
  have k3b : (w2.setCell ⟨w.heap.size, 2, none⟩ (.int .i64 (lf + y))).cell? ⟨w.heap.size, 3, none⟩ = some (.int .i64 rg) := by rw [World.cell?_setCell_other _ _ _ _ (by simp)]; exact k3
  have hA := (row_set (row_set HR1.out k2 (.int .i64 (lf + y))) k3b (.int .i64 (rg + y))).below B3 (Nat.le_refl _)
  have BC := bkeep ((BW2.out.setCell (p := ⟨w.heap.size, 2, none⟩) (by simp) (.int .i64 (lf + y))).setCell (p := ⟨w.heap.size, 3, none⟩) (by simp) (.int .i64 (rg + y))) B3
  have HS := Lib.hid (bytes_same L L.length c c2 A A2 rfl w3 hA R2)
  have HBC := Lib.hid BC
  clear hA R2 B3 BC
  go_wp2_with fail
  (with_reducible refine (HS.out).mono ?_)
  rintro e w' ⟨rfl, rfl⟩
  go_wp2_with fail
  go_ret
  exact ⟨rfl, HBC.out⟩
set_option maxRecDepth 100000 in
set_option maxHeartbeats 2000000 in
theorem shifts_k3 (lf tm n y : Int) (L : List Int) (n0 : 1 ≤ n) (n1 : n ≤ 1099511627776) (y0 : 0 ≤ y) (y1 : y ≤ 1099511627776) (a0 : 0 < lf) (a1 : lf ≤ 1099511627776)
    (HPP : Hid (∀ w, Calls Try.prog 23 #[.agg #[.int .i64 3, .int .u8 0, .int .i64 lf, .int .i64 0, .int .i64 tm], .int .i64 n] w (PutOut L .nilIface w))) (HPQ : Hid (∀ w, Calls Try.prog 23 #[.agg #[.int .i64 3, .int .u8 0, .int .i64 (lf + y), .int .i64 0, .int .i64 tm], .int .i64 (n + y)] w (PutOut L .nilIface w))) (w : World) :
    Calls Try.prog 8 #[.agg #[.int .i64 3, .int .u8 0, .int .i64 lf, .int .i64 0, .int .i64 tm], .int .i64 n, .int .i64 y] w fun e w' => e = .returned (.bool true) ∧ Below w.heap.size w w' := by
  have ny : ¬ y < 0 := by omega
  have nn : ¬ 1099511627776 < n := by omega
  have n2 : ¬ 1099511627776 < y := by omega
  have HBx := Lib.hid (Box.new w 24 #[.int .i64 3, .int .u8 0, .int .i64 lf, .int .i64 0, .int .i64 tm])
  have HB := Lib.hid (balloc (Below.refl w.heap.size w) (.cells #[.int .i64 3, .int .u8 0, .int .i64 lf, .int .i64 0, .int .i64 tm] 24))
  go_enter Try.func8, Try.ntmps8
  go_wp2_with fail
  (with_reducible refine (alive_any _).mono ?_)
  rintro e w1 ⟨rfl, B1⟩
  have Bx := HBx.out.below B1 HBx.out.lt
  have BW1 := Lib.hid (bkeep HB.out B1)
  have HX1 := Lib.hid Bx
  have k0 : w1.cell? ⟨w.heap.size, 0, none⟩ = some (.int .i64 3) := Bx.cell 0
  have k1 : w1.cell? ⟨w.heap.size, 1, none⟩ = some (.int .u8 0) := Bx.cell 1
  have k2 : w1.cell? ⟨w.heap.size, 2, none⟩ = some (.int .i64 lf) := Bx.cell 2
  have k3 : w1.cell? ⟨w.heap.size, 3, none⟩ = some (.int .i64 0) := Bx.cell 3
  have k4 : w1.cell? ⟨w.heap.size, 4, none⟩ = some (.int .i64 tm) := Bx.cell 4
  clear B1 Bx
  go_wp2_with fail
  (with_reducible refine (HPP.out _).mono ?_)
  rintro e w2 ⟨A, c, rfl, R1, B2⟩
  have Bx := HX1.out.below B2 HX1.out.lt
  have BW2 := Lib.hid (bkeep BW1.out B2)
  have HX2 := Lib.hid Bx
  have HR1 := Lib.hid R1
  clear k0 k1 k2 k3 k4 HX1
  have k0 : w2.cell? ⟨w.heap.size, 0, none⟩ = some (.int .i64 3) := Bx.cell 0
  have f0 := Bx.free 0
  have k1 : w2.cell? ⟨w.heap.size, 1, none⟩ = some (.int .u8 0) := Bx.cell 1
  have f1 := Bx.free 1
  have k2 : w2.cell? ⟨w.heap.size, 2, none⟩ = some (.int .i64 lf) := Bx.cell 2
  have f2 := Bx.free 2
  have k3 : w2.cell? ⟨w.heap.size, 3, none⟩ = some (.int .i64 0) := Bx.cell 3
  have f3 := Bx.free 3
  have k4 : w2.cell? ⟨w.heap.size, 4, none⟩ = some (.int .i64 tm) := Bx.cell 4
  have f4 := Bx.free 4
  clear B2 R1 Bx
  go_wp2_with fail
  (with_reducible refine (HPQ.out _).mono ?_)
  rintro e w3 ⟨A2, c2, rfl, R2, B3⟩
  have hA := (row_set HR1.out k2 (.int .i64 (lf + y))).below B3 (Nat.le_refl _)
  have BC := bkeep (BW2.out.setCell (p := ⟨w.heap.size, 2, none⟩) (by simp) (.int .i64 (lf + y))) B3
  have HS := Lib.hid (bytes_same L L.length c c2 A A2 rfl w3 hA R2)
  have HBC := Lib.hid BC
  clear hA R2 B3 BC
  go_wp2_with fail
  (with_reducible refine (HS.out).mono ?_)
  rintro e w' ⟨rfl, rfl⟩
  go_wp2_with fail
  go_ret
  exact ⟨rfl, HBC.out⟩
theorem enc_shift (kd lt lf rg tm n y : Int) : encR kd lt (lf + y) (rg + y) tm (n + y) = encR kd lt lf rg tm n := by
  unfold encR
  rw [show n + y - (lf + y) = n - lf by omega, show n + y - (rg + y) = n - rg by omega]
theorem law_shifts (kd lt lf rg tm n y : Int) (n0 : -9223372036854775808 ≤ n) (n1 : n ≤ 9223372036854775807) (t1 : tm ≤ 9223372036854775807) (y0 : -9223372036854775808 ≤ y) (y1 : y ≤ 9223372036854775807) (w : World) :
    Calls Try.prog 8 #[.agg #[.int .i64 kd, .int .u8 lt, .int .i64 lf, .int .i64 rg, .int .i64 tm], .int .i64 n, .int .i64 y] w fun e w' => e = .returned (.bool true) ∧ Below w.heap.size w w' := by
  by_cases h : checkCode kd lt lf rg tm n ≠ 0 ∨ y < 0 ∨ 1099511627776 < y ∨ 1099511627776 < n
  · exact shifts_out kd lt lf rg tm n y n0 n1 t1 y0 y1 h w
  · have hc : checkCode kd lt lf rg tm n = 0 := by
      by_cases e : checkCode kd lt lf rg tm n = 0
      · exact e
      · exact absurd (.inl e) h
    have HP := put_ok kd lt lf rg tm n n0 n1 t1 hc
    obtain ⟨m1, ⟨rfl, rfl, rfl, rfl⟩ | ⟨rfl, rfl, rfl, a0, a1, b0, b1⟩ | ⟨rfl, rfl, rfl, b0, a0, a1⟩⟩ := valid_way hc
    · have hc2 : checkCode 1 lt 0 0 0 (n + y) = 0 := check_of (by simp [formedB]) (by simp [rangedB, refsOf]; omega)
      have HQ := put_ok 1 lt 0 0 0 (n + y) (by omega) (by omega) t1 hc2
      exact shifts_k1 lt n y _ m1 (by omega) (by omega) (by omega) (Lib.hid HP) (Lib.hid HQ) w
    · have hc2 : checkCode 2 0 (lf + y) (rg + y) 0 (n + y) = 0 := check_of (by simp [formedB]) (by simp [rangedB, refsOf, inB]; omega)
      have HQ := put_ok 2 0 (lf + y) (rg + y) 0 (n + y) (by omega) (by omega) t1 hc2
      rw [enc_shift] at HQ
      exact shifts_k2 lf rg n y _ m1 (by omega) (by omega) (by omega) (by omega) (by omega) (by omega) (by omega) (Lib.hid HP) (Lib.hid HQ) w
    · have hc2 : checkCode 3 0 (lf + y) 0 tm (n + y) = 0 := check_of (by simp [formedB]; omega) (by simp [rangedB, refsOf, inB]; omega)
      have HQ := put_ok 3 0 (lf + y) 0 tm (n + y) (by omega) (by omega) t1 hc2
      have e : encR 3 0 (lf + y) 0 tm (n + y) = encR 3 0 lf 0 tm n := by
        have : ∀ a n, encR 3 0 a 0 tm n = ([3] ++ vput (n - a).toNat) ++ vput (tm - 2).toNat := fun a n => rfl
        rw [this, this, show n + y - (lf + y) = n - lf by omega]
      rw [e] at HQ
      exact shifts_k3 lf tm n y _ m1 (by omega) (by omega) (by omega) (by omega) (by omega) (Lib.hid HP) (Lib.hid HQ) w
end Go.Proofs.Ytpeapjnfncfjiaa
