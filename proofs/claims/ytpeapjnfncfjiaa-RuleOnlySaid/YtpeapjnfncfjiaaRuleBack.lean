/- The law RuleBack. -/
import Derived.Test.YtpeapjnfncfjiaaRuleTake
import Derived.Test.YtpeapjnfncfjiaaRuleBackPlain
import Derived.Test.YtpeapjnfncfjiaaRulePutLaw
namespace Go.Proofs.Ytpeapjnfncfjiaa
set_option linter.unusedVariables false
set_option linter.unusedSimpArgs false
open Go.RowKit Go.Lib
attribute [local go_sem ↓] Go.wp_at_zero Go.wp_at_succ
theorem own_cap {w : World} {base : Nat} {e : TypeId} {size n c : Nat} {A : Option Addr} {xs : List Value} (h : w.ownsRow base e size (.slice A n c) n xs) : n ≤ c := by
  rcases h.2 with ⟨h1, h2⟩ | ⟨g, cap, cur, hv, _, _, hnc, _⟩
  · omega
  · injection hv with _ _ hc
    omega
set_option maxRecDepth 100000 in
set_option maxHeartbeats 2000000 in
theorem back_bad (kd lt lf rg tm n : Int) (A : Option Addr) (m c : Nat) (n0 : -9223372036854775808 ≤ n) (n1 : n ≤ 9223372036854775807) (h : checkCode kd lt lf rg tm n ≠ 0) (w : World) :
    Calls Try.prog 10 #[.agg #[.int .i64 kd, .int .u8 lt, .int .i64 lf, .int .i64 rg, .int .i64 tm], .int .i64 n, .slice A m c] w fun e w' => e = .returned (.bool true) ∧ Below w.heap.size w w' := by
  have hp := fun w => put_bad kd lt lf rg tm n n0 n1 h w
  have hc := fun w => check_any kd lt lf rg tm n n0 n1 w
  generalize checkCode kd lt lf rg tm n = k at hp hc h
  rw [errv_pos k h] at hp hc
  have HP := Lib.hid hp; have HC := Lib.hid hc
  have HBx := Lib.hid (Box.new w 24 #[.int .i64 kd, .int .u8 lt, .int .i64 lf, .int .i64 rg, .int .i64 tm])
  have HB := Lib.hid (balloc (Below.refl w.heap.size w) (.cells #[.int .i64 kd, .int .u8 lt, .int .i64 lf, .int .i64 rg, .int .i64 tm] 24))
  clear hp hc h
  go_enter Try.func10, Try.ntmps10
  go_wp2_with fail
  (with_reducible refine (alive_any _).mono ?_)
  rintro e w1 ⟨rfl, B1⟩
  have Bx := HBx.out.below B1 HBx.out.lt
  have BW1 := Lib.hid (bkeep HB.out B1)
  have HX1 := Lib.hid Bx
  have k0 : w1.cell? ⟨w.heap.size, 0, none⟩ = some (.int .i64 kd) := Bx.cell 0
  have k1 : w1.cell? ⟨w.heap.size, 1, none⟩ = some (.int .u8 lt) := Bx.cell 1
  have k2 : w1.cell? ⟨w.heap.size, 2, none⟩ = some (.int .i64 lf) := Bx.cell 2
  have k3 : w1.cell? ⟨w.heap.size, 3, none⟩ = some (.int .i64 rg) := Bx.cell 3
  have k4 : w1.cell? ⟨w.heap.size, 4, none⟩ = some (.int .i64 tm) := Bx.cell 4
  clear B1 Bx
  go_wp2_with fail
  (with_reducible refine (HP.out _).mono ?_)
  rintro e w2 ⟨rfl, B2⟩
  have Bx := HX1.out.below B2 HX1.out.lt
  have BW2 := Lib.hid (bkeep BW1.out B2)
  clear k0 k1 k2 k3 k4
  have k0 : w2.cell? ⟨w.heap.size, 0, none⟩ = some (.int .i64 kd) := Bx.cell 0
  have k1 : w2.cell? ⟨w.heap.size, 1, none⟩ = some (.int .u8 lt) := Bx.cell 1
  have k2 : w2.cell? ⟨w.heap.size, 2, none⟩ = some (.int .i64 lf) := Bx.cell 2
  have k3 : w2.cell? ⟨w.heap.size, 3, none⟩ = some (.int .i64 rg) := Bx.cell 3
  have k4 : w2.cell? ⟨w.heap.size, 4, none⟩ = some (.int .i64 tm) := Bx.cell 4
  clear B2 Bx
  go_wp2_with fail
  (with_reducible refine (HC.out _).mono ?_)
  rintro e w3 ⟨rfl, B3⟩
  have BW3 := Lib.hid (bkeep BW2.out B3)
  clear B3
  go_wp2_with fail
  go_ret
  exact ⟨rfl, BW3.out⟩
set_option maxRecDepth 100000 in
set_option maxHeartbeats 2000000 in
theorem back_ok (kd lt lf rg tm n : Int) (L l : List Int) (A : Option Addr) (m c : Nat) (hl : l.length = m) (hm : m ≤ 140737488351232) (hL : L.length ≤ 21)
    (HP : Hid (∀ w, Calls Try.prog 23 #[.agg #[.int .i64 kd, .int .u8 lt, .int .i64 lf, .int .i64 rg, .int .i64 tm], .int .i64 n] w (PutOut L .nilIface w)))
    (HT : Hid (∀ A q c w, q = L.length + m → q ≤ c → RowAt w A (vb (L ++ l)) → Calls Try.prog 27 #[.slice A q c, .int .i64 n] w fun e w' => e = .returned (.tuple #[.agg #[.int .i64 kd, .int .u8 lt, .int .i64 lf, .int .i64 rg, .int .i64 tm], .int .i64 (L.length : Int), .nilIface]) ∧ Below w.heap.size w w')) (w : World) (ha : RowAt w A (vb l)) :
    Calls Try.prog 10 #[.agg #[.int .i64 kd, .int .u8 lt, .int .i64 lf, .int .i64 rg, .int .i64 tm], .int .i64 n, .slice A m c] w fun e w' => e = .returned (.bool true) ∧ Below w.heap.size w w' := by
  obtain ⟨i0_, hi, hz0, hz1, hz2⟩ := info_parts5 info_u8
  have HI := Lib.hid hi; have HZ := Lib.hid hz0; have HZ1 := Lib.hid hz1; have HZ2 := Lib.hid hz2
  have HA := Lib.hid ha; have HL := Lib.hid hl
  have HBx := Lib.hid (Box.new w 24 #[.int .i64 kd, .int .u8 lt, .int .i64 lf, .int .i64 rg, .int .i64 tm])
  have HB := Lib.hid (balloc (Below.refl w.heap.size w) (.cells #[.int .i64 kd, .int .u8 lt, .int .i64 lf, .int .i64 rg, .int .i64 tm] 24))
  clear ha hl hi hz0 hz1 hz2
  go_enter Try.func10, Try.ntmps10
  go_wp2_with fail
  (with_reducible refine (alive_any _).mono ?_)
  rintro e w1 ⟨rfl, B1⟩
  have Bx := HBx.out.below B1 HBx.out.lt
  have BW1 := Lib.hid (bkeep HB.out B1)
  have HX1 := Lib.hid Bx
  have k0 : w1.cell? ⟨w.heap.size, 0, none⟩ = some (.int .i64 kd) := Bx.cell 0
  have k1 : w1.cell? ⟨w.heap.size, 1, none⟩ = some (.int .u8 lt) := Bx.cell 1
  have k2 : w1.cell? ⟨w.heap.size, 2, none⟩ = some (.int .i64 lf) := Bx.cell 2
  have k3 : w1.cell? ⟨w.heap.size, 3, none⟩ = some (.int .i64 rg) := Bx.cell 3
  have k4 : w1.cell? ⟨w.heap.size, 4, none⟩ = some (.int .i64 tm) := Bx.cell 4
  clear B1 Bx
  go_wp2_with fail
  (with_reducible refine (HP.out _).mono ?_)
  rintro e w2 ⟨Ab, cb, rfl, R2, B2⟩
  have BW2 := Lib.hid (bkeep BW1.out B2)
  have HX2 := Lib.hid (HX1.out.below B2 HX1.out.lt)
  have HR2 := Lib.hid (R2.below (balloc (Below.refl w2.heap.size w2) (.cells #[] 5)) (Nat.le_refl _))
  have HO := Lib.hid (own_made w2 5 1)
  clear k0 k1 k2 k3 k4 B2 R2
  go_wp2_with (refine wpList_app _ (by rfl) (.tmp 26) (.tmp 27) _ rfl (w2.heap.size) 5 i0_ _ 1 1 Try.underlying45 HI.out HZ.out HZ1.out HZ2.out rfl (by omega) (.slice (some ⟨w2.heap.size, 0, none⟩) 0 0) 0 [] rfl HO.out Ab L.length cb (vb L) rfl (by simp [vb]) HR2.out (vb_one _) (by simp only [maxLen]; omega) (by omega) ?size ?_)
  case size => simp
  intro A3 c3 w3 own3 gr3 at3
  have BX3 := Lib.hid ((balloc (Below.refl w2.heap.size w2) (.cells #[] 5)).grown gr3 (by simp) (own_ge HO.out))
  have HO3 := Lib.hid own3
  have BW3 := Lib.hid (BW2.out.trans (BX3.out.mono BW2.out.size))
  have HA3 := Lib.hid (HA.out.below BW3.out (Nat.le_refl _))
  clear own3 gr3 at3
  go_wp2_with (refine wpList_app _ (by rfl) (.tmp 28) (.tmp 29) _ rfl (w2.heap.size) 5 i0_ _ 1 1 Try.underlying45 HI.out HZ.out HZ1.out HZ2.out rfl (by omega) (.slice A3 L.length c3) L.length (vb L) rfl HO3.out A m c (vb l) rfl (by simp [vb, HL.out]) HA3.out (vb_one _) (by simp only [maxLen]; omega) (by omega) ?size ?_)
  case size => exact BX3.out.size
  intro A4 c4 w4 own4 gr4 at4
  have BX4 := Lib.hid (BX3.out.grown gr4 BX3.out.size (own_ge HO3.out))
  rw [← vb_app] at own4
  have HO4 := Lib.hid own4
  have BW4 := Lib.hid (BW2.out.trans (BX4.out.mono BW2.out.size))
  have HX4 := Lib.hid (HX2.out.below BX4.out HX2.out.lt)
  clear own4 gr4 at4
  go_wp2_with fail
  (with_reducible refine (HT.out _ _ _ _ rfl (own_cap HO4.out) (own_row _ HO4.out)).mono ?_)
  rintro e w5 ⟨rfl, B5⟩
  have Bx := HX4.out.below B5 HX4.out.lt
  have BW5 := Lib.hid (bkeep BW4.out B5)
  have k0 : w5.cell? ⟨w.heap.size, 0, none⟩ = some (.int .i64 kd) := Bx.cell 0
  have k1 : w5.cell? ⟨w.heap.size, 1, none⟩ = some (.int .u8 lt) := Bx.cell 1
  have k2 : w5.cell? ⟨w.heap.size, 2, none⟩ = some (.int .i64 lf) := Bx.cell 2
  have k3 : w5.cell? ⟨w.heap.size, 3, none⟩ = some (.int .i64 rg) := Bx.cell 3
  have k4 : w5.cell? ⟨w.heap.size, 4, none⟩ = some (.int .i64 tm) := Bx.cell 4
  have zl : w.heap.size < w5.heap.size := Bx.lt
  clear B5 Bx
  go_wp2_with fail
  go_ret
  exact ⟨rfl, BW5.out.alloc BW5.out.size _⟩
theorem law_back (kd lt lf rg tm n : Int) (l0 : 0 ≤ lt) (l1 : lt ≤ 255) (n0 : -9223372036854775808 ≤ n) (n1 : n ≤ 9223372036854775807) (t1 : tm ≤ 9223372036854775807) (l : List Int) (m c : Nat) (A : Option Addr) (hl : l.length = m) (hm : m ≤ 140737488351232) (hb : U8s l) (w : World) (ha : RowAt w A (vb l)) :
    Calls Try.prog 10 #[.agg #[.int .i64 kd, .int .u8 lt, .int .i64 lf, .int .i64 rg, .int .i64 tm], .int .i64 n, .slice A m c] w fun e w' => e = .returned (.bool true) ∧ Below w.heap.size w w' := by
  by_cases h : checkCode kd lt lf rg tm n = 0
  · have el := enc_len kd lt lf rg tm n n1 t1 h
    refine back_ok kd lt lf rg tm n (encR kd lt lf rg tm n) l A m c hl hm el (Lib.hid fun w => put_ok kd lt lf rg tm n n0 n1 t1 h w) (Lib.hid fun A2 q c2 w hq hc hr => ?_) w ha
    have ht := tk_any (encR kd lt lf rg tm n ++ l) q c2 A2 (by rw [List.length_append, hl, hq]) (by omega) hc ((enc_u8 kd lt lf rg tm n l0 l1).app hb) n n0 n1 w hr
    rw [tk_back kd lt lf rg tm n l n1 t1 h] at ht
    exact ht
  · exact back_bad kd lt lf rg tm n A m c n0 n1 h w
end Go.Proofs.Ytpeapjnfncfjiaa
