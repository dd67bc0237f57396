/- The walk of evergreen/evergreenref11.Put. Written by wip/gen/ruleput.py. -/
import Derived.Test.YtcbahojefglakaaRulePutPlain
import Derived.Test.YtcbahojefglakaaGrVPut
namespace Go.Proofs.Ytcbahojefglakaa
set_option linter.unusedVariables false
set_option linter.unusedSimpArgs false
open Go.RowKit Go.Lib
theorem gvput_i (x : Int) (h0 : 0 ≤ x) (h1 : x < 18446744073709551616) (w : World) : Calls Try.prog 55 #[.int .u64 x] w (SliceOut w (vput x.toNat).length (vb (vput x.toNat))) := by
  have := gvput_any x.toNat (by omega) w
  rwa [Int.toNat_of_nonneg h0] at this
set_option maxRecDepth 100000 in
set_option maxHeartbeats 4000000 in
theorem gput_k1 (lt n : Int) (n0 : -9223372036854775808 ≤ n) (n1 : n ≤ 9223372036854775807) (w : World) :
    Calls Try.prog 56 #[.agg #[.int .i64 1, .int .u8 lt, .int .i64 0, .int .i64 0, .int .i64 0], .int .i64 n] w fun e w' => ∃ A c, e = .returned (.slice A ([1, lt]).length c) ∧ RowAt w' A (vb ([1, lt])) ∧ Below w.heap.size w w' := by
  obtain ⟨i0_, hi, hz0, hz1, hz2⟩ := info_parts5 info_u8
  have HI := Lib.hid hi; have HZ := Lib.hid hz0; have HZ1 := Lib.hid hz1; have HZ2 := Lib.hid hz2
  clear hi hz0 hz1 hz2
  have HBx := Lib.hid (Box.new w 46 #[.int .i64 1, .int .u8 lt, .int .i64 0, .int .i64 0, .int .i64 0])
  have HB := Lib.hid (balloc (Below.refl w.heap.size w) (.cells #[.int .i64 1, .int .u8 lt, .int .i64 0, .int .i64 0, .int .i64 0] 46))
  go_enter Try.func56, Try.ntmps56
  go_upto_region 1 with fail
  obtain ⟨w1, hw1⟩ : ∃ w1, w1 = w.alloc (.cells #[.int .i64 1, .int .u8 lt, .int .i64 0, .int .i64 0, .int .i64 0] 46) := ⟨_, rfl⟩
  rw [← hw1]
  have BW := Lib.hid (show Below w.heap.size w w1 from hw1 ▸ HB.out)
  have Bx : Box w1 w.heap.size 46 #[.int .i64 1, .int .u8 lt, .int .i64 0, .int .i64 0, .int .i64 0] := hw1 ▸ HBx.out
  have B1 := trivial
  clear hw1
  have r0 : w1.cell? ⟨w.heap.size, 0, none⟩ = some (.int .i64 1) := Bx.cell 0; have f0 := Bx.free 0
  have r1 : w1.cell? ⟨w.heap.size, 1, none⟩ = some (.int .u8 lt) := Bx.cell 1; have f1 := Bx.free 1
  have r2 : w1.cell? ⟨w.heap.size, 2, none⟩ = some (.int .i64 0) := Bx.cell 2; have f2 := Bx.free 2
  have r3 : w1.cell? ⟨w.heap.size, 3, none⟩ = some (.int .i64 0) := Bx.cell 3; have f3 := Bx.free 3
  have r4 : w1.cell? ⟨w.heap.size, 4, none⟩ = some (.int .i64 0) := Bx.cell 4; have f4 := Bx.free 4
  have zs : w.heap.size + 1 ≤ w1.heap.size := by have := Bx.lt; omega
  have zl : w.heap.size < w1.heap.size := by omega
  have HX := Lib.hid Bx
  have HO := Lib.hid (own_lit w1 [1] (by simp [maxLen]))
  clear B1 Bx
  have BX := Lib.hid (balloc' (Below.refl (w.heap.size + 1) w1) zs (.cells #[.int .u8 1] 5))
  have HA := Lib.hid (own_alloc HO.out (.cells #[.int .u8 lt] 5))
  go_wp2_with (refine wpList_app _ (by rfl) (.tmp 14) (.tmp 17) _ rfl (w1.heap.size) 5 i0_ _ 1 1 Try.underlying27 HI.out HZ.out HZ1.out HZ2.out rfl (by omega) (.slice (some ⟨w1.heap.size, 0, none⟩) 1 1) 1 (vb [1]) rfl HA.out (some ⟨w1.heap.size + 1, 0, none⟩) 1 1 (vb [lt]) rfl rfl ?row (vb_one _) (by simp only [maxLen]; omega) (by omega) ?size ?_)
  case row => have := RowAt.of_block (heap_alloc_new (w1.alloc (.cells #[.int .u8 1] 5)) (.cells #[.int .u8 lt] 5)); rw [World.size_alloc] at this; exact this
  case size => simp; omega
  intro A3 c3 w3 own3 gr3 at3
  have B3 := Lib.hid ((balloc' BX.out (by simp; omega) (.cells #[.int .u8 lt] 5)).grown gr3 (by simp; omega) (fun k h => Nat.le_trans zs (own_ge HO.out k h)))
  have HO3 := Lib.hid own3
  clear own3 gr3 at3
  go_wp2_with fail
  go_ret
  exact ⟨A3, c3, rfl, own_row _ HO3.out, BW.out.trans (B3.out.mono (by omega))⟩
set_option maxRecDepth 100000 in
set_option maxHeartbeats 4000000 in
theorem gput_k2 (lf rg n : Int) (n0 : -9223372036854775808 ≤ n) (n1 : n ≤ 9223372036854775807) (a0 : 1 ≤ lf) (a1 : lf ≤ n - 1) (b0 : 1 ≤ rg) (b1 : rg ≤ n - 1) (w : World) :
    Calls Try.prog 56 #[.agg #[.int .i64 2, .int .u8 0, .int .i64 lf, .int .i64 rg, .int .i64 0], .int .i64 n] w fun e w' => ∃ A c, e = .returned (.slice A (([2] ++ vput (n - lf).toNat) ++ vput (n - rg).toNat).length c) ∧ RowAt w' A (vb (([2] ++ vput (n - lf).toNat) ++ vput (n - rg).toNat)) ∧ Below w.heap.size w w' := by
  obtain ⟨i0_, hi, hz0, hz1, hz2⟩ := info_parts5 info_u8
  have HI := Lib.hid hi; have HZ := Lib.hid hz0; have HZ1 := Lib.hid hz1; have HZ2 := Lib.hid hz2
  clear hi hz0 hz1 hz2
  have HBx := Lib.hid (Box.new w 46 #[.int .i64 2, .int .u8 0, .int .i64 lf, .int .i64 rg, .int .i64 0])
  have HB := Lib.hid (balloc (Below.refl w.heap.size w) (.cells #[.int .i64 2, .int .u8 0, .int .i64 lf, .int .i64 rg, .int .i64 0] 46))
  have l0 := (vput_len 9 (n - lf).toNat (by omega)).2
  obtain ⟨V0, hV0⟩ : ∃ V, V = vput (n - lf).toNat := ⟨_, rfl⟩
  have hp0 := fun w => gvput_i (n - lf) (by omega) (by omega) w
  rw [← hV0] at hp0 l0 ⊢
  have HP0 := Lib.hid hp0
  clear hV0 hp0
  have l1 := (vput_len 9 (n - rg).toNat (by omega)).2
  obtain ⟨V1, hV1⟩ : ∃ V, V = vput (n - rg).toNat := ⟨_, rfl⟩
  have hp1 := fun w => gvput_i (n - rg) (by omega) (by omega) w
  rw [← hV1] at hp1 l1 ⊢
  have HP1 := Lib.hid hp1
  clear hV1 hp1
  go_enter Try.func56, Try.ntmps56
  go_upto_region 1 with fail
  obtain ⟨w1, hw1⟩ : ∃ w1, w1 = w.alloc (.cells #[.int .i64 2, .int .u8 0, .int .i64 lf, .int .i64 rg, .int .i64 0] 46) := ⟨_, rfl⟩
  rw [← hw1]
  have BW := Lib.hid (show Below w.heap.size w w1 from hw1 ▸ HB.out)
  have Bx : Box w1 w.heap.size 46 #[.int .i64 2, .int .u8 0, .int .i64 lf, .int .i64 rg, .int .i64 0] := hw1 ▸ HBx.out
  have B1 := trivial
  clear hw1
  have r0 : w1.cell? ⟨w.heap.size, 0, none⟩ = some (.int .i64 2) := Bx.cell 0; have f0 := Bx.free 0
  have r1 : w1.cell? ⟨w.heap.size, 1, none⟩ = some (.int .u8 0) := Bx.cell 1; have f1 := Bx.free 1
  have r2 : w1.cell? ⟨w.heap.size, 2, none⟩ = some (.int .i64 lf) := Bx.cell 2; have f2 := Bx.free 2
  have r3 : w1.cell? ⟨w.heap.size, 3, none⟩ = some (.int .i64 rg) := Bx.cell 3; have f3 := Bx.free 3
  have r4 : w1.cell? ⟨w.heap.size, 4, none⟩ = some (.int .i64 0) := Bx.cell 4; have f4 := Bx.free 4
  have zs : w.heap.size + 1 ≤ w1.heap.size := by have := Bx.lt; omega
  have zl : w.heap.size < w1.heap.size := by omega
  have HX := Lib.hid Bx
  have HO := Lib.hid (own_lit w1 [2] (by simp [maxLen]))
  clear B1 Bx
  have BX := Lib.hid (balloc' (Below.refl (w.heap.size + 1) w1) zs (.cells #[.int .u8 2] 5))
  go_wp2_with fail
  (with_reducible refine (HP0.out _).mono ?_)
  rintro e u0 ⟨Ap, cp, rfl, Rp, Bp⟩
  have HOb := Lib.hid (own_below HO.out Bp)
  have BXb := Lib.hid (BX.out.trans (Bp.mono (by first | omega | (simp; omega))))
  have HRp := Lib.hid Rp
  have us0 : w.heap.size + 1 ≤ u0.heap.size := by have := BXb.out.size; omega
  have bs0 : w1.heap.size ≤ u0.heap.size := BXb.out.size
  clear Bp Rp
  go_wp2_with (refine wpList_app _ (by rfl) (.tmp 21) (.tmp 27) _ rfl (w1.heap.size) 5 i0_ _ 1 1 Try.underlying27 HI.out HZ.out HZ1.out HZ2.out rfl (by omega) (.slice (some ⟨w1.heap.size, 0, none⟩) (1) 1) (1) (vb ([2])) rfl HOb.out Ap V0.length cp (vb V0) rfl (by simp [vb]) HRp.out (vb_one _) (by simp only [maxLen]; omega) (by omega) ?size ?_)
  case size => exact bs0
  intro A0 c0 y0 own0 gr0 at0
  have BX0 := Lib.hid (BXb.out.grown gr0 us0 (fun k h => Nat.le_trans zs (own_ge HOb.out k h)))
  rw [← vb_app] at own0
  have HO0 := Lib.hid own0
  have Bx0 := HX.out.below BX0.out (by omega)
  have s0 : y0.cell? ⟨w.heap.size, 0, none⟩ = some (.int .i64 2) := Bx0.cell 0
  have s1 : y0.cell? ⟨w.heap.size, 1, none⟩ = some (.int .u8 0) := Bx0.cell 1
  have s2 : y0.cell? ⟨w.heap.size, 2, none⟩ = some (.int .i64 lf) := Bx0.cell 2
  have s3 : y0.cell? ⟨w.heap.size, 3, none⟩ = some (.int .i64 rg) := Bx0.cell 3
  have s4 : y0.cell? ⟨w.heap.size, 4, none⟩ = some (.int .i64 0) := Bx0.cell 4
  have zs0 : w.heap.size + 1 ≤ y0.heap.size := by have := BX0.out.size; omega
  have zl0 : w.heap.size < y0.heap.size := by omega
  clear own0 gr0 at0 Bx0 HOb BXb HRp
  go_wp2_with fail
  (with_reducible refine (HP1.out _).mono ?_)
  rintro e u1 ⟨Ap, cp, rfl, Rp, Bp⟩
  have HOb := Lib.hid (own_below HO0.out Bp)
  have BXb := Lib.hid (BX0.out.trans (Bp.mono (by first | omega | (simp; omega))))
  have HRp := Lib.hid Rp
  have us1 : w.heap.size + 1 ≤ u1.heap.size := by have := BXb.out.size; omega
  have bs1 : w1.heap.size ≤ u1.heap.size := BXb.out.size
  clear Bp Rp
  go_wp2_with (refine wpList_app _ (by rfl) (.tmp 29) (.tmp 35) _ rfl (w1.heap.size) 5 i0_ _ 1 1 Try.underlying27 HI.out HZ.out HZ1.out HZ2.out rfl (by omega) (.slice A0 (1 + V0.length) c0) (1 + V0.length) (vb ([2] ++ V0)) rfl HOb.out Ap V1.length cp (vb V1) rfl (by simp [vb]) HRp.out (vb_one _) (by simp only [maxLen]; omega) (by omega) ?size ?_)
  case size => exact bs1
  intro A1 c1 y1 own1 gr1 at1
  have BX1 := Lib.hid (BXb.out.grown gr1 us1 (fun k h => Nat.le_trans zs (own_ge HOb.out k h)))
  rw [← vb_app] at own1
  have HO1 := Lib.hid own1
  have Bx1 := HX.out.below BX1.out (by omega)
  clear own1 gr1 at1 Bx1 HOb BXb HRp
  go_wp2_with fail
  go_ret
  exact ⟨A1, c1, congrArg (fun q => Ending.returned (.slice A1 q c1)) (by simp; omega), own_row _ HO1.out, BW.out.trans (BX1.out.mono (by omega))⟩
set_option maxRecDepth 100000 in
set_option maxHeartbeats 4000000 in
theorem gput_k3 (lf tm n : Int) (n0 : -9223372036854775808 ≤ n) (n1 : n ≤ 9223372036854775807) (a0 : 1 ≤ lf) (a1 : lf ≤ n - 1) (b0 : 2 ≤ tm) (b1 : tm ≤ 9223372036854775807) (w : World) :
    Calls Try.prog 56 #[.agg #[.int .i64 3, .int .u8 0, .int .i64 lf, .int .i64 0, .int .i64 tm], .int .i64 n] w fun e w' => ∃ A c, e = .returned (.slice A (([3] ++ vput (n - lf).toNat) ++ vput (tm - 2).toNat).length c) ∧ RowAt w' A (vb (([3] ++ vput (n - lf).toNat) ++ vput (tm - 2).toNat)) ∧ Below w.heap.size w w' := by
  obtain ⟨i0_, hi, hz0, hz1, hz2⟩ := info_parts5 info_u8
  have HI := Lib.hid hi; have HZ := Lib.hid hz0; have HZ1 := Lib.hid hz1; have HZ2 := Lib.hid hz2
  clear hi hz0 hz1 hz2
  have HBx := Lib.hid (Box.new w 46 #[.int .i64 3, .int .u8 0, .int .i64 lf, .int .i64 0, .int .i64 tm])
  have HB := Lib.hid (balloc (Below.refl w.heap.size w) (.cells #[.int .i64 3, .int .u8 0, .int .i64 lf, .int .i64 0, .int .i64 tm] 46))
  have l0 := (vput_len 9 (n - lf).toNat (by omega)).2
  obtain ⟨V0, hV0⟩ : ∃ V, V = vput (n - lf).toNat := ⟨_, rfl⟩
  have hp0 := fun w => gvput_i (n - lf) (by omega) (by omega) w
  rw [← hV0] at hp0 l0 ⊢
  have HP0 := Lib.hid hp0
  clear hV0 hp0
  have l1 := (vput_len 9 (tm - 2).toNat (by omega)).2
  obtain ⟨V1, hV1⟩ : ∃ V, V = vput (tm - 2).toNat := ⟨_, rfl⟩
  have hp1 := fun w => gvput_i (tm - 2) (by omega) (by omega) w
  rw [← hV1] at hp1 l1 ⊢
  have HP1 := Lib.hid hp1
  clear hV1 hp1
  go_enter Try.func56, Try.ntmps56
  go_upto_region 1 with fail
  obtain ⟨w1, hw1⟩ : ∃ w1, w1 = w.alloc (.cells #[.int .i64 3, .int .u8 0, .int .i64 lf, .int .i64 0, .int .i64 tm] 46) := ⟨_, rfl⟩
  rw [← hw1]
  have BW := Lib.hid (show Below w.heap.size w w1 from hw1 ▸ HB.out)
  have Bx : Box w1 w.heap.size 46 #[.int .i64 3, .int .u8 0, .int .i64 lf, .int .i64 0, .int .i64 tm] := hw1 ▸ HBx.out
  have B1 := trivial
  clear hw1
  have r0 : w1.cell? ⟨w.heap.size, 0, none⟩ = some (.int .i64 3) := Bx.cell 0; have f0 := Bx.free 0
  have r1 : w1.cell? ⟨w.heap.size, 1, none⟩ = some (.int .u8 0) := Bx.cell 1; have f1 := Bx.free 1
  have r2 : w1.cell? ⟨w.heap.size, 2, none⟩ = some (.int .i64 lf) := Bx.cell 2; have f2 := Bx.free 2
  have r3 : w1.cell? ⟨w.heap.size, 3, none⟩ = some (.int .i64 0) := Bx.cell 3; have f3 := Bx.free 3
  have r4 : w1.cell? ⟨w.heap.size, 4, none⟩ = some (.int .i64 tm) := Bx.cell 4; have f4 := Bx.free 4
  have zs : w.heap.size + 1 ≤ w1.heap.size := by have := Bx.lt; omega
  have zl : w.heap.size < w1.heap.size := by omega
  have HX := Lib.hid Bx
  have HO := Lib.hid (own_lit w1 [3] (by simp [maxLen]))
  clear B1 Bx
  have BX := Lib.hid (balloc' (Below.refl (w.heap.size + 1) w1) zs (.cells #[.int .u8 3] 5))
  go_wp2_with fail
  (with_reducible refine (HP0.out _).mono ?_)
  rintro e u0 ⟨Ap, cp, rfl, Rp, Bp⟩
  have HOb := Lib.hid (own_below HO.out Bp)
  have BXb := Lib.hid (BX.out.trans (Bp.mono (by first | omega | (simp; omega))))
  have HRp := Lib.hid Rp
  have us0 : w.heap.size + 1 ≤ u0.heap.size := by have := BXb.out.size; omega
  have bs0 : w1.heap.size ≤ u0.heap.size := BXb.out.size
  clear Bp Rp
  go_wp2_with (refine wpList_app _ (by rfl) (.tmp 37) (.tmp 43) _ rfl (w1.heap.size) 5 i0_ _ 1 1 Try.underlying27 HI.out HZ.out HZ1.out HZ2.out rfl (by omega) (.slice (some ⟨w1.heap.size, 0, none⟩) (1) 1) (1) (vb ([3])) rfl HOb.out Ap V0.length cp (vb V0) rfl (by simp [vb]) HRp.out (vb_one _) (by simp only [maxLen]; omega) (by omega) ?size ?_)
  case size => exact bs0
  intro A0 c0 y0 own0 gr0 at0
  have BX0 := Lib.hid (BXb.out.grown gr0 us0 (fun k h => Nat.le_trans zs (own_ge HOb.out k h)))
  rw [← vb_app] at own0
  have HO0 := Lib.hid own0
  have Bx0 := HX.out.below BX0.out (by omega)
  have s0 : y0.cell? ⟨w.heap.size, 0, none⟩ = some (.int .i64 3) := Bx0.cell 0
  have s1 : y0.cell? ⟨w.heap.size, 1, none⟩ = some (.int .u8 0) := Bx0.cell 1
  have s2 : y0.cell? ⟨w.heap.size, 2, none⟩ = some (.int .i64 lf) := Bx0.cell 2
  have s3 : y0.cell? ⟨w.heap.size, 3, none⟩ = some (.int .i64 0) := Bx0.cell 3
  have s4 : y0.cell? ⟨w.heap.size, 4, none⟩ = some (.int .i64 tm) := Bx0.cell 4
  have zs0 : w.heap.size + 1 ≤ y0.heap.size := by have := BX0.out.size; omega
  have zl0 : w.heap.size < y0.heap.size := by omega
  clear own0 gr0 at0 Bx0 HOb BXb HRp
  go_wp2_with fail
  (with_reducible refine (HP1.out _).mono ?_)
  rintro e u1 ⟨Ap, cp, rfl, Rp, Bp⟩
  have HOb := Lib.hid (own_below HO0.out Bp)
  have BXb := Lib.hid (BX0.out.trans (Bp.mono (by first | omega | (simp; omega))))
  have HRp := Lib.hid Rp
  have us1 : w.heap.size + 1 ≤ u1.heap.size := by have := BXb.out.size; omega
  have bs1 : w1.heap.size ≤ u1.heap.size := BXb.out.size
  clear Bp Rp
  go_wp2_with (refine wpList_app _ (by rfl) (.tmp 45) (.tmp 50) _ rfl (w1.heap.size) 5 i0_ _ 1 1 Try.underlying27 HI.out HZ.out HZ1.out HZ2.out rfl (by omega) (.slice A0 (1 + V0.length) c0) (1 + V0.length) (vb ([3] ++ V0)) rfl HOb.out Ap V1.length cp (vb V1) rfl (by simp [vb]) HRp.out (vb_one _) (by simp only [maxLen]; omega) (by omega) ?size ?_)
  case size => exact bs1
  intro A1 c1 y1 own1 gr1 at1
  have BX1 := Lib.hid (BXb.out.grown gr1 us1 (fun k h => Nat.le_trans zs (own_ge HOb.out k h)))
  rw [← vb_app] at own1
  have HO1 := Lib.hid own1
  have Bx1 := HX.out.below BX1.out (by omega)
  clear own1 gr1 at1 Bx1 HOb BXb HRp
  go_wp2_with fail
  go_ret
  exact ⟨A1, c1, congrArg (fun q => Ending.returned (.slice A1 q c1)) (by simp; omega), own_row _ HO1.out, BW.out.trans (BX1.out.mono (by omega))⟩
end Go.Proofs.Ytcbahojefglakaa
