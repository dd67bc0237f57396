/- The walk of evergreenref11.Weight: the weight of a text, by definition. -/
import Derived.Test.YtcbahojefglakaaWgtROf
import Derived.Test.YtcbahojefglakaaModRef
namespace Go.Proofs.Ytcbahojefglakaa
set_option linter.unusedVariables false
set_option linter.unusedSimpArgs false
open Go.RowKit Go.Lib
attribute [local go_sem ↓] Go.wp_at_zero Go.wp_at_succ
theorem dOf_take2 (l : List Int) (k : Nat) (hk : k < l.length) (V S : Int) (h : (V, S) = dOf (l.take k)) : dOf (l.take (k + 1)) = (red (red (V * 1103515245) + (l[k] + 1)), red (S * 1103515245)) := by
  rw [dOf_take l k hk V S h, Int.add_assoc]
set_option maxRecDepth 100000 in
set_option maxHeartbeats 8000000 in
theorem rweight_any (l : List Int) (n c : Nat) (A : Option Addr) (hl : l.length = n) (hn : n ≤ 1152921504606846976) (hb : U8s l) (w : World) (ha : RowAt w A (vb l)) :
    Calls Try.prog 41 #[.slice A n c] w fun e w' => e = .returned (.agg #[.int .i64 (wOf l).n, .int .i64 (wOf l).l, .int .i64 (wOf l).h, .int .i64 (wOf l).t, .int .u64 (wOf l).v, .int .u64 (wOf l).s]) ∧ Below w.heap.size w w' := by
  have HA := Lib.hid ha; have HL := Lib.hid hl; have HB := Lib.hid hb
  have HPR := Lib.hid ((Box.new w 70 #[.int .i64 0, .int .i64 0, .int .i64 0, .int .i64 0, .int .u64 0, .int .u64 0]).alloc (.cells #[.int .i64 n, .int .i64 0, .int .i64 n, .int .i64 n, .int .u64 0, .int .u64 1] 70))
  have HPX := Lib.hid (Box.new (w.alloc (.cells #[.int .i64 0, .int .i64 0, .int .i64 0, .int .i64 0, .int .u64 0, .int .u64 0] 70)) 70 #[.int .i64 n, .int .i64 0, .int .i64 n, .int .i64 n, .int .u64 0, .int .u64 1])
  have HBW := Lib.hid (balloc (balloc (Below.refl w.heap.size w) (.cells #[.int .i64 0, .int .i64 0, .int .i64 0, .int .i64 0, .int .u64 0, .int .u64 0] 70)) (.cells #[.int .i64 n, .int .i64 0, .int .i64 n, .int .i64 n, .int .u64 0, .int .u64 1] 70))
  rw [World.size_alloc] at HPX
  clear ha hl hb
  go_enter Try.func41, Try.ntmps41
  go_wp2_with fail
  go_loopw [4] (fun si wr => ∃ (k : Nat) (L H T V S : Int), si = .int .i64 (k : Int) ∧ k ≤ n ∧ Hid (((k : Int), L, H, T) = wk n (l.take k)) ∧ Hid ((V, S) = dOf (l.take k)) ∧ 0 ≤ L ∧ L ≤ k ∧ 0 ≤ V ∧ V < 2305843009213693951 ∧ 0 ≤ S ∧ S < 2305843009213693951 ∧ Hid (Box wr w.heap.size 70 #[.int .i64 0, .int .i64 0, .int .i64 0, .int .i64 0, .int .u64 0, .int .u64 0]) ∧
    Hid (Box wr (w.heap.size + 1) 70 #[.int .i64 n, .int .i64 L, .int .i64 H, .int .i64 T, .int .u64 V, .int .u64 S]) ∧ Hid (Below w.heap.size w wr)) (fun si _ => n - (intOf si).toNat)
  case atStart => exact ⟨0, 0, n, n, 0, 1, rfl, by omega, Lib.hid rfl, Lib.hid rfl, by omega, by omega, by omega, by omega, by omega, by omega, HPR, HPX, HBW⟩
  case round =>
    obtain ⟨k, L, H, T, V, S, rfl, hk, HK, HD, L0, L1, v0, v1, s0, s1, PR, PX, BW⟩ := hrel
    have glt := PX.out.lt
    by_cases hlt : k < n
    · have hkl : k < l.length := by rw [HL.out]; exact hlt
      obtain ⟨ad, rfl, g1, c1⟩ := HA.out.get (vb_get hkl)
      obtain ⟨b0, b1⟩ := HB.out _ (List.getElem_mem hkl)
      have htk : l.take (k + 1) = l.take k ++ [l[k]] := List.take_succ_eq_append_getElem hkl
      have hd2 := dOf_take2 l k hkl V S HD.out
      obtain ⟨z, hz⟩ : ∃ z, z = l[k] := ⟨_, rfl⟩
      rw [← hz] at c1 b0 b1 htk hd2
      have HD2 := Lib.hid hd2.symm
      have c2 := (BW.out.cell (p := ad.add k) (by rw [block_add]; exact g1)).trans c1
      have g2 : (ad.add k).block < wr.heap.size := cell_lt c2
      have gn : (ad.add k).block ≠ w.heap.size + 1 := by rw [block_add]; omega
      have vv0 := red_lo (V * 1103515245); have vv1 := red_hi (V * 1103515245)
      have k0 : (0 : Int) ≤ k := by omega
      have k1 : (k : Int) < n := by omega
      have PXo := PX.out
      have HTK := Lib.hid htk
      have HC1 := Lib.hid c1
      clear hz hd2 HD htk c1
      obtain ⟨V2, hV2⟩ : ∃ V2, V2 = red (red (V * 1103515245) + (z + 1)) := ⟨_, rfl⟩
      obtain ⟨S2, hS2⟩ : ∃ S2, S2 = red (S * 1103515245) := ⟨_, rfl⟩
      have V20 : 0 ≤ V2 := by rw [hV2]; exact red_lo _
      have V21 : V2 < 2305843009213693951 := by rw [hV2]; exact red_hi _
      have S20 : 0 ≤ S2 := by rw [hS2]; exact red_lo _
      have S21 : S2 < 2305843009213693951 := by rw [hS2]; exact red_hi _
      rw [← hV2, ← hS2] at HD2
      have HA1 : Hid (∀ w, Calls Try.prog 62 #[.int .u64 (red (V * 1103515245)), .int .u64 (z + 1)] w fun e w' => e = .returned (.int .u64 V2) ∧ w = w') := Lib.hid (fun w => by rw [hV2]; exact refadd_any _ _ (by omega) (by omega) (by omega) (by omega) w)
      have HM1 : Hid (∀ w, Calls Try.prog 63 #[.int .u64 S, .int .u64 1103515245] w fun e w' => e = .returned (.int .u64 S2) ∧ w = w') := Lib.hid (fun w => by rw [hS2]; exact refmul_any _ _ (by omega) (by omega) (by omega) (by omega) w)
      clear hV2 hS2
      go_upto_region 5 with fail
      refine region_lin (.val (fun v _ => v = .pointer (some ⟨(w.heap.size + 1), 4, none⟩)) :: .val (fun v _ => v = .pointer (some ⟨(w.heap.size + 1), 4, none⟩)) :: .val (fun v _ => v = .int .u64 V) :: .val (fun v _ => v = .int .u64 (red (V * 1103515245))) :: .val (fun v _ => v = .slice (some ad) n c) :: .val (fun v _ => v = .int .i64 k) :: .val (fun v _ => v = .pointer (some (ad.add k))) :: .val (fun v _ => v = .int .u8 z) :: .val (fun v _ => v = .int .u64 z) :: .val (fun v _ => v = .int .u64 (z + 1)) :: .val (fun v _ => v = .int .u64 V2) :: .val (fun v _ => v = .pointer (some ⟨(w.heap.size + 1), 4, none⟩)) :: .val (fun v _ => v = .pointer (some ⟨(w.heap.size + 1), 4, none⟩)) :: [])
        ([] :: [(19, 0)] :: [(20, 1)] :: [(21, 2)] :: [] :: [] :: [(23, 4), (24, 5)] :: [(25, 6)] :: [(26, 7)] :: [(27, 8)] :: [(22, 3), (28, 9)] :: [] :: [(30, 11)] :: []) ((0, 0) :: (0, 0) :: (0, 0) :: (0, 0) :: (0, 0) :: (0, 0) :: (0, 0) :: (0, 0) :: (0, 0) :: (0, 0) :: (0, 0) :: (0, 0) :: (0, 0) :: []) 59 (by kernel_rfl) rfl rfl (by kernel_rfl) ⟨Stab.pure _ _ _, Stab.pure _ _ _, Stab.pure _ _ _, Stab.pure _ _ _, Stab.pure _ _ _, Stab.pure _ _ _, Stab.pure _ _ _, Stab.pure _ _ _, Stab.pure _ _ _, Stab.pure _ _ _, Stab.pure _ _ _, Stab.pure _ _ _, Stab.pure _ _ _, trivial⟩ ⟨?_, ?_, ?_, ?_, ?_, ?_, ?_, ?_, ?_, ?_, ?_, ?_, ?_, trivial⟩ ?_
      · intro wx hb
        intro K hK
        go_simp
        exact hK _ _ rfl ⟨rfl, Below.refl _ _⟩
      · intro wx hb
        rintro _ rfl
        intro K hK
        go_simp
        exact hK _ _ rfl ⟨rfl, Below.refl _ _⟩
      · intro wx hb
        rintro _ rfl
        intro K hK
        have mm := Box.below (PXo) hb (Box.lt (PXo))
        have m0 : wx.cell? ⟨(w.heap.size + 1), 0, none⟩ = some (.int .i64 n) := mm.cell 0
        have m1 : wx.cell? ⟨(w.heap.size + 1), 1, none⟩ = some (.int .i64 L) := mm.cell 1
        have m2 : wx.cell? ⟨(w.heap.size + 1), 2, none⟩ = some (.int .i64 H) := mm.cell 2
        have m3 : wx.cell? ⟨(w.heap.size + 1), 3, none⟩ = some (.int .i64 T) := mm.cell 3
        have m4 : wx.cell? ⟨(w.heap.size + 1), 4, none⟩ = some (.int .u64 V) := mm.cell 4
        have m5 : wx.cell? ⟨(w.heap.size + 1), 5, none⟩ = some (.int .u64 S) := mm.cell 5
        clear mm
        go_simp
        exact hK _ _ rfl ⟨rfl, Below.refl _ _⟩
      · intro wx hb
        rintro _ rfl
        intro K hK
        go_simp
        (with_reducible refine (refmul_any V 1103515245 (by omega) (by omega) (by omega) (by omega) _).mono ?_)
        rintro e wa ⟨rfl, rfl⟩
        exact hK _ _ rfl ⟨rfl, Below.refl _ _⟩
      · intro wx hb
        intro K hK
        go_simp
        exact hK _ _ rfl ⟨rfl, Below.refl _ _⟩
      · intro wx hb
        intro K hK
        go_simp
        exact hK _ _ rfl ⟨rfl, Below.refl _ _⟩
      · intro wx hb
        rintro _ rfl
        rintro _ rfl
        intro K hK
        go_simp
        exact hK _ _ rfl ⟨rfl, Below.refl _ _⟩
      · intro wx hb
        rintro _ rfl
        intro K hK
        have m := (hb.cell (p := ad.add k) g2).trans c2
        go_simp
        exact hK _ _ rfl ⟨rfl, Below.refl _ _⟩
      · intro wx hb
        rintro _ rfl
        intro K hK
        have wz := IntWalk.u64_in z ⟨by omega, by omega⟩
        go_simp
        exact hK _ _ rfl ⟨rfl, Below.refl _ _⟩
      · intro wx hb
        rintro _ rfl
        intro K hK
        have wz := IntWalk.u64_in (z + 1) ⟨by omega, by omega⟩
        go_simp
        exact hK _ _ rfl ⟨rfl, Below.refl _ _⟩
      · intro wx hb
        rintro _ rfl
        rintro _ rfl
        intro K hK
        go_simp
        (with_reducible refine (HA1.out _).mono ?_)
        rintro e wa ⟨rfl, rfl⟩
        exact hK _ _ rfl ⟨rfl, Below.refl _ _⟩
      · intro wx hb
        intro K hK
        go_simp
        exact hK _ _ rfl ⟨rfl, Below.refl _ _⟩
      · intro wx hb
        rintro _ rfl
        intro K hK
        go_simp
        exact hK _ _ rfl ⟨rfl, Below.refl _ _⟩
      intro w5 B5
      rintro _ rfl
      rintro _ rfl
      rintro _ rfl
      rintro _ rfl
      rintro _ rfl
      rintro _ rfl
      rintro _ rfl
      rintro _ rfl
      rintro _ rfl
      rintro _ rfl
      rintro _ rfl
      rintro _ rfl
      rintro _ rfl
      rintro -
      simp only [Act.put, List.setIfInBounds_toArray, List.set_cons_zero, List.set_cons_succ, List.toList_toArray, List.length_cons, List.length_nil, List.drop_succ_cons, List.drop_zero, List.drop_nil, Nat.zero_add]
      have PX5 := PXo.below B5 PXo.lt
      have d4 : w5.cell? ⟨w.heap.size + 1, 4, none⟩ = some (.int .u64 V) := PX5.cell 4
      have d5 : w5.cell? ⟨w.heap.size + 1, 5, none⟩ = some (.int .u64 S) := PX5.cell 5
      have f4 := PX5.free 4; have f5 := PX5.free 5
      have PZ5 := Lib.hid ((PX5.set_ 4 (.int .u64 V2)).set_ 5 (.int .u64 S2))
      have PR5 := Lib.hid (((PR.out.below B5 PR.out.lt).far (p := ⟨w.heap.size + 1, 4, none⟩) (by simp) (.int .u64 V2)).far (p := ⟨w.heap.size + 1, 5, none⟩) (by simp) (.int .u64 S2))
      have BW5 := Lib.hid (((bkeep BW.out B5).setCell (p := ⟨w.heap.size + 1, 4, none⟩) (by simp) (.int .u64 V2)).setCell (p := ⟨w.heap.size + 1, 5, none⟩) (by simp) (.int .u64 S2))
      clear B5 PX5 PXo c2
      go_wp2_with fail
      (with_reducible refine (HM1.out _).mono ?_)
      rintro e wq ⟨rfl, rfl⟩
      go_upto_region 7 with fail
      obtain ⟨w6, hw6⟩ : ∃ w6, w6 = (w5.setCell ⟨w.heap.size + 1, 4, none⟩ (.int .u64 V2)).setCell ⟨w.heap.size + 1, 5, none⟩ (.int .u64 S2) := ⟨_, rfl⟩
      rw [← hw6]
      have PX6 : Hid (Box w6 (w.heap.size + 1) 70 #[.int .i64 n, .int .i64 L, .int .i64 H, .int .i64 T, .int .u64 V2, .int .u64 S2]) := Lib.hid (by rw [hw6]; exact PZ5.out)
      have PR6 : Hid (Box w6 w.heap.size 70 #[.int .i64 0, .int .i64 0, .int .i64 0, .int .i64 0, .int .u64 0, .int .u64 0]) := Lib.hid (by rw [hw6]; exact PR5.out)
      have BW6 : Hid (Below w.heap.size w w6) := Lib.hid (by rw [hw6]; exact BW5.out)
      clear hw6 PZ5 PR5 BW5 PX PR BW d4 d5 f4 f5
      have c6 : w6.cell? (ad.add k) = some (.int .u8 z) := (BW6.out.cell (p := ad.add k) (by rw [block_add]; exact g1)).trans HC1.out
      have p1 : w6.cell? ⟨w.heap.size + 1, 1, none⟩ = some (.int .i64 L) := PX6.out.cell 1
      have p2 : w6.cell? ⟨w.heap.size + 1, 2, none⟩ = some (.int .i64 H) := PX6.out.cell 2
      have p3 : w6.cell? ⟨w.heap.size + 1, 3, none⟩ = some (.int .i64 T) := PX6.out.cell 3
      have q1 := PX6.out.free 1; have q2 := PX6.out.free 2; have q3 := PX6.out.free 3
      by_cases h10 : z = 10
      · have HK2 := Lib.hid (by rw [HTK.out, h10]; exact (wk_yes n _ k L H T HK.out) : wk n (l.take (k + 1)) = ((k : Int) + 1, L + 1, if L = 0 then (k : Int) else H, (n : Int) - 1 - k))
        have e10 : (z == 10) = true := by rw [beq_iff_eq]; exact h10
        clear HTK HK h10
        by_cases hL : L = 0
        · have hL' : (L == 0) = true := by rw [beq_iff_eq]; exact hL
          have HK3 : Hid ((((k + 1 : Nat) : Int), L + 1, (k : Int), (n : Int) - k - 1) = wk n (l.take (k + 1))) := Lib.hid (by rw [HK2.out, if_pos hL, show (n : Int) - k - 1 = n - 1 - k by omega]; rfl)
          have PX7 := Lib.hid (((PX6.out.set_ 2 (.int .i64 (k : Int))).set_ 1 (.int .i64 (L + 1))).set_ 3 (.int .i64 ((n : Int) - k - 1)))
          have PR7 := Lib.hid (((PR6.out.far (p := ⟨w.heap.size + 1, 2, none⟩) (by simp) (.int .i64 (k : Int))).far (p := ⟨w.heap.size + 1, 1, none⟩) (by simp) (.int .i64 (L + 1))).far (p := ⟨w.heap.size + 1, 3, none⟩) (by simp) (.int .i64 ((n : Int) - k - 1)))
          have BW7 := Lib.hid (((BW6.out.setCell (p := ⟨w.heap.size + 1, 2, none⟩) (by simp) (.int .i64 (k : Int))).setCell (p := ⟨w.heap.size + 1, 1, none⟩) (by simp) (.int .i64 (L + 1))).setCell (p := ⟨w.heap.size + 1, 3, none⟩) (by simp) (.int .i64 ((n : Int) - k - 1)))
          clear hL HK2
          go_wp2_with fail
          go_roundw
          case rel => exact ⟨k + 1, _, _, _, _, _, by go_num, by omega, HK3, HD2, by omega, by omega, V20, V21, S20, S21, PR7, PX7, BW7⟩
          case measure => simp [intOf]; omega
        · have hL' : (L == 0) = false := by rw [beq_eq_false_iff_ne]; exact hL
          have HK3 : Hid ((((k + 1 : Nat) : Int), L + 1, H, (n : Int) - k - 1) = wk n (l.take (k + 1))) := Lib.hid (by rw [HK2.out, if_neg hL, show (n : Int) - k - 1 = n - 1 - k by omega]; rfl)
          have PX7 := Lib.hid ((PX6.out.set_ 1 (.int .i64 (L + 1))).set_ 3 (.int .i64 ((n : Int) - k - 1)))
          have PR7 := Lib.hid ((PR6.out.far (p := ⟨w.heap.size + 1, 1, none⟩) (by simp) (.int .i64 (L + 1))).far (p := ⟨w.heap.size + 1, 3, none⟩) (by simp) (.int .i64 ((n : Int) - k - 1)))
          have BW7 := Lib.hid ((BW6.out.setCell (p := ⟨w.heap.size + 1, 1, none⟩) (by simp) (.int .i64 (L + 1))).setCell (p := ⟨w.heap.size + 1, 3, none⟩) (by simp) (.int .i64 ((n : Int) - k - 1)))
          clear hL HK2
          go_wp2_with fail
          go_roundw
          case rel => exact ⟨k + 1, _, _, _, _, _, by go_num, by omega, HK3, HD2, by omega, by omega, V20, V21, S20, S21, PR7, PX7, BW7⟩
          case measure => simp [intOf]; omega
      · have e10 : (z == 10) = false := by rw [beq_eq_false_iff_ne]; exact h10
        have HK3 : Hid ((((k + 1 : Nat) : Int), L, H, T) = wk n (l.take (k + 1))) := Lib.hid (by rw [HTK.out, wk_no n _ k L H T z h10 HK.out]; rfl)
        clear HTK HK h10
        go_wp2_with fail
        go_roundw
        case rel => exact ⟨k + 1, _, _, _, _, _, by go_num, by omega, HK3, HD2, by omega, by omega, V20, V21, S20, S21, PR6, PX6, BW6⟩
        case measure => simp [intOf]; omega
    · obtain rfl : k = n := by omega
      have E : Hid ((.agg #[.int .i64 k, .int .i64 L, .int .i64 H, .int .i64 T, .int .u64 V, .int .u64 S] : Value) = .agg #[.int .i64 (wOf l).n, .int .i64 (wOf l).l, .int .i64 (wOf l).h, .int .i64 (wOf l).t, .int .u64 (wOf l).v, .int .u64 (wOf l).s]) := Lib.hid (by
        have h := HK.out; have hd := HD.out
        rw [List.take_of_length_le (by rw [HL.out]; exact Nat.le_refl _)] at h hd
        unfold wOf
        simp only [HL.out, ← h, ← hd])
      have x0 : wr.cell? ⟨w.heap.size, 0, none⟩ = some (.int .i64 0) := PR.out.cell 0
      have x1 : wr.cell? ⟨w.heap.size, 1, none⟩ = some (.int .i64 0) := PR.out.cell 1
      have x2 : wr.cell? ⟨w.heap.size, 2, none⟩ = some (.int .i64 0) := PR.out.cell 2
      have x3 : wr.cell? ⟨w.heap.size, 3, none⟩ = some (.int .i64 0) := PR.out.cell 3
      have x4 : wr.cell? ⟨w.heap.size, 4, none⟩ = some (.int .u64 0) := PR.out.cell 4
      have x5 : wr.cell? ⟨w.heap.size, 5, none⟩ = some (.int .u64 0) := PR.out.cell 5
      have p0 : wr.cell? ⟨w.heap.size + 1, 0, none⟩ = some (.int .i64 k) := PX.out.cell 0
      have p1 : wr.cell? ⟨w.heap.size + 1, 1, none⟩ = some (.int .i64 L) := PX.out.cell 1
      have p2 : wr.cell? ⟨w.heap.size + 1, 2, none⟩ = some (.int .i64 H) := PX.out.cell 2
      have p3 : wr.cell? ⟨w.heap.size + 1, 3, none⟩ = some (.int .i64 T) := PX.out.cell 3
      have p4 : wr.cell? ⟨w.heap.size + 1, 4, none⟩ = some (.int .u64 V) := PX.out.cell 4
      have p5 : wr.cell? ⟨w.heap.size + 1, 5, none⟩ = some (.int .u64 S) := PX.out.cell 5
      have g0 := PR.out.free 0; have g1 := PR.out.free 1; have g2 := PR.out.free 2; have g3 := PR.out.free 3; have g4 := PR.out.free 4; have g5 := PR.out.free 5
      clear HK HD
      go_wp2_with fail
      refine bodyPost_ret (v := .agg #[.int .i64 k, .int .i64 L, .int .i64 H, .int .i64 T, .int .u64 V, .int .u64 S]) ?_ rfl ⟨by rw [E.out], ?_⟩
      · simp only [results, Try.results41]
        simp [go_sem, x0, x1, x2, x3, x4, x5]
      · exact (((((BW.out.setCell (by simp) _).setCell (by simp) _).setCell (by simp) _).setCell (by simp) _).setCell (by simp) _).setCell (by simp) _
end Go.Proofs.Ytcbahojefglakaa
