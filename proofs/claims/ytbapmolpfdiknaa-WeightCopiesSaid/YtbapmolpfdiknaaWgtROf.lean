/- The walks of evergreenref06.Unit, Of, and weight.Letter. -/
import Derived.Test.YtbapmolpfdiknaaWgtOf
import Derived.Test.YtbapmolpfdiknaaWgtRef
namespace Go.Proofs.Ytbapmolpfdiknaa
set_option linter.unusedVariables false
set_option linter.unusedSimpArgs false
open Go.RowKit Go.Lib

set_option maxHeartbeats 1000000 in
theorem runit_any (w : World) : Calls Try.prog 18 #[] w fun e w' => e = .returned (.agg #[.int .i64 0, .int .i64 0, .int .i64 0, .int .i64 0, .int .u64 0, .int .u64 1]) ∧ Below w.heap.size w w' := by
  go_enter Try.func18, Try.ntmps18
  go_wp2
  refine bodyPost_ret (v := .agg #[.int .i64 0, .int .i64 0, .int .i64 0, .int .i64 0, .int .u64 0, .int .u64 1]) ?_ rfl ⟨rfl, ?_⟩
  · simp only [results, Try.results18]
    simp [go_sem]
  · repeat (first | exact Below.refl _ _ | (with_reducible refine Below.drew ?_) | (with_reducible refine Below.alloc ?_ (by first | (simp; done) | (simp; omega)) _) | (with_reducible refine Below.setCell ?_ (by simp) _))
def wL (b : Int) : Wt := wOf [b]
theorem wOf_ten : wL 10 = ⟨1, 1, 0, 0, 11, 1103515245⟩ := by
  unfold wL wOf wk dOf
  simp [wstep, dStep]
  decide +kernel
theorem wOf_one (b : Int) (b0 : 0 ≤ b) (b1 : b ≤ 255) (hb : b ≠ 10) : wL b = ⟨1, 0, 1, 1, b + 1, 1103515245⟩ := by
  unfold wL wOf wk dOf
  have h1 : red (b + 1) = b + 1 := red_small _ (by omega) (by omega)
  simp [wstep, dStep, hb, h1]
  decide +kernel
set_option maxHeartbeats 2000000 in
theorem wletter_any (b : Int) (b0 : 0 ≤ b) (b1 : b ≤ 255) (w : World) : Calls Try.prog 16 #[.int .u8 b] w fun e w' => e = .returned (.agg #[.int .i64 (wL b).n, .int .i64 (wL b).l, .int .i64 (wL b).h, .int .i64 (wL b).t, .int .u64 (wL b).v, .int .u64 (wL b).s]) ∧ Below w.heap.size w w' := by
  by_cases hb : b = 10
  · subst hb
    rw [wOf_ten]
    go_enter Try.func16, Try.ntmps16
    go_wp2_with fail
    (with_reducible refine (letter_any 10 (by omega) (by omega) _).mono ?_)
    rintro e w1 ⟨rfl, B1⟩
    have PR : Box w1 w.heap.size 26 #[.int .i64 0, .int .i64 0, .int .i64 0, .int .i64 0, .int .u64 0, .int .u64 0] := (Box.new w _ _).below B1 (by simp)
    have BW := bkeep (balloc (Below.refl _ _) _) B1
    have y0 := PR.cell 0; have y1 := PR.cell 1; have y2 := PR.cell 2; have y3 := PR.cell 3; have y4 := PR.cell 4; have y5 := PR.cell 5
    simp only [List.getElem?_toArray, List.getElem?_cons_zero, List.getElem?_cons_succ] at y0 y1 y2 y3 y4 y5
    have f0 := PR.free 0; have f1 := PR.free 1; have f2 := PR.free 2; have f3 := PR.free 3; have f4 := PR.free 4; have f5 := PR.free 5
    have HBW := Lib.hid BW
    clear B1 PR BW
    go_wp2_with fail
    refine bodyPost_ret (v := .agg #[.int .i64 1, .int .i64 1, .int .i64 0, .int .i64 0, .int .u64 11, .int .u64 1103515245]) ?_ rfl ⟨rfl, ?_⟩
    · simp only [results, Try.results16]
      simp [go_sem, y0, y1, y2, y3, y4, y5]
    · exact (((((HBW.out.setCell (by simp) _).setCell (by simp) _).setCell (by simp) _).setCell (by simp) _).setCell (by simp) _).setCell (by simp) _
  · have hb' : (b == 10) = false := by rw [beq_eq_false_iff_ne]; exact hb
    rw [wOf_one b b0 b1 hb]
    clear hb
    go_enter Try.func16, Try.ntmps16
    go_wp2_with fail
    (with_reducible refine (letter_any b b0 b1 _).mono ?_)
    rintro e w1 ⟨rfl, B1⟩
    have PR : Box w1 w.heap.size 26 #[.int .i64 0, .int .i64 0, .int .i64 0, .int .i64 0, .int .u64 0, .int .u64 0] := (Box.new w _ _).below B1 (by simp)
    have BW := bkeep (balloc (Below.refl _ _) _) B1
    have y0 := PR.cell 0; have y1 := PR.cell 1; have y2 := PR.cell 2; have y3 := PR.cell 3; have y4 := PR.cell 4; have y5 := PR.cell 5
    simp only [List.getElem?_toArray, List.getElem?_cons_zero, List.getElem?_cons_succ] at y0 y1 y2 y3 y4 y5
    have f0 := PR.free 0; have f1 := PR.free 1; have f2 := PR.free 2; have f3 := PR.free 3; have f4 := PR.free 4; have f5 := PR.free 5
    have HBW := Lib.hid BW
    clear B1 PR BW
    go_wp2_with fail
    refine bodyPost_ret (v := .agg #[.int .i64 1, .int .i64 0, .int .i64 1, .int .i64 1, .int .u64 (b + 1), .int .u64 1103515245]) ?_ rfl ⟨rfl, ?_⟩
    · simp only [results, Try.results16]
      simp [go_sem, y0, y1, y2, y3, y4, y5]
    · exact (((((HBW.out.setCell (by simp) _).setCell (by simp) _).setCell (by simp) _).setCell (by simp) _).setCell (by simp) _).setCell (by simp) _

theorem dOf_take (l : List Int) (k : Nat) (hk : k < l.length) (V S : Int) (h : (V, S) = dOf (l.take k)) : dOf (l.take (k + 1)) = (red (red (V * 1103515245) + l[k] + 1), red (S * 1103515245)) := by
  rw [List.take_succ_eq_append_getElem hk, dOf_snoc, ← h]
  unfold dStep
  refine Prod.ext ?_ rfl
  simp only
  rw [Int.add_assoc (red _), red_add_l]

attribute [local go_sem ↓] Go.wp_at_zero Go.wp_at_succ
set_option maxHeartbeats 4000000 in
theorem rof_any (l : List Int) (n c : Nat) (A : Option Addr) (hl : l.length = n) (hn : n ≤ 1152921504606846976) (hb : U8s l) (w : World) (ha : RowAt w A (vb l)) :
    Calls Try.prog 15 #[.slice A n c] w fun e w' => e = .returned (.agg #[.int .i64 (wOf l).n, .int .i64 (wOf l).l, .int .i64 (wOf l).h, .int .i64 (wOf l).t, .int .u64 (wOf l).v, .int .u64 (wOf l).s]) ∧ Below w.heap.size w w' := by
  have HA := Lib.hid ha; have HL := Lib.hid hl; have HB := Lib.hid hb
  clear ha hl hb
  go_enter Try.func15, Try.ntmps15
  go_wp2_with fail
  (with_reducible refine (runit_any _).mono ?_)
  rintro e w1 ⟨rfl, B1⟩
  have PR : Box w1 w.heap.size 26 #[.int .i64 0, .int .i64 0, .int .i64 0, .int .i64 0, .int .u64 0, .int .u64 0] := (Box.new w _ _).below B1 (by simp)
  have z1 : w.heap.size < w1.heap.size := PR.lt
  have HPR := Lib.hid PR
  have HBW := Lib.hid (bkeep (balloc (Below.refl _ _) _) B1)
  clear B1 PR
  go_wp2_with fail
  go_loopw [4] (fun si wr => ∃ (k : Nat) (L H T V S : Int), si = .int .i64 (k : Int) ∧ k ≤ n ∧ Hid (((k : Int), L, H, T) = wk n (l.take k)) ∧ Hid ((V, S) = dOf (l.take k)) ∧ 0 ≤ L ∧ L ≤ k ∧ 0 ≤ V ∧ V < 2305843009213693951 ∧ 0 ≤ S ∧ S < 2305843009213693951 ∧ Hid (Box wr w.heap.size 26 #[.int .i64 0, .int .i64 0, .int .i64 0, .int .i64 0, .int .u64 0, .int .u64 0]) ∧
    Hid (Box wr w1.heap.size 26 #[.int .i64 n, .int .i64 L, .int .i64 H, .int .i64 T, .int .u64 V, .int .u64 S]) ∧ Hid (Below w.heap.size w wr)) (fun si _ => n - (intOf si).toNat)
  case atStart => exact ⟨0, 0, n, n, 0, 1, rfl, by omega, Lib.hid rfl, Lib.hid rfl, by omega, by omega, by omega, by omega, by omega, by omega, Lib.hid (HPR.out.alloc _), Lib.hid (Box.new w1 _ _), Lib.hid (balloc HBW.out _)⟩
  case round =>
    obtain ⟨k, L, H, T, V, S, rfl, hk, HK, HD, L0, L1, v0, v1, s0, s1, PR, PX, BW⟩ := hrel
    have p0 : wr.cell? ⟨w1.heap.size, 0, none⟩ = some (.int .i64 n) := PX.out.cell 0
    have p1 : wr.cell? ⟨w1.heap.size, 1, none⟩ = some (.int .i64 L) := PX.out.cell 1
    have p2 : wr.cell? ⟨w1.heap.size, 2, none⟩ = some (.int .i64 H) := PX.out.cell 2
    have p3 : wr.cell? ⟨w1.heap.size, 3, none⟩ = some (.int .i64 T) := PX.out.cell 3
    have p4 : wr.cell? ⟨w1.heap.size, 4, none⟩ = some (.int .u64 V) := PX.out.cell 4
    have p5 : wr.cell? ⟨w1.heap.size, 5, none⟩ = some (.int .u64 S) := PX.out.cell 5
    have q1 := PX.out.free 1; have q2 := PX.out.free 2; have q3 := PX.out.free 3
    have glt := PX.out.lt
    by_cases hlt : k < n
    · have hkl : k < l.length := by rw [HL.out]; exact hlt
      obtain ⟨ad, rfl, g1, c1⟩ := HA.out.get (vb_get hkl)
      obtain ⟨b0, b1⟩ := HB.out _ (List.getElem_mem hkl)
      have htk : l.take (k + 1) = l.take k ++ [l[k]] := List.take_succ_eq_append_getElem hkl
      have hd2 := dOf_take l k hkl V S HD.out
      obtain ⟨z, hz⟩ : ∃ z, z = l[k] := ⟨_, rfl⟩
      rw [← hz] at c1 b0 b1 htk hd2
      have HD2 := Lib.hid hd2.symm
      have c2 := (BW.out.cell (p := ad.add k) (by rw [block_add]; exact g1)).trans c1
      have vv0 := red_lo (V * 1103515245); have vv1 := red_hi (V * 1103515245)
      have k0 : (0 : Int) ≤ k := by omega
      have k1 : (k : Int) < n := by omega
      have HC1 := c1
      clear hz hd2 HD HC1
      by_cases h10 : z = 10
      · have HK2 := Lib.hid (by rw [htk, h10]; exact (wk_yes n _ k L H T HK.out) : wk n (l.take (k + 1)) = ((k : Int) + 1, L + 1, if L = 0 then (k : Int) else H, (n : Int) - 1 - k))
        have e10 : (z == 10) = true := by rw [beq_iff_eq]; exact h10
        clear htk HK h10
        by_cases hL : L = 0
        · have hL' : (L == 0) = true := by rw [beq_iff_eq]; exact hL
          have HK3 : Hid ((((k + 1 : Nat) : Int), L + 1, (k : Int), (n : Int) - k - 1) = wk n (l.take (k + 1))) := Lib.hid (by rw [HK2.out, if_pos hL, show (n : Int) - k - 1 = n - 1 - k by omega]; rfl)
          clear hL
          have PX13 : Box (((wr.setCell ⟨w1.heap.size, 2, none⟩ (.int .i64 (k : Int))).setCell ⟨w1.heap.size, 1, none⟩ (.int .i64 (L + 1))).setCell ⟨w1.heap.size, 3, none⟩ (.int .i64 ((n : Int) - k - 1))) w1.heap.size 26 #[.int .i64 n, .int .i64 (L + 1), .int .i64 (k : Int), .int .i64 ((n : Int) - k - 1), .int .u64 V, .int .u64 S] := (((PX.out.set_ 2 (.int .i64 (k : Int))).set_ 1 (.int .i64 (L + 1))).set_ 3 (.int .i64 ((n : Int) - k - 1)))
          have PR13 := (((PR.out.far (p := ⟨w1.heap.size, 2, none⟩) (by simp; omega) (.int .i64 (k : Int))).far (p := ⟨w1.heap.size, 1, none⟩) (by simp; omega) (.int .i64 (L + 1))).far (p := ⟨w1.heap.size, 3, none⟩) (by simp; omega) (.int .i64 ((n : Int) - k - 1)))
          have BW13 := (((BW.out.setCell (p := ⟨w1.heap.size, 2, none⟩) (by simp; omega) (.int .i64 (k : Int))).setCell (p := ⟨w1.heap.size, 1, none⟩) (by simp; omega) (.int .i64 (L + 1))).setCell (p := ⟨w1.heap.size, 3, none⟩) (by simp; omega) (.int .i64 ((n : Int) - k - 1)))
          have c3 := (BW13.cell (p := ad.add k) (by rw [block_add]; exact g1)).trans c1
          have g3 : (ad.add k).block < (((wr.setCell ⟨w1.heap.size, 2, none⟩ (.int .i64 (k : Int))).setCell ⟨w1.heap.size, 1, none⟩ (.int .i64 (L + 1))).setCell ⟨w1.heap.size, 3, none⟩ (.int .i64 ((n : Int) - k - 1))).heap.size := cell_lt c3
          clear HK2
          go_upto_region 13 with fail
          refine region_lin (.val (fun v _ => v = .pointer (some ⟨w1.heap.size, 4, none⟩)) :: .val (fun v _ => v = .pointer (some ⟨w1.heap.size, 4, none⟩)) :: .val (fun v _ => v = .int .u64 V) :: .val (fun v _ => v = .int .u64 (red (V * 1103515245))) :: .val (fun v _ => v = .slice (some ad) n c) :: .val (fun v _ => v = .int .i64 k) :: .val (fun v _ => v = .pointer (some (ad.add k))) :: .val (fun v _ => v = .int .u8 z) :: .val (fun v _ => v = .int .u64 z) :: .val (fun v _ => v = .int .u64 (red (V * 1103515245) + z)) :: .val (fun v _ => v = .int .u64 (red (V * 1103515245) + z + 1)) :: .val (fun v _ => v = .int .u64 (red (red (V * 1103515245) + z + 1))) :: .val (fun v _ => v = .pointer (some ⟨w1.heap.size, 4, none⟩)) :: .val (fun v _ => v = .pointer (some ⟨w1.heap.size, 4, none⟩)) :: [])
            ([] :: [(41, 0)] :: [(42, 1)] :: [(43, 2)] :: [] :: [] :: [(45, 4), (46, 5)] :: [(47, 6)] :: [(48, 7)] :: [(44, 3), (49, 8)] :: [(50, 9)] :: [(51, 10)] :: [] :: [(53, 12)] :: []) ((0, 0) :: (0, 0) :: (0, 0) :: (0, 0) :: (0, 0) :: (0, 0) :: (0, 0) :: (0, 0) :: (0, 0) :: (0, 0) :: (0, 0) :: (0, 0) :: (0, 0) :: (0, 0) :: []) 62 (by kernel_rfl) rfl rfl (by kernel_rfl) ⟨Stab.pure _ _ _, Stab.pure _ _ _, Stab.pure _ _ _, Stab.pure _ _ _, Stab.pure _ _ _, Stab.pure _ _ _, Stab.pure _ _ _, Stab.pure _ _ _, Stab.pure _ _ _, Stab.pure _ _ _, Stab.pure _ _ _, Stab.pure _ _ _, Stab.pure _ _ _, Stab.pure _ _ _, trivial⟩ ⟨?_, ?_, ?_, ?_, ?_, ?_, ?_, ?_, ?_, ?_, ?_, ?_, ?_, ?_, trivial⟩ ?_
          · intro wx hb
            intro K hK
            go_simp
            exact hK _ _ rfl ⟨rfl, Below.refl _ _⟩
          · intro wx hb
            rintro _ rfl
            intro K hK
            go_simp
            exact hK _ _ rfl ⟨rfl, Below.refl _ _⟩
          · intro wx hb
            rintro _ rfl
            intro K hK
            have mm := Box.below (PX13) hb (Box.lt (PX13))
            have m0 : wx.cell? ⟨w1.heap.size, 0, none⟩ = some (.int .i64 n) := mm.cell 0
            have m1 : wx.cell? ⟨w1.heap.size, 1, none⟩ = some (.int .i64 (L + 1)) := mm.cell 1
            have m2 : wx.cell? ⟨w1.heap.size, 2, none⟩ = some (.int .i64 (k : Int)) := mm.cell 2
            have m3 : wx.cell? ⟨w1.heap.size, 3, none⟩ = some (.int .i64 ((n : Int) - k - 1)) := mm.cell 3
            have m4 : wx.cell? ⟨w1.heap.size, 4, none⟩ = some (.int .u64 V) := mm.cell 4
            have m5 : wx.cell? ⟨w1.heap.size, 5, none⟩ = some (.int .u64 S) := mm.cell 5
            clear mm
            go_simp
            exact hK _ _ rfl ⟨rfl, Below.refl _ _⟩
          · intro wx hb
            rintro _ rfl
            intro K hK
            go_simp
            (with_reducible refine (rmul_any V 1103515245 v0 v1 (by omega) (by omega) _).mono ?_)
            rintro e wa ⟨rfl, rfl⟩
            exact hK _ _ rfl ⟨rfl, Below.refl _ _⟩
          · intro wx hb
            intro K hK
            go_simp
            exact hK _ _ rfl ⟨rfl, Below.refl _ _⟩
          · intro wx hb
            intro K hK
            go_simp
            exact hK _ _ rfl ⟨rfl, Below.refl _ _⟩
          · intro wx hb
            rintro _ rfl
            rintro _ rfl
            intro K hK
            go_simp
            exact hK _ _ rfl ⟨rfl, Below.refl _ _⟩
          · intro wx hb
            rintro _ rfl
            intro K hK
            have m := (hb.cell (p := ad.add k) g3).trans c3
            go_simp
            exact hK _ _ rfl ⟨rfl, Below.refl _ _⟩
          · intro wx hb
            rintro _ rfl
            intro K hK
            have wz := IntWalk.u64_in z ⟨by omega, by omega⟩
            go_simp
            exact hK _ _ rfl ⟨rfl, Below.refl _ _⟩
          · intro wx hb
            rintro _ rfl
            rintro _ rfl
            intro K hK
            have wz := IntWalk.u64_in (red (V * 1103515245) + z) ⟨by omega, by omega⟩
            go_simp
            exact hK _ _ rfl ⟨rfl, Below.refl _ _⟩
          · intro wx hb
            rintro _ rfl
            intro K hK
            have wz := IntWalk.u64_in (red (V * 1103515245) + z + 1) ⟨by omega, by omega⟩
            go_simp
            exact hK _ _ rfl ⟨rfl, Below.refl _ _⟩
          · intro wx hb
            rintro _ rfl
            intro K hK
            go_wp2_with fail; exact hK _ _ rfl ⟨rfl, Below.refl _ _⟩
          · intro wx hb
            intro K hK
            go_simp
            exact hK _ _ rfl ⟨rfl, Below.refl _ _⟩
          · intro wx hb
            rintro _ rfl
            intro K hK
            go_simp
            exact hK _ _ rfl ⟨rfl, Below.refl _ _⟩
          intro w5 B5
          rintro _ rfl
          rintro _ rfl
          rintro _ rfl
          rintro _ rfl
          rintro _ rfl
          rintro _ rfl
          rintro _ rfl
          rintro _ rfl
          rintro _ rfl
          rintro _ rfl
          rintro _ rfl
          rintro _ rfl
          rintro _ rfl
          rintro _ rfl
          rintro -
          simp only [Act.put, List.setIfInBounds_toArray, List.set_cons_zero, List.set_cons_succ, List.toList_toArray, List.length_cons, List.length_nil, List.drop_succ_cons, List.drop_zero, List.drop_nil, Nat.zero_add]
          have PX5 := PX13.below B5 PX13.lt
          have PR5 := Lib.hid (((PR13.below B5 PR13.lt).far (p := ⟨w1.heap.size, 4, none⟩) (by simp; omega) (.int .u64 (red (red (V * 1103515245) + z + 1)))).far (p := ⟨w1.heap.size, 5, none⟩) (by simp; omega) (.int .u64 (red (S * 1103515245))))
          have BW5 := Lib.hid (((bkeep BW13 B5).setCell (p := ⟨w1.heap.size, 4, none⟩) (by simp; omega) (.int .u64 (red (red (V * 1103515245) + z + 1)))).setCell (p := ⟨w1.heap.size, 5, none⟩) (by simp; omega) (.int .u64 (red (S * 1103515245))))
          have PZ5 := Lib.hid ((PX5.set_ 4 (.int .u64 (red (red (V * 1103515245) + z + 1)))).set_ 5 (.int .u64 (red (S * 1103515245))))
          have d4 : w5.cell? ⟨w1.heap.size, 4, none⟩ = some (.int .u64 V) := PX5.cell 4
          have d5 : w5.cell? ⟨w1.heap.size, 5, none⟩ = some (.int .u64 S) := PX5.cell 5
          have f4 := PX5.free 4; have f5 := PX5.free 5
          clear B5 PX5 PR13 BW13 PX13
          go_wp2_with fail
          (with_reducible refine (rmul_any S 1103515245 s0 s1 (by omega) (by omega) _).mono ?_)
          rintro e w' ⟨rfl, rfl⟩
          go_wp2_with fail
          go_roundw
          case rel => exact ⟨k + 1, _, _, _, _, _, by go_num, by omega, HK3, HD2, by omega, by omega, red_lo _, red_hi _, red_lo _, red_hi _, PR5, PZ5, BW5⟩
          case measure => simp [intOf]; omega
        · have hL' : (L == 0) = false := by rw [beq_eq_false_iff_ne]; exact hL
          have HK3 : Hid ((((k + 1 : Nat) : Int), L + 1, H, (n : Int) - k - 1) = wk n (l.take (k + 1))) := Lib.hid (by rw [HK2.out, if_neg hL, show (n : Int) - k - 1 = n - 1 - k by omega]; rfl)
          clear hL
          have PX13 : Box ((wr.setCell ⟨w1.heap.size, 1, none⟩ (.int .i64 (L + 1))).setCell ⟨w1.heap.size, 3, none⟩ (.int .i64 ((n : Int) - k - 1))) w1.heap.size 26 #[.int .i64 n, .int .i64 (L + 1), .int .i64 H, .int .i64 ((n : Int) - k - 1), .int .u64 V, .int .u64 S] := ((PX.out.set_ 1 (.int .i64 (L + 1))).set_ 3 (.int .i64 ((n : Int) - k - 1)))
          have PR13 := ((PR.out.far (p := ⟨w1.heap.size, 1, none⟩) (by simp; omega) (.int .i64 (L + 1))).far (p := ⟨w1.heap.size, 3, none⟩) (by simp; omega) (.int .i64 ((n : Int) - k - 1)))
          have BW13 := ((BW.out.setCell (p := ⟨w1.heap.size, 1, none⟩) (by simp; omega) (.int .i64 (L + 1))).setCell (p := ⟨w1.heap.size, 3, none⟩) (by simp; omega) (.int .i64 ((n : Int) - k - 1)))
          have c3 := (BW13.cell (p := ad.add k) (by rw [block_add]; exact g1)).trans c1
          have g3 : (ad.add k).block < ((wr.setCell ⟨w1.heap.size, 1, none⟩ (.int .i64 (L + 1))).setCell ⟨w1.heap.size, 3, none⟩ (.int .i64 ((n : Int) - k - 1))).heap.size := cell_lt c3
          clear HK2
          go_upto_region 13 with fail
          refine region_lin (.val (fun v _ => v = .pointer (some ⟨w1.heap.size, 4, none⟩)) :: .val (fun v _ => v = .pointer (some ⟨w1.heap.size, 4, none⟩)) :: .val (fun v _ => v = .int .u64 V) :: .val (fun v _ => v = .int .u64 (red (V * 1103515245))) :: .val (fun v _ => v = .slice (some ad) n c) :: .val (fun v _ => v = .int .i64 k) :: .val (fun v _ => v = .pointer (some (ad.add k))) :: .val (fun v _ => v = .int .u8 z) :: .val (fun v _ => v = .int .u64 z) :: .val (fun v _ => v = .int .u64 (red (V * 1103515245) + z)) :: .val (fun v _ => v = .int .u64 (red (V * 1103515245) + z + 1)) :: .val (fun v _ => v = .int .u64 (red (red (V * 1103515245) + z + 1))) :: .val (fun v _ => v = .pointer (some ⟨w1.heap.size, 4, none⟩)) :: .val (fun v _ => v = .pointer (some ⟨w1.heap.size, 4, none⟩)) :: [])
            ([] :: [(41, 0)] :: [(42, 1)] :: [(43, 2)] :: [] :: [] :: [(45, 4), (46, 5)] :: [(47, 6)] :: [(48, 7)] :: [(44, 3), (49, 8)] :: [(50, 9)] :: [(51, 10)] :: [] :: [(53, 12)] :: []) ((0, 0) :: (0, 0) :: (0, 0) :: (0, 0) :: (0, 0) :: (0, 0) :: (0, 0) :: (0, 0) :: (0, 0) :: (0, 0) :: (0, 0) :: (0, 0) :: (0, 0) :: (0, 0) :: []) 62 (by kernel_rfl) rfl rfl (by kernel_rfl) ⟨Stab.pure _ _ _, Stab.pure _ _ _, Stab.pure _ _ _, Stab.pure _ _ _, Stab.pure _ _ _, Stab.pure _ _ _, Stab.pure _ _ _, Stab.pure _ _ _, Stab.pure _ _ _, Stab.pure _ _ _, Stab.pure _ _ _, Stab.pure _ _ _, Stab.pure _ _ _, Stab.pure _ _ _, trivial⟩ ⟨?_, ?_, ?_, ?_, ?_, ?_, ?_, ?_, ?_, ?_, ?_, ?_, ?_, ?_, trivial⟩ ?_
          · intro wx hb
            intro K hK
            go_simp
            exact hK _ _ rfl ⟨rfl, Below.refl _ _⟩
          · intro wx hb
            rintro _ rfl
            intro K hK
            go_simp
            exact hK _ _ rfl ⟨rfl, Below.refl _ _⟩
          · intro wx hb
            rintro _ rfl
            intro K hK
            have mm := Box.below (PX13) hb (Box.lt (PX13))
            have m0 : wx.cell? ⟨w1.heap.size, 0, none⟩ = some (.int .i64 n) := mm.cell 0
            have m1 : wx.cell? ⟨w1.heap.size, 1, none⟩ = some (.int .i64 (L + 1)) := mm.cell 1
            have m2 : wx.cell? ⟨w1.heap.size, 2, none⟩ = some (.int .i64 H) := mm.cell 2
            have m3 : wx.cell? ⟨w1.heap.size, 3, none⟩ = some (.int .i64 ((n : Int) - k - 1)) := mm.cell 3
            have m4 : wx.cell? ⟨w1.heap.size, 4, none⟩ = some (.int .u64 V) := mm.cell 4
            have m5 : wx.cell? ⟨w1.heap.size, 5, none⟩ = some (.int .u64 S) := mm.cell 5
            clear mm
            go_simp
            exact hK _ _ rfl ⟨rfl, Below.refl _ _⟩
          · intro wx hb
            rintro _ rfl
            intro K hK
            go_simp
            (with_reducible refine (rmul_any V 1103515245 v0 v1 (by omega) (by omega) _).mono ?_)
            rintro e wa ⟨rfl, rfl⟩
            exact hK _ _ rfl ⟨rfl, Below.refl _ _⟩
          · intro wx hb
            intro K hK
            go_simp
            exact hK _ _ rfl ⟨rfl, Below.refl _ _⟩
          · intro wx hb
            intro K hK
            go_simp
            exact hK _ _ rfl ⟨rfl, Below.refl _ _⟩
          · intro wx hb
            rintro _ rfl
            rintro _ rfl
            intro K hK
            go_simp
            exact hK _ _ rfl ⟨rfl, Below.refl _ _⟩
          · intro wx hb
            rintro _ rfl
            intro K hK
            have m := (hb.cell (p := ad.add k) g3).trans c3
            go_simp
            exact hK _ _ rfl ⟨rfl, Below.refl _ _⟩
          · intro wx hb
            rintro _ rfl
            intro K hK
            have wz := IntWalk.u64_in z ⟨by omega, by omega⟩
            go_simp
            exact hK _ _ rfl ⟨rfl, Below.refl _ _⟩
          · intro wx hb
            rintro _ rfl
            rintro _ rfl
            intro K hK
            have wz := IntWalk.u64_in (red (V * 1103515245) + z) ⟨by omega, by omega⟩
            go_simp
            exact hK _ _ rfl ⟨rfl, Below.refl _ _⟩
          · intro wx hb
            rintro _ rfl
            intro K hK
            have wz := IntWalk.u64_in (red (V * 1103515245) + z + 1) ⟨by omega, by omega⟩
            go_simp
            exact hK _ _ rfl ⟨rfl, Below.refl _ _⟩
          · intro wx hb
            rintro _ rfl
            intro K hK
            go_wp2_with fail; exact hK _ _ rfl ⟨rfl, Below.refl _ _⟩
          · intro wx hb
            intro K hK
            go_simp
            exact hK _ _ rfl ⟨rfl, Below.refl _ _⟩
          · intro wx hb
            rintro _ rfl
            intro K hK
            go_simp
            exact hK _ _ rfl ⟨rfl, Below.refl _ _⟩
          intro w5 B5
          rintro _ rfl
          rintro _ rfl
          rintro _ rfl
          rintro _ rfl
          rintro _ rfl
          rintro _ rfl
          rintro _ rfl
          rintro _ rfl
          rintro _ rfl
          rintro _ rfl
          rintro _ rfl
          rintro _ rfl
          rintro _ rfl
          rintro _ rfl
          rintro -
          simp only [Act.put, List.setIfInBounds_toArray, List.set_cons_zero, List.set_cons_succ, List.toList_toArray, List.length_cons, List.length_nil, List.drop_succ_cons, List.drop_zero, List.drop_nil, Nat.zero_add]
          have PX5 := PX13.below B5 PX13.lt
          have PR5 := Lib.hid (((PR13.below B5 PR13.lt).far (p := ⟨w1.heap.size, 4, none⟩) (by simp; omega) (.int .u64 (red (red (V * 1103515245) + z + 1)))).far (p := ⟨w1.heap.size, 5, none⟩) (by simp; omega) (.int .u64 (red (S * 1103515245))))
          have BW5 := Lib.hid (((bkeep BW13 B5).setCell (p := ⟨w1.heap.size, 4, none⟩) (by simp; omega) (.int .u64 (red (red (V * 1103515245) + z + 1)))).setCell (p := ⟨w1.heap.size, 5, none⟩) (by simp; omega) (.int .u64 (red (S * 1103515245))))
          have PZ5 := Lib.hid ((PX5.set_ 4 (.int .u64 (red (red (V * 1103515245) + z + 1)))).set_ 5 (.int .u64 (red (S * 1103515245))))
          have d4 : w5.cell? ⟨w1.heap.size, 4, none⟩ = some (.int .u64 V) := PX5.cell 4
          have d5 : w5.cell? ⟨w1.heap.size, 5, none⟩ = some (.int .u64 S) := PX5.cell 5
          have f4 := PX5.free 4; have f5 := PX5.free 5
          clear B5 PX5 PR13 BW13 PX13
          go_wp2_with fail
          (with_reducible refine (rmul_any S 1103515245 s0 s1 (by omega) (by omega) _).mono ?_)
          rintro e w' ⟨rfl, rfl⟩
          go_wp2_with fail
          go_roundw
          case rel => exact ⟨k + 1, _, _, _, _, _, by go_num, by omega, HK3, HD2, by omega, by omega, red_lo _, red_hi _, red_lo _, red_hi _, PR5, PZ5, BW5⟩
          case measure => simp [intOf]; omega
      · have e10 : (z == 10) = false := by rw [beq_eq_false_iff_ne]; exact h10
        have HK3 : Hid ((((k + 1 : Nat) : Int), L, H, T) = wk n (l.take (k + 1))) := Lib.hid (by rw [htk, wk_no n _ k L H T z h10 HK.out]; rfl)
        have HK2 : True := trivial
        clear htk HK h10
        have PX13 : Box wr w1.heap.size 26 #[.int .i64 n, .int .i64 L, .int .i64 H, .int .i64 T, .int .u64 V, .int .u64 S] := PX.out
        have PR13 := PR.out
        have BW13 := BW.out
        have c3 := (BW13.cell (p := ad.add k) (by rw [block_add]; exact g1)).trans c1
        have g3 : (ad.add k).block < wr.heap.size := cell_lt c3
        clear HK2
        go_upto_region 13 with fail
        refine region_lin (.val (fun v _ => v = .pointer (some ⟨w1.heap.size, 4, none⟩)) :: .val (fun v _ => v = .pointer (some ⟨w1.heap.size, 4, none⟩)) :: .val (fun v _ => v = .int .u64 V) :: .val (fun v _ => v = .int .u64 (red (V * 1103515245))) :: .val (fun v _ => v = .slice (some ad) n c) :: .val (fun v _ => v = .int .i64 k) :: .val (fun v _ => v = .pointer (some (ad.add k))) :: .val (fun v _ => v = .int .u8 z) :: .val (fun v _ => v = .int .u64 z) :: .val (fun v _ => v = .int .u64 (red (V * 1103515245) + z)) :: .val (fun v _ => v = .int .u64 (red (V * 1103515245) + z + 1)) :: .val (fun v _ => v = .int .u64 (red (red (V * 1103515245) + z + 1))) :: .val (fun v _ => v = .pointer (some ⟨w1.heap.size, 4, none⟩)) :: .val (fun v _ => v = .pointer (some ⟨w1.heap.size, 4, none⟩)) :: [])
          ([] :: [(41, 0)] :: [(42, 1)] :: [(43, 2)] :: [] :: [] :: [(45, 4), (46, 5)] :: [(47, 6)] :: [(48, 7)] :: [(44, 3), (49, 8)] :: [(50, 9)] :: [(51, 10)] :: [] :: [(53, 12)] :: []) ((0, 0) :: (0, 0) :: (0, 0) :: (0, 0) :: (0, 0) :: (0, 0) :: (0, 0) :: (0, 0) :: (0, 0) :: (0, 0) :: (0, 0) :: (0, 0) :: (0, 0) :: (0, 0) :: []) 62 (by kernel_rfl) rfl rfl (by kernel_rfl) ⟨Stab.pure _ _ _, Stab.pure _ _ _, Stab.pure _ _ _, Stab.pure _ _ _, Stab.pure _ _ _, Stab.pure _ _ _, Stab.pure _ _ _, Stab.pure _ _ _, Stab.pure _ _ _, Stab.pure _ _ _, Stab.pure _ _ _, Stab.pure _ _ _, Stab.pure _ _ _, Stab.pure _ _ _, trivial⟩ ⟨?_, ?_, ?_, ?_, ?_, ?_, ?_, ?_, ?_, ?_, ?_, ?_, ?_, ?_, trivial⟩ ?_
        · intro wx hb
          intro K hK
          go_simp
          exact hK _ _ rfl ⟨rfl, Below.refl _ _⟩
        · intro wx hb
          rintro _ rfl
          intro K hK
          go_simp
          exact hK _ _ rfl ⟨rfl, Below.refl _ _⟩
        · intro wx hb
          rintro _ rfl
          intro K hK
          have mm := Box.below (PX13) hb (Box.lt (PX13))
          have m0 : wx.cell? ⟨w1.heap.size, 0, none⟩ = some (.int .i64 n) := mm.cell 0
          have m1 : wx.cell? ⟨w1.heap.size, 1, none⟩ = some (.int .i64 L) := mm.cell 1
          have m2 : wx.cell? ⟨w1.heap.size, 2, none⟩ = some (.int .i64 H) := mm.cell 2
          have m3 : wx.cell? ⟨w1.heap.size, 3, none⟩ = some (.int .i64 T) := mm.cell 3
          have m4 : wx.cell? ⟨w1.heap.size, 4, none⟩ = some (.int .u64 V) := mm.cell 4
          have m5 : wx.cell? ⟨w1.heap.size, 5, none⟩ = some (.int .u64 S) := mm.cell 5
          clear mm
          go_simp
          exact hK _ _ rfl ⟨rfl, Below.refl _ _⟩
        · intro wx hb
          rintro _ rfl
          intro K hK
          go_simp
          (with_reducible refine (rmul_any V 1103515245 v0 v1 (by omega) (by omega) _).mono ?_)
          rintro e wa ⟨rfl, rfl⟩
          exact hK _ _ rfl ⟨rfl, Below.refl _ _⟩
        · intro wx hb
          intro K hK
          go_simp
          exact hK _ _ rfl ⟨rfl, Below.refl _ _⟩
        · intro wx hb
          intro K hK
          go_simp
          exact hK _ _ rfl ⟨rfl, Below.refl _ _⟩
        · intro wx hb
          rintro _ rfl
          rintro _ rfl
          intro K hK
          go_simp
          exact hK _ _ rfl ⟨rfl, Below.refl _ _⟩
        · intro wx hb
          rintro _ rfl
          intro K hK
          have m := (hb.cell (p := ad.add k) g3).trans c3
          go_simp
          exact hK _ _ rfl ⟨rfl, Below.refl _ _⟩
        · intro wx hb
          rintro _ rfl
          intro K hK
          have wz := IntWalk.u64_in z ⟨by omega, by omega⟩
          go_simp
          exact hK _ _ rfl ⟨rfl, Below.refl _ _⟩
        · intro wx hb
          rintro _ rfl
          rintro _ rfl
          intro K hK
          have wz := IntWalk.u64_in (red (V * 1103515245) + z) ⟨by omega, by omega⟩
          go_simp
          exact hK _ _ rfl ⟨rfl, Below.refl _ _⟩
        · intro wx hb
          rintro _ rfl
          intro K hK
          have wz := IntWalk.u64_in (red (V * 1103515245) + z + 1) ⟨by omega, by omega⟩
          go_simp
          exact hK _ _ rfl ⟨rfl, Below.refl _ _⟩
        · intro wx hb
          rintro _ rfl
          intro K hK
          go_wp2_with fail; exact hK _ _ rfl ⟨rfl, Below.refl _ _⟩
        · intro wx hb
          intro K hK
          go_simp
          exact hK _ _ rfl ⟨rfl, Below.refl _ _⟩
        · intro wx hb
          rintro _ rfl
          intro K hK
          go_simp
          exact hK _ _ rfl ⟨rfl, Below.refl _ _⟩
        intro w5 B5
        rintro _ rfl
        rintro _ rfl
        rintro _ rfl
        rintro _ rfl
        rintro _ rfl
        rintro _ rfl
        rintro _ rfl
        rintro _ rfl
        rintro _ rfl
        rintro _ rfl
        rintro _ rfl
        rintro _ rfl
        rintro _ rfl
        rintro _ rfl
        rintro -
        simp only [Act.put, List.setIfInBounds_toArray, List.set_cons_zero, List.set_cons_succ, List.toList_toArray, List.length_cons, List.length_nil, List.drop_succ_cons, List.drop_zero, List.drop_nil, Nat.zero_add]
        have PX5 := PX13.below B5 PX13.lt
        have PR5 := Lib.hid (((PR13.below B5 PR13.lt).far (p := ⟨w1.heap.size, 4, none⟩) (by simp; omega) (.int .u64 (red (red (V * 1103515245) + z + 1)))).far (p := ⟨w1.heap.size, 5, none⟩) (by simp; omega) (.int .u64 (red (S * 1103515245))))
        have BW5 := Lib.hid (((bkeep BW13 B5).setCell (p := ⟨w1.heap.size, 4, none⟩) (by simp; omega) (.int .u64 (red (red (V * 1103515245) + z + 1)))).setCell (p := ⟨w1.heap.size, 5, none⟩) (by simp; omega) (.int .u64 (red (S * 1103515245))))
        have PZ5 := Lib.hid ((PX5.set_ 4 (.int .u64 (red (red (V * 1103515245) + z + 1)))).set_ 5 (.int .u64 (red (S * 1103515245))))
        have d4 : w5.cell? ⟨w1.heap.size, 4, none⟩ = some (.int .u64 V) := PX5.cell 4
        have d5 : w5.cell? ⟨w1.heap.size, 5, none⟩ = some (.int .u64 S) := PX5.cell 5
        have f4 := PX5.free 4; have f5 := PX5.free 5
        clear B5 PX5 PR13 BW13 PX13
        go_wp2_with fail
        (with_reducible refine (rmul_any S 1103515245 s0 s1 (by omega) (by omega) _).mono ?_)
        rintro e w' ⟨rfl, rfl⟩
        go_wp2_with fail
        go_roundw
        case rel => exact ⟨k + 1, _, _, _, _, _, by go_num, by omega, HK3, HD2, by omega, by omega, red_lo _, red_hi _, red_lo _, red_hi _, PR5, PZ5, BW5⟩
        case measure => simp [intOf]; omega
    · obtain rfl : k = n := by omega
      have E : Hid ((.agg #[.int .i64 k, .int .i64 L, .int .i64 H, .int .i64 T, .int .u64 V, .int .u64 S] : Value) = .agg #[.int .i64 (wOf l).n, .int .i64 (wOf l).l, .int .i64 (wOf l).h, .int .i64 (wOf l).t, .int .u64 (wOf l).v, .int .u64 (wOf l).s]) := Lib.hid (by
        have h := HK.out; have hd := HD.out
        rw [List.take_of_length_le (by rw [HL.out]; exact Nat.le_refl _)] at h hd
        unfold wOf
        simp only [HL.out, ← h, ← hd])
      have x0 : wr.cell? ⟨w.heap.size, 0, none⟩ = some (.int .i64 0) := PR.out.cell 0
      have x1 : wr.cell? ⟨w.heap.size, 1, none⟩ = some (.int .i64 0) := PR.out.cell 1
      have x2 : wr.cell? ⟨w.heap.size, 2, none⟩ = some (.int .i64 0) := PR.out.cell 2
      have x3 : wr.cell? ⟨w.heap.size, 3, none⟩ = some (.int .i64 0) := PR.out.cell 3
      have x4 : wr.cell? ⟨w.heap.size, 4, none⟩ = some (.int .u64 0) := PR.out.cell 4
      have x5 : wr.cell? ⟨w.heap.size, 5, none⟩ = some (.int .u64 0) := PR.out.cell 5
      have g0 := PR.out.free 0; have g1 := PR.out.free 1; have g2 := PR.out.free 2; have g3 := PR.out.free 3; have g4 := PR.out.free 4; have g5 := PR.out.free 5
      clear HK HD
      go_wp2_with fail
      refine bodyPost_ret (v := .agg #[.int .i64 k, .int .i64 L, .int .i64 H, .int .i64 T, .int .u64 V, .int .u64 S]) ?_ rfl ⟨by rw [E.out], ?_⟩
      · simp only [results, Try.results15]
        simp [go_sem, x0, x1, x2, x3, x4, x5]
      · exact (((((BW.out.setCell (by simp) _).setCell (by simp) _).setCell (by simp) _).setCell (by simp) _).setCell (by simp) _).setCell (by simp) _
end Go.Proofs.Ytbapmolpfdiknaa
