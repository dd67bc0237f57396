/- The walk of the law GrammarWeights. -/
import Derived.Test.YtcbahojefglakaaGrWts
import Derived.Test.YtcbahojefglakaaGrRWt
import Derived.Test.YtcbahojefglakaaGrExpands
import Derived.Test.YtcbahojefglakaaGrJoinBase
import Derived.Test.YtcbahojefglakaaOpenRules
namespace Go.Proofs.Ytcbahojefglakaa
set_option linter.unusedVariables false
set_option linter.unusedSimpArgs false
open Go.RowKit Go.Lib
attribute [local go_sem ↓] Go.wp_at_zero Go.wp_at_succ
set_option maxRecDepth 100000 in
set_option maxHeartbeats 4000000 in
theorem rplain_at (g : List Rl) (n c : Nat) (A : Option Addr) (hl : g.length = n) (hn : n ≤ 1000000) (h0 : (lens g).2 = 0) (m : Nat) (hm : m < n) (hs : (tx g m).length ≤ 4096) (w : World) (ha : RowAt w A (gc g)) :
    Calls Try.prog 21 #[.slice A n c, .int .i64 ((m : Int) + 1)] w (BytesOut (tx g m) (.bool true) w) := by
  have HC := fun w h => rlengths_any g n c A hl hn w h
  obtain ⟨t1, t2⟩ := lens_text (lens_g h0) h0
  rw [h0] at HC
  have hr : g[m]? = some (g[m]'(by omega)) := List.getElem?_eq_getElem _
  have hlm := t2 m _ hr
  have HP := fun w ha => plain_any g n c A hl hn (lens_g h0) m _ hr hs w ha
  obtain ⟨X, hX⟩ : ∃ X, X = tx g m := ⟨_, rfl⟩
  rw [← hX] at HP hlm hs ⊢
  obtain ⟨N, hN⟩ : ∃ N, N = X.length := ⟨_, rfl⟩
  rw [← hN] at hlm
  have n1 : (0 : Int) < (m : Int) + 1 := by omega
  have n2 : (m : Int) + 1 ≤ (n : Int) := by omega
  have nm1 : (m : Int) < (n : Int) := by omega
  have m0 : (0 : Int) ≤ (m : Int) := by omega
  have hq2 : ¬ (4096 : Int) < (N : Int) := by omega
  have hLL : (lens g).1.length = n := by omega
  generalize (lens g).1 = L at HC hlm hLL
  have HLL := Lib.hid hLL; have HLM := Lib.hid hlm; have HM := Lib.hid hm
  have HCC := Lib.hid HC; have HA := Lib.hid ha; have HPP := Lib.hid HP; have HNN := Lib.hid hN
  clear HC ha hl t1 t2 h0 hX hN HP hr hlm hm hLL hs
  go_enter Try.func21, Try.ntmps21
  go_wp2_with fail
  (with_reducible refine (HCC.out _ HA.out).mono ?_)
  rintro e w1 ⟨A1, c1, rfl, R1, B1⟩
  rw [HLL.out]
  have hml : m < L.length := by rw [HLL.out]; exact HM.out
  obtain ⟨a1, rfl, ha1, ca1⟩ := R1.get (vi_get hml)
  have cm : w1.cell? (a1.add m) = some (.int .i64 (N : Int)) := (row_cell R1 hml).trans (by rw [HLM.out])
  have BW1 := Lib.hid B1
  have HA1 := Lib.hid (HA.out.below B1 (Nat.le_refl _))
  clear R1 B1 ca1 hml
  go_wp2_with fail
  (with_reducible refine (HPP.out _ HA1.out).mono ?_)
  rintro e w2 ⟨A2, c2, rfl, O2, B2⟩
  have HO2 := Lib.hid O2
  have BW2 := Lib.hid (bkeep BW1.out B2)
  clear O2 B2
  go_wp2_with fail
  go_ret2
  exact ⟨A2, c2, rfl, own_row _ HO2.out, BW2.out⟩
theorem wlaw_long (n c : Nat) (A : Option Addr) (hn : 40 < n) (w : World) : Calls Try.prog 12 #[.slice A n c] w fun e w' => e = .returned (.bool true) ∧ Below w.heap.size w w' := by
  have hn2 : (40 : Int) < (n : Int) := by omega
  clear hn
  go_enter Try.func12, Try.ntmps12
  go_wp2_with fail
  go_ret
  exact ⟨rfl, Below.refl _ _⟩
set_option maxRecDepth 100000 in
set_option maxHeartbeats 8000000 in
theorem wlaw_bad (n c : Nat) (A : Option Addr) (hn : n ≤ 40) (k : Int) (hk : k ≠ 0) (cells : List Value)
    (HC : Hid (∀ w, RowAt w A cells → Calls Try.prog 18 #[.slice A n c] w (SliceOut w n cells)))
    (HW : Hid (∀ A c w, RowAt w A cells → Calls Try.prog 40 #[.slice A n c] w (WtsOut [] (errv k) w)))
    (HR : Hid (∀ w, RowAt w A cells → Calls Try.prog 15 #[.slice A n c] w (IntsOut [] (.int .i64 k) w)))
    (w : World) (ha : RowAt w A cells) :
    Calls Try.prog 12 #[.slice A n c] w fun e w' => e = .returned (.bool true) ∧ Below w.heap.size w w' := by
  have hn2 : ¬ (40 : Int) < (n : Int) := by omega
  have kk : (k != k) = false := by simp
  rw [errv_pos k hk] at HW
  have HA := Lib.hid ha
  clear hn ha hk
  go_enter Try.func12, Try.ntmps12
  go_wp2_with fail
  (with_reducible refine (HC.out _ HA.out).mono ?_)
  rintro e w1 ⟨A1, c1, rfl, R1, B1⟩
  have BW1 := Lib.hid B1; have HR1 := Lib.hid R1
  clear B1 R1
  go_wp2_with fail
  (with_reducible refine (HW.out _ _ _ HR1.out).mono ?_)
  rintro e w2 ⟨A2, c2, rfl, R2, B2⟩
  have BW2 := Lib.hid (bkeep BW1.out B2)
  clear B2 R2
  go_wp2_with fail
  (with_reducible refine (HR.out _ (HA.out.below BW2.out (Nat.le_refl _))).mono ?_)
  rintro e w3 ⟨A3, c3, rfl, R3, B3⟩
  have BW3 := Lib.hid (bkeep BW2.out B3)
  clear B3 R3
  go_wp2_with fail
  (with_reducible refine (awake_any _).mono ?_)
  rintro e w4 ⟨rfl, B4⟩
  have BW4 := Lib.hid (bkeep BW3.out B4)
  clear B4
  go_wp2_with fail
  (with_reducible refine (num_err k _).mono ?_)
  rintro e w5 ⟨rfl, rfl⟩
  go_wp2_with fail
  go_loopw [7] (fun si wr => si = .int .i64 0 ∧ Hid (Below w.heap.size w wr)) (fun _ _ => 0)
  case atStart => exact ⟨rfl, BW4⟩
  case round =>
    obtain ⟨rfl, BW⟩ := hrel
    go_wp2_with fail
    go_ret
    exact ⟨rfl, BW.out⟩
set_option maxRecDepth 100000 in
set_option maxHeartbeats 16000000 in
theorem wlaw_ok (g : List Rl) (n c : Nat) (A : Option Addr) (hl : g.length = n) (hn : n ≤ 40) (L : List Int) (ws : List Wt) (hL : L.length = n) (hws : ws.length = n)
    (HLg : Hid (∀ j, j < n → L.getD j 0 = (tx g j).length ∧ ws[j]? = some (wOf (tx g j)) ∧ U8s (tx g j)))
    (HC : Hid (∀ w, RowAt w A (gc g) → Calls Try.prog 18 #[.slice A n c] w (SliceOut w n (gc g))))
    (HW : Hid (∀ A c w, RowAt w A (gc g) → Calls Try.prog 40 #[.slice A n c] w (WtsOut ws .nilIface w)))
    (HR : Hid (∀ w, RowAt w A (gc g) → Calls Try.prog 15 #[.slice A n c] w (IntsOut L (.int .i64 0) w)))
    (HP : Hid (∀ (m : Nat) w, m < n → (tx g m).length ≤ 4096 → RowAt w A (gc g) → Calls Try.prog 21 #[.slice A n c, .int .i64 ((m : Int) + 1)] w (BytesOut (tx g m) (.bool true) w)))
    (w : World) (ha : RowAt w A (gc g)) :
    Calls Try.prog 12 #[.slice A n c] w fun e w' => e = .returned (.bool true) ∧ Below w.heap.size w w' := by
  have hn2 : ¬ (40 : Int) < (n : Int) := by omega
  have HA := Lib.hid ha; have HLL := Lib.hid hL; have HWL := Lib.hid hws
  clear ha hL hws hl
  go_enter Try.func12, Try.ntmps12
  go_wp2_with fail
  (with_reducible refine (HC.out _ HA.out).mono ?_)
  rintro e w1 ⟨A1, c1, rfl, R1, B1⟩
  have BW1 := Lib.hid B1; have HR1 := Lib.hid R1
  clear B1 R1
  go_wp2_with fail
  (with_reducible refine (HW.out _ _ _ HR1.out).mono ?_)
  rintro e w2 ⟨A2, c2, rfl, R2, B2⟩
  rw [HWL.out]
  have BW2 := Lib.hid (bkeep BW1.out B2); have HX2 := Lib.hid R2
  clear B2 R2
  go_wp2_with fail
  (with_reducible refine (HR.out _ (HA.out.below BW2.out (Nat.le_refl _))).mono ?_)
  rintro e w3 ⟨A3, c3, rfl, R3, B3⟩
  rw [HLL.out]
  have BW3 := Lib.hid (bkeep BW2.out B3); have HX3 := Lib.hid (HX2.out.below B3 (Nat.le_refl _)); have HL3 := Lib.hid R3
  clear B3 R3
  go_wp2_with fail
  (with_reducible refine (awake_any _).mono ?_)
  rintro e w4 ⟨rfl, B4⟩
  have BW4 := Lib.hid (bkeep BW3.out B4); have HX4 := Lib.hid (HX3.out.below B4 (Nat.le_refl _)); have HL4 := Lib.hid (HL3.out.below B4 (Nat.le_refl _))
  clear B4
  go_wp2_with fail
  (with_reducible refine (num_nil _).mono ?_)
  rintro e w5 ⟨rfl, rfl⟩
  have nn : decide (n = n) = true := by simp
  go_wp2_with fail
  go_loopw [7] (fun si wr => ∃ i : Nat, si = .int .i64 (i : Int) ∧ i ≤ n ∧ Hid (Below w.heap.size w wr) ∧ Hid (Below w4.heap.size w4 wr)) (fun si _ => n - (intOf si).toNat)
  case atStart => exact ⟨0, rfl, by omega, BW4, Lib.hid (Below.refl _ _)⟩
  case round =>
    obtain ⟨i, rfl, hi, BW, BV⟩ := hrel
    by_cases hlt : i < n
    · obtain ⟨hj1, hj2, hj3⟩ := HLg.out i hlt
      have HT := Lib.hid (fun w h a => HP.out i w hlt h a)
      obtain ⟨X, hX⟩ : ∃ X, X = tx g i := ⟨_, rfl⟩
      obtain ⟨x, hx⟩ : ∃ x, x = wOf X := ⟨_, rfl⟩
      rw [← hX] at hj1 hj2 hj3 HT
      have hxn : x.n = X.length := by rw [hx]; rfl
      rw [← hx] at hj2
      have HRow := HX4.out.below BV.out (Nat.le_refl _)
      have HRoL := HL4.out.below BV.out (Nat.le_refl _)
      have hil : i < L.length := by rw [HLL.out]; exact hlt
      obtain ⟨a2, rfl, hal2, d0⟩ := HRow.get (wcs_get (j := 0) hj2 rfl)
      have key : ∀ j u, x.cells[j + 1]? = some u → wr.cell? ⟨(a2.add (i * 6)).block, (a2.add (i * 6)).off + (j + 1), none⟩ = some u := by
        intro j u hu
        obtain ⟨a9, e9, _, c9⟩ := HRow.get (wcs_get (j := j + 1) hj2 hu)
        cases e9
        rw [← add_add_, add_succ_] at c9
        exact c9
      have d1 : wr.cell? ⟨(a2.add (i * 6)).block, (a2.add (i * 6)).off + 1, none⟩ = some (.int .i64 x.l) := key 0 _ rfl
      have d2 : wr.cell? ⟨(a2.add (i * 6)).block, (a2.add (i * 6)).off + 2, none⟩ = some (.int .i64 x.h) := key 1 _ rfl
      have d3 : wr.cell? ⟨(a2.add (i * 6)).block, (a2.add (i * 6)).off + 3, none⟩ = some (.int .i64 x.t) := key 2 _ rfl
      have d4 : wr.cell? ⟨(a2.add (i * 6)).block, (a2.add (i * 6)).off + 4, none⟩ = some (.int .u64 x.v) := key 3 _ rfl
      have d5 : wr.cell? ⟨(a2.add (i * 6)).block, (a2.add (i * 6)).off + 5, none⟩ = some (.int .u64 x.s) := key 4 _ rfl
      have d00 : wr.cell? (a2.add (i * 6)) = some (.int .i64 x.n) := d0
      rw [hxn] at d00
      obtain ⟨a3, rfl, hal3, ca3⟩ := HRoL.get (vi_get hil)
      obtain ⟨N, hN⟩ : ∃ N, N = X.length := ⟨_, rfl⟩
      have e0 : wr.cell? (a3.add i) = some (.int .i64 (N : Int)) := (row_cell HRoL hil).trans (by rw [hj1, hN])
      rw [← hN] at d00
      have HXN := Lib.hid hN; have HXX := Lib.hid hx; have HU := Lib.hid hj3; have HXT := Lib.hid hX; have HD0 : Hid (wr.cell? (a2.add (i * 6)) = some (.int .i64 x.n)) := Lib.hid d0; have HD1 := Lib.hid d1; have HD2 := Lib.hid d2; have HD3 := Lib.hid d3; have HD4 := Lib.hid d4; have HD5 := Lib.hid d5
      have hb2 : (a2.add (i * 6)).block < wr.heap.size := by rw [block_add]; exact hal2
      have hb3 : (a3.add i).block < wr.heap.size := by rw [block_add]; exact hal3
      have i0 : (0 : Int) ≤ i := by omega
      have i1 : (i : Int) < (n : Int) := by omega
      clear hj1 hj2 hj3 hX hx hxn HRow HRoL ca3 hil d0 d1 d2 d3 d4 d5 key hN
      go_upto_region 10 with fail
      refine region_lin (.val (fun v _ => v = .slice (some a2) n c2) :: .val (fun v _ => v = .int .i64 (i : Int)) :: .val (fun v _ => v = .pointer (some (a2.add (i * 6)))) :: .val (fun v _ => v = .pointer (some (a2.add (i * 6)))) :: .val (fun v _ => v = .int .i64 (N : Int)) :: .val (fun v _ => v = .slice (some a3) n c3) :: .val (fun v _ => v = .int .i64 (i : Int)) :: .val (fun v _ => v = .pointer (some (a3.add i))) :: .val (fun v _ => v = .int .i64 (N : Int)) :: .val (fun v _ => v = .bool false) :: [])
        ([] :: [] :: [(45, 0), (46, 1)] :: [(47, 2)] :: [(48, 3)] :: [] :: [] :: [(50, 5), (51, 6)] :: [(52, 7)] :: [(49, 4), (53, 8)] :: []) ((0, 0) :: (0, 0) :: (0, 0) :: (0, 0) :: (0, 0) :: (0, 0) :: (0, 0) :: (0, 0) :: (0, 0) :: (0, 0) :: []) 77 (by kernel_rfl) rfl rfl (by kernel_rfl) ⟨Stab.pure _ _ _, Stab.pure _ _ _, Stab.pure _ _ _, Stab.pure _ _ _, Stab.pure _ _ _, Stab.pure _ _ _, Stab.pure _ _ _, Stab.pure _ _ _, Stab.pure _ _ _, Stab.pure _ _ _, trivial⟩ ⟨?_, ?_, ?_, ?_, ?_, ?_, ?_, ?_, ?_, ?_, trivial⟩ ?_
      · intro wx hb
        intro K hK
        go_simp
        exact hK _ _ rfl ⟨rfl, Below.refl _ _⟩
      · intro wx hb
        intro K hK
        go_simp
        exact hK _ _ rfl ⟨rfl, Below.refl _ _⟩
      · intro wx hb
        rintro _ rfl
        rintro _ rfl
        intro K hK
        go_simp
        exact hK _ _ rfl ⟨rfl, Below.refl _ _⟩
      · intro wx hb
        rintro _ rfl
        intro K hK
        go_simp
        exact hK _ _ rfl ⟨rfl, Below.refl _ _⟩
      · intro wx hb
        rintro _ rfl
        intro K hK
        have zz := (hb.cell (p := a2.add (i * 6)) hb2).trans d00; go_simp; exact hK _ _ rfl ⟨rfl, Below.refl _ _⟩
      · intro wx hb
        intro K hK
        go_simp
        exact hK _ _ rfl ⟨rfl, Below.refl _ _⟩
      · intro wx hb
        intro K hK
        go_simp
        exact hK _ _ rfl ⟨rfl, Below.refl _ _⟩
      · intro wx hb
        rintro _ rfl
        rintro _ rfl
        intro K hK
        go_simp
        exact hK _ _ rfl ⟨rfl, Below.refl _ _⟩
      · intro wx hb
        rintro _ rfl
        intro K hK
        have zz := (hb.cell (p := a3.add i) hb3).trans e0; go_simp; exact hK _ _ rfl ⟨rfl, Below.refl _ _⟩
      · intro wx hb
        rintro _ rfl
        rintro _ rfl
        intro K hK
        go_simp
        exact hK _ _ rfl ⟨rfl, Below.refl _ _⟩
      intro w6 B6
      rintro _ rfl
      rintro _ rfl
      rintro _ rfl
      rintro _ rfl
      rintro _ rfl
      rintro _ rfl
      rintro _ rfl
      rintro _ rfl
      rintro _ rfl
      rintro _ rfl
      rintro -
      simp only [Act.put, List.setIfInBounds_toArray, List.set_cons_zero, List.set_cons_succ, List.toList_toArray, List.length_cons, List.length_nil, List.drop_succ_cons, List.drop_zero, List.drop_nil, Nat.zero_add, wpList]
      have BW6 := Lib.hid (bkeep BW.out B6); have BV6 := Lib.hid (bkeep BV.out B6); have BR6 := Lib.hid B6
      have e6 : w6.cell? (a3.add i) = some (.int .i64 (N : Int)) := (B6.cell (p := a3.add i) hb3).trans e0
      clear B6 d00 e0
      by_cases hbig : (600 : Int) < (N : Int)
      · clear HT
        go_wp2_with fail
        go_roundw
        case rel => exact ⟨i + 1, by go_num, by omega, BW6, BV6⟩
        case measure => simp [intOf]; omega
      · have HTT : Hid (∀ w, RowAt w A (gc g) → Calls Try.prog 21 #[.slice A n c, .int .i64 ((i : Int) + 1)] w (BytesOut X (.bool true) w)) := Lib.hid (fun w a => by
          have hle : X.length ≤ 4096 := by rw [← HXN.out]; omega
          exact HT.out w hle a)
        clear HT
        go_wp2_with fail
        (with_reducible refine (HTT.out _ (HA.out.below BW6.out (Nat.le_refl _))).mono ?_)
        rintro e w7 ⟨A7, c7, rfl, R7, B7⟩
        have BW7 := Lib.hid (bkeep BW6.out B7); have BV7 := Lib.hid (bkeep BV6.out B7); have BR7 := Lib.hid (bkeep BR6.out B7); have HR7 := Lib.hid R7
        have hb7 : (a2.add (i * 6)).block < w7.heap.size := by have := BR7.out.size; omega
        have z0 : w7.cell? (a2.add (i * 6)) = some (.int .i64 x.n) := (BR7.out.cell (p := a2.add (i * 6)) hb2).trans HD0.out
        have z1 : w7.cell? ⟨(a2.add (i * 6)).block, (a2.add (i * 6)).off + 1, none⟩ = some (.int .i64 x.l) := (BR7.out.cell (p := ⟨(a2.add (i * 6)).block, (a2.add (i * 6)).off + 1, none⟩) hb2).trans HD1.out
        have z2 : w7.cell? ⟨(a2.add (i * 6)).block, (a2.add (i * 6)).off + 2, none⟩ = some (.int .i64 x.h) := (BR7.out.cell (p := ⟨(a2.add (i * 6)).block, (a2.add (i * 6)).off + 2, none⟩) hb2).trans HD2.out
        have z3 : w7.cell? ⟨(a2.add (i * 6)).block, (a2.add (i * 6)).off + 3, none⟩ = some (.int .i64 x.t) := (BR7.out.cell (p := ⟨(a2.add (i * 6)).block, (a2.add (i * 6)).off + 3, none⟩) hb2).trans HD3.out
        have z4 : w7.cell? ⟨(a2.add (i * 6)).block, (a2.add (i * 6)).off + 4, none⟩ = some (.int .u64 x.v) := (BR7.out.cell (p := ⟨(a2.add (i * 6)).block, (a2.add (i * 6)).off + 4, none⟩) hb2).trans HD4.out
        have z5 : w7.cell? ⟨(a2.add (i * 6)).block, (a2.add (i * 6)).off + 5, none⟩ = some (.int .u64 x.s) := (BR7.out.cell (p := ⟨(a2.add (i * 6)).block, (a2.add (i * 6)).off + 5, none⟩) hb2).trans HD5.out
        have HWT : Hid (∀ w, RowAt w A7 (vb X) → Calls Try.prog 41 #[.slice A7 X.length c7] w fun e w' => e = .returned (.agg #[.int .i64 x.n, .int .i64 x.l, .int .i64 x.h, .int .i64 x.t, .int .u64 x.v, .int .u64 x.s]) ∧ Below w.heap.size w w') := Lib.hid (fun w a => by
          have hle : (X.length : Int) ≤ 600 := by rw [← HXN.out]; omega
          have := rweight_any X X.length c7 A7 rfl (by omega) HU.out w a
          rw [← HXX.out] at this
          exact this)
        clear B7 R7
        go_upto_region 14 with fail
        refine region_lin (.val (fun v _ => v = .bool true) :: .val (fun v _ => v = .bool true) :: .val (fun v _ => v = .slice (some a2) n c2) :: .val (fun v _ => v = .int .i64 (i : Int)) :: .val (fun v _ => v = .pointer (some (a2.add (i * 6)))) :: .val (fun v _ => v = .agg #[.int .i64 x.n, .int .i64 x.l, .int .i64 x.h, .int .i64 x.t, .int .u64 x.v, .int .u64 x.s]) :: .val (fun v _ => v = .slice A7 X.length c7) :: .val (fun v _ => v = .agg #[.int .i64 x.n, .int .i64 x.l, .int .i64 x.h, .int .i64 x.t, .int .u64 x.v, .int .u64 x.s]) :: .val (fun v _ => v = .bool false) :: .val (fun v _ => v = .bool false) :: [])
          ([] :: [(67, 0)] :: [(68, 1)] :: [(68, 1)] :: [(69, 2), (70, 3), (68, 1)] :: [(71, 4), (68, 1)] :: [(68, 1)] :: [(73, 6), (68, 1)] :: [(72, 5), (74, 7), (68, 1)] :: [(68, 1), (75, 8)] :: []) ((0, 0) :: (0, 0) :: (0, 0) :: (0, 0) :: (0, 0) :: (0, 0) :: (0, 0) :: (0, 0) :: (0, 0) :: (0, 0) :: []) 77 (by kernel_rfl) rfl rfl (by kernel_rfl) ⟨Stab.pure _ _ _, Stab.pure _ _ _, Stab.pure _ _ _, Stab.pure _ _ _, Stab.pure _ _ _, Stab.pure _ _ _, Stab.pure _ _ _, Stab.pure _ _ _, Stab.pure _ _ _, Stab.pure _ _ _, trivial⟩ ⟨?_, ?_, ?_, ?_, ?_, ?_, ?_, ?_, ?_, ?_, trivial⟩ ?_
        · intro wx hb
          intro K hK
          go_simp
          exact hK _ _ rfl ⟨rfl, Below.refl _ _⟩
        · intro wx hb
          rintro _ rfl
          intro K hK
          go_simp
          exact hK _ _ rfl ⟨rfl, Below.refl _ _⟩
        · intro wx hb
          rintro _ rfl
          refine ⟨fun _ => ?_, fun h => absurd (show true = false from h) (by decide)⟩
          intro K hK
          go_simp
          exact hK _ _ rfl ⟨rfl, Below.refl _ _⟩
        · intro wx hb
          rintro _ rfl
          refine ⟨fun _ => ?_, fun h => absurd (show true = false from h) (by decide)⟩
          intro K hK
          go_simp
          exact hK _ _ rfl ⟨rfl, Below.refl _ _⟩
        · intro wx hb
          rintro _ rfl
          rintro _ rfl
          rintro _ rfl
          refine ⟨fun _ => ?_, fun h => absurd (show true = false from h) (by decide)⟩
          intro K hK
          go_simp
          exact hK _ _ rfl ⟨rfl, Below.refl _ _⟩
        · intro wx hb
          rintro _ rfl
          rintro _ rfl
          refine ⟨fun _ => ?_, fun h => absurd (show true = false from h) (by decide)⟩
          intro K hK
          have y0 := (hb.cell (p := (a2.add (i * 6))) hb7).trans z0; have y1 := (hb.cell (p := ⟨(a2.add (i * 6)).block, (a2.add (i * 6)).off + 1, none⟩) hb7).trans z1; have y2 := (hb.cell (p := ⟨(a2.add (i * 6)).block, (a2.add (i * 6)).off + 2, none⟩) hb7).trans z2; have y3 := (hb.cell (p := ⟨(a2.add (i * 6)).block, (a2.add (i * 6)).off + 3, none⟩) hb7).trans z3; have y4 := (hb.cell (p := ⟨(a2.add (i * 6)).block, (a2.add (i * 6)).off + 4, none⟩) hb7).trans z4; have y5 := (hb.cell (p := ⟨(a2.add (i * 6)).block, (a2.add (i * 6)).off + 5, none⟩) hb7).trans z5; go_simp; exact hK _ _ rfl ⟨rfl, Below.refl _ _⟩
        · intro wx hb
          rintro _ rfl
          refine ⟨fun _ => ?_, fun h => absurd (show true = false from h) (by decide)⟩
          intro K hK
          go_simp
          exact hK _ _ rfl ⟨rfl, Below.refl _ _⟩
        · intro wx hb
          rintro _ rfl
          rintro _ rfl
          refine ⟨fun _ => ?_, fun h => absurd (show true = false from h) (by decide)⟩
          intro K hK
          go_simp
          (with_reducible refine (HWT.out _ (HR7.out.below hb (Nat.le_refl _))).mono ?_)
          rintro e wa ⟨rfl, Ba⟩
          exact hK _ _ rfl ⟨rfl, Ba⟩
        · intro wx hb
          rintro _ rfl
          rintro _ rfl
          rintro _ rfl
          refine ⟨fun _ => ?_, fun h => absurd (show true = false from h) (by decide)⟩
          intro K hK
          go_simp
          exact hK _ _ rfl ⟨rfl, Below.refl _ _⟩
        · intro wx hb
          rintro _ rfl
          rintro _ rfl
          intro K hK
          go_simp
          exact hK _ _ rfl ⟨rfl, Below.refl _ _⟩
        intro w8 B8
        rintro _ rfl
        rintro _ rfl
        rintro _ rfl
        rintro _ rfl
        rintro _ rfl
        rintro _ rfl
        rintro _ rfl
        rintro _ rfl
        rintro _ rfl
        rintro _ rfl
        rintro -
        simp only [Act.put, List.setIfInBounds_toArray, List.set_cons_zero, List.set_cons_succ, List.toList_toArray, List.length_cons, List.length_nil, List.drop_succ_cons, List.drop_zero, List.drop_nil, Nat.zero_add, wpList]
        have BW8 := Lib.hid (bkeep BW7.out B8); have BV8 := Lib.hid (bkeep BV7.out B8)
        clear B8 z0 z1 z2 z3 z4 z5 e6
        go_wp2_with fail
        go_roundw
        case rel => exact ⟨i + 1, by go_num, by omega, BW8, BV8⟩
        case measure => simp [intOf]; omega
    · obtain rfl : i = n := by omega
      go_wp2_with fail
      go_ret
      exact ⟨rfl, BW.out⟩
theorem tx_u8 {g : List Rl} (h : gcode 0 g = 0) (hb : ∀ r ∈ g, 0 ≤ r.lt ∧ r.lt ≤ 255) : ∀ (i : Nat), i < g.length → U8s (tx g i) := by
  intro i
  induction i using Nat.strongRecOn with
  | ind i ih =>
    intro hi
    obtain ⟨r, hr⟩ : ∃ r, g[i]? = some r := ⟨_, List.getElem?_eq_getElem hi⟩
    have hway := rule_way h hr
    have hbr := hb r (List.mem_of_getElem? hr)
    obtain ⟨kd, lt, lf, rg, tm⟩ := r
    simp only at hway hbr
    rcases hway with ⟨rfl, rfl, rfl, rfl⟩ | ⟨rfl, rfl, rfl, p1, p2, q1, q2⟩ | ⟨rfl, rfl, rfl, t2, p1, p2⟩
    · rw [tx_letter hr]; exact U8s.one hbr.1 hbr.2
    · obtain ⟨a, rfl⟩ : ∃ a : Nat, lf = (a : Int) + 1 := ⟨(lf - 1).toNat, by omega⟩
      obtain ⟨b, rfl⟩ : ∃ b : Nat, rg = (b : Int) + 1 := ⟨(rg - 1).toNat, by omega⟩
      rw [tx_pair hr (by omega) (by omega)]
      exact (ih a (by omega) (by omega)).app (ih b (by omega) (by omega))
    · obtain ⟨a, rfl⟩ : ∃ a : Nat, lf = (a : Int) + 1 := ⟨(lf - 1).toNat, by omega⟩
      rw [tx_power hr (by omega)]
      intro y hy
      obtain ⟨l, hl, hyl⟩ := List.mem_flatten.1 hy
      rw [List.eq_of_mem_replicate hl] at hyl
      exact ih a (by omega) (by omega) y hyl
theorem rb_of {g : List Rl} (hok : ∀ r ∈ g, r.Ok) : Rb g := fun r hr => ⟨(hok r hr).lt0, (hok r hr).lt1, (hok r hr).tm1⟩
theorem law_weights (g : List Rl) (n c : Nat) (A : Option Addr) (hl : g.length = n) (hok : ∀ r ∈ g, r.Ok) (w : World) (ha : RowAt w A (gc g)) :
    Calls Try.prog 12 #[.slice A n c] w fun e w' => e = .returned (.bool true) ∧ Below w.heap.size w w' := by
  by_cases hn : n ≤ 40
  · have HC := Lib.hid fun w a => copied_any g n c A hl (by omega) w a
    have HW := fun A c w a => weights_any g n c A hl (by omega) (rb_of hok) w a
    have HR := fun w a => rlengths_any g n c A hl (by omega) w a
    by_cases h0 : (lens g).2 = 0
    · obtain ⟨t1, t2⟩ := lens_text (lens_g h0) h0
      have hX : wtsL g = wls g n := by unfold wtsL; rw [if_pos h0, hl]
      rw [hX, h0, errv_zero] at HW
      rw [h0] at HR
      refine wlaw_ok g n c A hl hn (lens g).1 (wls g n) (by omega) (wls_len g n) (Lib.hid fun j hj => ?_) HC (Lib.hid HW) (Lib.hid HR) (Lib.hid fun m w hm hs a => rplain_at g n c A hl (by omega) h0 m hm hs w a) w ha
      have hr : g[j]? = some (g[j]'(by omega)) := List.getElem?_eq_getElem _
      exact ⟨t2 j _ hr, wls_get g hj, tx_u8 (lens_g h0) (fun r hr => ⟨(hok r hr).lt0, (hok r hr).lt1⟩) j (by omega)⟩
    · have hX : wtsL g = [] := by unfold wtsL; rw [if_neg h0]
      rw [hX] at HW
      rw [lens_nil h0] at HR
      exact wlaw_bad n c A hn _ h0 (gc g) HC (Lib.hid HW) (Lib.hid HR) w ha
  · exact wlaw_long n c A (by omega) w
end Go.Proofs.Ytcbahojefglakaa
