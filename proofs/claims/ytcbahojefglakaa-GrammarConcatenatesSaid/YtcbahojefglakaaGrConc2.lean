/- The walk of the law GrammarConcatenates, both texts there (under way). -/
import Derived.Test.YtcbahojefglakaaGrConc
namespace Go.Proofs.Ytcbahojefglakaa
set_option linter.unusedVariables false
set_option linter.unusedSimpArgs false
open Go.RowKit Go.Lib
attribute [local go_sem ↓] Go.wp_at_zero Go.wp_at_succ
theorem str_app (a b : List Int) : strOfNums (a ++ b) = strOfNums a ++ strOfNums b := by
  unfold strOfNums
  apply ByteArray.ext
  simp
theorem str_size (a : List Int) : (strOfNums a).size = a.length := by unfold strOfNums; simp [ByteArray.size]
theorem rep_succ (i : Nat) (X : List Int) : (List.replicate (i + 1) X).flatten = (List.replicate i X).flatten ++ X := by rw [List.replicate_succ', List.flatten_append]; simp
theorem rep_len (i : Nat) (X : List Int) : ((List.replicate i X).flatten).length = i * X.length := by rw [List.length_flatten, List.map_replicate, List.sum_replicate_nat]
set_option maxRecDepth 100000 in
set_option maxHeartbeats 8000000 in
theorem claw_ok (g h : List Rl) (n c m d : Nat) (A B : Option Addr) (k : Int) (hk0 : 0 ≤ k) (hk1 : k ≤ 255) (hn : n ≤ 40) (hm : m ≤ 40) (hB : B = none → m = 0 ∧ d = 0) (X Y : List Int) (hX : X.length ≤ 500) (hY : Y.length ≤ 500) (J R : List Rl) (Z : List Int) (hZ : Z = (List.replicate (k % 8).toNat X).flatten)
    (HCG : Hid (∀ w, RowAt w A (gc g) → Calls Try.prog 18 #[.slice A n c] w (SliceOut w n (gc g))))
    (HCH : Hid (∀ w, RowAt w B (gc h) → Calls Try.prog 18 #[.slice B m d] w (SliceOut w m (gc h))))
    (HEG : Hid (∀ A c w, RowAt w A (gc g) → Calls Try.prog 17 #[.slice A n c, .int .i64 500] w (BytesOut X .nilIface w)))
    (HEH : Hid (∀ A c w, RowAt w A (gc h) → Calls Try.prog 17 #[.slice A m c, .int .i64 500] w (BytesOut Y .nilIface w)))
    (HJ : Hid (∀ w, RowAt w A (gc g) → RowAt w B (gc h) → Calls Try.prog 34 #[.slice A n c, .slice B m d] w (RulesOut J .nilIface w)))
    (HEJ : Hid (∀ A c w, RowAt w A (gc J) → Calls Try.prog 17 #[.slice A J.length c, .int .i64 1000] w (BytesOut (X ++ Y) .nilIface w)))
    (HRP : Hid (∀ w, RowAt w A (gc g) → Calls Try.prog 36 #[.slice A n c, .int .i64 (k % 8)] w (RulesOut R .nilIface w)))
    (HER : Hid (∀ A c w, RowAt w A (gc R) → Calls Try.prog 17 #[.slice A R.length c, .int .i64 4000] w (BytesOut Z .nilIface w)))
    (w : World) (ha : RowAt w A (gc g)) (hb : RowAt w B (gc h)) :
    Calls Try.prog 9 #[.slice A n c, .slice B m d, .int .u8 k] w fun e w' => e = .returned (.bool true) ∧ Below w.heap.size w w' := by
  have HA := Lib.hid ha; have HB := Lib.hid hb
  have hn2 : ¬ (40 : Int) < (n : Int) := by omega
  have hm2 : ¬ (40 : Int) < (m : Int) := by omega
  have HZ := Lib.hid hZ
  have q0 : 0 ≤ k % 8 := by omega
  have q7 : k % 8 ≤ 7 := by omega
  clear ha hb hB hZ
  go_enter Try.func9, Try.ntmps9
  go_wp2_with fail
  (with_reducible refine (HCG.out _ HA.out).mono ?_)
  rintro e w1 ⟨A1, c1, rfl, R1, B1⟩
  have BW1 := Lib.hid B1; have HB1 := Lib.hid (HB.out.below B1 (Nat.le_refl _)); have HR1 := Lib.hid R1
  clear B1 R1
  go_wp2_with fail
  (with_reducible refine (HEG.out _ _ _ HR1.out).mono ?_)
  rintro e w2 ⟨A2, c2, rfl, R2, B2⟩
  have BW2 := Lib.hid (bkeep BW1.out B2); have HB2 := Lib.hid (HB1.out.below B2 (Nat.le_refl _)); have HX2 := Lib.hid R2
  clear B2 R2
  go_wp2_with fail
  (with_reducible refine (HCH.out _ HB2.out).mono ?_)
  rintro e w3 ⟨A3, c3, rfl, R3, B3⟩
  have BW3 := Lib.hid (bkeep BW2.out B3); have HR3 := Lib.hid R3; have HX3 := Lib.hid (HX2.out.below B3 (Nat.le_refl _))
  clear B3 R3
  go_wp2_with fail
  (with_reducible refine (HEH.out _ _ _ HR3.out).mono ?_)
  rintro e w4 ⟨A4, c4, rfl, R4, B4⟩
  have BW4 := Lib.hid (bkeep BW3.out B4); have HX4 := Lib.hid (HX3.out.below B4 (Nat.le_refl _)); have HY4 := Lib.hid R4
  clear B4 R4
  go_wp2_with fail
  (with_reducible refine (awake_any _).mono ?_)
  rintro e w5 ⟨rfl, B5⟩
  have BW5 := Lib.hid (bkeep BW4.out B5); have HX5 := Lib.hid (HX4.out.below B5 (Nat.le_refl _)); have HY5 := Lib.hid (HY4.out.below B5 (Nat.le_refl _))
  clear B5
  go_wp2_with fail
  (with_reducible refine (HJ.out _ (HA.out.below BW5.out (Nat.le_refl _)) (HB.out.below BW5.out (Nat.le_refl _))).mono ?_)
  rintro e w6 ⟨A6, c6, rfl, R6, B6⟩
  have BW6 := Lib.hid (bkeep BW5.out B6); have HX6 := Lib.hid (HX5.out.below B6 (Nat.le_refl _)); have HY6 := Lib.hid (HY5.out.below B6 (Nat.le_refl _)); have HJ6 := Lib.hid R6
  clear B6 R6
  go_wp2_with fail
  (with_reducible refine (HEJ.out _ _ _ HJ6.out).mono ?_)
  rintro e w7 ⟨A7, c7, rfl, R7, B7⟩
  have BW7 := Lib.hid (bkeep BW6.out B7); have HX7 := Lib.hid (HX6.out.below B7 (Nat.le_refl _)); have HY7 := Lib.hid (HY6.out.below B7 (Nat.le_refl _))
  have v1 := run_conv_row X _ c2 A2 rfl w7 HX7.out
  have v2 := run_conv_row Y _ c4 A4 rfl w7 HY7.out
  have v3 := run_conv_row (X ++ Y) (X.length + Y.length) c7 A7 (by simp) w7 R7
  rw [str_app] at v3
  obtain ⟨sx, hsx⟩ : ∃ s, s = strOfNums X := ⟨_, rfl⟩
  obtain ⟨sy, hsy⟩ : ∃ s, s = strOfNums Y := ⟨_, rfl⟩
  rw [← hsx] at v1 v3; rw [← hsy] at v2 v3
  have HSX := Lib.hid hsx
  have zx : sx.size ≤ 500 := by rw [hsx, str_size]; exact hX
  have zy : sy.size ≤ 500 := by rw [hsy, str_size]; exact hY
  have HA7 := Lib.hid (HA.out.below BW7.out (Nat.le_refl _))
  clear B7 R7 hsx hsy
  go_wp2_with fail
  (with_reducible refine (HRP.out _ HA7.out).mono ?_)
  rintro e w8 ⟨A8, c8, rfl, R8, B8⟩
  have BW8 := Lib.hid (bkeep BW7.out B8); have HX8 := Lib.hid (HX7.out.below B8 (Nat.le_refl _)); have HR8 := Lib.hid R8
  clear B8 R8 v1 v2 v3
  go_wp2_with fail
  (with_reducible refine (HER.out _ _ _ HR8.out).mono ?_)
  rintro e w9 ⟨A9, c9, rfl, R9, B9⟩
  have BW9 := Lib.hid (bkeep BW8.out B9); have HX9 := Lib.hid (HX8.out.below B9 (Nat.le_refl _)); have HZ9 := Lib.hid R9
  have v1 := run_conv_row X _ c2 A2 rfl w9 HX9.out
  have v4 := run_conv_row Z _ c9 A9 rfl w9 HZ9.out
  rw [← HSX.out] at v1
  obtain ⟨sz, hsz⟩ : ∃ s, s = strOfNums Z := ⟨_, rfl⟩
  rw [← hsz] at v4
  have HSZ := Lib.hid hsz
  clear B9 R9 hsz
  go_wp2_with fail
  go_loopw [18, 19] (fun ss si wr => ∃ (i : Nat) (s : ByteArray), ss = .string s ∧ si = .int .i64 (i : Int) ∧ (i : Int) ≤ k % 8 ∧ s.size ≤ i * 500 ∧ Hid (s = strOfNums ((List.replicate i X).flatten)) ∧ wr = w9) (fun _ si _ => 8 - (intOf si).toNat)
  case atStart => exact ⟨0, _, rfl, rfl, by omega, Nat.le_refl 0, Lib.hid rfl, rfl⟩
  case round =>
    obtain ⟨i, s, rfl, rfl, hi, hs, HS, rfl⟩ := hrel
    by_cases hlt : (i : Int) < k % 8
    · have HS2 : Hid (s ++ sx = strOfNums ((List.replicate (i + 1) X).flatten)) := Lib.hid (by rw [rep_succ, str_app, ← HS.out, ← HSX.out])
      have hs2 : s.size ≤ 4000 := by omega
      go_wp2_with fail
      go_roundw
      case rel => exact ⟨i + 1, s ++ sx, rfl, by go_num, by omega, by simp; omega, HS2, by trivial⟩
      case measure => simp [intOf]; omega
    · have he : (i : Int) = k % 8 := by omega
      have hz : s = sz := by rw [HS.out, HSZ.out, HZ.out, show (k % 8).toNat = i by omega]
      subst hz
      clear he
      go_wp2_with fail
      go_ret
      exact ⟨rfl, BW9.out⟩
end Go.Proofs.Ytcbahojefglakaa
