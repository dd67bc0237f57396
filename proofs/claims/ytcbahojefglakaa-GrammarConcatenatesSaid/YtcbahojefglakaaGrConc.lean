/- The walk of the law GrammarConcatenates (under way). -/
import Derived.Test.YtcbahojefglakaaGrJoinPlain2
namespace Go.Proofs.Ytcbahojefglakaa
set_option linter.unusedVariables false
set_option linter.unusedSimpArgs false
open Go.RowKit Go.Lib
attribute [local go_sem ↓] Go.wp_at_zero Go.wp_at_succ
theorem claw_long (n c m d : Nat) (A B : Option Addr) (k : Int) (hn : 40 < n ∨ 40 < m) (w : World) :
    Calls Try.prog 9 #[.slice A n c, .slice B m d, .int .u8 k] w fun e w' => e = .returned (.bool true) ∧ Below w.heap.size w w' := by
  by_cases h1 : 40 < n
  · have hn2 : (40 : Int) < (n : Int) := by omega
    clear hn h1
    go_enter Try.func9, Try.ntmps9
    go_wp2_with fail
    go_ret
    exact ⟨rfl, Below.refl _ _⟩
  · have hn2 : ¬ (40 : Int) < (n : Int) := by omega
    have hm2 : (40 : Int) < (m : Int) := by omega
    clear hn h1
    go_enter Try.func9, Try.ntmps9
    go_wp2_with fail
    go_ret
    exact ⟨rfl, Below.refl _ _⟩
set_option maxRecDepth 100000 in
set_option maxHeartbeats 8000000 in
theorem claw_bad (g h : List Rl) (n c m d : Nat) (A B : Option Addr) (k : Int) (hn : n ≤ 40) (hm : m ≤ 40) (X Y : List Int) (k1 k2 : Int) (hk : k1 ≠ 0 ∨ k2 ≠ 0)
    (HCG : Hid (∀ w, RowAt w A (gc g) → Calls Try.prog 18 #[.slice A n c] w (SliceOut w n (gc g))))
    (HCH : Hid (∀ w, RowAt w B (gc h) → Calls Try.prog 18 #[.slice B m d] w (SliceOut w m (gc h))))
    (HEG : Hid (∀ A c w, RowAt w A (gc g) → Calls Try.prog 17 #[.slice A n c, .int .i64 500] w (BytesOut X (errv k1) w)))
    (HEH : Hid (∀ A c w, RowAt w A (gc h) → Calls Try.prog 17 #[.slice A m c, .int .i64 500] w (BytesOut Y (errv k2) w)))
    (w : World) (ha : RowAt w A (gc g)) (hb : RowAt w B (gc h)) :
    Calls Try.prog 9 #[.slice A n c, .slice B m d, .int .u8 k] w fun e w' => e = .returned (.bool true) ∧ Below w.heap.size w w' := by
  have HA := Lib.hid ha; have HB := Lib.hid hb
  have hn2 : ¬ (40 : Int) < (n : Int) := by omega
  have hm2 : ¬ (40 : Int) < (m : Int) := by omega
  have HK := Lib.hid hk
  clear ha hb hk
  go_enter Try.func9, Try.ntmps9
  go_wp2_with fail
  (with_reducible refine (HCG.out _ HA.out).mono ?_)
  rintro e w1 ⟨A1, c1, rfl, R1, B1⟩
  have BW1 := Lib.hid B1; have HB1 := Lib.hid (HB.out.below B1 (Nat.le_refl _)); have HR1 := Lib.hid R1
  clear B1 R1
  go_wp2_with fail
  (with_reducible refine (HEG.out _ _ _ HR1.out).mono ?_)
  rintro e w2 ⟨A2, c2, rfl, R2, B2⟩
  have BW2 := Lib.hid (bkeep BW1.out B2); have HB2 := Lib.hid (HB1.out.below B2 (Nat.le_refl _))
  clear B2 R2
  go_wp2_with fail
  (with_reducible refine (HCH.out _ HB2.out).mono ?_)
  rintro e w3 ⟨A3, c3, rfl, R3, B3⟩
  have BW3 := Lib.hid (bkeep BW2.out B3); have HR3 := Lib.hid R3
  clear B3 R3
  go_wp2_with fail
  (with_reducible refine (HEH.out _ _ _ HR3.out).mono ?_)
  rintro e w4 ⟨A4, c4, rfl, R4, B4⟩
  have BW4 := Lib.hid (bkeep BW3.out B4)
  clear B4 R4
  go_wp2_with fail
  (with_reducible refine (awake_any _).mono ?_)
  rintro e w5 ⟨rfl, B5⟩
  have BW5 := Lib.hid (bkeep BW4.out B5)
  clear B5
  by_cases h1 : k1 = 0
  · have h2 : k2 ≠ 0 := HK.out.resolve_left (fun f => f h1)
    rw [h1, errv_zero, errv_pos k2 h2]
    clear h2 HK
    go_wp2_with fail
    go_ret
    exact ⟨rfl, BW5.out⟩
  · rw [errv_pos k1 h1]
    clear HK
    go_wp2_with fail
    go_ret
    exact ⟨rfl, BW5.out⟩
end Go.Proofs.Ytcbahojefglakaa
