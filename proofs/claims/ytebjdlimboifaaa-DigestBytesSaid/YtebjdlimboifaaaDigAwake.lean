/- The walk of evergreenlaw05's fixed example. -/
import Derived.Test.YtebjdlimboifaaaDigOf
import Derived.Test.YtebjdlimboifaaaDigRest
import Derived.Test.YtebjdlimboifaaaModNum
import Derived.Lib.SlBytesConst
import Derived.Laws.StructEq
namespace Go.Proofs.Ytebjdlimboifaaa
set_option linter.unusedVariables false
set_option linter.unusedSimpArgs false
open Go.RowKit Go.Lib

theorem inv_mul (x : Int) (h : 0 ≤ x) (hz : red x ≠ 0) : red (x * inv x) = 1 := inverse_red x h hz
theorem inv_sq (x : Int) (h : 0 ≤ x) (hz : red x ≠ 0) : red (x * x * inv x) = red x := by
  rw [Int.mul_assoc, ← red_mul_r, inv_mul x h hz, Int.mul_one]
theorem dof_ab : dOf [97, 98] = (108144494109, 1217745895947410025) := by decide +kernel
theorem rest_ab (w : World) : Calls Try.prog 21 #[.agg #[.int .u64 108144494109, .int .u64 1217745895947410025], .agg #[.int .u64 98, .int .u64 1103515245]] w fun e w' => e = .returned (.tuple #[.agg #[.int .u64 99, .int .u64 1103515245], .nilIface]) ∧ Below w.heap.size w w' := by
  have h := rest_ok 108144494109 1217745895947410025 98 1103515245 ⟨by omega, by omega⟩ ⟨by omega, by omega⟩ ⟨by omega, by omega⟩ ⟨by omega, by omega⟩ (by decide +kernel) (by decide +kernel) w
  have q : (1217745895947410025 : Int) = 1103515245 * 1103515245 := by decide +kernel
  have e : red (1217745895947410025 * inv 1103515245) = 1103515245 := by
    rw [q, inv_sq 1103515245 (by omega) (by decide +kernel)]
    exact red_small _ (by omega) (by omega)
  have e2 : red (108144494109 - red (98 * 1103515245)) = 99 := by decide +kernel
  rw [e, e2] at h
  exact h
theorem letter_a (w : World) : Calls Try.prog 13 #[.int .u8 97] w fun e w' => e = .returned (.agg #[.int .u64 98, .int .u64 1103515245]) ∧ Below w.heap.size w w' := letter_any 97 (by omega) (by omega) w
theorem letter_b (w : World) : Calls Try.prog 13 #[.int .u8 98] w fun e w' => e = .returned (.agg #[.int .u64 99, .int .u64 1103515245]) ∧ Below w.heap.size w w' := letter_any 98 (by omega) (by omega) w
theorem of_ab (c : Nat) (A : Option Addr) (w : World) (h : RowAt w A (vb [97, 98])) : Calls Try.prog 15 #[.slice A 2 c] w fun e w' => e = .returned (.agg #[.int .u64 108144494109, .int .u64 1217745895947410025]) ∧ Below w.heap.size w w' := by
  have h := of_any [97, 98] 2 c A rfl (by omega) (by intro x hx; simp at hx; omega) w h
  rw [dof_ab] at h
  exact h

attribute [local go_sem ↓] Go.wp_at_zero Go.wp_at_succ
set_option maxHeartbeats 2000000 in
theorem awake_any (w : World) : Calls Try.prog 11 #[] w fun e w' => e = .returned (.bool true) ∧ Below w.heap.size w w' := by
  have kc := fun (w : World) (C : Array Value) (n c : Nat) => Lib.run_convert_bytes_const (P := Try.prog) w 29 5 C n c Try.underlying29 Try.underlying5
  go_enter Try.func11, Try.ntmps11
  go_wp2_with fail
  (with_reducible refine (of_ab _ _ _ ?row).mono ?_)
  case row => exact RowAt.of_block (heap_alloc_new w _)
  rintro e w1 ⟨rfl, B1⟩
  have z1 : w.heap.size < w1.heap.size := by have hz := B1.size; simp at hz; omega
  have bw1 := Lib.hid (((Below.refl w.heap.size w).alloc (Nat.le_refl _) _).trans (B1.mono (by simp)))
  clear B1
  go_wp2_with fail
  (with_reducible refine (letter_a _).mono ?_)
  rintro e w2 ⟨rfl, B2⟩
  have z2 : w.heap.size < w2.heap.size := by have hz := B2.size; (try simp at hz); omega
  have bw2 := Lib.hid (bw1.out.trans (B2.mono (by omega)))
  clear B2 bw1
  go_wp2_with fail
  (with_reducible refine (rest_ab _).mono ?_)
  rintro e w3 ⟨rfl, B3⟩
  have z3 : w.heap.size < w3.heap.size := by have hz := B3.size; (try simp at hz); omega
  have bw3 := Lib.hid (bw2.out.trans (B3.mono (by omega)))
  clear B3 bw2
  have BX := Lib.hid (Box.new w3 26 #[.int .u64 99, .int .u64 1103515245])
  have BW := Lib.hid (bw3.out.alloc (Nat.le_of_lt z3) (.cells #[.int .u64 99, .int .u64 1103515245] 26))
  have x0 := BX.out.cell 0; have x1 := BX.out.cell 1
  simp only [List.getElem?_toArray, List.getElem?_cons_zero, List.getElem?_cons_succ] at x0 x1
  go_wp2_with fail
  go_region_with (first
    | (go_at_call 13; ((with_reducible refine (letter_a _).mono ?_)); rintro e wa ⟨rfl, Ba⟩; have Xa := BX.out.via Ba rfl (by first | omega | (simp; done) | (simp; omega)); have Wa := Below.via BW.out Ba rfl rfl rfl rfl (by first | omega | (simp; done) | (simp; omega)); have a0 : wa.cell? ⟨w3.heap.size, 0, none⟩ = some (.int .u64 99) := Xa.cell 0; have a1 : wa.cell? ⟨w3.heap.size, 1, none⟩ = some (.int .u64 1103515245) := Xa.cell 1; have za := Xa.lt)
    | (go_at_call 13; ((with_reducible refine (letter_b _).mono ?_)); rintro e wb ⟨rfl, Bb⟩; have Xb := Xa.via Bb rfl (by first | omega | (simp; done) | (simp; omega)); have Wb := Below.via Wa Bb rfl rfl rfl rfl (by first | omega | (simp; done) | (simp; omega)); have b0 : wb.cell? ⟨w3.heap.size, 0, none⟩ = some (.int .u64 99) := Xb.cell 0; have b1 : wb.cell? ⟨w3.heap.size, 1, none⟩ = some (.int .u64 1103515245) := Xb.cell 1; have zb := Xb.lt)
    | (go_at_call 18; ((with_reducible refine (unit_any _).mono ?_)); rintro e wc ⟨rfl, Bc⟩; have Wc := Below.via Wb Bc rfl rfl rfl rfl (by first | omega | (simp; done) | (simp; omega))))
  all_goals
    go_wp2
    go_ret
    first
      | exact ⟨rfl, Wc⟩
      | exact ⟨rfl, Wc.drew⟩
end Go.Proofs.Ytebjdlimboifaaa
