/- The walk of evergreenref09.take. -/
import Derived.Test.YtpeapjnfncfjiaaRuleTwo
namespace Go.Proofs.Ytpeapjnfncfjiaa
set_option linter.unusedVariables false
set_option linter.unusedSimpArgs false
open Go.RowKit Go.Lib
def rtk (l : List Int) : Nat × Nat := match vt 9 true l with
  | none => (0, 0)
  | some p => p
theorem rtk_none {l : List Int} (h : vt 9 true l = none) : rtk l = (0, 0) := by unfold rtk; rw [h]
theorem rtk_some {l : List Int} {p : Nat × Nat} (h : vt 9 true l = some p) : rtk l = p := by unfold rtk; rw [h]
theorem shl_at (i : Nat) (x : Int) (x0 : 0 ≤ x) (h : x.toNat % 128 * 128 ^ i < 18446744073709551616) :
    IntKind.u64.wrap (x % 128 * 2 ^ (7 * i)) = ((x.toNat % 128 * 128 ^ i : Nat) : Int) := by
  have e1 : (2 : Nat) ^ (7 * i) = 128 ^ i := by rw [Nat.pow_mul]
  have e2 : (x % 128 * 2 ^ (7 * i) : Int) = ((x.toNat % 128 * 128 ^ i : Nat) : Int) := by
    rw [← e1]
    have : x % 128 = ((x.toNat % 128 : Nat) : Int) := by omega
    rw [this]
    simp
  rw [e2, IntKind.wrap_u64]
  generalize x.toNat % 128 * 128 ^ i = q at *
  omega
set_option maxHeartbeats 2000000 in
theorem rtk_any (l : List Int) (n c : Nat) (A : Option Addr) (hl : l.length = n) (hn : n ≤ 140737488355328) (hb : U8s l) (w : World) (ha : RowAt w A (vb l)) :
    Calls Try.prog 40 #[.slice A n c] w fun e w' => e = .returned (.tuple #[.int .i64 ((rtk l).1 : Int), .int .i64 ((rtk l).2 : Int)]) ∧ w = w' := by
  have HA := Lib.hid ha; have HL := Lib.hid hl
  clear ha hl
  go_enter Try.func40, Try.ntmps40
  go_wp2_with fail
  go_loop [4, 5] (fun s4 si => ∃ i N : Nat, si = .int .i64 (i : Int) ∧ i ≤ n ∧ i ≤ 9 ∧ s4 = .int .u64 (N : Int) ∧ Hid (VtAt l i N)) (fun _ si => n - (intOf si).toNat)
  case atStart => exact ⟨0, 0, rfl, by omega, by omega, rfl, Lib.hid (VtAt.start l)⟩
  case round =>
    obtain ⟨i, N, rfl, hin, hi9, rfl, HV⟩ := hrel
    have i0 : (0 : Int) ≤ i := by omega
    by_cases hlt : i < n
    · have i1 : (i : Int) < (n : Int) := by omega
      by_cases h9 : i < 9
      · have i9 : (i : Int) < 9 := by omega
        have hil : i < l.length := by rw [HL.out]; exact hlt
        obtain ⟨ad, rfl, _, c1⟩ := HA.out.get (vb_at hil)
        obtain ⟨x, hx⟩ : ∃ x, x = l[i] := ⟨_, rfl⟩
        have hxu := hb x (by rw [hx]; exact List.getElem_mem _)
        have hxi : l[i]? = some x := by rw [hx]; exact List.getElem?_eq_getElem hil
        rw [← hx] at c1
        have x0 := hxu.1; have x1 := hxu.2
        have HX := Lib.hid hxi
        clear hx hxu hxi
        have hN := HV.out.1
        have n1 : N < 9223372036854775808 := pow9' hi9 hN
        have hq := pow9 h9 (m := x.toNat % 128) (by omega)
        have e1 := shl_at i x x0 (Nat.lt_trans hq (by decide))
        have hq2 : x.toNat % 128 * 128 ^ i + N < 9223372036854775808 := by
          have h3 : 128 ^ (i + 1) ≤ 128 ^ 9 := Nat.pow_le_pow_right (by omega) (by omega)
          rw [Nat.pow_succ] at h3
          have h2 : x.toNat % 128 * 128 ^ i ≤ 127 * 128 ^ i := Nat.mul_le_mul_right _ (by omega)
          have h4 : (128 : Nat) ^ 9 = 9223372036854775808 := by decide
          omega
        obtain ⟨Q, hQ⟩ : ∃ Q, Q = x.toNat % 128 * 128 ^ i := ⟨_, rfl⟩
        obtain ⟨V, hV⟩ : ∃ V, V = N + Q := ⟨_, rfl⟩
        have v1 : (V : Int) ≤ 9223372036854775807 := by omega
        rw [← hQ] at e1
        have e2 : IntKind.u64.wrap ((N : Int) + (Q : Int)) = (V : Int) := by rw [IntKind.wrap_u64]; omega
        by_cases h128 : x < 128
        · have HR := HV.out.last h9 HX.out h128
          have em : x.toNat % 128 = x.toNat := by omega
          rw [em] at hQ
          rw [← hQ, ← hV] at HR
          by_cases hz : x = 0 ∧ 0 < i
          · obtain ⟨rfl, hz2⟩ := hz
            have hz3 : (0 : Int) < (i : Int) := by omega
            have HR2 := Lib.hid (rtk_none (HR.trans (if_pos ⟨rfl, hz2⟩)))
            clear HR HV hN hV hQ em hq hq2 h9 HX
            go_wp2_with fail
            go_ret2
            exact ⟨by rw [HR2.out]; rfl, rfl⟩
          · have HR2 := Lib.hid (rtk_some (HR.trans (if_neg hz)))
            by_cases hi0 : 0 < i
            · have hz3 : (0 : Int) < (i : Int) := by omega
              have bx : (x == 0) = false := beq_eq_false_iff_ne.2 fun h => hz ⟨h, hi0⟩
              clear HR HV hN hV hQ em hq hq2 h9 HX hz
              go_wp2_with fail
              go_ret2
              exact ⟨by rw [HR2.out]; simp, rfl⟩
            · have hz3 : ¬ (0 : Int) < (i : Int) := by omega
              clear HR HV hN hV hQ em hq hq2 h9 HX hz hi0
              go_wp2_with fail
              go_ret2
              exact ⟨by rw [HR2.out]; simp, rfl⟩
        · have HR := Lib.hid (HV.out.more h9 HX.out h128)
          rw [← hQ, ← hV] at HR
          have hi9' : i + 1 ≤ 9 := h9
          clear HV hN hV hQ hq hq2 h9 HX
          go_wp2_with fail
          go_round
          case rel => exact ⟨i + 1, V, by go_num, by omega, hi9', rfl, HR⟩
          case measure => simp [intOf]; omega
      · have i9 : ¬ (i : Int) < 9 := by omega
        have HR := Lib.hid (rtk_none (HV.out.none (.inl (by omega))))
        clear HV h9
        go_wp2_with fail
        go_ret2
        exact ⟨by rw [HR.out]; rfl, rfl⟩
    · have i1 : ¬ (i : Int) < (n : Int) := by omega
      have HR := Lib.hid (rtk_none (HV.out.none (.inr (by rw [HL.out]; omega))))
      clear HV hlt
      go_wp2_with fail
      go_ret2
      exact ⟨by rw [HR.out]; rfl, rfl⟩
end Go.Proofs.Ytpeapjnfncfjiaa
