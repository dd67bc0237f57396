/- The walk of varint.Take. -/
import Derived.Test.YtcbahojefglakaaVarint
namespace Go.Proofs.Ytcbahojefglakaa
set_option linter.unusedVariables false
set_option linter.unusedSimpArgs false
open Go.RowKit Go.Lib
set_option maxRecDepth 10000 in
theorem and127 (y : Int) (h0 : 0 ≤ y) (h1 : y ≤ 255) : bits .and .u8 y 127 = y % 128 := by
  rw [u8_and y 127 h0 (by omega) (by omega) (by omega)]
  have key : ∀ z : Fin 256, (z.val &&& 127) = z.val % 128 := by decide
  have := key ⟨y.toNat, by omega⟩
  show ((y.toNat &&& 127 : Nat) : Int) = _
  have e : (y.toNat &&& 127) = y.toNat % 128 := this
  omega
theorem or_at (N i : Nat) (x : Int) (hN : N < 128 ^ i) (x0 : 0 ≤ x) (h : x.toNat % 128 * 128 ^ i < 18446744073709551616) (h2 : N < 18446744073709551616) :
    bits BinOp.or .u64 (N : Int) (IntKind.u64.wrap (x % 128 * 2 ^ (7 * i))) = ((N + x.toNat % 128 * 128 ^ i : Nat) : Int) := by
  have e1 : (2 : Nat) ^ (7 * i) = 128 ^ i := by rw [Nat.pow_mul]
  have e2 : (x % 128 * 2 ^ (7 * i) : Int) = ((x.toNat % 128 * 128 ^ i : Nat) : Int) := by
    rw [← e1]
    have : x % 128 = ((x.toNat % 128 : Nat) : Int) := by omega
    rw [this]
    simp
  have e3 : IntKind.u64.wrap (((x.toNat % 128 * 128 ^ i : Nat)) : Int) = ((x.toNat % 128 * 128 ^ i : Nat) : Int) := by
    rw [IntKind.wrap_u64]
    generalize x.toNat % 128 * 128 ^ i = q at *
    omega
  rw [e2, e3, u64_or_nat _ _ h2 h, Nat.or_comm, nat_join (7 * i) _ _ (by rw [e1]; exact Nat.mul_mod_left _ _) (by rw [e1]; exact hN), Nat.add_comm]
theorem pow9 {i : Nat} (h : i < 9) {m : Nat} (hm : m < 128) : m * 128 ^ i < 9223372036854775808 := by
  have : 128 ^ (i + 1) ≤ 128 ^ 9 := Nat.pow_le_pow_right (by omega) (by omega)
  rw [Nat.pow_succ] at this
  have h2 : m * 128 ^ i ≤ 127 * 128 ^ i := Nat.mul_le_mul_right _ (by omega)
  have h3 : 0 < 128 ^ i := Nat.lt_of_lt_of_le (by omega) (Nat.le_trans (Nat.one_le_two_pow (n := i)) (Nat.pow_le_pow_left (by omega) i))
  have h4 : (128 : Nat) ^ 9 = 9223372036854775808 := by decide
  omega
theorem pow9' {i : Nat} (h : i ≤ 9) {m : Nat} (hm : m < 128 ^ i) : m < 9223372036854775808 := by
  have : 128 ^ i ≤ 128 ^ 9 := Nat.pow_le_pow_right (by omega) h
  have h4 : (128 : Nat) ^ 9 = 9223372036854775808 := by decide
  omega
/-- what Take hands back -/
def VTk (l : List Int) (v u : Int) (e : Value) : Prop :=
  (∃ n k : Nat, vt 9 true l = some (n, k) ∧ v = n ∧ u = k ∧ e = .nilIface) ∨ (vt 9 true l = none ∧ v = 0 ∧ u = 0 ∧ e = .iface 50 (.int .i64 4)) ∨
  (vt 9 true l = none ∧ 9223372036854775808 ≤ v ∧ v < 18446744073709551616 ∧ u = 10 ∧ 10 ≤ l.length ∧ e = .nilIface)
set_option maxHeartbeats 2000000 in
theorem vtake_any (l : List Int) (n c : Nat) (A : Option Addr) (hl : l.length = n) (hn : n ≤ 140737488355328) (hb : U8s l) (w : World) (ha : RowAt w A (vb l)) :
    Calls Try.prog 57 #[.slice A n c] w fun e w' => (∃ v u r, e = .returned (.tuple #[.int .u64 v, .int .i64 u, r]) ∧ VTk l v u r) ∧ w = w' := by
  have HA := Lib.hid ha; have HL := Lib.hid hl
  clear ha hl
  go_enter Try.func57, Try.ntmps57
  go_wp2_with fail
  go_loop [2, 5, 6, 9] (fun s2 _ _ si => ∃ i N : Nat, si = .int .i64 (i : Int) ∧ i ≤ n ∧ i ≤ 9 ∧ s2 = .int .u64 (N : Int) ∧ Hid (VtAt l i N)) (fun _ _ _ si => n - (intOf si).toNat)
  case atStart => exact ⟨0, 0, rfl, by omega, by omega, rfl, Lib.hid (VtAt.start l)⟩
  case round =>
    obtain ⟨i, N, rfl, hin, hi9, rfl, HV⟩ := hrel
    by_cases hlt : i < n
    · have hil : i < l.length := by rw [HL.out]; exact hlt
      obtain ⟨ad, rfl, _, c1⟩ := HA.out.get (vb_at hil)
      obtain ⟨x, hx⟩ : ∃ x, x = l[i] := ⟨_, rfl⟩
      have hxu := hb x (by rw [hx]; exact List.getElem_mem _)
      have hxi : l[i]? = some x := by rw [hx]; exact List.getElem?_eq_getElem hil
      rw [← hx] at c1
      have x0 := hxu.1; have x1 := hxu.2
      have HX := Lib.hid hxi
      clear hx hxu hxi
      have i0 : (0 : Int) ≤ i := by omega
      have i1 : (i : Int) < (n : Int) := by omega
      have ea := and127 x x0 x1
      have hN := HV.out.1
      have n1 : N < 9223372036854775808 := pow9' hi9 hN
      by_cases h9 : i < 9
      · have b9 : ((i : Int) == 9) = false := by rw [beq_eq_false_iff_ne]; omega
        have eo := or_at N i x hN x0 (Nat.lt_trans (pow9 h9 (by omega)) (by decide)) (by omega)
        have hq := pow9 h9 (m := x.toNat % 128) (by omega)
        by_cases h128 : x < 128
        · have HR := Lib.hid (HV.out.last h9 HX.out h128)
          have em : x.toNat % 128 = x.toNat := by omega
          rw [em] at eo hq
          obtain ⟨V, hV⟩ : ∃ V, V = N + x.toNat * 128 ^ i := ⟨_, rfl⟩
          rw [← hV] at eo HR
          by_cases hx0 : x = 0
          · subst hx0
            by_cases hi0 : 0 < i
            · have hi0' : (0 : Int) < (i : Int) := by omega
              have HR2 := Lib.hid (HR.out.trans (if_pos ⟨rfl, hi0⟩))
              clear HR HV hN hV em hq h9 HX
              go_wp2_with fail
              go_ret3
              exact ⟨⟨_, _, _, rfl, .inr (.inl ⟨HR2.out, rfl, rfl, rfl⟩)⟩, rfl⟩
            · have hi0' : ¬ (0 : Int) < (i : Int) := by omega
              have ez : IntKind.u64.wrap ((0 : Int) % 128 * 2 ^ (7 * i)) = 0 := by rw [IntKind.wrap_u64]; simp
              rw [ez] at eo
              clear ez
              have HR2 := Lib.hid (HR.out.trans (if_neg (fun h => hi0 h.2)))
              clear HR HV hN hV em hq h9 HX hi0
              go_wp2_with fail
              go_ret3
              exact ⟨⟨_, _, _, rfl, .inl ⟨V, i + 1, HR2.out, rfl, by simp, rfl⟩⟩, rfl⟩
          · have bx : (x == 0) = false := beq_eq_false_iff_ne.2 hx0
            have HR2 := Lib.hid (HR.out.trans (if_neg (fun h => hx0 h.1)))
            clear HR HV hN hV em hq h9 HX hx0
            go_wp2_with fail
            go_ret3
            exact ⟨⟨_, _, _, rfl, .inl ⟨V, i + 1, HR2.out, rfl, by simp, rfl⟩⟩, rfl⟩
        · have HR := Lib.hid (HV.out.more h9 HX.out h128)
          obtain ⟨V, hV⟩ : ∃ V, V = N + x.toNat % 128 * 128 ^ i := ⟨_, rfl⟩
          rw [← hV] at eo HR
          have hi9' : i + 1 ≤ 9 := h9
          clear HV hN hV hq h9 HX
          go_wp2_with fail
          go_round
          case rel => exact ⟨i + 1, V, by go_num, by omega, hi9', rfl, HR⟩
          case measure => simp [intOf]; omega
      · have b9 : ((i : Int) == 9) = true := by rw [beq_iff_eq]; omega
        have HR := Lib.hid (HV.out.none (.inl (by omega)))
        have hl10 : 10 ≤ l.length := by omega
        have HL10 := Lib.hid hl10
        have hi0' : (0 : Int) < (i : Int) := by omega
        by_cases hx1 : 1 < x
        · clear HV hN h9 HX hl10
          go_wp2_with fail
          go_ret3
          exact ⟨⟨_, _, _, rfl, .inr (.inl ⟨HR.out, rfl, rfl, rfl⟩)⟩, rfl⟩
        · have hx8 : x < 128 := by omega
          have bnd : x.toNat % 128 * 128 ^ i ≤ 9223372036854775808 := by
            have e9 : i = 9 := by omega
            have h4 : (128 : Nat) ^ 9 = 9223372036854775808 := by decide
            rw [e9, h4]; omega
          have eo := or_at N i x hN x0 (by omega) (by omega)
          by_cases hx0 : x = 0
          · subst hx0
            generalize ((N + (0 : Int).toNat % 128 * 128 ^ i : Nat) : Int) = V at eo
            clear HV hN h9 HX hl10 hx1 bnd
            go_wp2_with fail
            go_ret3
            exact ⟨⟨_, _, _, rfl, .inr (.inl ⟨HR.out, rfl, rfl, rfl⟩)⟩, rfl⟩
          · have bx : (x == 0) = false := beq_eq_false_iff_ne.2 hx0
            have big : 9223372036854775808 ≤ x.toNat % 128 * 128 ^ i := by
              have e9 : i = 9 := by omega
              have h4 : (128 : Nat) ^ 9 = 9223372036854775808 := by decide
              rw [e9, h4]; omega
            have e10 : ((i : Int) + 1) = 10 := by omega
            have H10 := Lib.hid e10
            obtain ⟨V, hV⟩ : ∃ V, V = N + x.toNat % 128 * 128 ^ i := ⟨_, rfl⟩
            rw [← hV] at eo
            have v0 : 9223372036854775808 ≤ V := by omega
            have v1 : V < 18446744073709551616 := by omega
            clear HV hN h9 HX hl10 hx0 hV bnd big e10
            go_wp2_with fail
            go_ret3
            exact ⟨⟨_, _, _, rfl, .inr (.inr ⟨HR.out, by omega, by omega, H10.out, HL10.out, rfl⟩)⟩, rfl⟩
    · obtain rfl : i = n := by omega
      have HR := Lib.hid (HV.out.none (.inr (by rw [HL.out]; exact Nat.le_refl _)))
      clear HV
      go_wp2_with fail
      go_ret3
      exact ⟨⟨_, _, _, rfl, .inr (.inl ⟨HR.out, rfl, rfl, rfl⟩)⟩, rfl⟩
end Go.Proofs.Ytcbahojefglakaa
