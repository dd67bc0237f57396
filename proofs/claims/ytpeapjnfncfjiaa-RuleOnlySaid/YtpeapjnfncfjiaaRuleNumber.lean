/- The walk of evergreenref09.Number. -/
import Derived.Test.YtpeapjnfncfjiaaRulePutPlain
namespace Go.Proofs.Ytpeapjnfncfjiaa
set_option linter.unusedVariables false
set_option linter.unusedSimpArgs false
open Go.RowKit Go.Lib
set_option maxHeartbeats 1000000 in
theorem number_any (N : Nat) : N < 18446744073709551616 → ∀ w, Calls Try.prog 38 #[.int .u64 (N : Int)] w (SliceOut w (vput N).length (vb (vput N))) := by
  induction N using Nat.strongRecOn with
  | _ N ih =>
    intro hN w
    obtain ⟨i0_, hi, hz0, hz1, hz2⟩ := info_parts5 info_u8
    have HI := Lib.hid hi; have HZ := Lib.hid hz0; have HZ1 := Lib.hid hz1; have HZ2 := Lib.hid hz2
    clear hi hz0 hz1 hz2
    have HIH := Lib.hid ih
    clear ih
    by_cases h : N < 128
    · have hv := vput_lt h
      have HV := Lib.hid hv
      have hN1 : (N : Int) < 128 := by omega
      obtain ⟨L, hL⟩ : ∃ L, L = vput N := ⟨_, rfl⟩
      rw [← hL] at HV ⊢
      clear hv hL
      go_enter Try.func38, Try.ntmps38
      go_wp2_with fail
      go_ret
      rw [HV.out]
      exact ⟨_, _, rfl, RowAt.new _ _ _ (by simp) rfl, (Below.refl _ _).alloc (Nat.le_refl _) _⟩
    · have hN1 : ¬ (N : Int) < 128 := by omega
      have hl := (vput_len 9 (N / 128) (Nat.lt_of_le_of_lt (Nat.div_le_self _ _) (Nat.lt_of_lt_of_le hN (by decide)))).2
      have HR := Lib.hid (HIH.out (N / 128) (by omega) (by omega))
      have HV := Lib.hid (vput_ge h)
      obtain ⟨L, hL⟩ : ∃ L, L = vput N := ⟨_, rfl⟩
      obtain ⟨M, hM⟩ : ∃ M, M = vput (N / 128) := ⟨_, rfl⟩
      rw [← hL] at HV ⊢
      rw [← hM] at HR HV hl
      have e1 : (((N % 128 + 128 : Nat)) : Int) = (N : Int) % 128 + 128 := by omega
      rw [e1] at HV
      have e2 : (((N / 128 : Nat)) : Int) = (N : Int) / 128 := by omega
      rw [e2] at HR
      clear hL hM HIH e1 e2 h
      have HO := Lib.hid (own_lit w [(N : Int) % 128 + 128] (by simp [maxLen]))
      have BX := Lib.hid (balloc (Below.refl w.heap.size w) (.cells #[.int .u8 ((N : Int) % 128 + 128)] 5))
      go_enter Try.func38, Try.ntmps38
      go_wp2_with fail
      (with_reducible refine (HR.out _).mono ?_)
      rintro e w1 ⟨Ap, cp, rfl, Rp, Bp⟩
      have HOb := Lib.hid (own_below HO.out Bp)
      have BXb := Lib.hid (bkeep BX.out Bp)
      have HRp := Lib.hid Rp
      clear Rp Bp
      go_wp2_with (refine wpList_app _ (by rfl) (.tmp 12) (.tmp 15) _ rfl (w.heap.size) 5 i0_ _ 1 1 Try.underlying45 HI.out HZ.out HZ1.out HZ2.out rfl (by omega) (.slice (some ⟨w.heap.size, 0, none⟩) 1 1) 1 (vb [(N : Int) % 128 + 128]) rfl HOb.out Ap M.length cp (vb M) rfl (by simp [vb]) HRp.out (vb_one _) (by simp only [maxLen]; omega) (by omega) ?size ?_)
      case size => exact BXb.out.size
      intro A3 c3 w3 own3 gr3 at3
      have B3 := Lib.hid (BXb.out.grown gr3 BXb.out.size (own_ge HOb.out))
      rw [← vb_app] at own3
      have HO3 := Lib.hid own3
      clear own3 gr3 at3
      go_wp2_with fail
      go_ret
      have R3 := own_row _ HO3.out
      exact ⟨A3, c3, by rw [HV.out, List.length_cons, Nat.add_comm]; rfl, by rw [HV.out]; exact R3, B3.out⟩
theorem number_i (x : Int) (h0 : 0 ≤ x) (h1 : x < 18446744073709551616) (w : World) : Calls Try.prog 38 #[.int .u64 x] w (SliceOut w (vput x.toNat).length (vb (vput x.toNat))) := by
  have := number_any x.toNat (by omega) w
  rwa [Int.toNat_of_nonneg h0] at this
end Go.Proofs.Ytpeapjnfncfjiaa
