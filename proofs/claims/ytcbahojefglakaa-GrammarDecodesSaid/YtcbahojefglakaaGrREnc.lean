/- The walk of evergreenref11.Encode. -/
import Derived.Test.YtcbahojefglakaaGrEnc
namespace Go.Proofs.Ytcbahojefglakaa
set_option linter.unusedVariables false
set_option linter.unusedSimpArgs false
open Go.RowKit Go.Lib
attribute [local go_sem ↓] Go.wp_at_zero Go.wp_at_succ
theorem encG_start (g : List Rl) : vput g.length ++ encFrom 0 (g.drop 0) = encG g := rfl
set_option maxRecDepth 100000 in
set_option maxHeartbeats 8000000 in
theorem rencode_any (g : List Rl) (n c : Nat) (A : Option Addr) (hl : g.length = n) (hn : n ≤ 100000) (hg : gcode 0 g = 0) (ht : Tm g) (w : World) (ha : RowAt w A (gc g)) :
    Calls Try.prog 38 #[.slice A n c] w (OwnBytes w (encG g)) := by
  obtain ⟨L, hL⟩ : ∃ L, L = encG g := ⟨_, rfl⟩
  rw [← hL]
  obtain ⟨i0_, hi, hz0, hz1, hz2⟩ := info_parts5 info_u8
  have HI := Lib.hid hi; have HZ := Lib.hid hz0; have HZ1 := Lib.hid hz1; have HZ2 := Lib.hid hz2
  have HV := Lib.hid (fun w => gvput_own n (by omega) w)
  have hvl := (vput_len 9 n (by omega)).2
  obtain ⟨V, hV⟩ : ∃ V, V = vput n := ⟨_, rfl⟩
  have HS : Hid (V ++ encFrom 0 (g.drop 0) = L) := Lib.hid (by rw [hV, hL, ← hl]; rfl)
  rw [← hV] at HV hvl
  have HA := Lib.hid ha; have HL := Lib.hid hl; have H0 := Lib.hid hg; have HT := Lib.hid ht
  clear ha hl hg hi hz0 hz1 hz2 hL hV ht
  go_enter Try.func38, Try.ntmps38
  go_wp2_with fail
  (with_reducible refine (HV.out _).mono ?_)
  rintro e w1 ⟨A1, c1, rfl, own1, B1⟩
  have HO1 := Lib.hid own1; have BW1 := Lib.hid B1
  clear own1 B1
  go_wp2_with fail
  go_loopw [3, 4] (fun so si wr => ∃ (i m : Nat) (pre : List Int) (A1 : Option Addr) (c1 : Nat), si = .int .i64 (i : Int) ∧ i ≤ n ∧ m ≤ 10 + 21 * i ∧ so = .slice A1 m c1 ∧ Hid (pre.length = m ∧ pre ++ encFrom i (g.drop i) = L) ∧ Hid (wr.ownsRow w.heap.size 5 1 (.slice A1 m c1) m (vb pre)) ∧ Hid (Below w.heap.size w wr)) (fun _ si _ => n - (intOf si).toNat)
  case atStart => exact ⟨0, V.length, V, A1, c1, rfl, by omega, by omega, rfl, Lib.hid ⟨rfl, HS.out⟩, HO1, BW1⟩
  case round =>
    obtain ⟨i, m, pre, A1, c1, rfl, hi, hm, rfl, HG, HO, BW⟩ := hrel
    by_cases hlt : i < n
    · have hil : i < g.length := by rw [HL.out]; exact hlt
      obtain ⟨r, hr⟩ : ∃ r, g[i]? = some r := ⟨_, List.getElem?_eq_getElem hil⟩
      have hc : rc r ((i : Int) + 1) = 0 := by
        have := gcode_at g 0 H0.out i r hr
        simpa using this
      have t1 := HT.out r (List.mem_of_getElem? hr)
      have he := enc1_len (n := (i : Int) + 1) (by omega) t1 hc
      have HR := Lib.hid hr
      obtain ⟨ad, rfl, hadl, c0, c1_, c2, c3, c4⟩ := row_rl (HA.out.below BW.out (Nat.le_refl _)) hr
      obtain ⟨E, hE⟩ : ∃ E, E = enc1 r ((i : Int) + 1) := ⟨_, rfl⟩
      have HP : Hid (∀ w, Calls Try.prog 56 #[r.val, .int .i64 ((i : Int) + 1)] w (SliceOut w E.length (vb E))) := Lib.hid (fun w => by rw [hE]; exact gput_valid r.kd r.lt r.lf r.rg r.tm _ (by omega) (by omega) t1 hc w)
      have HE : Hid (encFrom i (g.drop i) = E ++ encFrom (i + 1) (g.drop (i + 1))) := Lib.hid (by rw [hE]; exact encFrom_at hr)
      rw [← hE] at he
      obtain ⟨kd, lt, lf, rg, tm⟩ := r
      simp only at c0 c1_ c2 c3 c4
      have i0 : (0 : Int) ≤ i := by omega
      have i1 : (i : Int) < (n : Int) := by omega
      clear hr hE hc t1
      go_wp2_with fail
      (with_reducible refine (HP.out _).mono ?_)
      rintro e w2 ⟨Ap, cp, rfl, Rp, Bp⟩
      have HOb := Lib.hid (own_below HO.out Bp)
      have BWb := Lib.hid (bkeep BW.out Bp)
      have HRp := Lib.hid Rp
      clear Bp Rp
      go_wp2_with (refine wpList_app _ (by rfl) (.tmp 15) (.tmp 22) _ rfl w.heap.size 5 i0_ _ 1 1 Try.underlying27 HI.out HZ.out HZ1.out HZ2.out rfl (by omega) (.slice A1 m c1) m (vb pre) rfl HOb.out Ap E.length cp (vb E) rfl (by simp [vb]) HRp.out (vb_one _) (by simp only [maxLen]; omega) (by omega) ?size ?_)
      case size => exact BWb.out.size
      intro A3 c3 w3 own3 gr3 at3
      have B3 := Lib.hid (BWb.out.grown gr3 BWb.out.size (own_ge HOb.out))
      rw [← vb_app] at own3
      have HO3 := Lib.hid own3
      have HG2 : Hid ((pre ++ E).length = m + E.length ∧ (pre ++ E) ++ encFrom (i + 1) (g.drop (i + 1)) = L) := Lib.hid ⟨by rw [List.length_append, HG.out.1], by
        rw [List.append_assoc, ← HE.out]; exact HG.out.2⟩
      clear own3 gr3 at3
      go_wp2_with fail
      go_roundw
      case rel => exact ⟨i + 1, m + E.length, pre ++ E, A3, c3, by go_num, by omega, by omega, rfl, HG2, HO3, B3⟩
      case measure => simp [intOf]; omega
    · obtain rfl : i = n := by omega
      have HG2 : Hid (pre = L ∧ L.length = m) := Lib.hid (by
        obtain ⟨h1, h2⟩ := HG.out
        rw [encFrom_end (by rw [HL.out]; exact Nat.le_refl _), List.append_nil] at h2
        exact ⟨h2, by rw [← h2]; exact h1⟩)
      go_wp2_with fail
      go_ret
      exact ⟨A1, c1, by rw [HG2.out.2]; rfl, by rw [HG2.out.2, ← HG2.out.1]; exact HO.out, BW.out⟩
end Go.Proofs.Ytcbahojefglakaa
