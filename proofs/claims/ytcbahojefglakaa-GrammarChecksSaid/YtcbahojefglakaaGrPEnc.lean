/- The walk of grammar.Encode. -/
import Derived.Test.YtcbahojefglakaaGrEnc
namespace Go.Proofs.Ytcbahojefglakaa
set_option linter.unusedVariables false
set_option linter.unusedSimpArgs false
open Go.RowKit Go.Lib
attribute [local go_sem ↓] Go.wp_at_zero Go.wp_at_succ
/-- what hands back bytes of the call's own and an error -/
def OwnBytesE (w : World) (l : List Int) (er : Value) (e : Ending) (w' : World) : Prop := ∃ A c, e = .returned (.tuple #[.slice A l.length c, er]) ∧ w'.ownsRow w.heap.size 5 1 (.slice A l.length c) l.length (vb l) ∧ Below w.heap.size w w'
theorem own_none (w : World) (b : Nat) : w.ownsRow b 5 1 (.slice none 0 0) 0 (vb []) := ⟨by simp [vb], .inl ⟨rfl, rfl⟩⟩
def sel0 (K : Int) (L : List Int) : List Int := if K = 0 then L else []
theorem sel0_yes {K : Int} {L : List Int} (h : K = 0) : sel0 K L = L := if_pos h
theorem sel0_no {K : Int} {L : List Int} (h : K ≠ 0) : sel0 K L = [] := if_neg h
def encOut (g : List Rl) : List Int := if gcode 0 g = 0 then encG g else []
set_option maxRecDepth 100000 in
set_option maxHeartbeats 8000000 in
theorem pencode_any (g : List Rl) (n c : Nat) (A : Option Addr) (hl : g.length = n) (hn : n ≤ 100000) (ht : Tm g) (w : World) (ha : RowAt w A (gc g)) :
    Calls Try.prog 37 #[.slice A n c] w (OwnBytesE w (encOut g) (errv (gcode 0 g))) := by
  obtain ⟨L, hL⟩ : ∃ L, L = encG g := ⟨_, rfl⟩
  obtain ⟨K, hK⟩ : ∃ K, K = gcode 0 g := ⟨_, rfl⟩
  have hO : encOut g = sel0 K L := by rw [hK, hL]; rfl
  rw [hO, ← hK]
  clear hO
  obtain ⟨i0_, hi, hz0, hz1, hz2⟩ := info_parts5 info_u8
  have HI := Lib.hid hi; have HZ := Lib.hid hz0; have HZ1 := Lib.hid hz1; have HZ2 := Lib.hid hz2
  have HV := Lib.hid (fun w => vput_own n (by omega) w)
  have hvl := (vput_len 9 n (by omega)).2
  obtain ⟨V, hV⟩ : ∃ V, V = vput n := ⟨_, rfl⟩
  have HS : Hid (V ++ encFrom 0 (g.drop 0) = L) := Lib.hid (by rw [hV, hL, ← hl]; rfl)
  rw [← hV] at HV hvl
  have HA := Lib.hid ha; have HL := Lib.hid hl; have H0 : Hid (gcode 0 (g.drop 0) = K) := Lib.hid hK.symm; have HT := Lib.hid ht
  clear ha hl hi hz0 hz1 hz2 hL hV ht hK
  go_enter Try.func37, Try.ntmps37
  go_wp2_with fail
  (with_reducible refine (HV.out _).mono ?_)
  rintro e w1 ⟨A1, c1, rfl, own1, B1⟩
  have HO1 := Lib.hid own1; have BW1 := Lib.hid B1
  clear own1 B1
  go_wp2_with fail
  go_loopw [4, 5, 6, 7, 8, 15] (fun so _ _ _ _ si wr => ∃ (i m : Nat) (pre : List Int) (A1 : Option Addr) (c1 : Nat), si = .int .i64 (i : Int) ∧ i ≤ n ∧ m ≤ 10 + 21 * i ∧ so = .slice A1 m c1 ∧ Hid (pre.length = m ∧ pre ++ encFrom i (g.drop i) = L) ∧ Hid (gcode i (g.drop i) = K) ∧ Hid (wr.ownsRow w.heap.size 5 1 (.slice A1 m c1) m (vb pre)) ∧ Hid (Below w.heap.size w wr)) (fun _ _ _ _ _ si _ => n - (intOf si).toNat)
  case atStart => exact ⟨0, V.length, V, A1, c1, rfl, by omega, by omega, rfl, Lib.hid ⟨rfl, HS.out⟩, H0, HO1, BW1⟩
  case round =>
    obtain ⟨i, m, pre, A1, c1, rfl, hi, hm, rfl, HG, HK, HO, BW⟩ := hrel
    by_cases hlt : i < n
    · have hil : i < g.length := by rw [HL.out]; exact hlt
      obtain ⟨r, hr⟩ : ∃ r, g[i]? = some r := ⟨_, List.getElem?_eq_getElem hil⟩
      have t1 := HT.out r (List.mem_of_getElem? hr)
      have HR := Lib.hid hr
      obtain ⟨ad, rfl, hadl, c0, c1_, c2, c3, c4⟩ := row_rl (HA.out.below BW.out (Nat.le_refl _)) hr
      have i0 : (0 : Int) ≤ i := by omega
      have i1 : (i : Int) < (n : Int) := by omega
      by_cases hc : rc r ((i : Int) + 1) = 0
      · have he := enc1_len (n := (i : Int) + 1) (by omega) t1 hc
        obtain ⟨E, hE⟩ : ∃ E, E = enc1 r ((i : Int) + 1) := ⟨_, rfl⟩
        have HP : Hid (∀ w, Calls Try.prog 54 #[r.val, .int .i64 ((i : Int) + 1)] w (BytesOut E .nilIface w)) := Lib.hid (fun w => by rw [hE]; exact put_valid r.kd r.lt r.lf r.rg r.tm _ (by omega) (by omega) t1 hc w)
        have HE : Hid (encFrom i (g.drop i) = E ++ encFrom (i + 1) (g.drop (i + 1))) := Lib.hid (by rw [hE]; exact encFrom_at hr)
        have HK2 : Hid (gcode (i + 1) (g.drop (i + 1)) = K) := Lib.hid ((gcode_ok hr hc).symm.trans HK.out)
        rw [← hE] at he
        obtain ⟨kd, lt, lf, rg, tm⟩ := r
        simp only at c0 c1_ c2 c3 c4
        have HOx := Lib.hid (own_alloc HO.out (.cells #[.int .i64 kd, .int .u8 lt, .int .i64 lf, .int .i64 rg, .int .i64 tm] 46))
        have BWx := Lib.hid (balloc BW.out (.cells #[.int .i64 kd, .int .u8 lt, .int .i64 lf, .int .i64 rg, .int .i64 tm] 46))
        clear hr hE hc t1
        go_wp2_with fail
        (with_reducible refine (HP.out _).mono ?_)
        rintro e w2 ⟨Ap, cp, rfl, Rp, Bp⟩
        have HOb := Lib.hid (own_below HOx.out Bp)
        have BWb := Lib.hid (bkeep BWx.out Bp)
        have HRp := Lib.hid Rp
        clear Bp Rp
        go_wp2_with (refine wpList_app _ (by rfl) (.tmp 30) (.tmp 31) _ rfl w.heap.size 5 i0_ _ 1 1 Try.underlying27 HI.out HZ.out HZ1.out HZ2.out rfl (by omega) (.slice A1 m c1) m (vb pre) rfl HOb.out Ap E.length cp (vb E) rfl (by simp [vb]) HRp.out (vb_one _) (by simp only [maxLen]; omega) (by omega) ?size ?_)
        case size => exact BWb.out.size
        intro A3 c3 w3 own3 gr3 at3
        have B3 := Lib.hid (BWb.out.grown gr3 BWb.out.size (own_ge HOb.out))
        rw [← vb_app] at own3
        have HO3 := Lib.hid own3
        have HG2 : Hid ((pre ++ E).length = m + E.length ∧ (pre ++ E) ++ encFrom (i + 1) (g.drop (i + 1)) = L) := Lib.hid ⟨by rw [List.length_append, HG.out.1], by
          rw [List.append_assoc, ← HE.out]; exact HG.out.2⟩
        clear own3 gr3 at3
        go_wp2_with fail
        go_roundw
        case rel => exact ⟨i + 1, m + E.length, pre ++ E, A3, c3, by go_num, by omega, by omega, rfl, HG2, HK2, HO3, B3⟩
        case measure => simp [intOf]; omega
      · obtain ⟨k, hk⟩ : ∃ k, k = rc r ((i : Int) + 1) := ⟨_, rfl⟩
        have HP : Hid (∀ w, Calls Try.prog 54 #[r.val, .int .i64 ((i : Int) + 1)] w fun e w' => e = .returned (.tuple #[.slice none 0 0, errv k]) ∧ Below w.heap.size w w') := Lib.hid (fun w => by rw [hk]; exact put_bad r.kd r.lt r.lf r.rg r.tm _ (by omega) (by omega) hc w)
        have HK2 : Hid (K = k ∧ k ≠ 0) := Lib.hid ⟨by rw [hk]; exact HK.out.symm.trans (gcode_bad hr hc), by rw [hk]; exact hc⟩
        have k0 : k ≠ 0 := HK2.out.2
        rw [errv_pos k k0] at HP
        obtain ⟨kd, lt, lf, rg, tm⟩ := r
        simp only at c0 c1_ c2 c3 c4
        have BWx := Lib.hid (balloc BW.out (.cells #[.int .i64 kd, .int .u8 lt, .int .i64 lf, .int .i64 rg, .int .i64 tm] 46))
        clear hr hk hc t1 k0
        go_wp2_with fail
        (with_reducible refine (HP.out _).mono ?_)
        rintro e w2 ⟨rfl, Bp⟩
        have BWb := Lib.hid (bkeep BWx.out Bp)
        clear Bp
        go_wp2_with fail
        go_ret2
        refine ⟨none, 0, ?_, ?_, BWb.out⟩
        · rw [HK2.out.1, sel0_no HK2.out.2, errv_pos k HK2.out.2]; rfl
        · rw [HK2.out.1, sel0_no HK2.out.2]; exact own_none _ _
    · obtain rfl : i = n := by omega
      have HG2 : Hid (pre = L ∧ L.length = m ∧ K = 0) := Lib.hid (by
        obtain ⟨h1, h2⟩ := HG.out
        have h3 := HK.out
        rw [encFrom_end (by rw [HL.out]; exact Nat.le_refl _), List.append_nil] at h2
        rw [gcode_end (by rw [HL.out]; exact Nat.le_refl _)] at h3
        exact ⟨h2, by rw [← h2]; exact h1, h3.symm⟩)
      go_wp2_with fail
      go_ret2
      refine ⟨A1, c1, ?_, ?_, BW.out⟩
      · rw [HG2.out.2.2, sel0_yes rfl, HG2.out.2.1]; rfl
      · rw [HG2.out.2.2, sel0_yes rfl, HG2.out.2.1, ← HG2.out.1]; exact HO.out
end Go.Proofs.Ytcbahojefglakaa
