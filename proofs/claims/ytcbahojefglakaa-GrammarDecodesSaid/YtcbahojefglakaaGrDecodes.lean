/- The walk of the law GrammarDecodes. -/
import Derived.Test.YtcbahojefglakaaGrCodes
import Derived.Test.YtcbahojefglakaaU8s
namespace Go.Proofs.Ytcbahojefglakaa
set_option linter.unusedVariables false
set_option linter.unusedSimpArgs false
open Go.RowKit Go.Lib
attribute [local go_sem ↓] Go.wp_at_zero Go.wp_at_succ
theorem decodes_long (n c : Nat) (A : Option Addr) (hn : 2000 < n) (w : World) : Calls Try.prog 11 #[.slice A n c] w fun e w' => e = .returned (.bool true) ∧ Below w.heap.size w w' := by
  have hn2 : (2000 : Int) < (n : Int) := by omega
  clear hn
  go_enter Try.func11, Try.ntmps11
  go_wp2_with fail
  go_ret
  exact ⟨rfl, Below.refl _ _⟩
set_option maxRecDepth 100000 in
set_option maxHeartbeats 8000000 in
theorem decodes_bad (l : List Int) (n c : Nat) (A : Option Addr) (hl : l.length = n) (hn : n ≤ 2000)
    (HD : Hid (∀ A c w, n ≤ c → RowAt w A (vb l) → Calls Try.prog 39 #[.slice A n c] w (RulesOut [] (.iface 50 (.int .i64 4)) w)))
    (w : World) (ha : RowAt w A (vb l)) : Calls Try.prog 11 #[.slice A n c] w fun e w' => e = .returned (.bool true) ∧ Below w.heap.size w w' := by
  obtain ⟨i0_, hi, hz0, hz1, hz2⟩ := info_parts5 info_u8
  have HI := Lib.hid hi; have HZ := Lib.hid hz0; have HZ1 := Lib.hid hz1; have HZ2 := Lib.hid hz2
  have hn2 : ¬ (2000 : Int) < (n : Int) := by omega
  have HM := Lib.hid (own_made w 5 1)
  have HAa := Lib.hid (ha.below (balloc (Below.refl w.heap.size w) (.cells #[] 5)) (Nat.le_refl _))
  have HL := Lib.hid hl
  clear hi hz0 hz1 hz2 ha hl
  go_enter Try.func11, Try.ntmps11
  go_wp2_with (refine wpList_app _ (by rfl) (.tmp 11) (.tmp 12) _ rfl w.heap.size 5 i0_ _ 1 1 Try.underlying27 HI.out HZ.out HZ1.out HZ2.out rfl (by omega) (.slice (some ⟨w.heap.size, 0, none⟩) 0 0) 0 [] rfl HM.out A n c (vb l) rfl (by simp [vb_len, HL.out]) HAa.out (vb_one _) (by simp only [maxLen]; omega) (by omega) ?size ?_)
  try (case size => simp)
  intro A6 c6 w6 own6 gr6 at6
  have BW6 : Hid (Below w.heap.size w w6) := Lib.hid ((balloc (Below.refl w.heap.size w) (.cells #[] 5)).grown gr6 (by simp) (own_ge HM.out))
  have HX6 : Hid (w6.ownsRow w.heap.size 5 1 (.slice A6 n c6) n (vb l)) := Lib.hid (by first | exact own6 | simpa using own6)
  try rw [Nat.zero_add]
  clear own6 gr6 at6 HAa
  go_wp2_with fail
  (with_reducible refine (HD.out _ _ _ (own_cap2 HX6.out) (own_row _ HX6.out)).mono ?_)
  rintro e w7 ⟨A7, c7, rfl, R7, B7⟩
  have BW7 := Lib.hid (bkeep BW6.out B7)
  clear B7 R7
  go_wp2_with fail
  (with_reducible refine (awake_any _).mono ?_)
  rintro e w8 ⟨rfl, B8⟩
  have BW8 := Lib.hid (bkeep BW7.out B8)
  clear B8
  go_wp2_with fail
  (with_reducible refine (is_yes 4 (by decide) _).mono ?_)
  rintro e w9 ⟨rfl, rfl⟩
  go_wp2_with fail
  go_ret
  exact ⟨rfl, BW8.out⟩
set_option maxRecDepth 100000 in
set_option maxHeartbeats 8000000 in
theorem decodes_ok (l : List Int) (n c m : Nat) (A : Option Addr) (hl : l.length = n) (hn : n ≤ 2000) (g : List Rl) (hg : g.length = m)
    (HD : Hid (∀ A c w, n ≤ c → RowAt w A (vb l) → Calls Try.prog 39 #[.slice A n c] w (RulesOut g .nilIface w)))
    (HE : Hid (∀ A c w, RowAt w A (gc g) → Calls Try.prog 37 #[.slice A m c] w (OwnBytesE w l .nilIface)))
    (HR : Hid (∀ A c w, RowAt w A (gc g) → Calls Try.prog 30 #[.slice A m c] w fun e w' => e = .returned (.int .i64 0) ∧ Below w.heap.size w w'))
    (w : World) (ha : RowAt w A (vb l)) : Calls Try.prog 11 #[.slice A n c] w fun e w' => e = .returned (.bool true) ∧ Below w.heap.size w w' := by
  obtain ⟨i0_, hi, hz0, hz1, hz2⟩ := info_parts5 info_u8
  have HI := Lib.hid hi; have HZ := Lib.hid hz0; have HZ1 := Lib.hid hz1; have HZ2 := Lib.hid hz2
  have hn2 : ¬ (2000 : Int) < (n : Int) := by omega
  have HM := Lib.hid (own_made w 5 1)
  have HA := Lib.hid ha
  have HAa := Lib.hid (ha.below (balloc (Below.refl w.heap.size w) (.cells #[] 5)) (Nat.le_refl _))
  have HL := Lib.hid hl; have HG := Lib.hid hg
  clear hi hz0 hz1 hz2 ha hl hg
  go_enter Try.func11, Try.ntmps11
  go_wp2_with (refine wpList_app _ (by rfl) (.tmp 11) (.tmp 12) _ rfl w.heap.size 5 i0_ _ 1 1 Try.underlying27 HI.out HZ.out HZ1.out HZ2.out rfl (by omega) (.slice (some ⟨w.heap.size, 0, none⟩) 0 0) 0 [] rfl HM.out A n c (vb l) rfl (by simp [vb_len, HL.out]) HAa.out (vb_one _) (by simp only [maxLen]; omega) (by omega) ?size ?_)
  try (case size => simp)
  intro A6 c6 w6 own6 gr6 at6
  have BW6 : Hid (Below w.heap.size w w6) := Lib.hid ((balloc (Below.refl w.heap.size w) (.cells #[] 5)).grown gr6 (by simp) (own_ge HM.out))
  have HX6 : Hid (w6.ownsRow w.heap.size 5 1 (.slice A6 n c6) n (vb l)) := Lib.hid (by first | exact own6 | simpa using own6)
  try rw [Nat.zero_add]
  clear own6 gr6 at6 HAa
  go_wp2_with fail
  (with_reducible refine (HD.out _ _ _ (own_cap2 HX6.out) (own_row _ HX6.out)).mono ?_)
  rintro e w7 ⟨A7, c7, rfl, R7, B7⟩
  rw [HG.out]
  have BW7 := Lib.hid (bkeep BW6.out B7); have HR7 := Lib.hid R7
  clear B7 R7
  go_wp2_with fail
  (with_reducible refine (awake_any _).mono ?_)
  rintro e w8 ⟨rfl, B8⟩
  have BW8 := Lib.hid (bkeep BW7.out B8); have HR8 := Lib.hid (HR7.out.below B8 (Nat.le_refl _))
  clear B8
  go_wp2_with fail
  (with_reducible refine (HE.out _ _ _ HR8.out).mono ?_)
  rintro e w9 ⟨A9, c9, rfl, own9, B9⟩
  rw [HL.out] at own9 ⊢
  have BW9 := Lib.hid (bkeep BW8.out B9); have HR9 := Lib.hid (HR8.out.below B9 (Nat.le_refl _)); have HX9 := Lib.hid (own_row _ own9)
  clear B9 own9
  go_wp2_with fail
  (with_reducible refine (HR.out _ _ _ HR9.out).mono ?_)
  rintro e w10 ⟨rfl, B10⟩
  have BW10 := Lib.hid (bkeep BW9.out B10); have HX10 := Lib.hid (HX9.out.below B10 (Nat.le_refl _))
  clear B10
  go_wp2_with fail
  (with_reducible refine (bytes_same l n _ _ _ _ HL.out _ HX10.out (HA.out.below BW10.out (Nat.le_refl _))).mono ?_)
  rintro e w11 ⟨rfl, rfl⟩
  go_wp2_with fail
  go_ret
  exact ⟨rfl, BW10.out⟩
theorem law_decodes (l : List Int) (n c : Nat) (A : Option Addr) (hl : l.length = n) (hb : U8s l) (w : World) (ha : RowAt w A (vb l)) :
    Calls Try.prog 11 #[.slice A n c] w fun e w' => e = .returned (.bool true) ∧ Below w.heap.size w w' := by
  by_cases hn : n ≤ 2000
  · have HD := fun A c w (hc : n ≤ c) a => decode_any l n c A hl (by omega) hc hb w a
    cases h : decG l with
    | none => rw [decOut_none h] at HD; exact decodes_bad l n c A hl hn (Lib.hid HD) w ha
    | some g =>
      rw [decOut_some h] at HD
      obtain ⟨h0, ht, he, hle⟩ := dec_only l g hb h
      refine decodes_ok l n c g.length A hl hn g rfl (Lib.hid HD) (Lib.hid fun A c w a => ?_) (Lib.hid fun A c w a => ?_) w ha
      · have := pencode_any g g.length c A rfl (by omega) ht w a
        rw [h0, errv_zero] at this
        unfold encOut at this
        rw [if_pos h0, he] at this
        exact this
      · have := rcheck_g g g.length c A rfl (by omega) w a
        rw [h0] at this
        exact this
  · exact decodes_long n c A (by omega) w
end Go.Proofs.Ytcbahojefglakaa
