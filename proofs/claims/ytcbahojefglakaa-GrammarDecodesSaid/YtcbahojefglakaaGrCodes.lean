/- The walk of the law GrammarCodes. -/
import Derived.Test.YtcbahojefglakaaGrDec
import Derived.Test.YtcbahojefglakaaGrREnc
import Derived.Test.YtcbahojefglakaaGrPEnc
import Derived.Test.YtcbahojefglakaaGrSame
import Derived.Test.YtcbahojefglakaaOpenRules
namespace Go.Proofs.Ytcbahojefglakaa
set_option linter.unusedVariables false
set_option linter.unusedSimpArgs false
open Go.RowKit Go.Lib
attribute [local go_sem ↓] Go.wp_at_zero Go.wp_at_succ
theorem codes_long (n c : Nat) (A : Option Addr) (hn : 200 < n) (w : World) : Calls Try.prog 10 #[.slice A n c] w fun e w' => e = .returned (.bool true) ∧ Below w.heap.size w w' := by
  have hn2 : (200 : Int) < (n : Int) := by omega
  clear hn
  go_enter Try.func10, Try.ntmps10
  go_wp2_with fail
  go_ret
  exact ⟨rfl, Below.refl _ _⟩
theorem codes_bad (n c : Nat) (A : Option Addr) (hn : n ≤ 200) (k : Int) (hk : (k != 0) = true) (cells : List Value)
    (HR : Hid (∀ w, RowAt w A cells → Calls Try.prog 30 #[.slice A n c] w fun e w' => e = .returned (.int .i64 k) ∧ Below w.heap.size w w')) (w : World) (ha : RowAt w A cells) :
    Calls Try.prog 10 #[.slice A n c] w fun e w' => e = .returned (.bool true) ∧ Below w.heap.size w w' := by
  have hn2 : ¬ (200 : Int) < (n : Int) := by omega
  have HA := Lib.hid ha
  clear hn ha
  go_enter Try.func10, Try.ntmps10
  go_wp2_with fail
  (with_reducible refine (HR.out _ HA.out).mono ?_)
  rintro e w1 ⟨rfl, B1⟩
  have BW := Lib.hid B1
  clear B1
  go_wp2_with fail
  go_ret
  exact ⟨rfl, BW.out⟩
set_option maxRecDepth 100000 in
set_option maxHeartbeats 8000000 in
theorem codes_ok (g : List Rl) (n c N : Nat) (A : Option Addr) (hl : g.length = n) (hn : n ≤ 200) (L : List Int) (hL : L.length = N + 1) (hN : N ≤ 100000)
    (HR : Hid (∀ w, RowAt w A (gc g) → Calls Try.prog 30 #[.slice A n c] w fun e w' => e = .returned (.int .i64 0) ∧ Below w.heap.size w w'))
    (HC : Hid (∀ w, RowAt w A (gc g) → Calls Try.prog 18 #[.slice A n c] w (OwnRules w g n)))
    (HE : Hid (∀ A c w, RowAt w A (gc g) → Calls Try.prog 37 #[.slice A n c] w (OwnBytesE w L .nilIface)))
    (HRE : Hid (∀ w, RowAt w A (gc g) → Calls Try.prog 38 #[.slice A n c] w (OwnBytes w L)))
    (HD1 : Hid (∀ A c w, N + 1 ≤ c → RowAt w A (vb L) → Calls Try.prog 39 #[.slice A (N + 1) c] w (RulesOut g .nilIface w)))
    (HD2 : Hid (∀ A c w, N + 1 + 1 ≤ c → RowAt w A (vb (L ++ [0])) → Calls Try.prog 39 #[.slice A (N + 1 + 1) c] w (RulesOut [] (.iface 50 (.int .i64 4)) w)))
    (HD3 : Hid (∀ A c w, N ≤ c → RowAt w A (vb (L.take N)) → Calls Try.prog 39 #[.slice A N c] w (RulesOut [] (.iface 50 (.int .i64 4)) w)))
    (w : World) (ha : RowAt w A (gc g)) :
    Calls Try.prog 10 #[.slice A n c] w fun e w' => e = .returned (.bool true) ∧ Below w.heap.size w w' := by
  obtain ⟨i0_, hi, hz0, hz1, hz2⟩ := info_parts5 info_u8
  have HI := Lib.hid hi; have HZ := Lib.hid hz0; have HZ1 := Lib.hid hz1; have HZ2 := Lib.hid hz2
  have hn2 : ¬ (200 : Int) < (n : Int) := by omega
  have HA := Lib.hid ha; have HL := Lib.hid hl; have HLL := Lib.hid hL
  clear hn ha hl hL hi hz0 hz1 hz2
  go_enter Try.func10, Try.ntmps10
  go_wp2_with fail
  (with_reducible refine (HR.out _ HA.out).mono ?_)
  rintro e w1 ⟨rfl, B1⟩
  have BW1 := Lib.hid B1
  clear B1
  go_wp2_with fail
  (with_reducible refine (HC.out _ (HA.out.below BW1.out (Nat.le_refl _))).mono ?_)
  rintro e w2 ⟨A2, c2, rfl, own2, B2⟩
  have BW2 := Lib.hid (bkeep BW1.out B2); have HO2 := Lib.hid own2
  clear B2 own2
  go_wp2_with fail
  (with_reducible refine (HE.out _ _ _ (own_row _ HO2.out)).mono ?_)
  rintro e w3 ⟨A3, c3, rfl, own3, B3⟩
  rw [HLL.out] at own3 ⊢
  have BW3 := Lib.hid (bkeep BW2.out B3); have HO3 := Lib.hid own3
  clear B3 own3
  go_wp2_with fail
  (with_reducible refine (awake_any _).mono ?_)
  rintro e w4 ⟨rfl, B4⟩
  have BW4 := Lib.hid (bkeep BW3.out B4); have HO4 := Lib.hid (own_below HO3.out B4)
  clear B4
  go_wp2_with fail
  (with_reducible refine (HRE.out _ (HA.out.below BW4.out (Nat.le_refl _))).mono ?_)
  rintro e w5 ⟨A5, c5, rfl, own5, B5⟩
  rw [HLL.out] at own5 ⊢
  have BW5 := Lib.hid (bkeep BW4.out B5); have HO5 := Lib.hid (own_below HO4.out B5); have HP5 := Lib.hid (own_row _ own5)
  clear B5 own5
  go_wp2_with fail
  (with_reducible refine (bytes_same L (N + 1) _ _ _ _ HLL.out _ (own_row _ HO5.out) HP5.out).mono ?_)
  rintro e w6 ⟨rfl, rfl⟩
  have HM := Lib.hid (own_made w5 5 1)
  have B5a := Lib.hid (balloc BW5.out (.cells #[] 5))
  have HO5a := Lib.hid (own_alloc HO5.out (.cells #[] 5))
  go_wp2_with (refine wpList_app _ (by rfl) (.tmp 39) (.tmp 40) _ rfl w5.heap.size 5 i0_ _ 1 1 Try.underlying27 HI.out HZ.out HZ1.out HZ2.out rfl (by omega) (.slice (some ⟨w5.heap.size, 0, none⟩) 0 0) 0 [] rfl HM.out A3 (N + 1) c3 (vb L) rfl (by rw [vb_len, HLL.out]; simp) (own_row _ HO5a.out) (vb_one _) (by simp only [maxLen]; omega) (by omega) ?size ?_)
  case size => simp
  intro A6 c6 w6 own6 gr6 at6
  have B6 := Lib.hid (B5a.out.grown gr6 (by have := BW5.out.size; simp; omega) (fun k h => Nat.le_trans BW5.out.size (own_ge HM.out k h)))
  have B6' : Hid (Below w5.heap.size w5 w6) := Lib.hid ((balloc (Below.refl w5.heap.size w5) (.cells #[] 5)).grown gr6 (by simp) (own_ge HM.out))
  have HO6 := Lib.hid (own_below HO5.out B6'.out)
  have HX6 : Hid (w6.ownsRow w5.heap.size 5 1 (.slice A6 (N + 1) c6) (N + 1) (vb L)) := Lib.hid (by first | exact own6 | simpa using own6)
  try rw [Nat.zero_add]
  clear own6 gr6 at6 HO5a
  go_wp2_with fail
  (with_reducible refine (HD1.out _ _ _ (own_cap2 HX6.out) (own_row _ HX6.out)).mono ?_)
  rintro e w7 ⟨A7, c7, rfl, R7, B7⟩
  rw [HL.out]
  have BW7 := Lib.hid (bkeep B6.out B7); have HO7 := Lib.hid (own_below HO6.out B7)
  have HR7 := Lib.hid R7
  clear B7 R7
  go_wp2_with fail
  (with_reducible refine (same_any g n _ _ _ _ HL.out (by omega) _ HR7.out (HA.out.below BW7.out (Nat.le_refl _))).mono ?_)
  rintro e w8 ⟨rfl, B8⟩
  have BW8 := Lib.hid (bkeep BW7.out B8); have HO8 := Lib.hid (own_below HO7.out B8)
  clear B8
  have HM8 := Lib.hid (own_made w8 5 1)
  have HO8a := Lib.hid (own_alloc HO8.out (.cells #[] 5))
  go_wp2_with (refine wpList_app _ (by rfl) (.tmp 54) (.tmp 55) _ rfl w8.heap.size 5 i0_ _ 1 1 Try.underlying27 HI.out HZ.out HZ1.out HZ2.out rfl (by omega) (.slice (some ⟨w8.heap.size, 0, none⟩) 0 0) 0 [] rfl HM8.out A3 (N + 1) c3 (vb L) rfl (by rw [vb_len, HLL.out]; simp) (own_row _ HO8a.out) (vb_one _) (by simp only [maxLen]; omega) (by omega) ?size ?_)
  case size => simp
  intro A9 c9 w9 own9 gr9 at9
  have B9' : Hid (Below w8.heap.size w8 w9) := Lib.hid ((balloc (Below.refl w8.heap.size w8) (.cells #[] 5)).grown gr9 (by simp) (own_ge HM8.out))
  have BW9 := Lib.hid (bkeep BW8.out B9'.out)
  have HO9 := Lib.hid (own_below HO8.out B9'.out)
  have HX9 : Hid (w9.ownsRow w8.heap.size 5 1 (.slice A9 (N + 1) c9) (N + 1) (vb L)) := Lib.hid (by first | exact own9 | simpa using own9)
  try rw [Nat.zero_add]
  clear own9 gr9 at9 HO8a
  have HX9a := Lib.hid (own_alloc HX9.out (.cells #[.int .u8 0] 5))
  go_wp2_with (refine wpList_app _ (by rfl) (.tmp 56) (.tmp 57) _ rfl w8.heap.size 5 i0_ _ 1 1 Try.underlying27 HI.out HZ.out HZ1.out HZ2.out rfl (by omega) (.slice A9 (N + 1) c9) (N + 1) (vb L) rfl HX9a.out (some ⟨w9.heap.size, 0, none⟩) 1 1 (vb [0]) rfl rfl ?row (vb_one _) (by simp only [maxLen]; omega) (by omega) ?size ?_)
  case row => exact RowAt.of_block (heap_alloc_new w9 _)
  case size => have := B9'.out.size; simp; omega
  intro A10 c10 w10 own10 gr10 at10
  have B10' : Hid (Below w8.heap.size w8 w10) := Lib.hid ((B9'.out.alloc B9'.out.size _).grown gr10 (by have := B9'.out.size; simp; omega) (own_ge HX9.out))
  have BW10 := Lib.hid (bkeep BW8.out B10'.out)
  have HO10 := Lib.hid (own_below HO8.out B10'.out)
  rw [← vb_app] at own10
  have HX10 := Lib.hid own10
  clear own10 gr10 at10
  go_wp2_with fail
  (with_reducible refine (HD2.out _ _ _ (own_cap2 HX10.out) (own_row _ HX10.out)).mono ?_)
  rintro e w11 ⟨A11, c11, rfl, R11, B11⟩
  have BW11 := Lib.hid (bkeep BW10.out B11); have HO11 := Lib.hid (own_below HO10.out B11)
  clear B11 R11
  have cc := own_cap2 HO11.out
  have hs : (Instr.slice 27 (.slice A3 (N + 1) c3) none (some (.int .i64 (N : Int))) none).run Try.prog w11 = .ok (.slice A3 N c3) w11 := cut_hi A3 (N + 1) c3 N N rfl (by omega) w11
  have HT : Hid (RowAt w11 A3 (vb (L.take N))) := Lib.hid (by
    have := row_take (own_row _ HO11.out) N
    simpa [vb] using this)
  go_wp2_with fail
  clear hs
  (with_reducible refine (HD3.out _ _ _ (by omega) HT.out).mono ?_)
  rintro e w12 ⟨A12, c12, rfl, R12, B12⟩
  have BW12 := Lib.hid (bkeep BW11.out B12)
  clear B12 R12 cc
  go_wp2_with fail
  (with_reducible refine (is_yes 4 (by decide) _).mono ?_)
  rintro e w13 ⟨rfl, rfl⟩
  go_wp2_with fail
  (with_reducible refine (is_yes 4 (by decide) _).mono ?_)
  rintro e w13 ⟨rfl, rfl⟩
  go_wp2_with fail
  go_ret
  exact ⟨rfl, BW12.out⟩
theorem encFrom_le : ∀ (g : List Rl) (i : Nat), i + g.length ≤ 1000 → gcode i g = 0 → Tm g → (encFrom i g).length ≤ 21 * g.length
  | [], _, _, _, _ => by simp [encFrom]
  | r :: g, i, hi, hg, ht => by
    have hc : rc r ((i : Int) + 1) = 0 := by
      have := gcode_at (r :: g) i hg 0 r rfl
      simpa using this
    have hg2 : gcode (i + 1) g = 0 := by
      have := gcode_ok (g := List.replicate i r ++ r :: g) (i := i) (r := r) (by simp) hc
      rw [show (List.replicate i r ++ r :: g).drop i = r :: g by simp] at this
      rw [show (List.replicate i r ++ r :: g).drop (i + 1) = g by rw [← List.drop_drop]; simp] at this
      rw [← this]; exact hg
    have h1 := enc1_len (n := (i : Int) + 1) (by simp at hi; omega) (ht r List.mem_cons_self) hc
    have h2 := encFrom_le g (i + 1) (by simp at hi; omega) hg2 (fun q hq => ht q (List.mem_cons_of_mem _ hq))
    show (enc1 r (i + 1) ++ encFrom (i + 1) g).length ≤ _
    rw [List.length_append, List.length_cons]; omega
theorem encFrom_u8 : ∀ (g : List Rl) (i : Nat), (∀ r ∈ g, r.Ok) → U8s (encFrom i g)
  | [], _, _ => U8s.nil
  | r :: g, i, h => (enc_u8 r.kd r.lt r.lf r.rg r.tm _ (h r List.mem_cons_self).lt0 (h r List.mem_cons_self).lt1).app (encFrom_u8 g (i + 1) fun q hq => h q (List.mem_cons_of_mem _ hq))
theorem law_codes (g : List Rl) (n c : Nat) (A : Option Addr) (hl : g.length = n) (hok : ∀ r ∈ g, r.Ok) (w : World) (ha : RowAt w A (gc g)) :
    Calls Try.prog 10 #[.slice A n c] w fun e w' => e = .returned (.bool true) ∧ Below w.heap.size w w' := by
  by_cases hn : n ≤ 200
  · have HRC := Lib.hid fun w a => rcheck_g g n c A hl (by omega) w a
    by_cases h0 : gcode 0 g = 0
    · rw [h0] at HRC
      have ht : Tm g := fun r hr => (hok r hr).tm1
      have hu : U8s (encG g) := (vput_u8 _).app (encFrom_u8 g 0 hok)
      have hp := encG_pos g
      have hle : (encG g).length ≤ 10 + 21 * 200 := by
        have h1 := (vput_len 9 g.length (by omega)).2
        have h2 := encFrom_le g 0 (by omega) h0 ht
        unfold encG
        rw [List.length_append]; omega
      have hb := dec_back g
      have hL : (encG g).length = ((encG g).length - 1) + 1 := by omega
      refine codes_ok g n c ((encG g).length - 1) A hl hn (encG g) hL (by omega) HRC (Lib.hid fun w a => copied_own g n c A hl (by omega) w a)
        (Lib.hid fun A c w a => ?_) (Lib.hid fun w a => rencode_any g n c A hl (by omega) h0 ht w a) (Lib.hid fun A c w hc a => ?_) (Lib.hid fun A c w hc a => ?_) (Lib.hid fun A c w hc a => ?_) w ha
      · have := pencode_any g n c A hl (by omega) ht w a
        rw [h0, errv_zero] at this
        unfold encOut at this
        rw [if_pos h0] at this
        exact this
      · have := decode_any (encG g) _ c A hL (by omega) hc hu w a
        have e := hb [] (by omega) h0 ht
        rw [List.append_nil, if_pos rfl] at e
        rw [decOut_some e] at this
        exact this
      · have := decode_any (encG g ++ [0]) ((encG g).length - 1 + 1 + 1) c A (by rw [List.length_append]; simp; omega) (by omega) hc (hu.app (U8s.one (by omega) (by omega))) w a
        have e := hb [0] (by omega) h0 ht
        rw [if_neg (by simp)] at e
        rw [decOut_none e] at this
        exact this
      · have := decode_any ((encG g).take ((encG g).length - 1)) ((encG g).length - 1) c A (by rw [List.length_take]; omega) (by omega) hc (hu.take _) w a
        rw [decOut_none (dec_less g (by omega) h0 ht hu (by omega))] at this
        exact this
    · exact codes_bad n c A hn _ (by rw [bne_iff_ne]; exact h0) (gc g) HRC w ha
  · exact codes_long n c A (by omega) w
end Go.Proofs.Ytcbahojefglakaa
