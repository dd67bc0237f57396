/- The walk of the law GrammarTexts. -/
import Derived.Test.YtcbahojefglakaaGrTextW
import Derived.Test.YtcbahojefglakaaU8s
import Derived.Test.YtcbahojefglakaaSameBytes
import Derived.Laws.CopyOwn
namespace Go.Proofs.Ytcbahojefglakaa
set_option linter.unusedVariables false
set_option linter.unusedSimpArgs false
open Go.RowKit Go.Lib
attribute [local go_sem ↓] Go.wp_at_zero Go.wp_at_succ
theorem mk_u8n (h : Nat) (hn : h ≤ 1000000) (c : Int) (hc : c = (h : Int)) (w : World) : (Instr.makeSlice 27 (.int .i64 c) (.int .i64 c)).run Try.prog w = .ok (.slice (some ⟨w.heap.size, 0, none⟩) h h) (w.alloc (.cells (vb (List.replicate h 0)).toArray 5)) := by
  obtain ⟨i0_, hi, hz0, hz1, hz2⟩ := info_parts5 info_u8
  subst hc
  have h' := run_makeSlice (P := Try.prog) w 27 5 i0_ _ Try.underlying27 hi hz0 .i64 .i64 h h (by omega) (by omega) (by rw [hz1]; omega) (by rw [hz2]; omega) (by omega)
  rw [h', hz1]
  have e := made_one (.int .u8 0) rfl h
  simp only [Int.toNat_natCast]
  rw [e]
  simp [vb]
theorem texts_long (n c : Nat) (A : Option Addr) (more : Bool) (hn : 3000 < n) (w : World) : Calls Try.prog 6 #[.slice A n c, .bool more] w fun e w' => e = .returned (.bool true) ∧ Below w.heap.size w w' := by
  have hn2 : (3000 : Int) < (n : Int) := by omega
  clear hn
  go_enter Try.func6, Try.ntmps6
  go_wp2_with fail
  go_ret
  exact ⟨rfl, Below.refl _ _⟩
set_option maxRecDepth 100000 in
set_option maxHeartbeats 8000000 in
theorem texts_more (l : List Int) (n c N : Nat) (A : Option Addr) (hl : l.length = n) (hn : n ≤ 3000) (hN : N = 65537) (w : World) (ha : RowAt w A (vb l)) : Calls Try.prog 6 #[.slice A n c, .bool true] w fun e w' => e = .returned (.bool true) ∧ Below w.heap.size w w' := by
  have hn2 : ¬ (3000 : Int) < (n : Int) := by omega
  have HT := Lib.hid (fun A c w => text_large N c A (by omega) w)
  have mk := mk_u8n N (by omega) 65537 (by omega)
  have HA := Lib.hid ha; have HL := Lib.hid hl; have HN := Lib.hid hN
  have hi8 : (Try.prog.info? 5).map (·.size) = some 1 := by kernel_rfl
  have HI8 := Lib.hid hi8
  clear ha hl hN hi8
  go_enter Try.func6, Try.ntmps6
  go_upto_region 5 with fail
  clear mk
  have hcn : (vb l).length = Nat.min n N := by rw [vb_len, HL.out]; exact (Nat.min_eq_left (by have := HN.out; omega)).symm
  have hfit : 0 + (vb l).length ≤ (vb (List.replicate N 0)).length := by rw [vb_len, vb_len, List.length_replicate, HL.out]; have := HN.out; omega
  have hpos : 0 < (vb l).length → (some (⟨w.heap.size, 0, none⟩ : Addr)) = some ⟨w.heap.size, 0, none⟩ ∧ ∃ ad, A = some ad ∧ ∀ j v, (vb l)[j]? = some v → (w.alloc (.cells (vb (List.replicate N 0)).toArray 5)).cell? (ad.add j) = some v := by
    intro h
    refine ⟨rfl, ?_⟩
    obtain ⟨ad, hA, _, _⟩ := HA.out.get (List.getElem?_eq_getElem h)
    refine ⟨ad, hA, fun j v hj => ?_⟩
    obtain ⟨ad2, hA2, _, h2⟩ := (HA.out.below (balloc (Below.refl w.heap.size w) (.cells (vb (List.replicate N 0)).toArray 5)) (Nat.le_refl _)).get hj
    rw [hA] at hA2
    injection hA2 with hA2
    rw [hA2]; exact h2
  have HCN := Lib.hid hcn; have HFIT := Lib.hid hfit; have HPOS := Lib.hid hpos
  have HBX := Lib.hid (Box.new w 5 (vb (List.replicate N 0)).toArray)
  have HBL := Lib.hid (balloc (Below.refl w.heap.size w) (.cells (vb (List.replicate N 0)).toArray 5))
  clear hcn hfit hpos
  go_wp2_with (refine wpList_copy_splice rfl (.tmp 17) (.tmp 18) _ _ rfl 5 Try.underlying27 HI8.out (some ⟨w.heap.size, 0, none⟩) A N N n c rfl rfl w.heap.size 0 (vb (List.replicate N 0)) 5 HBX.out (vb l) HCN.out HPOS.out HFIT.out (vb_one _) w.heap.size w HBL.out (Nat.le_refl _) ?_)
  intro w2 hx2 B2
  have BW2 := Lib.hid B2
  clear hx2 B2
  go_wp2_with fail
  (with_reducible refine (HT.out _ _ _).mono ?_)
  rintro e w7 ⟨A7, c7, rfl, R7, B7⟩
  have BW7 := Lib.hid (bkeep BW2.out B7)
  clear B7 R7
  go_wp2_with fail
  (with_reducible refine (awake_any _).mono ?_)
  rintro e w8 ⟨rfl, B8⟩
  have BW8 := Lib.hid (bkeep BW7.out B8)
  clear B8
  go_wp2_with fail
  (with_reducible refine (is_yes 9 (by decide) _).mono ?_)
  rintro e w9 ⟨rfl, rfl⟩
  go_wp2_with fail
  go_ret
  exact ⟨rfl, BW8.out⟩
set_option maxRecDepth 100000 in
set_option maxHeartbeats 8000000 in
theorem texts_main (l : List Int) (n c : Nat) (A : Option Addr) (hl : l.length = n) (hn : n ≤ 3000) (hb : U8s l) (w : World) (ha : RowAt w A (vb l)) : Calls Try.prog 6 #[.slice A n c, .bool false] w fun e w' => e = .returned (.bool true) ∧ Below w.heap.size w w' := by
  obtain ⟨i0_, hi, hz0, hz1, hz2⟩ := info_parts5 info_u8
  have HI := Lib.hid hi; have HZ := Lib.hid hz0; have HZ1 := Lib.hid hz1; have HZ2 := Lib.hid hz2
  have hn2 : ¬ (3000 : Int) < (n : Int) := by omega
  have HM := Lib.hid (own_made w 5 1)
  have HA := Lib.hid ha
  have HAa := Lib.hid (ha.below (balloc (Below.refl w.heap.size w) (.cells #[] 5)) (Nat.le_refl _))
  have HL := Lib.hid hl
  have HT := Lib.hid (fun A c w a => text_any l n c A hl (by omega) hb w a)
  clear hi hz0 hz1 hz2 ha hl
  go_enter Try.func6, Try.ntmps6
  go_wp2_with (refine wpList_app _ (by rfl) (.tmp 36) (.tmp 37) _ rfl w.heap.size 5 i0_ _ 1 1 Try.underlying27 HI.out HZ.out HZ1.out HZ2.out rfl (by omega) (.slice (some ⟨w.heap.size, 0, none⟩) 0 0) 0 [] rfl HM.out A n c (vb l) rfl (by simp [vb_len, HL.out]) HAa.out (vb_one _) (by simp only [maxLen]; omega) (by omega) ?size ?_)
  try (case size => simp)
  intro A6 c6 w6 own6 gr6 at6
  have BW6 : Hid (Below w.heap.size w w6) := Lib.hid ((balloc (Below.refl w.heap.size w) (.cells #[] 5)).grown gr6 (by simp) (own_ge HM.out))
  have HX6 : Hid (w6.ownsRow w.heap.size 5 1 (.slice A6 n c6) n (vb l)) := Lib.hid (by first | exact own6 | simpa using own6)
  try rw [Nat.zero_add]
  clear own6 gr6 at6 HAa
  go_wp2_with fail
  (with_reducible refine (HT.out _ _ _ (own_row _ HX6.out)).mono ?_)
  rintro e w7 ⟨g, ⟨hgood, hnil, hgl, hok⟩, A7, c7, rfl, R7, B7⟩
  obtain ⟨m, hm⟩ : ∃ m, g.length = m := ⟨_, rfl⟩
  rw [hm]
  have hmn : m ≤ 2 * n := by rw [← hm, ← HL.out]; exact hgl
  have hz : n = 0 → m = 0 := fun h => by rw [← hm, hnil (List.eq_nil_of_length_eq_zero (HL.out.trans h))]; rfl
  have HR : Hid (∀ w, RowAt w A7 (gc g) → Calls Try.prog 30 #[.slice A7 m c7] w fun e w' => e = .returned (.int .i64 0) ∧ Below w.heap.size w w') := Lib.hid fun w a => by
    have := rcheck_g g m c7 A7 hm (by omega) w a
    rw [hgood.code] at this
    exact this
  have HE : Hid (∀ w, RowAt w A7 (gc g) → Calls Try.prog 17 #[.slice A7 m c7, .int .i64 (n : Int)] w (BytesOut l .nilIface w)) := Lib.hid fun w a => by
    have := expand_any g m c7 A7 hm (by omega) (n : Int) w a
    rw [ex_of_good hgood (by unfold clipI; rw [if_neg (by omega), if_neg (by omega), HL.out]; exact Int.le_refl _), errv_zero] at this
    exact this
  have BW7 := Lib.hid (bkeep BW6.out B7); have HR7 := Lib.hid R7
  clear B7 R7 hgood hnil hgl hok hm
  go_wp2_with fail
  (with_reducible refine (awake_any _).mono ?_)
  rintro e w8 ⟨rfl, B8⟩
  have BW8 := Lib.hid (bkeep BW7.out B8); have HR8 := Lib.hid (HR7.out.below B8 (Nat.le_refl _))
  clear B8
  go_wp2_with fail
  (with_reducible refine (HR.out _ HR8.out).mono ?_)
  rintro e w10 ⟨rfl, B10⟩
  have BW10 := Lib.hid (bkeep BW8.out B10); have HR10 := Lib.hid (HR8.out.below B10 (Nat.le_refl _))
  clear B10
  obtain ⟨q, hq⟩ : ∃ q, q = ((n : Int) == 0) := ⟨_, rfl⟩
  have hnq : ((n : Int) == 0) = q := hq.symm
  have hmq : q = true → ((m : Int) == 0) = true := fun h => by rw [hq, beq_iff_eq] at h; rw [beq_iff_eq]; have := hz (by omega); omega
  clear hz
  cases q with
  | true =>
    have hmq2 := hmq rfl
    clear hmq hq
    go_wp2_with fail
    (with_reducible refine (HE.out _ HR10.out).mono ?_)
    rintro e w11 ⟨A11, c11, rfl, R11, B11⟩
    rw [HL.out]
    have BW11 := Lib.hid (bkeep BW10.out B11); have HX11 := Lib.hid R11
    clear B11 R11
    go_wp2_with fail
    (with_reducible refine (bytes_same l n _ _ _ _ HL.out _ HX11.out (HA.out.below BW11.out (Nat.le_refl _))).mono ?_)
    rintro e w12 ⟨rfl, rfl⟩
    go_wp2_with fail
    go_ret
    exact ⟨rfl, BW11.out⟩
  | false =>
    clear hmq hq
    go_wp2_with fail
    (with_reducible refine (HE.out _ HR10.out).mono ?_)
    rintro e w11 ⟨A11, c11, rfl, R11, B11⟩
    rw [HL.out]
    have BW11 := Lib.hid (bkeep BW10.out B11); have HX11 := Lib.hid R11
    clear B11 R11
    go_wp2_with fail
    (with_reducible refine (bytes_same l n _ _ _ _ HL.out _ HX11.out (HA.out.below BW11.out (Nat.le_refl _))).mono ?_)
    rintro e w12 ⟨rfl, rfl⟩
    go_wp2_with fail
    go_ret
    exact ⟨rfl, BW11.out⟩
theorem law_texts (l : List Int) (n c : Nat) (A : Option Addr) (hl : l.length = n) (hb : U8s l) (more : Bool) (w : World) (ha : RowAt w A (vb l)) :
    Calls Try.prog 6 #[.slice A n c, .bool more] w fun e w' => e = .returned (.bool true) ∧ Below w.heap.size w w' := by
  by_cases hn : n ≤ 3000
  · cases more with
    | true => exact texts_more l n c 65537 A hl hn rfl w ha
    | false => exact texts_main l n c A hl hn hb w ha
  · exact texts_long n c A more (by omega) w
end Go.Proofs.Ytcbahojefglakaa
