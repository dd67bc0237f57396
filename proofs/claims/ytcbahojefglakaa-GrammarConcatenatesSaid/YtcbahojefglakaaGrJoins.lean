/- The walk of the law GrammarJoins. Written by wip/gen/grjoins.py. -/
import Derived.Test.YtcbahojefglakaaGrRepeat
import Derived.Deep.DeepCutAuto
namespace Go.Proofs.Ytcbahojefglakaa
set_option linter.unusedVariables false
set_option linter.unusedSimpArgs false
open Go.RowKit Go.Lib
attribute [local go_sem ↓] Go.wp_at_zero Go.wp_at_succ
theorem own_nil {w : World} {base : Nat} {e : TypeId} {size n c : Nat} {A : Option Addr} {xs : List Value} (h : w.ownsRow base e size (.slice A n c) n xs) : A = none → n = 0 ∧ c = 0 := by
  intro ha
  subst ha
  rcases h.2 with ⟨hv, hn⟩ | ⟨g, cap, cur, hv, _⟩
  · injection hv with _ _ h3; exact ⟨hn, h3⟩
  · injection hv with h1; cases h1
theorem jlaw_long (n c m d : Nat) (A B : Option Addr) (k : Int) (hn : 100 < n ∨ 100 < m) (w : World) :
    Calls Try.prog 8 #[.slice A n c, .slice B m d, .int .i64 k] w fun e w' => e = .returned (.bool true) ∧ Below w.heap.size w w' := by
  by_cases h1 : 100 < n
  · have hn2 : (100 : Int) < (n : Int) := by omega
    clear hn h1
    go_enter Try.func8, Try.ntmps8
    go_wp2_with fail
    go_ret
    exact ⟨rfl, Below.refl _ _⟩
  · have hn2 : ¬ (100 : Int) < (n : Int) := by omega
    have hm2 : (100 : Int) < (m : Int) := by omega
    clear hn h1
    go_enter Try.func8, Try.ntmps8
    go_wp2_with fail
    go_ret
    exact ⟨rfl, Below.refl _ _⟩
theorem own_rows_len (g : List Rl) (x : Rl) (n : Nat) (h : g.length = n) : (g ++ [x]).length = n + 1 := by simp [h]
/-- what the law lists by hand -/
def W0 (g h : List Rl) : List Rl := g ++ h.map (mvd g.length)
def W1 (g h : List Rl) : List Rl := if 0 < g.length ∧ 0 < h.length then W0 g h ++ [⟨2, 0, (g.length : Int), ((g.length + h.length : Nat) : Int), 0⟩] else W0 g h

set_option maxRecDepth 100000 in
set_option maxHeartbeats 16000000 in
theorem jlaw_ok (g h : List Rl) (n c m d : Nat) (A B : Option Addr) (k : Int) (hg : g.length = n) (hh : h.length = m) (hn : n ≤ 100) (hm : m ≤ 100) (kg kh code1 : Int) (hkg : gcode 0 g = kg) (J : List Rl)
    (hc1 : kg ≠ 0 → code1 = kg) (hc2 : kg = 0 → code1 = kh) (hJ1 : code1 ≠ 0 → J = []) (hJ2 : code1 = 0 → J = W1 g h)
    (HRG : Hid (∀ w, RowAt w A (gc g) → Calls Try.prog 30 #[.slice A n c] w fun e w' => e = .returned (.int .i64 kg) ∧ Below w.heap.size w w'))
    (HRH : Hid (∀ w, RowAt w B (gc h) → Calls Try.prog 30 #[.slice B m d] w fun e w' => e = .returned (.int .i64 kh) ∧ Below w.heap.size w w'))
    (HCG : Hid (∀ w, RowAt w A (gc g) → Calls Try.prog 18 #[.slice A n c] w (OwnRules w g n)))
    (HCH : Hid (∀ w, RowAt w B (gc h) → Calls Try.prog 18 #[.slice B m d] w (OwnRules w h m)))
    (HJ : Hid (∀ A c B d w, (B = none → m = 0 ∧ d = 0) → RowAt w A (gc g) → RowAt w B (gc h) → Calls Try.prog 34 #[.slice A n c, .slice B m d] w (RulesOut J (errv code1) w)))
    (HRP : Hid (∀ A c w, RowAt w A (gc g) → Calls Try.prog 36 #[.slice A n c, .int .i64 k] w (RulesOut (rpOut g k).1 (errv (rpOut g k).2) w)))
    (w : World) (ha : RowAt w A (gc g)) (hb : RowAt w B (gc h)) :
    Calls Try.prog 8 #[.slice A n c, .slice B m d, .int .i64 k] w fun e w' => e = .returned (.bool true) ∧ Below w.heap.size w w' := by
  obtain ⟨i0_, hi, hz0, hz1, hz2⟩ := info_parts5 info_rule
  have HI := Lib.hid hi; have HZ := Lib.hid hz0; have HZ1 := Lib.hid hz1; have HZ2 := Lib.hid hz2
  have HA := Lib.hid ha; have HB := Lib.hid hb; have HGL := Lib.hid hg; have HHL := Lib.hid hh
  have HC1 := Lib.hid hc1; have HC2 := Lib.hid hc2; have HKG := Lib.hid hkg; have HJ1 := Lib.hid hJ1; have HJ2 := Lib.hid hJ2
  have hn2 : ¬ (100 : Int) < (n : Int) := by omega
  have hm2 : ¬ (100 : Int) < (m : Int) := by omega
  clear hi hz0 hz1 hz2 ha hb hg hh hkg hc1 hc2 hJ1 hJ2
  go_enter Try.func8, Try.ntmps8
  go_wp2_with fail
  (with_reducible refine (HRG.out _ HA.out).mono ?_)
  rintro e w1 ⟨rfl, B1⟩
  have BW1 := Lib.hid B1; have HA1 := Lib.hid (HA.out.below B1 (Nat.le_refl _)); have HB1 := Lib.hid (HB.out.below B1 (Nat.le_refl _))
  clear B1
  go_wp2_with fail
  (with_reducible refine (HCG.out _ HA1.out).mono ?_)
  rintro e w2 ⟨A2, c2, rfl, own2, B2⟩
  have BW2 := Lib.hid (bkeep BW1.out B2); have HO2 := Lib.hid own2; have HB2 := Lib.hid (HB1.out.below B2 (Nat.le_refl _))
  clear B2 own2
  go_wp2_with fail
  (with_reducible refine (HCH.out _ HB2.out).mono ?_)
  rintro e w3 ⟨A3, c3, rfl, own3, B3⟩
  have BW3 := Lib.hid (bkeep BW2.out B3); have HO3 := Lib.hid own3; have HO2b := Lib.hid (own_below HO2.out B3)
  clear B3 own3
  go_wp2_with fail
  (with_reducible refine (HJ.out _ _ _ _ _ (own_nil HO3.out) (own_row _ HO2b.out) (own_row _ HO3.out)).mono ?_)
  rintro e w4 ⟨A4, c4, rfl, R4, B4⟩
  have BW4 := Lib.hid (bkeep BW3.out B4); have HX4 := Lib.hid R4
  have HB4 := Lib.hid (HB.out.below BW4.out (Nat.le_refl _))
  clear B4 R4
  go_upto_if 31 with fail
  go_cut [7] (fun s7 wx => s7 = .int .i64 code1 ∧ Hid (Below w4.heap.size w4 wx))
  case first =>
    by_cases h0 : kg = 0
    · have q1 : (kg == 0) = true := by rw [beq_iff_eq]; exact h0
      have HE := Lib.hid (HC2.out h0)
      clear h0
      go_wp2_with fail
      (with_reducible refine (HRH.out _ HB4.out).mono ?_)
      rintro e w5 ⟨rfl, B5⟩
      go_wp2_with fail
      go_meet
      exact ⟨by rw [HE.out], Lib.hid B5⟩
    · have q1 : (kg == 0) = false := by rw [beq_eq_false_iff_ne]; exact h0
      have HE := Lib.hid (HC1.out h0)
      clear h0
      go_wp2_with fail
      go_meet
      exact ⟨by rw [HE.out], Lib.hid (Below.refl _ _)⟩
  case rest =>
    obtain ⟨rfl, BWc⟩ := hcut
    obtain ⟨w5, hw5⟩ : ∃ w5, w5 = wc := ⟨_, rfl⟩
    subst hw5
    have BW5 := Lib.hid (bkeep BW4.out BWc.out)
    have HA5 := Lib.hid (HA.out.below BW5.out (Nat.le_refl _)); have HB5 := Lib.hid (HB.out.below BW5.out (Nat.le_refl _))
    have HX5 := Lib.hid (HX4.out.below BWc.out (Nat.le_refl _))
    clear BWc
    go_wp2_with fail
    (with_reducible refine (HCG.out _ HA5.out).mono ?_)
    rintro e w6 ⟨A6, c6, rfl, own6, B6⟩
    have BW6 := Lib.hid B6
    have HO6 := Lib.hid own6
    clear B6 own6
    go_wp2_with fail
    go_loopw [10, 11] (fun so si wr => ∃ (i : Nat) (A1 : Option Addr) (c1 : Nat), si = .int .i64 (i : Int) ∧ i ≤ m ∧ so = .slice A1 (n + i) c1 ∧ Hid (wr.ownsRow w5.heap.size 46 5 (.slice A1 (n + i) c1) (n + i) (gc (g ++ (h.map (mvd n)).take i))) ∧ Hid (Below w5.heap.size w5 wr)) (fun _ si _ => m - (intOf si).toNat)
    case atStart => exact ⟨0, A6, c6, rfl, by omega, rfl, Lib.hid (by have := HO6.out; simpa using this), BW6⟩
    case round =>
      obtain ⟨i, A1, c1, rfl, hi, rfl, HO1, BW⟩ := hrel
      have zs : w5.heap.size ≤ wr.heap.size := BW.out.size
      by_cases hlt : i < m
      · have hil : i < h.length := by rw [HHL.out]; exact hlt
        obtain ⟨r, hr⟩ : ∃ r, h[i]? = some r := ⟨_, List.getElem?_eq_getElem hil⟩
        obtain ⟨ad, rfl, hadl, e0, e1, e2, e3, e4⟩ := row_rl (HB5.out.below BW.out (Nat.le_refl _)) hr
        obtain ⟨⟨kd', lt', lf', rg', tm'⟩, hr'⟩ : ∃ q, mvd n r = q := ⟨_, rfl⟩
        have HQ : Hid (gc (g ++ (h.map (mvd n)).take i) ++ (⟨kd', lt', lf', rg', tm'⟩ : Rl).cells = gc (g ++ (h.map (mvd n)).take (i + 1))) := Lib.hid (by
          have hm2 : (h.map (mvd n))[i]? = some ⟨kd', lt', lf', rg', tm'⟩ := by rw [List.getElem?_map, hr]; exact congrArg some hr'
          obtain ⟨hlt2, hge⟩ := List.getElem?_eq_some_iff.1 hm2
          rw [gc_snoc, List.take_succ_eq_append_getElem hlt2, hge, List.append_assoc])
        obtain ⟨kd, lt, lf, rg, tm⟩ := r
        simp only at e0 e1 e2 e3 e4
        have HM : Hid (∀ w, Calls Try.prog 35 #[.agg #[.int .i64 kd, .int .u8 lt, .int .i64 lf, .int .i64 rg, .int .i64 tm], .int .i64 (n : Int)] w fun e w' => e = .returned (.agg #[.int .i64 kd', .int .u8 lt', .int .i64 lf', .int .i64 rg', .int .i64 tm']) ∧ Below w.heap.size w w') := Lib.hid (fun w => by
          have := moved_any ⟨kd, lt, lf, rg, tm⟩ n w
          rw [hr'] at this; exact this)
        have i0 : (0 : Int) ≤ i := by omega
        have i1 : (i : Int) < (m : Int) := by omega
        clear hr hr'
        go_wp2_with fail
        (with_reducible refine (HM.out _).mono ?_)
        rintro e w7 ⟨rfl, B7⟩
        have BW7 := BW.out.trans (B7.mono zs)
        have HO7 := Lib.hid (own_below HO1.out B7)
        have zs7 : w5.heap.size ≤ w7.heap.size := BW7.size
        have HAp := Lib.hid (own_alloc HO7.out (.cells #[.int .i64 kd', .int .u8 lt', .int .i64 lf', .int .i64 rg', .int .i64 tm'] 46))
        clear B7 HM
        go_wp2_with (refine wpList_app _ (by rfl) (.tmp 42) (.tmp 50) _ rfl w5.heap.size 46 i0_ _ 5 40 Try.underlying22 HI.out HZ.out HZ1.out HZ2.out rfl (by omega) (.slice A1 (n + i) c1) (n + i) (gc (g ++ (h.map (mvd n)).take i)) rfl HAp.out _ 1 1 (⟨kd', lt', lf', rg', tm'⟩ : Rl).cells rfl rfl ?row (cells_one _) (by simp only [maxLen]; omega) (by omega) ?size ?_)
        case row => exact RowAt.of_block (box_new_ rfl)
        case size => simp; omega
        intro A8 c8 w8 own8 gr8 at8
        have B8 := Below.grown (B := w5.heap.size) (a := w7) (Below.alloc (Below.refl _ _) zs7 _) gr8 (by simp; omega) (own_ge HO7.out)
        have BW8 := Lib.hid (BW7.trans B8)
        rw [HQ.out] at own8
        have HO8 := Lib.hid own8
        clear own8 gr8 at8 B8
        go_wp2_with fail
        go_roundw
        case rel => exact ⟨i + 1, A8, c8, by go_num, by omega, rfl, HO8, BW8⟩
        case measure => simp [intOf]; omega
      · obtain rfl : i = m := by omega
        have ht : (h.map (mvd n)).take i = h.map (mvd n) := List.take_of_length_le (by rw [List.length_map, HHL.out]; exact Nat.le_refl _)
        rw [ht] at HO1
        have HW0 : Hid (wr.ownsRow w5.heap.size 46 5 (.slice A1 (n + i) c1) (n + i) (gc (W0 g h))) := Lib.hid (by unfold W0; rw [HGL.out]; exact HO1.out)
        have hl0 : (W0 g h).length = n + i := by unfold W0; simp [HGL.out, HHL.out]
        have HL0 := Lib.hid hl0
        clear ht hl0
        obtain ⟨b, hb⟩ : ∃ b, b = decide (0 < n ∧ 0 < i) := ⟨_, rfl⟩
        have HBB := Lib.hid hb
        clear hb
        go_upto_region 12 with fail
        go_cut [59] (fun s59 wx => s59 = .bool b ∧ wx = wr)
        case first =>
          by_cases p1 : 0 < n
          · by_cases p2 : 0 < i
            · have q1 : (0 : Int) < (n : Int) := by omega
              have q2 : (0 : Int) < (i : Int) := by omega
              have e : b = true := by rw [HBB.out]; exact decide_eq_true ⟨p1, p2⟩
              have HE := Lib.hid e
              clear e
              go_wp2_with fail
              go_meet
              exact ⟨by rw [HE.out], rfl⟩
            · have q1 : (0 : Int) < (n : Int) := by omega
              have e : b = false := by rw [HBB.out]; exact decide_eq_false (by omega)
              have q2 : ¬ (0 : Int) < (i : Int) := by omega
              have HE := Lib.hid e
              clear e p2
              go_wp2_with fail
              go_meet
              exact ⟨by rw [HE.out]; exact congrArg Value.bool (decide_eq_false (by omega)), rfl⟩
          · have q1 : ¬ (0 : Int) < (n : Int) := by omega
            have e : b = false := by rw [HBB.out]; exact decide_eq_false (by omega)
            have HE := Lib.hid e
            clear e p1
            go_wp2_with fail
            go_meet
            exact ⟨by rw [HE.out], rfl⟩
        case rest =>
          obtain ⟨rfl, hwr⟩ := hcut
          subst hwr
          go_upto_if 59 with fail
          go_cut [10] (fun s10 wx => ∃ A2 c2, s10 = .slice A2 (W1 g h).length c2 ∧ Hid (RowAt wx A2 (gc (W1 g h))) ∧ Hid (Below w5.heap.size w5 wx))
          case first =>
            cases b with
            | true =>
              have hp : 0 < n ∧ 0 < i := of_decide_eq_true HBB.out.symm
              have hw : W1 g h = W0 g h ++ [⟨2, 0, (n : Int), ((n + i : Nat) : Int), 0⟩] := by unfold W1; rw [HGL.out, HHL.out, if_pos hp]
              have HW := Lib.hid hw
              clear hw hp
              go_wp2_with (refine wpList_app _ (by rfl) (.tmp 60) (.tmp 69) _ rfl w5.heap.size 46 i0_ _ 5 40 Try.underlying22 HI.out HZ.out HZ1.out HZ2.out rfl (by omega) (.slice A1 (n + i) c1) (n + i) (gc (W0 g h)) rfl ?own _ 1 1 (⟨2, 0, (n : Int), ((n + i : Nat) : Int), 0⟩ : Rl).cells rfl rfl ?row (cells_one _) (by simp only [maxLen]; omega) (by omega) ?size ?_)
              case own => exact own_below HW0.out (balloc (Below.refl _ _) _)
              case row => exact RowAt.of_block (box_new_ rfl)
              case size => simp; omega
              intro A8 c8 w8 own8 gr8 at8
              have B8 : Hid (Below w5.heap.size w5 w8) := Lib.hid (BW.out.trans (Below.grown (B := w5.heap.size) (a := _) (Below.alloc (Below.refl _ _) zs _) gr8 (by simp; omega) (own_ge HW0.out)))
              have R8 : Hid (RowAt w8 A8 (gc (W1 g h))) := Lib.hid (by rw [HW.out, ← gc_snoc]; exact own_row _ own8)
              clear own8 gr8 at8
              go_wp2_with fail
              go_meet
              exact ⟨A8, c8, by rw [HW.out, List.length_append, HL0.out]; rfl, R8, B8⟩
            | false =>
              have hp : ¬ (0 < n ∧ 0 < i) := of_decide_eq_false HBB.out.symm
              have hw : W1 g h = W0 g h := by unfold W1; rw [HGL.out, HHL.out, if_neg hp]
              have HW := Lib.hid hw
              clear hw hp
              go_wp2_with fail
              go_meet
              exact ⟨A1, c1, by rw [HW.out, HL0.out], Lib.hid (by rw [HW.out]; exact own_row _ HW0.out), BW⟩
          case rest =>
            obtain ⟨Aw, cw, rfl, RW, BWw⟩ := hcut
            obtain ⟨w9, hw9⟩ : ∃ w9, w9 = wc := ⟨_, rfl⟩
            subst hw9
            have BW9 := Lib.hid (BW5.out.trans (BWw.out.mono BW5.out.size))
            have HX9 := Lib.hid (HX5.out.below BWw.out (Nat.le_refl _))
            have hlw : (W1 g h).length ≤ 1000000 := by
              unfold W1; split <;> simp [HL0.out] <;> omega
            have HLW := Lib.hid hlw
            clear hlw
            go_upto_region 14 with fail
            go_cut [97] (fun s97 wx => s97 = .bool false ∧ Hid (Below w9.heap.size w9 wx))
            case first =>
              by_cases h0 : code1 = 0
              · have ej := HJ2.out h0
                have q1 : (code1 != 0) = false := by rw [h0]; rfl
                have q2 : (code1 == 0) = true := by rw [h0]; rfl
                have q3 : (code1 != code1) = false := by simp
                subst ej
                clear h0
                go_wp2_with fail
                (with_reducible refine (awake_any _).mono ?_)
                rintro e wa ⟨rfl, Ba⟩
                have BWa := Lib.hid Ba; have HXa := Lib.hid (HX9.out.below Ba (Nat.le_refl _)); have RWa := Lib.hid (RW.out.below Ba (Nat.le_refl _))
                clear Ba
                go_wp2_with fail
                (with_reducible refine (num_any _ _).mono ?_)
                rintro e wn ⟨rfl, rfl⟩
                go_wp2_with fail
                (with_reducible refine (same_any (W1 g h) _ _ _ _ _ rfl HLW.out _ HXa.out RWa.out).mono ?_)
                rintro e wb ⟨rfl, Bb⟩
                have BWb := Lib.hid (bkeep BWa.out Bb)
                clear Bb
                go_wp2_with fail
                go_meet
                exact ⟨rfl, BWb⟩
              · have ej := HJ1.out h0
                have q1 : (code1 != 0) = true := by rw [bne_iff_ne]; exact h0
                have q2 : (code1 == 0) = false := by rw [beq_eq_false_iff_ne]; exact h0
                have q3 : (code1 != code1) = false := by simp
                subst ej
                clear h0
                go_wp2_with fail
                (with_reducible refine (awake_any _).mono ?_)
                rintro e wa ⟨rfl, Ba⟩
                have BWa := Lib.hid Ba
                clear Ba
                go_wp2_with fail
                (with_reducible refine (num_any _ _).mono ?_)
                rintro e wn ⟨rfl, rfl⟩
                go_wp2_with fail
                go_meet
                exact ⟨rfl, BWa⟩
            case rest =>
              obtain ⟨rfl, BWc⟩ := hcut
              have BWd := Lib.hid (bkeep BW9.out BWc.out)
              have HAd := Lib.hid (HA.out.below BWd.out (Nat.le_refl _))
              by_cases hkg0 : kg = 0
              · subst hkg0
                by_cases hk2 : k < 0
                · have hk0 : k ≠ 0 := by omega
                  have e : rpOut g k = ([], 1) := by unfold rpOut; rw [if_neg (by simp [HKG.out]), if_pos hk2]
                  have k0 : (k == 0) = false := by rw [beq_eq_false_iff_ne]; exact hk0
                  have k1 : ¬ 1 < k := by omega
                  have HR2 : Hid (∀ A c w, RowAt w A (gc g) → Calls Try.prog 36 #[.slice A n c, .int .i64 k] w (RulesOut [] (errv 1) w)) := Lib.hid (by have := HRP.out; rw [e] at this; exact this)
                  clear e
                  go_wp2_with fail
                  (with_reducible refine (HRG.out _ HAd.out).mono ?_)
                  rintro e wa ⟨rfl, Ba⟩
                  have BWa := Lib.hid (bkeep BWd.out Ba); have HAa := Lib.hid (HAd.out.below Ba (Nat.le_refl _))
                  clear Ba
                  go_wp2_with fail
                  (with_reducible refine (HCG.out _ HAa.out).mono ?_)
                  rintro e wb ⟨Ab, cb, rfl, ownb, Bb⟩
                  have BWb := Lib.hid (bkeep BWa.out Bb); have HAb := Lib.hid (HAa.out.below Bb (Nat.le_refl _)); have HOb := Lib.hid ownb
                  clear Bb ownb
                  go_wp2_with fail
                  (with_reducible refine (HR2.out _ _ _ (own_row _ HOb.out)).mono ?_)
                  rintro e we ⟨Ae, ce, rfl, Re, Be⟩
                  have BWe := Lib.hid (bkeep BWb.out Be); have HAe := Lib.hid (HAb.out.below Be (Nat.le_refl _)); have HXe := Lib.hid Re
                  clear Be Re
                  go_wp2_with fail
                  (with_reducible refine (HCG.out _ HAe.out).mono ?_)
                  rintro e wf ⟨Af, cf, rfl, ownf, Bf⟩
                  have BWf := Lib.hid (bkeep BWe.out Bf); have HXf := Lib.hid (HXe.out.below Bf (Nat.le_refl _)); have HOf := Lib.hid ownf
                  clear Bf ownf
                  go_wp2_with fail
                  (with_reducible refine (num_any _ _).mono ?_)
                  rintro e wn ⟨rfl, rfl⟩
                  go_wp2_with fail
                  go_ret
                  exact ⟨rfl, BWf.out⟩
                · by_cases hk0 : k = 0
                  · have e : rpOut g k = ([], 0) := by unfold rpOut; rw [if_neg (by simp [HKG.out]), if_neg hk2, if_pos (.inl hk0)]
                    have HR2 : Hid (∀ A c w, RowAt w A (gc g) → Calls Try.prog 36 #[.slice A n c, .int .i64 k] w (RulesOut [] (errv 0) w)) := Lib.hid (by have := HRP.out; rw [e] at this; exact this)
                    clear e
                    subst hk0
                    go_wp2_with fail
                    (with_reducible refine (HRG.out _ HAd.out).mono ?_)
                    rintro e wa ⟨rfl, Ba⟩
                    have BWa := Lib.hid (bkeep BWd.out Ba); have HAa := Lib.hid (HAd.out.below Ba (Nat.le_refl _))
                    clear Ba
                    go_wp2_with fail
                    (with_reducible refine (HCG.out _ HAa.out).mono ?_)
                    rintro e wb ⟨Ab, cb, rfl, ownb, Bb⟩
                    have BWb := Lib.hid (bkeep BWa.out Bb); have HAb := Lib.hid (HAa.out.below Bb (Nat.le_refl _)); have HOb := Lib.hid ownb
                    clear Bb ownb
                    go_wp2_with fail
                    (with_reducible refine (HR2.out _ _ _ (own_row _ HOb.out)).mono ?_)
                    rintro e we ⟨Ae, ce, rfl, Re, Be⟩
                    have BWe := Lib.hid (bkeep BWb.out Be); have HAe := Lib.hid (HAb.out.below Be (Nat.le_refl _)); have HXe := Lib.hid Re
                    clear Be Re
                    go_wp2_with fail
                    (with_reducible refine (HCG.out _ HAe.out).mono ?_)
                    rintro e wf ⟨Af, cf, rfl, ownf, Bf⟩
                    have BWf := Lib.hid (bkeep BWe.out Bf); have HXf := Lib.hid (HXe.out.below Bf (Nat.le_refl _)); have HOf := Lib.hid ownf
                    clear Bf ownf
                    go_wp2_with fail
                    (with_reducible refine (num_any _ _).mono ?_)
                    rintro e wn ⟨rfl, rfl⟩
                    go_wp2_with fail
                    (with_reducible refine (same_any [] 0 _ _ _ _ rfl (by omega) _ HXf.out (RowAt.nil _ _)).mono ?_)
                    rintro e wz ⟨rfl, Bz⟩
                    have BWz := Lib.hid (bkeep BWf.out Bz)
                    clear Bz
                    go_wp2_with fail
                    go_ret
                    exact ⟨rfl, BWz.out⟩
                  · have hk3 : 0 < k := by omega
                    by_cases hn0 : n = 0
                    · have eg : g = [] := List.eq_nil_of_length_eq_zero (by rw [HGL.out]; exact hn0)
                      subst hn0; subst eg
                      by_cases hk1 : 1 < k
                      · skip
                        have e : rpOut [] k = ([], 0) := by unfold rpOut; rw [if_neg (by simp [HKG.out]), if_neg hk2, if_pos (.inr rfl)]
                        have k0 : (k == 0) = false := by rw [beq_eq_false_iff_ne]; exact hk0
                        have nq : ¬ (0 : Int) < 0 := by omega
                        have HR2 : Hid (∀ A c w, RowAt w A (gc []) → Calls Try.prog 36 #[.slice A 0 c, .int .i64 k] w (RulesOut [] (errv 0) w)) := Lib.hid (by have := HRP.out; rw [e] at this; exact this)
                        clear e
                        go_wp2_with fail
                        (with_reducible refine (HRG.out _ HAd.out).mono ?_)
                        rintro e wa ⟨rfl, Ba⟩
                        have BWa := Lib.hid (bkeep BWd.out Ba); have HAa := Lib.hid (HAd.out.below Ba (Nat.le_refl _))
                        clear Ba
                        go_wp2_with fail
                        (with_reducible refine (HCG.out _ HAa.out).mono ?_)
                        rintro e wb ⟨Ab, cb, rfl, ownb, Bb⟩
                        have BWb := Lib.hid (bkeep BWa.out Bb); have HAb := Lib.hid (HAa.out.below Bb (Nat.le_refl _)); have HOb := Lib.hid ownb
                        clear Bb ownb
                        go_wp2_with fail
                        (with_reducible refine (HR2.out _ _ _ (own_row _ HOb.out)).mono ?_)
                        rintro e we ⟨Ae, ce, rfl, Re, Be⟩
                        have BWe := Lib.hid (bkeep BWb.out Be); have HAe := Lib.hid (HAb.out.below Be (Nat.le_refl _)); have HXe := Lib.hid Re
                        clear Be Re
                        go_wp2_with fail
                        (with_reducible refine (HCG.out _ HAe.out).mono ?_)
                        rintro e wf ⟨Af, cf, rfl, ownf, Bf⟩
                        have BWf := Lib.hid (bkeep BWe.out Bf); have HXf := Lib.hid (HXe.out.below Bf (Nat.le_refl _)); have HOf := Lib.hid ownf
                        clear Bf ownf
                        go_wp2_with fail
                        (with_reducible refine (num_any _ _).mono ?_)
                        rintro e wn ⟨rfl, rfl⟩
                        go_wp2_with fail
                        (with_reducible refine (same_any [] 0 _ _ _ _ rfl (by omega) _ HXf.out (own_row _ HOf.out)).mono ?_)
                        rintro e wz ⟨rfl, Bz⟩
                        have BWz := Lib.hid (bkeep BWf.out Bz)
                        clear Bz
                        go_wp2_with fail
                        go_ret
                        exact ⟨rfl, BWz.out⟩
                      · have hk1 : k = 1 := by omega
                        have e : rpOut [] k = ([], 0) := by unfold rpOut; rw [if_neg (by simp [HKG.out]), if_neg hk2, if_pos (.inr rfl)]
                        have nq : ¬ (0 : Int) < 0 := by omega
                        have HR2 : Hid (∀ A c w, RowAt w A (gc []) → Calls Try.prog 36 #[.slice A 0 c, .int .i64 k] w (RulesOut [] (errv 0) w)) := Lib.hid (by have := HRP.out; rw [e] at this; exact this)
                        clear e
                        subst hk1
                        go_wp2_with fail
                        (with_reducible refine (HRG.out _ HAd.out).mono ?_)
                        rintro e wa ⟨rfl, Ba⟩
                        have BWa := Lib.hid (bkeep BWd.out Ba); have HAa := Lib.hid (HAd.out.below Ba (Nat.le_refl _))
                        clear Ba
                        go_wp2_with fail
                        (with_reducible refine (HCG.out _ HAa.out).mono ?_)
                        rintro e wb ⟨Ab, cb, rfl, ownb, Bb⟩
                        have BWb := Lib.hid (bkeep BWa.out Bb); have HAb := Lib.hid (HAa.out.below Bb (Nat.le_refl _)); have HOb := Lib.hid ownb
                        clear Bb ownb
                        go_wp2_with fail
                        (with_reducible refine (HR2.out _ _ _ (own_row _ HOb.out)).mono ?_)
                        rintro e we ⟨Ae, ce, rfl, Re, Be⟩
                        have BWe := Lib.hid (bkeep BWb.out Be); have HAe := Lib.hid (HAb.out.below Be (Nat.le_refl _)); have HXe := Lib.hid Re
                        clear Be Re
                        go_wp2_with fail
                        (with_reducible refine (HCG.out _ HAe.out).mono ?_)
                        rintro e wf ⟨Af, cf, rfl, ownf, Bf⟩
                        have BWf := Lib.hid (bkeep BWe.out Bf); have HXf := Lib.hid (HXe.out.below Bf (Nat.le_refl _)); have HOf := Lib.hid ownf
                        clear Bf ownf
                        go_wp2_with fail
                        (with_reducible refine (num_any _ _).mono ?_)
                        rintro e wn ⟨rfl, rfl⟩
                        go_wp2_with fail
                        (with_reducible refine (same_any [] 0 _ _ _ _ rfl (by omega) _ HXf.out (own_row _ HOf.out)).mono ?_)
                        rintro e wz ⟨rfl, Bz⟩
                        have BWz := Lib.hid (bkeep BWf.out Bz)
                        clear Bz
                        go_wp2_with fail
                        go_ret
                        exact ⟨rfl, BWz.out⟩
                    · have nq : (0 : Int) < (n : Int) := by omega
                      by_cases hk1 : 1 < k
                      · have e : rpOut g k = (g ++ [⟨3, 0, (n : Int), 0, k⟩], 0) := by unfold rpOut; rw [if_neg (by simp [HKG.out]), if_neg hk2, if_neg (by have := HGL.out; omega), if_pos hk1, HGL.out]
                        have k0 : (k == 0) = false := by rw [beq_eq_false_iff_ne]; exact hk0
                        have HR2 : Hid (∀ A c w, RowAt w A (gc g) → Calls Try.prog 36 #[.slice A n c, .int .i64 k] w (RulesOut (g ++ [⟨3, 0, (n : Int), 0, k⟩]) (errv 0) w)) := Lib.hid (by have := HRP.out; rw [e] at this; exact this)
                        clear e
                        go_wp2_with fail
                        (with_reducible refine (HRG.out _ HAd.out).mono ?_)
                        rintro e wa ⟨rfl, Ba⟩
                        have BWa := Lib.hid (bkeep BWd.out Ba); have HAa := Lib.hid (HAd.out.below Ba (Nat.le_refl _))
                        clear Ba
                        go_wp2_with fail
                        (with_reducible refine (HCG.out _ HAa.out).mono ?_)
                        rintro e wb ⟨Ab, cb, rfl, ownb, Bb⟩
                        have BWb := Lib.hid (bkeep BWa.out Bb); have HAb := Lib.hid (HAa.out.below Bb (Nat.le_refl _)); have HOb := Lib.hid ownb
                        clear Bb ownb
                        go_wp2_with fail
                        (with_reducible refine (HR2.out _ _ _ (own_row _ HOb.out)).mono ?_)
                        rintro e we ⟨Ae, ce, rfl, Re, Be⟩
                        have BWe := Lib.hid (bkeep BWb.out Be); have HAe := Lib.hid (HAb.out.below Be (Nat.le_refl _)); have HXe := Lib.hid Re
                        clear Be Re
                        rw [own_rows_len g _ n HGL.out]
                        go_wp2_with fail
                        (with_reducible refine (HCG.out _ HAe.out).mono ?_)
                        rintro e wf ⟨Af, cf, rfl, ownf, Bf⟩
                        have BWf := Lib.hid (bkeep BWe.out Bf); have HXf := Lib.hid (HXe.out.below Bf (Nat.le_refl _)); have HOf := Lib.hid ownf
                        have BFe := Lib.hid Bf; have zef : we.heap.size ≤ wf.heap.size := Bf.size
                        clear Bf ownf
                        have HAp := Lib.hid (own_alloc HOf.out (.cells #[.int .i64 3, .int .u8 0, .int .i64 (n : Int), .int .i64 0, .int .i64 k] 46))
                        go_wp2_with (refine wpList_app _ (by rfl) (.tmp 124) (.tmp 129) _ rfl we.heap.size 46 i0_ _ 5 40 Try.underlying22 HI.out HZ.out HZ1.out HZ2.out rfl (by omega) (.slice Af n cf) n (gc g) rfl HAp.out _ 1 1 (⟨3, 0, (n : Int), 0, k⟩ : Rl).cells rfl rfl ?row (cells_one _) (by simp only [maxLen]; omega) (by omega) ?size ?_)
                        case row => exact RowAt.of_block (box_new_ rfl)
                        case size => have := zef; simp; omega
                        intro A8 c8 w8 own8 gr8 at8
                        have B8 := Below.grown (B := we.heap.size) (a := wf) (Below.alloc (Below.refl _ _) zef _) gr8 (by simp; omega) (own_ge HOf.out)
                        have BW8 := Lib.hid (BWf.out.trans (B8.mono BWe.out.size)); have HX8 := Lib.hid (HXe.out.below (BFe.out.trans B8) (Nat.le_refl _))
                        rw [gc_snoc] at own8
                        have HO8 := Lib.hid own8
                        clear own8 gr8 at8 B8
                        go_wp2_with fail
                        (with_reducible refine (num_any _ _).mono ?_)
                        rintro e wn ⟨rfl, rfl⟩
                        go_wp2_with fail
                        (with_reducible refine (same_any _ (n + 1) _ _ _ _ (own_rows_len g _ n HGL.out) (by omega) _ HX8.out (own_row _ HO8.out)).mono ?_)
                        rintro e wz ⟨rfl, Bz⟩
                        have BWz := Lib.hid (bkeep BW8.out Bz)
                        clear Bz
                        go_wp2_with fail
                        go_ret
                        exact ⟨rfl, BWz.out⟩
                      · have hk1 : k = 1 := by omega
                        have e : rpOut g k = (g, 0) := by unfold rpOut; rw [if_neg (by simp [HKG.out]), if_neg hk2, if_neg (by have := HGL.out; omega), if_neg (by omega)]
                        have HR2 : Hid (∀ A c w, RowAt w A (gc g) → Calls Try.prog 36 #[.slice A n c, .int .i64 k] w (RulesOut g (errv 0) w)) := Lib.hid (by have := HRP.out; rw [e] at this; exact this)
                        clear e
                        subst hk1
                        go_wp2_with fail
                        (with_reducible refine (HRG.out _ HAd.out).mono ?_)
                        rintro e wa ⟨rfl, Ba⟩
                        have BWa := Lib.hid (bkeep BWd.out Ba); have HAa := Lib.hid (HAd.out.below Ba (Nat.le_refl _))
                        clear Ba
                        go_wp2_with fail
                        (with_reducible refine (HCG.out _ HAa.out).mono ?_)
                        rintro e wb ⟨Ab, cb, rfl, ownb, Bb⟩
                        have BWb := Lib.hid (bkeep BWa.out Bb); have HAb := Lib.hid (HAa.out.below Bb (Nat.le_refl _)); have HOb := Lib.hid ownb
                        clear Bb ownb
                        go_wp2_with fail
                        (with_reducible refine (HR2.out _ _ _ (own_row _ HOb.out)).mono ?_)
                        rintro e we ⟨Ae, ce, rfl, Re, Be⟩
                        have BWe := Lib.hid (bkeep BWb.out Be); have HAe := Lib.hid (HAb.out.below Be (Nat.le_refl _)); have HXe := Lib.hid Re
                        clear Be Re
                        rw [HGL.out]
                        go_wp2_with fail
                        (with_reducible refine (HCG.out _ HAe.out).mono ?_)
                        rintro e wf ⟨Af, cf, rfl, ownf, Bf⟩
                        have BWf := Lib.hid (bkeep BWe.out Bf); have HXf := Lib.hid (HXe.out.below Bf (Nat.le_refl _)); have HOf := Lib.hid ownf
                        clear Bf ownf
                        go_wp2_with fail
                        (with_reducible refine (num_any _ _).mono ?_)
                        rintro e wn ⟨rfl, rfl⟩
                        go_wp2_with fail
                        (with_reducible refine (same_any g n _ _ _ _ HGL.out (by omega) _ HXf.out (own_row _ HOf.out)).mono ?_)
                        rintro e wz ⟨rfl, Bz⟩
                        have BWz := Lib.hid (bkeep BWf.out Bz)
                        clear Bz
                        go_wp2_with fail
                        go_ret
                        exact ⟨rfl, BWz.out⟩
              · have kq : (kg == 0) = false := by rw [beq_eq_false_iff_ne]; exact hkg0
                have kp : (kg != 0) = true := by rw [bne_iff_ne]; exact hkg0
                have kr : (kg == kg) = true := by simp
                by_cases hk0 : k = 0
                · have e : rpOut g k = ([], kg) := by unfold rpOut; rw [HKG.out, if_pos hkg0]
                  have HR2 : Hid (∀ A c w, RowAt w A (gc g) → Calls Try.prog 36 #[.slice A n c, .int .i64 k] w (RulesOut [] (errv kg) w)) := Lib.hid (by have := HRP.out; rw [e] at this; exact this)
                  clear e
                  clear hkg0
                  subst hk0
                  go_wp2_with fail
                  (with_reducible refine (HRG.out _ HAd.out).mono ?_)
                  rintro e wa ⟨rfl, Ba⟩
                  have BWa := Lib.hid (bkeep BWd.out Ba); have HAa := Lib.hid (HAd.out.below Ba (Nat.le_refl _))
                  clear Ba
                  go_wp2_with fail
                  (with_reducible refine (HCG.out _ HAa.out).mono ?_)
                  rintro e wb ⟨Ab, cb, rfl, ownb, Bb⟩
                  have BWb := Lib.hid (bkeep BWa.out Bb); have HAb := Lib.hid (HAa.out.below Bb (Nat.le_refl _)); have HOb := Lib.hid ownb
                  clear Bb ownb
                  go_wp2_with fail
                  (with_reducible refine (HR2.out _ _ _ (own_row _ HOb.out)).mono ?_)
                  rintro e we ⟨Ae, ce, rfl, Re, Be⟩
                  have BWe := Lib.hid (bkeep BWb.out Be); have HAe := Lib.hid (HAb.out.below Be (Nat.le_refl _)); have HXe := Lib.hid Re
                  clear Be Re
                  go_wp2_with fail
                  (with_reducible refine (HCG.out _ HAe.out).mono ?_)
                  rintro e wf ⟨Af, cf, rfl, ownf, Bf⟩
                  have BWf := Lib.hid (bkeep BWe.out Bf); have HXf := Lib.hid (HXe.out.below Bf (Nat.le_refl _)); have HOf := Lib.hid ownf
                  clear Bf ownf
                  go_wp2_with fail
                  (with_reducible refine (num_any _ _).mono ?_)
                  rintro e wn ⟨rfl, rfl⟩
                  go_wp2_with fail
                  go_ret
                  exact ⟨rfl, BWf.out⟩
                · by_cases hk1 : 1 < k
                  · by_cases hn0 : (0 : Int) < (n : Int)
                    · have e : rpOut g k = ([], kg) := by unfold rpOut; rw [HKG.out, if_pos hkg0]
                      have k0 : (k == 0) = false := by rw [beq_eq_false_iff_ne]; exact hk0
                      have HR2 : Hid (∀ A c w, RowAt w A (gc g) → Calls Try.prog 36 #[.slice A n c, .int .i64 k] w (RulesOut [] (errv kg) w)) := Lib.hid (by have := HRP.out; rw [e] at this; exact this)
                      clear e
                      clear hkg0
                      go_wp2_with fail
                      (with_reducible refine (HRG.out _ HAd.out).mono ?_)
                      rintro e wa ⟨rfl, Ba⟩
                      have BWa := Lib.hid (bkeep BWd.out Ba); have HAa := Lib.hid (HAd.out.below Ba (Nat.le_refl _))
                      clear Ba
                      go_wp2_with fail
                      (with_reducible refine (HCG.out _ HAa.out).mono ?_)
                      rintro e wb ⟨Ab, cb, rfl, ownb, Bb⟩
                      have BWb := Lib.hid (bkeep BWa.out Bb); have HAb := Lib.hid (HAa.out.below Bb (Nat.le_refl _)); have HOb := Lib.hid ownb
                      clear Bb ownb
                      go_wp2_with fail
                      (with_reducible refine (HR2.out _ _ _ (own_row _ HOb.out)).mono ?_)
                      rintro e we ⟨Ae, ce, rfl, Re, Be⟩
                      have BWe := Lib.hid (bkeep BWb.out Be); have HAe := Lib.hid (HAb.out.below Be (Nat.le_refl _)); have HXe := Lib.hid Re
                      clear Be Re
                      go_wp2_with fail
                      (with_reducible refine (HCG.out _ HAe.out).mono ?_)
                      rintro e wf ⟨Af, cf, rfl, ownf, Bf⟩
                      have BWf := Lib.hid (bkeep BWe.out Bf); have HXf := Lib.hid (HXe.out.below Bf (Nat.le_refl _)); have HOf := Lib.hid ownf
                      have BFe := Lib.hid Bf; have zef : we.heap.size ≤ wf.heap.size := Bf.size
                      clear Bf ownf
                      have HAp := Lib.hid (own_alloc HOf.out (.cells #[.int .i64 3, .int .u8 0, .int .i64 (n : Int), .int .i64 0, .int .i64 k] 46))
                      go_wp2_with (refine wpList_app _ (by rfl) (.tmp 124) (.tmp 129) _ rfl we.heap.size 46 i0_ _ 5 40 Try.underlying22 HI.out HZ.out HZ1.out HZ2.out rfl (by omega) (.slice Af n cf) n (gc g) rfl HAp.out _ 1 1 (⟨3, 0, (n : Int), 0, k⟩ : Rl).cells rfl rfl ?row (cells_one _) (by simp only [maxLen]; omega) (by omega) ?size ?_)
                      case row => exact RowAt.of_block (box_new_ rfl)
                      case size => have := zef; simp; omega
                      intro A8 c8 w8 own8 gr8 at8
                      have B8 := Below.grown (B := we.heap.size) (a := wf) (Below.alloc (Below.refl _ _) zef _) gr8 (by simp; omega) (own_ge HOf.out)
                      have BW8 := Lib.hid (BWf.out.trans (B8.mono BWe.out.size)); have HX8 := Lib.hid (HXe.out.below (BFe.out.trans B8) (Nat.le_refl _))
                      rw [gc_snoc] at own8
                      have HO8 := Lib.hid own8
                      clear own8 gr8 at8 B8
                      go_wp2_with fail
                      (with_reducible refine (num_any _ _).mono ?_)
                      rintro e wn ⟨rfl, rfl⟩
                      go_wp2_with fail
                      go_ret
                      exact ⟨rfl, BW8.out⟩
                    · have e : rpOut g k = ([], kg) := by unfold rpOut; rw [HKG.out, if_pos hkg0]
                      have k0 : (k == 0) = false := by rw [beq_eq_false_iff_ne]; exact hk0
                      have HR2 : Hid (∀ A c w, RowAt w A (gc g) → Calls Try.prog 36 #[.slice A n c, .int .i64 k] w (RulesOut [] (errv kg) w)) := Lib.hid (by have := HRP.out; rw [e] at this; exact this)
                      clear e
                      clear hkg0
                      go_wp2_with fail
                      (with_reducible refine (HRG.out _ HAd.out).mono ?_)
                      rintro e wa ⟨rfl, Ba⟩
                      have BWa := Lib.hid (bkeep BWd.out Ba); have HAa := Lib.hid (HAd.out.below Ba (Nat.le_refl _))
                      clear Ba
                      go_wp2_with fail
                      (with_reducible refine (HCG.out _ HAa.out).mono ?_)
                      rintro e wb ⟨Ab, cb, rfl, ownb, Bb⟩
                      have BWb := Lib.hid (bkeep BWa.out Bb); have HAb := Lib.hid (HAa.out.below Bb (Nat.le_refl _)); have HOb := Lib.hid ownb
                      clear Bb ownb
                      go_wp2_with fail
                      (with_reducible refine (HR2.out _ _ _ (own_row _ HOb.out)).mono ?_)
                      rintro e we ⟨Ae, ce, rfl, Re, Be⟩
                      have BWe := Lib.hid (bkeep BWb.out Be); have HAe := Lib.hid (HAb.out.below Be (Nat.le_refl _)); have HXe := Lib.hid Re
                      clear Be Re
                      go_wp2_with fail
                      (with_reducible refine (HCG.out _ HAe.out).mono ?_)
                      rintro e wf ⟨Af, cf, rfl, ownf, Bf⟩
                      have BWf := Lib.hid (bkeep BWe.out Bf); have HXf := Lib.hid (HXe.out.below Bf (Nat.le_refl _)); have HOf := Lib.hid ownf
                      clear Bf ownf
                      go_wp2_with fail
                      (with_reducible refine (num_any _ _).mono ?_)
                      rintro e wn ⟨rfl, rfl⟩
                      go_wp2_with fail
                      go_ret
                      exact ⟨rfl, BWf.out⟩
                  · have e : rpOut g k = ([], kg) := by unfold rpOut; rw [HKG.out, if_pos hkg0]
                    have k0 : (k == 0) = false := by rw [beq_eq_false_iff_ne]; exact hk0
                    have HR2 : Hid (∀ A c w, RowAt w A (gc g) → Calls Try.prog 36 #[.slice A n c, .int .i64 k] w (RulesOut [] (errv kg) w)) := Lib.hid (by have := HRP.out; rw [e] at this; exact this)
                    clear e
                    clear hkg0
                    go_wp2_with fail
                    (with_reducible refine (HRG.out _ HAd.out).mono ?_)
                    rintro e wa ⟨rfl, Ba⟩
                    have BWa := Lib.hid (bkeep BWd.out Ba); have HAa := Lib.hid (HAd.out.below Ba (Nat.le_refl _))
                    clear Ba
                    go_wp2_with fail
                    (with_reducible refine (HCG.out _ HAa.out).mono ?_)
                    rintro e wb ⟨Ab, cb, rfl, ownb, Bb⟩
                    have BWb := Lib.hid (bkeep BWa.out Bb); have HAb := Lib.hid (HAa.out.below Bb (Nat.le_refl _)); have HOb := Lib.hid ownb
                    clear Bb ownb
                    go_wp2_with fail
                    (with_reducible refine (HR2.out _ _ _ (own_row _ HOb.out)).mono ?_)
                    rintro e we ⟨Ae, ce, rfl, Re, Be⟩
                    have BWe := Lib.hid (bkeep BWb.out Be); have HAe := Lib.hid (HAb.out.below Be (Nat.le_refl _)); have HXe := Lib.hid Re
                    clear Be Re
                    go_wp2_with fail
                    (with_reducible refine (HCG.out _ HAe.out).mono ?_)
                    rintro e wf ⟨Af, cf, rfl, ownf, Bf⟩
                    have BWf := Lib.hid (bkeep BWe.out Bf); have HXf := Lib.hid (HXe.out.below Bf (Nat.le_refl _)); have HOf := Lib.hid ownf
                    clear Bf ownf
                    go_wp2_with fail
                    (with_reducible refine (num_any _ _).mono ?_)
                    rintro e wn ⟨rfl, rfl⟩
                    go_wp2_with fail
                    go_ret
                    exact ⟨rfl, BWf.out⟩
end Go.Proofs.Ytcbahojefglakaa
