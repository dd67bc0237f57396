/- The walk of Repeat; Join and Repeat at every grammar. Written by wip/gen/grrepeat.py. -/
import Derived.Test.YtcbahojefglakaaGrJoin
namespace Go.Proofs.Ytcbahojefglakaa
set_option linter.unusedVariables false
set_option linter.unusedSimpArgs false
open Go.RowKit Go.Lib
attribute [local go_sem ↓] Go.wp_at_zero Go.wp_at_succ
set_option maxRecDepth 100000 in
set_option maxHeartbeats 8000000 in
theorem rep_bad (g : List Rl) (n c : Nat) (A : Option Addr) (k : Int) (q : Int) (hq : q ≠ 0) (HG : Hid (∀ w, RowAt w A (gc g) → Calls Try.prog 42 #[.slice A n c] w fun e w' => e = .returned (.iface 50 (.int .i64 q)) ∧ Below w.heap.size w w'))
    (w : World) (ha : RowAt w A (gc g)) :
    Calls Try.prog 36 #[.slice A n c, .int .i64 k] w (RulesOut [] (errv q) w) := by
  rw [errv_pos q hq]
  clear hq
  have HA := Lib.hid ha
  clear ha
  go_enter Try.func36, Try.ntmps36
  go_wp2_with fail
  (with_reducible refine (HG.out _ HA.out).mono ?_)
  rintro e w1 ⟨rfl, B1⟩
  have BW1 := Lib.hid B1; have HA1 := Lib.hid (HA.out.below B1 (Nat.le_refl _))
  clear B1
  go_wp2_with fail
  go_ret2
  exact ⟨none, 0, rfl, RowAt.nil _ _, BW1.out⟩
set_option maxRecDepth 100000 in
set_option maxHeartbeats 8000000 in
theorem rep_neg (g : List Rl) (n c : Nat) (A : Option Addr) (k : Int) (hk : k < 0) (HG : Hid (∀ w, RowAt w A (gc g) → Calls Try.prog 42 #[.slice A n c] w fun e w' => e = .returned (.nilIface) ∧ Below w.heap.size w w'))
    (w : World) (ha : RowAt w A (gc g)) :
    Calls Try.prog 36 #[.slice A n c, .int .i64 k] w (RulesOut [] (.iface 50 (.int .i64 1)) w) := by
  have HA := Lib.hid ha
  clear ha
  go_enter Try.func36, Try.ntmps36
  go_wp2_with fail
  (with_reducible refine (HG.out _ HA.out).mono ?_)
  rintro e w1 ⟨rfl, B1⟩
  have BW1 := Lib.hid B1; have HA1 := Lib.hid (HA.out.below B1 (Nat.le_refl _))
  clear B1
  go_wp2_with fail
  go_ret2
  exact ⟨none, 0, rfl, RowAt.nil _ _, BW1.out⟩
set_option maxRecDepth 100000 in
set_option maxHeartbeats 8000000 in
theorem rep_zero (g : List Rl) (n c : Nat) (A : Option Addr) (k : Int) (hk : k = 0) (HG : Hid (∀ w, RowAt w A (gc g) → Calls Try.prog 42 #[.slice A n c] w fun e w' => e = .returned (.nilIface) ∧ Below w.heap.size w w'))
    (w : World) (ha : RowAt w A (gc g)) :
    Calls Try.prog 36 #[.slice A n c, .int .i64 k] w (RulesOut [] (.nilIface) w) := by
  subst hk
  have HA := Lib.hid ha
  clear ha
  go_enter Try.func36, Try.ntmps36
  go_wp2_with fail
  (with_reducible refine (HG.out _ HA.out).mono ?_)
  rintro e w1 ⟨rfl, B1⟩
  have BW1 := Lib.hid B1; have HA1 := Lib.hid (HA.out.below B1 (Nat.le_refl _))
  clear B1
  go_wp2_with fail
  go_ret2
  exact ⟨none, 0, rfl, RowAt.nil _ _, BW1.out⟩
set_option maxRecDepth 100000 in
set_option maxHeartbeats 8000000 in
theorem rep_nil (g : List Rl) (n c : Nat) (A : Option Addr) (k : Int) (hk : 0 < k) (hn : n = 0) (HG : Hid (∀ w, RowAt w A (gc g) → Calls Try.prog 42 #[.slice A n c] w fun e w' => e = .returned (.nilIface) ∧ Below w.heap.size w w'))
    (w : World) (ha : RowAt w A (gc g)) :
    Calls Try.prog 36 #[.slice A n c, .int .i64 k] w (RulesOut [] (.nilIface) w) := by
  subst hn
  have k0 : ¬ k < 0 := by omega
  have k1 : (k == 0) = false := by rw [beq_eq_false_iff_ne]; omega
  have HA := Lib.hid ha
  clear ha
  go_enter Try.func36, Try.ntmps36
  go_wp2_with fail
  (with_reducible refine (HG.out _ HA.out).mono ?_)
  rintro e w1 ⟨rfl, B1⟩
  have BW1 := Lib.hid B1; have HA1 := Lib.hid (HA.out.below B1 (Nat.le_refl _))
  clear B1
  go_wp2_with fail
  go_ret2
  exact ⟨none, 0, rfl, RowAt.nil _ _, BW1.out⟩
set_option maxRecDepth 100000 in
set_option maxHeartbeats 8000000 in
theorem rep_one (g : List Rl) (n c : Nat) (A : Option Addr) (k : Int) (hk : k = 1) (hg : g.length = n) (hn : n ≤ 100000) (hn0 : 0 < n) (HG : Hid (∀ w, RowAt w A (gc g) → Calls Try.prog 42 #[.slice A n c] w fun e w' => e = .returned (.nilIface) ∧ Below w.heap.size w w'))
    (w : World) (ha : RowAt w A (gc g)) :
    Calls Try.prog 36 #[.slice A n c, .int .i64 k] w (RulesOut g (.nilIface) w) := by
  obtain ⟨i0_, hi, hz0, hz1, hz2⟩ := info_parts5 info_rule
  have HI := Lib.hid hi; have HZ := Lib.hid hz0; have HZ1 := Lib.hid hz1; have HZ2 := Lib.hid hz2
  clear hi hz0 hz1 hz2
  subst hk
  have HGL := Lib.hid hg; have nz : ((n : Int) == 0) = false := by rw [beq_eq_false_iff_ne]; omega
  clear hg
  have mk := fun w => mk_rules (n + 1) (by omega) w ((n : Int) + 1) (by omega)
  have HA := Lib.hid ha
  clear ha
  go_enter Try.func36, Try.ntmps36
  go_wp2_with fail
  (with_reducible refine (HG.out _ HA.out).mono ?_)
  rintro e w1 ⟨rfl, B1⟩
  have BW1 := Lib.hid B1; have HA1 := Lib.hid (HA.out.below B1 (Nat.le_refl _))
  clear B1
  have HO := Lib.hid (own_mono (own_room w1 (n + 1) (by omega)) (BW1.out.size))
  have BR := balloc BW1.out (.cells (room (n + 1)) 46)
  have HAr := Lib.hid (HA1.out.below (balloc (Below.refl _ _) (.cells (room (n + 1)) 46)) (Nat.le_refl _))
  go_wp2_with (refine wpList_app _ (by rfl) (.tmp 27) (.tmp 28) _ rfl w.heap.size 46 i0_ _ 5 40 Try.underlying22 HI.out HZ.out HZ1.out HZ2.out rfl (by omega) (.slice (some ⟨w1.heap.size, 0, none⟩) 0 (n + 1)) 0 ([]) rfl HO.out A n c (gc g) rfl (by rw [gc_len, HGL.out]) ?row (gc_one g) (by simp only [maxLen]; omega) (by omega) ?size ?_)
  clear mk
  case row => exact HAr.out
  case size => have := BW1.out.size; simp; omega
  intro A3 c3 w3 own3 gr3 at3
  have B3 := Lib.hid (BR.grown gr3 (by have := BW1.out.size; simp; omega) (own_ge HO.out))
  have HO3 : Hid (w3.ownsRow w.heap.size 46 5 (.slice A3 n c3) n (gc g)) := Lib.hid own3
  clear own3 gr3 at3 BR
  go_wp2_with fail
  go_ret2
  exact ⟨A3, c3, by rw [HGL.out]; rfl, own_row _ HO3.out, B3.out⟩
set_option maxRecDepth 100000 in
set_option maxHeartbeats 8000000 in
theorem rep_many (g : List Rl) (n c : Nat) (A : Option Addr) (k : Int) (hk : 1 < k) (hg : g.length = n) (hn : n ≤ 100000) (hn0 : 0 < n) (HG : Hid (∀ w, RowAt w A (gc g) → Calls Try.prog 42 #[.slice A n c] w fun e w' => e = .returned (.nilIface) ∧ Below w.heap.size w w'))
    (w : World) (ha : RowAt w A (gc g)) :
    Calls Try.prog 36 #[.slice A n c, .int .i64 k] w (RulesOut (g ++ [⟨3, 0, (n : Int), 0, k⟩]) (.nilIface) w) := by
  obtain ⟨i0_, hi, hz0, hz1, hz2⟩ := info_parts5 info_rule
  have HI := Lib.hid hi; have HZ := Lib.hid hz0; have HZ1 := Lib.hid hz1; have HZ2 := Lib.hid hz2
  clear hi hz0 hz1 hz2
  have HGL := Lib.hid hg; have nz : ((n : Int) == 0) = false := by rw [beq_eq_false_iff_ne]; omega
  have k0 : ¬ k < 0 := by omega
  have k1 : (k == 0) = false := by rw [beq_eq_false_iff_ne]; omega
  clear hg
  have mk := fun w => mk_rules (n + 1) (by omega) w ((n : Int) + 1) (by omega)
  have HA := Lib.hid ha
  clear ha
  go_enter Try.func36, Try.ntmps36
  go_wp2_with fail
  (with_reducible refine (HG.out _ HA.out).mono ?_)
  rintro e w1 ⟨rfl, B1⟩
  have BW1 := Lib.hid B1; have HA1 := Lib.hid (HA.out.below B1 (Nat.le_refl _))
  clear B1
  have HO := Lib.hid (own_mono (own_room w1 (n + 1) (by omega)) (BW1.out.size))
  have BR := balloc BW1.out (.cells (room (n + 1)) 46)
  have HAr := Lib.hid (HA1.out.below (balloc (Below.refl _ _) (.cells (room (n + 1)) 46)) (Nat.le_refl _))
  go_wp2_with (refine wpList_app _ (by rfl) (.tmp 27) (.tmp 28) _ rfl w.heap.size 46 i0_ _ 5 40 Try.underlying22 HI.out HZ.out HZ1.out HZ2.out rfl (by omega) (.slice (some ⟨w1.heap.size, 0, none⟩) 0 (n + 1)) 0 ([]) rfl HO.out A n c (gc g) rfl (by rw [gc_len, HGL.out]) ?row (gc_one g) (by simp only [maxLen]; omega) (by omega) ?size ?_)
  clear mk
  case row => exact HAr.out
  case size => have := BW1.out.size; simp; omega
  intro A3 c3 w3 own3 gr3 at3
  have B3 := Lib.hid (BR.grown gr3 (by have := BW1.out.size; simp; omega) (own_ge HO.out))
  have HO3 : Hid (w3.ownsRow w.heap.size 46 5 (.slice A3 n c3) n (gc g)) := Lib.hid own3
  clear own3 gr3 at3 BR
  have zs : w.heap.size ≤ w3.heap.size := B3.out.size
  go_wp2_with (refine wpList_app _ (by rfl) (.tmp 32) (.tmp 37) _ rfl w.heap.size 46 i0_ _ 5 40 Try.underlying22 HI.out HZ.out HZ1.out HZ2.out rfl (by omega) (.slice A3 n c3) n (gc g) rfl ?own _ 1 1 ((⟨3, 0, (n : Int), 0, k⟩ : Rl).cells) rfl rfl ?row (cells_one _) (by simp only [maxLen]; omega) (by omega) ?size ?_)
  case own => exact own_below HO3.out (balloc (Below.refl _ _) _)
  case row => exact RowAt.of_block (box_new_ (by simp))
  case size => simp; omega
  intro A5 c5 w5 own5 gr5 at5
  have B5 : Hid (Below w.heap.size w w5) := Lib.hid (B3.out.trans (Below.grown (B := w.heap.size) (a := w3) (by exact Below.alloc (Below.refl _ _) zs _) gr5 (by simp; omega) (own_ge HO3.out)))
  rw [gc_snoc] at own5
  have HO5 := Lib.hid own5
  clear own5 gr5 at5
  go_wp2_with fail
  go_ret2
  exact ⟨A5, c5, by simp [HGL.out], own_row _ HO5.out, B5.out⟩
theorem join_any (g h : List Rl) (n c m d : Nat) (A B : Option Addr) (hg : g.length = n) (hh : h.length = m) (hn : n ≤ 100000) (hm : m ≤ 100000) (hB : B = none → m = 0 ∧ d = 0) (w : World) (ha : RowAt w A (gc g)) (hb : RowAt w B (gc h)) :
    Calls Try.prog 34 #[.slice A n c, .slice B m d] w (RulesOut (jnOut g h).1 (errv (jnOut g h).2) w) := by
  have HG := fun w a => check_g g n c A hg (by omega) w a
  have HH := fun w a => check_g h m d B hh (by omega) w a
  by_cases h0 : gcode 0 g = 0
  · rw [h0] at HG
    by_cases h1 : gcode 0 h = 0
    · rw [h1] at HH
      have e : jnOut g h = (joined g h, 0) := by unfold jnOut; rw [if_neg (by simp [h0]), if_neg (by simp [h1])]
      rw [e]
      by_cases z : n = 0
      · subst z
        have eg : g = [] := List.eq_nil_of_length_eq_zero hg
        subst eg
        have ej : joined [] h = h := rfl
        rw [ej]
        refine join_nil h c m d A B hh (by omega) (Lib.hid HG) (Lib.hid HH) (Lib.hid ?_) w ha hb
        intro w hb
        match B, hB, hb with
        | none, hB, hb =>
          obtain ⟨rfl, rfl⟩ := hB rfl
          have : h = [] := List.eq_nil_of_length_eq_zero hh
          subst this
          exact clone_nil w
        | some ad, _, hb => exact clone_any h m d ad hh (by omega) w hb
      · by_cases z2 : m = 0
        · subst z2
          have eh : h = [] := List.eq_nil_of_length_eq_zero hh
          subst eh
          have ej : joined g [] = g := by unfold joined; rw [if_neg (by omega)]; exact if_pos rfl
          rw [ej]
          exact join_nil2 g n c d A B hg hn (by omega) (Lib.hid HG) (Lib.hid HH) w ha hb
        · have ej : joined g h = g ++ h.map (mvd n) ++ [⟨2, 0, (n : Int), ((n + m : Nat) : Int), 0⟩] := by unfold joined; rw [if_neg (by omega), if_neg (by omega), hg, hh]
          rw [ej]
          exact join_ok g h n c m d A B hg hh hn hm (by omega) (by omega) h1 (Lib.hid HG) (Lib.hid HH) w ha hb
    · rw [errv_pos _ h1] at HH
      have e : jnOut g h = ([], gcode 0 h) := by unfold jnOut; rw [if_neg (by simp [h0]), if_pos h1]
      rw [e]
      exact join_bad2 g h n c m d A B _ h1 (Lib.hid HG) (Lib.hid HH) w ha hb
  · rw [errv_pos _ h0] at HG
    have e : jnOut g h = ([], gcode 0 g) := by unfold jnOut; rw [if_pos h0]
    rw [e]
    exact join_bad1 g h n c m d A B _ h0 (Lib.hid HG) w ha hb
theorem rep_any (g : List Rl) (n c : Nat) (A : Option Addr) (k : Int) (hg : g.length = n) (hn : n ≤ 100000) (w : World) (ha : RowAt w A (gc g)) :
    Calls Try.prog 36 #[.slice A n c, .int .i64 k] w (RulesOut (rpOut g k).1 (errv (rpOut g k).2) w) := by
  have HG := fun w a => check_g g n c A hg (by omega) w a
  by_cases h0 : gcode 0 g = 0
  · rw [h0] at HG
    by_cases h1 : k < 0
    · have e : rpOut g k = ([], 1) := by unfold rpOut; rw [if_neg (by simp [h0]), if_pos h1]
      rw [e]; exact rep_neg g n c A k h1 (Lib.hid HG) w ha
    · by_cases h2 : k = 0
      · have e : rpOut g k = ([], 0) := by unfold rpOut; rw [if_neg (by simp [h0]), if_neg h1, if_pos (.inl h2)]
        rw [e]; exact rep_zero g n c A k h2 (Lib.hid HG) w ha
      · by_cases h3 : n = 0
        · have e : rpOut g k = ([], 0) := by unfold rpOut; rw [if_neg (by simp [h0]), if_neg h1, if_pos (.inr (by omega))]
          rw [e]; exact rep_nil g n c A k (by omega) h3 (Lib.hid HG) w ha
        · by_cases h4 : 1 < k
          · have e : rpOut g k = (g ++ [⟨3, 0, (n : Int), 0, k⟩], 0) := by unfold rpOut; rw [if_neg (by simp [h0]), if_neg h1, if_neg (by omega), if_pos h4, hg]
            rw [e]; exact rep_many g n c A k h4 hg hn (by omega) (Lib.hid HG) w ha
          · have e : rpOut g k = (g, 0) := by unfold rpOut; rw [if_neg (by simp [h0]), if_neg h1, if_neg (by omega), if_neg h4]
            rw [e]; exact rep_one g n c A k (by omega) hg hn (by omega) (Lib.hid HG) w ha
  · rw [errv_pos _ h0] at HG
    have e : rpOut g k = ([], gcode 0 g) := by unfold rpOut; rw [if_pos h0]
    rw [e]; exact rep_bad g n c A k _ h0 (Lib.hid HG) w ha
end Go.Proofs.Ytcbahojefglakaa
