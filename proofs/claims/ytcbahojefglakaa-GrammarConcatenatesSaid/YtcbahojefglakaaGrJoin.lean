/- The walks of Join and Repeat. Written by wip/gen/grjoin.py. -/
import Derived.Test.YtcbahojefglakaaGrSame
namespace Go.Proofs.Ytcbahojefglakaa
set_option linter.unusedVariables false
set_option linter.unusedSimpArgs false
open Go.RowKit Go.Lib
attribute [local go_sem ↓] Go.wp_at_zero Go.wp_at_succ
def joined (g h : List Rl) : List Rl := if g.length = 0 then h else if h.length = 0 then g else g ++ h.map (mvd g.length) ++ [⟨2, 0, (g.length : Int), ((g.length + h.length : Nat) : Int), 0⟩]
def jnOut (g h : List Rl) : List Rl × Int := if gcode 0 g ≠ 0 then ([], gcode 0 g) else if gcode 0 h ≠ 0 then ([], gcode 0 h) else (joined g h, 0)
def rpOut (g : List Rl) (k : Int) : List Rl × Int :=
  if gcode 0 g ≠ 0 then ([], gcode 0 g) else if k < 0 then ([], 1) else if k = 0 ∨ g.length = 0 then ([], 0) else if 1 < k then (g ++ [⟨3, 0, (g.length : Int), 0, k⟩], 0) else (g, 0)
/-- what hands back a list of rules and an error -/
def RulesOut (l : List Rl) (er : Value) (w : World) (e : Ending) (w' : World) : Prop := ∃ A c, e = .returned (.tuple #[.slice A l.length c, er]) ∧ RowAt w' A (gc l) ∧ Below w.heap.size w w'
theorem box_new_ {w : World} {g : Nat} {t : TypeId} {cs : Array Value} (h : g = w.heap.size) : Box (w.alloc (.cells cs t)) g t cs := by subst h; exact Box.new w t cs
theorem gc_one' (r : Rl) : gc [r] = r.cells := by simp [gc]
theorem gc_snoc (l : List Rl) (r : Rl) : gc l ++ r.cells = gc (l ++ [r]) := by rw [gc_app, gc_one']
theorem cells_one (r : Rl) : ∀ u ∈ r.cells, u.oneCell' = true := by rw [← gc_one']; exact gc_one _

set_option maxRecDepth 100000 in
set_option maxHeartbeats 8000000 in
theorem join_bad1 (g h : List Rl) (n c m d : Nat) (A B : Option Addr) (k : Int) (hk : k ≠ 0) (HG : Hid (∀ w, RowAt w A (gc g) → Calls Try.prog 42 #[.slice A n c] w fun e w' => e = .returned (.iface 50 (.int .i64 k)) ∧ Below w.heap.size w w'))
    (w : World) (ha : RowAt w A (gc g)) (hb : RowAt w B (gc h)) :
    Calls Try.prog 34 #[.slice A n c, .slice B m d] w (RulesOut [] (errv k) w) := by
  rw [errv_pos k hk]
  clear hk
  have HA := Lib.hid ha; have HB := Lib.hid hb
  clear ha hb
  go_enter Try.func34, Try.ntmps34
  go_wp2_with fail
  (with_reducible refine (HG.out _ HA.out).mono ?_)
  rintro e w1 ⟨rfl, B1⟩
  have BW1 := Lib.hid B1; have HA1 := Lib.hid (HA.out.below B1 (Nat.le_refl _)); have HB1 := Lib.hid (HB.out.below B1 (Nat.le_refl _))
  clear B1
  go_wp2_with fail
  go_ret2
  exact ⟨none, 0, rfl, RowAt.nil _ _, BW1.out⟩
set_option maxRecDepth 100000 in
set_option maxHeartbeats 8000000 in
theorem join_bad2 (g h : List Rl) (n c m d : Nat) (A B : Option Addr) (k : Int) (hk : k ≠ 0) (HG : Hid (∀ w, RowAt w A (gc g) → Calls Try.prog 42 #[.slice A n c] w fun e w' => e = .returned (.nilIface) ∧ Below w.heap.size w w'))
    (HH : Hid (∀ w, RowAt w B (gc h) → Calls Try.prog 42 #[.slice B m d] w fun e w' => e = .returned (.iface 50 (.int .i64 k)) ∧ Below w.heap.size w w'))
    (w : World) (ha : RowAt w A (gc g)) (hb : RowAt w B (gc h)) :
    Calls Try.prog 34 #[.slice A n c, .slice B m d] w (RulesOut [] (errv k) w) := by
  rw [errv_pos k hk]
  clear hk
  have HA := Lib.hid ha; have HB := Lib.hid hb
  clear ha hb
  go_enter Try.func34, Try.ntmps34
  go_wp2_with fail
  (with_reducible refine (HG.out _ HA.out).mono ?_)
  rintro e w1 ⟨rfl, B1⟩
  have BW1 := Lib.hid B1; have HA1 := Lib.hid (HA.out.below B1 (Nat.le_refl _)); have HB1 := Lib.hid (HB.out.below B1 (Nat.le_refl _))
  clear B1
  go_wp2_with fail
  (with_reducible refine (HH.out _ HB1.out).mono ?_)
  rintro e w2 ⟨rfl, B2⟩
  have BW2 := Lib.hid (bkeep BW1.out B2); have HA2 := Lib.hid (HA1.out.below B2 (Nat.le_refl _)); have HB2 := Lib.hid (HB1.out.below B2 (Nat.le_refl _))
  clear B2
  go_wp2_with fail
  go_ret2
  exact ⟨none, 0, rfl, RowAt.nil _ _, BW2.out⟩
set_option maxRecDepth 100000 in
set_option maxHeartbeats 8000000 in
theorem join_nil (h : List Rl) (c m d : Nat) (A B : Option Addr) (hh : h.length = m) (hm : m ≤ 1000000) (HG : Hid (∀ w, RowAt w A (gc []) → Calls Try.prog 42 #[.slice A 0 c] w fun e w' => e = .returned (.nilIface) ∧ Below w.heap.size w w'))
    (HH : Hid (∀ w, RowAt w B (gc h) → Calls Try.prog 42 #[.slice B m d] w fun e w' => e = .returned (.nilIface) ∧ Below w.heap.size w w'))
    (HCL : Hid (∀ w, RowAt w B (gc h) → Calls Try.prog 52 #[.slice B m d] w (OwnRules w h m)))
    (w : World) (ha : RowAt w A (gc [])) (hb : RowAt w B (gc h)) :
    Calls Try.prog 34 #[.slice A 0 c, .slice B m d] w (RulesOut h .nilIface w) := by
  have HL := Lib.hid hh
  clear hh
  have HA := Lib.hid ha; have HB := Lib.hid hb
  clear ha hb
  go_enter Try.func34, Try.ntmps34
  go_wp2_with fail
  (with_reducible refine (HG.out _ HA.out).mono ?_)
  rintro e w1 ⟨rfl, B1⟩
  have BW1 := Lib.hid B1; have HA1 := Lib.hid (HA.out.below B1 (Nat.le_refl _)); have HB1 := Lib.hid (HB.out.below B1 (Nat.le_refl _))
  clear B1
  go_wp2_with fail
  (with_reducible refine (HH.out _ HB1.out).mono ?_)
  rintro e w2 ⟨rfl, B2⟩
  have BW2 := Lib.hid (bkeep BW1.out B2); have HA2 := Lib.hid (HA1.out.below B2 (Nat.le_refl _)); have HB2 := Lib.hid (HB1.out.below B2 (Nat.le_refl _))
  clear B2
  go_wp2_with fail
  (with_reducible refine (HCL.out _ HB2.out).mono ?_)
  rintro e w3 ⟨A3, c3, rfl, own3, B3⟩
  have BW3 := Lib.hid (bkeep BW2.out B3); have HO3 := Lib.hid own3
  clear own3 B3
  go_wp2_with fail
  go_ret2
  exact ⟨A3, c3, by rw [HL.out]; rfl, own_row _ HO3.out, BW3.out⟩
set_option maxRecDepth 100000 in
set_option maxHeartbeats 8000000 in
theorem join_nil2 (g : List Rl) (n c d : Nat) (A B : Option Addr) (hg : g.length = n) (hn : n ≤ 100000) (hn0 : 0 < n) (HG : Hid (∀ w, RowAt w A (gc g) → Calls Try.prog 42 #[.slice A n c] w fun e w' => e = .returned (.nilIface) ∧ Below w.heap.size w w'))
    (HH : Hid (∀ w, RowAt w B (gc []) → Calls Try.prog 42 #[.slice B 0 d] w fun e w' => e = .returned (.nilIface) ∧ Below w.heap.size w w'))
    (w : World) (ha : RowAt w A (gc g)) (hb : RowAt w B (gc [])) :
    Calls Try.prog 34 #[.slice A n c, .slice B 0 d] w (RulesOut g .nilIface w) := by
  obtain ⟨i0_, hi, hz0, hz1, hz2⟩ := info_parts5 info_rule
  have HI := Lib.hid hi; have HZ := Lib.hid hz0; have HZ1 := Lib.hid hz1; have HZ2 := Lib.hid hz2
  clear hi hz0 hz1 hz2
  have HGL := Lib.hid hg
  have nz : ((n : Int) == 0) = false := by rw [beq_eq_false_iff_ne]; omega
  clear hg
  have mk := fun w => mk_rules (n + 0 + 1) (by omega) w ((n : Int) + 0 + 1) (by omega)
  simp only [Int.add_zero, Nat.add_zero] at mk
  have HA := Lib.hid ha; have HB := Lib.hid hb
  clear ha hb
  go_enter Try.func34, Try.ntmps34
  go_wp2_with fail
  (with_reducible refine (HG.out _ HA.out).mono ?_)
  rintro e w1 ⟨rfl, B1⟩
  have BW1 := Lib.hid B1; have HA1 := Lib.hid (HA.out.below B1 (Nat.le_refl _)); have HB1 := Lib.hid (HB.out.below B1 (Nat.le_refl _))
  clear B1
  go_wp2_with fail
  (with_reducible refine (HH.out _ HB1.out).mono ?_)
  rintro e w2 ⟨rfl, B2⟩
  have BW2 := Lib.hid (bkeep BW1.out B2); have HA2 := Lib.hid (HA1.out.below B2 (Nat.le_refl _)); have HB2 := Lib.hid (HB1.out.below B2 (Nat.le_refl _))
  clear B2
  have HO := Lib.hid (own_mono (own_room w2 (n + 1) (by omega)) (BW2.out.size))
  have BR := balloc BW2.out (.cells (room (n + 1)) 46)
  have HAr := Lib.hid (HA2.out.below (balloc (Below.refl _ _) (.cells (room (n + 1)) 46)) (Nat.le_refl _))
  have HBr := Lib.hid (HB2.out.below (balloc (Below.refl _ _) (.cells (room (n + 1)) 46)) (Nat.le_refl _))
  go_wp2_with (refine wpList_app _ (by rfl) (.tmp 34) (.tmp 35) _ rfl w.heap.size 46 i0_ _ 5 40 Try.underlying22 HI.out HZ.out HZ1.out HZ2.out rfl (by omega) (.slice (some ⟨w2.heap.size, 0, none⟩) 0 (n + 1)) 0 ([]) rfl HO.out A n c  (gc g) rfl (by rw [gc_len, HGL.out]) ?row (gc_one g) (by simp only [maxLen]; omega) (by omega) ?size ?_)
  clear mk
  case row => exact HAr.out
  case size => have := BW2.out.size; simp; omega
  intro A3 c3 w3 own3 gr3 at3
  have B3 := Lib.hid (BR.grown gr3 (by have := BW2.out.size; simp; omega) (own_ge HO.out))
  have HO3 : Hid (w3.ownsRow w.heap.size 46 5 (.slice A3 n c3) n (gc g)) := Lib.hid own3
  try rw [Nat.zero_add]
  clear own3 gr3 at3 BR
  go_wp2_with fail
  go_ret2
  exact ⟨A3, c3, by rw [HGL.out]; rfl, own_row _ HO3.out, B3.out⟩
set_option maxRecDepth 100000 in
set_option maxHeartbeats 8000000 in
theorem join_ok (g h : List Rl) (n c m d : Nat) (A B : Option Addr) (hg : g.length = n) (hh : h.length = m) (hn : n ≤ 100000) (hm : m ≤ 100000) (hn0 : 0 < n) (hm0 : 0 < m) (hgh : gcode 0 h = 0) (HG : Hid (∀ w, RowAt w A (gc g) → Calls Try.prog 42 #[.slice A n c] w fun e w' => e = .returned (.nilIface) ∧ Below w.heap.size w w'))
    (HH : Hid (∀ w, RowAt w B (gc h) → Calls Try.prog 42 #[.slice B m d] w fun e w' => e = .returned (.nilIface) ∧ Below w.heap.size w w'))
    (w : World) (ha : RowAt w A (gc g)) (hb : RowAt w B (gc h)) :
    Calls Try.prog 34 #[.slice A n c, .slice B m d] w (RulesOut (g ++ h.map (mvd n) ++ [⟨2, 0, (n : Int), ((n + m : Nat) : Int), 0⟩]) (.nilIface) w) := by
  obtain ⟨i0_, hi, hz0, hz1, hz2⟩ := info_parts5 info_rule
  have HI := Lib.hid hi; have HZ := Lib.hid hz0; have HZ1 := Lib.hid hz1; have HZ2 := Lib.hid hz2
  clear hi hz0 hz1 hz2
  have HGL := Lib.hid hg; have HHL := Lib.hid hh; have HV := Lib.hid hgh
  have nz : ((n : Int) == 0) = false := by rw [beq_eq_false_iff_ne]; omega
  have mz : ((m : Int) == 0) = false := by rw [beq_eq_false_iff_ne]; omega
  clear hg hh hgh
  have mk := fun w => mk_rules (n + m + 1) (by omega) w ((n : Int) + (m : Int) + 1) (by omega)
  have HA := Lib.hid ha; have HB := Lib.hid hb
  clear ha hb
  go_enter Try.func34, Try.ntmps34
  go_wp2_with fail
  (with_reducible refine (HG.out _ HA.out).mono ?_)
  rintro e w1 ⟨rfl, B1⟩
  have BW1 := Lib.hid B1; have HA1 := Lib.hid (HA.out.below B1 (Nat.le_refl _)); have HB1 := Lib.hid (HB.out.below B1 (Nat.le_refl _))
  clear B1
  go_wp2_with fail
  (with_reducible refine (HH.out _ HB1.out).mono ?_)
  rintro e w2 ⟨rfl, B2⟩
  have BW2 := Lib.hid (bkeep BW1.out B2); have HA2 := Lib.hid (HA1.out.below B2 (Nat.le_refl _)); have HB2 := Lib.hid (HB1.out.below B2 (Nat.le_refl _))
  clear B2
  have HO := Lib.hid (own_mono (own_room w2 (n + m + 1) (by omega)) (BW2.out.size))
  have BR := balloc BW2.out (.cells (room (n + m + 1)) 46)
  have HAr := Lib.hid (HA2.out.below (balloc (Below.refl _ _) (.cells (room (n + m + 1)) 46)) (Nat.le_refl _))
  have HBr := Lib.hid (HB2.out.below (balloc (Below.refl _ _) (.cells (room (n + m + 1)) 46)) (Nat.le_refl _))
  go_wp2_with (refine wpList_app _ (by rfl) (.tmp 34) (.tmp 35) _ rfl w.heap.size 46 i0_ _ 5 40 Try.underlying22 HI.out HZ.out HZ1.out HZ2.out rfl (by omega) (.slice (some ⟨w2.heap.size, 0, none⟩) 0 (n + m + 1)) 0 ([]) rfl HO.out A n c  (gc g) rfl (by rw [gc_len, HGL.out]) ?row (gc_one g) (by simp only [maxLen]; omega) (by omega) ?size ?_)
  clear mk
  case row => exact HAr.out
  case size => have := BW2.out.size; simp; omega
  intro A3 c3 w3 own3 gr3 at3
  have B3 := Lib.hid (BR.grown gr3 (by have := BW2.out.size; simp; omega) (own_ge HO.out))
  have HO3 : Hid (w3.ownsRow w.heap.size 46 5 (.slice A3 n c3) n (gc g)) := Lib.hid own3
  try rw [Nat.zero_add]
  clear own3 gr3 at3 BR
  have hAw3 : Hid (RowAt w3 B (gc h)) := Lib.hid (HB.out.below B3.out (Nat.le_refl _))
  go_wp2_with fail
  go_loopw [8, 11, 45] (fun so _ si wr => ∃ (i : Nat) (A1 : Option Addr) (c1 : Nat), si = .int .i64 (i : Int) ∧ i ≤ m ∧ so = .slice A1 (n + i) c1 ∧ Hid (wr.ownsRow w.heap.size 46 5 (.slice A1 (n + i) c1) (n + i) (gc (g ++ (h.map (mvd n)).take i))) ∧ Hid (Below w.heap.size w wr)) (fun _ _ si _ => m - (intOf si).toNat)
  case atStart => exact ⟨0, A3, c3, rfl, by omega, rfl, Lib.hid (by have := HO3.out; simpa using this), B3⟩
  case round =>
    obtain ⟨i, A1, c1, rfl, hi, rfl, HO1, BW⟩ := hrel
    by_cases hlt : i < m
    · have hil : i < h.length := by rw [HHL.out]; exact hlt
      obtain ⟨r, hr⟩ : ∃ r, h[i]? = some r := ⟨_, List.getElem?_eq_getElem hil⟩
      have hway := rule_way HV.out hr
      obtain ⟨ad, rfl, hadl, e0, e1, e2, e3, e4⟩ := row_rl (HB.out.below BW.out (Nat.le_refl _)) hr
      have HT : Hid (∀ r', mvd n r = r' → gc (g ++ (h.map (mvd n)).take i) ++ r'.cells = gc (g ++ (h.map (mvd n)).take (i + 1))) := Lib.hid (fun r' hr' => by
        have hm2 : (h.map (mvd n))[i]? = some r' := by rw [List.getElem?_map, hr]; exact congrArg some hr'
        obtain ⟨hlt2, hge⟩ := List.getElem?_eq_some_iff.1 hm2
        rw [gc_snoc, List.take_succ_eq_append_getElem hlt2, hge, List.append_assoc])
      obtain ⟨kd, lt, lf, rg, tm⟩ := r
      simp only at e0 e1 e2 e3 e4 hway
      have i0 : (0 : Int) ≤ i := by omega
      have i1 : (i : Int) < (m : Int) := by omega
      have zs : w.heap.size ≤ wr.heap.size := BW.out.size
      clear hr
      rcases hway with ⟨rfl, rfl, rfl, rfl⟩ | ⟨rfl, rfl, rfl, p1, p2, q1, q2⟩ | ⟨rfl, rfl, rfl, t2, p1, p2⟩
      · have HQ := Lib.hid (HT.out ⟨1, lt, 0, 0, 0⟩ rfl)
        clear HT
        go_wp2_with (refine wpList_app _ (by rfl) (.tmp 70) (.tmp 72) _ rfl w.heap.size 46 i0_ _ 5 40 Try.underlying22 HI.out HZ.out HZ1.out HZ2.out rfl (by omega) (.slice A1 (n + i) c1) (n + i) (gc (g ++ (h.map (mvd n)).take i)) rfl ?own _ 1 1  ((⟨1, lt, 0, 0, 0⟩ : Rl).cells) rfl rfl ?row (cells_one _) (by simp only [maxLen]; omega) (by omega) ?size ?_)
        case own => exact own_below HO1.out (by repeat (first | exact Below.refl _ _ | (with_reducible refine Below.alloc ?_ (by first | omega | (simp; done) | (simp; omega)) _) | (with_reducible refine Below.setCell ?_ (by first | omega | (simp; done) | (simp; omega)) _)))
        case row => exact RowAt.of_block (box_new_ (by simp))
        case size => simp; omega
        intro A5 c5 w5 own5 gr5 at5
        have B5 : Hid (Below w.heap.size w w5) := Lib.hid (BW.out.trans (Below.grown (B := w.heap.size) (a := wr) (by repeat (first | exact Below.refl _ _ | (with_reducible refine Below.alloc ?_ (by first | omega | (simp; done) | (simp; omega)) _) | (with_reducible refine Below.setCell ?_ (by first | omega | (simp; done) | (simp; omega)) _))) gr5 (by simp; omega) (own_ge HO1.out)))
        rw [HQ.out] at own5
        have HO5 := Lib.hid own5
        clear own5 gr5 at5
        go_wp2_with fail
        go_roundw
        case rel => exact ⟨i + 1, A5, c5, by go_num, by omega, rfl, HO5, B5⟩
        case measure => simp [intOf]; omega
      · obtain ⟨l2, hl2⟩ : ∃ l2, wrp (lf + n) = l2 := ⟨_, rfl⟩
        obtain ⟨r2, hr2⟩ : ∃ r2, wrp (rg + n) = r2 := ⟨_, rfl⟩
        have HQ := Lib.hid (HT.out ⟨2, 0, l2, r2, 0⟩ (by rw [← hl2, ← hr2]; rfl))
        have x1 : IntKind.i64.wrap (lf + n) = l2 := hl2
        have x2 : IntKind.i64.wrap (rg + n) = r2 := hr2
        clear hl2 hr2
        clear HT
        go_wp2_with (refine wpList_app _ (by rfl) (.tmp 70) (.tmp 72) _ rfl w.heap.size 46 i0_ _ 5 40 Try.underlying22 HI.out HZ.out HZ1.out HZ2.out rfl (by omega) (.slice A1 (n + i) c1) (n + i) (gc (g ++ (h.map (mvd n)).take i)) rfl ?own _ 1 1  ((⟨2, 0, l2, r2, 0⟩ : Rl).cells) rfl rfl ?row (cells_one _) (by simp only [maxLen]; omega) (by omega) ?size ?_)
        case own => exact own_below HO1.out (by repeat (first | exact Below.refl _ _ | (with_reducible refine Below.alloc ?_ (by first | omega | (simp; done) | (simp; omega)) _) | (with_reducible refine Below.setCell ?_ (by first | omega | (simp; done) | (simp; omega)) _)))
        case row => exact RowAt.of_block (box_new_ (by simp))
        case size => simp; omega
        intro A5 c5 w5 own5 gr5 at5
        have B5 : Hid (Below w.heap.size w w5) := Lib.hid (BW.out.trans (Below.grown (B := w.heap.size) (a := wr) (by repeat (first | exact Below.refl _ _ | (with_reducible refine Below.alloc ?_ (by first | omega | (simp; done) | (simp; omega)) _) | (with_reducible refine Below.setCell ?_ (by first | omega | (simp; done) | (simp; omega)) _))) gr5 (by simp; omega) (own_ge HO1.out)))
        rw [HQ.out] at own5
        have HO5 := Lib.hid own5
        clear own5 gr5 at5
        go_wp2_with fail
        go_roundw
        case rel => exact ⟨i + 1, A5, c5, by go_num, by omega, rfl, HO5, B5⟩
        case measure => simp [intOf]; omega
      · obtain ⟨l2, hl2⟩ : ∃ l2, wrp (lf + n) = l2 := ⟨_, rfl⟩
        have HQ := Lib.hid (HT.out ⟨3, 0, l2, 0, tm⟩ (by rw [← hl2]; rfl))
        have x1 : IntKind.i64.wrap (lf + n) = l2 := hl2
        clear hl2
        clear HT
        go_wp2_with (refine wpList_app _ (by rfl) (.tmp 70) (.tmp 72) _ rfl w.heap.size 46 i0_ _ 5 40 Try.underlying22 HI.out HZ.out HZ1.out HZ2.out rfl (by omega) (.slice A1 (n + i) c1) (n + i) (gc (g ++ (h.map (mvd n)).take i)) rfl ?own _ 1 1  ((⟨3, 0, l2, 0, tm⟩ : Rl).cells) rfl rfl ?row (cells_one _) (by simp only [maxLen]; omega) (by omega) ?size ?_)
        case own => exact own_below HO1.out (by repeat (first | exact Below.refl _ _ | (with_reducible refine Below.alloc ?_ (by first | omega | (simp; done) | (simp; omega)) _) | (with_reducible refine Below.setCell ?_ (by first | omega | (simp; done) | (simp; omega)) _)))
        case row => exact RowAt.of_block (box_new_ (by simp))
        case size => simp; omega
        intro A5 c5 w5 own5 gr5 at5
        have B5 : Hid (Below w.heap.size w w5) := Lib.hid (BW.out.trans (Below.grown (B := w.heap.size) (a := wr) (by repeat (first | exact Below.refl _ _ | (with_reducible refine Below.alloc ?_ (by first | omega | (simp; done) | (simp; omega)) _) | (with_reducible refine Below.setCell ?_ (by first | omega | (simp; done) | (simp; omega)) _))) gr5 (by simp; omega) (own_ge HO1.out)))
        rw [HQ.out] at own5
        have HO5 := Lib.hid own5
        clear own5 gr5 at5
        go_wp2_with fail
        go_roundw
        case rel => exact ⟨i + 1, A5, c5, by go_num, by omega, rfl, HO5, B5⟩
        case measure => simp [intOf]; omega
    · obtain rfl : i = m := by omega
      have ht : (h.map (mvd n)).take i = h.map (mvd n) := List.take_of_length_le (by rw [List.length_map, HHL.out]; exact Nat.le_refl _)
      rw [ht] at HO1
      have zs : w.heap.size ≤ wr.heap.size := BW.out.size
      go_wp2_with (refine wpList_app _ (by rfl) (.tmp 75) (.tmp 80) _ rfl w.heap.size 46 i0_ _ 5 40 Try.underlying22 HI.out HZ.out HZ1.out HZ2.out rfl (by omega) (.slice A1 (n + i) c1) (n + i) (gc (g ++ h.map (mvd n))) rfl ?own _ 1 1  ((⟨2, 0, (n : Int), ((n + i : Nat) : Int), 0⟩ : Rl).cells) rfl rfl ?row (cells_one _) (by simp only [maxLen]; omega) (by omega) ?size ?_)
      case own => exact own_below HO1.out (by repeat (first | exact Below.refl _ _ | (with_reducible refine Below.alloc ?_ (by first | omega | (simp; done) | (simp; omega)) _) | (with_reducible refine Below.setCell ?_ (by first | omega | (simp; done) | (simp; omega)) _)))
      case row => exact RowAt.of_block (box_new_ (by simp))
      case size => simp; omega
      intro A5 c5 w5 own5 gr5 at5
      have B5 : Hid (Below w.heap.size w w5) := Lib.hid (BW.out.trans (Below.grown (B := w.heap.size) (a := wr) (by repeat (first | exact Below.refl _ _ | (with_reducible refine Below.alloc ?_ (by first | omega | (simp; done) | (simp; omega)) _) | (with_reducible refine Below.setCell ?_ (by first | omega | (simp; done) | (simp; omega)) _))) gr5 (by simp; omega) (own_ge HO1.out)))
      rw [gc_snoc] at own5
      have HO5 := Lib.hid own5
      clear own5 gr5 at5
      go_wp2_with fail
      go_ret2
      exact ⟨A5, c5, by simp [HGL.out, HHL.out]; rfl, own_row _ HO5.out, B5.out⟩
end Go.Proofs.Ytcbahojefglakaa
