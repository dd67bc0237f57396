import Derived.Test.YtcbahojefglakaaGrTmA
import Derived.Laws.MakeOwn
import Derived.Test.YtcbahojefglakaaGrTmB
import Derived.Test.YtcbahojefglakaaRegLin
import Derived.Test.YtcbahojefglakaaOpenRules
/- Moved, Same, Clone; a copy that is the call's own; an empty list of rules with room. -/
namespace Go.Proofs.Ytcbahojefglakaa
set_option linter.unusedVariables false
set_option linter.unusedSimpArgs false
open Go.RowKit Go.Lib
attribute [local go_sem ↓] Go.wp_at_zero Go.wp_at_succ
def wrp (x : Int) : Int := IntKind.i64.wrap x
/-- a rule, its references moved by a number -/
def mvd (by_ : Int) (r : Rl) : Rl := if r.kd = 1 then r else if r.kd = 2 then ⟨r.kd, r.lt, wrp (r.lf + by_), wrp (r.rg + by_), r.tm⟩ else ⟨r.kd, r.lt, wrp (r.lf + by_), r.rg, r.tm⟩
theorem moved_one (lt lf rg tm b : Int) (w : World) : Calls Try.prog 35 #[.agg #[.int .i64 1, .int .u8 lt, .int .i64 lf, .int .i64 rg, .int .i64 tm], .int .i64 b] w fun e w' => e = .returned (.agg #[.int .i64 1, .int .u8 lt, .int .i64 lf, .int .i64 rg, .int .i64 tm]) ∧ Below w.heap.size w w' := by
  have zn : w.heap.size ≠ w.heap.size + 1 := by omega
  go_enter Try.func35, Try.ntmps35
  go_wp2_with fail
  refine bodyPost_ret (v := .agg #[.int .i64 1, .int .u8 lt, .int .i64 lf, .int .i64 rg, .int .i64 tm]) ?_ rfl ⟨rfl, ?_⟩
  · simp only [results, Try.results35]
    simp [go_sem]
  · repeat (first | exact Below.refl _ _ | (with_reducible refine Below.drew ?_) | (with_reducible refine Below.alloc ?_ (by first | (simp; done) | (simp; omega)) _) | (with_reducible refine Below.setCell ?_ (by simp) _))
theorem moved_two (lt lf rg tm b l2 r2 : Int) (h1 : wrp (lf + b) = l2) (h2 : wrp (rg + b) = r2) (w : World) : Calls Try.prog 35 #[.agg #[.int .i64 2, .int .u8 lt, .int .i64 lf, .int .i64 rg, .int .i64 tm], .int .i64 b] w fun e w' => e = .returned (.agg #[.int .i64 2, .int .u8 lt, .int .i64 l2, .int .i64 r2, .int .i64 tm]) ∧ Below w.heap.size w w' := by
  have zn : w.heap.size ≠ w.heap.size + 1 := by omega
  have e1 : IntKind.i64.wrap (lf + b) = l2 := h1
  have e2 : IntKind.i64.wrap (rg + b) = r2 := h2
  clear h1 h2
  go_enter Try.func35, Try.ntmps35
  go_wp2_with fail
  refine bodyPost_ret (v := .agg #[.int .i64 2, .int .u8 lt, .int .i64 l2, .int .i64 r2, .int .i64 tm]) ?_ rfl ⟨rfl, ?_⟩
  · simp only [results, Try.results35]
    simp [go_sem]
  · repeat (first | exact Below.refl _ _ | (with_reducible refine Below.drew ?_) | (with_reducible refine Below.alloc ?_ (by first | (simp; done) | (simp; omega)) _) | (with_reducible refine Below.setCell ?_ (by simp) _))
theorem moved_else (kd lt lf rg tm b l2 : Int) (k1 : kd ≠ 1) (k2 : kd ≠ 2) (h1 : wrp (lf + b) = l2) (w : World) : Calls Try.prog 35 #[.agg #[.int .i64 kd, .int .u8 lt, .int .i64 lf, .int .i64 rg, .int .i64 tm], .int .i64 b] w fun e w' => e = .returned (.agg #[.int .i64 kd, .int .u8 lt, .int .i64 l2, .int .i64 rg, .int .i64 tm]) ∧ Below w.heap.size w w' := by
  have zn : w.heap.size ≠ w.heap.size + 1 := by omega
  have q1 : (kd != 1) = true := by rw [bne_iff_ne]; exact k1
  have q2 : (kd == 2) = false := by rw [beq_eq_false_iff_ne]; exact k2
  have e1 : IntKind.i64.wrap (lf + b) = l2 := h1
  clear h1 k1 k2
  go_enter Try.func35, Try.ntmps35
  go_wp2_with fail
  refine bodyPost_ret (v := .agg #[.int .i64 kd, .int .u8 lt, .int .i64 l2, .int .i64 rg, .int .i64 tm]) ?_ rfl ⟨rfl, ?_⟩
  · simp only [results, Try.results35]
    simp [go_sem]
  · repeat (first | exact Below.refl _ _ | (with_reducible refine Below.drew ?_) | (with_reducible refine Below.alloc ?_ (by first | (simp; done) | (simp; omega)) _) | (with_reducible refine Below.setCell ?_ (by simp) _))
theorem moved_any (r : Rl) (b : Int) (w : World) : Calls Try.prog 35 #[r.val, .int .i64 b] w fun e w' => e = .returned (mvd b r).val ∧ Below w.heap.size w w' := by
  obtain ⟨kd, lt, lf, rg, tm⟩ := r
  by_cases h1 : kd = 1
  · subst h1; exact moved_one lt lf rg tm b w
  · by_cases h2 : kd = 2
    · subst h2; exact moved_two lt lf rg tm b _ _ rfl rfl w
    · have e : mvd b ⟨kd, lt, lf, rg, tm⟩ = ⟨kd, lt, wrp (lf + b), rg, tm⟩ := by unfold mvd; rw [if_neg h1, if_neg h2]
      rw [e]
      exact moved_else kd lt lf rg tm b _ h1 h2 rfl w
/-- what hands back a list of rules of the call's own -/
def OwnRules (w : World) (g : List Rl) (n : Nat) (e : Ending) (w' : World) : Prop := ∃ A c, e = .returned (.slice A n c) ∧ w'.ownsRow w.heap.size 46 5 (.slice A n c) n (gc g) ∧ Below w.heap.size w w'
theorem copied_own (g : List Rl) (n c : Nat) (A : Option Addr) (hl : g.length = n) (hn : n ≤ 3518437208883) (w : World) (ha : RowAt w A (gc g)) :
    Calls Try.prog 18 #[.slice A n c] w (OwnRules w g n) := by
  obtain ⟨i0_, hi, hz0, hz1, hz2⟩ := info_parts5 info_rule
  have HI := Lib.hid hi; have HZ := Lib.hid hz0; have HZ1 := Lib.hid hz1; have HZ2 := Lib.hid hz2
  have HA := Lib.hid (ha.below (balloc (Below.refl w.heap.size w) (.cells #[] 46)) (Nat.le_refl _))
  have HL := Lib.hid hl
  have HO := Lib.hid (own_made w 46 5)
  clear hi hz0 hz1 hz2 ha hl
  go_enter Try.func18, Try.ntmps18
  go_wp2_with (refine wpList_app _ (by rfl) (.tmp 3) (.tmp 4) _ rfl (w.heap.size) 46 i0_ _ 5 40 Try.underlying22 HI.out HZ.out HZ1.out HZ2.out rfl (by omega) (.slice (some ⟨w.heap.size, 0, none⟩) 0 0) 0 [] rfl HO.out A n c (gc g) rfl (by rw [gc_len, HL.out]) HA.out (gc_one g) (by simp only [maxLen]; omega) (by omega) ?size ?_)
  case size => simp
  intro A3 c3 w3 own3 gr3 at3
  have B3 := Lib.hid ((balloc (Below.refl w.heap.size w) (.cells #[] 46)).grown gr3 (by simp) (own_ge HO.out))
  have HO3 := Lib.hid own3
  clear own3 gr3 at3
  go_wp2_with fail
  go_ret
  exact ⟨A3, c3, rfl, HO3.out, B3.out⟩
set_option maxRecDepth 100000 in
theorem clone_any (g : List Rl) (n c : Nat) (ad : Addr) (hl : g.length = n) (hn : n ≤ 3518437208883) (w : World) (ha : RowAt w (some ad) (gc g)) :
    Calls Try.prog 52 #[.slice (some ad) n c] w (OwnRules w g n) := by
  obtain ⟨i0_, hi, hz0, hz1, hz2⟩ := info_parts5 info_rule
  have HI := Lib.hid hi; have HZ := Lib.hid hz0; have HZ1 := Lib.hid hz1; have HZ2 := Lib.hid hz2
  have HA := Lib.hid (ha.below (balloc (Below.refl w.heap.size w) (.cells #[] 46)) (Nat.le_refl _))
  have HL := Lib.hid hl
  have HO := Lib.hid (own_made w 46 5)
  have hnil : ∀ w : World, (binOp .eql 22 (.slice (some ad) n c) (.slice none 0 0)).run Try.prog w = .ok (.bool false) w := fun w => Lib.run_eql_slice_nil w 22 46 (some ad) n c 0 0 Try.underlying22
  clear hi hz0 hz1 hz2 ha hl
  go_enter Try.func52, Try.ntmps52
  go_wp2_with (refine wpList_app _ (by rfl) (.tmp 5) (.tmp 6) _ rfl (w.heap.size) 46 i0_ _ 5 40 Try.underlying22 HI.out HZ.out HZ1.out HZ2.out rfl (by omega) (.slice (some ⟨w.heap.size, 0, none⟩) 0 0) 0 [] rfl HO.out (some ad) n c (gc g) rfl (by rw [gc_len, HL.out]) HA.out (gc_one g) (by simp only [maxLen]; omega) (by omega) ?size ?_)
  case size => simp
  intro A3 c3 w3 own3 gr3 at3
  have B3 := Lib.hid ((balloc (Below.refl w.heap.size w) (.cells #[] 46)).grown gr3 (by simp) (own_ge HO.out))
  have HO3 := Lib.hid own3
  clear own3 gr3 at3
  go_wp2_with fail
  go_ret
  exact ⟨A3, c3, rfl, HO3.out, B3.out⟩
set_option maxRecDepth 100000 in
theorem clone_nil (w : World) : Calls Try.prog 52 #[.slice none 0 0] w (OwnRules w [] 0) := by
  have hnil : ∀ w : World, (binOp .eql 22 (.slice none 0 0) (.slice none 0 0)).run Try.prog w = .ok (.bool true) w := fun w => Lib.run_eql_slice_nil w 22 46 none 0 0 0 0 Try.underlying22
  go_enter Try.func52, Try.ntmps52
  go_wp2_with fail
  go_ret
  exact ⟨none, 0, rfl, ⟨rfl, .inl ⟨rfl, rfl⟩⟩, Below.refl _ _⟩
def room (c : Nat) : Array Value := madeCells (Value.agg #[.int .i64 0, .int .u8 0, .int .i64 0, .int .i64 0, .int .i64 0]).cells (c * 5)
theorem mk_rules (c : Nat) (hc : c ≤ 1000000) (w : World) (ci : Int) (hci : ci = c) :
    (Instr.makeSlice 22 (.int .i64 0) (.int .i64 ci)).run Try.prog w = .ok (.slice (some ⟨w.heap.size, 0, none⟩) 0 c) (w.alloc (.cells (room c) 46)) := by
  obtain ⟨i0_, hi, hz0, hz1, hz2⟩ := info_parts5 info_rule
  have h := run_makeSlice (P := Try.prog) w 22 46 i0_ _ Try.underlying22 hi hz0 .i64 .i64 0 ci (by omega) (by omega) (by rw [hz1]; omega) (by rw [hz2]; omega) (by omega)
  rw [h, hz1, hci]
  rfl
theorem own_room (w : World) (c : Nat) (hc : c ≤ 1000000) : (w.alloc (.cells (room c) 46)).ownsRow w.heap.size 46 5 (.slice (some ⟨w.heap.size, 0, none⟩) 0 c) 0 [] :=
  ⟨by simp, .inr ⟨w.heap.size, c, room c, rfl, Nat.le_refl _, heap_alloc_new w _, Nat.zero_le _, by simp only [maxLen]; omega, by simp [room, madeCells], by simp⟩⟩
end Go.Proofs.Ytcbahojefglakaa
/- Same at equal lists of rules. Written by wip/gen/grsame.py. -/
namespace Go.Proofs.Ytcbahojefglakaa
set_option linter.unusedVariables false
set_option linter.unusedSimpArgs false
open Go.RowKit Go.Lib
attribute [local go_sem ↓] Go.wp_at_zero Go.wp_at_succ
set_option maxRecDepth 100000 in
set_option maxHeartbeats 4000000 in
theorem same_any (l : List Rl) (n c d : Nat) (A C : Option Addr) (hl : l.length = n) (hn : n ≤ 1000000) (w : World) (ha : RowAt w A (gc l)) (hb : RowAt w C (gc l)) :
    Calls Try.prog 32 #[.slice A n c, .slice C n d] w fun e w' => e = .returned (.bool true) ∧ Below w.heap.size w w' := by
  have HA := Lib.hid ha; have HB := Lib.hid hb; have HL := Lib.hid hl
  clear ha hb hl
  go_enter Try.func32, Try.ntmps32
  go_wp2_with fail
  go_loopw [5] (fun si wr => ∃ i : Nat, si = .int .i64 (i : Int) ∧ i ≤ n ∧ Hid (Below w.heap.size w wr)) (fun si _ => n - (intOf si).toNat)
  case atStart => exact ⟨0, rfl, by omega, Lib.hid (Below.refl _ _)⟩
  case round =>
    obtain ⟨i, rfl, hi, BW⟩ := hrel
    by_cases hlt : i < n
    · have hil : i < l.length := by rw [HL.out]; exact hlt
      obtain ⟨r, hr⟩ : ∃ r, l[i]? = some r := ⟨_, List.getElem?_eq_getElem hil⟩
      obtain ⟨a1, rfl, ha1, c0, c1, c2, c3, c4⟩ := row_rl (HA.out.below BW.out (Nat.le_refl _)) hr
      obtain ⟨b1, rfl, hb1, d0, d1, d2, d3, d4⟩ := row_rl (HB.out.below BW.out (Nat.le_refl _)) hr
      obtain ⟨kd, lt, lf, rg, tm⟩ := r
      simp only at c0 c1 c2 c3 c4 d0 d1 d2 d3 d4
      have ha2 : (a1.add (i * 5)).block < wr.heap.size := by rw [block_add]; exact ha1
      have hb2 : (b1.add (i * 5)).block < wr.heap.size := by rw [block_add]; exact hb1
      have i0 : (0 : Int) ≤ i := by omega
      have i1 : (i : Int) < (n : Int) := by omega
      clear hr
      go_upto_region 6 with fail
      refine region_lin (.val (fun v _ => v = .slice (some a1) n c) :: .val (fun v _ => v = .int .i64 (i : Int)) :: .val (fun v _ => v = .pointer (some (a1.add (i * 5)))) :: .val (fun v _ => v = .agg #[.int .i64 kd, .int .u8 lt, .int .i64 lf, .int .i64 rg, .int .i64 tm]) :: .val (fun v _ => v = .slice (some b1) n d) :: .val (fun v _ => v = .int .i64 (i : Int)) :: .val (fun v _ => v = .pointer (some (b1.add (i * 5)))) :: .val (fun v _ => v = .agg #[.int .i64 kd, .int .u8 lt, .int .i64 lf, .int .i64 rg, .int .i64 tm]) :: .val (fun v _ => v = .bool false) :: [])
        ([] :: [] :: [(17, 0), (18, 1)] :: [(19, 2)] :: [] :: [] :: [(21, 4), (22, 5)] :: [(23, 6)] :: [(20, 3), (24, 7)] :: []) ((0, 0) :: (0, 0) :: (0, 0) :: (0, 0) :: (0, 0) :: (0, 0) :: (0, 0) :: (0, 0) :: (0, 0) :: []) 26 (by kernel_rfl) rfl rfl (by kernel_rfl) ⟨Stab.pure _ _ _, Stab.pure _ _ _, Stab.pure _ _ _, Stab.pure _ _ _, Stab.pure _ _ _, Stab.pure _ _ _, Stab.pure _ _ _, Stab.pure _ _ _, Stab.pure _ _ _, trivial⟩ ⟨?_, ?_, ?_, ?_, ?_, ?_, ?_, ?_, ?_, trivial⟩ ?_
      · intro wx hb
        intro K hK
        go_simp
        exact hK _ _ rfl ⟨rfl, Below.refl _ _⟩
      · intro wx hb
        intro K hK
        go_simp
        exact hK _ _ rfl ⟨rfl, Below.refl _ _⟩
      · intro wx hb
        rintro _ rfl
        rintro _ rfl
        intro K hK
        go_simp
        exact hK _ _ rfl ⟨rfl, Below.refl _ _⟩
      · intro wx hb
        rintro _ rfl
        intro K hK
        have z0 := (hb.cell (p := (a1.add (i * 5))) ha2).trans c0; have z1 := (hb.cell (p := ⟨(a1.add (i * 5)).block, (a1.add (i * 5)).off + 1, none⟩) ha2).trans c1; have z2 := (hb.cell (p := ⟨(a1.add (i * 5)).block, (a1.add (i * 5)).off + 2, none⟩) ha2).trans c2; have z3 := (hb.cell (p := ⟨(a1.add (i * 5)).block, (a1.add (i * 5)).off + 3, none⟩) ha2).trans c3; have z4 := (hb.cell (p := ⟨(a1.add (i * 5)).block, (a1.add (i * 5)).off + 4, none⟩) ha2).trans c4; go_simp; exact hK _ _ rfl ⟨rfl, Below.refl _ _⟩
      · intro wx hb
        intro K hK
        go_simp
        exact hK _ _ rfl ⟨rfl, Below.refl _ _⟩
      · intro wx hb
        intro K hK
        go_simp
        exact hK _ _ rfl ⟨rfl, Below.refl _ _⟩
      · intro wx hb
        rintro _ rfl
        rintro _ rfl
        intro K hK
        go_simp
        exact hK _ _ rfl ⟨rfl, Below.refl _ _⟩
      · intro wx hb
        rintro _ rfl
        intro K hK
        have z0 := (hb.cell (p := (b1.add (i * 5))) hb2).trans d0; have z1 := (hb.cell (p := ⟨(b1.add (i * 5)).block, (b1.add (i * 5)).off + 1, none⟩) hb2).trans d1; have z2 := (hb.cell (p := ⟨(b1.add (i * 5)).block, (b1.add (i * 5)).off + 2, none⟩) hb2).trans d2; have z3 := (hb.cell (p := ⟨(b1.add (i * 5)).block, (b1.add (i * 5)).off + 3, none⟩) hb2).trans d3; have z4 := (hb.cell (p := ⟨(b1.add (i * 5)).block, (b1.add (i * 5)).off + 4, none⟩) hb2).trans d4; go_simp; exact hK _ _ rfl ⟨rfl, Below.refl _ _⟩
      · intro wx hb
        rintro _ rfl
        rintro _ rfl
        intro K hK
        go_simp
        exact hK _ _ rfl ⟨rfl, Below.refl _ _⟩
      intro w3 B3
      rintro _ rfl
      rintro _ rfl
      rintro _ rfl
      rintro _ rfl
      rintro _ rfl
      rintro _ rfl
      rintro _ rfl
      rintro _ rfl
      rintro _ rfl
      rintro -
      simp only [Act.put, List.setIfInBounds_toArray, List.set_cons_zero, List.set_cons_succ, List.toList_toArray, List.length_cons, List.length_nil, List.drop_succ_cons, List.drop_zero, List.drop_nil, Nat.zero_add, wpList]
      have BW3 := Lib.hid (bkeep BW.out B3)
      clear B3
      go_wp2_with fail
      go_roundw
      case rel => exact ⟨i + 1, by go_num, by omega, BW3⟩
      case measure => simp [intOf]; omega
    · obtain rfl : i = n := by omega
      go_wp2_with fail
      go_ret
      exact ⟨rfl, BW.out⟩
end Go.Proofs.Ytcbahojefglakaa
/- Plain laws: what Trim computes is valid, without doubles, has the same text, uses every rule, and is its own trim. -/
namespace Go.Proofs.Ytcbahojefglakaa
set_option linter.unusedVariables false
set_option linter.unusedSimpArgs false
theorem bset (u : List Bool) (k j : Nat) : (u.set k true).getD j false = if j = k ∧ k < u.length then true else u.getD j false := by
  rw [List.getD_eq_getElem?_getD, List.getD_eq_getElem?_getD, List.getElem?_set]
  by_cases e : k = j
  · subst e
    by_cases h : k < u.length
    · rw [if_pos rfl, if_pos h, if_pos ⟨rfl, h⟩]; rfl
    · rw [if_pos rfl, if_neg h, if_neg (fun q => h q.2), List.getElem?_eq_none (by omega)]
  · rw [if_neg e, if_neg (fun q => e q.1.symm)]
theorem mark_mono : ∀ (l : List Int) (u : List Bool) (j : Nat), u.getD j false = true → (mark u l).getD j false = true
  | [], _, _, h => h
  | x :: l, u, j, h => mark_mono l (u.set x.toNat true) j (by rw [bset]; split <;> first | rfl | exact h)
theorem mark_in : ∀ (l : List Int) (u : List Bool) (x : Int), x ∈ l → x.toNat < u.length → (mark u l).getD x.toNat false = true
  | y :: l, u, x, hx, hl => by
    show (mark (u.set y.toNat true) l).getD x.toNat false = true
    rcases List.mem_cons.1 hx with rfl | hx
    · exact mark_mono l _ _ (by rw [bset, if_pos ⟨rfl, hl⟩])
    · exact mark_in l _ x hx (by rw [List.length_set]; exact hl)
theorem mark_only : ∀ (l : List Int) (u : List Bool) (j : Nat), (mark u l).getD j false = true → u.getD j false = true ∨ ∃ x ∈ l, x.toNat = j
  | [], _, _, h => .inl h
  | y :: l, u, j, h => by
    rcases mark_only l (u.set y.toNat true) j h with h | ⟨x, hx, e⟩
    · rw [bset] at h
      split at h
      · rename_i q; exact .inr ⟨y, by simp, q.1.symm⟩
      · exact .inl h
    · exact .inr ⟨x, by simp [hx], e⟩
section
variable {g : List Rl} {i a b : Nat} {lt tm : Int}
theorem refs_one : refsR ⟨1, lt, 0, 0, 0⟩ = [] := rfl
theorem refs_two : refsR ⟨2, 0, (a : Int) + 1, (b : Int) + 1, 0⟩ = [(a : Int) + 1, (b : Int) + 1] := rfl
theorem refs_three : refsR ⟨3, 0, (a : Int) + 1, 0, tm⟩ = [(a : Int) + 1] := rfl
end
theorem refs_in {g : List Rl} (h : gcode 0 g = 0) {i : Nat} {r : Rl} (hr : g[i]? = some r) {x : Int} (hx : x ∈ refsR r) : 1 ≤ x ∧ x ≤ i := by
  rcases rule_way' h hr with ⟨lt, rfl⟩ | ⟨a, b, rfl, ha, hb⟩ | ⟨a, tm, rfl, ha, ht⟩
  · rw [refs_one] at hx; cases hx
  · rw [refs_two] at hx
    simp at hx; omega
  · rw [refs_three] at hx
    simp at hx; omega
theorem ref_small {g : List Rl} (h : gcode 0 g = 0) {i j : Nat} {r : Rl} (hr : g[i]? = some r) (hx : ((j : Int) + 1) ∈ refsR r) : (tx g j).length < (tx g i).length := by
  have hi := (List.getElem?_eq_some_iff.1 hr).1
  have ps : ∀ k, k < i → 1 ≤ (tx g k).length := fun k hk => tx_pos h k _ (List.getElem?_eq_getElem (show k < g.length by omega))
  rcases rule_way' h hr with ⟨lt, rfl⟩ | ⟨a, b, rfl, ha, hb⟩ | ⟨a, tm, rfl, ha, ht⟩
  · rw [refs_one] at hx; cases hx
  · rw [refs_two] at hx
    rw [tx_pair hr ha hb, List.length_append]
    have h1 := ps a ha; have h2 := ps b hb
    have : j = a ∨ j = b := by simp at hx; omega
    rcases this with rfl | rfl <;> omega
  · rw [refs_three] at hx
    have : j = a := by simp at hx; omega
    subst this
    have h1 := ps j ha
    rw [tx_power hr ha, List.length_flatten, List.map_replicate, List.sum_replicate_nat]
    have : 2 * (tx g j).length ≤ tm.toNat * (tx g j).length := Nat.mul_le_mul_right _ (by omega)
    omega
/-- the marks, the rules from k on done -/
structure UOk (g : List Rl) (k : Nat) (u : List Bool) : Prop where
  len : u.length = g.length + 1
  top : u.getD g.length false = true
  cl : ∀ (i : Nat) (r : Rl) (x : Int), k ≤ i → g[i]? = some r → u.getD (i + 1) false = true → x ∈ refsR r → u.getD x.toNat false = true
  by_ : ∀ j : Nat, 1 ≤ j → u.getD j false = true → j = g.length ∨ ∃ (i : Nat) (r : Rl), k ≤ i ∧ j ≤ i ∧ g[i]? = some r ∧ u.getD (i + 1) false = true ∧ (j : Int) ∈ refsR r
theorem UOk.start (g : List Rl) : UOk g g.length (use0 g.length) := by
  have e : ∀ j, (use0 g.length).getD j false = decide (j = g.length) := by
    intro j
    unfold use0
    rw [List.getD_eq_getElem?_getD]
    by_cases h : j < g.length
    · rw [List.getElem?_append_left (by simpa using h), List.getElem?_replicate, if_pos h, decide_eq_false (by omega)]; rfl
    · rw [List.getElem?_append_right (by simp; omega), List.length_replicate]
      by_cases h2 : j = g.length
      · subst h2; simp
      · obtain ⟨d, hd⟩ : ∃ d, j - g.length = d + 1 := ⟨j - g.length - 1, by omega⟩
        rw [hd, decide_eq_false h2]; rfl
  refine ⟨by simp [use0], by rw [e]; simp, fun i r x hk hr => ?_, fun j _ h => .inl ?_⟩
  · rw [List.getElem?_eq_none hk] at hr; cases hr
  · rw [e] at h; exact of_decide_eq_true h
theorem UOk.step {g : List Rl} (h0 : gcode 0 g = 0) {k : Nat} {u : List Bool} (h : UOk g (k + 1) u) (hk : k < g.length) : UOk g k (useStep g u k) := by
  obtain ⟨r, hr⟩ : ∃ r, g[k]? = some r := ⟨_, List.getElem?_eq_getElem hk⟩
  by_cases hu : u.getD (k + 1) false = true
  · rw [useStep_yes hr hu]
    have hl := h.len
    have up : ∀ i, k ≤ i → (mark u (refsR r)).getD (i + 1) false = true → u.getD (i + 1) false = true := fun i hi hm => by
      rcases mark_only _ _ _ hm with hm | ⟨x, hx, e⟩
      · exact hm
      · have := refs_in h0 hr hx; omega
    refine ⟨(mark_len _ _).trans h.len, mark_mono _ _ _ h.top, fun i r2 x hi hr2 hm hx => ?_, fun j hj hm => ?_⟩
    · by_cases e : i = k
      · subst e
        rw [hr] at hr2; injection hr2 with hr2; subst hr2
        have := refs_in h0 hr hx
        exact mark_in _ _ _ hx (by omega)
      · exact mark_mono _ _ _ (h.cl i r2 x (by omega) hr2 (up i (by omega) hm) hx)
    · rcases mark_only _ _ _ hm with hm | ⟨x, hx, e⟩
      · rcases h.by_ j hj hm with e | ⟨i, r2, h1, h2, h3, h4, h5⟩
        · exact .inl e
        · exact .inr ⟨i, r2, by omega, h2, h3, mark_mono _ _ _ h4, h5⟩
      · have := refs_in h0 hr hx
        refine .inr ⟨k, r, Nat.le_refl _, by omega, hr, mark_mono _ _ _ hu, ?_⟩
        rw [← e, show ((x.toNat : Nat) : Int) = x by omega]; exact hx
  · have hu' : u.getD (k + 1) false = false := by simpa using hu
    rw [useStep_no hr hu']
    refine ⟨h.len, h.top, fun i r2 x hi hr2 hm hx => ?_, fun j hj hm => ?_⟩
    · by_cases e : i = k
      · subst e; exact absurd hm hu
      · exact h.cl i r2 x (by omega) hr2 hm hx
    · rcases h.by_ j hj hm with e | ⟨i, r2, h1, h2, h3, h4, h5⟩
      · exact .inl e
      · exact .inr ⟨i, r2, by omega, h2, h3, h4, h5⟩
theorem used_ok {g : List Rl} (h0 : gcode 0 g = 0) : UOk g 0 (used g) := by
  have : ∀ (k : Nat) (u : List Bool), k ≤ g.length → UOk g k u → UOk g 0 (useFrom g k u) := by
    intro k
    induction k with
    | zero => intro u _ h; exact h
    | succ k ih => intro u hk h; exact ih _ (by omega) (h.step h0 (by omega))
  exact this g.length _ (Nat.le_refl _) (UOk.start g)
theorem used_small {g : List Rl} (h0 : gcode 0 g = 0) {U : List Bool} (hU : UOk g 0 U) : ∀ (d j : Nat), g.length - j = d → U.getD (j + 1) false = true → j + 1 < g.length → (tx g j).length < (tx g (g.length - 1)).length := by
  intro d
  induction d using Nat.strongRecOn with
  | _ d ih =>
    intro j hd hu hj
    rcases hU.by_ (j + 1) (by omega) hu with e | ⟨i, r, _, h2, h3, h4, h5⟩
    · omega
    · have hi := (List.getElem?_eq_some_iff.1 h3).1
      have h6 := ref_small h0 (j := j) h3 (by rw [show ((j + 1 : Nat) : Int) = (j : Int) + 1 by omega] at h5; exact h5)
      by_cases e : i = g.length - 1
      · rw [← e]; exact h6
      · have := ih (g.length - i) (by omega) i rfl h4 (by omega)
        omega
theorem tx_valid {g : List Rl} (h0 : gcode 0 g = 0) {k : Nat} {r : Rl} (hr : g[k]? = some r) : tx g k = tx1 (texts g) r := by
  rw [tx_eq hr]
  rcases rule_way' h0 hr with ⟨lt, rfl⟩ | ⟨a, b, rfl, ha, hb⟩ | ⟨a, tm, rfl, ha, ht⟩
  · rfl
  · unfold tx1
    simp only [if_true]
    rw [one_sub, one_sub, getD_take ha, getD_take hb]
  · unfold tx1
    rw [if_neg (by simp), if_pos rfl, if_neg (by simp), if_pos rfl]
    simp only []
    rw [one_sub, getD_take ha]
theorem texts_snoc (g : List Rl) (r : Rl) : texts (g ++ [r]) = texts g ++ [tx1 (texts g) r] := by unfold texts; rw [fwd_app]; rfl
theorem tx_old (g : List Rl) (r : Rl) {p : Nat} (h : p < g.length) : tx (g ++ [r]) p = tx g p := by
  unfold tx; rw [texts_snoc]; exact getD_app _ _ _ _ (by rw [texts_len]; exact h)
theorem tx_new (g : List Rl) (r : Rl) : tx (g ++ [r]) g.length = tx1 (texts g) r := by
  unfold tx; rw [texts_snoc]
  have := getD_add (texts g) [tx1 (texts g) r] 0 []
  rw [texts_len, Nat.add_zero] at this
  rw [this]; rfl
section
variable {a b : Nat} {lt tm : Int} {tb : List Int}
theorem mv_one : mvd2 ⟨1, lt, 0, 0, 0⟩ tb = ⟨1, lt, 0, 0, 0⟩ := rfl
theorem mv_two : mvd2 ⟨2, 0, (a : Int) + 1, (b : Int) + 1, 0⟩ tb = ⟨2, 0, tb.getD (a + 1) 0, tb.getD (b + 1) 0, 0⟩ := rfl
theorem mv_three : mvd2 ⟨3, 0, (a : Int) + 1, 0, tm⟩ tb = ⟨3, 0, tb.getD (a + 1) 0, 0, tm⟩ := rfl
end
theorem iset_ne {l : List Int} {i j : Nat} (h : i ≠ j) (v : Int) : (l.set i v).getD j 0 = l.getD j 0 := by
  rw [List.getD_eq_getElem?_getD, List.getD_eq_getElem?_getD, List.getElem?_set_ne h]
theorem iset_eq {l : List Int} {i : Nat} (h : i < l.length) (v : Int) : (l.set i v).getD i 0 = v := by
  rw [List.getD_eq_getElem?_getD, List.getElem?_set_self h]; rfl
theorem mv_set {g : List Rl} (h0 : gcode 0 g = 0) {i k : Nat} {r : Rl} (hr : g[i]? = some r) (hk : i < k) (tb : List Int) (v : Int) : mvd2 r (tb.set k v) = mvd2 r tb := by
  rcases rule_way' h0 hr with ⟨lt, rfl⟩ | ⟨a, b, rfl, ha, hb⟩ | ⟨a, tm, rfl, ha, ht⟩
  · rfl
  · rw [mv_two, mv_two, iset_ne (by omega), iset_ne (by omega)]
  · rw [mv_three, mv_three, iset_ne (by omega)]
/-- between the rounds of Trim -/
structure TOk (g : List Rl) (U : List Bool) (i : Nat) (out : List Rl) (tb : List Int) : Prop where
  len : tb.length = g.length + 1
  code : gcode 0 out = 0
  nd : ∀ (a b : Nat) (r : Rl), a < b → out[a]? = some r → out[b]? = some r → False
  pt : ∀ (j : Nat) (r : Rl), j < i → g[j]? = some r → U.getD (j + 1) false = true → ∃ p : Nat, tb.getD (j + 1) 0 = (p : Int) + 1 ∧ out[p]? = some (mvd2 r tb) ∧ tx out p = tx g j
  sj : ∀ p : Nat, p < out.length → ∃ j : Nat, j < i ∧ U.getD (j + 1) false = true ∧ tb.getD (j + 1) 0 = (p : Int) + 1
  fin : i = g.length → 1 ≤ i → tb.getD i 0 = (out.length : Int)
theorem TOk.start (g : List Rl) (U : List Bool) : TOk g U 0 [] (List.replicate (g.length + 1) 0) := ⟨by simp, rfl, fun a b r _ h => by simp at h, fun j r h => by omega, fun p h => by simp at h, fun _ h => by omega⟩
theorem TOk.step {g : List Rl} (h0 : gcode 0 g = 0) {U : List Bool} (hU : UOk g 0 U) {i : Nat} {r : Rl} {out : List Rl} {tb : List Int} (h : TOk g U i out tb) (hr : g[i]? = some r) :
    TOk g U (i + 1) (trStep U i r (out, tb)).1 (trStep U i r (out, tb)).2 := by
  have hi := (List.getElem?_eq_some_iff.1 hr).1
  have hl := h.len
  by_cases hu : U.getD (i + 1) false = true
  · -- the moved rule
    have ref : ∀ a : Nat, a < i → ((a : Int) + 1) ∈ refsR r → ∃ p : Nat, p < out.length ∧ tb.getD (a + 1) 0 = (p : Int) + 1 ∧ tx out p = tx g a := fun a ha hx => by
      have h1 := hU.cl i r _ (Nat.zero_le _) hr hu hx
      obtain ⟨p, h2, h3, h4⟩ := h.pt a _ ha (List.getElem?_eq_getElem (show a < g.length by omega)) (by rw [show ((a : Int) + 1).toNat = a + 1 by omega] at h1; exact h1)
      exact ⟨p, (List.getElem?_eq_some_iff.1 h3).1, h2, h4⟩
    have txa : ∀ p : Nat, (texts out).getD p [] = tx out p := fun p => rfl
    have q : rc (mvd2 r tb) ((out.length : Int) + 1) = 0 ∧ tx1 (texts out) (mvd2 r tb) = tx g i := by
      rcases rule_way' h0 hr with ⟨lt, rfl⟩ | ⟨a, b, rfl, ha, hb⟩ | ⟨a, tm, rfl, ha, ht⟩
      · rw [mv_one, tx_letter hr]; exact ⟨rc_letter _ _ (by omega), rfl⟩
      · obtain ⟨pa, a1, a2, a3⟩ := ref a ha (by rw [refs_two]; simp)
        obtain ⟨pb, b1, b2, b3⟩ := ref b hb (by rw [refs_two]; simp)
        rw [mv_two, a2, b2, tx_pair hr ha hb]
        refine ⟨rc_pair _ _ _ (by omega) (by omega) (by omega) (by omega), ?_⟩
        unfold tx1
        rw [if_pos rfl]
        simp only []
        rw [one_sub, one_sub, txa, txa, a3, b3]
      · obtain ⟨pa, a1, a2, a3⟩ := ref a ha (by rw [refs_three]; simp)
        rw [mv_three, a2, tx_power hr ha]
        refine ⟨rc_power _ _ _ (by omega) (by omega) ht, ?_⟩
        unfold tx1
        rw [if_neg (by simp), if_pos rfl]
        simp only []
        rw [one_sub, txa, a3]
    by_cases hp : pos out (mvd2 r tb) = 0
    · rw [trStep_new hu hp]
      have hn : mvd2 r tb ∉ out := (pos_zero _ _).1 hp
      have last : (out ++ [mvd2 r tb])[out.length]? = some (mvd2 r tb) := by rw [List.getElem?_append_right (Nat.le_refl _), Nat.sub_self]; rfl
      refine ⟨by rw [List.length_set]; exact hl, ?_, fun a b r2 hab ha hb => ?_, fun j r2 hj hr2 hu2 => ?_, fun p hp2 => ?_, fun e _ => ?_⟩
      · show gcode 0 (out ++ [mvd2 r tb]) = 0
        rw [gcode_app out [mvd2 r tb] 0 h.code, Nat.zero_add]
        show (if rc (mvd2 r tb) (out.length + 1) = 0 then gcode (out.length + 1) [] else rc (mvd2 r tb) (out.length + 1)) = 0
        rw [if_pos q.1]; rfl
      · have hbl := (List.getElem?_eq_some_iff.1 hb).1
        have hbl2 : b < out.length + 1 := by simpa using hbl
        rw [List.getElem?_append_left (by omega)] at ha
        by_cases e : b < out.length
        · rw [List.getElem?_append_left e] at hb
          exact h.nd a b r2 hab ha hb
        · obtain rfl : b = out.length := by omega
          rw [last] at hb; injection hb with hb; subst hb
          exact hn (List.mem_of_getElem? ha)
      · by_cases e : j = i
        · subst e
          rw [hr] at hr2; injection hr2 with hr2; subst hr2
          refine ⟨out.length, iset_eq (by omega) _, ?_, ?_⟩
          · rw [mv_set h0 hr (by omega)]; exact last
          · show tx (out ++ [mvd2 r tb]) out.length = _
            rw [tx_new]; exact q.2
        · obtain ⟨p, p1, p2, p3⟩ := h.pt j r2 (by omega) hr2 hu2
          have hpl := (List.getElem?_eq_some_iff.1 p2).1
          refine ⟨p, by rw [iset_ne (by omega)]; exact p1, ?_, ?_⟩
          · rw [mv_set h0 hr2 (by omega), List.getElem?_append_left hpl]; exact p2
          · show tx (out ++ [mvd2 r tb]) p = _
            rw [tx_old _ _ hpl]; exact p3
      · have hp3 : p < out.length + 1 := by simpa using hp2
        by_cases e : p < out.length
        · obtain ⟨j, j1, j2, j3⟩ := h.sj p e
          exact ⟨j, by omega, j2, by rw [iset_ne (by omega)]; exact j3⟩
        · obtain rfl : p = out.length := by omega
          exact ⟨i, by omega, hu, iset_eq (by omega) _⟩
      · show (tb.set (i + 1) ((out.length : Int) + 1)).getD (i + 1) 0 = ((out ++ [mvd2 r tb]).length : Int)
        rw [iset_eq (by omega), List.length_append]; rfl
    · rw [trStep_old hu hp]
      obtain ⟨p, hpe⟩ : ∃ p, pos out (mvd2 r tb) = p + 1 := ⟨pos out (mvd2 r tb) - 1, by omega⟩
      have hg := pos_get out (mvd2 r tb) hp
      rw [hpe, Nat.add_sub_cancel] at hg
      have hpl := (List.getElem?_eq_some_iff.1 hg).1
      have hx : tx out p = tx g i := by rw [tx_valid h.code hg]; exact q.2
      rw [hpe]
      refine ⟨by rw [List.length_set]; exact hl, h.code, h.nd, fun j r2 hj hr2 hu2 => ?_, fun p2 hp2 => ?_, fun e _ => ?_⟩
      · by_cases e : j = i
        · subst e
          rw [hr] at hr2; injection hr2 with hr2; subst hr2
          exact ⟨p, (iset_eq (by omega) _).trans (by omega), by rw [mv_set h0 hr (by omega)]; exact hg, hx⟩
        · obtain ⟨p2, p1, p3, p4⟩ := h.pt j r2 (by omega) hr2 hu2
          exact ⟨p2, by rw [iset_ne (by omega)]; exact p1, by rw [mv_set h0 hr2 (by omega)]; exact p3, p4⟩
      · obtain ⟨j, j1, j2, j3⟩ := h.sj p2 hp2
        exact ⟨j, by omega, j2, by rw [iset_ne (by omega)]; exact j3⟩
      · obtain ⟨j, j1, j2, j3⟩ := h.sj p hpl
        obtain ⟨p2, k1, k2, k3⟩ := h.pt j _ j1 (List.getElem?_eq_getElem (show j < g.length by omega)) j2
        have : p2 = p := by omega
        subst this
        have hs := used_small h0 hU _ j rfl j2 (by omega)
        rw [← k3, hx, show g.length - 1 = i by omega] at hs
        exact absurd hs (Nat.lt_irrefl _)
  · have hu' : U.getD (i + 1) false = false := by simpa using hu
    rw [trStep_no hu']
    refine ⟨hl, h.code, h.nd, fun j r2 hj hr2 hu2 => ?_, fun p hp => ?_, fun e _ => ?_⟩
    · by_cases e : j = i
      · subst e; exact absurd hu2 hu
      · exact h.pt j r2 (by omega) hr2 hu2
    · obtain ⟨j, j1, j2, j3⟩ := h.sj p hp
      exact ⟨j, by omega, j2, j3⟩
    · have := hU.top
      rw [← e] at this
      exact absurd this hu
theorem trim_tok {g : List Rl} (h0 : gcode 0 g = 0) : ∃ tb, TOk g (used g) g.length (trim g) tb := by
  have hU := used_ok h0
  have : ∀ (k i : Nat) (s : List Rl × List Int), g.length - i = k → i ≤ g.length → TOk g (used g) i s.1 s.2 → TOk g (used g) g.length (trFrom (used g) i (g.drop i) s).1 (trFrom (used g) i (g.drop i) s).2 := by
    intro k
    induction k with
    | zero =>
      intro i s hk hi h
      obtain rfl : i = g.length := by omega
      rw [trFrom_end (Nat.le_refl _)]; exact h
    | succ k ih =>
      intro i s hk hi h
      have hr : g[i]? = some (g[i]'(by omega)) := List.getElem?_eq_getElem _
      rw [trFrom_at hr]
      exact ih (i + 1) _ (by omega) (by omega) (h.step h0 hU hr)
  exact ⟨_, this g.length 0 (tr0 g.length) (by omega) (Nat.zero_le _) (TOk.start g _)⟩
/-- what Trim gives -/
structure Trd (g t : List Rl) : Prop where
  code : gcode 0 t = 0
  nd : ∀ (a b : Nat) (r : Rl), a < b → t[a]? = some r → t[b]? = some r → False
  ra : ∀ p : Nat, p + 1 < t.length → ∃ (q : Nat) (r : Rl), t[q]? = some r ∧ ((p : Int) + 1) ∈ refsR r
  fr : ∀ p : Nat, p < t.length → ∃ j : Nat, j < g.length ∧ tx t p = tx g j
  nil : t.length = 0 ↔ g.length = 0
  last : 1 ≤ g.length → tx t (t.length - 1) = tx g (g.length - 1)
theorem trim_trd {g : List Rl} (h0 : gcode 0 g = 0) : Trd g (trim g) := by
  obtain ⟨tb, h⟩ := trim_tok h0
  have hU := used_ok h0
  have hp : 1 ≤ g.length → ∃ p : Nat, p + 1 = (trim g).length ∧ tx (trim g) p = tx g (g.length - 1) := fun hn => by
    have ht := hU.top
    obtain ⟨p, p1, p2, p3⟩ := h.pt (g.length - 1) _ (by omega) (List.getElem?_eq_getElem (show g.length - 1 < g.length by omega)) (by rw [show g.length - 1 + 1 = g.length by omega]; exact ht)
    have := h.fin rfl hn
    rw [show g.length - 1 + 1 = g.length by omega, this] at p1
    exact ⟨p, by omega, p3⟩
  refine ⟨h.code, h.nd, fun p hpl => ?_, fun p hpl => ?_, ⟨fun e => ?_, fun e => ?_⟩, fun hn => ?_⟩
  · obtain ⟨j, j1, j2, j3⟩ := h.sj p (by omega)
    rcases hU.by_ (j + 1) (by omega) j2 with e | ⟨i, r, _, h2, h3, h4, h5⟩
    · have := h.fin rfl (by omega)
      rw [← e, j3] at this; omega
    · have hi := (List.getElem?_eq_some_iff.1 h3).1
      obtain ⟨q, q1, q2, q3⟩ := h.pt i r hi h3 h4
      refine ⟨q, _, q2, ?_⟩
      rw [← j3]
      rcases rule_way' h0 h3 with ⟨lt, rfl⟩ | ⟨a, b, rfl, ha, hb⟩ | ⟨a, tm, rfl, ha, ht⟩
      · rw [refs_one] at h5; cases h5
      · rw [refs_two] at h5
        have : j = a ∨ j = b := by simp at h5; omega
        rcases this with rfl | rfl
        · rw [mv_two]; simp [refsR, refsOf]
        · rw [mv_two]; simp [refsR, refsOf]
      · rw [refs_three] at h5
        have : j = a := by simp at h5; omega
        subst this
        rw [mv_three]; simp [refsR, refsOf]
  · obtain ⟨j, j1, j2, j3⟩ := h.sj p hpl
    obtain ⟨q, q1, q2, q3⟩ := h.pt j _ j1 (List.getElem?_eq_getElem j1) j2
    have : q = p := by omega
    subst this
    exact ⟨j, j1, q3⟩
  · by_cases hn : 1 ≤ g.length
    · obtain ⟨p, p1, _⟩ := hp hn; omega
    · omega
  · by_cases ht : 0 < (trim g).length
    · obtain ⟨j, j1, _⟩ := h.sj 0 ht; omega
    · omega
  · obtain ⟨p, p1, p2⟩ := hp hn
    rw [← p1, Nat.add_sub_cancel]; exact p2
/-- a trimmed grammar is its own trim -/
theorem trim_self {t : List Rl} (h0 : gcode 0 t = 0) (nd : ∀ (a b : Nat) (r : Rl), a < b → t[a]? = some r → t[b]? = some r → False)
    (ra : ∀ p : Nat, p + 1 < t.length → ∃ (q : Nat) (r : Rl), t[q]? = some r ∧ ((p : Int) + 1) ∈ refsR r) : trim t = t := by
  have hU := used_ok h0
  have all : ∀ (d p : Nat), t.length - p = d → p < t.length → (used t).getD (p + 1) false = true := by
    intro d
    induction d using Nat.strongRecOn with
    | _ d ih =>
      intro p hd hp
      by_cases e : p + 1 = t.length
      · rw [e]; exact hU.top
      · obtain ⟨q, r, hq, hx⟩ := ra p (by omega)
        have hql := (List.getElem?_eq_some_iff.1 hq).1
        have hin := refs_in h0 hq hx
        have := hU.cl q r _ (Nat.zero_le _) hq (ih (t.length - q) (by omega) q rfl hql) hx
        rw [show ((p : Int) + 1).toNat = p + 1 by omega] at this
        exact this
  have run : ∀ (k i : Nat) (tb : List Int), t.length - i = k → i ≤ t.length → tb.length = t.length + 1 → (∀ j : Nat, j < i → tb.getD (j + 1) 0 = (j : Int) + 1) → (trFrom (used t) i (t.drop i) (t.take i, tb)).1 = t := by
    intro k
    induction k with
    | zero =>
      intro i tb hk hi hl h
      obtain rfl : i = t.length := by omega
      rw [trFrom_end (Nat.le_refl _)]; simp
    | succ k ih =>
      intro i tb hk hi hl h
      have hr : t[i]? = some (t[i]'(by omega)) := List.getElem?_eq_getElem _
      have hm : mvd2 (t[i]'(by omega)) tb = t[i]'(by omega) := by
        obtain ⟨r, hre⟩ : ∃ r, r = t[i]'(by omega) := ⟨_, rfl⟩
        rw [← hre] at hr ⊢
        rcases rule_way' h0 hr with ⟨lt, rfl⟩ | ⟨a, b, rfl, ha, hb⟩ | ⟨a, tm, rfl, ha, ht⟩
        · rfl
        · rw [mv_two, h a ha, h b hb]
        · rw [mv_three, h a ha]
      have hp : pos (t.take i) (mvd2 (t[i]'(by omega)) tb) = 0 := by
        rw [hm]
        refine (pos_zero _ _).2 fun hmem => ?_
        obtain ⟨a, ha⟩ := List.getElem?_of_mem hmem
        have hal := (List.getElem?_eq_some_iff.1 ha).1
        rw [List.length_take] at hal
        rw [List.getElem?_take_of_lt (by omega)] at ha
        exact nd a i _ (by omega) ha hr
      rw [trFrom_at hr, trStep_new (all _ i rfl (by omega)) hp, hm]
      have e : t.take i ++ [t[i]'(by omega)] = t.take (i + 1) := by rw [List.take_add_one, hr]; rfl
      rw [e]
      refine ih (i + 1) _ (by omega) (by omega) (by rw [List.length_set]; exact hl) fun j hj => ?_
      by_cases ej : j = i
      · subst ej
        rw [iset_eq (by omega), List.length_take]; omega
      · rw [iset_ne (by omega)]; exact h j (by omega)
  have := run t.length 0 (List.replicate (t.length + 1) 0) (by omega) (Nat.zero_le _) (by simp) (fun j hj => by omega)
  exact this
/-- short texts: valid lengths -/
theorem lens_of_le {t : List Rl} (h0 : gcode 0 t = 0) (hle : ∀ p : Nat, p < t.length → ((tx t p).length : Int) ≤ 1152921504606846976) : (lens t).2 = 0 := by
  rw [lens_ok h0]
  have run : ∀ (k i : Nat), t.length - i = k → i ≤ t.length → lensFrom (tls t i) (t.drop i) = (tls t t.length, 0) := by
    intro k
    induction k with
    | zero =>
      intro i hk hi
      obtain rfl : i = t.length := by omega
      exact lf_end (Nat.le_refl _)
    | succ k ih =>
      intro i hk hi
      have hr : t[i]? = some (t[i]'(by omega)) := List.getElem?_eq_getElem _
      obtain ⟨r, hre⟩ : ∃ r, r = t[i]'(by omega) := ⟨_, rfl⟩
      rw [← hre] at hr
      have hlen : len1 (tls t i) r = (((tx t i).length : Int), 0) := by
        have hti := hle i (by omega)
        rcases rule_way' h0 hr with ⟨lt, rfl⟩ | ⟨a, b, rfl, ha, hb⟩ | ⟨a, tm, rfl, ha, ht⟩
        · rw [len1_letter _ rfl, tx_letter hr]; rfl
        · rw [len1_pair _ rfl]
          simp only []
          rw [one_sub, one_sub, tls_get t ha, tls_get t hb]
          rw [tx_pair hr ha hb, List.length_append] at hti ⊢
          have h1 := hle a (by omega); have h2 := hle b (by omega)
          unfold lenAdd
          rw [if_pos (by rw [vld_yes _ (by omega) h1, vld_yes _ (by omega) h2]; rfl), if_pos (by omega)]
          simp
        · rw [len1_power _ rfl]
          simp only []
          rw [one_sub, tls_get t ha]
          have e : ((tx t i).length : Int) = (tx t a).length * tm := by
            rw [tx_power hr ha, List.length_flatten, List.map_replicate, List.sum_replicate_nat, Int.natCast_mul, show ((tm.toNat : Nat) : Int) = tm by omega, Int.mul_comm]
          rw [e] at hti ⊢
          have h1 := hle a (by omega)
          unfold lenMul
          rw [if_pos (by rw [vld_yes _ (by omega) h1, decide_eq_true (by omega : (0 : Int) ≤ tm)]; rfl), if_pos hti]
      rw [lf_ok hr (by rw [hlen]), hlen, ← tls_succ]
      exact ih (i + 1) (by omega) (by omega)
  have := run t.length 0 (by omega) (Nat.zero_le _)
  rw [show tls t 0 = [] from rfl, List.drop_zero] at this
  rw [this]
theorem trd_lens {g t : List Rl} (h : Trd g t) (hg : (lens g).2 = 0) : (lens t).2 = 0 := by
  refine lens_of_le h.code fun p hp => ?_
  obtain ⟨j, hj, e⟩ := h.fr p hp
  rw [e]; exact lens_le hg hj
/-- every rule occurs -/
theorem uses_one {t : List Rl} (h0 : gcode 0 t = 0) (ra : ∀ p : Nat, p + 1 < t.length → ∃ (q : Nat) (r : Rl), t[q]? = some r ∧ ((p : Int) + 1) ∈ refsR r) : (uses t).length = t.length ∧ ∀ p : Nat, p < t.length → 1 ≤ (uses t).getD p 0 := by
  have run : ∀ (k : Nat) (o : List Int), k ≤ t.length → o.length = t.length → (∀ j, 0 ≤ o.getD j 0) → (1 ≤ t.length → 1 ≤ o.getD (t.length - 1) 0) → (∀ (i : Nat) (r : Rl) (j : Nat), k ≤ i → t[i]? = some r → 1 ≤ o.getD i 0 → ((j : Int) + 1) ∈ refsR r → 1 ≤ o.getD j 0) →
      (usesFrom t k o).length = t.length ∧ (1 ≤ t.length → 1 ≤ (usesFrom t k o).getD (t.length - 1) 0) ∧ ∀ (i : Nat) (r : Rl) (j : Nat), t[i]? = some r → 1 ≤ (usesFrom t k o).getD i 0 → ((j : Int) + 1) ∈ refsR r → 1 ≤ (usesFrom t k o).getD j 0 := by
    intro k
    induction k with
    | zero => intro o _ hl hp h1 h2; exact ⟨hl, h1, fun i r j => h2 i r j (Nat.zero_le _)⟩
    | succ k ih =>
      intro o hk hl hp h1 h2
      have hr : t[k]? = some (t[k]'(by omega)) := List.getElem?_eq_getElem _
      obtain ⟨r, hre⟩ : ∃ r, r = t[k]'(by omega) := ⟨_, rfl⟩
      rw [← hre] at hr
      have hk0 := hp k
      -- what the step gives
      have st : (ust t k o).length = t.length ∧ (∀ j, o.getD j 0 ≤ (ust t k o).getD j 0) ∧ (∀ j, k ≤ j → (ust t k o).getD j 0 = o.getD j 0) ∧ (1 ≤ o.getD k 0 → ∀ j : Nat, ((j : Int) + 1) ∈ refsR r → 1 ≤ (ust t k o).getD j 0) := by
        rcases rule_way' h0 hr with ⟨lt, rfl⟩ | ⟨a, b, rfl, ha, hb⟩ | ⟨a, tm, rfl, ha, ht⟩
        · rw [ust_letter hr]
          exact ⟨hl, fun j => Int.le_refl _, fun j _ => rfl, fun _ j hj => by rw [refs_one] at hj; cases hj⟩
        · rw [ust_pair hr]
          have e : ∀ j, (up (up o a (o.getD k 0)) b (o.getD k 0)).getD j 0 = o.getD j 0 + (if j = a then o.getD k 0 else 0) + (if j = b then o.getD k 0 else 0) := fun j => by
            rw [up_at (by rw [up_len]; omega), up_at (by omega)]
          refine ⟨by rw [up_len, up_len]; exact hl, fun j => ?_, fun j hj => ?_, fun ho j hj => ?_⟩
          · rw [e]; split <;> split <;> omega
          · rw [e, if_neg (by omega), if_neg (by omega)]; omega
          · rw [e]
            have hj0 := hp j
            rw [refs_two] at hj
            have : j = a ∨ j = b := by simp at hj; omega
            rcases this with rfl | rfl
            · rw [if_pos rfl]; split <;> omega
            · rw [if_pos rfl]; split <;> omega
        · rw [ust_power hr]
          have hm : 0 ≤ o.getD k 0 * tm := Int.mul_nonneg hk0 (by omega)
          have e : ∀ j, (up o a (o.getD k 0 * tm)).getD j 0 = o.getD j 0 + (if j = a then o.getD k 0 * tm else 0) := fun j => up_at (by omega)
          refine ⟨by rw [up_len]; exact hl, fun j => ?_, fun j hj => ?_, fun ho j hj => ?_⟩
          · rw [e]; split <;> omega
          · rw [e, if_neg (by omega)]; omega
          · rw [e]
            have hj0 := hp j
            rw [refs_three] at hj
            have : j = a := by simp at hj; omega
            subst this
            rw [if_pos rfl]
            have : 1 * 1 ≤ o.getD k 0 * tm := Int.mul_le_mul ho (by omega) (by omega) (by omega)
            omega
      obtain ⟨s1, s2, s3, s4⟩ := st
      refine ih (ust t k o) (by omega) s1 (fun j => Int.le_trans (hp j) (s2 j)) (fun hn => Int.le_trans (h1 hn) (s2 _)) fun i r2 j hi hr2 ho hx => ?_
      rw [s3 i hi] at ho
      by_cases e : i = k
      · subst e
        rw [hr] at hr2; injection hr2 with hr2; subst hr2
        exact s4 ho j hx
      · exact Int.le_trans (h2 i r2 j (by omega) hr2 ho hx) (s2 j)
  have e0 : ∀ j, (us0 t.length).getD j 0 = if j = t.length - 1 ∧ 1 ≤ t.length then 1 else 0 := fun j => by
    unfold us0
    by_cases hn : 1 ≤ t.length
    · rw [lset_getD (by simp; omega)]
      by_cases e : j = t.length - 1
      · rw [if_pos e, if_pos ⟨e, hn⟩]
      · rw [if_neg e, if_neg (fun q => e q.1), List.getD_eq_getElem?_getD, List.getElem?_replicate]; split <;> rfl
    · rw [if_neg (fun q => hn q.2), show t.length = 0 by omega]; simp
  obtain ⟨u1, u2, u3⟩ := run t.length (us0 t.length) (Nat.le_refl _) (by unfold us0; simp) (fun j => by rw [e0]; split <;> omega) (fun hn => by rw [e0, if_pos ⟨rfl, hn⟩]; exact Int.le_refl _) (fun i r j hi hr => by rw [List.getElem?_eq_none hi] at hr; cases hr)
  refine ⟨u1, ?_⟩
  have all : ∀ (d p : Nat), t.length - p = d → p < t.length → 1 ≤ (uses t).getD p 0 := by
    intro d
    induction d using Nat.strongRecOn with
    | _ d ih =>
      intro p hd hp
      by_cases e : p + 1 = t.length
      · have := u2 (by omega)
        rw [show t.length - 1 = p by omega] at this
        exact this
      · obtain ⟨q, r, hq, hx⟩ := ra p (by omega)
        have hql := (List.getElem?_eq_some_iff.1 hq).1
        have hin := refs_in h0 hq hx
        exact u3 q r p hq (ih (t.length - q) (by omega) q rfl hql) hx
  exact fun p hp => all _ p rfl hp
end Go.Proofs.Ytcbahojefglakaa
/- The walk of the law GrammarTrimmed. Written by wip/gen/grtrimmed.py. -/
namespace Go.Proofs.Ytcbahojefglakaa
set_option linter.unusedVariables false
set_option linter.unusedSimpArgs false
open Go.RowKit Go.Lib
attribute [local go_sem ↓] Go.wp_at_zero Go.wp_at_succ
set_option maxRecDepth 100000 in
theorem trimmed_long (n c : Nat) (A : Option Addr) (hn : 100 < n) (w : World) : Calls Try.prog 13 #[.slice A n c] w fun e w' => e = .returned (.bool true) ∧ Below w.heap.size w w' := by
  have hn2 : (100 : Int) < (n : Int) := by omega
  clear hn
  go_enter Try.func13, Try.ntmps13
  go_wp2_with fail
  go_ret
  exact ⟨rfl, Below.refl _ _⟩
set_option maxRecDepth 100000 in
theorem trimmed_bad (n c : Nat) (A : Option Addr) (hn : n ≤ 100) (k : Int) (hk : (k != 0) = true) (cells : List Value)
    (HR : Hid (∀ w, RowAt w A cells → Calls Try.prog 30 #[.slice A n c] w fun e w' => e = .returned (.int .i64 k) ∧ Below w.heap.size w w')) (w : World) (ha : RowAt w A cells) :
    Calls Try.prog 13 #[.slice A n c] w fun e w' => e = .returned (.bool true) ∧ Below w.heap.size w w' := by
  have hn2 : ¬ (100 : Int) < (n : Int) := by omega
  have HA := Lib.hid ha
  clear hn ha
  go_enter Try.func13, Try.ntmps13
  go_wp2_with fail
  (with_reducible refine (HR.out _ HA.out).mono ?_)
  rintro e w1 ⟨rfl, B1⟩
  have BW := Lib.hid B1
  clear B1
  go_wp2_with fail
  go_ret
  exact ⟨rfl, BW.out⟩
theorem wt_row {w : World} {A : Option Addr} {ws : List Wt} {i : Nat} {x : Wt} (h : RowAt w A (wcs ws)) (hx : ws[i]? = some x) :
    ∃ ad, A = some ad ∧ (ad.add (i * 6)).block < w.heap.size ∧ w.cell? (ad.add (i * 6)) = some (.int .i64 x.n) ∧ w.cell? ⟨(ad.add (i * 6)).block, (ad.add (i * 6)).off + 1, none⟩ = some (.int .i64 x.l) ∧
      w.cell? ⟨(ad.add (i * 6)).block, (ad.add (i * 6)).off + 2, none⟩ = some (.int .i64 x.h) ∧ w.cell? ⟨(ad.add (i * 6)).block, (ad.add (i * 6)).off + 3, none⟩ = some (.int .i64 x.t) ∧
      w.cell? ⟨(ad.add (i * 6)).block, (ad.add (i * 6)).off + 4, none⟩ = some (.int .u64 x.v) ∧ w.cell? ⟨(ad.add (i * 6)).block, (ad.add (i * 6)).off + 5, none⟩ = some (.int .u64 x.s) := by
  obtain ⟨a2, rfl, hal2, d0⟩ := h.get (wcs_get (j := 0) hx rfl)
  have key : ∀ j u, x.cells[j + 1]? = some u → w.cell? ⟨(a2.add (i * 6)).block, (a2.add (i * 6)).off + (j + 1), none⟩ = some u := by
    intro j u hu
    obtain ⟨a9, e9, _, c9⟩ := h.get (wcs_get (j := j + 1) hx hu)
    cases e9
    rw [← add_add_, add_succ_] at c9
    exact c9
  exact ⟨a2, rfl, by rw [block_add]; exact hal2, d0, key 0 _ rfl, key 1 _ rfl, key 2 _ rfl, key 3 _ rfl, key 4 _ rfl⟩
set_option maxRecDepth 100000 in
set_option maxHeartbeats 32000000 in
theorem trimmed_ok (g T : List Rl) (n c m : Nat) (A : Option Addr) (hl : g.length = n) (hn : n ≤ 100) (hm : T.length = m) (hmn : m ≤ n) (hz : m = 0 ↔ n = 0) (K : Int) (L us : List Int) (WT WG : List Wt)
    (hnd : ∀ (a b : Nat) (r : Rl), a < b → T[a]? = some r → T[b]? = some r → False)
    (HR : Hid (∀ w, RowAt w A (gc g) → Calls Try.prog 30 #[.slice A n c] w fun e w' => e = .returned (.int .i64 0) ∧ Below w.heap.size w w'))
    (HC : Hid (∀ w, RowAt w A (gc g) → Calls Try.prog 18 #[.slice A n c] w (SliceOut w n (gc g))))
    (HT : Hid (∀ A c w, RowAt w A (gc g) → Calls Try.prog 31 #[.slice A n c] w (RulesOut T .nilIface w)))
    (HR2 : Hid (∀ A c w, RowAt w A (gc T) → Calls Try.prog 30 #[.slice A m c] w fun e w' => e = .returned (.int .i64 0) ∧ Below w.heap.size w w'))
    (HC2 : Hid (∀ A c w, RowAt w A (gc T) → Calls Try.prog 18 #[.slice A m c] w (SliceOut w m (gc T))))
    (HT2 : Hid (∀ A c w, RowAt w A (gc T) → Calls Try.prog 31 #[.slice A m c] w (RulesOut T .nilIface w)))
    (HRL : Hid (∀ w, RowAt w A (gc g) → Calls Try.prog 15 #[.slice A n c] w (IntsOut L (.int .i64 K) w)))
    (HU : Hid (K = 0 → us.length = m ∧ (∀ p : Nat, p < m → 1 ≤ us.getD p 0) ∧ ∀ A c w, RowAt w A (gc T) → Calls Try.prog 26 #[.slice A m c] w (IntsOut us .nilIface w)))
    (HW : Hid (K = 0 → WT.length = m ∧ WG.length = n ∧ (∀ m1 n1 : Nat, m = m1 + 1 → n = n1 + 1 → ∃ x, WT[m1]? = some x ∧ WG[n1]? = some x) ∧ (∀ A c w, RowAt w A (gc T) → Calls Try.prog 40 #[.slice A m c] w (WtsOut WT .nilIface w)) ∧ ∀ A c w, RowAt w A (gc g) → Calls Try.prog 40 #[.slice A n c] w (WtsOut WG .nilIface w)))
    (w : World) (ha : RowAt w A (gc g)) :
    Calls Try.prog 13 #[.slice A n c] w fun e w' => e = .returned (.bool true) ∧ Below w.heap.size w w' := by
  have hn2 : ¬ (100 : Int) < (n : Int) := by omega
  have HA := Lib.hid ha; have HM := Lib.hid hm; have HND := Lib.hid hnd; have HZ := Lib.hid hz
  have mn1 : decide (n < m) = false := decide_eq_false (by omega)
  have mn2 : ¬ ((n : Int) < (m : Int)) := by omega
  clear ha hl hm hnd hz
  go_enter Try.func13, Try.ntmps13
  go_wp2_with fail
  (with_reducible refine (HR.out _ HA.out).mono ?_)
  rintro e w1 ⟨rfl, B1⟩
  have BW1 := Lib.hid B1
  clear B1
  go_wp2_with fail
  (with_reducible refine (HC.out _ (HA.out.below BW1.out (Nat.le_refl _))).mono ?_)
  rintro e w2 ⟨A2, c2, rfl, R2, B2⟩
  have BW2 := Lib.hid (bkeep BW1.out B2); have HR2' := Lib.hid R2
  clear B2 R2
  go_wp2_with fail
  (with_reducible refine (HT.out _ _ _ HR2'.out).mono ?_)
  rintro e w3 ⟨A3, c3, rfl, R3, B3⟩
  rw [HM.out]
  have BW3 := Lib.hid (bkeep BW2.out B3); have HR3 := Lib.hid R3
  clear B3 R3
  go_wp2_with fail
  (with_reducible refine (awake_any _).mono ?_)
  rintro e w4 ⟨rfl, B4⟩
  have BW4 := Lib.hid (bkeep BW3.out B4); have HR4 := Lib.hid (HR3.out.below B4 (Nat.le_refl _))
  clear B4
  go_wp2_with fail
  (with_reducible refine (HR2.out _ _ _ HR4.out).mono ?_)
  rintro e w5 ⟨rfl, B5⟩
  have BW5 := Lib.hid (bkeep BW4.out B5); have HR5 := Lib.hid (HR4.out.below B5 (Nat.le_refl _))
  clear B5
  go_wp2_with fail
  (with_reducible refine (HC2.out _ _ _ HR5.out).mono ?_)
  rintro e w6 ⟨A6, c6, rfl, R6, B6⟩
  have BW6 := Lib.hid (bkeep BW5.out B6); have HR6 := Lib.hid (HR5.out.below B6 (Nat.le_refl _)); have HX6 := Lib.hid R6
  clear B6 R6
  go_wp2_with fail
  (with_reducible refine (HT2.out _ _ _ HX6.out).mono ?_)
  rintro e w7 ⟨A7, c7, rfl, R7, B7⟩
  rw [HM.out]
  have BW7 := Lib.hid (bkeep BW6.out B7); have HR7 := Lib.hid (HR6.out.below B7 (Nat.le_refl _)); have HX7 := Lib.hid R7
  clear B7 R7
  go_wp2_with fail
  (with_reducible refine (same_any T m _ _ _ _ HM.out (by omega) _ HX7.out HR7.out).mono ?_)
  rintro e w8 ⟨rfl, B8⟩
  have BW8 := Lib.hid (bkeep BW7.out B8); have HR8 := Lib.hid (HR7.out.below B8 (Nat.le_refl _))
  clear B8
  go_wp2_with fail
  go_loopw [7, 8] (fun si _ wr => ∃ i : Nat, si = .int .i64 (i : Int) ∧ i ≤ m ∧ Hid (RowAt wr A3 (gc T)) ∧ Hid (Below w.heap.size w wr)) (fun si _ _ => m - (intOf si).toNat)
  case atStart => exact ⟨0, rfl, by omega, HR8, BW8⟩
  case round =>
    clear HR8 BW8
    obtain ⟨i, rfl, hi, HRw, BW⟩ := hrel
    by_cases hlt : i < m
    · have i1 : (i : Int) < (m : Int) := by omega
      have i0 : (0 : Int) ≤ (i : Int) := by omega
      go_wp2_with fail
      go_loopw [8] (fun sk wr => ∃ k : Nat, sk = .int .i64 (k : Int) ∧ k ≤ i ∧ Hid (RowAt wr A3 (gc T)) ∧ Hid (Below w.heap.size w wr)) (fun sk _ => i - (intOf sk).toNat)
      case atStart => exact ⟨0, rfl, by omega, HRw, BW⟩
      case round =>
        clear HRw BW
        obtain ⟨k, rfl, hk, HRw, BW⟩ := hrel
        by_cases hlt2 : k < i
        · have k1 : (k : Int) < (i : Int) := by omega
          have k0 : (0 : Int) ≤ (k : Int) := by omega
          have k2 : (k : Int) < (m : Int) := by omega
          have hil : i < T.length := by rw [HM.out]; exact hlt
          obtain ⟨ri, hri⟩ : ∃ r, T[i]? = some r := ⟨_, List.getElem?_eq_getElem hil⟩
          obtain ⟨rk, hrk⟩ : ∃ r, T[k]? = some r := ⟨_, List.getElem?_eq_getElem (by omega)⟩
          have hne : decide (ri = rk) = false := decide_eq_false fun e => HND.out k i ri hlt2 (by rw [e]; exact hrk) hri
          obtain ⟨ao, hA3, hao, y0, y1, y2, y3, y4⟩ := row_rl HRw.out hri
          obtain ⟨ao2, hA4, hao2, z0, z1, z2, z3, z4⟩ := row_rl HRw.out hrk
          rw [hA3] at hA4
          injection hA4 with hA4
          subst hA4
          subst hA3
          have hb1 : (ao.add (i * 5)).block < wr.heap.size := by rw [block_add]; exact hao
          have hb2 : (ao.add (k * 5)).block < wr.heap.size := by rw [block_add]; exact hao
          have heq : ∀ w, (binOp .eql 46 ri.val rk.val).run Try.prog w = .ok (.bool false) w := fun w => by rw [run_eql_rule, hne]
          obtain ⟨kd, lt, lf, rg, tm⟩ := ri
          obtain ⟨kd2, lt2, lf2, rg2, tm2⟩ := rk
          simp only at y0 y1 y2 y3 y4 z0 z1 z2 z3 z4 heq
          clear hri hrk hne hao2
          go_upto_region 15 with fail
          refine region_lin (.val (fun v _ => v = .slice (some ao) m c3) :: .val (fun v _ => v = .int .i64 (i : Int)) :: .val (fun v _ => v = .pointer (some (ao.add (i * 5)))) :: .val (fun v _ => v = .agg #[.int .i64 kd, .int .u8 lt, .int .i64 lf, .int .i64 rg, .int .i64 tm]) :: .val (fun v _ => v = .slice (some ao) m c3) :: .val (fun v _ => v = .int .i64 (k : Int)) :: .val (fun v _ => v = .pointer (some (ao.add (k * 5)))) :: .val (fun v _ => v = .agg #[.int .i64 kd2, .int .u8 lt2, .int .i64 lf2, .int .i64 rg2, .int .i64 tm2]) :: .val (fun v _ => v = .bool false) :: [])
            ([] :: [] :: [(75, 0), (76, 1)] :: [(77, 2)] :: [] :: [] :: [(79, 4), (80, 5)] :: [(81, 6)] :: [(78, 3), (82, 7)] :: []) ((0, 0) :: (0, 0) :: (0, 0) :: (0, 0) :: (0, 0) :: (0, 0) :: (0, 0) :: (0, 0) :: (0, 0) :: []) 175 (by kernel_rfl) rfl rfl (by kernel_rfl) ⟨Stab.pure _ _ _, Stab.pure _ _ _, Stab.pure _ _ _, Stab.pure _ _ _, Stab.pure _ _ _, Stab.pure _ _ _, Stab.pure _ _ _, Stab.pure _ _ _, Stab.pure _ _ _, trivial⟩ ⟨?_, ?_, ?_, ?_, ?_, ?_, ?_, ?_, ?_, trivial⟩ ?_
          · intro wx hb
            intro K hK
            go_simp
            exact hK _ _ rfl ⟨rfl, Below.refl _ _⟩
          · intro wx hb
            intro K hK
            go_simp
            exact hK _ _ rfl ⟨rfl, Below.refl _ _⟩
          · intro wx hb
            rintro _ rfl
            rintro _ rfl
            intro K hK
            go_simp
            exact hK _ _ rfl ⟨rfl, Below.refl _ _⟩
          · intro wx hb
            rintro _ rfl
            intro K hK
            have q0 := (hb.cell (p := (ao.add (i * 5))) hb1).trans y0; have q1 := (hb.cell (p := ⟨(ao.add (i * 5)).block, (ao.add (i * 5)).off + 1, none⟩) hb1).trans y1; have q2 := (hb.cell (p := ⟨(ao.add (i * 5)).block, (ao.add (i * 5)).off + 2, none⟩) hb1).trans y2; have q3 := (hb.cell (p := ⟨(ao.add (i * 5)).block, (ao.add (i * 5)).off + 3, none⟩) hb1).trans y3; have q4 := (hb.cell (p := ⟨(ao.add (i * 5)).block, (ao.add (i * 5)).off + 4, none⟩) hb1).trans y4; go_simp; exact hK _ _ rfl ⟨rfl, Below.refl _ _⟩
          · intro wx hb
            intro K hK
            go_simp
            exact hK _ _ rfl ⟨rfl, Below.refl _ _⟩
          · intro wx hb
            intro K hK
            go_simp
            exact hK _ _ rfl ⟨rfl, Below.refl _ _⟩
          · intro wx hb
            rintro _ rfl
            rintro _ rfl
            intro K hK
            go_simp
            exact hK _ _ rfl ⟨rfl, Below.refl _ _⟩
          · intro wx hb
            rintro _ rfl
            intro K hK
            have q0 := (hb.cell (p := (ao.add (k * 5))) hb2).trans z0; have q1 := (hb.cell (p := ⟨(ao.add (k * 5)).block, (ao.add (k * 5)).off + 1, none⟩) hb2).trans z1; have q2 := (hb.cell (p := ⟨(ao.add (k * 5)).block, (ao.add (k * 5)).off + 2, none⟩) hb2).trans z2; have q3 := (hb.cell (p := ⟨(ao.add (k * 5)).block, (ao.add (k * 5)).off + 3, none⟩) hb2).trans z3; have q4 := (hb.cell (p := ⟨(ao.add (k * 5)).block, (ao.add (k * 5)).off + 4, none⟩) hb2).trans z4; go_simp; exact hK _ _ rfl ⟨rfl, Below.refl _ _⟩
          · intro wx hb
            rintro _ rfl
            rintro _ rfl
            intro K hK
            go_simp
            exact hK _ _ rfl ⟨rfl, Below.refl _ _⟩
          intro w9 B9
          rintro _ rfl
          rintro _ rfl
          rintro _ rfl
          rintro _ rfl
          rintro _ rfl
          rintro _ rfl
          rintro _ rfl
          rintro _ rfl
          rintro _ rfl
          rintro -
          simp only [Act.put, List.setIfInBounds_toArray, List.set_cons_zero, List.set_cons_succ, List.toList_toArray, List.length_cons, List.length_nil, List.drop_succ_cons, List.drop_zero, List.drop_nil, Nat.zero_add, wpList]
          have BW9 := Lib.hid (bkeep BW.out B9); have HR9 := Lib.hid (HRw.out.below B9 (Nat.le_refl _))
          clear B9 heq y0 y1 y2 y3 y4 z0 z1 z2 z3 z4 BW HRw
          go_wp2_with fail
          go_roundw
          case rel => exact ⟨k + 1, by go_num, by omega, HR9, BW9⟩
          case measure => simp [intOf] <;> omega
        · obtain rfl : k = i := by omega
          go_wp2_with fail
          go_roundw
          case rel => exact ⟨k + 1, by go_num, by omega, HRw, BW⟩
          case measure => simp [intOf] <;> omega
    · obtain rfl : i = m := by omega
      go_wp2_with fail
      (with_reducible refine (HRL.out _ (HA.out.below BW.out (Nat.le_refl _))).mono ?_)
      rintro e w10 ⟨A10, c10, rfl, R10, B10⟩
      have BW10 := Lib.hid (bkeep BW.out B10); have HR10 := Lib.hid (HRw.out.below B10 (Nat.le_refl _))
      clear B10 R10 BW HRw
      by_cases hK : K = 0
      · obtain ⟨ul, up, HU1⟩ := HU.out hK
        obtain ⟨wl1, wl2, wx, HW1, HW2⟩ := HW.out hK
        have HUL := Lib.hid ul; have HUP := Lib.hid up; have HUC := Lib.hid HU1; have HW1L := Lib.hid wl1; have HW2L := Lib.hid wl2; have HWX := Lib.hid wx; have HW1C := Lib.hid HW1; have HW2C := Lib.hid HW2
        clear ul up HU1 wl1 wl2 wx HW1 HW2
        subst hK
        go_wp2_with fail
        (with_reducible refine (HUC.out _ _ _ HR10.out).mono ?_)
        rintro e w11 ⟨A11, c11, rfl, R11, B11⟩
        rw [HUL.out]
        have BW11 := Lib.hid (bkeep BW10.out B11); have HR11 := Lib.hid (HR10.out.below B11 (Nat.le_refl _)); have HX11 := Lib.hid R11
        clear B11 R11
        have nn : ((i : Int) != (i : Int)) = false := by simp
        have nn2 : decide (i = i) = true := by simp
        go_wp2_with fail
        go_loopw [13] (fun sj wr => ∃ j : Nat, sj = .int .i64 (j : Int) ∧ j ≤ i ∧ Hid (RowAt wr A3 (gc T)) ∧ Hid (RowAt wr A11 (vi us)) ∧ Hid (Below w.heap.size w wr)) (fun sj _ => i - (intOf sj).toNat)
        case atStart => exact ⟨0, rfl, by omega, HR11, HX11, BW11⟩
        case round =>
          clear HR11 HX11 BW11
          obtain ⟨j, rfl, hj, HRw, HXw, BW⟩ := hrel
          by_cases hlt2 : j < i
          · have j1 : (j : Int) < (i : Int) := by omega
            have j0 : (0 : Int) ≤ (j : Int) := by omega
            have hjl : j < us.length := by rw [HUL.out]; exact hlt2
            obtain ⟨au, rfl, hau, cq⟩ := HXw.out.get (vi_get hjl)
            clear cq
            have cu := row_cell HXw.out hjl
            have x1 := HUP.out j hlt2
            obtain ⟨x, hx⟩ : ∃ x, x = us.getD j 0 := ⟨_, rfl⟩
            rw [← hx] at cu x1
            have x2 : ¬ (x < 1) := by omega
            clear hx hjl
            go_wp2_with fail
            go_roundw
            case rel => exact ⟨j + 1, by go_num, by omega, HRw, HXw, BW⟩
            case measure => simp [intOf] <;> omega
          · obtain rfl : j = i := by omega
            go_wp2_with fail
            (with_reducible refine (HW1C.out _ _ _ HRw.out).mono ?_)
            rintro e w12 ⟨A12, c12, rfl, R12, B12⟩
            rw [HW1L.out]
            have BW12 := Lib.hid (bkeep BW.out B12); have HX12 := Lib.hid R12
            clear B12 R12 BW HRw HXw
            go_wp2_with fail
            (with_reducible refine (HW2C.out _ _ _ (HA.out.below BW12.out (Nat.le_refl _))).mono ?_)
            rintro e w13 ⟨A13, c13, rfl, R13, B13⟩
            rw [HW2L.out]
            have BW13 := Lib.hid (bkeep BW12.out B13); have HX13 := Lib.hid (HX12.out.below B13 (Nat.le_refl _)); have HY13 := Lib.hid R13
            clear B13 R13
            by_cases hz : n = 0
            · have hz2 := HZ.out.2 hz
              subst hz
              subst hz2
              go_upto_region 30 with fail
              refine region_lin (.val (fun v _ => v = .nilIface) :: .val (fun v _ => v = .bool true) :: .val (fun v _ => v = .bool true) :: .val (fun v _ => v = .nilIface) :: .val (fun v _ => v = .bool true) :: .val (fun v _ => v = .bool true) :: .val (fun v _ => v = .bool true) :: .val (fun v _ => v = .slice A13 0 c13) :: .val (fun v _ => v = .int .i64 0) :: .val (fun v _ => v = .slice A 0 c) :: .val (fun v _ => v = .int .i64 0) :: .val (fun v _ => v = .bool true) :: .val (fun v _ => v = .bool true) :: .val (fun v _ => v = .bool true) :: .val (fun v _ => v = .slice A12 0 c12) :: .val (fun v _ => v = .int .i64 0) :: .val (fun v _ => v = .slice A3 0 c3) :: .val (fun v _ => v = .int .i64 0) :: .val (fun v _ => v = .bool true) :: .val (fun v _ => v = .bool true) :: .val (fun v _ => v = .bool true) :: .val (fun v _ => v = .slice A 0 c) :: .val (fun v _ => v = .int .i64 0) :: .val (fun v _ => v = .bool true) :: .val (fun v _ => v = .slice A3 0 c3) :: .val (fun v _ => v = .int .i64 0) :: .val (fun v _ => v = .bool true) :: .val (fun v _ => v = .bool true) :: .val (fun v _ => v = .bool true) :: .val (fun v _ => v = .bool true) :: .val (fun v _ => v = .slice A 0 c) :: .val (fun v _ => v = .int .i64 0) :: .val (fun v _ => v = .bool true) :: .val (fun v _ => v = .bool true) :: .val (fun v _ => v = undef) :: .val (fun v _ => v = undef) :: .val (fun v _ => v = undef) :: .val (fun v _ => v = undef) :: .val (fun v _ => v = undef) :: .val (fun v _ => v = undef) :: .val (fun v _ => v = undef) :: .val (fun v _ => v = undef) :: .val (fun v _ => v = undef) :: .val (fun v _ => v = undef) :: .val (fun v _ => v = undef) :: .val (fun v _ => v = undef) :: .val (fun v _ => v = undef) :: .val (fun v _ => v = .bool true) :: .val (fun v _ => v = .bool true) :: .val (fun v _ => v = .bool true) :: [])
                ([] :: [(126, 0)] :: [(127, 1)] :: [(128, 2)] :: [(129, 3), (128, 2)] :: [(128, 2), (130, 4)] :: [(131, 5)] :: [(132, 6)] :: [(133, 7), (132, 6)] :: [(132, 6)] :: [(135, 9), (132, 6)] :: [(134, 8), (136, 10), (132, 6)] :: [(132, 6), (137, 11)] :: [(138, 12)] :: [(139, 13)] :: [(140, 14), (139, 13)] :: [(139, 13)] :: [(142, 16), (139, 13)] :: [(141, 15), (143, 17), (139, 13)] :: [(139, 13), (144, 18)] :: [(145, 19)] :: [(146, 20)] :: [(147, 21), (146, 20)] :: [(148, 22), (146, 20)] :: [(146, 20)] :: [(150, 24), (146, 20)] :: [(151, 25), (146, 20)] :: [(149, 23), (152, 26), (146, 20)] :: [(146, 20), (153, 27)] :: [(154, 28)] :: [(155, 29)] :: [(156, 30), (155, 29)] :: [(157, 31), (155, 29)] :: [(158, 32), (155, 29)] :: [(159, 33)] :: [(159, 33)] :: [(161, 35), (159, 33)] :: [(162, 36), (159, 33)] :: [(160, 34), (163, 37), (159, 33)] :: [(164, 38), (159, 33)] :: [(159, 33)] :: [(159, 33)] :: [(167, 41), (159, 33)] :: [(168, 42), (159, 33)] :: [(166, 40), (169, 43), (159, 33)] :: [(170, 44), (159, 33)] :: [(165, 39), (171, 45), (159, 33)] :: [(159, 33), (172, 46), (155, 29)] :: [(155, 29), (173, 47)] :: [(174, 48)] :: []) ((0, 0) :: (0, 0) :: (0, 0) :: (0, 0) :: (0, 0) :: (0, 0) :: (0, 0) :: (0, 0) :: (0, 0) :: (0, 0) :: (0, 0) :: (0, 0) :: (0, 0) :: (0, 0) :: (0, 0) :: (0, 0) :: (0, 0) :: (0, 0) :: (0, 0) :: (0, 0) :: (0, 0) :: (0, 0) :: (0, 0) :: (0, 0) :: (0, 0) :: (0, 0) :: (0, 0) :: (0, 0) :: (0, 0) :: (0, 0) :: (0, 0) :: (0, 0) :: (0, 0) :: (0, 0) :: (0, 0) :: (0, 0) :: (0, 0) :: (0, 0) :: (0, 0) :: (0, 0) :: (0, 0) :: (0, 0) :: (0, 0) :: (0, 0) :: (0, 0) :: (0, 0) :: (0, 0) :: (0, 0) :: (0, 0) :: (0, 0) :: []) 175 (by kernel_rfl) rfl rfl (by kernel_rfl) ⟨Stab.pure _ _ _, Stab.pure _ _ _, Stab.pure _ _ _, Stab.pure _ _ _, Stab.pure _ _ _, Stab.pure _ _ _, Stab.pure _ _ _, Stab.pure _ _ _, Stab.pure _ _ _, Stab.pure _ _ _, Stab.pure _ _ _, Stab.pure _ _ _, Stab.pure _ _ _, Stab.pure _ _ _, Stab.pure _ _ _, Stab.pure _ _ _, Stab.pure _ _ _, Stab.pure _ _ _, Stab.pure _ _ _, Stab.pure _ _ _, Stab.pure _ _ _, Stab.pure _ _ _, Stab.pure _ _ _, Stab.pure _ _ _, Stab.pure _ _ _, Stab.pure _ _ _, Stab.pure _ _ _, Stab.pure _ _ _, Stab.pure _ _ _, Stab.pure _ _ _, Stab.pure _ _ _, Stab.pure _ _ _, Stab.pure _ _ _, Stab.pure _ _ _, Stab.pure _ _ _, Stab.pure _ _ _, Stab.pure _ _ _, Stab.pure _ _ _, Stab.pure _ _ _, Stab.pure _ _ _, Stab.pure _ _ _, Stab.pure _ _ _, Stab.pure _ _ _, Stab.pure _ _ _, Stab.pure _ _ _, Stab.pure _ _ _, Stab.pure _ _ _, Stab.pure _ _ _, Stab.pure _ _ _, Stab.pure _ _ _, trivial⟩ ⟨?_, ?_, ?_, ?_, ?_, ?_, ?_, ?_, ?_, ?_, ?_, ?_, ?_, ?_, ?_, ?_, ?_, ?_, ?_, ?_, ?_, ?_, ?_, ?_, ?_, ?_, ?_, ?_, ?_, ?_, ?_, ?_, ?_, ?_, ?_, ?_, ?_, ?_, ?_, ?_, ?_, ?_, ?_, ?_, ?_, ?_, ?_, ?_, ?_, ?_, trivial⟩ ?_
              · intro wx hb
                intro K hK
                go_simp
                exact hK _ _ rfl ⟨rfl, Below.refl _ _⟩
              · intro wx hb
                rintro _ rfl
                intro K hK
                go_simp
                exact hK _ _ rfl ⟨rfl, Below.refl _ _⟩
              · intro wx hb
                rintro _ rfl
                intro K hK
                go_simp
                exact hK _ _ rfl ⟨rfl, Below.refl _ _⟩
              · intro wx hb
                rintro _ rfl
                refine ⟨fun _ => ?_, fun h => absurd (show true = false from h) (by decide)⟩
                intro K hK
                go_simp
                exact hK _ _ rfl ⟨rfl, Below.refl _ _⟩
              · intro wx hb
                rintro _ rfl
                rintro _ rfl
                refine ⟨fun _ => ?_, fun h => absurd (show true = false from h) (by decide)⟩
                intro K hK
                go_simp
                exact hK _ _ rfl ⟨rfl, Below.refl _ _⟩
              · intro wx hb
                rintro _ rfl
                rintro _ rfl
                intro K hK
                go_simp
                exact hK _ _ rfl ⟨rfl, Below.refl _ _⟩
              · intro wx hb
                rintro _ rfl
                intro K hK
                go_simp
                exact hK _ _ rfl ⟨rfl, Below.refl _ _⟩
              · intro wx hb
                rintro _ rfl
                refine ⟨fun _ => ?_, fun h => absurd (show true = false from h) (by decide)⟩
                intro K hK
                go_simp
                exact hK _ _ rfl ⟨rfl, Below.refl _ _⟩
              · intro wx hb
                rintro _ rfl
                rintro _ rfl
                refine ⟨fun _ => ?_, fun h => absurd (show true = false from h) (by decide)⟩
                intro K hK
                go_simp
                exact hK _ _ rfl ⟨rfl, Below.refl _ _⟩
              · intro wx hb
                rintro _ rfl
                refine ⟨fun _ => ?_, fun h => absurd (show true = false from h) (by decide)⟩
                intro K hK
                go_simp
                exact hK _ _ rfl ⟨rfl, Below.refl _ _⟩
              · intro wx hb
                rintro _ rfl
                rintro _ rfl
                refine ⟨fun _ => ?_, fun h => absurd (show true = false from h) (by decide)⟩
                intro K hK
                go_simp
                exact hK _ _ rfl ⟨rfl, Below.refl _ _⟩
              · intro wx hb
                rintro _ rfl
                rintro _ rfl
                rintro _ rfl
                refine ⟨fun _ => ?_, fun h => absurd (show true = false from h) (by decide)⟩
                intro K hK
                go_simp
                exact hK _ _ rfl ⟨rfl, Below.refl _ _⟩
              · intro wx hb
                rintro _ rfl
                rintro _ rfl
                intro K hK
                go_simp
                exact hK _ _ rfl ⟨rfl, Below.refl _ _⟩
              · intro wx hb
                rintro _ rfl
                intro K hK
                go_simp
                exact hK _ _ rfl ⟨rfl, Below.refl _ _⟩
              · intro wx hb
                rintro _ rfl
                refine ⟨fun _ => ?_, fun h => absurd (show true = false from h) (by decide)⟩
                intro K hK
                go_simp
                exact hK _ _ rfl ⟨rfl, Below.refl _ _⟩
              · intro wx hb
                rintro _ rfl
                rintro _ rfl
                refine ⟨fun _ => ?_, fun h => absurd (show true = false from h) (by decide)⟩
                intro K hK
                go_simp
                exact hK _ _ rfl ⟨rfl, Below.refl _ _⟩
              · intro wx hb
                rintro _ rfl
                refine ⟨fun _ => ?_, fun h => absurd (show true = false from h) (by decide)⟩
                intro K hK
                go_simp
                exact hK _ _ rfl ⟨rfl, Below.refl _ _⟩
              · intro wx hb
                rintro _ rfl
                rintro _ rfl
                refine ⟨fun _ => ?_, fun h => absurd (show true = false from h) (by decide)⟩
                intro K hK
                go_simp
                exact hK _ _ rfl ⟨rfl, Below.refl _ _⟩
              · intro wx hb
                rintro _ rfl
                rintro _ rfl
                rintro _ rfl
                refine ⟨fun _ => ?_, fun h => absurd (show true = false from h) (by decide)⟩
                intro K hK
                go_simp
                exact hK _ _ rfl ⟨rfl, Below.refl _ _⟩
              · intro wx hb
                rintro _ rfl
                rintro _ rfl
                intro K hK
                go_simp
                exact hK _ _ rfl ⟨rfl, Below.refl _ _⟩
              · intro wx hb
                rintro _ rfl
                intro K hK
                go_simp
                exact hK _ _ rfl ⟨rfl, Below.refl _ _⟩
              · intro wx hb
                rintro _ rfl
                refine ⟨fun _ => ?_, fun h => absurd (show true = false from h) (by decide)⟩
                intro K hK
                go_simp
                exact hK _ _ rfl ⟨rfl, Below.refl _ _⟩
              · intro wx hb
                rintro _ rfl
                rintro _ rfl
                refine ⟨fun _ => ?_, fun h => absurd (show true = false from h) (by decide)⟩
                intro K hK
                go_simp
                exact hK _ _ rfl ⟨rfl, Below.refl _ _⟩
              · intro wx hb
                rintro _ rfl
                rintro _ rfl
                refine ⟨fun _ => ?_, fun h => absurd (show true = false from h) (by decide)⟩
                intro K hK
                go_simp
                exact hK _ _ rfl ⟨rfl, Below.refl _ _⟩
              · intro wx hb
                rintro _ rfl
                refine ⟨fun _ => ?_, fun h => absurd (show true = false from h) (by decide)⟩
                intro K hK
                go_simp
                exact hK _ _ rfl ⟨rfl, Below.refl _ _⟩
              · intro wx hb
                rintro _ rfl
                rintro _ rfl
                refine ⟨fun _ => ?_, fun h => absurd (show true = false from h) (by decide)⟩
                intro K hK
                go_simp
                exact hK _ _ rfl ⟨rfl, Below.refl _ _⟩
              · intro wx hb
                rintro _ rfl
                rintro _ rfl
                refine ⟨fun _ => ?_, fun h => absurd (show true = false from h) (by decide)⟩
                intro K hK
                go_simp
                exact hK _ _ rfl ⟨rfl, Below.refl _ _⟩
              · intro wx hb
                rintro _ rfl
                rintro _ rfl
                rintro _ rfl
                refine ⟨fun _ => ?_, fun h => absurd (show true = false from h) (by decide)⟩
                intro K hK
                go_simp
                exact hK _ _ rfl ⟨rfl, Below.refl _ _⟩
              · intro wx hb
                rintro _ rfl
                rintro _ rfl
                intro K hK
                go_simp
                exact hK _ _ rfl ⟨rfl, Below.refl _ _⟩
              · intro wx hb
                rintro _ rfl
                intro K hK
                go_simp
                exact hK _ _ rfl ⟨rfl, Below.refl _ _⟩
              · intro wx hb
                rintro _ rfl
                refine ⟨fun _ => ?_, fun h => absurd (show true = false from h) (by decide)⟩
                intro K hK
                go_simp
                exact hK _ _ rfl ⟨rfl, Below.refl _ _⟩
              · intro wx hb
                rintro _ rfl
                rintro _ rfl
                refine ⟨fun _ => ?_, fun h => absurd (show true = false from h) (by decide)⟩
                intro K hK
                go_simp
                exact hK _ _ rfl ⟨rfl, Below.refl _ _⟩
              · intro wx hb
                rintro _ rfl
                rintro _ rfl
                refine ⟨fun _ => ?_, fun h => absurd (show true = false from h) (by decide)⟩
                intro K hK
                go_simp
                exact hK _ _ rfl ⟨rfl, Below.refl _ _⟩
              · intro wx hb
                rintro _ rfl
                rintro _ rfl
                refine ⟨fun _ => ?_, fun h => absurd (show true = false from h) (by decide)⟩
                intro K hK
                go_simp
                exact hK _ _ rfl ⟨rfl, Below.refl _ _⟩
              · intro wx hb
                rintro _ rfl
                exact ⟨fun h => absurd (show false = true from h) (by decide), fun _ => ⟨rfl, Below.refl _ _⟩⟩
              · intro wx hb
                rintro _ rfl
                exact ⟨fun h => absurd (show false = true from h) (by decide), fun _ => ⟨rfl, Below.refl _ _⟩⟩
              · intro wx hb
                intro vq hq; have hq : vq = undef := hq; subst vq
                rintro _ rfl
                exact ⟨fun h => absurd (show false = true from h) (by decide), fun _ => ⟨rfl, Below.refl _ _⟩⟩
              · intro wx hb
                intro vq hq; have hq : vq = undef := hq; subst vq
                rintro _ rfl
                exact ⟨fun h => absurd (show false = true from h) (by decide), fun _ => ⟨rfl, Below.refl _ _⟩⟩
              · intro wx hb
                intro vq hq; have hq : vq = undef := hq; subst vq
                intro vq hq; have hq : vq = undef := hq; subst vq
                rintro _ rfl
                exact ⟨fun h => absurd (show false = true from h) (by decide), fun _ => ⟨rfl, Below.refl _ _⟩⟩
              · intro wx hb
                intro vq hq; have hq : vq = undef := hq; subst vq
                rintro _ rfl
                exact ⟨fun h => absurd (show false = true from h) (by decide), fun _ => ⟨rfl, Below.refl _ _⟩⟩
              · intro wx hb
                rintro _ rfl
                exact ⟨fun h => absurd (show false = true from h) (by decide), fun _ => ⟨rfl, Below.refl _ _⟩⟩
              · intro wx hb
                rintro _ rfl
                exact ⟨fun h => absurd (show false = true from h) (by decide), fun _ => ⟨rfl, Below.refl _ _⟩⟩
              · intro wx hb
                intro vq hq; have hq : vq = undef := hq; subst vq
                rintro _ rfl
                exact ⟨fun h => absurd (show false = true from h) (by decide), fun _ => ⟨rfl, Below.refl _ _⟩⟩
              · intro wx hb
                intro vq hq; have hq : vq = undef := hq; subst vq
                rintro _ rfl
                exact ⟨fun h => absurd (show false = true from h) (by decide), fun _ => ⟨rfl, Below.refl _ _⟩⟩
              · intro wx hb
                intro vq hq; have hq : vq = undef := hq; subst vq
                intro vq hq; have hq : vq = undef := hq; subst vq
                rintro _ rfl
                exact ⟨fun h => absurd (show false = true from h) (by decide), fun _ => ⟨rfl, Below.refl _ _⟩⟩
              · intro wx hb
                intro vq hq; have hq : vq = undef := hq; subst vq
                rintro _ rfl
                exact ⟨fun h => absurd (show false = true from h) (by decide), fun _ => ⟨rfl, Below.refl _ _⟩⟩
              · intro wx hb
                intro vq hq; have hq : vq = undef := hq; subst vq
                intro vq hq; have hq : vq = undef := hq; subst vq
                rintro _ rfl
                exact ⟨fun h => absurd (show false = true from h) (by decide), fun _ => ⟨rfl, Below.refl _ _⟩⟩
              · intro wx hb
                rintro _ rfl
                intro vq hq; have hq : vq = undef := hq; subst vq
                rintro _ rfl
                refine ⟨fun _ => ?_, fun h => absurd (show true = false from h) (by decide)⟩
                intro K hK
                go_simp
                exact hK _ _ rfl ⟨rfl, Below.refl _ _⟩
              · intro wx hb
                rintro _ rfl
                rintro _ rfl
                intro K hK
                go_simp
                exact hK _ _ rfl ⟨rfl, Below.refl _ _⟩
              · intro wx hb
                rintro _ rfl
                intro K hK
                go_simp
                exact hK _ _ rfl ⟨rfl, Below.refl _ _⟩
              intro w14 B14
              rintro _ rfl
              rintro _ rfl
              rintro _ rfl
              rintro _ rfl
              rintro _ rfl
              rintro _ rfl
              rintro _ rfl
              rintro _ rfl
              rintro _ rfl
              rintro _ rfl
              rintro _ rfl
              rintro _ rfl
              rintro _ rfl
              rintro _ rfl
              rintro _ rfl
              rintro _ rfl
              rintro _ rfl
              rintro _ rfl
              rintro _ rfl
              rintro _ rfl
              rintro _ rfl
              rintro _ rfl
              rintro _ rfl
              rintro _ rfl
              rintro _ rfl
              rintro _ rfl
              rintro _ rfl
              rintro _ rfl
              rintro _ rfl
              rintro _ rfl
              rintro _ rfl
              rintro _ rfl
              rintro _ rfl
              rintro _ rfl
              intro vq hq; have hq : vq = undef := hq; subst vq
              intro vq hq; have hq : vq = undef := hq; subst vq
              intro vq hq; have hq : vq = undef := hq; subst vq
              intro vq hq; have hq : vq = undef := hq; subst vq
              intro vq hq; have hq : vq = undef := hq; subst vq
              intro vq hq; have hq : vq = undef := hq; subst vq
              intro vq hq; have hq : vq = undef := hq; subst vq
              intro vq hq; have hq : vq = undef := hq; subst vq
              intro vq hq; have hq : vq = undef := hq; subst vq
              intro vq hq; have hq : vq = undef := hq; subst vq
              intro vq hq; have hq : vq = undef := hq; subst vq
              intro vq hq; have hq : vq = undef := hq; subst vq
              intro vq hq; have hq : vq = undef := hq; subst vq
              rintro _ rfl
              rintro _ rfl
              rintro _ rfl
              rintro -
              simp only [Act.put, List.setIfInBounds_toArray, List.set_cons_zero, List.set_cons_succ, List.toList_toArray, List.length_cons, List.length_nil, List.drop_succ_cons, List.drop_zero, List.drop_nil, Nat.zero_add, wpList]
              have BW14 := Lib.hid (bkeep BW13.out B14)
              clear B14
              go_wp2_with fail
              go_ret
              exact ⟨rfl, BW14.out⟩
            · have hz2 : j ≠ 0 := fun e => hz (HZ.out.1 e)
              obtain ⟨n1, hn1⟩ : ∃ n1, n = n1 + 1 := ⟨n - 1, by omega⟩
              obtain ⟨m1, hm1⟩ : ∃ m1, j = m1 + 1 := ⟨j - 1, by omega⟩
              obtain ⟨x, hx1, hx2⟩ := HWX.out m1 n1 hm1 hn1
              have ej : j - 1 = m1 := by omega
              have en : n - 1 = n1 := by omega
              rw [← ej] at hx1
              rw [← en] at hx2
              obtain ⟨at_, rfl, hbt, t0, t1, t2, t3, t4, t5⟩ := wt_row HX13.out hx1
              obtain ⟨ag, rfl, hbg, g0, g1, g2, g3, g4, g5⟩ := wt_row HY13.out hx2
              have nz : ((n : Int) == 0) = false := by rw [beq_eq_false_iff_ne]; omega
              have mz : ((j : Int) == 0) = false := by rw [beq_eq_false_iff_ne]; omega
              have nm : ((n : Int) - 1).toNat = n - 1 := by omega
              have mm : ((j : Int) - 1).toNat = j - 1 := by omega
              have na : (n : Int) - 1 < (n : Int) := by omega
              have nb : (1 : Int) ≤ (n : Int) := by omega
              have ma : (j : Int) - 1 < (j : Int) := by omega
              have mb : (1 : Int) ≤ (j : Int) := by omega
              have nw : IntKind.i64.wrap ((n : Int) - 1) = (n : Int) - 1 := IntWalk.i64_in _ ⟨by omega, by omega⟩
              have mw : IntKind.i64.wrap ((j : Int) - 1) = (j : Int) - 1 := IntWalk.i64_in _ ⟨by omega, by omega⟩
              clear hx1 hx2 hn1 hm1 hz hz2 ej en
              go_upto_region 30 with fail
              refine region_lin (.val (fun v _ => v = .nilIface) :: .val (fun v _ => v = .bool true) :: .val (fun v _ => v = .bool true) :: .val (fun v _ => v = .nilIface) :: .val (fun v _ => v = .bool true) :: .val (fun v _ => v = .bool true) :: .val (fun v _ => v = .bool true) :: .val (fun v _ => v = .slice (some ag) n c13) :: .val (fun v _ => v = .int .i64 (n : Int)) :: .val (fun v _ => v = .slice A n c) :: .val (fun v _ => v = .int .i64 (n : Int)) :: .val (fun v _ => v = .bool true) :: .val (fun v _ => v = .bool true) :: .val (fun v _ => v = .bool true) :: .val (fun v _ => v = .slice (some at_) j c12) :: .val (fun v _ => v = .int .i64 (j : Int)) :: .val (fun v _ => v = .slice A3 j c3) :: .val (fun v _ => v = .int .i64 (j : Int)) :: .val (fun v _ => v = .bool true) :: .val (fun v _ => v = .bool true) :: .val (fun v _ => v = .bool true) :: .val (fun v _ => v = .slice A n c) :: .val (fun v _ => v = .int .i64 (n : Int)) :: .val (fun v _ => v = .bool false) :: .val (fun v _ => v = .slice A3 j c3) :: .val (fun v _ => v = .int .i64 (j : Int)) :: .val (fun v _ => v = .bool false) :: .val (fun v _ => v = .bool true) :: .val (fun v _ => v = .bool true) :: .val (fun v _ => v = .bool true) :: .val (fun v _ => v = .slice A n c) :: .val (fun v _ => v = .int .i64 (n : Int)) :: .val (fun v _ => v = .bool false) :: .val (fun v _ => v = .bool false) :: .val (fun v _ => v = .slice (some at_) j c12) :: .val (fun v _ => v = .slice A3 j c3) :: .val (fun v _ => v = .int .i64 (j : Int)) :: .val (fun v _ => v = .int .i64 ((j : Int) - 1)) :: .val (fun v _ => v = .pointer (some (at_.add ((j - 1) * 6)))) :: .val (fun v _ => v = .agg #[.int .i64 x.n, .int .i64 x.l, .int .i64 x.h, .int .i64 x.t, .int .u64 x.v, .int .u64 x.s]) :: .val (fun v _ => v = .slice (some ag) n c13) :: .val (fun v _ => v = .slice A n c) :: .val (fun v _ => v = .int .i64 (n : Int)) :: .val (fun v _ => v = .int .i64 ((n : Int) - 1)) :: .val (fun v _ => v = .pointer (some (ag.add ((n - 1) * 6)))) :: .val (fun v _ => v = .agg #[.int .i64 x.n, .int .i64 x.l, .int .i64 x.h, .int .i64 x.t, .int .u64 x.v, .int .u64 x.s]) :: .val (fun v _ => v = .bool true) :: .val (fun v _ => v = .bool true) :: .val (fun v _ => v = .bool true) :: .val (fun v _ => v = .bool true) :: [])
                ([] :: [(126, 0)] :: [(127, 1)] :: [(128, 2)] :: [(129, 3), (128, 2)] :: [(128, 2), (130, 4)] :: [(131, 5)] :: [(132, 6)] :: [(133, 7), (132, 6)] :: [(132, 6)] :: [(135, 9), (132, 6)] :: [(134, 8), (136, 10), (132, 6)] :: [(132, 6), (137, 11)] :: [(138, 12)] :: [(139, 13)] :: [(140, 14), (139, 13)] :: [(139, 13)] :: [(142, 16), (139, 13)] :: [(141, 15), (143, 17), (139, 13)] :: [(139, 13), (144, 18)] :: [(145, 19)] :: [(146, 20)] :: [(147, 21), (146, 20)] :: [(148, 22), (146, 20)] :: [(146, 20)] :: [(150, 24), (146, 20)] :: [(151, 25), (146, 20)] :: [(149, 23), (152, 26), (146, 20)] :: [(146, 20), (153, 27)] :: [(154, 28)] :: [(155, 29)] :: [(156, 30), (155, 29)] :: [(157, 31), (155, 29)] :: [(158, 32), (155, 29)] :: [(159, 33)] :: [(159, 33)] :: [(161, 35), (159, 33)] :: [(162, 36), (159, 33)] :: [(160, 34), (163, 37), (159, 33)] :: [(164, 38), (159, 33)] :: [(159, 33)] :: [(159, 33)] :: [(167, 41), (159, 33)] :: [(168, 42), (159, 33)] :: [(166, 40), (169, 43), (159, 33)] :: [(170, 44), (159, 33)] :: [(165, 39), (171, 45), (159, 33)] :: [(159, 33), (172, 46), (155, 29)] :: [(155, 29), (173, 47)] :: [(174, 48)] :: []) ((0, 0) :: (0, 0) :: (0, 0) :: (0, 0) :: (0, 0) :: (0, 0) :: (0, 0) :: (0, 0) :: (0, 0) :: (0, 0) :: (0, 0) :: (0, 0) :: (0, 0) :: (0, 0) :: (0, 0) :: (0, 0) :: (0, 0) :: (0, 0) :: (0, 0) :: (0, 0) :: (0, 0) :: (0, 0) :: (0, 0) :: (0, 0) :: (0, 0) :: (0, 0) :: (0, 0) :: (0, 0) :: (0, 0) :: (0, 0) :: (0, 0) :: (0, 0) :: (0, 0) :: (0, 0) :: (0, 0) :: (0, 0) :: (0, 0) :: (0, 0) :: (0, 0) :: (0, 0) :: (0, 0) :: (0, 0) :: (0, 0) :: (0, 0) :: (0, 0) :: (0, 0) :: (0, 0) :: (0, 0) :: (0, 0) :: (0, 0) :: []) 175 (by kernel_rfl) rfl rfl (by kernel_rfl) ⟨Stab.pure _ _ _, Stab.pure _ _ _, Stab.pure _ _ _, Stab.pure _ _ _, Stab.pure _ _ _, Stab.pure _ _ _, Stab.pure _ _ _, Stab.pure _ _ _, Stab.pure _ _ _, Stab.pure _ _ _, Stab.pure _ _ _, Stab.pure _ _ _, Stab.pure _ _ _, Stab.pure _ _ _, Stab.pure _ _ _, Stab.pure _ _ _, Stab.pure _ _ _, Stab.pure _ _ _, Stab.pure _ _ _, Stab.pure _ _ _, Stab.pure _ _ _, Stab.pure _ _ _, Stab.pure _ _ _, Stab.pure _ _ _, Stab.pure _ _ _, Stab.pure _ _ _, Stab.pure _ _ _, Stab.pure _ _ _, Stab.pure _ _ _, Stab.pure _ _ _, Stab.pure _ _ _, Stab.pure _ _ _, Stab.pure _ _ _, Stab.pure _ _ _, Stab.pure _ _ _, Stab.pure _ _ _, Stab.pure _ _ _, Stab.pure _ _ _, Stab.pure _ _ _, Stab.pure _ _ _, Stab.pure _ _ _, Stab.pure _ _ _, Stab.pure _ _ _, Stab.pure _ _ _, Stab.pure _ _ _, Stab.pure _ _ _, Stab.pure _ _ _, Stab.pure _ _ _, Stab.pure _ _ _, Stab.pure _ _ _, trivial⟩ ⟨?_, ?_, ?_, ?_, ?_, ?_, ?_, ?_, ?_, ?_, ?_, ?_, ?_, ?_, ?_, ?_, ?_, ?_, ?_, ?_, ?_, ?_, ?_, ?_, ?_, ?_, ?_, ?_, ?_, ?_, ?_, ?_, ?_, ?_, ?_, ?_, ?_, ?_, ?_, ?_, ?_, ?_, ?_, ?_, ?_, ?_, ?_, ?_, ?_, ?_, trivial⟩ ?_
              · intro wx hb
                intro K hK
                go_simp
                exact hK _ _ rfl ⟨rfl, Below.refl _ _⟩
              · intro wx hb
                rintro _ rfl
                intro K hK
                go_simp
                exact hK _ _ rfl ⟨rfl, Below.refl _ _⟩
              · intro wx hb
                rintro _ rfl
                intro K hK
                go_simp
                exact hK _ _ rfl ⟨rfl, Below.refl _ _⟩
              · intro wx hb
                rintro _ rfl
                refine ⟨fun _ => ?_, fun h => absurd (show true = false from h) (by decide)⟩
                intro K hK
                go_simp
                exact hK _ _ rfl ⟨rfl, Below.refl _ _⟩
              · intro wx hb
                rintro _ rfl
                rintro _ rfl
                refine ⟨fun _ => ?_, fun h => absurd (show true = false from h) (by decide)⟩
                intro K hK
                go_simp
                exact hK _ _ rfl ⟨rfl, Below.refl _ _⟩
              · intro wx hb
                rintro _ rfl
                rintro _ rfl
                intro K hK
                go_simp
                exact hK _ _ rfl ⟨rfl, Below.refl _ _⟩
              · intro wx hb
                rintro _ rfl
                intro K hK
                go_simp
                exact hK _ _ rfl ⟨rfl, Below.refl _ _⟩
              · intro wx hb
                rintro _ rfl
                refine ⟨fun _ => ?_, fun h => absurd (show true = false from h) (by decide)⟩
                intro K hK
                go_simp
                exact hK _ _ rfl ⟨rfl, Below.refl _ _⟩
              · intro wx hb
                rintro _ rfl
                rintro _ rfl
                refine ⟨fun _ => ?_, fun h => absurd (show true = false from h) (by decide)⟩
                intro K hK
                go_simp
                exact hK _ _ rfl ⟨rfl, Below.refl _ _⟩
              · intro wx hb
                rintro _ rfl
                refine ⟨fun _ => ?_, fun h => absurd (show true = false from h) (by decide)⟩
                intro K hK
                go_simp
                exact hK _ _ rfl ⟨rfl, Below.refl _ _⟩
              · intro wx hb
                rintro _ rfl
                rintro _ rfl
                refine ⟨fun _ => ?_, fun h => absurd (show true = false from h) (by decide)⟩
                intro K hK
                go_simp
                exact hK _ _ rfl ⟨rfl, Below.refl _ _⟩
              · intro wx hb
                rintro _ rfl
                rintro _ rfl
                rintro _ rfl
                refine ⟨fun _ => ?_, fun h => absurd (show true = false from h) (by decide)⟩
                intro K hK
                go_simp
                exact hK _ _ rfl ⟨rfl, Below.refl _ _⟩
              · intro wx hb
                rintro _ rfl
                rintro _ rfl
                intro K hK
                go_simp
                exact hK _ _ rfl ⟨rfl, Below.refl _ _⟩
              · intro wx hb
                rintro _ rfl
                intro K hK
                go_simp
                exact hK _ _ rfl ⟨rfl, Below.refl _ _⟩
              · intro wx hb
                rintro _ rfl
                refine ⟨fun _ => ?_, fun h => absurd (show true = false from h) (by decide)⟩
                intro K hK
                go_simp
                exact hK _ _ rfl ⟨rfl, Below.refl _ _⟩
              · intro wx hb
                rintro _ rfl
                rintro _ rfl
                refine ⟨fun _ => ?_, fun h => absurd (show true = false from h) (by decide)⟩
                intro K hK
                go_simp
                exact hK _ _ rfl ⟨rfl, Below.refl _ _⟩
              · intro wx hb
                rintro _ rfl
                refine ⟨fun _ => ?_, fun h => absurd (show true = false from h) (by decide)⟩
                intro K hK
                go_simp
                exact hK _ _ rfl ⟨rfl, Below.refl _ _⟩
              · intro wx hb
                rintro _ rfl
                rintro _ rfl
                refine ⟨fun _ => ?_, fun h => absurd (show true = false from h) (by decide)⟩
                intro K hK
                go_simp
                exact hK _ _ rfl ⟨rfl, Below.refl _ _⟩
              · intro wx hb
                rintro _ rfl
                rintro _ rfl
                rintro _ rfl
                refine ⟨fun _ => ?_, fun h => absurd (show true = false from h) (by decide)⟩
                intro K hK
                go_simp
                exact hK _ _ rfl ⟨rfl, Below.refl _ _⟩
              · intro wx hb
                rintro _ rfl
                rintro _ rfl
                intro K hK
                go_simp
                exact hK _ _ rfl ⟨rfl, Below.refl _ _⟩
              · intro wx hb
                rintro _ rfl
                intro K hK
                go_simp
                exact hK _ _ rfl ⟨rfl, Below.refl _ _⟩
              · intro wx hb
                rintro _ rfl
                refine ⟨fun _ => ?_, fun h => absurd (show true = false from h) (by decide)⟩
                intro K hK
                go_simp
                exact hK _ _ rfl ⟨rfl, Below.refl _ _⟩
              · intro wx hb
                rintro _ rfl
                rintro _ rfl
                refine ⟨fun _ => ?_, fun h => absurd (show true = false from h) (by decide)⟩
                intro K hK
                go_simp
                exact hK _ _ rfl ⟨rfl, Below.refl _ _⟩
              · intro wx hb
                rintro _ rfl
                rintro _ rfl
                refine ⟨fun _ => ?_, fun h => absurd (show true = false from h) (by decide)⟩
                intro K hK
                go_simp
                exact hK _ _ rfl ⟨rfl, Below.refl _ _⟩
              · intro wx hb
                rintro _ rfl
                refine ⟨fun _ => ?_, fun h => absurd (show true = false from h) (by decide)⟩
                intro K hK
                go_simp
                exact hK _ _ rfl ⟨rfl, Below.refl _ _⟩
              · intro wx hb
                rintro _ rfl
                rintro _ rfl
                refine ⟨fun _ => ?_, fun h => absurd (show true = false from h) (by decide)⟩
                intro K hK
                go_simp
                exact hK _ _ rfl ⟨rfl, Below.refl _ _⟩
              · intro wx hb
                rintro _ rfl
                rintro _ rfl
                refine ⟨fun _ => ?_, fun h => absurd (show true = false from h) (by decide)⟩
                intro K hK
                go_simp
                exact hK _ _ rfl ⟨rfl, Below.refl _ _⟩
              · intro wx hb
                rintro _ rfl
                rintro _ rfl
                rintro _ rfl
                refine ⟨fun _ => ?_, fun h => absurd (show true = false from h) (by decide)⟩
                intro K hK
                go_simp
                exact hK _ _ rfl ⟨rfl, Below.refl _ _⟩
              · intro wx hb
                rintro _ rfl
                rintro _ rfl
                intro K hK
                go_simp
                exact hK _ _ rfl ⟨rfl, Below.refl _ _⟩
              · intro wx hb
                rintro _ rfl
                intro K hK
                go_simp
                exact hK _ _ rfl ⟨rfl, Below.refl _ _⟩
              · intro wx hb
                rintro _ rfl
                refine ⟨fun _ => ?_, fun h => absurd (show true = false from h) (by decide)⟩
                intro K hK
                go_simp
                exact hK _ _ rfl ⟨rfl, Below.refl _ _⟩
              · intro wx hb
                rintro _ rfl
                rintro _ rfl
                refine ⟨fun _ => ?_, fun h => absurd (show true = false from h) (by decide)⟩
                intro K hK
                go_simp
                exact hK _ _ rfl ⟨rfl, Below.refl _ _⟩
              · intro wx hb
                rintro _ rfl
                rintro _ rfl
                refine ⟨fun _ => ?_, fun h => absurd (show true = false from h) (by decide)⟩
                intro K hK
                go_simp
                exact hK _ _ rfl ⟨rfl, Below.refl _ _⟩
              · intro wx hb
                rintro _ rfl
                rintro _ rfl
                refine ⟨fun _ => ?_, fun h => absurd (show true = false from h) (by decide)⟩
                intro K hK
                go_simp
                exact hK _ _ rfl ⟨rfl, Below.refl _ _⟩
              · intro wx hb
                rintro _ rfl
                refine ⟨fun _ => ?_, fun h => absurd (show true = false from h) (by decide)⟩
                intro K hK
                go_simp
                exact hK _ _ rfl ⟨rfl, Below.refl _ _⟩
              · intro wx hb
                rintro _ rfl
                refine ⟨fun _ => ?_, fun h => absurd (show true = false from h) (by decide)⟩
                intro K hK
                go_simp
                exact hK _ _ rfl ⟨rfl, Below.refl _ _⟩
              · intro wx hb
                rintro _ rfl
                rintro _ rfl
                refine ⟨fun _ => ?_, fun h => absurd (show true = false from h) (by decide)⟩
                intro K hK
                go_simp
                exact hK _ _ rfl ⟨rfl, Below.refl _ _⟩
              · intro wx hb
                rintro _ rfl
                rintro _ rfl
                refine ⟨fun _ => ?_, fun h => absurd (show true = false from h) (by decide)⟩
                intro K hK
                go_simp
                exact hK _ _ rfl ⟨rfl, Below.refl _ _⟩
              · intro wx hb
                rintro _ rfl
                rintro _ rfl
                rintro _ rfl
                refine ⟨fun _ => ?_, fun h => absurd (show true = false from h) (by decide)⟩
                intro K hK
                go_simp
                exact hK _ _ rfl ⟨rfl, Below.refl _ _⟩
              · intro wx hb
                rintro _ rfl
                rintro _ rfl
                refine ⟨fun _ => ?_, fun h => absurd (show true = false from h) (by decide)⟩
                intro K hK
                have q0 := (hb.cell (p := (at_.add ((j - 1) * 6))) hbt).trans t0; have q1 := (hb.cell (p := ⟨(at_.add ((j - 1) * 6)).block, (at_.add ((j - 1) * 6)).off + 1, none⟩) hbt).trans t1; have q2 := (hb.cell (p := ⟨(at_.add ((j - 1) * 6)).block, (at_.add ((j - 1) * 6)).off + 2, none⟩) hbt).trans t2; have q3 := (hb.cell (p := ⟨(at_.add ((j - 1) * 6)).block, (at_.add ((j - 1) * 6)).off + 3, none⟩) hbt).trans t3; have q4 := (hb.cell (p := ⟨(at_.add ((j - 1) * 6)).block, (at_.add ((j - 1) * 6)).off + 4, none⟩) hbt).trans t4; have q5 := (hb.cell (p := ⟨(at_.add ((j - 1) * 6)).block, (at_.add ((j - 1) * 6)).off + 5, none⟩) hbt).trans t5; go_simp; exact hK _ _ rfl ⟨rfl, Below.refl _ _⟩
              · intro wx hb
                rintro _ rfl
                refine ⟨fun _ => ?_, fun h => absurd (show true = false from h) (by decide)⟩
                intro K hK
                go_simp
                exact hK _ _ rfl ⟨rfl, Below.refl _ _⟩
              · intro wx hb
                rintro _ rfl
                refine ⟨fun _ => ?_, fun h => absurd (show true = false from h) (by decide)⟩
                intro K hK
                go_simp
                exact hK _ _ rfl ⟨rfl, Below.refl _ _⟩
              · intro wx hb
                rintro _ rfl
                rintro _ rfl
                refine ⟨fun _ => ?_, fun h => absurd (show true = false from h) (by decide)⟩
                intro K hK
                go_simp
                exact hK _ _ rfl ⟨rfl, Below.refl _ _⟩
              · intro wx hb
                rintro _ rfl
                rintro _ rfl
                refine ⟨fun _ => ?_, fun h => absurd (show true = false from h) (by decide)⟩
                intro K hK
                go_simp
                exact hK _ _ rfl ⟨rfl, Below.refl _ _⟩
              · intro wx hb
                rintro _ rfl
                rintro _ rfl
                rintro _ rfl
                refine ⟨fun _ => ?_, fun h => absurd (show true = false from h) (by decide)⟩
                intro K hK
                go_simp
                exact hK _ _ rfl ⟨rfl, Below.refl _ _⟩
              · intro wx hb
                rintro _ rfl
                rintro _ rfl
                refine ⟨fun _ => ?_, fun h => absurd (show true = false from h) (by decide)⟩
                intro K hK
                have q0 := (hb.cell (p := (ag.add ((n - 1) * 6))) hbg).trans g0; have q1 := (hb.cell (p := ⟨(ag.add ((n - 1) * 6)).block, (ag.add ((n - 1) * 6)).off + 1, none⟩) hbg).trans g1; have q2 := (hb.cell (p := ⟨(ag.add ((n - 1) * 6)).block, (ag.add ((n - 1) * 6)).off + 2, none⟩) hbg).trans g2; have q3 := (hb.cell (p := ⟨(ag.add ((n - 1) * 6)).block, (ag.add ((n - 1) * 6)).off + 3, none⟩) hbg).trans g3; have q4 := (hb.cell (p := ⟨(ag.add ((n - 1) * 6)).block, (ag.add ((n - 1) * 6)).off + 4, none⟩) hbg).trans g4; have q5 := (hb.cell (p := ⟨(ag.add ((n - 1) * 6)).block, (ag.add ((n - 1) * 6)).off + 5, none⟩) hbg).trans g5; go_simp; exact hK _ _ rfl ⟨rfl, Below.refl _ _⟩
              · intro wx hb
                rintro _ rfl
                rintro _ rfl
                rintro _ rfl
                refine ⟨fun _ => ?_, fun h => absurd (show true = false from h) (by decide)⟩
                intro K hK
                go_simp
                exact hK _ _ rfl ⟨rfl, Below.refl _ _⟩
              · intro wx hb
                rintro _ rfl
                rintro _ rfl
                rintro _ rfl
                refine ⟨fun _ => ?_, fun h => absurd (show true = false from h) (by decide)⟩
                intro K hK
                go_simp
                exact hK _ _ rfl ⟨rfl, Below.refl _ _⟩
              · intro wx hb
                rintro _ rfl
                rintro _ rfl
                intro K hK
                go_simp
                exact hK _ _ rfl ⟨rfl, Below.refl _ _⟩
              · intro wx hb
                rintro _ rfl
                intro K hK
                go_simp
                exact hK _ _ rfl ⟨rfl, Below.refl _ _⟩
              intro w14 B14
              rintro _ rfl
              rintro _ rfl
              rintro _ rfl
              rintro _ rfl
              rintro _ rfl
              rintro _ rfl
              rintro _ rfl
              rintro _ rfl
              rintro _ rfl
              rintro _ rfl
              rintro _ rfl
              rintro _ rfl
              rintro _ rfl
              rintro _ rfl
              rintro _ rfl
              rintro _ rfl
              rintro _ rfl
              rintro _ rfl
              rintro _ rfl
              rintro _ rfl
              rintro _ rfl
              rintro _ rfl
              rintro _ rfl
              rintro _ rfl
              rintro _ rfl
              rintro _ rfl
              rintro _ rfl
              rintro _ rfl
              rintro _ rfl
              rintro _ rfl
              rintro _ rfl
              rintro _ rfl
              rintro _ rfl
              rintro _ rfl
              rintro _ rfl
              rintro _ rfl
              rintro _ rfl
              rintro _ rfl
              rintro _ rfl
              rintro _ rfl
              rintro _ rfl
              rintro _ rfl
              rintro _ rfl
              rintro _ rfl
              rintro _ rfl
              rintro _ rfl
              rintro _ rfl
              rintro _ rfl
              rintro _ rfl
              rintro _ rfl
              rintro -
              simp only [Act.put, List.setIfInBounds_toArray, List.set_cons_zero, List.set_cons_succ, List.toList_toArray, List.length_cons, List.length_nil, List.drop_succ_cons, List.drop_zero, List.drop_nil, Nat.zero_add, wpList]
              have BW14 := Lib.hid (bkeep BW13.out B14)
              clear B14
              go_wp2_with fail
              go_ret
              exact ⟨rfl, BW14.out⟩
      · have k0 : (K != 0) = true := by rw [bne_iff_ne]; exact hK
        clear hK
        go_wp2_with fail
        go_ret
        exact ⟨rfl, BW10.out⟩
theorem trFrom_out2 (u : List Bool) : ∀ (g : List Rl) (i : Nat) (s : List Rl × List Int), (trFrom u i g s).1.length ≤ s.1.length + g.length
  | [], _, s => Nat.le_refl _
  | r :: g, i, s => by
    have h := trFrom_out2 u g (i + 1) (trStep u i r s)
    have h2 : (trStep u i r s).1.length ≤ s.1.length + 1 := by
      unfold trStep
      split
      · split <;> simp
      · omega
    show (trFrom u (i + 1) g (trStep u i r s)).1.length ≤ _
    simp only [List.length_cons]; omega
theorem trim_le2 (g : List Rl) : (trim g).length ≤ g.length := by
  have := trFrom_out2 (used g) g 0 (tr0 g.length)
  unfold trim
  simpa [tr0] using this
/-- the rules of a trimmed grammar lie within their kinds -/
theorem trim_oks (g : List Rl) (hl : g.length ≤ 1000000) (hok : ∀ r ∈ g, r.Ok) : ∀ r ∈ trim g, r.Ok := by
  have : ∀ (k i : Nat) (s : List Rl × List Int), g.length - i = k → i ≤ g.length → TrOk g.length i s.1 s.2 → ∃ tb, TrOk g.length g.length (trFrom (used g) i (g.drop i) s).1 tb := by
    intro k
    induction k with
    | zero =>
      intro i s hk hi h
      obtain rfl : i = g.length := by omega
      rw [trFrom_end (Nat.le_refl _)]; exact ⟨_, h⟩
    | succ k ih =>
      intro i s hk hi h
      have hr : g[i]? = some (g[i]'(by omega)) := List.getElem?_eq_getElem _
      rw [trFrom_at hr]
      refine ih (i + 1) _ (by omega) (by omega) ?_
      obtain ⟨out, tb⟩ := s
      by_cases hu : (used g).getD (i + 1) false = true
      · by_cases hp : pos out (mvd2 (g[i]'(by omega)) tb) = 0
        · rw [trStep_new hu hp]; exact h.new (h.moved (by omega) (hok _ (List.getElem_mem _)))
        · rw [trStep_old hu hp]; exact h.old _
      · rw [trStep_no (by simpa using hu)]; exact h.skip
  obtain ⟨tb, h⟩ := this g.length 0 (tr0 g.length) (by omega) (Nat.zero_le _) (TrOk.start _)
  exact h.ok
theorem law_trimmed (g : List Rl) (n c : Nat) (A : Option Addr) (hl : g.length = n) (hok : ∀ r ∈ g, r.Ok) (w : World) (ha : RowAt w A (gc g)) :
    Calls Try.prog 13 #[.slice A n c] w fun e w' => e = .returned (.bool true) ∧ Below w.heap.size w w' := by
  by_cases hn : n ≤ 100
  · have HRC := Lib.hid fun w a => rcheck_g g n c A hl (by omega) w a
    by_cases h0 : gcode 0 g = 0
    · rw [h0] at HRC
      have hle := trim_le2 g
      have td := trim_trd h0
      have hts := trim_self td.code td.nd td.ra
      have hto := trim_oks g (by omega) hok
      have rb : ∀ {h : List Rl}, (∀ r ∈ h, r.Ok) → Rb h := fun hh r hr => ⟨(hh r hr).lt0, (hh r hr).lt1, (hh r hr).tm1⟩
      refine trimmed_ok g (trim g) n c (trim g).length A hl hn rfl (by omega) (by rw [← hl]; exact td.nil) (lens g).2 (lens g).1 (uses (trim g)) (wtsL (trim g)) (wtsL g) td.nd HRC (Lib.hid fun w a => copied_any g n c A hl (by omega) w a) (Lib.hid fun A c w a => trim_ok g n c A hl (by omega) h0 hok w a)
        (Lib.hid fun A c w a => ?_) (Lib.hid fun A c w a => copied_any (trim g) _ c A rfl (by omega) w a) (Lib.hid fun A c w a => ?_) (Lib.hid fun w a => rlengths_any g n c A hl (by omega) w a) (Lib.hid fun hK => ?_) (Lib.hid fun hK => ?_) w ha
      · have := rcheck_g (trim g) _ c A rfl (by omega) w a
        rw [td.code] at this
        exact this
      · have := trim_ok (trim g) _ c A rfl (by omega) td.code hto w a
        rw [hts] at this
        exact this
      · have hl2 := trd_lens td hK
        obtain ⟨u1, u2⟩ := uses_one td.code td.ra
        refine ⟨u1, u2, fun A c w a => uses_ok (trim g) _ c A rfl (by omega) td.code _ rfl (tot_le hl2) _ rfl (lens (trim g)).1 (Lib.hid fun w a => ?_) w a⟩
        have := lengths_out (trim g) _ c A rfl (by omega) w a
        rw [hl2, errv_zero] at this
        exact this
      · have hl2 := trd_lens td hK
        have e1 : wtsL (trim g) = wls (trim g) (trim g).length := by unfold wtsL; rw [if_pos hl2]
        have e2 : wtsL g = wls g n := by unfold wtsL; rw [if_pos hK, hl]
        rw [e1, e2]
        refine ⟨wls_len _ _, wls_len _ _, fun m1 n1 hm1 hn1 => ⟨wOf (tx (trim g) m1), wls_get _ (by omega), ?_⟩, fun A c w a => ?_, fun A c w a => ?_⟩
        · have := td.last (by omega)
          rw [show (trim g).length - 1 = m1 by omega, show g.length - 1 = n1 by omega] at this
          rw [this]; exact wls_get _ (by omega)
        · have := weights_any (trim g) _ c A rfl (by omega) (rb hto) w a
          rw [hl2, errv_zero, e1] at this
          exact this
        · have := weights_any g n c A hl (by omega) (rb hok) w a
          rw [hK, errv_zero, e2] at this
          exact this
    · exact trimmed_bad n c A hn _ (by rw [bne_iff_ne]; exact h0) (gc g) HRC w ha
  · exact trimmed_long n c A (by omega) w
end Go.Proofs.Ytcbahojefglakaa
