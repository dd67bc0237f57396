/- Same at equal lists of rules. Written by wip/gen/grsame.py. -/
import Derived.Test.YtcbahojefglakaaGrJoinBase
namespace Go.Proofs.Ytcbahojefglakaa
set_option linter.unusedVariables false
set_option linter.unusedSimpArgs false
open Go.RowKit Go.Lib
attribute [local go_sem ↓] Go.wp_at_zero Go.wp_at_succ
set_option maxRecDepth 100000 in
set_option maxHeartbeats 4000000 in
theorem same_any (l : List Rl) (n c d : Nat) (A C : Option Addr) (hl : l.length = n) (hn : n ≤ 1000000) (w : World) (ha : RowAt w A (gc l)) (hb : RowAt w C (gc l)) :
    Calls Try.prog 32 #[.slice A n c, .slice C n d] w fun e w' => e = .returned (.bool true) ∧ Below w.heap.size w w' := by
  have HA := Lib.hid ha; have HB := Lib.hid hb; have HL := Lib.hid hl
  clear ha hb hl
  go_enter Try.func32, Try.ntmps32
  go_wp2_with fail
  go_loopw [5] (fun si wr => ∃ i : Nat, si = .int .i64 (i : Int) ∧ i ≤ n ∧ Hid (Below w.heap.size w wr)) (fun si _ => n - (intOf si).toNat)
  case atStart => exact ⟨0, rfl, by omega, Lib.hid (Below.refl _ _)⟩
  case round =>
    obtain ⟨i, rfl, hi, BW⟩ := hrel
    by_cases hlt : i < n
    · have hil : i < l.length := by rw [HL.out]; exact hlt
      obtain ⟨r, hr⟩ : ∃ r, l[i]? = some r := ⟨_, List.getElem?_eq_getElem hil⟩
      obtain ⟨a1, rfl, ha1, c0, c1, c2, c3, c4⟩ := row_rl (HA.out.below BW.out (Nat.le_refl _)) hr
      obtain ⟨b1, rfl, hb1, d0, d1, d2, d3, d4⟩ := row_rl (HB.out.below BW.out (Nat.le_refl _)) hr
      obtain ⟨kd, lt, lf, rg, tm⟩ := r
      simp only at c0 c1 c2 c3 c4 d0 d1 d2 d3 d4
      have ha2 : (a1.add (i * 5)).block < wr.heap.size := by rw [block_add]; exact ha1
      have hb2 : (b1.add (i * 5)).block < wr.heap.size := by rw [block_add]; exact hb1
      have i0 : (0 : Int) ≤ i := by omega
      have i1 : (i : Int) < (n : Int) := by omega
      clear hr
      go_upto_region 6 with fail
      refine region_lin (.val (fun v _ => v = .slice (some a1) n c) :: .val (fun v _ => v = .int .i64 (i : Int)) :: .val (fun v _ => v = .pointer (some (a1.add (i * 5)))) :: .val (fun v _ => v = .agg #[.int .i64 kd, .int .u8 lt, .int .i64 lf, .int .i64 rg, .int .i64 tm]) :: .val (fun v _ => v = .slice (some b1) n d) :: .val (fun v _ => v = .int .i64 (i : Int)) :: .val (fun v _ => v = .pointer (some (b1.add (i * 5)))) :: .val (fun v _ => v = .agg #[.int .i64 kd, .int .u8 lt, .int .i64 lf, .int .i64 rg, .int .i64 tm]) :: .val (fun v _ => v = .bool false) :: [])
        ([] :: [] :: [(17, 0), (18, 1)] :: [(19, 2)] :: [] :: [] :: [(21, 4), (22, 5)] :: [(23, 6)] :: [(20, 3), (24, 7)] :: []) ((0, 0) :: (0, 0) :: (0, 0) :: (0, 0) :: (0, 0) :: (0, 0) :: (0, 0) :: (0, 0) :: (0, 0) :: []) 26 (by kernel_rfl) rfl rfl (by kernel_rfl) ⟨Stab.pure _ _ _, Stab.pure _ _ _, Stab.pure _ _ _, Stab.pure _ _ _, Stab.pure _ _ _, Stab.pure _ _ _, Stab.pure _ _ _, Stab.pure _ _ _, Stab.pure _ _ _, trivial⟩ ⟨?_, ?_, ?_, ?_, ?_, ?_, ?_, ?_, ?_, trivial⟩ ?_
      · intro wx hb
        intro K hK
        go_simp
        exact hK _ _ rfl ⟨rfl, Below.refl _ _⟩
      · intro wx hb
        intro K hK
        go_simp
        exact hK _ _ rfl ⟨rfl, Below.refl _ _⟩
      · intro wx hb
        rintro _ rfl
        rintro _ rfl
        intro K hK
        go_simp
        exact hK _ _ rfl ⟨rfl, Below.refl _ _⟩
      · intro wx hb
        rintro _ rfl
        intro K hK
        have z0 := (hb.cell (p := (a1.add (i * 5))) ha2).trans c0; have z1 := (hb.cell (p := ⟨(a1.add (i * 5)).block, (a1.add (i * 5)).off + 1, none⟩) ha2).trans c1; have z2 := (hb.cell (p := ⟨(a1.add (i * 5)).block, (a1.add (i * 5)).off + 2, none⟩) ha2).trans c2; have z3 := (hb.cell (p := ⟨(a1.add (i * 5)).block, (a1.add (i * 5)).off + 3, none⟩) ha2).trans c3; have z4 := (hb.cell (p := ⟨(a1.add (i * 5)).block, (a1.add (i * 5)).off + 4, none⟩) ha2).trans c4; go_simp; exact hK _ _ rfl ⟨rfl, Below.refl _ _⟩
      · intro wx hb
        intro K hK
        go_simp
        exact hK _ _ rfl ⟨rfl, Below.refl _ _⟩
      · intro wx hb
        intro K hK
        go_simp
        exact hK _ _ rfl ⟨rfl, Below.refl _ _⟩
      · intro wx hb
        rintro _ rfl
        rintro _ rfl
        intro K hK
        go_simp
        exact hK _ _ rfl ⟨rfl, Below.refl _ _⟩
      · intro wx hb
        rintro _ rfl
        intro K hK
        have z0 := (hb.cell (p := (b1.add (i * 5))) hb2).trans d0; have z1 := (hb.cell (p := ⟨(b1.add (i * 5)).block, (b1.add (i * 5)).off + 1, none⟩) hb2).trans d1; have z2 := (hb.cell (p := ⟨(b1.add (i * 5)).block, (b1.add (i * 5)).off + 2, none⟩) hb2).trans d2; have z3 := (hb.cell (p := ⟨(b1.add (i * 5)).block, (b1.add (i * 5)).off + 3, none⟩) hb2).trans d3; have z4 := (hb.cell (p := ⟨(b1.add (i * 5)).block, (b1.add (i * 5)).off + 4, none⟩) hb2).trans d4; go_simp; exact hK _ _ rfl ⟨rfl, Below.refl _ _⟩
      · intro wx hb
        rintro _ rfl
        rintro _ rfl
        intro K hK
        go_simp
        exact hK _ _ rfl ⟨rfl, Below.refl _ _⟩
      intro w3 B3
      rintro _ rfl
      rintro _ rfl
      rintro _ rfl
      rintro _ rfl
      rintro _ rfl
      rintro _ rfl
      rintro _ rfl
      rintro _ rfl
      rintro _ rfl
      rintro -
      simp only [Act.put, List.setIfInBounds_toArray, List.set_cons_zero, List.set_cons_succ, List.toList_toArray, List.length_cons, List.length_nil, List.drop_succ_cons, List.drop_zero, List.drop_nil, Nat.zero_add, wpList]
      have BW3 := Lib.hid (bkeep BW.out B3)
      clear B3
      go_wp2_with fail
      go_roundw
      case rel => exact ⟨i + 1, by go_num, by omega, BW3⟩
      case measure => simp [intOf]; omega
    · obtain rfl : i = n := by omega
      go_wp2_with fail
      go_ret
      exact ⟨rfl, BW.out⟩
end Go.Proofs.Ytcbahojefglakaa
