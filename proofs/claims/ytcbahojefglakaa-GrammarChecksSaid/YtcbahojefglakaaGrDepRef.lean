/- The reference's Depths; Ints at equal lists. Written by wip/gen/grdep2.py. -/
import Derived.Test.YtcbahojefglakaaGrDepths
namespace Go.Proofs.Ytcbahojefglakaa
set_option linter.unusedVariables false
set_option linter.unusedSimpArgs false
open Go.RowKit Go.Lib
attribute [local go_sem ↓] Go.wp_at_zero Go.wp_at_succ
set_option maxRecDepth 100000 in
set_option maxHeartbeats 4000000 in
theorem ints_same (l : List Int) (n c d : Nat) (A C : Option Addr) (hl : l.length = n) (hn : n ≤ 1000000) (w : World) (ha : RowAt w A (vi l)) (hb : RowAt w C (vi l)) :
    Calls Try.prog 24 #[.slice A n c, .slice C n d] w fun e w' => e = .returned (.bool true) ∧ Below w.heap.size w w' := by
  have HA := Lib.hid ha; have HB := Lib.hid hb; have HL := Lib.hid hl
  clear ha hb hl
  go_enter Try.func24, Try.ntmps24
  go_wp2_with fail
  go_loopw [5] (fun si wr => ∃ i : Nat, si = .int .i64 (i : Int) ∧ i ≤ n ∧ Hid (Below w.heap.size w wr)) (fun si _ => n - (intOf si).toNat)
  case atStart => exact ⟨0, rfl, by omega, Lib.hid (Below.refl _ _)⟩
  case round =>
    obtain ⟨i, rfl, hi, BW⟩ := hrel
    by_cases hlt : i < n
    · have hil : i < l.length := by rw [HL.out]; exact hlt
      obtain ⟨a1, rfl, ha1, _⟩ := (HA.out.below BW.out (Nat.le_refl _)).get (vi_get hil)
      obtain ⟨b1, rfl, hb1, _⟩ := (HB.out.below BW.out (Nat.le_refl _)).get (vi_get hil)
      obtain ⟨x, hx⟩ : ∃ x, x = l.getD i 0 := ⟨_, rfl⟩
      have cx : wr.cell? (a1.add i) = some (.int .i64 x) := (row_cell (HA.out.below BW.out (Nat.le_refl _)) hil).trans (by rw [hx])
      have cy : wr.cell? (b1.add i) = some (.int .i64 x) := (row_cell (HB.out.below BW.out (Nat.le_refl _)) hil).trans (by rw [hx])
      have ha2 : (a1.add i).block < wr.heap.size := by rw [block_add]; exact ha1
      have hb2 : (b1.add i).block < wr.heap.size := by rw [block_add]; exact hb1
      have i0 : (0 : Int) ≤ i := by omega
      have i1 : (i : Int) < (n : Int) := by omega
      clear hx
      go_upto_region 6 with fail
      refine region_lin (.val (fun v _ => v = .slice (some a1) n c) :: .val (fun v _ => v = .int .i64 (i : Int)) :: .val (fun v _ => v = .pointer (some (a1.add i))) :: .val (fun v _ => v = .int .i64 x) :: .val (fun v _ => v = .slice (some b1) n d) :: .val (fun v _ => v = .int .i64 (i : Int)) :: .val (fun v _ => v = .pointer (some (b1.add i))) :: .val (fun v _ => v = .int .i64 x) :: .val (fun v _ => v = .bool false) :: [])
        ([] :: [] :: [(17, 0), (18, 1)] :: [(19, 2)] :: [] :: [] :: [(21, 4), (22, 5)] :: [(23, 6)] :: [(20, 3), (24, 7)] :: []) ((0, 0) :: (0, 0) :: (0, 0) :: (0, 0) :: (0, 0) :: (0, 0) :: (0, 0) :: (0, 0) :: (0, 0) :: []) 26 (by kernel_rfl) rfl rfl (by kernel_rfl) ⟨Stab.pure _ _ _, Stab.pure _ _ _, Stab.pure _ _ _, Stab.pure _ _ _, Stab.pure _ _ _, Stab.pure _ _ _, Stab.pure _ _ _, Stab.pure _ _ _, Stab.pure _ _ _, trivial⟩ ⟨?_, ?_, ?_, ?_, ?_, ?_, ?_, ?_, ?_, trivial⟩ ?_
      · intro wx hb
        intro K hK
        go_simp
        exact hK _ _ rfl ⟨rfl, Below.refl _ _⟩
      · intro wx hb
        intro K hK
        go_simp
        exact hK _ _ rfl ⟨rfl, Below.refl _ _⟩
      · intro wx hb
        rintro _ rfl
        rintro _ rfl
        intro K hK
        go_simp
        exact hK _ _ rfl ⟨rfl, Below.refl _ _⟩
      · intro wx hb
        rintro _ rfl
        intro K hK
        have zz := (hb.cell (p := a1.add i) ha2).trans cx; go_simp; exact hK _ _ rfl ⟨rfl, Below.refl _ _⟩
      · intro wx hb
        intro K hK
        go_simp
        exact hK _ _ rfl ⟨rfl, Below.refl _ _⟩
      · intro wx hb
        intro K hK
        go_simp
        exact hK _ _ rfl ⟨rfl, Below.refl _ _⟩
      · intro wx hb
        rintro _ rfl
        rintro _ rfl
        intro K hK
        go_simp
        exact hK _ _ rfl ⟨rfl, Below.refl _ _⟩
      · intro wx hb
        rintro _ rfl
        intro K hK
        have zz := (hb.cell (p := b1.add i) hb2).trans cy; go_simp; exact hK _ _ rfl ⟨rfl, Below.refl _ _⟩
      · intro wx hb
        rintro _ rfl
        rintro _ rfl
        intro K hK
        go_simp
        exact hK _ _ rfl ⟨rfl, Below.refl _ _⟩
      intro w3 B3
      rintro _ rfl
      rintro _ rfl
      rintro _ rfl
      rintro _ rfl
      rintro _ rfl
      rintro _ rfl
      rintro _ rfl
      rintro _ rfl
      rintro _ rfl
      rintro -
      simp only [Act.put, List.setIfInBounds_toArray, List.set_cons_zero, List.set_cons_succ, List.toList_toArray, List.length_cons, List.length_nil, List.drop_succ_cons, List.drop_zero, List.drop_nil, Nat.zero_add, wpList]
      have BW3 := Lib.hid (bkeep BW.out B3)
      clear B3
      go_wp2_with fail
      go_roundw
      case rel => exact ⟨i + 1, by go_num, by omega, BW3⟩
      case measure => simp [intOf]; omega
    · obtain rfl : i = n := by omega
      go_wp2_with fail
      go_ret
      exact ⟨rfl, BW.out⟩
set_option maxRecDepth 100000 in
set_option maxHeartbeats 8000000 in
theorem rdepths_any (g : List Rl) (n c : Nat) (A : Option Addr) (hl : g.length = n) (hn : n ≤ 1000000) (h0 : gcode 0 g = 0) (w : World) (ha : RowAt w A (gc g)) :
    Calls Try.prog 25 #[.slice A n c] w (SliceOut w n (vi (deps g))) := by
  obtain ⟨D, hD⟩ : ∃ D, D = deps g := ⟨_, rfl⟩
  rw [← hD]
  obtain ⟨i0_, hi, hz0, hz1, hz2⟩ := info_parts5 info_int
  have HI := Lib.hid hi; have HZ := Lib.hid hz0; have HZ1 := Lib.hid hz1; have HZ2 := Lib.hid hz2
  have HA := Lib.hid ha; have HL := Lib.hid hl; have H0 := Lib.hid h0; have HD := Lib.hid hD
  clear ha hl h0 hD hi hz0 hz1 hz2
  go_enter Try.func25, Try.ntmps25
  go_wp2_with fail
  go_loopw [3, 4, 5] (fun so si _ wr => ∃ (i : Nat) (acc : List Int) (A1 : Option Addr) (c1 : Nat), si = .int .i64 (i : Int) ∧ i ≤ n ∧ so = .slice A1 i c1 ∧ Hid (acc.length = i ∧ fwd dep1 acc (g.drop i) = D ∧ DB acc) ∧ Hid (wr.ownsRow w.heap.size 3 1 (.slice A1 i c1) i (vi acc)) ∧ Hid (Below w.heap.size w wr)) (fun _ si _ _ => n - (intOf si).toNat)
  case atStart => exact ⟨0, [], none, 0, rfl, by omega, rfl, Lib.hid ⟨rfl, HD.out.symm, fun j hj => by simp at hj⟩, Lib.hid ⟨by simp [vi], .inl ⟨rfl, rfl⟩⟩, Lib.hid (Below.refl _ _)⟩
  case round =>
    obtain ⟨i, acc, A1, c1, rfl, hi, rfl, HG, HO, BW⟩ := hrel
    by_cases hlt : i < n
    · have hil : i < g.length := by rw [HL.out]; exact hlt
      obtain ⟨r, hr⟩ : ∃ r, g[i]? = some r := ⟨_, List.getElem?_eq_getElem hil⟩
      have hway := rule_way H0.out hr
      obtain ⟨ad, rfl, hadl, c0, c1_, c2, c3, c4⟩ := row_rl (HA.out.below BW.out (Nat.le_refl _)) hr
      have HR := Lib.hid hr
      obtain ⟨kd, lt, lf, rg, tm⟩ := r
      simp only at c0 c1_ c2 c3 c4 hway
      have i0 : (0 : Int) ≤ i := by omega
      have i1 : (i : Int) < (n : Int) := by omega
      clear hr
      rcases hway with ⟨rfl, rfl, rfl, rfl⟩ | ⟨rfl, rfl, rfl, p1, p2, q1, q2⟩ | ⟨rfl, rfl, rfl, t2, p1, p2⟩
      · have HG2 : Hid ((acc ++ [(0 : Int)]).length = i + 1 ∧ fwd dep1 (acc ++ [0]) (g.drop (i + 1)) = D ∧ DB (acc ++ [0])) := Lib.hid ⟨by simp [HG.out.1], (dep_step HR.out).symm.trans HG.out.2.1, HG.out.2.2.snoc (Int.le_refl _) (by omega)⟩
        have HAp := Lib.hid (own_alloc HO.out (.cells #[.int .i64 0] 3))
        go_wp2_with (refine wpList_app _ (by rfl) (.tmp 58) (.tmp 60) _ rfl w.heap.size 3 i0_ _ 1 8 Try.underlying23 HI.out HZ.out HZ1.out HZ2.out rfl (by omega) (.slice A1 i c1) i (vi acc) rfl HAp.out (some ⟨wr.heap.size, 0, none⟩) 1 1 (vi [0]) rfl rfl ?row (vi_one _) (by simp only [maxLen]; omega) (by omega) ?size ?_)
        case row => exact RowAt.of_block (heap_alloc_new wr _)
        case size => have := BW.out.size; simp; omega
        intro A5 c5 w5 own5 gr5 at5
        have B5 := Lib.hid ((balloc BW.out _).grown gr5 (by have := BW.out.size; simp; omega) (own_ge HO.out))
        rw [← vi_app] at own5
        have HO5 := Lib.hid own5
        clear own5 gr5 at5
        go_wp2_with fail
        go_roundw
        case rel => exact ⟨i + 1, acc ++ [0], A5, c5, by go_num, by omega, rfl, HG2, HO5, B5⟩
        case measure => simp [intOf]; omega
      · obtain ⟨a, rfl⟩ : ∃ a : Nat, lf = (a : Int) + 1 := ⟨(lf - 1).toNat, by omega⟩
        obtain ⟨b, rfl⟩ : ∃ b : Nat, rg = (b : Int) + 1 := ⟨(rg - 1).toNat, by omega⟩
        have ai : a < i := by omega
        have an : (a : Int) < i := by omega
        have a0 : (0 : Int) ≤ a := by omega
        have ai2 : a < acc.length := by rw [HG.out.1]; exact ai
        have bi : b < i := by omega
        have bn : (b : Int) < i := by omega
        have b0 : (0 : Int) ≤ b := by omega
        have bi2 : b < acc.length := by rw [HG.out.1]; exact bi
        obtain ⟨ar, rfl, harl, hcl⟩ := (own_row _ HO.out).get (vi_get ai2); clear hcl
        obtain ⟨x, hx⟩ : ∃ x, x = acc.getD a 0 := ⟨_, rfl⟩
        have cx : wr.cell? (ar.add a) = some (.int .i64 x) := (row_cell (own_row _ HO.out) ai2).trans (by rw [hx])
        obtain ⟨xlo, xhi⟩ : 0 ≤ x ∧ x ≤ a := by rw [hx]; exact HG.out.2.2 a ai2
        have wx : IntKind.i64.wrap (1 + x) = 1 + x := IntWalk.i64_in _ ⟨by omega, by omega⟩
        have wa : IntKind.i64.wrap (a : Int) = a := IntWalk.i64_in _ ⟨by omega, by omega⟩
        obtain ⟨y, hy⟩ : ∃ y, y = acc.getD b 0 := ⟨_, rfl⟩
        have cy : wr.cell? (ar.add b) = some (.int .i64 y) := (row_cell (own_row _ HO.out) bi2).trans (by rw [hy])
        obtain ⟨ylo, yhi⟩ : 0 ≤ y ∧ y ≤ b := by rw [hy]; exact HG.out.2.2 b bi2
        have wy : IntKind.i64.wrap (1 + y) = 1 + y := IntWalk.i64_in _ ⟨by omega, by omega⟩
        have wb : IntKind.i64.wrap (b : Int) = b := IntWalk.i64_in _ ⟨by omega, by omega⟩
        by_cases hq : 1 + x < 1 + y
        · skip
          have HE : Hid (dep1 acc ⟨2, 0, (a : Int) + 1, (b : Int) + 1, 0⟩ = (1 + y)) := Lib.hid (by
            have ea : ((a : Int) + 1 - 1).toNat = a := by omega
            have eb : ((b : Int) + 1 - 1).toNat = b := by omega
            show 1 + maxI (acc.getD ((a : Int) + 1 - 1).toNat 0) (acc.getD ((b : Int) + 1 - 1).toNat 0) = (1 + y)
            rw [ea, eb, ← hx, ← hy]; unfold maxI; rw [if_pos (by omega)])
          have HG2 : Hid ((acc ++ [(1 + y)]).length = i + 1 ∧ fwd dep1 (acc ++ [(1 + y)]) (g.drop (i + 1)) = D ∧ DB (acc ++ [(1 + y)])) := Lib.hid ⟨by simp [HG.out.1], by rw [← HE.out]; exact (dep_step HR.out).symm.trans HG.out.2.1, HG.out.2.2.snoc (by omega) (by rw [HG.out.1]; omega)⟩
          clear hx hy
          have HAp := Lib.hid (own_alloc HO.out (.cells #[.int .i64 (1 + y)] 3))
          go_wp2_with (refine wpList_app _ (by rfl) (.tmp 58) (.tmp 60) _ rfl w.heap.size 3 i0_ _ 1 8 Try.underlying23 HI.out HZ.out HZ1.out HZ2.out rfl (by omega) (.slice (some ar) i c1) i (vi acc) rfl HAp.out (some ⟨wr.heap.size, 0, none⟩) 1 1 (vi [(1 + y)]) rfl rfl ?row (vi_one _) (by simp only [maxLen]; omega) (by omega) ?size ?_)
          case row => exact RowAt.of_block (heap_alloc_new wr _)
          case size => have := BW.out.size; simp; omega
          intro A5 c5 w5 own5 gr5 at5
          have B5 := Lib.hid ((balloc BW.out _).grown gr5 (by have := BW.out.size; simp; omega) (own_ge HO.out))
          rw [← vi_app] at own5
          have HO5 := Lib.hid own5
          clear own5 gr5 at5
          go_wp2_with fail
          go_roundw
          case rel => exact ⟨i + 1, acc ++ [(1 + y)], A5, c5, by go_num, by omega, rfl, HG2, HO5, B5⟩
          case measure => simp [intOf]; omega
        · skip
          have HE : Hid (dep1 acc ⟨2, 0, (a : Int) + 1, (b : Int) + 1, 0⟩ = (1 + x)) := Lib.hid (by
            have ea : ((a : Int) + 1 - 1).toNat = a := by omega
            have eb : ((b : Int) + 1 - 1).toNat = b := by omega
            show 1 + maxI (acc.getD ((a : Int) + 1 - 1).toNat 0) (acc.getD ((b : Int) + 1 - 1).toNat 0) = (1 + x)
            rw [ea, eb, ← hx, ← hy]; unfold maxI; rw [if_neg (by omega)])
          have HG2 : Hid ((acc ++ [(1 + x)]).length = i + 1 ∧ fwd dep1 (acc ++ [(1 + x)]) (g.drop (i + 1)) = D ∧ DB (acc ++ [(1 + x)])) := Lib.hid ⟨by simp [HG.out.1], by rw [← HE.out]; exact (dep_step HR.out).symm.trans HG.out.2.1, HG.out.2.2.snoc (by omega) (by rw [HG.out.1]; omega)⟩
          clear hx hy
          have HAp := Lib.hid (own_alloc HO.out (.cells #[.int .i64 (1 + x)] 3))
          go_wp2_with (refine wpList_app _ (by rfl) (.tmp 58) (.tmp 60) _ rfl w.heap.size 3 i0_ _ 1 8 Try.underlying23 HI.out HZ.out HZ1.out HZ2.out rfl (by omega) (.slice (some ar) i c1) i (vi acc) rfl HAp.out (some ⟨wr.heap.size, 0, none⟩) 1 1 (vi [(1 + x)]) rfl rfl ?row (vi_one _) (by simp only [maxLen]; omega) (by omega) ?size ?_)
          case row => exact RowAt.of_block (heap_alloc_new wr _)
          case size => have := BW.out.size; simp; omega
          intro A5 c5 w5 own5 gr5 at5
          have B5 := Lib.hid ((balloc BW.out _).grown gr5 (by have := BW.out.size; simp; omega) (own_ge HO.out))
          rw [← vi_app] at own5
          have HO5 := Lib.hid own5
          clear own5 gr5 at5
          go_wp2_with fail
          go_roundw
          case rel => exact ⟨i + 1, acc ++ [(1 + x)], A5, c5, by go_num, by omega, rfl, HG2, HO5, B5⟩
          case measure => simp [intOf]; omega
      · obtain ⟨a, rfl⟩ : ∃ a : Nat, lf = (a : Int) + 1 := ⟨(lf - 1).toNat, by omega⟩
        have ai : a < i := by omega
        have an : (a : Int) < i := by omega
        have a0 : (0 : Int) ≤ a := by omega
        have ai2 : a < acc.length := by rw [HG.out.1]; exact ai
        obtain ⟨ar, rfl, harl, hcl⟩ := (own_row _ HO.out).get (vi_get ai2); clear hcl
        obtain ⟨x, hx⟩ : ∃ x, x = acc.getD a 0 := ⟨_, rfl⟩
        have cx : wr.cell? (ar.add a) = some (.int .i64 x) := (row_cell (own_row _ HO.out) ai2).trans (by rw [hx])
        obtain ⟨xlo, xhi⟩ : 0 ≤ x ∧ x ≤ a := by rw [hx]; exact HG.out.2.2 a ai2
        have wx : IntKind.i64.wrap (1 + x) = 1 + x := IntWalk.i64_in _ ⟨by omega, by omega⟩
        have wa : IntKind.i64.wrap (a : Int) = a := IntWalk.i64_in _ ⟨by omega, by omega⟩
        have HE : Hid (dep1 acc ⟨3, 0, (a : Int) + 1, 0, tm⟩ = (1 + x)) := Lib.hid (by
          have ea : ((a : Int) + 1 - 1).toNat = a := by omega
          show 1 + acc.getD ((a : Int) + 1 - 1).toNat 0 = (1 + x)
          rw [ea, ← hx])
        have HG2 : Hid ((acc ++ [(1 + x)]).length = i + 1 ∧ fwd dep1 (acc ++ [(1 + x)]) (g.drop (i + 1)) = D ∧ DB (acc ++ [(1 + x)])) := Lib.hid ⟨by simp [HG.out.1], by rw [← HE.out]; exact (dep_step HR.out).symm.trans HG.out.2.1, HG.out.2.2.snoc (by omega) (by rw [HG.out.1]; omega)⟩
        clear hx
        have HAp := Lib.hid (own_alloc HO.out (.cells #[.int .i64 (1 + x)] 3))
        go_wp2_with (refine wpList_app _ (by rfl) (.tmp 58) (.tmp 60) _ rfl w.heap.size 3 i0_ _ 1 8 Try.underlying23 HI.out HZ.out HZ1.out HZ2.out rfl (by omega) (.slice (some ar) i c1) i (vi acc) rfl HAp.out (some ⟨wr.heap.size, 0, none⟩) 1 1 (vi [(1 + x)]) rfl rfl ?row (vi_one _) (by simp only [maxLen]; omega) (by omega) ?size ?_)
        case row => exact RowAt.of_block (heap_alloc_new wr _)
        case size => have := BW.out.size; simp; omega
        intro A5 c5 w5 own5 gr5 at5
        have B5 := Lib.hid ((balloc BW.out _).grown gr5 (by have := BW.out.size; simp; omega) (own_ge HO.out))
        rw [← vi_app] at own5
        have HO5 := Lib.hid own5
        clear own5 gr5 at5
        go_wp2_with fail
        go_roundw
        case rel => exact ⟨i + 1, acc ++ [(1 + x)], A5, c5, by go_num, by omega, rfl, HG2, HO5, B5⟩
        case measure => simp [intOf]; omega
    · obtain rfl : i = n := by omega
      have HG2 : Hid (acc = D) := Lib.hid (by
        have h := HG.out.2.1
        rw [List.drop_of_length_le (by rw [HL.out]; exact Nat.le_refl _)] at h
        exact h)
      go_wp2_with fail
      go_ret
      exact ⟨A1, c1, rfl, by rw [← HG2.out]; exact own_row _ HO.out, BW.out⟩
end Go.Proofs.Ytcbahojefglakaa
