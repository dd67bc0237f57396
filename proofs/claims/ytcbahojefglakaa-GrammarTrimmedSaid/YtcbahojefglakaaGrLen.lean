/- The walk of grammar.lengths. Written by wip/gen/grlen.py. -/
import Derived.Test.YtcbahojefglakaaGrPlain
import Derived.Test.YtcbahojefglakaaRegSt
import Derived.Deep.DrawnRows
namespace Go.Proofs.Ytcbahojefglakaa
set_option linter.unusedVariables false
set_option linter.unusedSimpArgs false
open Go.RowKit Go.Lib
attribute [local go_sem ↓] Go.wp_at_zero Go.wp_at_succ
theorem arr_row {w : World} {G : Nat} {t : TypeId} {acc : List Int} {n : Nat} (h : Box w G t (arr acc n)) (hl : acc.length = n) : RowAt w (some ⟨G, 0, none⟩) (vi acc) := by
  have := RowAt.of_block h
  rw [arr_end hl] at this
  exact this
set_option maxRecDepth 100000 in
set_option maxHeartbeats 8000000 in
theorem lengths_any (g : List Rl) (n c : Nat) (A : Option Addr) (hl : g.length = n) (hn : n ≤ 1000000) (w : World) (ha : RowAt w A (gc g)) :
    Calls Try.prog 45 #[.slice A n c] w fun e w' => ∃ A2 c2, e = .returned (.tuple #[.slice A2 (lens g).1.length c2, errv (lens g).2]) ∧ RowAt w' A2 (vi (lens g).1) ∧ Below w.heap.size w w' := by
  have HC := fun w h => check_g g n c A hl (by omega) w h
  by_cases h0 : gcode 0 g = 0
  · rw [h0] at HC
    rw [lens_ok h0]
    obtain ⟨L, hL⟩ : ∃ L, L = lensFrom [] g := ⟨_, rfl⟩
    rw [← hL]
    have HA := Lib.hid ha; have HL := Lib.hid hl; have HCC := Lib.hid HC; have H0 := Lib.hid h0; have HLL := Lib.hid hL
    clear ha hl HC h0 hL
    go_enter Try.func45, Try.ntmps45
    go_wp2_with fail
    (with_reducible refine (HCC.out _ HA.out).mono ?_)
    rintro e w1 ⟨rfl, B1⟩
    rw [errv_zero]
    have BW1 := Lib.hid B1
    have mk := fun w => mk_ints n (by omega) w
    clear B1
    go_wp2_with fail
    clear mk
    have BG := Lib.hid (Box.new w1 3 (arr [] n))
    have B0 := Lib.hid (balloc BW1.out (.cells (arr [] n) 3))
    have zg : w.heap.size ≤ w1.heap.size := BW1.out.size
    go_loopw [6, 7, 8, 19] (fun _ _ _ si wr => ∃ (i : Nat) (acc : List Int), si = .int .i64 (i : Int) ∧ i ≤ n ∧ Hid (acc.length = i ∧ lensFrom acc (g.drop i) = L) ∧ Hid (Box wr w1.heap.size 3 (arr acc n)) ∧ Hid (Below w.heap.size w wr)) (fun _ _ _ si _ => n - (intOf si).toNat)
    case atStart => exact ⟨0, [], rfl, by omega, Lib.hid ⟨rfl, HLL.out.symm⟩, BG, B0⟩
    case round =>
      obtain ⟨i, acc, rfl, hi, HG, HB, BW⟩ := hrel
      by_cases hlt : i < n
      · have hil : i < g.length := by rw [HL.out]; exact hlt
        obtain ⟨r, hr⟩ : ∃ r, g[i]? = some r := ⟨_, List.getElem?_eq_getElem hil⟩
        have hway := rule_way H0.out hr
        obtain ⟨ad, rfl, hadl, c0, c1, c2, c3, c4⟩ := row_rl (HA.out.below BW.out (Nat.le_refl _)) hr
        obtain ⟨kd, lt, lf, rg, tm⟩ := r
        simp only at c0 c1 c2 c3 c4 hway
        have i0 : (0 : Int) ≤ i := by omega
        have i1 : (i : Int) < (n : Int) := by omega
        have zw : w1.heap.size < wr.heap.size := HB.out.lt
        have zn : w1.heap.size ≠ wr.heap.size := by omega
        have v0 : wr.cell? ⟨w1.heap.size, i, none⟩ = some (.int .i64 0) := (HB.out.cell i).trans (arr_zero (by rw [HG.out.1]; exact Nat.le_refl _) hlt)
        have f0 := HB.out.free i
        rcases hway with ⟨rfl, rfl, rfl, rfl⟩ | ⟨rfl, rfl, rfl, p1, p2, q1, q2⟩ | ⟨rfl, rfl, rfl, t2, p1, p2⟩
        · have HG2 : Hid ((acc ++ [(1 : Int)]).length = i + 1 ∧ lensFrom (acc ++ [1]) (g.drop (i + 1)) = L) := Lib.hid ⟨by simp [HG.out.1], by
            have e := len1_letter acc (r := ⟨1, lt, 0, 0, 0⟩) rfl
            have := lf_ok (acc := acc) hr (by rw [e])
            rw [e] at this
            exact this.symm.trans HG.out.2⟩
          have HB2 : Hid (Box (wr.setCell ⟨w1.heap.size, i, none⟩ (.int .i64 1)) w1.heap.size 3 (arr (acc ++ [1]) n)) := Lib.hid (by
            have h1 := HB.out.set_ i (.int .i64 1)
            have h2 := arr_set (acc := acc) (n := n) 1 (by rw [HG.out.1]; exact hlt)
            rw [HG.out.1] at h2
            rw [h2] at h1
            exact h1)
          have BW2 := Lib.hid (BW.out.setCell (p := ⟨w1.heap.size, i, none⟩) zg (.int .i64 1))
          clear hr
          go_wp2_with fail
          go_roundw
          case rel => exact ⟨i + 1, acc ++ [1], by go_num, by omega, HG2, Lib.hid (HB2.out.alloc _), Lib.hid (balloc BW2.out _)⟩
          case measure => simp [intOf]; omega
        · obtain ⟨a, rfl⟩ : ∃ a : Nat, lf = (a : Int) + 1 := ⟨(lf - 1).toNat, by omega⟩
          obtain ⟨b, rfl⟩ : ∃ b : Nat, rg = (b : Int) + 1 := ⟨(rg - 1).toNat, by omega⟩
          have ai : a < i := by omega
          have an : (a : Int) < n := by omega
          have a0 : (0 : Int) ≤ a := by omega
          have bi : b < i := by omega
          have bn : (b : Int) < n := by omega
          have b0 : (0 : Int) ≤ b := by omega
          obtain ⟨x, hx⟩ : ∃ x, x = acc.getD a 0 := ⟨_, rfl⟩
          obtain ⟨y, hy⟩ : ∃ y, y = acc.getD b 0 := ⟨_, rfl⟩
          have cx : wr.cell? ⟨w1.heap.size, a, none⟩ = some (.int .i64 x) := (HB.out.cell a).trans ((arr_get (by rw [HG.out.1]; exact ai)).trans (by rw [hx]))
          have cy : wr.cell? ⟨w1.heap.size, b, none⟩ = some (.int .i64 y) := (HB.out.cell b).trans ((arr_get (by rw [HG.out.1]; exact bi)).trans (by rw [hy]))
          obtain ⟨⟨vv, k⟩, hk⟩ : ∃ q, lenAdd x y = q := ⟨_, rfl⟩
          have hc := fun w => lenadd_any x y w
          rw [hk] at hc
          have HQ := Lib.hid hc
          have HE : Hid (len1 acc ⟨2, 0, (a : Int) + 1, (b : Int) + 1, 0⟩ = (vv, k)) := Lib.hid (by
            have e := len1_pair acc (r := ⟨2, 0, (a : Int) + 1, (b : Int) + 1, 0⟩) rfl
            have ea : ((a : Int) + 1 - 1).toNat = a := by omega
            have eb : ((b : Int) + 1 - 1).toNat = b := by omega
            exact e.trans (by simp only [ea, eb, ← hx, ← hy]; exact hk))
          have HR := Lib.hid hr
          have HB2 : Hid (Box (wr.setCell ⟨w1.heap.size, i, none⟩ (.int .i64 vv)) w1.heap.size 3 (arr (acc ++ [vv]) n)) := Lib.hid (by
            have h1 := HB.out.set_ i (.int .i64 vv)
            have h2 := arr_set (acc := acc) (n := n) vv (by rw [HG.out.1]; exact hlt)
            rw [HG.out.1] at h2
            rw [h2] at h1
            exact h1)
          have HBw := Lib.hid (HB.out.alloc (.cells #[.int .i64 2, .int .u8 0, .int .i64 ((a : Int) + 1), .int .i64 ((b : Int) + 1), .int .i64 0] 46))
          have BX := Box.new wr 46 #[.int .i64 2, .int .u8 0, .int .i64 ((a : Int) + 1), .int .i64 ((b : Int) + 1), .int .i64 0]
          have BW0 := balloc BW.out (.cells #[.int .i64 2, .int .u8 0, .int .i64 ((a : Int) + 1), .int .i64 ((b : Int) + 1), .int .i64 0] 46)
          have wa : IntKind.i64.wrap (a : Int) = a := IntWalk.i64_in _ ⟨by omega, by omega⟩
          have wb : IntKind.i64.wrap (b : Int) = b := IntWalk.i64_in _ ⟨by omega, by omega⟩
          clear hr hx hy hk hc
          go_upto_region 13 with fail
          refine Rs.region_st (sx := 19) (px := ⟨w1.heap.size, i, none⟩) (ux := (.int .i64 vv)) (bs := [true, true, true, true, true, true, true, true, true, true, true, true, true, true, true, true, true, false, true, true]) (.val (fun v _ => v = .slice (some ⟨w1.heap.size, 0, none⟩) n n) :: .val (fun v _ => v = .int .i64 (i : Int)) :: .val (fun v _ => v = .slice (some ⟨w1.heap.size, 0, none⟩) n n) :: .val (fun v _ => v = .pointer (some ⟨wr.heap.size, 2, none⟩)) :: .val (fun v _ => v = .int .i64 ((a : Int) + 1)) :: .val (fun v _ => v = .int .i64 (a : Int)) :: .val (fun v _ => v = .pointer (some ⟨w1.heap.size, a, none⟩)) :: .val (fun v _ => v = .int .i64 x) :: .val (fun v _ => v = .slice (some ⟨w1.heap.size, 0, none⟩) n n) :: .val (fun v _ => v = .pointer (some ⟨wr.heap.size, 3, none⟩)) :: .val (fun v _ => v = .int .i64 ((b : Int) + 1)) :: .val (fun v _ => v = .int .i64 (b : Int)) :: .val (fun v _ => v = .pointer (some ⟨w1.heap.size, b, none⟩)) :: .val (fun v _ => v = .int .i64 y) :: .val (fun v _ => v = .tuple #[.int .i64 vv, errv k]) :: .val (fun v _ => v = .tuple #[.int .i64 vv, errv k]) :: .val (fun v _ => v = .int .i64 vv) :: .val (fun v _ => v = errv k) :: .val (fun v _ => v = .pointer (some ⟨w1.heap.size, i, none⟩)) :: .st ⟨w1.heap.size, i, none⟩ ((.int .i64 vv)) :: [])
            ([] :: [] :: [] :: [] :: [(37, 3)] :: [(38, 4)] :: [(36, 2), (39, 5)] :: [(40, 6)] :: [] :: [] :: [(43, 9)] :: [(44, 10)] :: [(42, 8), (45, 11)] :: [(46, 12)] :: [(41, 7), (47, 13)] :: [(48, 14)] :: [(33, 15)] :: [(33, 15)] :: [(34, 0), (35, 1)] :: [(51, 18), (49, 16)] :: []) ((0, 0) :: (0, 0) :: (0, 0) :: (0, 0) :: (0, 0) :: (0, 0) :: (0, 0) :: (0, 0) :: (0, 0) :: (0, 0) :: (0, 0) :: (0, 0) :: (0, 0) :: (0, 0) :: (0, 0) :: (0, 0) :: (0, 0) :: (0, 0) :: (0, 0) :: (3, 0) :: []) 74 (by kernel_rfl) rfl rfl (by kernel_rfl) (by kernel_rfl) rfl (by first | omega | (simp; omega)) ⟨⟨rfl, rfl⟩, trivial⟩ (by decide) ⟨⟨Rs.Stab.pure _ _ _, fun _ _ h => h⟩, ⟨Rs.Stab.pure _ _ _, fun _ _ h => h⟩, ⟨Rs.Stab.pure _ _ _, fun _ _ h => h⟩, ⟨Rs.Stab.pure _ _ _, fun _ _ h => h⟩, ⟨Rs.Stab.pure _ _ _, fun _ _ h => h⟩, ⟨Rs.Stab.pure _ _ _, fun _ _ h => h⟩, ⟨Rs.Stab.pure _ _ _, fun _ _ h => h⟩, ⟨Rs.Stab.pure _ _ _, fun _ _ h => h⟩, ⟨Rs.Stab.pure _ _ _, fun _ _ h => h⟩, ⟨Rs.Stab.pure _ _ _, fun _ _ h => h⟩, ⟨Rs.Stab.pure _ _ _, fun _ _ h => h⟩, ⟨Rs.Stab.pure _ _ _, fun _ _ h => h⟩, ⟨Rs.Stab.pure _ _ _, fun _ _ h => h⟩, ⟨Rs.Stab.pure _ _ _, fun _ _ h => h⟩, ⟨Rs.Stab.pure _ _ _, fun _ _ h => h⟩, ⟨Rs.Stab.pure _ _ _, fun _ _ h => h⟩, ⟨Rs.Stab.pure _ _ _, fun _ _ h => h⟩, ⟨Rs.Stab.pure _ _ _, fun _ _ h => h⟩, ⟨Rs.Stab.pure _ _ _, fun _ _ h => h⟩, trivial⟩ ⟨?_, ?_, ?_, ?_, ?_, ?_, ?_, ?_, ?_, ?_, ?_, ?_, ?_, ?_, ?_, ?_, ?_, ?_, ?_, ?_, trivial⟩ ?_
          · intro wx hb0
            have hb : Below _ _ wx := hb0
            intro K hK
            go_simp
            exact hK _ _ rfl ⟨rfl, Below.refl _ _⟩
          · intro wx hb0
            have hb : Below _ _ wx := hb0
            intro K hK
            go_simp
            exact hK _ _ rfl ⟨rfl, Below.refl _ _⟩
          · intro wx hb0
            have hb : Below _ _ wx := hb0
            intro K hK
            go_simp
            exact hK _ _ rfl ⟨rfl, Below.refl _ _⟩
          · intro wx hb0
            have hb : Below _ _ wx := hb0
            intro K hK
            go_simp
            exact hK _ _ rfl ⟨rfl, Below.refl _ _⟩
          · intro wx hb0
            have hb : Below _ _ wx := hb0
            rintro _ rfl
            intro K hK
            have mm := Box.below (BX) hb (Box.lt (BX))
            have m0 : wx.cell? ⟨wr.heap.size, 0, none⟩ = some (.int .i64 2) := mm.cell 0
            have m1 : wx.cell? ⟨wr.heap.size, 1, none⟩ = some (.int .u8 0) := mm.cell 1
            have m2 : wx.cell? ⟨wr.heap.size, 2, none⟩ = some (.int .i64 ((a : Int) + 1)) := mm.cell 2
            have m3 : wx.cell? ⟨wr.heap.size, 3, none⟩ = some (.int .i64 ((b : Int) + 1)) := mm.cell 3
            have m4 : wx.cell? ⟨wr.heap.size, 4, none⟩ = some (.int .i64 0) := mm.cell 4
            clear mm
            go_simp
            exact hK _ _ rfl ⟨rfl, Below.refl _ _⟩
          · intro wx hb0
            have hb : Below _ _ wx := hb0
            rintro _ rfl
            intro K hK
            go_simp
            exact hK _ _ rfl ⟨rfl, Below.refl _ _⟩
          · intro wx hb0
            have hb : Below _ _ wx := hb0
            rintro _ rfl
            rintro _ rfl
            intro K hK
            go_simp
            exact hK _ _ rfl ⟨rfl, Below.refl _ _⟩
          · intro wx hb0
            have hb : Below _ _ wx := hb0
            rintro _ rfl
            intro K hK
            have zz := (hb.cell (p := ⟨w1.heap.size, a, none⟩) HBw.out.lt).trans ((HBw.out.cell a).trans ((HB.out.cell a).symm.trans cx)); go_simp; exact hK _ _ rfl ⟨rfl, Below.refl _ _⟩
          · intro wx hb0
            have hb : Below _ _ wx := hb0
            intro K hK
            go_simp
            exact hK _ _ rfl ⟨rfl, Below.refl _ _⟩
          · intro wx hb0
            have hb : Below _ _ wx := hb0
            intro K hK
            go_simp
            exact hK _ _ rfl ⟨rfl, Below.refl _ _⟩
          · intro wx hb0
            have hb : Below _ _ wx := hb0
            rintro _ rfl
            intro K hK
            have mm := Box.below (BX) hb (Box.lt (BX))
            have m0 : wx.cell? ⟨wr.heap.size, 0, none⟩ = some (.int .i64 2) := mm.cell 0
            have m1 : wx.cell? ⟨wr.heap.size, 1, none⟩ = some (.int .u8 0) := mm.cell 1
            have m2 : wx.cell? ⟨wr.heap.size, 2, none⟩ = some (.int .i64 ((a : Int) + 1)) := mm.cell 2
            have m3 : wx.cell? ⟨wr.heap.size, 3, none⟩ = some (.int .i64 ((b : Int) + 1)) := mm.cell 3
            have m4 : wx.cell? ⟨wr.heap.size, 4, none⟩ = some (.int .i64 0) := mm.cell 4
            clear mm
            go_simp
            exact hK _ _ rfl ⟨rfl, Below.refl _ _⟩
          · intro wx hb0
            have hb : Below _ _ wx := hb0
            rintro _ rfl
            intro K hK
            go_simp
            exact hK _ _ rfl ⟨rfl, Below.refl _ _⟩
          · intro wx hb0
            have hb : Below _ _ wx := hb0
            rintro _ rfl
            rintro _ rfl
            intro K hK
            go_simp
            exact hK _ _ rfl ⟨rfl, Below.refl _ _⟩
          · intro wx hb0
            have hb : Below _ _ wx := hb0
            rintro _ rfl
            intro K hK
            have zz := (hb.cell (p := ⟨w1.heap.size, b, none⟩) HBw.out.lt).trans ((HBw.out.cell b).trans ((HB.out.cell b).symm.trans cy)); go_simp; exact hK _ _ rfl ⟨rfl, Below.refl _ _⟩
          · intro wx hb0
            have hb : Below _ _ wx := hb0
            rintro _ rfl
            rintro _ rfl
            intro K hK
            go_simp
            (with_reducible refine (HQ.out _).mono ?_)
            rintro e wa ⟨rfl, rfl⟩
            exact hK _ _ rfl ⟨rfl, Below.refl _ _⟩
          · intro wx hb0
            have hb : Below _ _ wx := hb0
            rintro _ rfl
            intro K hK
            go_simp
            exact hK _ _ rfl ⟨rfl, Below.refl _ _⟩
          · intro wx hb0
            have hb : Below _ _ wx := hb0
            rintro _ rfl
            intro K hK
            go_simp
            exact hK _ _ rfl ⟨rfl, Below.refl _ _⟩
          · intro wx hb0
            rintro _ rfl
            intro K hK
            go_simp
            exact hK _ _ rfl ⟨rfl, Below.refl _ _⟩
          · intro wx hb0
            have hb : Below _ _ wx := hb0
            rintro _ rfl
            rintro _ rfl
            intro K hK
            go_simp
            exact hK _ _ rfl ⟨rfl, Below.refl _ _⟩
          · intro wx hb0
            have hb : Below _ _ wx := hb0
            rintro _ rfl
            rintro _ rfl
            intro K hK
            have zc := (hb.cell (p := ⟨w1.heap.size, i, none⟩) HBw.out.lt).trans ((HBw.out.cell i).trans ((HB.out.cell i).symm.trans v0)); have zf := (Box.below HBw.out hb HBw.out.lt).free i
            go_simp
            exact hK _ _ rfl rfl
          intro w3 B3
          rintro _ rfl
          rintro _ rfl
          rintro _ rfl
          rintro _ rfl
          rintro _ rfl
          rintro _ rfl
          rintro _ rfl
          rintro _ rfl
          rintro _ rfl
          rintro _ rfl
          rintro _ rfl
          rintro _ rfl
          rintro _ rfl
          rintro _ rfl
          rintro _ rfl
          rintro _ rfl
          rintro _ rfl
          rintro _ rfl
          rintro _ rfl
          rintro -
          simp only [Act.put, List.setIfInBounds_toArray, List.set_cons_zero, List.set_cons_succ, List.toList_toArray, List.length_cons, List.length_nil, List.drop_succ_cons, List.drop_zero, List.drop_nil, Nat.zero_add]
          have HB4 : Hid (Box w3 w1.heap.size 3 (arr (acc ++ [vv]) n)) := Lib.hid (by
            have h1 := HBw.out.set_ i (.int .i64 vv)
            have h2 := arr_set (acc := acc) (n := n) vv (by rw [HG.out.1]; exact hlt)
            rw [HG.out.1] at h2
            rw [h2] at h1
            exact h1.below B3 HBw.out.lt)
          have BW4 := Lib.hid ((BW0.setCell (p := ⟨w1.heap.size, i, none⟩) zg (.int .i64 vv)).trans (B3.mono BW0.size))
          clear B3 BW0 BX HB2 HQ
          by_cases k0 : k = 0
          · subst k0
            rw [errv_zero]
            have HG2 : Hid ((acc ++ [vv]).length = i + 1 ∧ lensFrom (acc ++ [vv]) (g.drop (i + 1)) = L) := Lib.hid ⟨by simp [HG.out.1], by
              have := lf_ok (acc := acc) HR.out (by rw [HE.out])
              rw [HE.out] at this
              exact this.symm.trans HG.out.2⟩
            go_wp2_with fail
            go_roundw
            case rel => exact ⟨i + 1, acc ++ [vv], by go_num, by omega, HG2, HB4, BW4⟩
            case measure => simp [intOf]; omega
          · rw [errv_pos k k0]
            have HG2 : Hid (L = ([], k)) := Lib.hid (by
              have := lf_bad (acc := acc) HR.out (by rw [HE.out]; exact k0)
              rw [HE.out] at this
              exact HG.out.2.symm.trans this)
            clear HG HE HR
            go_wp2_with fail
            go_ret2
            exact ⟨none, 0, by rw [HG2.out, errv_pos k k0]; rfl, by rw [HG2.out]; exact RowAt.nil _ _, BW4.out⟩
        · obtain ⟨a, rfl⟩ : ∃ a : Nat, lf = (a : Int) + 1 := ⟨(lf - 1).toNat, by omega⟩
          have ai : a < i := by omega
          have an : (a : Int) < n := by omega
          have a0 : (0 : Int) ≤ a := by omega
          obtain ⟨x, hx⟩ : ∃ x, x = acc.getD a 0 := ⟨_, rfl⟩
          have cx : wr.cell? ⟨w1.heap.size, a, none⟩ = some (.int .i64 x) := (HB.out.cell a).trans ((arr_get (by rw [HG.out.1]; exact ai)).trans (by rw [hx]))
          obtain ⟨⟨vv, k⟩, hk⟩ : ∃ q, lenMul x tm = q := ⟨_, rfl⟩
          have hc := fun w => lenmul_any x tm w
          rw [hk] at hc
          have HQ := Lib.hid hc
          have HE : Hid (len1 acc ⟨3, 0, (a : Int) + 1, 0, tm⟩ = (vv, k)) := Lib.hid (by
            have e := len1_power acc (r := ⟨3, 0, (a : Int) + 1, 0, tm⟩) rfl
            have ea : ((a : Int) + 1 - 1).toNat = a := by omega
            exact e.trans (by simp only [ea, ← hx]; exact hk))
          have HR := Lib.hid hr
          have HB2 : Hid (Box (wr.setCell ⟨w1.heap.size, i, none⟩ (.int .i64 vv)) w1.heap.size 3 (arr (acc ++ [vv]) n)) := Lib.hid (by
            have h1 := HB.out.set_ i (.int .i64 vv)
            have h2 := arr_set (acc := acc) (n := n) vv (by rw [HG.out.1]; exact hlt)
            rw [HG.out.1] at h2
            rw [h2] at h1
            exact h1)
          have HBw := Lib.hid (HB.out.alloc (.cells #[.int .i64 3, .int .u8 0, .int .i64 ((a : Int) + 1), .int .i64 0, .int .i64 tm] 46))
          have BX := Box.new wr 46 #[.int .i64 3, .int .u8 0, .int .i64 ((a : Int) + 1), .int .i64 0, .int .i64 tm]
          have BW0 := balloc BW.out (.cells #[.int .i64 3, .int .u8 0, .int .i64 ((a : Int) + 1), .int .i64 0, .int .i64 tm] 46)
          have wa : IntKind.i64.wrap (a : Int) = a := IntWalk.i64_in _ ⟨by omega, by omega⟩
          clear hr hx hk hc
          go_upto_region 15 with fail
          refine Rs.region_st (sx := 15) (px := ⟨w1.heap.size, i, none⟩) (ux := (.int .i64 vv)) (bs := [true, true, true, true, true, true, true, true, true, true, true, true, true, false, true, true]) (.val (fun v _ => v = .slice (some ⟨w1.heap.size, 0, none⟩) n n) :: .val (fun v _ => v = .int .i64 (i : Int)) :: .val (fun v _ => v = .slice (some ⟨w1.heap.size, 0, none⟩) n n) :: .val (fun v _ => v = .pointer (some ⟨wr.heap.size, 2, none⟩)) :: .val (fun v _ => v = .int .i64 ((a : Int) + 1)) :: .val (fun v _ => v = .int .i64 (a : Int)) :: .val (fun v _ => v = .pointer (some ⟨w1.heap.size, a, none⟩)) :: .val (fun v _ => v = .int .i64 x) :: .val (fun v _ => v = .pointer (some ⟨wr.heap.size, 4, none⟩)) :: .val (fun v _ => v = .int .i64 tm) :: .val (fun v _ => v = .tuple #[.int .i64 vv, errv k]) :: .val (fun v _ => v = .tuple #[.int .i64 vv, errv k]) :: .val (fun v _ => v = .int .i64 vv) :: .val (fun v _ => v = errv k) :: .val (fun v _ => v = .pointer (some ⟨w1.heap.size, i, none⟩)) :: .st ⟨w1.heap.size, i, none⟩ ((.int .i64 vv)) :: [])
            ([] :: [] :: [] :: [] :: [(58, 3)] :: [(59, 4)] :: [(57, 2), (60, 5)] :: [(61, 6)] :: [] :: [(63, 8)] :: [(62, 7), (64, 9)] :: [(65, 10)] :: [(54, 11)] :: [(54, 11)] :: [(55, 0), (56, 1)] :: [(68, 14), (66, 12)] :: []) ((0, 0) :: (0, 0) :: (0, 0) :: (0, 0) :: (0, 0) :: (0, 0) :: (0, 0) :: (0, 0) :: (0, 0) :: (0, 0) :: (0, 0) :: (0, 0) :: (0, 0) :: (0, 0) :: (0, 0) :: (3, 0) :: []) 74 (by kernel_rfl) rfl rfl (by kernel_rfl) (by kernel_rfl) rfl (by first | omega | (simp; omega)) ⟨⟨rfl, rfl⟩, trivial⟩ (by decide) ⟨⟨Rs.Stab.pure _ _ _, fun _ _ h => h⟩, ⟨Rs.Stab.pure _ _ _, fun _ _ h => h⟩, ⟨Rs.Stab.pure _ _ _, fun _ _ h => h⟩, ⟨Rs.Stab.pure _ _ _, fun _ _ h => h⟩, ⟨Rs.Stab.pure _ _ _, fun _ _ h => h⟩, ⟨Rs.Stab.pure _ _ _, fun _ _ h => h⟩, ⟨Rs.Stab.pure _ _ _, fun _ _ h => h⟩, ⟨Rs.Stab.pure _ _ _, fun _ _ h => h⟩, ⟨Rs.Stab.pure _ _ _, fun _ _ h => h⟩, ⟨Rs.Stab.pure _ _ _, fun _ _ h => h⟩, ⟨Rs.Stab.pure _ _ _, fun _ _ h => h⟩, ⟨Rs.Stab.pure _ _ _, fun _ _ h => h⟩, ⟨Rs.Stab.pure _ _ _, fun _ _ h => h⟩, ⟨Rs.Stab.pure _ _ _, fun _ _ h => h⟩, ⟨Rs.Stab.pure _ _ _, fun _ _ h => h⟩, trivial⟩ ⟨?_, ?_, ?_, ?_, ?_, ?_, ?_, ?_, ?_, ?_, ?_, ?_, ?_, ?_, ?_, ?_, trivial⟩ ?_
          · intro wx hb0
            have hb : Below _ _ wx := hb0
            intro K hK
            go_simp
            exact hK _ _ rfl ⟨rfl, Below.refl _ _⟩
          · intro wx hb0
            have hb : Below _ _ wx := hb0
            intro K hK
            go_simp
            exact hK _ _ rfl ⟨rfl, Below.refl _ _⟩
          · intro wx hb0
            have hb : Below _ _ wx := hb0
            intro K hK
            go_simp
            exact hK _ _ rfl ⟨rfl, Below.refl _ _⟩
          · intro wx hb0
            have hb : Below _ _ wx := hb0
            intro K hK
            go_simp
            exact hK _ _ rfl ⟨rfl, Below.refl _ _⟩
          · intro wx hb0
            have hb : Below _ _ wx := hb0
            rintro _ rfl
            intro K hK
            have mm := Box.below (BX) hb (Box.lt (BX))
            have m0 : wx.cell? ⟨wr.heap.size, 0, none⟩ = some (.int .i64 3) := mm.cell 0
            have m1 : wx.cell? ⟨wr.heap.size, 1, none⟩ = some (.int .u8 0) := mm.cell 1
            have m2 : wx.cell? ⟨wr.heap.size, 2, none⟩ = some (.int .i64 ((a : Int) + 1)) := mm.cell 2
            have m3 : wx.cell? ⟨wr.heap.size, 3, none⟩ = some (.int .i64 0) := mm.cell 3
            have m4 : wx.cell? ⟨wr.heap.size, 4, none⟩ = some (.int .i64 tm) := mm.cell 4
            clear mm
            go_simp
            exact hK _ _ rfl ⟨rfl, Below.refl _ _⟩
          · intro wx hb0
            have hb : Below _ _ wx := hb0
            rintro _ rfl
            intro K hK
            go_simp
            exact hK _ _ rfl ⟨rfl, Below.refl _ _⟩
          · intro wx hb0
            have hb : Below _ _ wx := hb0
            rintro _ rfl
            rintro _ rfl
            intro K hK
            go_simp
            exact hK _ _ rfl ⟨rfl, Below.refl _ _⟩
          · intro wx hb0
            have hb : Below _ _ wx := hb0
            rintro _ rfl
            intro K hK
            have zz := (hb.cell (p := ⟨w1.heap.size, a, none⟩) HBw.out.lt).trans ((HBw.out.cell a).trans ((HB.out.cell a).symm.trans cx)); go_simp; exact hK _ _ rfl ⟨rfl, Below.refl _ _⟩
          · intro wx hb0
            have hb : Below _ _ wx := hb0
            intro K hK
            go_simp
            exact hK _ _ rfl ⟨rfl, Below.refl _ _⟩
          · intro wx hb0
            have hb : Below _ _ wx := hb0
            rintro _ rfl
            intro K hK
            have mm := Box.below (BX) hb (Box.lt (BX))
            have m0 : wx.cell? ⟨wr.heap.size, 0, none⟩ = some (.int .i64 3) := mm.cell 0
            have m1 : wx.cell? ⟨wr.heap.size, 1, none⟩ = some (.int .u8 0) := mm.cell 1
            have m2 : wx.cell? ⟨wr.heap.size, 2, none⟩ = some (.int .i64 ((a : Int) + 1)) := mm.cell 2
            have m3 : wx.cell? ⟨wr.heap.size, 3, none⟩ = some (.int .i64 0) := mm.cell 3
            have m4 : wx.cell? ⟨wr.heap.size, 4, none⟩ = some (.int .i64 tm) := mm.cell 4
            clear mm
            go_simp
            exact hK _ _ rfl ⟨rfl, Below.refl _ _⟩
          · intro wx hb0
            have hb : Below _ _ wx := hb0
            rintro _ rfl
            rintro _ rfl
            intro K hK
            go_simp
            (with_reducible refine (HQ.out _).mono ?_)
            rintro e wa ⟨rfl, rfl⟩
            exact hK _ _ rfl ⟨rfl, Below.refl _ _⟩
          · intro wx hb0
            have hb : Below _ _ wx := hb0
            rintro _ rfl
            intro K hK
            go_simp
            exact hK _ _ rfl ⟨rfl, Below.refl _ _⟩
          · intro wx hb0
            have hb : Below _ _ wx := hb0
            rintro _ rfl
            intro K hK
            go_simp
            exact hK _ _ rfl ⟨rfl, Below.refl _ _⟩
          · intro wx hb0
            rintro _ rfl
            intro K hK
            go_simp
            exact hK _ _ rfl ⟨rfl, Below.refl _ _⟩
          · intro wx hb0
            have hb : Below _ _ wx := hb0
            rintro _ rfl
            rintro _ rfl
            intro K hK
            go_simp
            exact hK _ _ rfl ⟨rfl, Below.refl _ _⟩
          · intro wx hb0
            have hb : Below _ _ wx := hb0
            rintro _ rfl
            rintro _ rfl
            intro K hK
            have zc := (hb.cell (p := ⟨w1.heap.size, i, none⟩) HBw.out.lt).trans ((HBw.out.cell i).trans ((HB.out.cell i).symm.trans v0)); have zf := (Box.below HBw.out hb HBw.out.lt).free i
            go_simp
            exact hK _ _ rfl rfl
          intro w3 B3
          rintro _ rfl
          rintro _ rfl
          rintro _ rfl
          rintro _ rfl
          rintro _ rfl
          rintro _ rfl
          rintro _ rfl
          rintro _ rfl
          rintro _ rfl
          rintro _ rfl
          rintro _ rfl
          rintro _ rfl
          rintro _ rfl
          rintro _ rfl
          rintro _ rfl
          rintro -
          simp only [Act.put, List.setIfInBounds_toArray, List.set_cons_zero, List.set_cons_succ, List.toList_toArray, List.length_cons, List.length_nil, List.drop_succ_cons, List.drop_zero, List.drop_nil, Nat.zero_add]
          have HB4 : Hid (Box w3 w1.heap.size 3 (arr (acc ++ [vv]) n)) := Lib.hid (by
            have h1 := HBw.out.set_ i (.int .i64 vv)
            have h2 := arr_set (acc := acc) (n := n) vv (by rw [HG.out.1]; exact hlt)
            rw [HG.out.1] at h2
            rw [h2] at h1
            exact h1.below B3 HBw.out.lt)
          have BW4 := Lib.hid ((BW0.setCell (p := ⟨w1.heap.size, i, none⟩) zg (.int .i64 vv)).trans (B3.mono BW0.size))
          clear B3 BW0 BX HB2 HQ
          by_cases k0 : k = 0
          · subst k0
            rw [errv_zero]
            have HG2 : Hid ((acc ++ [vv]).length = i + 1 ∧ lensFrom (acc ++ [vv]) (g.drop (i + 1)) = L) := Lib.hid ⟨by simp [HG.out.1], by
              have := lf_ok (acc := acc) HR.out (by rw [HE.out])
              rw [HE.out] at this
              exact this.symm.trans HG.out.2⟩
            go_wp2_with fail
            go_roundw
            case rel => exact ⟨i + 1, acc ++ [vv], by go_num, by omega, HG2, HB4, BW4⟩
            case measure => simp [intOf]; omega
          · rw [errv_pos k k0]
            have HG2 : Hid (L = ([], k)) := Lib.hid (by
              have := lf_bad (acc := acc) HR.out (by rw [HE.out]; exact k0)
              rw [HE.out] at this
              exact HG.out.2.symm.trans this)
            clear HG HE HR
            go_wp2_with fail
            go_ret2
            exact ⟨none, 0, by rw [HG2.out, errv_pos k k0]; rfl, by rw [HG2.out]; exact RowAt.nil _ _, BW4.out⟩
      · obtain rfl : i = n := by omega
        have HG2 : Hid (L = (acc, 0)) := Lib.hid (HG.out.2.symm.trans (lf_end (by rw [HL.out]; exact Nat.le_refl _)))
        go_wp2_with fail
        go_ret2
        exact ⟨some ⟨w1.heap.size, 0, none⟩, i, by rw [HG2.out, HG.out.1]; rfl, by rw [HG2.out]; exact arr_row HB.out HG.out.1, BW.out⟩
  · have hb := lens_bad h0
    generalize lens g = L at hb ⊢
    subst hb
    generalize gcode 0 g = k at HC h0
    have h1 := fun w => HC w
    rw [errv_pos k h0] at HC
    have HA := Lib.hid ha; have HCC := Lib.hid HC
    have HK := Lib.hid h0
    clear ha hl HC h0 h1
    go_enter Try.func45, Try.ntmps45
    go_wp2_with fail
    (with_reducible refine (HCC.out _ HA.out).mono ?_)
    rintro e w1 ⟨rfl, B1⟩
    have BW1 := Lib.hid B1
    clear B1
    go_wp2_with fail
    go_ret2
    exact ⟨none, 0, by rw [errv_pos k HK.out]; rfl, RowAt.nil _ _, BW1.out⟩
end Go.Proofs.Ytcbahojefglakaa
