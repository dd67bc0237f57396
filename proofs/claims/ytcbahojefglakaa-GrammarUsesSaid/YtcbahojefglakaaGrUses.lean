/- The walk of grammar.Uses. Written by wip/gen/gruses.py. -/
import Derived.Test.YtcbahojefglakaaGrUsesPlain
namespace Go.Proofs.Ytcbahojefglakaa
set_option linter.unusedVariables false
set_option linter.unusedSimpArgs false
open Go.RowKit Go.Lib
attribute [local go_sem ↓] Go.wp_at_zero Go.wp_at_succ
theorem arr_vi (n : Nat) : arr [] n = (vi (List.replicate n 0)).toArray := by simp [arr]
theorem via_set (l : List Int) (a : Nat) (v : Int) : ((vi l).toArray).setIfInBounds a (.int .i64 v) = (vi (l.set a v)).toArray := by
  rw [List.setIfInBounds_toArray]; simp [vi, List.map_set]
theorem via_at {l : List Int} {k : Nat} (h : k < l.length) : (vi l).toArray[k]? = some (.int .i64 (l.getD k 0)) := by
  rw [List.getElem?_toArray, vi_get h, List.getD_eq_getElem?_getD, List.getElem?_eq_getElem h]; rfl
set_option maxRecDepth 100000 in
set_option maxHeartbeats 8000000 in
theorem uses_ok (g : List Rl) (n c : Nat) (A : Option Addr) (hl : g.length = n) (hn : n ≤ 1000000) (h0 : gcode 0 g = 0) (T : Int) (hT : T = tot g) (hTle : T ≤ 1152921504606846976) (cells : List Value) (hcells : cells = gc g) (L : List Int)
    (HC : Hid (∀ w, RowAt w A cells → Calls Try.prog 45 #[.slice A n c] w (IntsOut L .nilIface w))) (w : World) (ha : RowAt w A cells) :
    Calls Try.prog 26 #[.slice A n c] w (IntsOut (uses g) .nilIface w) := by
  obtain ⟨U, hU⟩ : ∃ U, U = uses g := ⟨_, rfl⟩
  rw [← hU]
  have hst : usesFrom g n (us0 n) = U ∧ UInv g n T n (us0 n) := by
    have := inv_start g h0
    rw [hl, ← hT] at this
    exact ⟨by rw [hU]; unfold uses; rw [hl], this⟩
  have HA := Lib.hid ha; have HL := Lib.hid hl; have H0 := Lib.hid h0; have HS := Lib.hid hst; have HCE := Lib.hid hcells
  clear ha hl h0 hU hcells hst hT
  go_enter Try.func26, Try.ntmps26
  go_wp2_with fail
  (with_reducible refine (HC.out _ HA.out).mono ?_)
  rintro e w1 ⟨A1, c1, rfl, R1, B1⟩
  have BW1 := Lib.hid B1
  have HA1 := Lib.hid (HCE.out ▸ HA.out.below B1 (Nat.le_refl _))
  have mk := fun w => mk_ints n (by omega) w
  clear R1 B1
  go_wp2_with fail
  clear mk
  have BG := Lib.hid (Box.new w1 3 (arr [] n))
  rw [arr_vi] at BG ⊢
  have zg : w.heap.size ≤ w1.heap.size := BW1.out.size
  go_loopw [7, 8] (fun si _ wr => ∃ (k : Int) (i : Nat) (o m : List Int), si = .int .i64 k ∧ k + 1 = i ∧ i ≤ n ∧ Hid (usesFrom g i o = U ∧ UInv g n T i o) ∧ Hid ((i = n → m = List.replicate n 0 ∧ o = us0 n) ∧ (i ≠ n → m = o)) ∧ Hid (Box wr w1.heap.size 3 (vi m).toArray) ∧ Hid (Below w1.heap.size w1 wr)) (fun si _ _ => (intOf si + 1).toNat)
  case atStart => exact ⟨(n : Int) - 1, n, us0 n, List.replicate n 0, by go_num, by omega, Nat.le_refl _, HS, Lib.hid ⟨fun _ => ⟨rfl, rfl⟩, fun h => absurd rfl h⟩, BG, Lib.hid ((Below.refl w1.heap.size w1).alloc (Nat.le_refl _) _)⟩
  case round =>
    obtain ⟨k, i, o, m, rfl, hk, hi, HG, HM, HB, BW⟩ := hrel
    by_cases hz : i = 0
    · obtain rfl : k = -1 := by omega
      have HG2 : Hid (m = U ∧ U.length = n) := Lib.hid (by
        have h1 := HG.out.1; have h2 := HG.out.2.len
        subst hz
        have h1 : o = U := h1
        by_cases hn0 : 0 = n
        · have h3 := HM.out.1 hn0
          have e : us0 n = List.replicate n 0 := by rw [← hn0]; rfl
          rw [e] at h3
          exact ⟨by rw [h3.1, ← h3.2, h1], by rw [← h1, h2]⟩
        · exact ⟨(HM.out.2 hn0).trans h1, by rw [← h1, h2]⟩)
      go_wp2_with fail
      go_ret2
      refine ⟨some ⟨w1.heap.size, 0, none⟩, n, by rw [HG2.out.2]; rfl, by rw [← HG2.out.1]; exact RowAt.of_block HB.out, ?_⟩
      exact BW1.out.trans (BW.out.mono BW1.out.size)
    · obtain ⟨j, rfl⟩ : ∃ j, i = j + 1 := ⟨i - 1, by omega⟩
      obtain rfl : k = (j : Int) := by omega
      clear hk hz
      have hjl : j < g.length := by rw [HL.out]; exact hi
      obtain ⟨r, hr⟩ : ∃ r, g[j]? = some r := ⟨_, List.getElem?_eq_getElem hjl⟩
      have HR := Lib.hid hr
      have j0 : (0 : Int) ≤ j := by omega
      have j1 : (j : Int) < (n : Int) := by omega
      have zw : w1.heap.size < wr.heap.size := HB.out.lt
      have zn : w1.heap.size ≠ wr.heap.size := by omega
      have wj : IntKind.i64.wrap (j : Int) = j := IntWalk.i64_in _ ⟨by omega, by omega⟩
      obtain ⟨x, hx⟩ : ∃ x, x = o.getD j 0 := ⟨_, rfl⟩
      have HX := Lib.hid hx
      have xlo : 0 ≤ x := by rw [hx]; exact HG.out.2.pos j
      have xhi : x ≤ T := by rw [hx]; exact HG.out.2.le j
      clear hr hx
      by_cases hjn : j + 1 = n
      · have q1 : ((j : Int) == (n : Int) - 1) = true := by rw [beq_iff_eq]; omega
        have v0 : wr.cell? ⟨w1.heap.size, j, none⟩ = some (.int .i64 0) := (HB.out.cell j).trans (by rw [(HM.out.1 hjn).1, via_at (by simp; omega), List.getD_eq_getElem?_getD, List.getElem?_replicate, if_pos (by omega)]; rfl)
        have f0 := HB.out.free j
        obtain ⟨wq, hwq⟩ : ∃ wq, wq = (wr.setCell ⟨w1.heap.size, j, none⟩ (.int .i64 1)) := ⟨_, rfl⟩
        have HB1 : Hid (Box wq w1.heap.size 3 (vi o).toArray) := Lib.hid (by
          rw [hwq]
          have h1 := HB.out.set_ j (.int .i64 1)
          rw [via_set, (HM.out.1 hjn).1] at h1
          rw [(HM.out.1 hjn).2]
          have e : us0 n = (List.replicate n 0).set j 1 := by unfold us0; rw [← hjn, Nat.add_sub_cancel]
          rw [e]; exact h1)
        have BW1_ : Hid (Below w1.heap.size w1 wq) := Lib.hid (hwq ▸ BW.out.setCell (p := ⟨w1.heap.size, j, none⟩) (Nat.le_refl _) (.int .i64 1))
        go_upto_region 10 with fail
        rw [← hwq]
        clear hwq v0 f0 zw zn HB
        have zw : w1.heap.size < wq.heap.size := HB1.out.lt
        have zn : w1.heap.size ≠ wq.heap.size := by omega
        clear HM
        have hway := rule_way H0.out HR.out
        obtain ⟨ad, rfl, hadl, c0, c1, c2, c3, c4⟩ := row_rl (HA1.out.below BW1_.out (Nat.le_refl _)) HR.out
        obtain ⟨kd, lt, lf, rg, tm⟩ := r
        simp only at c0 c1 c2 c3 c4 hway
        rcases hway with ⟨rfl, rfl, rfl, rfl⟩ | ⟨rfl, rfl, rfl, p1, p2, q1_, q2_⟩ | ⟨rfl, rfl, rfl, t2, p1, p2⟩
        · have HG2 : Hid (usesFrom g j o = U ∧ UInv g n T j o) := Lib.hid ⟨by have := HG.out.1; rw [show usesFrom g (j + 1) o = usesFrom g j (ust g j o) from rfl, ust_letter HR.out] at this; exact this, HG.out.2.letter HR.out⟩
          go_wp2_with fail
          go_roundw
          case rel => exact ⟨(j : Int) - 1, j, o, o, by go_num, by omega, by omega, HG2, Lib.hid ⟨fun h => absurd h (by omega), fun _ => rfl⟩, Lib.hid (HB1.out.alloc _), Lib.hid (balloc BW1_.out _)⟩
          case measure => simp [intOf] <;> omega
        · obtain ⟨a, rfl⟩ : ∃ a : Nat, lf = (a : Int) + 1 := ⟨(lf - 1).toNat, by omega⟩
          obtain ⟨b, rfl⟩ : ∃ b : Nat, rg = (b : Int) + 1 := ⟨(rg - 1).toNat, by omega⟩
          have ai : a < j := by omega
          have an : (a : Int) < n := by omega
          have a0 : (0 : Int) ≤ a := by omega
          have wa : IntKind.i64.wrap (a : Int) = a := IntWalk.i64_in _ ⟨by omega, by omega⟩
          have bi : b < j := by omega
          have bn : (b : Int) < n := by omega
          have b0 : (0 : Int) ≤ b := by omega
          have wb : IntKind.i64.wrap (b : Int) = b := IntWalk.i64_in _ ⟨by omega, by omega⟩
          have HN : Hid (UInv g n T j (up (up o a x) b x)) := Lib.hid (by rw [HX.out]; exact HG.out.2.pair H0.out HL.out HR.out ai bi)
          have HG2 : Hid (usesFrom g j (up (up o a x) b x) = U) := Lib.hid (by have := HG.out.1; rw [show usesFrom g (j + 1) o = usesFrom g j (ust g j o) from rfl, ust_pair HR.out, ← HX.out] at this; exact this)
          have hol : o.length = n := HG.out.2.len
          obtain ⟨p, hp⟩ : ∃ p, p = o.getD a 0 := ⟨_, rfl⟩
          have hpa : (vi o).toArray[a]? = some (.int .i64 p) := by rw [hp]; exact via_at (by omega)
          have hpj : (vi o).toArray[j]? = some (.int .i64 x) := by rw [HX.out]; exact via_at (by omega)
          have plo : 0 ≤ p := by rw [hp]; exact HG.out.2.pos a
          obtain ⟨o1, ho1⟩ : ∃ o1, o1 = up o a x := ⟨_, rfl⟩
          have ho1l : o1.length = n := by rw [ho1, up_len, hol]
          have e1 : ∀ k, o1.getD k 0 = o.getD k 0 + if k = a then x else 0 := fun k => by rw [ho1]; exact up_at (by omega)
          have e2 : ∀ k, (up o1 b x).getD k 0 = o1.getD k 0 + if k = b then x else 0 := fun k => up_at (by omega)
          rw [← ho1] at HN HG2
          have hpx : p + x ≤ T := by have h1 := HN.out.le a; rw [e2, e1, if_pos rfl, ← hp] at h1; split at h1 <;> omega
          have hs1 : o.set a (p + x) = o1 := by rw [ho1, hp]; rfl
          obtain ⟨q, hq⟩ : ∃ q, q = o1.getD b 0 := ⟨_, rfl⟩
          have qlo : 0 ≤ q := by rw [hq, e1]; have := HG.out.2.pos b; split <;> omega
          have hqx : q + x ≤ T := by have h1 := HN.out.le b; rw [e2, if_pos rfl, ← hq] at h1; exact h1
          have hs2 : o1.set b (q + x) = up o1 b x := by rw [hq]; rfl
          have hqb : (vi o1).toArray[b]? = some (.int .i64 q) := by rw [hq]; exact via_at (by omega)
          have hqj : (vi o1).toArray[j]? = some (.int .i64 x) := by rw [via_at (by omega), e1, if_neg (by omega), ← HX.out]; simp
          clear e1 e2 ho1 hp hq
          obtain ⟨v1, hv1⟩ : ∃ v1, v1 = p + x := ⟨_, rfl⟩
          have wv1 : IntKind.i64.wrap (p + x) = v1 := by rw [hv1]; exact IntWalk.i64_in _ ⟨by omega, by omega⟩
          obtain ⟨v2, hv2⟩ : ∃ v2, v2 = q + x := ⟨_, rfl⟩
          have wv2 : IntKind.i64.wrap (q + x) = v2 := by rw [hv2]; exact IntWalk.i64_in _ ⟨by omega, by omega⟩
          rw [← hv1] at hs1; rw [← hv2] at hs2
          have HBw := Lib.hid (HB1.out.alloc (.cells #[.int .i64 2, .int .u8 0, .int .i64 ((a : Int) + 1), .int .i64 ((b : Int) + 1), .int .i64 0] 46))
          have BX := Box.new wq 46 #[.int .i64 2, .int .u8 0, .int .i64 ((a : Int) + 1), .int .i64 ((b : Int) + 1), .int .i64 0]
          have BW0 := balloc BW1_.out (.cells #[.int .i64 2, .int .u8 0, .int .i64 ((a : Int) + 1), .int .i64 ((b : Int) + 1), .int .i64 0] 46)
          have hR : wq.heap.size ≠ w1.heap.size := by have := HB1.out.lt; omega
          clear hv1 hv2
          go_upto_region 13 with fail
          refine Rs.region_st (sx := 12) (px := ⟨w1.heap.size, a, none⟩) (ux := (.int .i64 v1)) (bs := [true, true, true, true, true, true, true, true, true, true, true, true, true]) (.val (fun v _ => v = .slice (some ⟨w1.heap.size, 0, none⟩) n n) :: .val (fun v _ => v = .pointer (some ⟨wq.heap.size, 2, none⟩)) :: .val (fun v _ => v = .int .i64 ((a : Int) + 1)) :: .val (fun v _ => v = .int .i64 (a : Int)) :: .val (fun v _ => v = .pointer (some ⟨w1.heap.size, a, none⟩)) :: .val (fun v _ => v = .int .i64 p) :: .val (fun v _ => v = .slice (some ⟨w1.heap.size, 0, none⟩) n n) :: .val (fun v _ => v = .int .i64 (j : Int)) :: .val (fun v _ => v = .pointer (some ⟨w1.heap.size, j, none⟩)) :: .val (fun v _ => v = .int .i64 x) :: .val (fun v _ => v = .int .i64 v1) :: .val (fun v _ => v = .pointer (some ⟨w1.heap.size, a, none⟩)) :: .st ⟨w1.heap.size, a, none⟩ ((.int .i64 v1)) :: [])
            ([] :: [] :: [(44, 1)] :: [(45, 2)] :: [(43, 0), (46, 3)] :: [(47, 4)] :: [] :: [] :: [(49, 6), (50, 7)] :: [(51, 8)] :: [(48, 5), (52, 9)] :: [(43, 0), (46, 3)] :: [(54, 11), (53, 10)] :: []) ((0, 0) :: (0, 0) :: (0, 0) :: (0, 0) :: (0, 0) :: (0, 0) :: (0, 0) :: (0, 0) :: (0, 0) :: (0, 0) :: (0, 0) :: (0, 0) :: (3, 0) :: []) 85 (by kernel_rfl) rfl rfl (by kernel_rfl) (by kernel_rfl) rfl (by first | omega | (simp; omega)) ⟨⟨rfl, rfl⟩, trivial⟩ (by decide) ⟨⟨Rs.Stab.pure _ _ _, fun _ _ h => h⟩, ⟨Rs.Stab.pure _ _ _, fun _ _ h => h⟩, ⟨Rs.Stab.pure _ _ _, fun _ _ h => h⟩, ⟨Rs.Stab.pure _ _ _, fun _ _ h => h⟩, ⟨Rs.Stab.pure _ _ _, fun _ _ h => h⟩, ⟨Rs.Stab.pure _ _ _, fun _ _ h => h⟩, ⟨Rs.Stab.pure _ _ _, fun _ _ h => h⟩, ⟨Rs.Stab.pure _ _ _, fun _ _ h => h⟩, ⟨Rs.Stab.pure _ _ _, fun _ _ h => h⟩, ⟨Rs.Stab.pure _ _ _, fun _ _ h => h⟩, ⟨Rs.Stab.pure _ _ _, fun _ _ h => h⟩, ⟨Rs.Stab.pure _ _ _, fun _ _ h => h⟩, trivial⟩ ⟨?_, ?_, ?_, ?_, ?_, ?_, ?_, ?_, ?_, ?_, ?_, ?_, ?_, trivial⟩ ?_
          · intro wx hb0
            have hb : Below _ _ wx := hb0
            intro K hK
            go_simp
            exact hK _ _ rfl ⟨rfl, Below.refl _ _⟩
          · intro wx hb0
            have hb : Below _ _ wx := hb0
            intro K hK
            go_simp
            exact hK _ _ rfl ⟨rfl, Below.refl _ _⟩
          · intro wx hb0
            have hb : Below _ _ wx := hb0
            rintro _ rfl
            intro K hK
            have mm := Box.below (BX) hb (Box.lt (BX))
            have m0 : wx.cell? ⟨wq.heap.size, 0, none⟩ = some (.int .i64 2) := mm.cell 0
            have m1 : wx.cell? ⟨wq.heap.size, 1, none⟩ = some (.int .u8 0) := mm.cell 1
            have m2 : wx.cell? ⟨wq.heap.size, 2, none⟩ = some (.int .i64 ((a : Int) + 1)) := mm.cell 2
            have m3 : wx.cell? ⟨wq.heap.size, 3, none⟩ = some (.int .i64 ((b : Int) + 1)) := mm.cell 3
            have m4 : wx.cell? ⟨wq.heap.size, 4, none⟩ = some (.int .i64 0) := mm.cell 4
            clear mm
            go_simp
            exact hK _ _ rfl ⟨rfl, Below.refl _ _⟩
          · intro wx hb0
            have hb : Below _ _ wx := hb0
            rintro _ rfl
            intro K hK
            go_simp
            exact hK _ _ rfl ⟨rfl, Below.refl _ _⟩
          · intro wx hb0
            have hb : Below _ _ wx := hb0
            rintro _ rfl
            rintro _ rfl
            intro K hK
            go_simp
            exact hK _ _ rfl ⟨rfl, Below.refl _ _⟩
          · intro wx hb0
            have hb : Below _ _ wx := hb0
            rintro _ rfl
            intro K hK
            have zz := (hb.cell (p := ⟨w1.heap.size, a, none⟩) HBw.out.lt).trans ((HBw.out.cell a).trans hpa); go_simp; exact hK _ _ rfl ⟨rfl, Below.refl _ _⟩
          · intro wx hb0
            have hb : Below _ _ wx := hb0
            intro K hK
            go_simp
            exact hK _ _ rfl ⟨rfl, Below.refl _ _⟩
          · intro wx hb0
            have hb : Below _ _ wx := hb0
            intro K hK
            go_simp
            exact hK _ _ rfl ⟨rfl, Below.refl _ _⟩
          · intro wx hb0
            have hb : Below _ _ wx := hb0
            rintro _ rfl
            rintro _ rfl
            intro K hK
            go_simp
            exact hK _ _ rfl ⟨rfl, Below.refl _ _⟩
          · intro wx hb0
            have hb : Below _ _ wx := hb0
            rintro _ rfl
            intro K hK
            have zz := (hb.cell (p := ⟨w1.heap.size, j, none⟩) HBw.out.lt).trans ((HBw.out.cell j).trans hpj); go_simp; exact hK _ _ rfl ⟨rfl, Below.refl _ _⟩
          · intro wx hb0
            have hb : Below _ _ wx := hb0
            rintro _ rfl
            rintro _ rfl
            intro K hK
            go_simp
            exact hK _ _ rfl ⟨rfl, Below.refl _ _⟩
          · intro wx hb0
            have hb : Below _ _ wx := hb0
            rintro _ rfl
            rintro _ rfl
            intro K hK
            go_simp
            exact hK _ _ rfl ⟨rfl, Below.refl _ _⟩
          · intro wx hb0
            have hb : Below _ _ wx := hb0
            rintro _ rfl
            rintro _ rfl
            intro K hK
            have zc := (hb.cell (p := ⟨w1.heap.size, a, none⟩) HBw.out.lt).trans ((HBw.out.cell a).trans hpa); have zf := (Box.below HBw.out hb HBw.out.lt).free a
            go_simp
            exact hK _ _ rfl rfl
          intro w3 B3
          rintro _ rfl
          rintro _ rfl
          rintro _ rfl
          rintro _ rfl
          rintro _ rfl
          rintro _ rfl
          rintro _ rfl
          rintro _ rfl
          rintro _ rfl
          rintro _ rfl
          rintro _ rfl
          rintro _ rfl
          rintro -
          simp only [Act.put, List.setIfInBounds_toArray, List.set_cons_zero, List.set_cons_succ, List.toList_toArray, List.length_cons, List.length_nil, List.drop_succ_cons, List.drop_zero, List.drop_nil, Nat.zero_add, wpList]
          have HB3 : Hid (Box w3 w1.heap.size 3 (vi (o.set a v1)).toArray) := Lib.hid (by
            have h1 := HBw.out.set_ a (.int .i64 v1)
            rw [via_set] at h1
            exact h1.below B3 HBw.out.lt)
          rw [hs1] at HB3
          have BW3 := (BW0.setCell (p := ⟨w1.heap.size, a, none⟩) (Nat.le_refl _) (.int .i64 v1)).trans (B3.mono BW0.size)
          have BX3 := (BX.far (p := ⟨w1.heap.size, a, none⟩) hR (.int .i64 v1)).below B3 BX.lt
          clear B3 BW0 BX hpa hpj HBw
          have zw3 : w1.heap.size < w3.heap.size := HB3.out.lt
          go_upto_region 14 with fail
          refine Rs.region_st (sx := 12) (px := ⟨w1.heap.size, b, none⟩) (ux := (.int .i64 v2)) (bs := [true, true, true, true, true, true, true, true, true, true, true, true, true]) (.val (fun v _ => v = .slice (some ⟨w1.heap.size, 0, none⟩) n n) :: .val (fun v _ => v = .pointer (some ⟨wq.heap.size, 3, none⟩)) :: .val (fun v _ => v = .int .i64 ((b : Int) + 1)) :: .val (fun v _ => v = .int .i64 (b : Int)) :: .val (fun v _ => v = .pointer (some ⟨w1.heap.size, b, none⟩)) :: .val (fun v _ => v = .int .i64 q) :: .val (fun v _ => v = .slice (some ⟨w1.heap.size, 0, none⟩) n n) :: .val (fun v _ => v = .int .i64 (j : Int)) :: .val (fun v _ => v = .pointer (some ⟨w1.heap.size, j, none⟩)) :: .val (fun v _ => v = .int .i64 x) :: .val (fun v _ => v = .int .i64 v2) :: .val (fun v _ => v = .pointer (some ⟨w1.heap.size, b, none⟩)) :: .st ⟨w1.heap.size, b, none⟩ ((.int .i64 v2)) :: [])
            ([] :: [] :: [(56, 1)] :: [(57, 2)] :: [(55, 0), (58, 3)] :: [(59, 4)] :: [] :: [] :: [(61, 6), (62, 7)] :: [(63, 8)] :: [(60, 5), (64, 9)] :: [(55, 0), (58, 3)] :: [(66, 11), (65, 10)] :: []) ((0, 0) :: (0, 0) :: (0, 0) :: (0, 0) :: (0, 0) :: (0, 0) :: (0, 0) :: (0, 0) :: (0, 0) :: (0, 0) :: (0, 0) :: (0, 0) :: (3, 0) :: []) 85 (by kernel_rfl) rfl rfl (by kernel_rfl) (by kernel_rfl) rfl (by first | omega | (simp; omega)) ⟨⟨rfl, rfl⟩, trivial⟩ (by decide) ⟨⟨Rs.Stab.pure _ _ _, fun _ _ h => h⟩, ⟨Rs.Stab.pure _ _ _, fun _ _ h => h⟩, ⟨Rs.Stab.pure _ _ _, fun _ _ h => h⟩, ⟨Rs.Stab.pure _ _ _, fun _ _ h => h⟩, ⟨Rs.Stab.pure _ _ _, fun _ _ h => h⟩, ⟨Rs.Stab.pure _ _ _, fun _ _ h => h⟩, ⟨Rs.Stab.pure _ _ _, fun _ _ h => h⟩, ⟨Rs.Stab.pure _ _ _, fun _ _ h => h⟩, ⟨Rs.Stab.pure _ _ _, fun _ _ h => h⟩, ⟨Rs.Stab.pure _ _ _, fun _ _ h => h⟩, ⟨Rs.Stab.pure _ _ _, fun _ _ h => h⟩, ⟨Rs.Stab.pure _ _ _, fun _ _ h => h⟩, trivial⟩ ⟨?_, ?_, ?_, ?_, ?_, ?_, ?_, ?_, ?_, ?_, ?_, ?_, ?_, trivial⟩ ?_
          · intro wx hb0
            have hb : Below _ _ wx := hb0
            intro K hK
            go_simp
            exact hK _ _ rfl ⟨rfl, Below.refl _ _⟩
          · intro wx hb0
            have hb : Below _ _ wx := hb0
            intro K hK
            go_simp
            exact hK _ _ rfl ⟨rfl, Below.refl _ _⟩
          · intro wx hb0
            have hb : Below _ _ wx := hb0
            rintro _ rfl
            intro K hK
            have mm := Box.below (BX3) hb (Box.lt (BX3))
            have m0 : wx.cell? ⟨wq.heap.size, 0, none⟩ = some (.int .i64 2) := mm.cell 0
            have m1 : wx.cell? ⟨wq.heap.size, 1, none⟩ = some (.int .u8 0) := mm.cell 1
            have m2 : wx.cell? ⟨wq.heap.size, 2, none⟩ = some (.int .i64 ((a : Int) + 1)) := mm.cell 2
            have m3 : wx.cell? ⟨wq.heap.size, 3, none⟩ = some (.int .i64 ((b : Int) + 1)) := mm.cell 3
            have m4 : wx.cell? ⟨wq.heap.size, 4, none⟩ = some (.int .i64 0) := mm.cell 4
            clear mm
            go_simp
            exact hK _ _ rfl ⟨rfl, Below.refl _ _⟩
          · intro wx hb0
            have hb : Below _ _ wx := hb0
            rintro _ rfl
            intro K hK
            go_simp
            exact hK _ _ rfl ⟨rfl, Below.refl _ _⟩
          · intro wx hb0
            have hb : Below _ _ wx := hb0
            rintro _ rfl
            rintro _ rfl
            intro K hK
            go_simp
            exact hK _ _ rfl ⟨rfl, Below.refl _ _⟩
          · intro wx hb0
            have hb : Below _ _ wx := hb0
            rintro _ rfl
            intro K hK
            have zz := (hb.cell (p := ⟨w1.heap.size, b, none⟩) HB3.out.lt).trans ((HB3.out.cell b).trans hqb); go_simp; exact hK _ _ rfl ⟨rfl, Below.refl _ _⟩
          · intro wx hb0
            have hb : Below _ _ wx := hb0
            intro K hK
            go_simp
            exact hK _ _ rfl ⟨rfl, Below.refl _ _⟩
          · intro wx hb0
            have hb : Below _ _ wx := hb0
            intro K hK
            go_simp
            exact hK _ _ rfl ⟨rfl, Below.refl _ _⟩
          · intro wx hb0
            have hb : Below _ _ wx := hb0
            rintro _ rfl
            rintro _ rfl
            intro K hK
            go_simp
            exact hK _ _ rfl ⟨rfl, Below.refl _ _⟩
          · intro wx hb0
            have hb : Below _ _ wx := hb0
            rintro _ rfl
            intro K hK
            have zz := (hb.cell (p := ⟨w1.heap.size, j, none⟩) HB3.out.lt).trans ((HB3.out.cell j).trans hqj); go_simp; exact hK _ _ rfl ⟨rfl, Below.refl _ _⟩
          · intro wx hb0
            have hb : Below _ _ wx := hb0
            rintro _ rfl
            rintro _ rfl
            intro K hK
            go_simp
            exact hK _ _ rfl ⟨rfl, Below.refl _ _⟩
          · intro wx hb0
            have hb : Below _ _ wx := hb0
            rintro _ rfl
            rintro _ rfl
            intro K hK
            go_simp
            exact hK _ _ rfl ⟨rfl, Below.refl _ _⟩
          · intro wx hb0
            have hb : Below _ _ wx := hb0
            rintro _ rfl
            rintro _ rfl
            intro K hK
            have zc := (hb.cell (p := ⟨w1.heap.size, b, none⟩) HB3.out.lt).trans ((HB3.out.cell b).trans hqb); have zf := (Box.below HB3.out hb HB3.out.lt).free b
            go_simp
            exact hK _ _ rfl rfl
          intro w4 B4
          rintro _ rfl
          rintro _ rfl
          rintro _ rfl
          rintro _ rfl
          rintro _ rfl
          rintro _ rfl
          rintro _ rfl
          rintro _ rfl
          rintro _ rfl
          rintro _ rfl
          rintro _ rfl
          rintro _ rfl
          rintro -
          simp only [Act.put, List.setIfInBounds_toArray, List.set_cons_zero, List.set_cons_succ, List.toList_toArray, List.length_cons, List.length_nil, List.drop_succ_cons, List.drop_zero, List.drop_nil, Nat.zero_add, wpList]
          have HB4 : Hid (Box w4 w1.heap.size 3 (vi (o1.set b v2)).toArray) := Lib.hid (by
            have h1 := HB3.out.set_ b (.int .i64 v2)
            rw [via_set] at h1
            exact h1.below B4 HB3.out.lt)
          rw [hs2] at HB4
          have BW4 := Lib.hid ((BW3.setCell (p := ⟨w1.heap.size, b, none⟩) (Nat.le_refl _) (.int .i64 v2)).trans (B4.mono BW3.size))
          clear B4 BW3 BX3
          go_wp2_with fail
          go_roundw
          case rel => exact ⟨(j : Int) - 1, j, (up o1 b x), (up o1 b x), by go_num, by omega, by omega, Lib.hid ⟨HG2.out, HN.out⟩, Lib.hid ⟨fun h => absurd h (by omega), fun _ => rfl⟩, HB4, BW4⟩
          case measure => simp [intOf] <;> omega
        · obtain ⟨a, rfl⟩ : ∃ a : Nat, lf = (a : Int) + 1 := ⟨(lf - 1).toNat, by omega⟩
          have ai : a < j := by omega
          have an : (a : Int) < n := by omega
          have a0 : (0 : Int) ≤ a := by omega
          have wa : IntKind.i64.wrap (a : Int) = a := IntWalk.i64_in _ ⟨by omega, by omega⟩
          have HN : Hid (UInv g n T j (up o a (x * tm))) := Lib.hid (by rw [HX.out]; exact HG.out.2.power H0.out HL.out HR.out ai t2)
          have HG2 : Hid (usesFrom g j (up o a (x * tm)) = U) := Lib.hid (by have := HG.out.1; rw [show usesFrom g (j + 1) o = usesFrom g j (ust g j o) from rfl, ust_power HR.out, ← HX.out] at this; exact this)
          have hol : o.length = n := HG.out.2.len
          obtain ⟨p, hp⟩ : ∃ p, p = o.getD a 0 := ⟨_, rfl⟩
          have hpa : (vi o).toArray[a]? = some (.int .i64 p) := by rw [hp]; exact via_at (by omega)
          have hpj : (vi o).toArray[j]? = some (.int .i64 x) := by rw [HX.out]; exact via_at (by omega)
          have plo : 0 ≤ p := by rw [hp]; exact HG.out.2.pos a
          have e1 : ∀ k, (up o a (x * tm)).getD k 0 = o.getD k 0 + if k = a then x * tm else 0 := fun k => up_at (by omega)
          have hpx : p + x * tm ≤ T := by have h1 := HN.out.le a; rw [e1, if_pos rfl, ← hp] at h1; exact h1
          have xtm : 0 ≤ x * tm := Int.mul_nonneg xlo (by omega)
          have hs1 : o.set a (p + x * tm) = up o a (x * tm) := by rw [hp]; rfl
          clear e1 hp
          obtain ⟨y, hy⟩ : ∃ y, y = x * tm := ⟨_, rfl⟩
          rw [← hy] at hpx xtm hs1 HN HG2
          have wy : IntKind.i64.wrap (x * tm) = y := by rw [← hy]; exact IntWalk.i64_in _ ⟨by omega, by omega⟩
          obtain ⟨v1, hv1⟩ : ∃ v1, v1 = p + y := ⟨_, rfl⟩
          have wv1 : IntKind.i64.wrap (p + y) = v1 := by rw [hv1]; exact IntWalk.i64_in _ ⟨by omega, by omega⟩
          rw [← hv1] at hs1
          have HBw := Lib.hid (HB1.out.alloc (.cells #[.int .i64 3, .int .u8 0, .int .i64 ((a : Int) + 1), .int .i64 0, .int .i64 tm] 46))
          have BX := Box.new wq 46 #[.int .i64 3, .int .u8 0, .int .i64 ((a : Int) + 1), .int .i64 0, .int .i64 tm]
          have BW0 := balloc BW1_.out (.cells #[.int .i64 3, .int .u8 0, .int .i64 ((a : Int) + 1), .int .i64 0, .int .i64 tm] 46)
          have hR : wq.heap.size ≠ w1.heap.size := by have := HB1.out.lt; omega
          clear hv1 hy
          go_upto_region 16 with fail
          refine Rs.region_st (sx := 15) (px := ⟨w1.heap.size, a, none⟩) (ux := (.int .i64 v1)) (bs := [true, true, true, true, true, true, true, true, true, true, true, true, true, true, true, true]) (.val (fun v _ => v = .slice (some ⟨w1.heap.size, 0, none⟩) n n) :: .val (fun v _ => v = .pointer (some ⟨wq.heap.size, 2, none⟩)) :: .val (fun v _ => v = .int .i64 ((a : Int) + 1)) :: .val (fun v _ => v = .int .i64 (a : Int)) :: .val (fun v _ => v = .pointer (some ⟨w1.heap.size, a, none⟩)) :: .val (fun v _ => v = .int .i64 p) :: .val (fun v _ => v = .slice (some ⟨w1.heap.size, 0, none⟩) n n) :: .val (fun v _ => v = .int .i64 (j : Int)) :: .val (fun v _ => v = .pointer (some ⟨w1.heap.size, j, none⟩)) :: .val (fun v _ => v = .int .i64 x) :: .val (fun v _ => v = .pointer (some ⟨wq.heap.size, 4, none⟩)) :: .val (fun v _ => v = .int .i64 tm) :: .val (fun v _ => v = .int .i64 y) :: .val (fun v _ => v = .int .i64 v1) :: .val (fun v _ => v = .pointer (some ⟨w1.heap.size, a, none⟩)) :: .st ⟨w1.heap.size, a, none⟩ ((.int .i64 v1)) :: [])
            ([] :: [] :: [(70, 1)] :: [(71, 2)] :: [(69, 0), (72, 3)] :: [(73, 4)] :: [] :: [] :: [(75, 6), (76, 7)] :: [(77, 8)] :: [] :: [(79, 10)] :: [(78, 9), (80, 11)] :: [(74, 5), (81, 12)] :: [(69, 0), (72, 3)] :: [(83, 14), (82, 13)] :: []) ((0, 0) :: (0, 0) :: (0, 0) :: (0, 0) :: (0, 0) :: (0, 0) :: (0, 0) :: (0, 0) :: (0, 0) :: (0, 0) :: (0, 0) :: (0, 0) :: (0, 0) :: (0, 0) :: (0, 0) :: (3, 0) :: []) 85 (by kernel_rfl) rfl rfl (by kernel_rfl) (by kernel_rfl) rfl (by first | omega | (simp; omega)) ⟨⟨rfl, rfl⟩, trivial⟩ (by decide) ⟨⟨Rs.Stab.pure _ _ _, fun _ _ h => h⟩, ⟨Rs.Stab.pure _ _ _, fun _ _ h => h⟩, ⟨Rs.Stab.pure _ _ _, fun _ _ h => h⟩, ⟨Rs.Stab.pure _ _ _, fun _ _ h => h⟩, ⟨Rs.Stab.pure _ _ _, fun _ _ h => h⟩, ⟨Rs.Stab.pure _ _ _, fun _ _ h => h⟩, ⟨Rs.Stab.pure _ _ _, fun _ _ h => h⟩, ⟨Rs.Stab.pure _ _ _, fun _ _ h => h⟩, ⟨Rs.Stab.pure _ _ _, fun _ _ h => h⟩, ⟨Rs.Stab.pure _ _ _, fun _ _ h => h⟩, ⟨Rs.Stab.pure _ _ _, fun _ _ h => h⟩, ⟨Rs.Stab.pure _ _ _, fun _ _ h => h⟩, ⟨Rs.Stab.pure _ _ _, fun _ _ h => h⟩, ⟨Rs.Stab.pure _ _ _, fun _ _ h => h⟩, ⟨Rs.Stab.pure _ _ _, fun _ _ h => h⟩, trivial⟩ ⟨?_, ?_, ?_, ?_, ?_, ?_, ?_, ?_, ?_, ?_, ?_, ?_, ?_, ?_, ?_, ?_, trivial⟩ ?_
          · intro wx hb0
            have hb : Below _ _ wx := hb0
            intro K hK
            go_simp
            exact hK _ _ rfl ⟨rfl, Below.refl _ _⟩
          · intro wx hb0
            have hb : Below _ _ wx := hb0
            intro K hK
            go_simp
            exact hK _ _ rfl ⟨rfl, Below.refl _ _⟩
          · intro wx hb0
            have hb : Below _ _ wx := hb0
            rintro _ rfl
            intro K hK
            have mm := Box.below (BX) hb (Box.lt (BX))
            have m0 : wx.cell? ⟨wq.heap.size, 0, none⟩ = some (.int .i64 3) := mm.cell 0
            have m1 : wx.cell? ⟨wq.heap.size, 1, none⟩ = some (.int .u8 0) := mm.cell 1
            have m2 : wx.cell? ⟨wq.heap.size, 2, none⟩ = some (.int .i64 ((a : Int) + 1)) := mm.cell 2
            have m3 : wx.cell? ⟨wq.heap.size, 3, none⟩ = some (.int .i64 0) := mm.cell 3
            have m4 : wx.cell? ⟨wq.heap.size, 4, none⟩ = some (.int .i64 tm) := mm.cell 4
            clear mm
            go_simp
            exact hK _ _ rfl ⟨rfl, Below.refl _ _⟩
          · intro wx hb0
            have hb : Below _ _ wx := hb0
            rintro _ rfl
            intro K hK
            go_simp
            exact hK _ _ rfl ⟨rfl, Below.refl _ _⟩
          · intro wx hb0
            have hb : Below _ _ wx := hb0
            rintro _ rfl
            rintro _ rfl
            intro K hK
            go_simp
            exact hK _ _ rfl ⟨rfl, Below.refl _ _⟩
          · intro wx hb0
            have hb : Below _ _ wx := hb0
            rintro _ rfl
            intro K hK
            have zz := (hb.cell (p := ⟨w1.heap.size, a, none⟩) HBw.out.lt).trans ((HBw.out.cell a).trans hpa); go_simp; exact hK _ _ rfl ⟨rfl, Below.refl _ _⟩
          · intro wx hb0
            have hb : Below _ _ wx := hb0
            intro K hK
            go_simp
            exact hK _ _ rfl ⟨rfl, Below.refl _ _⟩
          · intro wx hb0
            have hb : Below _ _ wx := hb0
            intro K hK
            go_simp
            exact hK _ _ rfl ⟨rfl, Below.refl _ _⟩
          · intro wx hb0
            have hb : Below _ _ wx := hb0
            rintro _ rfl
            rintro _ rfl
            intro K hK
            go_simp
            exact hK _ _ rfl ⟨rfl, Below.refl _ _⟩
          · intro wx hb0
            have hb : Below _ _ wx := hb0
            rintro _ rfl
            intro K hK
            have zz := (hb.cell (p := ⟨w1.heap.size, j, none⟩) HBw.out.lt).trans ((HBw.out.cell j).trans hpj); go_simp; exact hK _ _ rfl ⟨rfl, Below.refl _ _⟩
          · intro wx hb0
            have hb : Below _ _ wx := hb0
            intro K hK
            go_simp
            exact hK _ _ rfl ⟨rfl, Below.refl _ _⟩
          · intro wx hb0
            have hb : Below _ _ wx := hb0
            rintro _ rfl
            intro K hK
            have mm := Box.below (BX) hb (Box.lt (BX))
            have m0 : wx.cell? ⟨wq.heap.size, 0, none⟩ = some (.int .i64 3) := mm.cell 0
            have m1 : wx.cell? ⟨wq.heap.size, 1, none⟩ = some (.int .u8 0) := mm.cell 1
            have m2 : wx.cell? ⟨wq.heap.size, 2, none⟩ = some (.int .i64 ((a : Int) + 1)) := mm.cell 2
            have m3 : wx.cell? ⟨wq.heap.size, 3, none⟩ = some (.int .i64 0) := mm.cell 3
            have m4 : wx.cell? ⟨wq.heap.size, 4, none⟩ = some (.int .i64 tm) := mm.cell 4
            clear mm
            go_simp
            exact hK _ _ rfl ⟨rfl, Below.refl _ _⟩
          · intro wx hb0
            have hb : Below _ _ wx := hb0
            rintro _ rfl
            rintro _ rfl
            intro K hK
            go_simp
            exact hK _ _ rfl ⟨rfl, Below.refl _ _⟩
          · intro wx hb0
            have hb : Below _ _ wx := hb0
            rintro _ rfl
            rintro _ rfl
            intro K hK
            go_simp
            exact hK _ _ rfl ⟨rfl, Below.refl _ _⟩
          · intro wx hb0
            have hb : Below _ _ wx := hb0
            rintro _ rfl
            rintro _ rfl
            intro K hK
            go_simp
            exact hK _ _ rfl ⟨rfl, Below.refl _ _⟩
          · intro wx hb0
            have hb : Below _ _ wx := hb0
            rintro _ rfl
            rintro _ rfl
            intro K hK
            have zc := (hb.cell (p := ⟨w1.heap.size, a, none⟩) HBw.out.lt).trans ((HBw.out.cell a).trans hpa); have zf := (Box.below HBw.out hb HBw.out.lt).free a
            go_simp
            exact hK _ _ rfl rfl
          intro w3 B3
          rintro _ rfl
          rintro _ rfl
          rintro _ rfl
          rintro _ rfl
          rintro _ rfl
          rintro _ rfl
          rintro _ rfl
          rintro _ rfl
          rintro _ rfl
          rintro _ rfl
          rintro _ rfl
          rintro _ rfl
          rintro _ rfl
          rintro _ rfl
          rintro _ rfl
          rintro -
          simp only [Act.put, List.setIfInBounds_toArray, List.set_cons_zero, List.set_cons_succ, List.toList_toArray, List.length_cons, List.length_nil, List.drop_succ_cons, List.drop_zero, List.drop_nil, Nat.zero_add, wpList]
          have HB3 : Hid (Box w3 w1.heap.size 3 (vi (o.set a v1)).toArray) := Lib.hid (by
            have h1 := HBw.out.set_ a (.int .i64 v1)
            rw [via_set] at h1
            exact h1.below B3 HBw.out.lt)
          rw [hs1] at HB3
          have BW3 := (BW0.setCell (p := ⟨w1.heap.size, a, none⟩) (Nat.le_refl _) (.int .i64 v1)).trans (B3.mono BW0.size)
          have BW4 := Lib.hid BW3
          clear B3 BW0 BX BW3
          go_wp2_with fail
          go_roundw
          case rel => exact ⟨(j : Int) - 1, j, (up o a y), (up o a y), by go_num, by omega, by omega, Lib.hid ⟨HG2.out, HN.out⟩, Lib.hid ⟨fun h => absurd h (by omega), fun _ => rfl⟩, HB3, BW4⟩
          case measure => simp [intOf] <;> omega
      · have q1 : ((j : Int) == (n : Int) - 1) = false := by rw [beq_eq_false_iff_ne]; omega
        have HB1 : Hid (Box wr w1.heap.size 3 (vi o).toArray) := Lib.hid (by have := HB.out; rw [HM.out.2 hjn] at this; exact this)
        have BW1_ := BW
        clear HM
        have hway := rule_way H0.out HR.out
        obtain ⟨ad, rfl, hadl, c0, c1, c2, c3, c4⟩ := row_rl (HA1.out.below BW1_.out (Nat.le_refl _)) HR.out
        obtain ⟨kd, lt, lf, rg, tm⟩ := r
        simp only at c0 c1 c2 c3 c4 hway
        rcases hway with ⟨rfl, rfl, rfl, rfl⟩ | ⟨rfl, rfl, rfl, p1, p2, q1_, q2_⟩ | ⟨rfl, rfl, rfl, t2, p1, p2⟩
        · have HG2 : Hid (usesFrom g j o = U ∧ UInv g n T j o) := Lib.hid ⟨by have := HG.out.1; rw [show usesFrom g (j + 1) o = usesFrom g j (ust g j o) from rfl, ust_letter HR.out] at this; exact this, HG.out.2.letter HR.out⟩
          go_wp2_with fail
          go_roundw
          case rel => exact ⟨(j : Int) - 1, j, o, o, by go_num, by omega, by omega, HG2, Lib.hid ⟨fun h => absurd h (by omega), fun _ => rfl⟩, Lib.hid (HB1.out.alloc _), Lib.hid (balloc BW1_.out _)⟩
          case measure => simp [intOf] <;> omega
        · obtain ⟨a, rfl⟩ : ∃ a : Nat, lf = (a : Int) + 1 := ⟨(lf - 1).toNat, by omega⟩
          obtain ⟨b, rfl⟩ : ∃ b : Nat, rg = (b : Int) + 1 := ⟨(rg - 1).toNat, by omega⟩
          have ai : a < j := by omega
          have an : (a : Int) < n := by omega
          have a0 : (0 : Int) ≤ a := by omega
          have wa : IntKind.i64.wrap (a : Int) = a := IntWalk.i64_in _ ⟨by omega, by omega⟩
          have bi : b < j := by omega
          have bn : (b : Int) < n := by omega
          have b0 : (0 : Int) ≤ b := by omega
          have wb : IntKind.i64.wrap (b : Int) = b := IntWalk.i64_in _ ⟨by omega, by omega⟩
          have HN : Hid (UInv g n T j (up (up o a x) b x)) := Lib.hid (by rw [HX.out]; exact HG.out.2.pair H0.out HL.out HR.out ai bi)
          have HG2 : Hid (usesFrom g j (up (up o a x) b x) = U) := Lib.hid (by have := HG.out.1; rw [show usesFrom g (j + 1) o = usesFrom g j (ust g j o) from rfl, ust_pair HR.out, ← HX.out] at this; exact this)
          have hol : o.length = n := HG.out.2.len
          obtain ⟨p, hp⟩ : ∃ p, p = o.getD a 0 := ⟨_, rfl⟩
          have hpa : (vi o).toArray[a]? = some (.int .i64 p) := by rw [hp]; exact via_at (by omega)
          have hpj : (vi o).toArray[j]? = some (.int .i64 x) := by rw [HX.out]; exact via_at (by omega)
          have plo : 0 ≤ p := by rw [hp]; exact HG.out.2.pos a
          obtain ⟨o1, ho1⟩ : ∃ o1, o1 = up o a x := ⟨_, rfl⟩
          have ho1l : o1.length = n := by rw [ho1, up_len, hol]
          have e1 : ∀ k, o1.getD k 0 = o.getD k 0 + if k = a then x else 0 := fun k => by rw [ho1]; exact up_at (by omega)
          have e2 : ∀ k, (up o1 b x).getD k 0 = o1.getD k 0 + if k = b then x else 0 := fun k => up_at (by omega)
          rw [← ho1] at HN HG2
          have hpx : p + x ≤ T := by have h1 := HN.out.le a; rw [e2, e1, if_pos rfl, ← hp] at h1; split at h1 <;> omega
          have hs1 : o.set a (p + x) = o1 := by rw [ho1, hp]; rfl
          obtain ⟨q, hq⟩ : ∃ q, q = o1.getD b 0 := ⟨_, rfl⟩
          have qlo : 0 ≤ q := by rw [hq, e1]; have := HG.out.2.pos b; split <;> omega
          have hqx : q + x ≤ T := by have h1 := HN.out.le b; rw [e2, if_pos rfl, ← hq] at h1; exact h1
          have hs2 : o1.set b (q + x) = up o1 b x := by rw [hq]; rfl
          have hqb : (vi o1).toArray[b]? = some (.int .i64 q) := by rw [hq]; exact via_at (by omega)
          have hqj : (vi o1).toArray[j]? = some (.int .i64 x) := by rw [via_at (by omega), e1, if_neg (by omega), ← HX.out]; simp
          clear e1 e2 ho1 hp hq
          obtain ⟨v1, hv1⟩ : ∃ v1, v1 = p + x := ⟨_, rfl⟩
          have wv1 : IntKind.i64.wrap (p + x) = v1 := by rw [hv1]; exact IntWalk.i64_in _ ⟨by omega, by omega⟩
          obtain ⟨v2, hv2⟩ : ∃ v2, v2 = q + x := ⟨_, rfl⟩
          have wv2 : IntKind.i64.wrap (q + x) = v2 := by rw [hv2]; exact IntWalk.i64_in _ ⟨by omega, by omega⟩
          rw [← hv1] at hs1; rw [← hv2] at hs2
          have HBw := Lib.hid (HB1.out.alloc (.cells #[.int .i64 2, .int .u8 0, .int .i64 ((a : Int) + 1), .int .i64 ((b : Int) + 1), .int .i64 0] 46))
          have BX := Box.new wr 46 #[.int .i64 2, .int .u8 0, .int .i64 ((a : Int) + 1), .int .i64 ((b : Int) + 1), .int .i64 0]
          have BW0 := balloc BW1_.out (.cells #[.int .i64 2, .int .u8 0, .int .i64 ((a : Int) + 1), .int .i64 ((b : Int) + 1), .int .i64 0] 46)
          have hR : wr.heap.size ≠ w1.heap.size := by have := HB1.out.lt; omega
          clear hv1 hv2
          go_upto_region 13 with fail
          refine Rs.region_st (sx := 12) (px := ⟨w1.heap.size, a, none⟩) (ux := (.int .i64 v1)) (bs := [true, true, true, true, true, true, true, true, true, true, true, true, true]) (.val (fun v _ => v = .slice (some ⟨w1.heap.size, 0, none⟩) n n) :: .val (fun v _ => v = .pointer (some ⟨wr.heap.size, 2, none⟩)) :: .val (fun v _ => v = .int .i64 ((a : Int) + 1)) :: .val (fun v _ => v = .int .i64 (a : Int)) :: .val (fun v _ => v = .pointer (some ⟨w1.heap.size, a, none⟩)) :: .val (fun v _ => v = .int .i64 p) :: .val (fun v _ => v = .slice (some ⟨w1.heap.size, 0, none⟩) n n) :: .val (fun v _ => v = .int .i64 (j : Int)) :: .val (fun v _ => v = .pointer (some ⟨w1.heap.size, j, none⟩)) :: .val (fun v _ => v = .int .i64 x) :: .val (fun v _ => v = .int .i64 v1) :: .val (fun v _ => v = .pointer (some ⟨w1.heap.size, a, none⟩)) :: .st ⟨w1.heap.size, a, none⟩ ((.int .i64 v1)) :: [])
            ([] :: [] :: [(44, 1)] :: [(45, 2)] :: [(43, 0), (46, 3)] :: [(47, 4)] :: [] :: [] :: [(49, 6), (50, 7)] :: [(51, 8)] :: [(48, 5), (52, 9)] :: [(43, 0), (46, 3)] :: [(54, 11), (53, 10)] :: []) ((0, 0) :: (0, 0) :: (0, 0) :: (0, 0) :: (0, 0) :: (0, 0) :: (0, 0) :: (0, 0) :: (0, 0) :: (0, 0) :: (0, 0) :: (0, 0) :: (3, 0) :: []) 85 (by kernel_rfl) rfl rfl (by kernel_rfl) (by kernel_rfl) rfl (by first | omega | (simp; omega)) ⟨⟨rfl, rfl⟩, trivial⟩ (by decide) ⟨⟨Rs.Stab.pure _ _ _, fun _ _ h => h⟩, ⟨Rs.Stab.pure _ _ _, fun _ _ h => h⟩, ⟨Rs.Stab.pure _ _ _, fun _ _ h => h⟩, ⟨Rs.Stab.pure _ _ _, fun _ _ h => h⟩, ⟨Rs.Stab.pure _ _ _, fun _ _ h => h⟩, ⟨Rs.Stab.pure _ _ _, fun _ _ h => h⟩, ⟨Rs.Stab.pure _ _ _, fun _ _ h => h⟩, ⟨Rs.Stab.pure _ _ _, fun _ _ h => h⟩, ⟨Rs.Stab.pure _ _ _, fun _ _ h => h⟩, ⟨Rs.Stab.pure _ _ _, fun _ _ h => h⟩, ⟨Rs.Stab.pure _ _ _, fun _ _ h => h⟩, ⟨Rs.Stab.pure _ _ _, fun _ _ h => h⟩, trivial⟩ ⟨?_, ?_, ?_, ?_, ?_, ?_, ?_, ?_, ?_, ?_, ?_, ?_, ?_, trivial⟩ ?_
          · intro wx hb0
            have hb : Below _ _ wx := hb0
            intro K hK
            go_simp
            exact hK _ _ rfl ⟨rfl, Below.refl _ _⟩
          · intro wx hb0
            have hb : Below _ _ wx := hb0
            intro K hK
            go_simp
            exact hK _ _ rfl ⟨rfl, Below.refl _ _⟩
          · intro wx hb0
            have hb : Below _ _ wx := hb0
            rintro _ rfl
            intro K hK
            have mm := Box.below (BX) hb (Box.lt (BX))
            have m0 : wx.cell? ⟨wr.heap.size, 0, none⟩ = some (.int .i64 2) := mm.cell 0
            have m1 : wx.cell? ⟨wr.heap.size, 1, none⟩ = some (.int .u8 0) := mm.cell 1
            have m2 : wx.cell? ⟨wr.heap.size, 2, none⟩ = some (.int .i64 ((a : Int) + 1)) := mm.cell 2
            have m3 : wx.cell? ⟨wr.heap.size, 3, none⟩ = some (.int .i64 ((b : Int) + 1)) := mm.cell 3
            have m4 : wx.cell? ⟨wr.heap.size, 4, none⟩ = some (.int .i64 0) := mm.cell 4
            clear mm
            go_simp
            exact hK _ _ rfl ⟨rfl, Below.refl _ _⟩
          · intro wx hb0
            have hb : Below _ _ wx := hb0
            rintro _ rfl
            intro K hK
            go_simp
            exact hK _ _ rfl ⟨rfl, Below.refl _ _⟩
          · intro wx hb0
            have hb : Below _ _ wx := hb0
            rintro _ rfl
            rintro _ rfl
            intro K hK
            go_simp
            exact hK _ _ rfl ⟨rfl, Below.refl _ _⟩
          · intro wx hb0
            have hb : Below _ _ wx := hb0
            rintro _ rfl
            intro K hK
            have zz := (hb.cell (p := ⟨w1.heap.size, a, none⟩) HBw.out.lt).trans ((HBw.out.cell a).trans hpa); go_simp; exact hK _ _ rfl ⟨rfl, Below.refl _ _⟩
          · intro wx hb0
            have hb : Below _ _ wx := hb0
            intro K hK
            go_simp
            exact hK _ _ rfl ⟨rfl, Below.refl _ _⟩
          · intro wx hb0
            have hb : Below _ _ wx := hb0
            intro K hK
            go_simp
            exact hK _ _ rfl ⟨rfl, Below.refl _ _⟩
          · intro wx hb0
            have hb : Below _ _ wx := hb0
            rintro _ rfl
            rintro _ rfl
            intro K hK
            go_simp
            exact hK _ _ rfl ⟨rfl, Below.refl _ _⟩
          · intro wx hb0
            have hb : Below _ _ wx := hb0
            rintro _ rfl
            intro K hK
            have zz := (hb.cell (p := ⟨w1.heap.size, j, none⟩) HBw.out.lt).trans ((HBw.out.cell j).trans hpj); go_simp; exact hK _ _ rfl ⟨rfl, Below.refl _ _⟩
          · intro wx hb0
            have hb : Below _ _ wx := hb0
            rintro _ rfl
            rintro _ rfl
            intro K hK
            go_simp
            exact hK _ _ rfl ⟨rfl, Below.refl _ _⟩
          · intro wx hb0
            have hb : Below _ _ wx := hb0
            rintro _ rfl
            rintro _ rfl
            intro K hK
            go_simp
            exact hK _ _ rfl ⟨rfl, Below.refl _ _⟩
          · intro wx hb0
            have hb : Below _ _ wx := hb0
            rintro _ rfl
            rintro _ rfl
            intro K hK
            have zc := (hb.cell (p := ⟨w1.heap.size, a, none⟩) HBw.out.lt).trans ((HBw.out.cell a).trans hpa); have zf := (Box.below HBw.out hb HBw.out.lt).free a
            go_simp
            exact hK _ _ rfl rfl
          intro w3 B3
          rintro _ rfl
          rintro _ rfl
          rintro _ rfl
          rintro _ rfl
          rintro _ rfl
          rintro _ rfl
          rintro _ rfl
          rintro _ rfl
          rintro _ rfl
          rintro _ rfl
          rintro _ rfl
          rintro _ rfl
          rintro -
          simp only [Act.put, List.setIfInBounds_toArray, List.set_cons_zero, List.set_cons_succ, List.toList_toArray, List.length_cons, List.length_nil, List.drop_succ_cons, List.drop_zero, List.drop_nil, Nat.zero_add, wpList]
          have HB3 : Hid (Box w3 w1.heap.size 3 (vi (o.set a v1)).toArray) := Lib.hid (by
            have h1 := HBw.out.set_ a (.int .i64 v1)
            rw [via_set] at h1
            exact h1.below B3 HBw.out.lt)
          rw [hs1] at HB3
          have BW3 := (BW0.setCell (p := ⟨w1.heap.size, a, none⟩) (Nat.le_refl _) (.int .i64 v1)).trans (B3.mono BW0.size)
          have BX3 := (BX.far (p := ⟨w1.heap.size, a, none⟩) hR (.int .i64 v1)).below B3 BX.lt
          clear B3 BW0 BX hpa hpj HBw
          have zw3 : w1.heap.size < w3.heap.size := HB3.out.lt
          go_upto_region 14 with fail
          refine Rs.region_st (sx := 12) (px := ⟨w1.heap.size, b, none⟩) (ux := (.int .i64 v2)) (bs := [true, true, true, true, true, true, true, true, true, true, true, true, true]) (.val (fun v _ => v = .slice (some ⟨w1.heap.size, 0, none⟩) n n) :: .val (fun v _ => v = .pointer (some ⟨wr.heap.size, 3, none⟩)) :: .val (fun v _ => v = .int .i64 ((b : Int) + 1)) :: .val (fun v _ => v = .int .i64 (b : Int)) :: .val (fun v _ => v = .pointer (some ⟨w1.heap.size, b, none⟩)) :: .val (fun v _ => v = .int .i64 q) :: .val (fun v _ => v = .slice (some ⟨w1.heap.size, 0, none⟩) n n) :: .val (fun v _ => v = .int .i64 (j : Int)) :: .val (fun v _ => v = .pointer (some ⟨w1.heap.size, j, none⟩)) :: .val (fun v _ => v = .int .i64 x) :: .val (fun v _ => v = .int .i64 v2) :: .val (fun v _ => v = .pointer (some ⟨w1.heap.size, b, none⟩)) :: .st ⟨w1.heap.size, b, none⟩ ((.int .i64 v2)) :: [])
            ([] :: [] :: [(56, 1)] :: [(57, 2)] :: [(55, 0), (58, 3)] :: [(59, 4)] :: [] :: [] :: [(61, 6), (62, 7)] :: [(63, 8)] :: [(60, 5), (64, 9)] :: [(55, 0), (58, 3)] :: [(66, 11), (65, 10)] :: []) ((0, 0) :: (0, 0) :: (0, 0) :: (0, 0) :: (0, 0) :: (0, 0) :: (0, 0) :: (0, 0) :: (0, 0) :: (0, 0) :: (0, 0) :: (0, 0) :: (3, 0) :: []) 85 (by kernel_rfl) rfl rfl (by kernel_rfl) (by kernel_rfl) rfl (by first | omega | (simp; omega)) ⟨⟨rfl, rfl⟩, trivial⟩ (by decide) ⟨⟨Rs.Stab.pure _ _ _, fun _ _ h => h⟩, ⟨Rs.Stab.pure _ _ _, fun _ _ h => h⟩, ⟨Rs.Stab.pure _ _ _, fun _ _ h => h⟩, ⟨Rs.Stab.pure _ _ _, fun _ _ h => h⟩, ⟨Rs.Stab.pure _ _ _, fun _ _ h => h⟩, ⟨Rs.Stab.pure _ _ _, fun _ _ h => h⟩, ⟨Rs.Stab.pure _ _ _, fun _ _ h => h⟩, ⟨Rs.Stab.pure _ _ _, fun _ _ h => h⟩, ⟨Rs.Stab.pure _ _ _, fun _ _ h => h⟩, ⟨Rs.Stab.pure _ _ _, fun _ _ h => h⟩, ⟨Rs.Stab.pure _ _ _, fun _ _ h => h⟩, ⟨Rs.Stab.pure _ _ _, fun _ _ h => h⟩, trivial⟩ ⟨?_, ?_, ?_, ?_, ?_, ?_, ?_, ?_, ?_, ?_, ?_, ?_, ?_, trivial⟩ ?_
          · intro wx hb0
            have hb : Below _ _ wx := hb0
            intro K hK
            go_simp
            exact hK _ _ rfl ⟨rfl, Below.refl _ _⟩
          · intro wx hb0
            have hb : Below _ _ wx := hb0
            intro K hK
            go_simp
            exact hK _ _ rfl ⟨rfl, Below.refl _ _⟩
          · intro wx hb0
            have hb : Below _ _ wx := hb0
            rintro _ rfl
            intro K hK
            have mm := Box.below (BX3) hb (Box.lt (BX3))
            have m0 : wx.cell? ⟨wr.heap.size, 0, none⟩ = some (.int .i64 2) := mm.cell 0
            have m1 : wx.cell? ⟨wr.heap.size, 1, none⟩ = some (.int .u8 0) := mm.cell 1
            have m2 : wx.cell? ⟨wr.heap.size, 2, none⟩ = some (.int .i64 ((a : Int) + 1)) := mm.cell 2
            have m3 : wx.cell? ⟨wr.heap.size, 3, none⟩ = some (.int .i64 ((b : Int) + 1)) := mm.cell 3
            have m4 : wx.cell? ⟨wr.heap.size, 4, none⟩ = some (.int .i64 0) := mm.cell 4
            clear mm
            go_simp
            exact hK _ _ rfl ⟨rfl, Below.refl _ _⟩
          · intro wx hb0
            have hb : Below _ _ wx := hb0
            rintro _ rfl
            intro K hK
            go_simp
            exact hK _ _ rfl ⟨rfl, Below.refl _ _⟩
          · intro wx hb0
            have hb : Below _ _ wx := hb0
            rintro _ rfl
            rintro _ rfl
            intro K hK
            go_simp
            exact hK _ _ rfl ⟨rfl, Below.refl _ _⟩
          · intro wx hb0
            have hb : Below _ _ wx := hb0
            rintro _ rfl
            intro K hK
            have zz := (hb.cell (p := ⟨w1.heap.size, b, none⟩) HB3.out.lt).trans ((HB3.out.cell b).trans hqb); go_simp; exact hK _ _ rfl ⟨rfl, Below.refl _ _⟩
          · intro wx hb0
            have hb : Below _ _ wx := hb0
            intro K hK
            go_simp
            exact hK _ _ rfl ⟨rfl, Below.refl _ _⟩
          · intro wx hb0
            have hb : Below _ _ wx := hb0
            intro K hK
            go_simp
            exact hK _ _ rfl ⟨rfl, Below.refl _ _⟩
          · intro wx hb0
            have hb : Below _ _ wx := hb0
            rintro _ rfl
            rintro _ rfl
            intro K hK
            go_simp
            exact hK _ _ rfl ⟨rfl, Below.refl _ _⟩
          · intro wx hb0
            have hb : Below _ _ wx := hb0
            rintro _ rfl
            intro K hK
            have zz := (hb.cell (p := ⟨w1.heap.size, j, none⟩) HB3.out.lt).trans ((HB3.out.cell j).trans hqj); go_simp; exact hK _ _ rfl ⟨rfl, Below.refl _ _⟩
          · intro wx hb0
            have hb : Below _ _ wx := hb0
            rintro _ rfl
            rintro _ rfl
            intro K hK
            go_simp
            exact hK _ _ rfl ⟨rfl, Below.refl _ _⟩
          · intro wx hb0
            have hb : Below _ _ wx := hb0
            rintro _ rfl
            rintro _ rfl
            intro K hK
            go_simp
            exact hK _ _ rfl ⟨rfl, Below.refl _ _⟩
          · intro wx hb0
            have hb : Below _ _ wx := hb0
            rintro _ rfl
            rintro _ rfl
            intro K hK
            have zc := (hb.cell (p := ⟨w1.heap.size, b, none⟩) HB3.out.lt).trans ((HB3.out.cell b).trans hqb); have zf := (Box.below HB3.out hb HB3.out.lt).free b
            go_simp
            exact hK _ _ rfl rfl
          intro w4 B4
          rintro _ rfl
          rintro _ rfl
          rintro _ rfl
          rintro _ rfl
          rintro _ rfl
          rintro _ rfl
          rintro _ rfl
          rintro _ rfl
          rintro _ rfl
          rintro _ rfl
          rintro _ rfl
          rintro _ rfl
          rintro -
          simp only [Act.put, List.setIfInBounds_toArray, List.set_cons_zero, List.set_cons_succ, List.toList_toArray, List.length_cons, List.length_nil, List.drop_succ_cons, List.drop_zero, List.drop_nil, Nat.zero_add, wpList]
          have HB4 : Hid (Box w4 w1.heap.size 3 (vi (o1.set b v2)).toArray) := Lib.hid (by
            have h1 := HB3.out.set_ b (.int .i64 v2)
            rw [via_set] at h1
            exact h1.below B4 HB3.out.lt)
          rw [hs2] at HB4
          have BW4 := Lib.hid ((BW3.setCell (p := ⟨w1.heap.size, b, none⟩) (Nat.le_refl _) (.int .i64 v2)).trans (B4.mono BW3.size))
          clear B4 BW3 BX3
          go_wp2_with fail
          go_roundw
          case rel => exact ⟨(j : Int) - 1, j, (up o1 b x), (up o1 b x), by go_num, by omega, by omega, Lib.hid ⟨HG2.out, HN.out⟩, Lib.hid ⟨fun h => absurd h (by omega), fun _ => rfl⟩, HB4, BW4⟩
          case measure => simp [intOf] <;> omega
        · obtain ⟨a, rfl⟩ : ∃ a : Nat, lf = (a : Int) + 1 := ⟨(lf - 1).toNat, by omega⟩
          have ai : a < j := by omega
          have an : (a : Int) < n := by omega
          have a0 : (0 : Int) ≤ a := by omega
          have wa : IntKind.i64.wrap (a : Int) = a := IntWalk.i64_in _ ⟨by omega, by omega⟩
          have HN : Hid (UInv g n T j (up o a (x * tm))) := Lib.hid (by rw [HX.out]; exact HG.out.2.power H0.out HL.out HR.out ai t2)
          have HG2 : Hid (usesFrom g j (up o a (x * tm)) = U) := Lib.hid (by have := HG.out.1; rw [show usesFrom g (j + 1) o = usesFrom g j (ust g j o) from rfl, ust_power HR.out, ← HX.out] at this; exact this)
          have hol : o.length = n := HG.out.2.len
          obtain ⟨p, hp⟩ : ∃ p, p = o.getD a 0 := ⟨_, rfl⟩
          have hpa : (vi o).toArray[a]? = some (.int .i64 p) := by rw [hp]; exact via_at (by omega)
          have hpj : (vi o).toArray[j]? = some (.int .i64 x) := by rw [HX.out]; exact via_at (by omega)
          have plo : 0 ≤ p := by rw [hp]; exact HG.out.2.pos a
          have e1 : ∀ k, (up o a (x * tm)).getD k 0 = o.getD k 0 + if k = a then x * tm else 0 := fun k => up_at (by omega)
          have hpx : p + x * tm ≤ T := by have h1 := HN.out.le a; rw [e1, if_pos rfl, ← hp] at h1; exact h1
          have xtm : 0 ≤ x * tm := Int.mul_nonneg xlo (by omega)
          have hs1 : o.set a (p + x * tm) = up o a (x * tm) := by rw [hp]; rfl
          clear e1 hp
          obtain ⟨y, hy⟩ : ∃ y, y = x * tm := ⟨_, rfl⟩
          rw [← hy] at hpx xtm hs1 HN HG2
          have wy : IntKind.i64.wrap (x * tm) = y := by rw [← hy]; exact IntWalk.i64_in _ ⟨by omega, by omega⟩
          obtain ⟨v1, hv1⟩ : ∃ v1, v1 = p + y := ⟨_, rfl⟩
          have wv1 : IntKind.i64.wrap (p + y) = v1 := by rw [hv1]; exact IntWalk.i64_in _ ⟨by omega, by omega⟩
          rw [← hv1] at hs1
          have HBw := Lib.hid (HB1.out.alloc (.cells #[.int .i64 3, .int .u8 0, .int .i64 ((a : Int) + 1), .int .i64 0, .int .i64 tm] 46))
          have BX := Box.new wr 46 #[.int .i64 3, .int .u8 0, .int .i64 ((a : Int) + 1), .int .i64 0, .int .i64 tm]
          have BW0 := balloc BW1_.out (.cells #[.int .i64 3, .int .u8 0, .int .i64 ((a : Int) + 1), .int .i64 0, .int .i64 tm] 46)
          have hR : wr.heap.size ≠ w1.heap.size := by have := HB1.out.lt; omega
          clear hv1 hy
          go_upto_region 16 with fail
          refine Rs.region_st (sx := 15) (px := ⟨w1.heap.size, a, none⟩) (ux := (.int .i64 v1)) (bs := [true, true, true, true, true, true, true, true, true, true, true, true, true, true, true, true]) (.val (fun v _ => v = .slice (some ⟨w1.heap.size, 0, none⟩) n n) :: .val (fun v _ => v = .pointer (some ⟨wr.heap.size, 2, none⟩)) :: .val (fun v _ => v = .int .i64 ((a : Int) + 1)) :: .val (fun v _ => v = .int .i64 (a : Int)) :: .val (fun v _ => v = .pointer (some ⟨w1.heap.size, a, none⟩)) :: .val (fun v _ => v = .int .i64 p) :: .val (fun v _ => v = .slice (some ⟨w1.heap.size, 0, none⟩) n n) :: .val (fun v _ => v = .int .i64 (j : Int)) :: .val (fun v _ => v = .pointer (some ⟨w1.heap.size, j, none⟩)) :: .val (fun v _ => v = .int .i64 x) :: .val (fun v _ => v = .pointer (some ⟨wr.heap.size, 4, none⟩)) :: .val (fun v _ => v = .int .i64 tm) :: .val (fun v _ => v = .int .i64 y) :: .val (fun v _ => v = .int .i64 v1) :: .val (fun v _ => v = .pointer (some ⟨w1.heap.size, a, none⟩)) :: .st ⟨w1.heap.size, a, none⟩ ((.int .i64 v1)) :: [])
            ([] :: [] :: [(70, 1)] :: [(71, 2)] :: [(69, 0), (72, 3)] :: [(73, 4)] :: [] :: [] :: [(75, 6), (76, 7)] :: [(77, 8)] :: [] :: [(79, 10)] :: [(78, 9), (80, 11)] :: [(74, 5), (81, 12)] :: [(69, 0), (72, 3)] :: [(83, 14), (82, 13)] :: []) ((0, 0) :: (0, 0) :: (0, 0) :: (0, 0) :: (0, 0) :: (0, 0) :: (0, 0) :: (0, 0) :: (0, 0) :: (0, 0) :: (0, 0) :: (0, 0) :: (0, 0) :: (0, 0) :: (0, 0) :: (3, 0) :: []) 85 (by kernel_rfl) rfl rfl (by kernel_rfl) (by kernel_rfl) rfl (by first | omega | (simp; omega)) ⟨⟨rfl, rfl⟩, trivial⟩ (by decide) ⟨⟨Rs.Stab.pure _ _ _, fun _ _ h => h⟩, ⟨Rs.Stab.pure _ _ _, fun _ _ h => h⟩, ⟨Rs.Stab.pure _ _ _, fun _ _ h => h⟩, ⟨Rs.Stab.pure _ _ _, fun _ _ h => h⟩, ⟨Rs.Stab.pure _ _ _, fun _ _ h => h⟩, ⟨Rs.Stab.pure _ _ _, fun _ _ h => h⟩, ⟨Rs.Stab.pure _ _ _, fun _ _ h => h⟩, ⟨Rs.Stab.pure _ _ _, fun _ _ h => h⟩, ⟨Rs.Stab.pure _ _ _, fun _ _ h => h⟩, ⟨Rs.Stab.pure _ _ _, fun _ _ h => h⟩, ⟨Rs.Stab.pure _ _ _, fun _ _ h => h⟩, ⟨Rs.Stab.pure _ _ _, fun _ _ h => h⟩, ⟨Rs.Stab.pure _ _ _, fun _ _ h => h⟩, ⟨Rs.Stab.pure _ _ _, fun _ _ h => h⟩, ⟨Rs.Stab.pure _ _ _, fun _ _ h => h⟩, trivial⟩ ⟨?_, ?_, ?_, ?_, ?_, ?_, ?_, ?_, ?_, ?_, ?_, ?_, ?_, ?_, ?_, ?_, trivial⟩ ?_
          · intro wx hb0
            have hb : Below _ _ wx := hb0
            intro K hK
            go_simp
            exact hK _ _ rfl ⟨rfl, Below.refl _ _⟩
          · intro wx hb0
            have hb : Below _ _ wx := hb0
            intro K hK
            go_simp
            exact hK _ _ rfl ⟨rfl, Below.refl _ _⟩
          · intro wx hb0
            have hb : Below _ _ wx := hb0
            rintro _ rfl
            intro K hK
            have mm := Box.below (BX) hb (Box.lt (BX))
            have m0 : wx.cell? ⟨wr.heap.size, 0, none⟩ = some (.int .i64 3) := mm.cell 0
            have m1 : wx.cell? ⟨wr.heap.size, 1, none⟩ = some (.int .u8 0) := mm.cell 1
            have m2 : wx.cell? ⟨wr.heap.size, 2, none⟩ = some (.int .i64 ((a : Int) + 1)) := mm.cell 2
            have m3 : wx.cell? ⟨wr.heap.size, 3, none⟩ = some (.int .i64 0) := mm.cell 3
            have m4 : wx.cell? ⟨wr.heap.size, 4, none⟩ = some (.int .i64 tm) := mm.cell 4
            clear mm
            go_simp
            exact hK _ _ rfl ⟨rfl, Below.refl _ _⟩
          · intro wx hb0
            have hb : Below _ _ wx := hb0
            rintro _ rfl
            intro K hK
            go_simp
            exact hK _ _ rfl ⟨rfl, Below.refl _ _⟩
          · intro wx hb0
            have hb : Below _ _ wx := hb0
            rintro _ rfl
            rintro _ rfl
            intro K hK
            go_simp
            exact hK _ _ rfl ⟨rfl, Below.refl _ _⟩
          · intro wx hb0
            have hb : Below _ _ wx := hb0
            rintro _ rfl
            intro K hK
            have zz := (hb.cell (p := ⟨w1.heap.size, a, none⟩) HBw.out.lt).trans ((HBw.out.cell a).trans hpa); go_simp; exact hK _ _ rfl ⟨rfl, Below.refl _ _⟩
          · intro wx hb0
            have hb : Below _ _ wx := hb0
            intro K hK
            go_simp
            exact hK _ _ rfl ⟨rfl, Below.refl _ _⟩
          · intro wx hb0
            have hb : Below _ _ wx := hb0
            intro K hK
            go_simp
            exact hK _ _ rfl ⟨rfl, Below.refl _ _⟩
          · intro wx hb0
            have hb : Below _ _ wx := hb0
            rintro _ rfl
            rintro _ rfl
            intro K hK
            go_simp
            exact hK _ _ rfl ⟨rfl, Below.refl _ _⟩
          · intro wx hb0
            have hb : Below _ _ wx := hb0
            rintro _ rfl
            intro K hK
            have zz := (hb.cell (p := ⟨w1.heap.size, j, none⟩) HBw.out.lt).trans ((HBw.out.cell j).trans hpj); go_simp; exact hK _ _ rfl ⟨rfl, Below.refl _ _⟩
          · intro wx hb0
            have hb : Below _ _ wx := hb0
            intro K hK
            go_simp
            exact hK _ _ rfl ⟨rfl, Below.refl _ _⟩
          · intro wx hb0
            have hb : Below _ _ wx := hb0
            rintro _ rfl
            intro K hK
            have mm := Box.below (BX) hb (Box.lt (BX))
            have m0 : wx.cell? ⟨wr.heap.size, 0, none⟩ = some (.int .i64 3) := mm.cell 0
            have m1 : wx.cell? ⟨wr.heap.size, 1, none⟩ = some (.int .u8 0) := mm.cell 1
            have m2 : wx.cell? ⟨wr.heap.size, 2, none⟩ = some (.int .i64 ((a : Int) + 1)) := mm.cell 2
            have m3 : wx.cell? ⟨wr.heap.size, 3, none⟩ = some (.int .i64 0) := mm.cell 3
            have m4 : wx.cell? ⟨wr.heap.size, 4, none⟩ = some (.int .i64 tm) := mm.cell 4
            clear mm
            go_simp
            exact hK _ _ rfl ⟨rfl, Below.refl _ _⟩
          · intro wx hb0
            have hb : Below _ _ wx := hb0
            rintro _ rfl
            rintro _ rfl
            intro K hK
            go_simp
            exact hK _ _ rfl ⟨rfl, Below.refl _ _⟩
          · intro wx hb0
            have hb : Below _ _ wx := hb0
            rintro _ rfl
            rintro _ rfl
            intro K hK
            go_simp
            exact hK _ _ rfl ⟨rfl, Below.refl _ _⟩
          · intro wx hb0
            have hb : Below _ _ wx := hb0
            rintro _ rfl
            rintro _ rfl
            intro K hK
            go_simp
            exact hK _ _ rfl ⟨rfl, Below.refl _ _⟩
          · intro wx hb0
            have hb : Below _ _ wx := hb0
            rintro _ rfl
            rintro _ rfl
            intro K hK
            have zc := (hb.cell (p := ⟨w1.heap.size, a, none⟩) HBw.out.lt).trans ((HBw.out.cell a).trans hpa); have zf := (Box.below HBw.out hb HBw.out.lt).free a
            go_simp
            exact hK _ _ rfl rfl
          intro w3 B3
          rintro _ rfl
          rintro _ rfl
          rintro _ rfl
          rintro _ rfl
          rintro _ rfl
          rintro _ rfl
          rintro _ rfl
          rintro _ rfl
          rintro _ rfl
          rintro _ rfl
          rintro _ rfl
          rintro _ rfl
          rintro _ rfl
          rintro _ rfl
          rintro _ rfl
          rintro -
          simp only [Act.put, List.setIfInBounds_toArray, List.set_cons_zero, List.set_cons_succ, List.toList_toArray, List.length_cons, List.length_nil, List.drop_succ_cons, List.drop_zero, List.drop_nil, Nat.zero_add, wpList]
          have HB3 : Hid (Box w3 w1.heap.size 3 (vi (o.set a v1)).toArray) := Lib.hid (by
            have h1 := HBw.out.set_ a (.int .i64 v1)
            rw [via_set] at h1
            exact h1.below B3 HBw.out.lt)
          rw [hs1] at HB3
          have BW3 := (BW0.setCell (p := ⟨w1.heap.size, a, none⟩) (Nat.le_refl _) (.int .i64 v1)).trans (B3.mono BW0.size)
          have BW4 := Lib.hid BW3
          clear B3 BW0 BX BW3
          go_wp2_with fail
          go_roundw
          case rel => exact ⟨(j : Int) - 1, j, (up o a y), (up o a y), by go_num, by omega, by omega, Lib.hid ⟨HG2.out, HN.out⟩, Lib.hid ⟨fun h => absurd h (by omega), fun _ => rfl⟩, HB3, BW4⟩
          case measure => simp [intOf] <;> omega
end Go.Proofs.Ytcbahojefglakaa
