/- The walk of the reference's Uses. Written by wip/gen/gruses2.py. -/
import Derived.Test.YtcbahojefglakaaGrUses
namespace Go.Proofs.Ytcbahojefglakaa
set_option linter.unusedVariables false
set_option linter.unusedSimpArgs false
open Go.RowKit Go.Lib
attribute [local go_sem ↓] Go.wp_at_zero Go.wp_at_succ
set_option maxRecDepth 100000 in
set_option maxHeartbeats 8000000 in
theorem ruses_any (g : List Rl) (n c : Nat) (A : Option Addr) (hl : g.length = n) (hn : n ≤ 1000000) (h0 : gcode 0 g = 0) (T : Int) (hT : T = tot g) (hTle : T ≤ 1152921504606846976) (w : World) (ha : RowAt w A (gc g)) :
    Calls Try.prog 27 #[.slice A n c] w (SliceOut w n (vi (uses g))) := by
  obtain ⟨U, hU⟩ : ∃ U, U = uses g := ⟨_, rfl⟩
  rw [← hU]
  have hst : usesFrom g n (us0 n) = U ∧ UInv g n T n (us0 n) := by
    have := inv_start g h0
    rw [hl, ← hT] at this
    exact ⟨by rw [hU]; unfold uses; rw [hl], this⟩
  have HA := Lib.hid ha; have HL := Lib.hid hl; have H0 := Lib.hid h0; have HS := Lib.hid hst
  clear ha hl h0 hU hst hT
  have mk := fun w => mk_ints n (by omega) w
  go_enter Try.func27, Try.ntmps27
  go_wp2_with fail
  clear mk
  have BG := Lib.hid (Box.new w 3 (arr [] n))
  rw [arr_vi] at BG ⊢
  go_loopw [4] (fun si wr => ∃ (k : Int) (i : Nat) (o m : List Int), si = .int .i64 k ∧ k + 1 = i ∧ i ≤ n ∧ Hid (usesFrom g i o = U ∧ UInv g n T i o) ∧ Hid ((i = n → m = List.replicate n 0 ∧ o = us0 n) ∧ (i ≠ n → m = o)) ∧ Hid (Box wr w.heap.size 3 (vi m).toArray) ∧ Hid (Below w.heap.size w wr)) (fun si _ => (intOf si + 1).toNat)
  case atStart => exact ⟨(n : Int) - 1, n, us0 n, List.replicate n 0, by go_num, by omega, Nat.le_refl _, HS, Lib.hid ⟨fun _ => ⟨rfl, rfl⟩, fun h => absurd rfl h⟩, BG, Lib.hid ((Below.refl w.heap.size w).alloc (Nat.le_refl _) _)⟩
  case round =>
    obtain ⟨k, i, o, m, rfl, hk, hi, HG, HM, HB, BW⟩ := hrel
    by_cases hz : i = 0
    · obtain rfl : k = -1 := by omega
      have HG2 : Hid (m = U ∧ U.length = n) := Lib.hid (by
        have h1 := HG.out.1; have h2 := HG.out.2.len
        subst hz
        have h1 : o = U := h1
        by_cases hn0 : 0 = n
        · have h3 := HM.out.1 hn0
          have e : us0 n = List.replicate n 0 := by rw [← hn0]; rfl
          rw [e] at h3
          exact ⟨by rw [h3.1, ← h3.2, h1], by rw [← h1, h2]⟩
        · exact ⟨(HM.out.2 hn0).trans h1, by rw [← h1, h2]⟩)
      go_wp2_with fail
      go_ret
      exact ⟨some ⟨w.heap.size, 0, none⟩, n, rfl, by rw [← HG2.out.1]; exact RowAt.of_block HB.out, BW.out⟩
    · obtain ⟨j, rfl⟩ : ∃ j, i = j + 1 := ⟨i - 1, by omega⟩
      obtain rfl : k = (j : Int) := by omega
      clear hk hz
      have hjl : j < g.length := by rw [HL.out]; exact hi
      obtain ⟨r, hr⟩ : ∃ r, g[j]? = some r := ⟨_, List.getElem?_eq_getElem hjl⟩
      have HR := Lib.hid hr
      have j0 : (0 : Int) ≤ j := by omega
      have j1 : (j : Int) < (n : Int) := by omega
      have zw : w.heap.size < wr.heap.size := HB.out.lt
      have wj : IntKind.i64.wrap (j : Int) = j := IntWalk.i64_in _ ⟨by omega, by omega⟩
      obtain ⟨x, hx⟩ : ∃ x, x = o.getD j 0 := ⟨_, rfl⟩
      have HX := Lib.hid hx
      have xlo : 0 ≤ x := by rw [hx]; exact HG.out.2.pos j
      have xhi : x ≤ T := by rw [hx]; exact HG.out.2.le j
      clear hr hx
      by_cases hjn : j + 1 = n
      · have q1 : ((j : Int) == (n : Int) - 1) = true := by rw [beq_iff_eq]; omega
        have v0 : wr.cell? ⟨w.heap.size, j, none⟩ = some (.int .i64 0) := (HB.out.cell j).trans (by rw [(HM.out.1 hjn).1, via_at (by simp; omega), List.getD_eq_getElem?_getD, List.getElem?_replicate, if_pos (by omega)]; rfl)
        have f0 := HB.out.free j
        obtain ⟨wq, hwq⟩ : ∃ wq, wq = (wr.setCell ⟨w.heap.size, j, none⟩ (.int .i64 1)) := ⟨_, rfl⟩
        have HB1 : Hid (Box wq w.heap.size 3 (vi o).toArray) := Lib.hid (by
          rw [hwq]
          have h1 := HB.out.set_ j (.int .i64 1)
          rw [via_set, (HM.out.1 hjn).1] at h1
          rw [(HM.out.1 hjn).2]
          have e : us0 n = (List.replicate n 0).set j 1 := by unfold us0; rw [← hjn, Nat.add_sub_cancel]
          rw [e]; exact h1)
        have BW1_ : Hid (Below w.heap.size w wq) := Lib.hid (hwq ▸ BW.out.setCell (p := ⟨w.heap.size, j, none⟩) (Nat.le_refl _) (.int .i64 1))
        go_upto_region 7 with fail
        rw [← hwq]
        clear hwq v0 f0 zw HB
        have zw : w.heap.size < wq.heap.size := HB1.out.lt
        skip
        clear HM
        have hway := rule_way H0.out HR.out
        obtain ⟨ad, rfl, hadl, c0, c1, c2, c3, c4⟩ := row_rl (HA.out.below BW1_.out (Nat.le_refl _)) HR.out
        obtain ⟨kd, lt, lf, rg, tm⟩ := r
        simp only at c0 c1 c2 c3 c4 hway
        have hadl2 : (ad.add (j * 5)).block < wq.heap.size := by rw [block_add]; exact hadl
        rcases hway with ⟨rfl, rfl, rfl, rfl⟩ | ⟨rfl, rfl, rfl, p1, p2, q1_, q2_⟩ | ⟨rfl, rfl, rfl, t2, p1, p2⟩
        · have HG2 : Hid (usesFrom g j o = U ∧ UInv g n T j o) := Lib.hid ⟨by have := HG.out.1; rw [show usesFrom g (j + 1) o = usesFrom g j (ust g j o) from rfl, ust_letter HR.out] at this; exact this, HG.out.2.letter HR.out⟩
          go_wp2_with fail
          go_roundw
          case rel => exact ⟨(j : Int) - 1, j, o, o, by go_num, by omega, by omega, HG2, Lib.hid ⟨fun h => absurd h (by omega), fun _ => rfl⟩, HB1, BW1_⟩
          case measure => simp [intOf] <;> omega
        · obtain ⟨a, rfl⟩ : ∃ a : Nat, lf = (a : Int) + 1 := ⟨(lf - 1).toNat, by omega⟩
          obtain ⟨b, rfl⟩ : ∃ b : Nat, rg = (b : Int) + 1 := ⟨(rg - 1).toNat, by omega⟩
          have ai : a < j := by omega
          have an : (a : Int) < n := by omega
          have a0 : (0 : Int) ≤ a := by omega
          have wa : IntKind.i64.wrap (a : Int) = a := IntWalk.i64_in _ ⟨by omega, by omega⟩
          have bi : b < j := by omega
          have bn : (b : Int) < n := by omega
          have b0 : (0 : Int) ≤ b := by omega
          have wb : IntKind.i64.wrap (b : Int) = b := IntWalk.i64_in _ ⟨by omega, by omega⟩
          have HN : Hid (UInv g n T j (up (up o a x) b x)) := Lib.hid (by rw [HX.out]; exact HG.out.2.pair H0.out HL.out HR.out ai bi)
          have HG2 : Hid (usesFrom g j (up (up o a x) b x) = U) := Lib.hid (by have := HG.out.1; rw [show usesFrom g (j + 1) o = usesFrom g j (ust g j o) from rfl, ust_pair HR.out, ← HX.out] at this; exact this)
          have hol : o.length = n := HG.out.2.len
          obtain ⟨p, hp⟩ : ∃ p, p = o.getD a 0 := ⟨_, rfl⟩
          have hpa : (vi o).toArray[a]? = some (.int .i64 p) := by rw [hp]; exact via_at (by omega)
          have hpj : (vi o).toArray[j]? = some (.int .i64 x) := by rw [HX.out]; exact via_at (by omega)
          have plo : 0 ≤ p := by rw [hp]; exact HG.out.2.pos a
          obtain ⟨o1, ho1⟩ : ∃ o1, o1 = up o a x := ⟨_, rfl⟩
          have ho1l : o1.length = n := by rw [ho1, up_len, hol]
          have e1 : ∀ k, o1.getD k 0 = o.getD k 0 + if k = a then x else 0 := fun k => by rw [ho1]; exact up_at (by omega)
          have e2 : ∀ k, (up o1 b x).getD k 0 = o1.getD k 0 + if k = b then x else 0 := fun k => up_at (by omega)
          rw [← ho1] at HN HG2
          have hpx : p + x ≤ T := by have h1 := HN.out.le a; rw [e2, e1, if_pos rfl, ← hp] at h1; split at h1 <;> omega
          have hs1 : o.set a (p + x) = o1 := by rw [ho1, hp]; rfl
          obtain ⟨q, hq⟩ : ∃ q, q = o1.getD b 0 := ⟨_, rfl⟩
          have qlo : 0 ≤ q := by rw [hq, e1]; have := HG.out.2.pos b; split <;> omega
          have hqx : q + x ≤ T := by have h1 := HN.out.le b; rw [e2, if_pos rfl, ← hq] at h1; exact h1
          have hs2 : o1.set b (q + x) = up o1 b x := by rw [hq]; rfl
          have hqb : (vi o1).toArray[b]? = some (.int .i64 q) := by rw [hq]; exact via_at (by omega)
          have hqj : (vi o1).toArray[j]? = some (.int .i64 x) := by rw [via_at (by omega), e1, if_neg (by omega), ← HX.out]; simp
          clear e1 e2 ho1 hp hq
          obtain ⟨v1, hv1⟩ : ∃ v1, v1 = p + x := ⟨_, rfl⟩
          have wv1 : IntKind.i64.wrap (p + x) = v1 := by rw [hv1]; exact IntWalk.i64_in _ ⟨by omega, by omega⟩
          obtain ⟨v2, hv2⟩ : ∃ v2, v2 = q + x := ⟨_, rfl⟩
          have wv2 : IntKind.i64.wrap (q + x) = v2 := by rw [hv2]; exact IntWalk.i64_in _ ⟨by omega, by omega⟩
          rw [← hv1] at hs1; rw [← hv2] at hs2
          have BW0 := BW1_.out
          clear hv1 hv2
          go_upto_region 9 with fail
          refine Rs.region_st (sx := 15) (px := ⟨w.heap.size, a, none⟩) (ux := (.int .i64 v1)) (bs := [true, true, true, true, true, true, true, true, true, true, true, true, true, true, true, true]) (.val (fun v _ => v = .slice (some ⟨w.heap.size, 0, none⟩) n n) :: .val (fun v _ => v = .slice (some ad) n c) :: .val (fun v _ => v = .int .i64 (j : Int)) :: .val (fun v _ => v = .pointer (some (ad.add (j * 5)))) :: .val (fun v _ => v = .pointer (some ⟨(ad.add (j * 5)).block, (ad.add (j * 5)).off + 2, none⟩)) :: .val (fun v _ => v = .int .i64 ((a : Int) + 1)) :: .val (fun v _ => v = .int .i64 (a : Int)) :: .val (fun v _ => v = .pointer (some ⟨w.heap.size, a, none⟩)) :: .val (fun v _ => v = .int .i64 p) :: .val (fun v _ => v = .slice (some ⟨w.heap.size, 0, none⟩) n n) :: .val (fun v _ => v = .int .i64 (j : Int)) :: .val (fun v _ => v = .pointer (some ⟨w.heap.size, j, none⟩)) :: .val (fun v _ => v = .int .i64 x) :: .val (fun v _ => v = .int .i64 v1) :: .val (fun v _ => v = .pointer (some ⟨w.heap.size, a, none⟩)) :: .st ⟨w.heap.size, a, none⟩ ((.int .i64 v1)) :: [])
            ([] :: [] :: [] :: [(31, 1), (32, 2)] :: [(33, 3)] :: [(34, 4)] :: [(35, 5)] :: [(30, 0), (36, 6)] :: [(37, 7)] :: [] :: [] :: [(39, 9), (40, 10)] :: [(41, 11)] :: [(38, 8), (42, 12)] :: [(30, 0), (36, 6)] :: [(44, 14), (43, 13)] :: []) ((0, 0) :: (0, 0) :: (0, 0) :: (0, 0) :: (0, 0) :: (0, 0) :: (0, 0) :: (0, 0) :: (0, 0) :: (0, 0) :: (0, 0) :: (0, 0) :: (0, 0) :: (0, 0) :: (0, 0) :: (3, 0) :: []) 84 (by kernel_rfl) rfl rfl (by kernel_rfl) (by kernel_rfl) rfl (by first | omega | (simp; omega)) ⟨⟨rfl, rfl⟩, trivial⟩ (by decide) ⟨⟨Rs.Stab.pure _ _ _, fun _ _ h => h⟩, ⟨Rs.Stab.pure _ _ _, fun _ _ h => h⟩, ⟨Rs.Stab.pure _ _ _, fun _ _ h => h⟩, ⟨Rs.Stab.pure _ _ _, fun _ _ h => h⟩, ⟨Rs.Stab.pure _ _ _, fun _ _ h => h⟩, ⟨Rs.Stab.pure _ _ _, fun _ _ h => h⟩, ⟨Rs.Stab.pure _ _ _, fun _ _ h => h⟩, ⟨Rs.Stab.pure _ _ _, fun _ _ h => h⟩, ⟨Rs.Stab.pure _ _ _, fun _ _ h => h⟩, ⟨Rs.Stab.pure _ _ _, fun _ _ h => h⟩, ⟨Rs.Stab.pure _ _ _, fun _ _ h => h⟩, ⟨Rs.Stab.pure _ _ _, fun _ _ h => h⟩, ⟨Rs.Stab.pure _ _ _, fun _ _ h => h⟩, ⟨Rs.Stab.pure _ _ _, fun _ _ h => h⟩, ⟨Rs.Stab.pure _ _ _, fun _ _ h => h⟩, trivial⟩ ⟨?_, ?_, ?_, ?_, ?_, ?_, ?_, ?_, ?_, ?_, ?_, ?_, ?_, ?_, ?_, ?_, trivial⟩ ?_
          · intro wx hb0
            have hb : Below _ _ wx := hb0
            intro K hK
            go_simp
            exact hK _ _ rfl ⟨rfl, Below.refl _ _⟩
          · intro wx hb0
            have hb : Below _ _ wx := hb0
            intro K hK
            go_simp
            exact hK _ _ rfl ⟨rfl, Below.refl _ _⟩
          · intro wx hb0
            have hb : Below _ _ wx := hb0
            intro K hK
            go_simp
            exact hK _ _ rfl ⟨rfl, Below.refl _ _⟩
          · intro wx hb0
            have hb : Below _ _ wx := hb0
            rintro _ rfl
            rintro _ rfl
            intro K hK
            go_simp
            exact hK _ _ rfl ⟨rfl, Below.refl _ _⟩
          · intro wx hb0
            have hb : Below _ _ wx := hb0
            rintro _ rfl
            intro K hK
            go_simp
            exact hK _ _ rfl ⟨rfl, Below.refl _ _⟩
          · intro wx hb0
            have hb : Below _ _ wx := hb0
            rintro _ rfl
            intro K hK
            have zz := (hb.cell (p := ⟨(ad.add (j * 5)).block, (ad.add (j * 5)).off + 2, none⟩) (hadl2)).trans c2; go_simp; exact hK _ _ rfl ⟨rfl, Below.refl _ _⟩
          · intro wx hb0
            have hb : Below _ _ wx := hb0
            rintro _ rfl
            intro K hK
            go_simp
            exact hK _ _ rfl ⟨rfl, Below.refl _ _⟩
          · intro wx hb0
            have hb : Below _ _ wx := hb0
            rintro _ rfl
            rintro _ rfl
            intro K hK
            go_simp
            exact hK _ _ rfl ⟨rfl, Below.refl _ _⟩
          · intro wx hb0
            have hb : Below _ _ wx := hb0
            rintro _ rfl
            intro K hK
            have zz := (hb.cell (p := ⟨w.heap.size, a, none⟩) HB1.out.lt).trans ((HB1.out.cell a).trans hpa); go_simp; exact hK _ _ rfl ⟨rfl, Below.refl _ _⟩
          · intro wx hb0
            have hb : Below _ _ wx := hb0
            intro K hK
            go_simp
            exact hK _ _ rfl ⟨rfl, Below.refl _ _⟩
          · intro wx hb0
            have hb : Below _ _ wx := hb0
            intro K hK
            go_simp
            exact hK _ _ rfl ⟨rfl, Below.refl _ _⟩
          · intro wx hb0
            have hb : Below _ _ wx := hb0
            rintro _ rfl
            rintro _ rfl
            intro K hK
            go_simp
            exact hK _ _ rfl ⟨rfl, Below.refl _ _⟩
          · intro wx hb0
            have hb : Below _ _ wx := hb0
            rintro _ rfl
            intro K hK
            have zz := (hb.cell (p := ⟨w.heap.size, j, none⟩) HB1.out.lt).trans ((HB1.out.cell j).trans hpj); go_simp; exact hK _ _ rfl ⟨rfl, Below.refl _ _⟩
          · intro wx hb0
            have hb : Below _ _ wx := hb0
            rintro _ rfl
            rintro _ rfl
            intro K hK
            go_simp
            exact hK _ _ rfl ⟨rfl, Below.refl _ _⟩
          · intro wx hb0
            have hb : Below _ _ wx := hb0
            rintro _ rfl
            rintro _ rfl
            intro K hK
            go_simp
            exact hK _ _ rfl ⟨rfl, Below.refl _ _⟩
          · intro wx hb0
            have hb : Below _ _ wx := hb0
            rintro _ rfl
            rintro _ rfl
            intro K hK
            have zc := (hb.cell (p := ⟨w.heap.size, a, none⟩) HB1.out.lt).trans ((HB1.out.cell a).trans hpa); have zf := (Box.below HB1.out hb HB1.out.lt).free a
            go_simp
            exact hK _ _ rfl rfl
          intro w3 B3
          rintro _ rfl
          rintro _ rfl
          rintro _ rfl
          rintro _ rfl
          rintro _ rfl
          rintro _ rfl
          rintro _ rfl
          rintro _ rfl
          rintro _ rfl
          rintro _ rfl
          rintro _ rfl
          rintro _ rfl
          rintro _ rfl
          rintro _ rfl
          rintro _ rfl
          rintro -
          simp only [Act.put, List.setIfInBounds_toArray, List.set_cons_zero, List.set_cons_succ, List.toList_toArray, List.length_cons, List.length_nil, List.drop_succ_cons, List.drop_zero, List.drop_nil, Nat.zero_add, wpList]
          have HB3 : Hid (Box w3 w.heap.size 3 (vi (o.set a v1)).toArray) := Lib.hid (by
            have h1 := HB1.out.set_ a (.int .i64 v1)
            rw [via_set] at h1
            exact h1.below B3 HB1.out.lt)
          rw [hs1] at HB3
          have BW3 := (BW0.setCell (p := ⟨w.heap.size, a, none⟩) (Nat.le_refl _) (.int .i64 v1)).trans (B3.mono BW0.size)
          clear B3 BW0 hpa hpj
          have zw3 : w.heap.size < w3.heap.size := HB3.out.lt
          have d3 : w3.cell? ⟨(ad.add (j * 5)).block, (ad.add (j * 5)).off + 3, none⟩ = some (.int .i64 ((b : Int) + 1)) := by
            obtain ⟨a2, e2, _, _, _, _, h3, _⟩ := row_rl (HA.out.below BW3 (Nat.le_refl _)) HR.out
            cases e2; exact h3
          have hadl3 : (ad.add (j * 5)).block < w3.heap.size := by
            obtain ⟨a2, e2, h3, _⟩ := row_rl (HA.out.below BW3 (Nat.le_refl _)) HR.out
            cases e2; rw [block_add]; exact h3
          go_upto_region 10 with fail
          refine Rs.region_st (sx := 15) (px := ⟨w.heap.size, b, none⟩) (ux := (.int .i64 v2)) (bs := [true, true, true, true, true, true, true, true, true, true, true, true, true, true, true, true]) (.val (fun v _ => v = .slice (some ⟨w.heap.size, 0, none⟩) n n) :: .val (fun v _ => v = .slice (some ad) n c) :: .val (fun v _ => v = .int .i64 (j : Int)) :: .val (fun v _ => v = .pointer (some (ad.add (j * 5)))) :: .val (fun v _ => v = .pointer (some ⟨(ad.add (j * 5)).block, (ad.add (j * 5)).off + 3, none⟩)) :: .val (fun v _ => v = .int .i64 ((b : Int) + 1)) :: .val (fun v _ => v = .int .i64 (b : Int)) :: .val (fun v _ => v = .pointer (some ⟨w.heap.size, b, none⟩)) :: .val (fun v _ => v = .int .i64 q) :: .val (fun v _ => v = .slice (some ⟨w.heap.size, 0, none⟩) n n) :: .val (fun v _ => v = .int .i64 (j : Int)) :: .val (fun v _ => v = .pointer (some ⟨w.heap.size, j, none⟩)) :: .val (fun v _ => v = .int .i64 x) :: .val (fun v _ => v = .int .i64 v2) :: .val (fun v _ => v = .pointer (some ⟨w.heap.size, b, none⟩)) :: .st ⟨w.heap.size, b, none⟩ ((.int .i64 v2)) :: [])
            ([] :: [] :: [] :: [(46, 1), (47, 2)] :: [(48, 3)] :: [(49, 4)] :: [(50, 5)] :: [(45, 0), (51, 6)] :: [(52, 7)] :: [] :: [] :: [(54, 9), (55, 10)] :: [(56, 11)] :: [(53, 8), (57, 12)] :: [(45, 0), (51, 6)] :: [(59, 14), (58, 13)] :: []) ((0, 0) :: (0, 0) :: (0, 0) :: (0, 0) :: (0, 0) :: (0, 0) :: (0, 0) :: (0, 0) :: (0, 0) :: (0, 0) :: (0, 0) :: (0, 0) :: (0, 0) :: (0, 0) :: (0, 0) :: (3, 0) :: []) 84 (by kernel_rfl) rfl rfl (by kernel_rfl) (by kernel_rfl) rfl (by first | omega | (simp; omega)) ⟨⟨rfl, rfl⟩, trivial⟩ (by decide) ⟨⟨Rs.Stab.pure _ _ _, fun _ _ h => h⟩, ⟨Rs.Stab.pure _ _ _, fun _ _ h => h⟩, ⟨Rs.Stab.pure _ _ _, fun _ _ h => h⟩, ⟨Rs.Stab.pure _ _ _, fun _ _ h => h⟩, ⟨Rs.Stab.pure _ _ _, fun _ _ h => h⟩, ⟨Rs.Stab.pure _ _ _, fun _ _ h => h⟩, ⟨Rs.Stab.pure _ _ _, fun _ _ h => h⟩, ⟨Rs.Stab.pure _ _ _, fun _ _ h => h⟩, ⟨Rs.Stab.pure _ _ _, fun _ _ h => h⟩, ⟨Rs.Stab.pure _ _ _, fun _ _ h => h⟩, ⟨Rs.Stab.pure _ _ _, fun _ _ h => h⟩, ⟨Rs.Stab.pure _ _ _, fun _ _ h => h⟩, ⟨Rs.Stab.pure _ _ _, fun _ _ h => h⟩, ⟨Rs.Stab.pure _ _ _, fun _ _ h => h⟩, ⟨Rs.Stab.pure _ _ _, fun _ _ h => h⟩, trivial⟩ ⟨?_, ?_, ?_, ?_, ?_, ?_, ?_, ?_, ?_, ?_, ?_, ?_, ?_, ?_, ?_, ?_, trivial⟩ ?_
          · intro wx hb0
            have hb : Below _ _ wx := hb0
            intro K hK
            go_simp
            exact hK _ _ rfl ⟨rfl, Below.refl _ _⟩
          · intro wx hb0
            have hb : Below _ _ wx := hb0
            intro K hK
            go_simp
            exact hK _ _ rfl ⟨rfl, Below.refl _ _⟩
          · intro wx hb0
            have hb : Below _ _ wx := hb0
            intro K hK
            go_simp
            exact hK _ _ rfl ⟨rfl, Below.refl _ _⟩
          · intro wx hb0
            have hb : Below _ _ wx := hb0
            rintro _ rfl
            rintro _ rfl
            intro K hK
            go_simp
            exact hK _ _ rfl ⟨rfl, Below.refl _ _⟩
          · intro wx hb0
            have hb : Below _ _ wx := hb0
            rintro _ rfl
            intro K hK
            go_simp
            exact hK _ _ rfl ⟨rfl, Below.refl _ _⟩
          · intro wx hb0
            have hb : Below _ _ wx := hb0
            rintro _ rfl
            intro K hK
            have zz := (hb.cell (p := ⟨(ad.add (j * 5)).block, (ad.add (j * 5)).off + 3, none⟩) (hadl3)).trans d3; go_simp; exact hK _ _ rfl ⟨rfl, Below.refl _ _⟩
          · intro wx hb0
            have hb : Below _ _ wx := hb0
            rintro _ rfl
            intro K hK
            go_simp
            exact hK _ _ rfl ⟨rfl, Below.refl _ _⟩
          · intro wx hb0
            have hb : Below _ _ wx := hb0
            rintro _ rfl
            rintro _ rfl
            intro K hK
            go_simp
            exact hK _ _ rfl ⟨rfl, Below.refl _ _⟩
          · intro wx hb0
            have hb : Below _ _ wx := hb0
            rintro _ rfl
            intro K hK
            have zz := (hb.cell (p := ⟨w.heap.size, b, none⟩) HB3.out.lt).trans ((HB3.out.cell b).trans hqb); go_simp; exact hK _ _ rfl ⟨rfl, Below.refl _ _⟩
          · intro wx hb0
            have hb : Below _ _ wx := hb0
            intro K hK
            go_simp
            exact hK _ _ rfl ⟨rfl, Below.refl _ _⟩
          · intro wx hb0
            have hb : Below _ _ wx := hb0
            intro K hK
            go_simp
            exact hK _ _ rfl ⟨rfl, Below.refl _ _⟩
          · intro wx hb0
            have hb : Below _ _ wx := hb0
            rintro _ rfl
            rintro _ rfl
            intro K hK
            go_simp
            exact hK _ _ rfl ⟨rfl, Below.refl _ _⟩
          · intro wx hb0
            have hb : Below _ _ wx := hb0
            rintro _ rfl
            intro K hK
            have zz := (hb.cell (p := ⟨w.heap.size, j, none⟩) HB3.out.lt).trans ((HB3.out.cell j).trans hqj); go_simp; exact hK _ _ rfl ⟨rfl, Below.refl _ _⟩
          · intro wx hb0
            have hb : Below _ _ wx := hb0
            rintro _ rfl
            rintro _ rfl
            intro K hK
            go_simp
            exact hK _ _ rfl ⟨rfl, Below.refl _ _⟩
          · intro wx hb0
            have hb : Below _ _ wx := hb0
            rintro _ rfl
            rintro _ rfl
            intro K hK
            go_simp
            exact hK _ _ rfl ⟨rfl, Below.refl _ _⟩
          · intro wx hb0
            have hb : Below _ _ wx := hb0
            rintro _ rfl
            rintro _ rfl
            intro K hK
            have zc := (hb.cell (p := ⟨w.heap.size, b, none⟩) HB3.out.lt).trans ((HB3.out.cell b).trans hqb); have zf := (Box.below HB3.out hb HB3.out.lt).free b
            go_simp
            exact hK _ _ rfl rfl
          intro w4 B4
          rintro _ rfl
          rintro _ rfl
          rintro _ rfl
          rintro _ rfl
          rintro _ rfl
          rintro _ rfl
          rintro _ rfl
          rintro _ rfl
          rintro _ rfl
          rintro _ rfl
          rintro _ rfl
          rintro _ rfl
          rintro _ rfl
          rintro _ rfl
          rintro _ rfl
          rintro -
          simp only [Act.put, List.setIfInBounds_toArray, List.set_cons_zero, List.set_cons_succ, List.toList_toArray, List.length_cons, List.length_nil, List.drop_succ_cons, List.drop_zero, List.drop_nil, Nat.zero_add, wpList]
          have HB4 : Hid (Box w4 w.heap.size 3 (vi (o1.set b v2)).toArray) := Lib.hid (by
            have h1 := HB3.out.set_ b (.int .i64 v2)
            rw [via_set] at h1
            exact h1.below B4 HB3.out.lt)
          rw [hs2] at HB4
          have BW4 := Lib.hid ((BW3.setCell (p := ⟨w.heap.size, b, none⟩) (Nat.le_refl _) (.int .i64 v2)).trans (B4.mono BW3.size))
          clear B4 BW3
          go_wp2_with fail
          go_roundw
          case rel => exact ⟨(j : Int) - 1, j, (up o1 b x), (up o1 b x), by go_num, by omega, by omega, Lib.hid ⟨HG2.out, HN.out⟩, Lib.hid ⟨fun h => absurd h (by omega), fun _ => rfl⟩, HB4, BW4⟩
          case measure => simp [intOf] <;> omega
        · obtain ⟨a, rfl⟩ : ∃ a : Nat, lf = (a : Int) + 1 := ⟨(lf - 1).toNat, by omega⟩
          have ai : a < j := by omega
          have an : (a : Int) < n := by omega
          have a0 : (0 : Int) ≤ a := by omega
          have wa : IntKind.i64.wrap (a : Int) = a := IntWalk.i64_in _ ⟨by omega, by omega⟩
          have HN : Hid (UInv g n T j (up o a (x * tm))) := Lib.hid (by rw [HX.out]; exact HG.out.2.power H0.out HL.out HR.out ai t2)
          have HG2 : Hid (usesFrom g j (up o a (x * tm)) = U) := Lib.hid (by have := HG.out.1; rw [show usesFrom g (j + 1) o = usesFrom g j (ust g j o) from rfl, ust_power HR.out, ← HX.out] at this; exact this)
          have hol : o.length = n := HG.out.2.len
          obtain ⟨p, hp⟩ : ∃ p, p = o.getD a 0 := ⟨_, rfl⟩
          have hpa : (vi o).toArray[a]? = some (.int .i64 p) := by rw [hp]; exact via_at (by omega)
          have hpj : (vi o).toArray[j]? = some (.int .i64 x) := by rw [HX.out]; exact via_at (by omega)
          have plo : 0 ≤ p := by rw [hp]; exact HG.out.2.pos a
          have e1 : ∀ k, (up o a (x * tm)).getD k 0 = o.getD k 0 + if k = a then x * tm else 0 := fun k => up_at (by omega)
          have hpx : p + x * tm ≤ T := by have h1 := HN.out.le a; rw [e1, if_pos rfl, ← hp] at h1; exact h1
          have xtm : 0 ≤ x * tm := Int.mul_nonneg xlo (by omega)
          have hs1 : o.set a (p + x * tm) = up o a (x * tm) := by rw [hp]; rfl
          clear e1 hp
          obtain ⟨y, hy⟩ : ∃ y, y = x * tm := ⟨_, rfl⟩
          rw [← hy] at hpx xtm hs1 HN HG2
          have wy : IntKind.i64.wrap (x * tm) = y := by rw [← hy]; exact IntWalk.i64_in _ ⟨by omega, by omega⟩
          obtain ⟨v1, hv1⟩ : ∃ v1, v1 = p + y := ⟨_, rfl⟩
          have wv1 : IntKind.i64.wrap (p + y) = v1 := by rw [hv1]; exact IntWalk.i64_in _ ⟨by omega, by omega⟩
          rw [← hv1] at hs1
          have BW0 := BW1_.out
          clear hv1 hy
          go_upto_region 12 with fail
          refine Rs.region_st (sx := 21) (px := ⟨w.heap.size, a, none⟩) (ux := (.int .i64 v1)) (bs := [true, true, true, true, true, true, true, true, true, true, true, true, true, true, true, true, true, true, true, true, true, true]) (.val (fun v _ => v = .slice (some ⟨w.heap.size, 0, none⟩) n n) :: .val (fun v _ => v = .slice (some ad) n c) :: .val (fun v _ => v = .int .i64 (j : Int)) :: .val (fun v _ => v = .pointer (some (ad.add (j * 5)))) :: .val (fun v _ => v = .pointer (some ⟨(ad.add (j * 5)).block, (ad.add (j * 5)).off + 2, none⟩)) :: .val (fun v _ => v = .int .i64 ((a : Int) + 1)) :: .val (fun v _ => v = .int .i64 (a : Int)) :: .val (fun v _ => v = .pointer (some ⟨w.heap.size, a, none⟩)) :: .val (fun v _ => v = .int .i64 p) :: .val (fun v _ => v = .slice (some ⟨w.heap.size, 0, none⟩) n n) :: .val (fun v _ => v = .int .i64 (j : Int)) :: .val (fun v _ => v = .pointer (some ⟨w.heap.size, j, none⟩)) :: .val (fun v _ => v = .int .i64 x) :: .val (fun v _ => v = .slice (some ad) n c) :: .val (fun v _ => v = .int .i64 (j : Int)) :: .val (fun v _ => v = .pointer (some (ad.add (j * 5)))) :: .val (fun v _ => v = .pointer (some ⟨(ad.add (j * 5)).block, (ad.add (j * 5)).off + 4, none⟩)) :: .val (fun v _ => v = .int .i64 tm) :: .val (fun v _ => v = .int .i64 y) :: .val (fun v _ => v = .int .i64 v1) :: .val (fun v _ => v = .pointer (some ⟨w.heap.size, a, none⟩)) :: .st ⟨w.heap.size, a, none⟩ ((.int .i64 v1)) :: [])
            ([] :: [] :: [] :: [(63, 1), (64, 2)] :: [(65, 3)] :: [(66, 4)] :: [(67, 5)] :: [(62, 0), (68, 6)] :: [(69, 7)] :: [] :: [] :: [(71, 9), (72, 10)] :: [(73, 11)] :: [] :: [] :: [(75, 13), (76, 14)] :: [(77, 15)] :: [(78, 16)] :: [(74, 12), (79, 17)] :: [(70, 8), (80, 18)] :: [(62, 0), (68, 6)] :: [(82, 20), (81, 19)] :: []) ((0, 0) :: (0, 0) :: (0, 0) :: (0, 0) :: (0, 0) :: (0, 0) :: (0, 0) :: (0, 0) :: (0, 0) :: (0, 0) :: (0, 0) :: (0, 0) :: (0, 0) :: (0, 0) :: (0, 0) :: (0, 0) :: (0, 0) :: (0, 0) :: (0, 0) :: (0, 0) :: (0, 0) :: (3, 0) :: []) 84 (by kernel_rfl) rfl rfl (by kernel_rfl) (by kernel_rfl) rfl (by first | omega | (simp; omega)) ⟨⟨rfl, rfl⟩, trivial⟩ (by decide) ⟨⟨Rs.Stab.pure _ _ _, fun _ _ h => h⟩, ⟨Rs.Stab.pure _ _ _, fun _ _ h => h⟩, ⟨Rs.Stab.pure _ _ _, fun _ _ h => h⟩, ⟨Rs.Stab.pure _ _ _, fun _ _ h => h⟩, ⟨Rs.Stab.pure _ _ _, fun _ _ h => h⟩, ⟨Rs.Stab.pure _ _ _, fun _ _ h => h⟩, ⟨Rs.Stab.pure _ _ _, fun _ _ h => h⟩, ⟨Rs.Stab.pure _ _ _, fun _ _ h => h⟩, ⟨Rs.Stab.pure _ _ _, fun _ _ h => h⟩, ⟨Rs.Stab.pure _ _ _, fun _ _ h => h⟩, ⟨Rs.Stab.pure _ _ _, fun _ _ h => h⟩, ⟨Rs.Stab.pure _ _ _, fun _ _ h => h⟩, ⟨Rs.Stab.pure _ _ _, fun _ _ h => h⟩, ⟨Rs.Stab.pure _ _ _, fun _ _ h => h⟩, ⟨Rs.Stab.pure _ _ _, fun _ _ h => h⟩, ⟨Rs.Stab.pure _ _ _, fun _ _ h => h⟩, ⟨Rs.Stab.pure _ _ _, fun _ _ h => h⟩, ⟨Rs.Stab.pure _ _ _, fun _ _ h => h⟩, ⟨Rs.Stab.pure _ _ _, fun _ _ h => h⟩, ⟨Rs.Stab.pure _ _ _, fun _ _ h => h⟩, ⟨Rs.Stab.pure _ _ _, fun _ _ h => h⟩, trivial⟩ ⟨?_, ?_, ?_, ?_, ?_, ?_, ?_, ?_, ?_, ?_, ?_, ?_, ?_, ?_, ?_, ?_, ?_, ?_, ?_, ?_, ?_, ?_, trivial⟩ ?_
          · intro wx hb0
            have hb : Below _ _ wx := hb0
            intro K hK
            go_simp
            exact hK _ _ rfl ⟨rfl, Below.refl _ _⟩
          · intro wx hb0
            have hb : Below _ _ wx := hb0
            intro K hK
            go_simp
            exact hK _ _ rfl ⟨rfl, Below.refl _ _⟩
          · intro wx hb0
            have hb : Below _ _ wx := hb0
            intro K hK
            go_simp
            exact hK _ _ rfl ⟨rfl, Below.refl _ _⟩
          · intro wx hb0
            have hb : Below _ _ wx := hb0
            rintro _ rfl
            rintro _ rfl
            intro K hK
            go_simp
            exact hK _ _ rfl ⟨rfl, Below.refl _ _⟩
          · intro wx hb0
            have hb : Below _ _ wx := hb0
            rintro _ rfl
            intro K hK
            go_simp
            exact hK _ _ rfl ⟨rfl, Below.refl _ _⟩
          · intro wx hb0
            have hb : Below _ _ wx := hb0
            rintro _ rfl
            intro K hK
            have zz := (hb.cell (p := ⟨(ad.add (j * 5)).block, (ad.add (j * 5)).off + 2, none⟩) (hadl2)).trans c2; go_simp; exact hK _ _ rfl ⟨rfl, Below.refl _ _⟩
          · intro wx hb0
            have hb : Below _ _ wx := hb0
            rintro _ rfl
            intro K hK
            go_simp
            exact hK _ _ rfl ⟨rfl, Below.refl _ _⟩
          · intro wx hb0
            have hb : Below _ _ wx := hb0
            rintro _ rfl
            rintro _ rfl
            intro K hK
            go_simp
            exact hK _ _ rfl ⟨rfl, Below.refl _ _⟩
          · intro wx hb0
            have hb : Below _ _ wx := hb0
            rintro _ rfl
            intro K hK
            have zz := (hb.cell (p := ⟨w.heap.size, a, none⟩) HB1.out.lt).trans ((HB1.out.cell a).trans hpa); go_simp; exact hK _ _ rfl ⟨rfl, Below.refl _ _⟩
          · intro wx hb0
            have hb : Below _ _ wx := hb0
            intro K hK
            go_simp
            exact hK _ _ rfl ⟨rfl, Below.refl _ _⟩
          · intro wx hb0
            have hb : Below _ _ wx := hb0
            intro K hK
            go_simp
            exact hK _ _ rfl ⟨rfl, Below.refl _ _⟩
          · intro wx hb0
            have hb : Below _ _ wx := hb0
            rintro _ rfl
            rintro _ rfl
            intro K hK
            go_simp
            exact hK _ _ rfl ⟨rfl, Below.refl _ _⟩
          · intro wx hb0
            have hb : Below _ _ wx := hb0
            rintro _ rfl
            intro K hK
            have zz := (hb.cell (p := ⟨w.heap.size, j, none⟩) HB1.out.lt).trans ((HB1.out.cell j).trans hpj); go_simp; exact hK _ _ rfl ⟨rfl, Below.refl _ _⟩
          · intro wx hb0
            have hb : Below _ _ wx := hb0
            intro K hK
            go_simp
            exact hK _ _ rfl ⟨rfl, Below.refl _ _⟩
          · intro wx hb0
            have hb : Below _ _ wx := hb0
            intro K hK
            go_simp
            exact hK _ _ rfl ⟨rfl, Below.refl _ _⟩
          · intro wx hb0
            have hb : Below _ _ wx := hb0
            rintro _ rfl
            rintro _ rfl
            intro K hK
            go_simp
            exact hK _ _ rfl ⟨rfl, Below.refl _ _⟩
          · intro wx hb0
            have hb : Below _ _ wx := hb0
            rintro _ rfl
            intro K hK
            go_simp
            exact hK _ _ rfl ⟨rfl, Below.refl _ _⟩
          · intro wx hb0
            have hb : Below _ _ wx := hb0
            rintro _ rfl
            intro K hK
            have zz := (hb.cell (p := ⟨(ad.add (j * 5)).block, (ad.add (j * 5)).off + 4, none⟩) (hadl2)).trans c4; go_simp; exact hK _ _ rfl ⟨rfl, Below.refl _ _⟩
          · intro wx hb0
            have hb : Below _ _ wx := hb0
            rintro _ rfl
            rintro _ rfl
            intro K hK
            go_simp
            exact hK _ _ rfl ⟨rfl, Below.refl _ _⟩
          · intro wx hb0
            have hb : Below _ _ wx := hb0
            rintro _ rfl
            rintro _ rfl
            intro K hK
            go_simp
            exact hK _ _ rfl ⟨rfl, Below.refl _ _⟩
          · intro wx hb0
            have hb : Below _ _ wx := hb0
            rintro _ rfl
            rintro _ rfl
            intro K hK
            go_simp
            exact hK _ _ rfl ⟨rfl, Below.refl _ _⟩
          · intro wx hb0
            have hb : Below _ _ wx := hb0
            rintro _ rfl
            rintro _ rfl
            intro K hK
            have zc := (hb.cell (p := ⟨w.heap.size, a, none⟩) HB1.out.lt).trans ((HB1.out.cell a).trans hpa); have zf := (Box.below HB1.out hb HB1.out.lt).free a
            go_simp
            exact hK _ _ rfl rfl
          intro w3 B3
          rintro _ rfl
          rintro _ rfl
          rintro _ rfl
          rintro _ rfl
          rintro _ rfl
          rintro _ rfl
          rintro _ rfl
          rintro _ rfl
          rintro _ rfl
          rintro _ rfl
          rintro _ rfl
          rintro _ rfl
          rintro _ rfl
          rintro _ rfl
          rintro _ rfl
          rintro _ rfl
          rintro _ rfl
          rintro _ rfl
          rintro _ rfl
          rintro _ rfl
          rintro _ rfl
          rintro -
          simp only [Act.put, List.setIfInBounds_toArray, List.set_cons_zero, List.set_cons_succ, List.toList_toArray, List.length_cons, List.length_nil, List.drop_succ_cons, List.drop_zero, List.drop_nil, Nat.zero_add, wpList]
          have HB3 : Hid (Box w3 w.heap.size 3 (vi (o.set a v1)).toArray) := Lib.hid (by
            have h1 := HB1.out.set_ a (.int .i64 v1)
            rw [via_set] at h1
            exact h1.below B3 HB1.out.lt)
          rw [hs1] at HB3
          have BW3 := (BW0.setCell (p := ⟨w.heap.size, a, none⟩) (Nat.le_refl _) (.int .i64 v1)).trans (B3.mono BW0.size)
          have BW4 := Lib.hid BW3
          clear B3 BW0 BW3
          go_wp2_with fail
          go_roundw
          case rel => exact ⟨(j : Int) - 1, j, (up o a y), (up o a y), by go_num, by omega, by omega, Lib.hid ⟨HG2.out, HN.out⟩, Lib.hid ⟨fun h => absurd h (by omega), fun _ => rfl⟩, HB3, BW4⟩
          case measure => simp [intOf] <;> omega
      · have q1 : ((j : Int) == (n : Int) - 1) = false := by rw [beq_eq_false_iff_ne]; omega
        have HB1 : Hid (Box wr w.heap.size 3 (vi o).toArray) := Lib.hid (by have := HB.out; rw [HM.out.2 hjn] at this; exact this)
        have BW1_ := BW
        clear HM
        have hway := rule_way H0.out HR.out
        obtain ⟨ad, rfl, hadl, c0, c1, c2, c3, c4⟩ := row_rl (HA.out.below BW1_.out (Nat.le_refl _)) HR.out
        obtain ⟨kd, lt, lf, rg, tm⟩ := r
        simp only at c0 c1 c2 c3 c4 hway
        have hadl2 : (ad.add (j * 5)).block < wr.heap.size := by rw [block_add]; exact hadl
        rcases hway with ⟨rfl, rfl, rfl, rfl⟩ | ⟨rfl, rfl, rfl, p1, p2, q1_, q2_⟩ | ⟨rfl, rfl, rfl, t2, p1, p2⟩
        · have HG2 : Hid (usesFrom g j o = U ∧ UInv g n T j o) := Lib.hid ⟨by have := HG.out.1; rw [show usesFrom g (j + 1) o = usesFrom g j (ust g j o) from rfl, ust_letter HR.out] at this; exact this, HG.out.2.letter HR.out⟩
          go_wp2_with fail
          go_roundw
          case rel => exact ⟨(j : Int) - 1, j, o, o, by go_num, by omega, by omega, HG2, Lib.hid ⟨fun h => absurd h (by omega), fun _ => rfl⟩, HB1, BW1_⟩
          case measure => simp [intOf] <;> omega
        · obtain ⟨a, rfl⟩ : ∃ a : Nat, lf = (a : Int) + 1 := ⟨(lf - 1).toNat, by omega⟩
          obtain ⟨b, rfl⟩ : ∃ b : Nat, rg = (b : Int) + 1 := ⟨(rg - 1).toNat, by omega⟩
          have ai : a < j := by omega
          have an : (a : Int) < n := by omega
          have a0 : (0 : Int) ≤ a := by omega
          have wa : IntKind.i64.wrap (a : Int) = a := IntWalk.i64_in _ ⟨by omega, by omega⟩
          have bi : b < j := by omega
          have bn : (b : Int) < n := by omega
          have b0 : (0 : Int) ≤ b := by omega
          have wb : IntKind.i64.wrap (b : Int) = b := IntWalk.i64_in _ ⟨by omega, by omega⟩
          have HN : Hid (UInv g n T j (up (up o a x) b x)) := Lib.hid (by rw [HX.out]; exact HG.out.2.pair H0.out HL.out HR.out ai bi)
          have HG2 : Hid (usesFrom g j (up (up o a x) b x) = U) := Lib.hid (by have := HG.out.1; rw [show usesFrom g (j + 1) o = usesFrom g j (ust g j o) from rfl, ust_pair HR.out, ← HX.out] at this; exact this)
          have hol : o.length = n := HG.out.2.len
          obtain ⟨p, hp⟩ : ∃ p, p = o.getD a 0 := ⟨_, rfl⟩
          have hpa : (vi o).toArray[a]? = some (.int .i64 p) := by rw [hp]; exact via_at (by omega)
          have hpj : (vi o).toArray[j]? = some (.int .i64 x) := by rw [HX.out]; exact via_at (by omega)
          have plo : 0 ≤ p := by rw [hp]; exact HG.out.2.pos a
          obtain ⟨o1, ho1⟩ : ∃ o1, o1 = up o a x := ⟨_, rfl⟩
          have ho1l : o1.length = n := by rw [ho1, up_len, hol]
          have e1 : ∀ k, o1.getD k 0 = o.getD k 0 + if k = a then x else 0 := fun k => by rw [ho1]; exact up_at (by omega)
          have e2 : ∀ k, (up o1 b x).getD k 0 = o1.getD k 0 + if k = b then x else 0 := fun k => up_at (by omega)
          rw [← ho1] at HN HG2
          have hpx : p + x ≤ T := by have h1 := HN.out.le a; rw [e2, e1, if_pos rfl, ← hp] at h1; split at h1 <;> omega
          have hs1 : o.set a (p + x) = o1 := by rw [ho1, hp]; rfl
          obtain ⟨q, hq⟩ : ∃ q, q = o1.getD b 0 := ⟨_, rfl⟩
          have qlo : 0 ≤ q := by rw [hq, e1]; have := HG.out.2.pos b; split <;> omega
          have hqx : q + x ≤ T := by have h1 := HN.out.le b; rw [e2, if_pos rfl, ← hq] at h1; exact h1
          have hs2 : o1.set b (q + x) = up o1 b x := by rw [hq]; rfl
          have hqb : (vi o1).toArray[b]? = some (.int .i64 q) := by rw [hq]; exact via_at (by omega)
          have hqj : (vi o1).toArray[j]? = some (.int .i64 x) := by rw [via_at (by omega), e1, if_neg (by omega), ← HX.out]; simp
          clear e1 e2 ho1 hp hq
          obtain ⟨v1, hv1⟩ : ∃ v1, v1 = p + x := ⟨_, rfl⟩
          have wv1 : IntKind.i64.wrap (p + x) = v1 := by rw [hv1]; exact IntWalk.i64_in _ ⟨by omega, by omega⟩
          obtain ⟨v2, hv2⟩ : ∃ v2, v2 = q + x := ⟨_, rfl⟩
          have wv2 : IntKind.i64.wrap (q + x) = v2 := by rw [hv2]; exact IntWalk.i64_in _ ⟨by omega, by omega⟩
          rw [← hv1] at hs1; rw [← hv2] at hs2
          have BW0 := BW1_.out
          clear hv1 hv2
          go_upto_region 9 with fail
          refine Rs.region_st (sx := 15) (px := ⟨w.heap.size, a, none⟩) (ux := (.int .i64 v1)) (bs := [true, true, true, true, true, true, true, true, true, true, true, true, true, true, true, true]) (.val (fun v _ => v = .slice (some ⟨w.heap.size, 0, none⟩) n n) :: .val (fun v _ => v = .slice (some ad) n c) :: .val (fun v _ => v = .int .i64 (j : Int)) :: .val (fun v _ => v = .pointer (some (ad.add (j * 5)))) :: .val (fun v _ => v = .pointer (some ⟨(ad.add (j * 5)).block, (ad.add (j * 5)).off + 2, none⟩)) :: .val (fun v _ => v = .int .i64 ((a : Int) + 1)) :: .val (fun v _ => v = .int .i64 (a : Int)) :: .val (fun v _ => v = .pointer (some ⟨w.heap.size, a, none⟩)) :: .val (fun v _ => v = .int .i64 p) :: .val (fun v _ => v = .slice (some ⟨w.heap.size, 0, none⟩) n n) :: .val (fun v _ => v = .int .i64 (j : Int)) :: .val (fun v _ => v = .pointer (some ⟨w.heap.size, j, none⟩)) :: .val (fun v _ => v = .int .i64 x) :: .val (fun v _ => v = .int .i64 v1) :: .val (fun v _ => v = .pointer (some ⟨w.heap.size, a, none⟩)) :: .st ⟨w.heap.size, a, none⟩ ((.int .i64 v1)) :: [])
            ([] :: [] :: [] :: [(31, 1), (32, 2)] :: [(33, 3)] :: [(34, 4)] :: [(35, 5)] :: [(30, 0), (36, 6)] :: [(37, 7)] :: [] :: [] :: [(39, 9), (40, 10)] :: [(41, 11)] :: [(38, 8), (42, 12)] :: [(30, 0), (36, 6)] :: [(44, 14), (43, 13)] :: []) ((0, 0) :: (0, 0) :: (0, 0) :: (0, 0) :: (0, 0) :: (0, 0) :: (0, 0) :: (0, 0) :: (0, 0) :: (0, 0) :: (0, 0) :: (0, 0) :: (0, 0) :: (0, 0) :: (0, 0) :: (3, 0) :: []) 84 (by kernel_rfl) rfl rfl (by kernel_rfl) (by kernel_rfl) rfl (by first | omega | (simp; omega)) ⟨⟨rfl, rfl⟩, trivial⟩ (by decide) ⟨⟨Rs.Stab.pure _ _ _, fun _ _ h => h⟩, ⟨Rs.Stab.pure _ _ _, fun _ _ h => h⟩, ⟨Rs.Stab.pure _ _ _, fun _ _ h => h⟩, ⟨Rs.Stab.pure _ _ _, fun _ _ h => h⟩, ⟨Rs.Stab.pure _ _ _, fun _ _ h => h⟩, ⟨Rs.Stab.pure _ _ _, fun _ _ h => h⟩, ⟨Rs.Stab.pure _ _ _, fun _ _ h => h⟩, ⟨Rs.Stab.pure _ _ _, fun _ _ h => h⟩, ⟨Rs.Stab.pure _ _ _, fun _ _ h => h⟩, ⟨Rs.Stab.pure _ _ _, fun _ _ h => h⟩, ⟨Rs.Stab.pure _ _ _, fun _ _ h => h⟩, ⟨Rs.Stab.pure _ _ _, fun _ _ h => h⟩, ⟨Rs.Stab.pure _ _ _, fun _ _ h => h⟩, ⟨Rs.Stab.pure _ _ _, fun _ _ h => h⟩, ⟨Rs.Stab.pure _ _ _, fun _ _ h => h⟩, trivial⟩ ⟨?_, ?_, ?_, ?_, ?_, ?_, ?_, ?_, ?_, ?_, ?_, ?_, ?_, ?_, ?_, ?_, trivial⟩ ?_
          · intro wx hb0
            have hb : Below _ _ wx := hb0
            intro K hK
            go_simp
            exact hK _ _ rfl ⟨rfl, Below.refl _ _⟩
          · intro wx hb0
            have hb : Below _ _ wx := hb0
            intro K hK
            go_simp
            exact hK _ _ rfl ⟨rfl, Below.refl _ _⟩
          · intro wx hb0
            have hb : Below _ _ wx := hb0
            intro K hK
            go_simp
            exact hK _ _ rfl ⟨rfl, Below.refl _ _⟩
          · intro wx hb0
            have hb : Below _ _ wx := hb0
            rintro _ rfl
            rintro _ rfl
            intro K hK
            go_simp
            exact hK _ _ rfl ⟨rfl, Below.refl _ _⟩
          · intro wx hb0
            have hb : Below _ _ wx := hb0
            rintro _ rfl
            intro K hK
            go_simp
            exact hK _ _ rfl ⟨rfl, Below.refl _ _⟩
          · intro wx hb0
            have hb : Below _ _ wx := hb0
            rintro _ rfl
            intro K hK
            have zz := (hb.cell (p := ⟨(ad.add (j * 5)).block, (ad.add (j * 5)).off + 2, none⟩) (hadl2)).trans c2; go_simp; exact hK _ _ rfl ⟨rfl, Below.refl _ _⟩
          · intro wx hb0
            have hb : Below _ _ wx := hb0
            rintro _ rfl
            intro K hK
            go_simp
            exact hK _ _ rfl ⟨rfl, Below.refl _ _⟩
          · intro wx hb0
            have hb : Below _ _ wx := hb0
            rintro _ rfl
            rintro _ rfl
            intro K hK
            go_simp
            exact hK _ _ rfl ⟨rfl, Below.refl _ _⟩
          · intro wx hb0
            have hb : Below _ _ wx := hb0
            rintro _ rfl
            intro K hK
            have zz := (hb.cell (p := ⟨w.heap.size, a, none⟩) HB1.out.lt).trans ((HB1.out.cell a).trans hpa); go_simp; exact hK _ _ rfl ⟨rfl, Below.refl _ _⟩
          · intro wx hb0
            have hb : Below _ _ wx := hb0
            intro K hK
            go_simp
            exact hK _ _ rfl ⟨rfl, Below.refl _ _⟩
          · intro wx hb0
            have hb : Below _ _ wx := hb0
            intro K hK
            go_simp
            exact hK _ _ rfl ⟨rfl, Below.refl _ _⟩
          · intro wx hb0
            have hb : Below _ _ wx := hb0
            rintro _ rfl
            rintro _ rfl
            intro K hK
            go_simp
            exact hK _ _ rfl ⟨rfl, Below.refl _ _⟩
          · intro wx hb0
            have hb : Below _ _ wx := hb0
            rintro _ rfl
            intro K hK
            have zz := (hb.cell (p := ⟨w.heap.size, j, none⟩) HB1.out.lt).trans ((HB1.out.cell j).trans hpj); go_simp; exact hK _ _ rfl ⟨rfl, Below.refl _ _⟩
          · intro wx hb0
            have hb : Below _ _ wx := hb0
            rintro _ rfl
            rintro _ rfl
            intro K hK
            go_simp
            exact hK _ _ rfl ⟨rfl, Below.refl _ _⟩
          · intro wx hb0
            have hb : Below _ _ wx := hb0
            rintro _ rfl
            rintro _ rfl
            intro K hK
            go_simp
            exact hK _ _ rfl ⟨rfl, Below.refl _ _⟩
          · intro wx hb0
            have hb : Below _ _ wx := hb0
            rintro _ rfl
            rintro _ rfl
            intro K hK
            have zc := (hb.cell (p := ⟨w.heap.size, a, none⟩) HB1.out.lt).trans ((HB1.out.cell a).trans hpa); have zf := (Box.below HB1.out hb HB1.out.lt).free a
            go_simp
            exact hK _ _ rfl rfl
          intro w3 B3
          rintro _ rfl
          rintro _ rfl
          rintro _ rfl
          rintro _ rfl
          rintro _ rfl
          rintro _ rfl
          rintro _ rfl
          rintro _ rfl
          rintro _ rfl
          rintro _ rfl
          rintro _ rfl
          rintro _ rfl
          rintro _ rfl
          rintro _ rfl
          rintro _ rfl
          rintro -
          simp only [Act.put, List.setIfInBounds_toArray, List.set_cons_zero, List.set_cons_succ, List.toList_toArray, List.length_cons, List.length_nil, List.drop_succ_cons, List.drop_zero, List.drop_nil, Nat.zero_add, wpList]
          have HB3 : Hid (Box w3 w.heap.size 3 (vi (o.set a v1)).toArray) := Lib.hid (by
            have h1 := HB1.out.set_ a (.int .i64 v1)
            rw [via_set] at h1
            exact h1.below B3 HB1.out.lt)
          rw [hs1] at HB3
          have BW3 := (BW0.setCell (p := ⟨w.heap.size, a, none⟩) (Nat.le_refl _) (.int .i64 v1)).trans (B3.mono BW0.size)
          clear B3 BW0 hpa hpj
          have zw3 : w.heap.size < w3.heap.size := HB3.out.lt
          have d3 : w3.cell? ⟨(ad.add (j * 5)).block, (ad.add (j * 5)).off + 3, none⟩ = some (.int .i64 ((b : Int) + 1)) := by
            obtain ⟨a2, e2, _, _, _, _, h3, _⟩ := row_rl (HA.out.below BW3 (Nat.le_refl _)) HR.out
            cases e2; exact h3
          have hadl3 : (ad.add (j * 5)).block < w3.heap.size := by
            obtain ⟨a2, e2, h3, _⟩ := row_rl (HA.out.below BW3 (Nat.le_refl _)) HR.out
            cases e2; rw [block_add]; exact h3
          go_upto_region 10 with fail
          refine Rs.region_st (sx := 15) (px := ⟨w.heap.size, b, none⟩) (ux := (.int .i64 v2)) (bs := [true, true, true, true, true, true, true, true, true, true, true, true, true, true, true, true]) (.val (fun v _ => v = .slice (some ⟨w.heap.size, 0, none⟩) n n) :: .val (fun v _ => v = .slice (some ad) n c) :: .val (fun v _ => v = .int .i64 (j : Int)) :: .val (fun v _ => v = .pointer (some (ad.add (j * 5)))) :: .val (fun v _ => v = .pointer (some ⟨(ad.add (j * 5)).block, (ad.add (j * 5)).off + 3, none⟩)) :: .val (fun v _ => v = .int .i64 ((b : Int) + 1)) :: .val (fun v _ => v = .int .i64 (b : Int)) :: .val (fun v _ => v = .pointer (some ⟨w.heap.size, b, none⟩)) :: .val (fun v _ => v = .int .i64 q) :: .val (fun v _ => v = .slice (some ⟨w.heap.size, 0, none⟩) n n) :: .val (fun v _ => v = .int .i64 (j : Int)) :: .val (fun v _ => v = .pointer (some ⟨w.heap.size, j, none⟩)) :: .val (fun v _ => v = .int .i64 x) :: .val (fun v _ => v = .int .i64 v2) :: .val (fun v _ => v = .pointer (some ⟨w.heap.size, b, none⟩)) :: .st ⟨w.heap.size, b, none⟩ ((.int .i64 v2)) :: [])
            ([] :: [] :: [] :: [(46, 1), (47, 2)] :: [(48, 3)] :: [(49, 4)] :: [(50, 5)] :: [(45, 0), (51, 6)] :: [(52, 7)] :: [] :: [] :: [(54, 9), (55, 10)] :: [(56, 11)] :: [(53, 8), (57, 12)] :: [(45, 0), (51, 6)] :: [(59, 14), (58, 13)] :: []) ((0, 0) :: (0, 0) :: (0, 0) :: (0, 0) :: (0, 0) :: (0, 0) :: (0, 0) :: (0, 0) :: (0, 0) :: (0, 0) :: (0, 0) :: (0, 0) :: (0, 0) :: (0, 0) :: (0, 0) :: (3, 0) :: []) 84 (by kernel_rfl) rfl rfl (by kernel_rfl) (by kernel_rfl) rfl (by first | omega | (simp; omega)) ⟨⟨rfl, rfl⟩, trivial⟩ (by decide) ⟨⟨Rs.Stab.pure _ _ _, fun _ _ h => h⟩, ⟨Rs.Stab.pure _ _ _, fun _ _ h => h⟩, ⟨Rs.Stab.pure _ _ _, fun _ _ h => h⟩, ⟨Rs.Stab.pure _ _ _, fun _ _ h => h⟩, ⟨Rs.Stab.pure _ _ _, fun _ _ h => h⟩, ⟨Rs.Stab.pure _ _ _, fun _ _ h => h⟩, ⟨Rs.Stab.pure _ _ _, fun _ _ h => h⟩, ⟨Rs.Stab.pure _ _ _, fun _ _ h => h⟩, ⟨Rs.Stab.pure _ _ _, fun _ _ h => h⟩, ⟨Rs.Stab.pure _ _ _, fun _ _ h => h⟩, ⟨Rs.Stab.pure _ _ _, fun _ _ h => h⟩, ⟨Rs.Stab.pure _ _ _, fun _ _ h => h⟩, ⟨Rs.Stab.pure _ _ _, fun _ _ h => h⟩, ⟨Rs.Stab.pure _ _ _, fun _ _ h => h⟩, ⟨Rs.Stab.pure _ _ _, fun _ _ h => h⟩, trivial⟩ ⟨?_, ?_, ?_, ?_, ?_, ?_, ?_, ?_, ?_, ?_, ?_, ?_, ?_, ?_, ?_, ?_, trivial⟩ ?_
          · intro wx hb0
            have hb : Below _ _ wx := hb0
            intro K hK
            go_simp
            exact hK _ _ rfl ⟨rfl, Below.refl _ _⟩
          · intro wx hb0
            have hb : Below _ _ wx := hb0
            intro K hK
            go_simp
            exact hK _ _ rfl ⟨rfl, Below.refl _ _⟩
          · intro wx hb0
            have hb : Below _ _ wx := hb0
            intro K hK
            go_simp
            exact hK _ _ rfl ⟨rfl, Below.refl _ _⟩
          · intro wx hb0
            have hb : Below _ _ wx := hb0
            rintro _ rfl
            rintro _ rfl
            intro K hK
            go_simp
            exact hK _ _ rfl ⟨rfl, Below.refl _ _⟩
          · intro wx hb0
            have hb : Below _ _ wx := hb0
            rintro _ rfl
            intro K hK
            go_simp
            exact hK _ _ rfl ⟨rfl, Below.refl _ _⟩
          · intro wx hb0
            have hb : Below _ _ wx := hb0
            rintro _ rfl
            intro K hK
            have zz := (hb.cell (p := ⟨(ad.add (j * 5)).block, (ad.add (j * 5)).off + 3, none⟩) (hadl3)).trans d3; go_simp; exact hK _ _ rfl ⟨rfl, Below.refl _ _⟩
          · intro wx hb0
            have hb : Below _ _ wx := hb0
            rintro _ rfl
            intro K hK
            go_simp
            exact hK _ _ rfl ⟨rfl, Below.refl _ _⟩
          · intro wx hb0
            have hb : Below _ _ wx := hb0
            rintro _ rfl
            rintro _ rfl
            intro K hK
            go_simp
            exact hK _ _ rfl ⟨rfl, Below.refl _ _⟩
          · intro wx hb0
            have hb : Below _ _ wx := hb0
            rintro _ rfl
            intro K hK
            have zz := (hb.cell (p := ⟨w.heap.size, b, none⟩) HB3.out.lt).trans ((HB3.out.cell b).trans hqb); go_simp; exact hK _ _ rfl ⟨rfl, Below.refl _ _⟩
          · intro wx hb0
            have hb : Below _ _ wx := hb0
            intro K hK
            go_simp
            exact hK _ _ rfl ⟨rfl, Below.refl _ _⟩
          · intro wx hb0
            have hb : Below _ _ wx := hb0
            intro K hK
            go_simp
            exact hK _ _ rfl ⟨rfl, Below.refl _ _⟩
          · intro wx hb0
            have hb : Below _ _ wx := hb0
            rintro _ rfl
            rintro _ rfl
            intro K hK
            go_simp
            exact hK _ _ rfl ⟨rfl, Below.refl _ _⟩
          · intro wx hb0
            have hb : Below _ _ wx := hb0
            rintro _ rfl
            intro K hK
            have zz := (hb.cell (p := ⟨w.heap.size, j, none⟩) HB3.out.lt).trans ((HB3.out.cell j).trans hqj); go_simp; exact hK _ _ rfl ⟨rfl, Below.refl _ _⟩
          · intro wx hb0
            have hb : Below _ _ wx := hb0
            rintro _ rfl
            rintro _ rfl
            intro K hK
            go_simp
            exact hK _ _ rfl ⟨rfl, Below.refl _ _⟩
          · intro wx hb0
            have hb : Below _ _ wx := hb0
            rintro _ rfl
            rintro _ rfl
            intro K hK
            go_simp
            exact hK _ _ rfl ⟨rfl, Below.refl _ _⟩
          · intro wx hb0
            have hb : Below _ _ wx := hb0
            rintro _ rfl
            rintro _ rfl
            intro K hK
            have zc := (hb.cell (p := ⟨w.heap.size, b, none⟩) HB3.out.lt).trans ((HB3.out.cell b).trans hqb); have zf := (Box.below HB3.out hb HB3.out.lt).free b
            go_simp
            exact hK _ _ rfl rfl
          intro w4 B4
          rintro _ rfl
          rintro _ rfl
          rintro _ rfl
          rintro _ rfl
          rintro _ rfl
          rintro _ rfl
          rintro _ rfl
          rintro _ rfl
          rintro _ rfl
          rintro _ rfl
          rintro _ rfl
          rintro _ rfl
          rintro _ rfl
          rintro _ rfl
          rintro _ rfl
          rintro -
          simp only [Act.put, List.setIfInBounds_toArray, List.set_cons_zero, List.set_cons_succ, List.toList_toArray, List.length_cons, List.length_nil, List.drop_succ_cons, List.drop_zero, List.drop_nil, Nat.zero_add, wpList]
          have HB4 : Hid (Box w4 w.heap.size 3 (vi (o1.set b v2)).toArray) := Lib.hid (by
            have h1 := HB3.out.set_ b (.int .i64 v2)
            rw [via_set] at h1
            exact h1.below B4 HB3.out.lt)
          rw [hs2] at HB4
          have BW4 := Lib.hid ((BW3.setCell (p := ⟨w.heap.size, b, none⟩) (Nat.le_refl _) (.int .i64 v2)).trans (B4.mono BW3.size))
          clear B4 BW3
          go_wp2_with fail
          go_roundw
          case rel => exact ⟨(j : Int) - 1, j, (up o1 b x), (up o1 b x), by go_num, by omega, by omega, Lib.hid ⟨HG2.out, HN.out⟩, Lib.hid ⟨fun h => absurd h (by omega), fun _ => rfl⟩, HB4, BW4⟩
          case measure => simp [intOf] <;> omega
        · obtain ⟨a, rfl⟩ : ∃ a : Nat, lf = (a : Int) + 1 := ⟨(lf - 1).toNat, by omega⟩
          have ai : a < j := by omega
          have an : (a : Int) < n := by omega
          have a0 : (0 : Int) ≤ a := by omega
          have wa : IntKind.i64.wrap (a : Int) = a := IntWalk.i64_in _ ⟨by omega, by omega⟩
          have HN : Hid (UInv g n T j (up o a (x * tm))) := Lib.hid (by rw [HX.out]; exact HG.out.2.power H0.out HL.out HR.out ai t2)
          have HG2 : Hid (usesFrom g j (up o a (x * tm)) = U) := Lib.hid (by have := HG.out.1; rw [show usesFrom g (j + 1) o = usesFrom g j (ust g j o) from rfl, ust_power HR.out, ← HX.out] at this; exact this)
          have hol : o.length = n := HG.out.2.len
          obtain ⟨p, hp⟩ : ∃ p, p = o.getD a 0 := ⟨_, rfl⟩
          have hpa : (vi o).toArray[a]? = some (.int .i64 p) := by rw [hp]; exact via_at (by omega)
          have hpj : (vi o).toArray[j]? = some (.int .i64 x) := by rw [HX.out]; exact via_at (by omega)
          have plo : 0 ≤ p := by rw [hp]; exact HG.out.2.pos a
          have e1 : ∀ k, (up o a (x * tm)).getD k 0 = o.getD k 0 + if k = a then x * tm else 0 := fun k => up_at (by omega)
          have hpx : p + x * tm ≤ T := by have h1 := HN.out.le a; rw [e1, if_pos rfl, ← hp] at h1; exact h1
          have xtm : 0 ≤ x * tm := Int.mul_nonneg xlo (by omega)
          have hs1 : o.set a (p + x * tm) = up o a (x * tm) := by rw [hp]; rfl
          clear e1 hp
          obtain ⟨y, hy⟩ : ∃ y, y = x * tm := ⟨_, rfl⟩
          rw [← hy] at hpx xtm hs1 HN HG2
          have wy : IntKind.i64.wrap (x * tm) = y := by rw [← hy]; exact IntWalk.i64_in _ ⟨by omega, by omega⟩
          obtain ⟨v1, hv1⟩ : ∃ v1, v1 = p + y := ⟨_, rfl⟩
          have wv1 : IntKind.i64.wrap (p + y) = v1 := by rw [hv1]; exact IntWalk.i64_in _ ⟨by omega, by omega⟩
          rw [← hv1] at hs1
          have BW0 := BW1_.out
          clear hv1 hy
          go_upto_region 12 with fail
          refine Rs.region_st (sx := 21) (px := ⟨w.heap.size, a, none⟩) (ux := (.int .i64 v1)) (bs := [true, true, true, true, true, true, true, true, true, true, true, true, true, true, true, true, true, true, true, true, true, true]) (.val (fun v _ => v = .slice (some ⟨w.heap.size, 0, none⟩) n n) :: .val (fun v _ => v = .slice (some ad) n c) :: .val (fun v _ => v = .int .i64 (j : Int)) :: .val (fun v _ => v = .pointer (some (ad.add (j * 5)))) :: .val (fun v _ => v = .pointer (some ⟨(ad.add (j * 5)).block, (ad.add (j * 5)).off + 2, none⟩)) :: .val (fun v _ => v = .int .i64 ((a : Int) + 1)) :: .val (fun v _ => v = .int .i64 (a : Int)) :: .val (fun v _ => v = .pointer (some ⟨w.heap.size, a, none⟩)) :: .val (fun v _ => v = .int .i64 p) :: .val (fun v _ => v = .slice (some ⟨w.heap.size, 0, none⟩) n n) :: .val (fun v _ => v = .int .i64 (j : Int)) :: .val (fun v _ => v = .pointer (some ⟨w.heap.size, j, none⟩)) :: .val (fun v _ => v = .int .i64 x) :: .val (fun v _ => v = .slice (some ad) n c) :: .val (fun v _ => v = .int .i64 (j : Int)) :: .val (fun v _ => v = .pointer (some (ad.add (j * 5)))) :: .val (fun v _ => v = .pointer (some ⟨(ad.add (j * 5)).block, (ad.add (j * 5)).off + 4, none⟩)) :: .val (fun v _ => v = .int .i64 tm) :: .val (fun v _ => v = .int .i64 y) :: .val (fun v _ => v = .int .i64 v1) :: .val (fun v _ => v = .pointer (some ⟨w.heap.size, a, none⟩)) :: .st ⟨w.heap.size, a, none⟩ ((.int .i64 v1)) :: [])
            ([] :: [] :: [] :: [(63, 1), (64, 2)] :: [(65, 3)] :: [(66, 4)] :: [(67, 5)] :: [(62, 0), (68, 6)] :: [(69, 7)] :: [] :: [] :: [(71, 9), (72, 10)] :: [(73, 11)] :: [] :: [] :: [(75, 13), (76, 14)] :: [(77, 15)] :: [(78, 16)] :: [(74, 12), (79, 17)] :: [(70, 8), (80, 18)] :: [(62, 0), (68, 6)] :: [(82, 20), (81, 19)] :: []) ((0, 0) :: (0, 0) :: (0, 0) :: (0, 0) :: (0, 0) :: (0, 0) :: (0, 0) :: (0, 0) :: (0, 0) :: (0, 0) :: (0, 0) :: (0, 0) :: (0, 0) :: (0, 0) :: (0, 0) :: (0, 0) :: (0, 0) :: (0, 0) :: (0, 0) :: (0, 0) :: (0, 0) :: (3, 0) :: []) 84 (by kernel_rfl) rfl rfl (by kernel_rfl) (by kernel_rfl) rfl (by first | omega | (simp; omega)) ⟨⟨rfl, rfl⟩, trivial⟩ (by decide) ⟨⟨Rs.Stab.pure _ _ _, fun _ _ h => h⟩, ⟨Rs.Stab.pure _ _ _, fun _ _ h => h⟩, ⟨Rs.Stab.pure _ _ _, fun _ _ h => h⟩, ⟨Rs.Stab.pure _ _ _, fun _ _ h => h⟩, ⟨Rs.Stab.pure _ _ _, fun _ _ h => h⟩, ⟨Rs.Stab.pure _ _ _, fun _ _ h => h⟩, ⟨Rs.Stab.pure _ _ _, fun _ _ h => h⟩, ⟨Rs.Stab.pure _ _ _, fun _ _ h => h⟩, ⟨Rs.Stab.pure _ _ _, fun _ _ h => h⟩, ⟨Rs.Stab.pure _ _ _, fun _ _ h => h⟩, ⟨Rs.Stab.pure _ _ _, fun _ _ h => h⟩, ⟨Rs.Stab.pure _ _ _, fun _ _ h => h⟩, ⟨Rs.Stab.pure _ _ _, fun _ _ h => h⟩, ⟨Rs.Stab.pure _ _ _, fun _ _ h => h⟩, ⟨Rs.Stab.pure _ _ _, fun _ _ h => h⟩, ⟨Rs.Stab.pure _ _ _, fun _ _ h => h⟩, ⟨Rs.Stab.pure _ _ _, fun _ _ h => h⟩, ⟨Rs.Stab.pure _ _ _, fun _ _ h => h⟩, ⟨Rs.Stab.pure _ _ _, fun _ _ h => h⟩, ⟨Rs.Stab.pure _ _ _, fun _ _ h => h⟩, ⟨Rs.Stab.pure _ _ _, fun _ _ h => h⟩, trivial⟩ ⟨?_, ?_, ?_, ?_, ?_, ?_, ?_, ?_, ?_, ?_, ?_, ?_, ?_, ?_, ?_, ?_, ?_, ?_, ?_, ?_, ?_, ?_, trivial⟩ ?_
          · intro wx hb0
            have hb : Below _ _ wx := hb0
            intro K hK
            go_simp
            exact hK _ _ rfl ⟨rfl, Below.refl _ _⟩
          · intro wx hb0
            have hb : Below _ _ wx := hb0
            intro K hK
            go_simp
            exact hK _ _ rfl ⟨rfl, Below.refl _ _⟩
          · intro wx hb0
            have hb : Below _ _ wx := hb0
            intro K hK
            go_simp
            exact hK _ _ rfl ⟨rfl, Below.refl _ _⟩
          · intro wx hb0
            have hb : Below _ _ wx := hb0
            rintro _ rfl
            rintro _ rfl
            intro K hK
            go_simp
            exact hK _ _ rfl ⟨rfl, Below.refl _ _⟩
          · intro wx hb0
            have hb : Below _ _ wx := hb0
            rintro _ rfl
            intro K hK
            go_simp
            exact hK _ _ rfl ⟨rfl, Below.refl _ _⟩
          · intro wx hb0
            have hb : Below _ _ wx := hb0
            rintro _ rfl
            intro K hK
            have zz := (hb.cell (p := ⟨(ad.add (j * 5)).block, (ad.add (j * 5)).off + 2, none⟩) (hadl2)).trans c2; go_simp; exact hK _ _ rfl ⟨rfl, Below.refl _ _⟩
          · intro wx hb0
            have hb : Below _ _ wx := hb0
            rintro _ rfl
            intro K hK
            go_simp
            exact hK _ _ rfl ⟨rfl, Below.refl _ _⟩
          · intro wx hb0
            have hb : Below _ _ wx := hb0
            rintro _ rfl
            rintro _ rfl
            intro K hK
            go_simp
            exact hK _ _ rfl ⟨rfl, Below.refl _ _⟩
          · intro wx hb0
            have hb : Below _ _ wx := hb0
            rintro _ rfl
            intro K hK
            have zz := (hb.cell (p := ⟨w.heap.size, a, none⟩) HB1.out.lt).trans ((HB1.out.cell a).trans hpa); go_simp; exact hK _ _ rfl ⟨rfl, Below.refl _ _⟩
          · intro wx hb0
            have hb : Below _ _ wx := hb0
            intro K hK
            go_simp
            exact hK _ _ rfl ⟨rfl, Below.refl _ _⟩
          · intro wx hb0
            have hb : Below _ _ wx := hb0
            intro K hK
            go_simp
            exact hK _ _ rfl ⟨rfl, Below.refl _ _⟩
          · intro wx hb0
            have hb : Below _ _ wx := hb0
            rintro _ rfl
            rintro _ rfl
            intro K hK
            go_simp
            exact hK _ _ rfl ⟨rfl, Below.refl _ _⟩
          · intro wx hb0
            have hb : Below _ _ wx := hb0
            rintro _ rfl
            intro K hK
            have zz := (hb.cell (p := ⟨w.heap.size, j, none⟩) HB1.out.lt).trans ((HB1.out.cell j).trans hpj); go_simp; exact hK _ _ rfl ⟨rfl, Below.refl _ _⟩
          · intro wx hb0
            have hb : Below _ _ wx := hb0
            intro K hK
            go_simp
            exact hK _ _ rfl ⟨rfl, Below.refl _ _⟩
          · intro wx hb0
            have hb : Below _ _ wx := hb0
            intro K hK
            go_simp
            exact hK _ _ rfl ⟨rfl, Below.refl _ _⟩
          · intro wx hb0
            have hb : Below _ _ wx := hb0
            rintro _ rfl
            rintro _ rfl
            intro K hK
            go_simp
            exact hK _ _ rfl ⟨rfl, Below.refl _ _⟩
          · intro wx hb0
            have hb : Below _ _ wx := hb0
            rintro _ rfl
            intro K hK
            go_simp
            exact hK _ _ rfl ⟨rfl, Below.refl _ _⟩
          · intro wx hb0
            have hb : Below _ _ wx := hb0
            rintro _ rfl
            intro K hK
            have zz := (hb.cell (p := ⟨(ad.add (j * 5)).block, (ad.add (j * 5)).off + 4, none⟩) (hadl2)).trans c4; go_simp; exact hK _ _ rfl ⟨rfl, Below.refl _ _⟩
          · intro wx hb0
            have hb : Below _ _ wx := hb0
            rintro _ rfl
            rintro _ rfl
            intro K hK
            go_simp
            exact hK _ _ rfl ⟨rfl, Below.refl _ _⟩
          · intro wx hb0
            have hb : Below _ _ wx := hb0
            rintro _ rfl
            rintro _ rfl
            intro K hK
            go_simp
            exact hK _ _ rfl ⟨rfl, Below.refl _ _⟩
          · intro wx hb0
            have hb : Below _ _ wx := hb0
            rintro _ rfl
            rintro _ rfl
            intro K hK
            go_simp
            exact hK _ _ rfl ⟨rfl, Below.refl _ _⟩
          · intro wx hb0
            have hb : Below _ _ wx := hb0
            rintro _ rfl
            rintro _ rfl
            intro K hK
            have zc := (hb.cell (p := ⟨w.heap.size, a, none⟩) HB1.out.lt).trans ((HB1.out.cell a).trans hpa); have zf := (Box.below HB1.out hb HB1.out.lt).free a
            go_simp
            exact hK _ _ rfl rfl
          intro w3 B3
          rintro _ rfl
          rintro _ rfl
          rintro _ rfl
          rintro _ rfl
          rintro _ rfl
          rintro _ rfl
          rintro _ rfl
          rintro _ rfl
          rintro _ rfl
          rintro _ rfl
          rintro _ rfl
          rintro _ rfl
          rintro _ rfl
          rintro _ rfl
          rintro _ rfl
          rintro _ rfl
          rintro _ rfl
          rintro _ rfl
          rintro _ rfl
          rintro _ rfl
          rintro _ rfl
          rintro -
          simp only [Act.put, List.setIfInBounds_toArray, List.set_cons_zero, List.set_cons_succ, List.toList_toArray, List.length_cons, List.length_nil, List.drop_succ_cons, List.drop_zero, List.drop_nil, Nat.zero_add, wpList]
          have HB3 : Hid (Box w3 w.heap.size 3 (vi (o.set a v1)).toArray) := Lib.hid (by
            have h1 := HB1.out.set_ a (.int .i64 v1)
            rw [via_set] at h1
            exact h1.below B3 HB1.out.lt)
          rw [hs1] at HB3
          have BW3 := (BW0.setCell (p := ⟨w.heap.size, a, none⟩) (Nat.le_refl _) (.int .i64 v1)).trans (B3.mono BW0.size)
          have BW4 := Lib.hid BW3
          clear B3 BW0 BW3
          go_wp2_with fail
          go_roundw
          case rel => exact ⟨(j : Int) - 1, j, (up o a y), (up o a y), by go_num, by omega, by omega, Lib.hid ⟨HG2.out, HN.out⟩, Lib.hid ⟨fun h => absurd h (by omega), fun _ => rfl⟩, HB3, BW4⟩
          case measure => simp [intOf] <;> omega
end Go.Proofs.Ytcbahojefglakaa
