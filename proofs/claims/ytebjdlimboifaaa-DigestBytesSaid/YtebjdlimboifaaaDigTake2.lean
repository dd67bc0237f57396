/- The walk of evergreenref05.Take. -/
import Derived.Test.YtebjdlimboifaaaDigTake
namespace Go.Proofs.Ytebjdlimboifaaa
set_option linter.unusedVariables false
set_option linter.unusedSimpArgs false
open Go.RowKit Go.Lib
attribute [local go_sem ↓] Go.wp_at_zero Go.wp_at_succ
theorem or9 (a x : Int) : IntKind.u64.wrap (IntKind.u64.wrap (a * 256) + x) = (a * 256 + x) % 18446744073709551616 := by
  rw [IntKind.wrap_u64, IntKind.wrap_u64]; omega
set_option maxHeartbeats 2000000 in
theorem rtake_any (l : List Int) (n c : Nat) (A : Option Addr) (hl : l.length = n) (hn : n ≤ 140737488351232) (hb : U8s l) (w : World) (ha : RowAt w A (vb l)) :
    Calls Try.prog 26 #[.slice A n c] w fun e w' => e = .returned (.tuple #[tkd l, .bool (tkB l)]) ∧ Below w.heap.size w w' := by
  by_cases h16 : n = 16
  · subst h16
    have HA := Lib.hid ha; have HL := Lib.hid hl
    clear ha hl hn
    go_enter Try.func26, Try.ntmps26
    go_wp2_with fail
    have BB := (Box.new (w.alloc (.cells #[.int .u64 0, .int .u64 0] 26)) 61 #[.int .u64 0, .int .u64 0])
    rw [World.size_alloc] at BB
    have BA := (Box.new w 26 #[.int .u64 0, .int .u64 0]).alloc (.cells #[.int .u64 0, .int .u64 0] 61)
    go_loopw [5, 12] (fun _ si wr => ∃ i : Nat, si = .int .i64 (i : Int) ∧ i ≤ 16 ∧ Hid (Box wr (w.heap.size + 1) 61 #[.int .u64 (wsel l i 0), .int .u64 (wsel l i 1)]) ∧ Hid (Box wr w.heap.size 26 #[.int .u64 0, .int .u64 0]) ∧ Hid (Below w.heap.size w wr)) (fun _ si _ => 16 - (intOf si).toNat)
    case atStart => exact ⟨0, rfl, by omega, Lib.hid BB, Lib.hid BA, Lib.hid (balloc (balloc (Below.refl w.heap.size w) _) _)⟩
    case round =>
      obtain ⟨i, rfl, hi, HB, HD, BW⟩ := hrel
      clear BB BA
      by_cases hlt : i < 16
      · have hil : i < l.length := by rw [HL.out]; exact hlt
        obtain ⟨ad, rfl, hadl, c1⟩ := (HA.out.below BW.out (Nat.le_refl _)).get (vb_at hil)
        obtain ⟨x, hx⟩ : ∃ x, x = l[i] := ⟨_, rfl⟩
        have hxu := hb x (by rw [hx]; exact List.getElem_mem _)
        have ST := wsel_step l HL.out i hlt x (by rw [hx]; exact List.getElem?_eq_getElem hil)
        rw [← hx] at c1
        have x0 := hxu.1; have x1 := hxu.2
        have y0 : wr.cell? ⟨w.heap.size + 1, 0, none⟩ = some (.int .u64 (wsel l i 0)) := HB.out.cell 0
        have y1 : wr.cell? ⟨w.heap.size + 1, 1, none⟩ = some (.int .u64 (wsel l i 1)) := HB.out.cell 1
        have f0 := HB.out.free 0; have f1 := HB.out.free 1
        have i0 : (0 : Int) ≤ i := by omega
        have i1 : (i : Int) < 16 := by omega
        have hsz : w.heap.size ≠ w.heap.size + 1 := by omega
        have ux : IntKind.u64.wrap x = x := by rw [IntKind.wrap_u64]; omega
        by_cases h8 : i < 8
        · have q0 : (i : Int) / 8 = 0 := by omega
          have q1 : i / 8 = 0 := by omega
          rw [q1] at ST
          have e1 := ST.2 1 (by omega) (by omega)
          have e0 := ST.1
          have s0 := (wsel_lo l hb i 0).1; have s1 := (wsel_lo l hb i 0).2
          have HE := Lib.hid e0; have HF := Lib.hid e1
          obtain ⟨a, ga⟩ : ∃ a, a = wsel l i 0 := ⟨_, rfl⟩
          obtain ⟨b, gb⟩ : ∃ b, b = wsel l i 1 := ⟨_, rfl⟩
          rw [← ga] at y0 HE HB s0 s1
          rw [← gb] at y1 HF HB
          clear ga gb ST hx hxu q1 h8 e0 e1
          go_upto_region 7 with fail
          refine region_lin (.val (fun v _ => v = .int .i64 (i : Int)) :: .val (fun v _ => v = .int .i64 0) :: .val (fun v _ => v = .int .i64 (i : Int)) :: .val (fun v _ => v = .int .i64 0) :: .val (fun v _ => v = .pointer (some ⟨w.heap.size + 1, 0, none⟩)) :: .val (fun v _ => v = .int .u64 a) :: .val (fun v _ => v = .int .u64 (IntKind.u64.wrap (a * 256))) :: .val (fun v _ => v = .slice (some ad) 16 c) :: .val (fun v _ => v = .int .i64 (i : Int)) :: .val (fun v _ => v = .pointer (some (ad.add i))) :: .val (fun v _ => v = .int .u8 x) :: .val (fun v _ => v = .int .u64 x) :: .val (fun v _ => v = .int .u64 (IntKind.u64.wrap (IntKind.u64.wrap (a * 256) + x))) :: .val (fun v _ => v = .pointer (some ⟨w.heap.size + 1, 0, none⟩)) :: [])
            ([] :: [(15, 0)] :: [] :: [(17, 2)] :: [(18, 3)] :: [(19, 4)] :: [(20, 5)] :: [] :: [] :: [(22, 7), (23, 8)] :: [(24, 9)] :: [(25, 10)] :: [(21, 6), (26, 11)] :: [(16, 1)] :: []) ((0, 0) :: (0, 0) :: (0, 0) :: (0, 0) :: (0, 0) :: (0, 0) :: (0, 0) :: (0, 0) :: (0, 0) :: (0, 0) :: (0, 0) :: (0, 0) :: (0, 0) :: (0, 0) :: []) 44 (by kernel_rfl) rfl rfl (by kernel_rfl) ⟨Stab.pure _ _ _, Stab.pure _ _ _, Stab.pure _ _ _, Stab.pure _ _ _, Stab.pure _ _ _, Stab.pure _ _ _, Stab.pure _ _ _, Stab.pure _ _ _, Stab.pure _ _ _, Stab.pure _ _ _, Stab.pure _ _ _, Stab.pure _ _ _, Stab.pure _ _ _, Stab.pure _ _ _, trivial⟩ ⟨?_, ?_, ?_, ?_, ?_, ?_, ?_, ?_, ?_, ?_, ?_, ?_, ?_, ?_, trivial⟩ ?_
          · intro wx hb
            intro K hK
            go_simp
            exact hK _ _ rfl ⟨rfl, Below.refl _ _⟩
          · intro wx hb
            rintro _ rfl
            intro K hK
            go_simp
            exact hK _ _ rfl ⟨rfl, Below.refl _ _⟩
          · intro wx hb
            intro K hK
            go_simp
            exact hK _ _ rfl ⟨rfl, Below.refl _ _⟩
          · intro wx hb
            rintro _ rfl
            intro K hK
            go_simp
            exact hK _ _ rfl ⟨rfl, Below.refl _ _⟩
          · intro wx hb
            rintro _ rfl
            intro K hK
            go_simp
            exact hK _ _ rfl ⟨rfl, Below.refl _ _⟩
          · intro wx hb
            rintro _ rfl
            intro K hK
            have z0 := hb.cell (p := ⟨w.heap.size + 1, 0, none⟩) (Box.lt HB.out); go_simp; exact hK _ _ rfl ⟨rfl, Below.refl _ _⟩
          · intro wx hb
            rintro _ rfl
            intro K hK
            go_simp
            exact hK _ _ rfl ⟨rfl, Below.refl _ _⟩
          · intro wx hb
            intro K hK
            go_simp
            exact hK _ _ rfl ⟨rfl, Below.refl _ _⟩
          · intro wx hb
            intro K hK
            go_simp
            exact hK _ _ rfl ⟨rfl, Below.refl _ _⟩
          · intro wx hb
            rintro _ rfl
            rintro _ rfl
            intro K hK
            go_simp
            exact hK _ _ rfl ⟨rfl, Below.refl _ _⟩
          · intro wx hb
            rintro _ rfl
            intro K hK
            have zz := (hb.cell (p := ad.add i) (by rw [block_add]; exact hadl)).trans c1; go_simp; exact hK _ _ rfl ⟨rfl, Below.refl _ _⟩
          · intro wx hb
            rintro _ rfl
            intro K hK
            go_simp
            exact hK _ _ rfl ⟨rfl, Below.refl _ _⟩
          · intro wx hb
            rintro _ rfl
            rintro _ rfl
            intro K hK
            go_simp
            exact hK _ _ rfl ⟨rfl, Below.refl _ _⟩
          · intro wx hb
            rintro _ rfl
            intro K hK
            go_simp
            exact hK _ _ rfl ⟨rfl, Below.refl _ _⟩
          intro w3 B3
          rintro _ rfl
          rintro _ rfl
          rintro _ rfl
          rintro _ rfl
          rintro _ rfl
          rintro _ rfl
          rintro _ rfl
          rintro _ rfl
          rintro _ rfl
          rintro _ rfl
          rintro _ rfl
          rintro _ rfl
          rintro _ rfl
          rintro _ rfl
          rintro -
          simp only [Act.put, List.setIfInBounds_toArray, List.set_cons_zero, List.set_cons_succ, List.toList_toArray, List.length_cons, List.length_nil, List.drop_succ_cons, List.drop_zero, List.drop_nil, Nat.zero_add]
          have z0 := (Box.below HB.out B3 (Box.lt HB.out)).cell 0
          have k0 := (Box.below HB.out B3 (Box.lt HB.out)).free 0
          go_wp2_with fail
          go_roundw
          case rel =>
            refine ⟨i + 1, by go_num, by omega, Lib.hid ?_, Lib.hid ((Box.below HD.out B3 (Box.lt HD.out)).far hsz _), Lib.hid ((bkeep BW.out B3).setCell (by simp) _)⟩
            have := (Box.below HB.out B3 (Box.lt HB.out)).set_ 0 (.int .u64 (IntKind.u64.wrap (IntKind.u64.wrap (a * 256) + x)))
            rw [HE.out, HF.out, ← or9 a x]
            exact this
          case measure => simp [intOf]; omega
        · have q0 : (i : Int) / 8 = 1 := by omega
          have q1 : i / 8 = 1 := by omega
          rw [q1] at ST
          have e0 := ST.2 0 (by omega) (by omega)
          have e1 := ST.1
          have s0 := (wsel_lo l hb i 1).1; have s1 := (wsel_lo l hb i 1).2
          have HE := Lib.hid e0; have HF := Lib.hid e1
          obtain ⟨a, ga⟩ : ∃ a, a = wsel l i 0 := ⟨_, rfl⟩
          obtain ⟨b, gb⟩ : ∃ b, b = wsel l i 1 := ⟨_, rfl⟩
          rw [← ga] at y0 HE HB
          rw [← gb] at y1 HF HB s0 s1
          clear ga gb ST hx hxu q1 h8 e0 e1
          go_upto_region 7 with fail
          refine region_lin (.val (fun v _ => v = .int .i64 (i : Int)) :: .val (fun v _ => v = .int .i64 1) :: .val (fun v _ => v = .int .i64 (i : Int)) :: .val (fun v _ => v = .int .i64 1) :: .val (fun v _ => v = .pointer (some ⟨w.heap.size + 1, 1, none⟩)) :: .val (fun v _ => v = .int .u64 b) :: .val (fun v _ => v = .int .u64 (IntKind.u64.wrap (b * 256))) :: .val (fun v _ => v = .slice (some ad) 16 c) :: .val (fun v _ => v = .int .i64 (i : Int)) :: .val (fun v _ => v = .pointer (some (ad.add i))) :: .val (fun v _ => v = .int .u8 x) :: .val (fun v _ => v = .int .u64 x) :: .val (fun v _ => v = .int .u64 (IntKind.u64.wrap (IntKind.u64.wrap (b * 256) + x))) :: .val (fun v _ => v = .pointer (some ⟨w.heap.size + 1, 1, none⟩)) :: [])
            ([] :: [(15, 0)] :: [] :: [(17, 2)] :: [(18, 3)] :: [(19, 4)] :: [(20, 5)] :: [] :: [] :: [(22, 7), (23, 8)] :: [(24, 9)] :: [(25, 10)] :: [(21, 6), (26, 11)] :: [(16, 1)] :: []) ((0, 0) :: (0, 0) :: (0, 0) :: (0, 0) :: (0, 0) :: (0, 0) :: (0, 0) :: (0, 0) :: (0, 0) :: (0, 0) :: (0, 0) :: (0, 0) :: (0, 0) :: (0, 0) :: []) 44 (by kernel_rfl) rfl rfl (by kernel_rfl) ⟨Stab.pure _ _ _, Stab.pure _ _ _, Stab.pure _ _ _, Stab.pure _ _ _, Stab.pure _ _ _, Stab.pure _ _ _, Stab.pure _ _ _, Stab.pure _ _ _, Stab.pure _ _ _, Stab.pure _ _ _, Stab.pure _ _ _, Stab.pure _ _ _, Stab.pure _ _ _, Stab.pure _ _ _, trivial⟩ ⟨?_, ?_, ?_, ?_, ?_, ?_, ?_, ?_, ?_, ?_, ?_, ?_, ?_, ?_, trivial⟩ ?_
          · intro wx hb
            intro K hK
            go_simp
            exact hK _ _ rfl ⟨rfl, Below.refl _ _⟩
          · intro wx hb
            rintro _ rfl
            intro K hK
            go_simp
            exact hK _ _ rfl ⟨rfl, Below.refl _ _⟩
          · intro wx hb
            intro K hK
            go_simp
            exact hK _ _ rfl ⟨rfl, Below.refl _ _⟩
          · intro wx hb
            rintro _ rfl
            intro K hK
            go_simp
            exact hK _ _ rfl ⟨rfl, Below.refl _ _⟩
          · intro wx hb
            rintro _ rfl
            intro K hK
            go_simp
            exact hK _ _ rfl ⟨rfl, Below.refl _ _⟩
          · intro wx hb
            rintro _ rfl
            intro K hK
            have z1 := hb.cell (p := ⟨w.heap.size + 1, 1, none⟩) (Box.lt HB.out); go_simp; exact hK _ _ rfl ⟨rfl, Below.refl _ _⟩
          · intro wx hb
            rintro _ rfl
            intro K hK
            go_simp
            exact hK _ _ rfl ⟨rfl, Below.refl _ _⟩
          · intro wx hb
            intro K hK
            go_simp
            exact hK _ _ rfl ⟨rfl, Below.refl _ _⟩
          · intro wx hb
            intro K hK
            go_simp
            exact hK _ _ rfl ⟨rfl, Below.refl _ _⟩
          · intro wx hb
            rintro _ rfl
            rintro _ rfl
            intro K hK
            go_simp
            exact hK _ _ rfl ⟨rfl, Below.refl _ _⟩
          · intro wx hb
            rintro _ rfl
            intro K hK
            have zz := (hb.cell (p := ad.add i) (by rw [block_add]; exact hadl)).trans c1; go_simp; exact hK _ _ rfl ⟨rfl, Below.refl _ _⟩
          · intro wx hb
            rintro _ rfl
            intro K hK
            go_simp
            exact hK _ _ rfl ⟨rfl, Below.refl _ _⟩
          · intro wx hb
            rintro _ rfl
            rintro _ rfl
            intro K hK
            go_simp
            exact hK _ _ rfl ⟨rfl, Below.refl _ _⟩
          · intro wx hb
            rintro _ rfl
            intro K hK
            go_simp
            exact hK _ _ rfl ⟨rfl, Below.refl _ _⟩
          intro w3 B3
          rintro _ rfl
          rintro _ rfl
          rintro _ rfl
          rintro _ rfl
          rintro _ rfl
          rintro _ rfl
          rintro _ rfl
          rintro _ rfl
          rintro _ rfl
          rintro _ rfl
          rintro _ rfl
          rintro _ rfl
          rintro _ rfl
          rintro _ rfl
          rintro -
          simp only [Act.put, List.setIfInBounds_toArray, List.set_cons_zero, List.set_cons_succ, List.toList_toArray, List.length_cons, List.length_nil, List.drop_succ_cons, List.drop_zero, List.drop_nil, Nat.zero_add]
          have z1 := (Box.below HB.out B3 (Box.lt HB.out)).cell 1
          have k1 := (Box.below HB.out B3 (Box.lt HB.out)).free 1
          go_wp2_with fail
          go_roundw
          case rel =>
            refine ⟨i + 1, by go_num, by omega, Lib.hid ?_, Lib.hid ((Box.below HD.out B3 (Box.lt HD.out)).far hsz _), Lib.hid ((bkeep BW.out B3).setCell (by simp) _)⟩
            have := (Box.below HB.out B3 (Box.lt HB.out)).set_ 1 (.int .u64 (IntKind.u64.wrap (IntKind.u64.wrap (b * 256) + x)))
            rw [HE.out, HF.out, ← or9 b x]
            exact this
          case measure => simp [intOf]; omega
      · obtain rfl : i = 16 := by omega
        have y0 : wr.cell? ⟨w.heap.size + 1, 0, none⟩ = some (.int .u64 (wa l)) := HB.out.cell 0
        have y1 : wr.cell? ⟨w.heap.size + 1, 1, none⟩ = some (.int .u64 (wb l)) := HB.out.cell 1
        have d0 : wr.cell? ⟨w.heap.size, 0, none⟩ = some (.int .u64 0) := HD.out.cell 0
        have d1 : wr.cell? ⟨w.heap.size, 1, none⟩ = some (.int .u64 0) := HD.out.cell 1
        have g0 := HD.out.free 0; have g1 := HD.out.free 1
        have T1 := fun h1 h2 => Lib.hid (tk_yes (l := l) HL.out h1 h2)
        have T2 := fun h => Lib.hid (tk_big (l := l) h)
        have a0 := (wsel_lo l hb 16 0).1; have b0 := (wsel_lo l hb 16 1).1
        rw [show wsel l 16 0 = wa l from rfl] at a0
        rw [show wsel l 16 1 = wb l from rfl] at b0
        have HT2 := Lib.hid T2; have HT1 := Lib.hid T1
        clear T1 T2 HB
        by_cases ha1 : wa l < 2305843009213693951
        · by_cases hb1 : wb l < 2305843009213693951
          · have p1 : ¬ 2305843009213693951 ≤ wa l := by omega
            have p2 : ¬ 2305843009213693951 ≤ wb l := by omega
            have HT := HT1.out ha1 hb1
            clear HT1 HT2 HL
            go_wp2_with fail
            refine bodyPost_ret (v := .tuple #[.agg #[.int .u64 (wa l), .int .u64 (wb l)], .bool true]) ?_ rfl ⟨by rw [tkd, HT.out]; rfl, ?_⟩
            · simp only [results, Try.results26]
              simp [go_sem, d0, d1]
            · repeat (first | (with_reducible exact BW.out) | (with_reducible refine Below.drew ?_) | (with_reducible refine Below.setCell ?_ (by simp) _))
          · have p1 : ¬ 2305843009213693951 ≤ wa l := by omega
            have p2 : 2305843009213693951 ≤ wb l := by omega
            have HT := HT2.out (fun h => hb1 h.2)
            clear HT1 HT2 HL
            go_wp2_with fail
            refine bodyPost_ret (v := .tuple #[.agg #[.int .u64 0, .int .u64 0], .bool false]) ?_ rfl ⟨by rw [tkd, HT.out]; rfl, ?_⟩
            · simp only [results, Try.results26]
              simp [go_sem, d0, d1]
            · repeat (first | (with_reducible exact BW.out) | (with_reducible refine Below.drew ?_) | (with_reducible refine Below.setCell ?_ (by simp) _))
        · have p1 : 2305843009213693951 ≤ wa l := by omega
          have HT := HT2.out (fun h => ha1 h.1)
          clear HT1 HT2 HL
          go_wp2_with fail
          refine bodyPost_ret (v := .tuple #[.agg #[.int .u64 0, .int .u64 0], .bool false]) ?_ rfl ⟨by rw [tkd, HT.out]; rfl, ?_⟩
          · simp only [results, Try.results26]
            simp [go_sem, d0, d1]
          · repeat (first | (with_reducible exact BW.out) | (with_reducible refine Below.drew ?_) | (with_reducible refine Below.setCell ?_ (by simp) _))
  · have e16 : ((n : Int) != 16) = true := by rw [bne_iff_ne]; omega
    have HT := Lib.hid (tk_short (l := l) (by omega))
    clear h16 ha hl
    go_enter Try.func26, Try.ntmps26
    go_wp2_with fail
    refine bodyPost_ret (v := .tuple #[.agg #[.int .u64 0, .int .u64 0], .bool false]) ?_ rfl ⟨by rw [tkd, HT.out]; rfl, ?_⟩
    · simp only [results, Try.results26]
      simp [go_sem]
    · repeat (first | exact Below.refl _ _ | (with_reducible refine Below.drew ?_) | (with_reducible refine Below.alloc ?_ (by first | (simp; done) | (simp; omega)) _) | (with_reducible refine Below.setCell ?_ (by first | (simp; done) | (simp; omega)) _))
end Go.Proofs.Ytebjdlimboifaaa
