/- The walks of digest.Take and evergreenref05.Take. -/
import Derived.Test.YtebjdlimboifaaaDigPut2
import Derived.Laws.BitsAllLaws
namespace Go.Proofs.Ytebjdlimboifaaa
set_option linter.unusedVariables false
set_option linter.unusedSimpArgs false
open Go.RowKit Go.Lib
attribute [local go_sem ↓] Go.wp_at_zero Go.wp_at_succ
/-- word number q behind i bytes -/
def wsel (l : List Int) (i q : Nat) : Int := wd (((l.take i).drop (8 * q)).take 8)
theorem wsel_rows (l : List Int) (hl : l.length = 16) (i : Nat) (hi : i < 16) (x : Int) (hx : l[i]? = some x) :
    ((l.take (i + 1)).drop (8 * (i / 8))).take 8 = ((l.take i).drop (8 * (i / 8))).take 8 ++ [x] ∧ ∀ r, r < 2 → r ≠ i / 8 → ((l.take (i + 1)).drop (8 * r)).take 8 = ((l.take i).drop (8 * r)).take 8 := by
  match l, hl with
  | [b0, b1, b2, b3, b4, b5, b6, b7, b8, b9, b10, b11, b12, b13, b14, b15], _ =>
    have hc : i = 0 ∨ i = 1 ∨ i = 2 ∨ i = 3 ∨ i = 4 ∨ i = 5 ∨ i = 6 ∨ i = 7 ∨ i = 8 ∨ i = 9 ∨ i = 10 ∨ i = 11 ∨ i = 12 ∨ i = 13 ∨ i = 14 ∨ i = 15 := by omega
    rcases hc with rfl | rfl | rfl | rfl | rfl | rfl | rfl | rfl | rfl | rfl | rfl | rfl | rfl | rfl | rfl | rfl
    all_goals
      simp only [List.getElem?_cons_zero, List.getElem?_cons_succ, Option.some.injEq] at hx
      subst hx
      refine ⟨rfl, fun r hr hne => ?_⟩
      have : r = 0 ∨ r = 1 := by omega
      rcases this with rfl | rfl <;> first | rfl | (exfalso; omega)
theorem wsel_step (l : List Int) (hl : l.length = 16) (i : Nat) (hi : i < 16) (x : Int) (hx : l[i]? = some x) :
    wsel l (i + 1) (i / 8) = (wsel l i (i / 8) * 256 + x) % 18446744073709551616 ∧ ∀ r, r < 2 → r ≠ i / 8 → wsel l (i + 1) r = wsel l i r := by
  obtain ⟨h1, h2⟩ := wsel_rows l hl i hi x hx
  exact ⟨by unfold wsel; rw [h1, wd_app], fun r hr hn => by unfold wsel; rw [h2 r hr hn]⟩
theorem wsel_lo (l : List Int) (h : U8s l) (i q : Nat) : 0 ≤ wsel l i q ∧ wsel l i q < 18446744073709551616 :=
  wd_lo _ fun x hx => h x (List.mem_of_mem_take (List.mem_of_mem_drop (List.mem_of_mem_take hx)))
def wa (l : List Int) : Int := wsel l 16 0
def wb (l : List Int) : Int := wsel l 16 1
/-- are these the bytes of a digest? -/
def tkB (l : List Int) : Bool := l.length == 16 && decide (wa l < 2305843009213693951) && decide (wb l < 2305843009213693951)
def tkd (l : List Int) : Value := if tkB l then .agg #[.int .u64 (wa l), .int .u64 (wb l)] else .agg #[.int .u64 0, .int .u64 0]
def tke (l : List Int) : Value := if tkB l then .nilIface else .iface 48 (.int .i64 4)
theorem tk_short {l : List Int} (h : l.length ≠ 16) : tkB l = false := by
  have : (l.length == 16) = false := beq_eq_false_iff_ne.2 h
  simp [tkB, this]
theorem tk_big {l : List Int} (h : ¬ (wa l < 2305843009213693951 ∧ wb l < 2305843009213693951)) : tkB l = false := by
  by_cases h1 : wa l < 2305843009213693951 <;> by_cases h2 : wb l < 2305843009213693951
  · exact absurd ⟨h1, h2⟩ h
  all_goals simp [tkB, h1, h2]
theorem tk_yes {l : List Int} (h0 : l.length = 16) (h1 : wa l < 2305843009213693951) (h2 : wb l < 2305843009213693951) : tkB l = true := by
  simp [tkB, h0, h1, h2]
theorem vb_at {l : List Int} {i : Nat} (h : i < l.length) : (vb l)[i]? = some (.int .u8 l[i]) := by simp [vb, h]
theorem or8 (a x : Int) (h : 0 ≤ a) (h0 : 0 ≤ x) (h1 : x ≤ 255) : bits .or .u64 (IntKind.u64.wrap (a * 256)) x = (a * 256 + x) % 18446744073709551616 := by
  rw [IntKind.wrap_u64, u64_or _ _ (by omega) (by omega) h0 (by omega), nat_join 8 _ _ (by omega) (by omega)]
  omega
set_option maxHeartbeats 2000000 in
theorem take_any (l : List Int) (n c : Nat) (A : Option Addr) (hl : l.length = n) (hn : n ≤ 140737488351232) (hb : U8s l) (w : World) (ha : RowAt w A (vb l)) :
    Calls Try.prog 25 #[.slice A n c] w fun e w' => e = .returned (.tuple #[tkd l, tke l]) ∧ Below w.heap.size w w' := by
  by_cases h16 : n = 16
  · subst h16
    have HA := Lib.hid ha; have HL := Lib.hid hl
    clear ha hl hn
    go_enter Try.func25, Try.ntmps25
    go_wp2_with fail
    have BB := (Box.new (w.alloc (.cells #[.int .u64 0, .int .u64 0] 26)) 61 #[.int .u64 0, .int .u64 0])
    rw [World.size_alloc] at BB
    have BA := (Box.new w 26 #[.int .u64 0, .int .u64 0]).alloc (.cells #[.int .u64 0, .int .u64 0] 61)
    go_loopw [5, 6, 14] (fun _ _ si wr => ∃ i : Nat, si = .int .i64 (i : Int) ∧ i ≤ 16 ∧ Hid (Box wr (w.heap.size + 1) 61 #[.int .u64 (wsel l i 0), .int .u64 (wsel l i 1)]) ∧ Hid (Box wr w.heap.size 26 #[.int .u64 0, .int .u64 0]) ∧ Hid (Below w.heap.size w wr)) (fun _ _ si _ => 16 - (intOf si).toNat)
    case atStart => exact ⟨0, rfl, by omega, Lib.hid BB, Lib.hid BA, Lib.hid (balloc (balloc (Below.refl w.heap.size w) _) _)⟩
    case round =>
      obtain ⟨i, rfl, hi, HB, HD, BW⟩ := hrel
      clear BB BA
      by_cases hlt : i < 16
      · have hil : i < l.length := by rw [HL.out]; exact hlt
        obtain ⟨ad, rfl, _, c1⟩ := (HA.out.below BW.out (Nat.le_refl _)).get (vb_at hil)
        obtain ⟨x, hx⟩ : ∃ x, x = l[i] := ⟨_, rfl⟩
        have hxu := hb x (by rw [hx]; exact List.getElem_mem _)
        have ST := wsel_step l HL.out i hlt x (by rw [hx]; exact List.getElem?_eq_getElem hil)
        rw [← hx] at c1
        have x0 := hxu.1; have x1 := hxu.2
        have y0 : wr.cell? ⟨w.heap.size + 1, 0, none⟩ = some (.int .u64 (wsel l i 0)) := HB.out.cell 0
        have y1 : wr.cell? ⟨w.heap.size + 1, 1, none⟩ = some (.int .u64 (wsel l i 1)) := HB.out.cell 1
        have f0 := HB.out.free 0; have f1 := HB.out.free 1
        have i0 : (0 : Int) ≤ i := by omega
        have i1 : (i : Int) < 16 := by omega
        have hsz : w.heap.size ≠ w.heap.size + 1 := by omega
        by_cases h8 : i < 8
        · have q0 : (i : Int) / 8 = 0 := by omega
          have q1 : i / 8 = 0 := by omega
          rw [q1] at ST
          have e1 := ST.2 1 (by omega) (by omega)
          have e0 := ST.1
          have s0 := (wsel_lo l hb i 0).1; have s1 := (wsel_lo l hb i 0).2
          have HE := Lib.hid e0; have HF := Lib.hid e1
          obtain ⟨a, ga⟩ : ∃ a, a = wsel l i 0 := ⟨_, rfl⟩
          obtain ⟨b, gb⟩ : ∃ b, b = wsel l i 1 := ⟨_, rfl⟩
          rw [← ga] at y0 HE HB s0 s1
          rw [← gb] at y1 HF HB
          clear ga gb ST hx hxu q1 h8 e0 e1
          go_wp2_with fail
          go_roundw
          case rel =>
            refine ⟨i + 1, by go_num, by omega, Lib.hid ?_, Lib.hid (HD.out.far hsz _), Lib.hid (BW.out.setCell (by simp) _)⟩
            have := HB.out.set_ 0 (.int .u64 (bits BinOp.or IntKind.u64 (IntKind.u64.wrap (a * 256)) x))
            rw [HE.out, HF.out, ← or8 a x s0 x0 x1]
            exact this
          case measure => simp [intOf]; omega
        · have q0 : (i : Int) / 8 = 1 := by omega
          have q1 : i / 8 = 1 := by omega
          rw [q1] at ST
          have e0 := ST.2 0 (by omega) (by omega)
          have e1 := ST.1
          have s0 := (wsel_lo l hb i 1).1; have s1 := (wsel_lo l hb i 1).2
          have HE := Lib.hid e0; have HF := Lib.hid e1
          obtain ⟨a, ga⟩ : ∃ a, a = wsel l i 0 := ⟨_, rfl⟩
          obtain ⟨b, gb⟩ : ∃ b, b = wsel l i 1 := ⟨_, rfl⟩
          rw [← ga] at y0 HE HB
          rw [← gb] at y1 HF HB s0 s1
          clear ga gb ST hx hxu q1 h8 e0 e1
          go_wp2_with fail
          go_roundw
          case rel =>
            refine ⟨i + 1, by go_num, by omega, Lib.hid ?_, Lib.hid (HD.out.far hsz _), Lib.hid (BW.out.setCell (by simp) _)⟩
            have := HB.out.set_ 1 (.int .u64 (bits BinOp.or IntKind.u64 (IntKind.u64.wrap (b * 256)) x))
            rw [HE.out, HF.out, ← or8 b x s0 x0 x1]
            exact this
          case measure => simp [intOf]; omega
      · obtain rfl : i = 16 := by omega
        have y0 : wr.cell? ⟨w.heap.size + 1, 0, none⟩ = some (.int .u64 (wa l)) := HB.out.cell 0
        have y1 : wr.cell? ⟨w.heap.size + 1, 1, none⟩ = some (.int .u64 (wb l)) := HB.out.cell 1
        have d0 : wr.cell? ⟨w.heap.size, 0, none⟩ = some (.int .u64 0) := HD.out.cell 0
        have d1 : wr.cell? ⟨w.heap.size, 1, none⟩ = some (.int .u64 0) := HD.out.cell 1
        have g0 := HD.out.free 0; have g1 := HD.out.free 1
        have T1 := fun h1 h2 => Lib.hid (tk_yes (l := l) HL.out h1 h2)
        have T2 := fun h => Lib.hid (tk_big (l := l) h)
        have a0 := (wsel_lo l hb 16 0).1; have b0 := (wsel_lo l hb 16 1).1
        rw [show wsel l 16 0 = wa l from rfl] at a0
        rw [show wsel l 16 1 = wb l from rfl] at b0
        have HT2 := Lib.hid T2; have HT1 := Lib.hid T1
        clear T1 T2 HB
        by_cases ha1 : wa l < 2305843009213693951
        · by_cases hb1 : wb l < 2305843009213693951
          · have p1 : ¬ 2305843009213693951 ≤ wa l := by omega
            have p2 : ¬ 2305843009213693951 ≤ wb l := by omega
            have HT := HT1.out ha1 hb1
            clear HT1 HT2 HL
            go_wp2_with fail
            refine bodyPost_ret (v := .tuple #[.agg #[.int .u64 (wa l), .int .u64 (wb l)], .nilIface]) ?_ rfl ⟨by rw [tkd, tke, HT.out]; rfl, ?_⟩
            · simp only [results, Try.results25]
              simp [go_sem, d0, d1]
            · repeat (first | (with_reducible exact BW.out) | (with_reducible refine Below.drew ?_) | (with_reducible refine Below.setCell ?_ (by simp) _))
          · have p1 : ¬ 2305843009213693951 ≤ wa l := by omega
            have p2 : 2305843009213693951 ≤ wb l := by omega
            have HT := HT2.out (fun h => hb1 h.2)
            clear HT1 HT2 HL
            go_wp2_with fail
            refine bodyPost_ret (v := .tuple #[.agg #[.int .u64 0, .int .u64 0], .iface 48 (.int .i64 4)]) ?_ rfl ⟨by rw [tkd, tke, HT.out]; rfl, ?_⟩
            · simp only [results, Try.results25]
              simp [go_sem, d0, d1]
            · repeat (first | (with_reducible exact BW.out) | (with_reducible refine Below.drew ?_) | (with_reducible refine Below.setCell ?_ (by simp) _))
        · have p1 : 2305843009213693951 ≤ wa l := by omega
          have HT := HT2.out (fun h => ha1 h.1)
          clear HT1 HT2 HL
          go_wp2_with fail
          refine bodyPost_ret (v := .tuple #[.agg #[.int .u64 0, .int .u64 0], .iface 48 (.int .i64 4)]) ?_ rfl ⟨by rw [tkd, tke, HT.out]; rfl, ?_⟩
          · simp only [results, Try.results25]
            simp [go_sem, d0, d1]
          · repeat (first | (with_reducible exact BW.out) | (with_reducible refine Below.drew ?_) | (with_reducible refine Below.setCell ?_ (by simp) _))
  · have e16 : ((n : Int) != 16) = true := by rw [bne_iff_ne]; omega
    have HT := Lib.hid (tk_short (l := l) (by omega))
    clear h16 ha hl
    go_enter Try.func25, Try.ntmps25
    go_wp2_with fail
    refine bodyPost_ret (v := .tuple #[.agg #[.int .u64 0, .int .u64 0], .iface 48 (.int .i64 4)]) ?_ rfl ⟨by rw [tkd, tke, HT.out]; rfl, ?_⟩
    · simp only [results, Try.results25]
      simp [go_sem]
    · repeat (first | exact Below.refl _ _ | (with_reducible refine Below.drew ?_) | (with_reducible refine Below.alloc ?_ (by first | (simp; done) | (simp; omega)) _) | (with_reducible refine Below.setCell ?_ (by first | (simp; done) | (simp; omega)) _))
end Go.Proofs.Ytebjdlimboifaaa
