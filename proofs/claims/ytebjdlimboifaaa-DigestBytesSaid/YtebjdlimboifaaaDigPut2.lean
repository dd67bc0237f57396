/- The walk of digest.Put: begun (does not build yet). -/
import Derived.Test.YtebjdlimboifaaaDigPut
import Derived.Test.YtebjdlimboifaaaRegLin
import Derived.Deep.DeepCutAuto
namespace Go.Proofs.Ytebjdlimboifaaa
set_option linter.unusedVariables false
set_option linter.unusedSimpArgs false
open Go.RowKit Go.Lib
attribute [local go_sem ↓] Go.wp_at_zero Go.wp_at_succ
theorem own_below {w w' : World} {base : Nat} {e : TypeId} {size n : Nat} {v : Value} {xs : List Value} (h : w.ownsRow base e size v n xs) (hb : Below w.heap.size w w') : w'.ownsRow base e size v n xs := by
  refine ⟨h.1, ?_⟩
  rcases h.2 with h | ⟨g, cap, cur, hv, hg, hc, hr⟩
  · exact .inl h
  · exact .inr ⟨g, cap, cur, hv, hg, (hb.block g (Box.lt (cs := cur) (t := e) hc)).trans hc, hr⟩
set_option maxHeartbeats 2000000 in
theorem put_any (a b : Int) (ha : U a) (hb : U b) (w : World) :
    Calls Try.prog 24 #[.agg #[.int .u64 a, .int .u64 b]] w fun e w' => ∃ A c, e = .returned (.slice A 16 c) ∧ RowAt w' A (vb (acc2 (red a) (red b) 2)) ∧ Below w.heap.size w w' := by
  obtain ⟨i0_, hi, hz0, hz1, hz2⟩ := info_parts5 info_u8
  have HP := Lib.hid (Box.new w 26 #[.int .u64 a, .int .u64 b])
  have HI := Lib.hid hi; have HZ := Lib.hid hz0; have HZ1 := Lib.hid hz1; have HZ2 := Lib.hid hz2
  obtain ⟨x, hx⟩ : ∃ x, x = red a := ⟨_, rfl⟩
  obtain ⟨y, hy⟩ : ∃ y, y = red b := ⟨_, rfl⟩
  have HR1 := Lib.hid (fun w => reduce_any a ha.lo ha.hi w)
  have HR2 := Lib.hid (fun w => reduce_any b hb.lo hb.hi w)
  rw [← hx] at HR1
  rw [← hy] at HR2
  have x0 : 0 ≤ x := hx ▸ red_lo _; have x1 : x < 18446744073709551616 := by have := red_hi a; omega
  have y0 : 0 ≤ y := hy ▸ red_lo _; have y1 : y < 18446744073709551616 := by have := red_hi b; omega
  rw [← hx, ← hy]
  clear hx hy ha hb hi hz0 hz1 hz2
  go_enter Try.func24, Try.ntmps24
  have mk : ∀ w : World, (Instr.makeSlice 29 (.int .i64 0) (.int .i64 16)).run Try.prog w = .ok (.slice (some ⟨w.heap.size, 0, none⟩) 0 16) (w.alloc (.cells (Array.replicate 16 (.int .u8 0)) 5)) := fun w => by kernel_rfl
  have HP2 := Lib.hid (HP.out.alloc (.cells (Array.replicate 16 (.int .u8 0)) 5))
  have BW := balloc (balloc (Below.refl w.heap.size w) (.cells #[.int .u64 a, .int .u64 b] 26)) (.cells (Array.replicate 16 (.int .u8 0)) 5)
  have ow : ((w.alloc (.cells #[.int .u64 a, .int .u64 b] 26)).alloc (.cells (Array.replicate 16 (.int .u8 0)) 5)).ownsRow w.heap.size 5 1 (.slice (some ⟨w.heap.size + 1, 0, none⟩) 0 16) 0 [] :=
    ⟨by simp, .inr ⟨w.heap.size + 1, 16, Array.replicate 16 (.int .u8 0), rfl, by omega, by have := heap_alloc_new (w.alloc (.cells #[.int .u64 a, .int .u64 b] 26)) (.cells (Array.replicate 16 (.int .u8 0)) 5); simpa using this, by omega, by simp [maxLen], by simp, by simp⟩⟩
  have HOW := Lib.hid ow
  clear ow
  go_upto_region 2 with fail
  refine region_lin (.val (fun v _ => v = .pointer (some ⟨w.heap.size, 0, none⟩)) :: .val (fun v _ => v = .int .u64 a) :: .val (fun v _ => v = .int .u64 x) :: .val (fun v _ => v = .pointer (some ⟨w.heap.size, 1, none⟩)) :: .val (fun v _ => v = .int .u64 b) :: .val (fun v _ => v = .int .u64 y) :: .val (fun v _ => v = .agg #[.int .u64 x, .int .u64 y]) :: .val (fun v _ => v = (Value.int IntKind.i64 0)) :: [])
    ([] :: [(8, 0)] :: [(9, 1)] :: [] :: [(11, 3)] :: [(12, 4)] :: [(10, 2), (13, 5)] :: [] :: []) ((0, 0) :: (0, 0) :: (0, 0) :: (0, 0) :: (0, 0) :: (0, 0) :: (0, 0) :: (0, 0) :: []) 31 (by kernel_rfl) rfl rfl (by kernel_rfl) ⟨Stab.pure _ _ _, Stab.pure _ _ _, Stab.pure _ _ _, Stab.pure _ _ _, Stab.pure _ _ _, Stab.pure _ _ _, Stab.pure _ _ _, Stab.pure _ _ _, trivial⟩ ⟨?_, ?_, ?_, ?_, ?_, ?_, ?_, ?_, trivial⟩ ?_
  · intro wx hb
    intro K hK
    go_simp
    exact hK _ _ rfl ⟨rfl, Below.refl _ _⟩
  · intro wx hb
    rintro _ rfl
    intro K hK
    have mm := Box.below (HP2.out) hb (Box.lt (HP2.out))
    have m0 : wx.cell? ⟨w.heap.size, 0, none⟩ = some (.int .u64 a) := mm.cell 0
    have m1 : wx.cell? ⟨w.heap.size, 1, none⟩ = some (.int .u64 b) := mm.cell 1
    clear mm
    go_simp
    exact hK _ _ rfl ⟨rfl, Below.refl _ _⟩
  · intro wx hb
    rintro _ rfl
    intro K hK
    go_simp
    (with_reducible refine (HR1.out _).mono ?_)
    rintro e wa ⟨rfl, rfl⟩
    exact hK _ _ rfl ⟨rfl, Below.refl _ _⟩
  · intro wx hb
    intro K hK
    go_simp
    exact hK _ _ rfl ⟨rfl, Below.refl _ _⟩
  · intro wx hb
    rintro _ rfl
    intro K hK
    have mm := Box.below (HP2.out) hb (Box.lt (HP2.out))
    have m0 : wx.cell? ⟨w.heap.size, 0, none⟩ = some (.int .u64 a) := mm.cell 0
    have m1 : wx.cell? ⟨w.heap.size, 1, none⟩ = some (.int .u64 b) := mm.cell 1
    clear mm
    go_simp
    exact hK _ _ rfl ⟨rfl, Below.refl _ _⟩
  · intro wx hb
    rintro _ rfl
    intro K hK
    go_simp
    (with_reducible refine (HR2.out _).mono ?_)
    rintro e wa ⟨rfl, rfl⟩
    exact hK _ _ rfl ⟨rfl, Below.refl _ _⟩
  · intro wx hb
    rintro _ rfl
    rintro _ rfl
    intro K hK
    go_simp
    exact hK _ _ rfl ⟨rfl, Below.refl _ _⟩
  · intro wx hb
    intro K hK
    go_simp
    exact hK _ _ rfl ⟨rfl, Below.refl _ _⟩
  intro w2 B2
  have BW := bkeep BW B2
  rintro _ rfl
  rintro _ rfl
  rintro _ rfl
  rintro _ rfl
  rintro _ rfl
  rintro _ rfl
  rintro _ rfl
  rintro _ rfl
  rintro -
  simp only [Act.put, List.setIfInBounds_toArray, List.set_cons_zero, List.set_cons_succ, List.toList_toArray, List.length_cons, List.length_nil, List.drop_succ_cons, List.drop_zero, List.drop_nil, Nat.zero_add, wpList]
  have HO : Hid (w2.ownsRow w.heap.size 5 1 (.slice (some ⟨w.heap.size + 1, 0, none⟩) 0 16) 0 (vb (acc2 x y 0))) := Lib.hid (own_below HOW.out B2)
  have HBW := Lib.hid BW
  clear B2 BW
  go_wp2_with fail
  go_loopw [3, 5, 6, 15] (fun s3 s5 s6 si wr => ∃ (i m : Nat) (A1 : Option Addr) (cc : Nat), si = .int .i64 (i : Int) ∧ i ≤ 2 ∧ s3 = .slice A1 m cc ∧ Hid (m = i * 8) ∧ Hid (wr.ownsRow w.heap.size 5 1 (.slice A1 m cc) m (vb (acc2 x y i))) ∧ Hid (Below w.heap.size w wr)) (fun _ _ _ si _ => 2 - (intOf si).toNat)
  case atStart => exact ⟨0, 0, _, 16, rfl, by omega, rfl, Lib.hid (by simp), HO, HBW⟩
  case round =>
    obtain ⟨i, m, A1, cc, rfl, hi, rfl, HM, HO, BW⟩ := hrel
    by_cases hlt : i < 2
    · have hix : ∀ w, (Instr.index 61 (.agg #[.int .u64 x, .int .u64 y]) (.int .i64 (i : Int))).run Try.prog w = .ok (.int .u64 (sel2 x y i)) w := by
        match i, hlt with
        | 0, _ => intro _; kernel_rfl
        | 1, _ => intro _; kernel_rfl
      have z0 : 0 ≤ sel2 x y i := by unfold sel2; split <;> assumption
      have z1 : sel2 x y i < 18446744073709551616 := by unfold sel2; split <;> assumption
      obtain ⟨z, hz⟩ : ∃ z, z = sel2 x y i := ⟨_, rfl⟩
      rw [← hz] at hix z0 z1
      have HZZ := Lib.hid hz
      clear hz
      have i0 : (0 : Int) ≤ i := by omega
      have i1 : (i : Int) < 2 := by omega
      go_wp2_with fail
      go_loopw [3, 6] (fun s3 s6 wr => ∃ (j m2 : Nat) (A2 : Option Addr) (c2 : Nat), s6 = .int .i64 (56 - 8 * (j : Int)) ∧ j ≤ 8 ∧ s3 = .slice A2 m2 c2 ∧ Hid (m2 = i * 8 + j) ∧ Hid (wr.ownsRow w.heap.size 5 1 (.slice A2 m2 c2) m2 (vb (acc2 x y i ++ up z j))) ∧ Hid (Below w.heap.size w wr)) (fun _ s6 _ => (intOf s6 + 8).toNat)
      case atStart => exact ⟨0, m, A1, cc, rfl, by omega, rfl, Lib.hid (by rw [HM.out]; rfl), Lib.hid (by have := HO.out; simpa [up] using this), BW⟩
      case round =>
        obtain ⟨j, m2, A2, c2, rfl, hj, rfl, HM2, HO2, BW2⟩ := hrel
        by_cases hjt : j < 8
        · obtain ⟨s, hs⟩ : ∃ s : Nat, s = 8 * (7 - j) := ⟨_, rfl⟩
          have es : (56 - 8 * (j : Int)) = (s : Int) := by omega
          have sm : s ≤ 56 := by omega
          have s0 : (0 : Int) ≤ (s : Int) := by omega
          rw [es]
          have HS := Lib.hid hs
          clear hs es
          have HA2 := Lib.hid (own_alloc HO2.out (.cells #[.int .u8 (z / 2 ^ s % 256)] 5))
          have hm2 : m2 + 1 ≤ 17 := by have := HM2.out; omega
          go_wp2_with (refine wpList_app _ (by rfl) (.tmp 22) (.tmp 27) _ rfl w.heap.size 5 i0_ _ 1 1 Try.underlying29 HI.out HZ.out HZ1.out HZ2.out rfl (by omega) (.slice A2 m2 c2) m2 (vb (acc2 x y i ++ up z j)) rfl HA2.out (some ⟨wr.heap.size, 0, none⟩) 1 1 (vb [z / 2 ^ s % 256]) rfl rfl ?row (vb_one _) (by simp only [maxLen]; omega) (by omega) ?size ?_)
          case row => exact RowAt.of_block (heap_alloc_new wr _)
          case size => have := BW2.out.size; simp; omega
          intro A3 c3 w3 own3 gr3 at3
          have B3 := Lib.hid ((balloc BW2.out _).grown gr3 (by have := BW2.out.size; simp; omega) (own_ge HO2.out))
          have HO3 : Hid (w3.ownsRow w.heap.size 5 1 (.slice A3 (m2 + 1) c3) (m2 + 1) (vb (acc2 x y i ++ up z (j + 1)))) := Lib.hid (by
            have e : vb (acc2 x y i ++ up z (j + 1)) = vb (acc2 x y i ++ up z j) ++ vb [z / 2 ^ s % 256] := by simp [up, vb, HS.out]
            rw [e]; exact own3)
          clear own3 gr3 at3
          go_wp2_with fail
          go_roundw
          case rel => exact ⟨j + 1, m2 + 1, A3, c3, congrArg (Value.int .i64) (by have := HS.out; omega), by omega, rfl, Lib.hid (by have := HM2.out; omega), HO3, B3⟩
          case measure => simp [intOf]; omega
        · obtain rfl : j = 8 := by omega
          have HM3 : Hid (m2 = (i + 1) * 8) := Lib.hid (by have := HM2.out; omega)
          have HO3 : Hid (wr.ownsRow w.heap.size 5 1 (.slice A2 m2 c2) m2 (vb (acc2 x y (i + 1)))) := Lib.hid (by
            have := HO2.out; rw [HZZ.out] at this; exact this)
          clear HO2 HO HM HM2
          go_wp2_with fail
          go_roundw
          case rel => exact ⟨i + 1, m2, A2, c2, by go_num, by omega, rfl, HM3, HO3, BW2⟩
          case measure => simp [intOf]; omega
    · obtain rfl : i = 2 := by omega
      obtain rfl : m = 16 := HM.out
      go_wp2_with fail
      go_ret
      exact ⟨A1, ⟨cc, rfl⟩, own_row _ HO.out, BW.out⟩
end Go.Proofs.Ytebjdlimboifaaa
