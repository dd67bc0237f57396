/- The walk of evergreenref11.plain. -/
import Derived.Test.YtcbahojefglakaaGrExpand
import Derived.Test.YtcbahojefglakaaRegTr
namespace Go.Proofs.Ytcbahojefglakaa
set_option linter.unusedVariables false
set_option linter.unusedSimpArgs false
open Go.RowKit Go.Lib
attribute [local go_sem ↓] Go.wp_at_zero Go.wp_at_succ
/-- a slice of bytes of the call's own -/
def OwnOut (l : List Int) (w : World) (e : Ending) (w' : World) : Prop := ∃ A c, e = .returned (.slice A l.length c) ∧ w'.ownsRow w.heap.size 5 1 (.slice A l.length c) l.length (vb l) ∧ Below w.heap.size w w'
def OwnV (b : Nat) (l : List Int) (v : Value) (w : World) : Prop := ∃ A c, v = .slice A l.length c ∧ w.ownsRow b 5 1 (.slice A l.length c) l.length (vb l)
theorem OwnV.stab {h0 b : Nat} {tys : List TypeId} {l : List Int} (h : tys = []) : Stab h0 tys (OwnV b l) := by
  subst h
  rintro v w w' hg ⟨A, c, rfl, ho⟩
  refine ⟨A, c, rfl, ho.1, ?_⟩
  rcases ho.2 with h | ⟨g, cap, cur, hv, hgb, hc, hr⟩
  · exact .inl h
  · exact .inr ⟨g, cap, cur, hv, hgb, (hg.block g (Box.lt (cs := cur) (t := 5) hc) (.inr fun _ _ _ _ => by simp)).trans hc, hr⟩
theorem own_mono {w : World} {b b' : Nat} {e : TypeId} {size n : Nat} {v : Value} {xs : List Value} (h : w.ownsRow b e size v n xs) (hb : b' ≤ b) : w.ownsRow b' e size v n xs := by
  refine ⟨h.1, ?_⟩
  rcases h.2 with h | ⟨g, cap, cur, hv, hgb, hr⟩
  · exact .inl h
  · exact .inr ⟨g, cap, cur, hv, Nat.le_trans hb hgb, hr⟩
set_option maxRecDepth 100000 in
set_option maxHeartbeats 8000000 in
theorem plain_any (g : List Rl) (n c : Nat) (A : Option Addr) (hl : g.length = n) (hn : n ≤ 1000000) (hg : gcode 0 g = 0) :
    ∀ (i : Nat) (r : Rl), g[i]? = some r → (tx g i).length ≤ 4096 → ∀ w, RowAt w A (gc g) → Calls Try.prog 47 #[.slice A n c, .int .i64 ((i : Int) + 1)] w (OwnOut (tx g i) w) := by
  intro i
  induction i using Nat.strongRecOn with
  | _ i ih =>
    intro r hr hlen w ha
    obtain ⟨i0_, hi, hz0, hz1, hz2⟩ := info_parts5 info_u8
    have HI := Lib.hid hi; have HZ := Lib.hid hz0; have HZ1 := Lib.hid hz1; have HZ2 := Lib.hid hz2
    have hil : i < n := by rw [← hl]; exact (List.getElem?_eq_some_iff.1 hr).1
    have at_ : ∀ k, k < i → ∃ r, g[k]? = some r := fun k hk => ⟨_, List.getElem?_eq_getElem (Nat.lt_trans hk (List.getElem?_eq_some_iff.1 hr).1)⟩
    obtain ⟨ad, rfl, hadl, c0, c1, c2, c3, c4⟩ := row_rl ha hr
    have HA := Lib.hid ha
    have i0 : (0 : Int) ≤ i := by omega
    have i1 : (i : Int) < (n : Int) := by omega
    have iz : (((i : Int) + 1) == 0) = false := by rw [beq_eq_false_iff_ne]; omega
    have wi : IntKind.i64.wrap (i : Int) = i := IntWalk.i64_in _ ⟨by omega, by omega⟩
    rcases rule_way' hg hr with ⟨lt, rfl⟩ | ⟨a, b, rfl, hai, hbi⟩ | ⟨a, tm, rfl, hai, htm⟩
    · have e := tx_letter hr
      rw [e]
      simp only at c0 c1 c2 c3 c4
      have HO := Lib.hid (own_lit (w.alloc (.cells #[.int .i64 1, .int .u8 lt, .int .i64 0, .int .i64 0, .int .i64 0] 46)) [lt] (by simp [maxLen]))
      have HB := Lib.hid (balloc (balloc (Below.refl w.heap.size w) (.cells #[.int .i64 1, .int .u8 lt, .int .i64 0, .int .i64 0, .int .i64 0] 46)) (.cells #[.int .u8 lt] 5))
      clear ih at_ e hr hlen ha hi hz0 hz1 hz2
      go_enter Try.func47, Try.ntmps47
      go_wp2_with fail
      go_ret
      refine ⟨some ⟨w.heap.size + 1, 0, none⟩, 1, rfl, ?_, HB.out⟩
      have h := own_mono HO.out (b' := w.heap.size) (by simp)
      rw [World.size_alloc] at h
      exact h
    · obtain ⟨ra, hra⟩ := at_ a hai
      obtain ⟨rb, hrb⟩ := at_ b hbi
      have e := tx_pair hr hai hbi
      rw [e, List.length_append] at hlen
      have HCa := Lib.hid (ih a hai ra hra (by omega))
      have HCb := Lib.hid (ih b hbi rb hrb (by omega))
      rw [e]
      simp only at c0 c1 c2 c3 c4
      obtain ⟨P, hP⟩ : ∃ P, P = tx g a := ⟨_, rfl⟩
      obtain ⟨Q, hQ⟩ : ∃ Q, Q = tx g b := ⟨_, rfl⟩
      rw [← hP] at HCa hlen ⊢
      rw [← hQ] at HCb hlen ⊢
      have BX := Box.new w 46 #[.int .i64 2, .int .u8 0, .int .i64 ((a : Int) + 1), .int .i64 ((b : Int) + 1), .int .i64 0]
      have HBW := Lib.hid (balloc (Below.refl w.heap.size w) (.cells #[.int .i64 2, .int .u8 0, .int .i64 ((a : Int) + 1), .int .i64 ((b : Int) + 1), .int .i64 0] 46))
      have BW := HBW.out
      clear ih at_ e hr hra hrb ha hi hz0 hz1 hz2 hP hQ
      go_enter Try.func47, Try.ntmps47
      go_upto_region 8 with fail
      refine Rt.region_lin (.val (fun v _ => v = .slice (some ad) n c) :: .val (fun v _ => v = .pointer (some ⟨w.heap.size, 2, none⟩)) :: .val (fun v _ => v = .int .i64 ((a : Int) + 1)) :: .val (OwnV w.heap.size P) :: .val (fun v _ => v = .slice (some ad) n c) :: .val (fun v _ => v = .pointer (some ⟨w.heap.size, 3, none⟩)) :: .val (fun v _ => v = .int .i64 ((b : Int) + 1)) :: .val (OwnV w.heap.size Q) :: [])
        ([] :: [] :: [(26, 1)] :: [(25, 0), (27, 2)] :: [] :: [] :: [(30, 5)] :: [(29, 4), (31, 6)] :: []) ((0, 0) :: (0, 0) :: (0, 0) :: (0, 0) :: (0, 0) :: (0, 0) :: (0, 0) :: (0, 0) :: []) 48 (by kernel_rfl) rfl rfl (by kernel_rfl) ⟨Stab.pure _ _ _, Stab.pure _ _ _, Stab.pure _ _ _, (OwnV.stab rfl), Stab.pure _ _ _, Stab.pure _ _ _, Stab.pure _ _ _, (OwnV.stab rfl), trivial⟩ ⟨?_, ?_, ?_, ?_, ?_, ?_, ?_, ?_, trivial⟩ ?_
      · intro wx hb
        intro K hK
        go_simp
        exact hK _ _ rfl ⟨rfl, Below.refl _ _⟩
      · intro wx hb
        intro K hK
        go_simp
        exact hK _ _ rfl ⟨rfl, Below.refl _ _⟩
      · intro wx hb
        rintro _ rfl
        intro K hK
        have mm := Box.below (BX) hb (Box.lt (BX))
        have m0 : wx.cell? ⟨w.heap.size, 0, none⟩ = some (.int .i64 2) := mm.cell 0
        have m1 : wx.cell? ⟨w.heap.size, 1, none⟩ = some (.int .u8 0) := mm.cell 1
        have m2 : wx.cell? ⟨w.heap.size, 2, none⟩ = some (.int .i64 ((a : Int) + 1)) := mm.cell 2
        have m3 : wx.cell? ⟨w.heap.size, 3, none⟩ = some (.int .i64 ((b : Int) + 1)) := mm.cell 3
        have m4 : wx.cell? ⟨w.heap.size, 4, none⟩ = some (.int .i64 0) := mm.cell 4
        clear mm
        go_simp
        exact hK _ _ rfl ⟨rfl, Below.refl _ _⟩
      · intro wx hb
        rintro _ rfl
        rintro _ rfl
        intro K hK
        have ra := HA.out.below (bkeep HBW.out hb) (Nat.le_refl _); have zs := (bkeep HBW.out hb).size; go_simp; (with_reducible refine (HCa.out _ ra).mono ?_); rintro e wa ⟨A9, c9, rfl, R9, B9⟩; exact hK _ _ rfl ⟨⟨A9, c9, rfl, own_mono R9 zs⟩, B9⟩
      · intro wx hb
        intro K hK
        go_simp
        exact hK _ _ rfl ⟨rfl, Below.refl _ _⟩
      · intro wx hb
        intro K hK
        go_simp
        exact hK _ _ rfl ⟨rfl, Below.refl _ _⟩
      · intro wx hb
        rintro _ rfl
        intro K hK
        have mm := Box.below (BX) hb (Box.lt (BX))
        have m0 : wx.cell? ⟨w.heap.size, 0, none⟩ = some (.int .i64 2) := mm.cell 0
        have m1 : wx.cell? ⟨w.heap.size, 1, none⟩ = some (.int .u8 0) := mm.cell 1
        have m2 : wx.cell? ⟨w.heap.size, 2, none⟩ = some (.int .i64 ((a : Int) + 1)) := mm.cell 2
        have m3 : wx.cell? ⟨w.heap.size, 3, none⟩ = some (.int .i64 ((b : Int) + 1)) := mm.cell 3
        have m4 : wx.cell? ⟨w.heap.size, 4, none⟩ = some (.int .i64 0) := mm.cell 4
        clear mm
        go_simp
        exact hK _ _ rfl ⟨rfl, Below.refl _ _⟩
      · intro wx hb
        rintro _ rfl
        rintro _ rfl
        intro K hK
        have ra := HA.out.below (bkeep HBW.out hb) (Nat.le_refl _); have zs := (bkeep HBW.out hb).size; go_simp; (with_reducible refine (HCb.out _ ra).mono ?_); rintro e wa ⟨A9, c9, rfl, R9, B9⟩; exact hK _ _ rfl ⟨⟨A9, c9, rfl, own_mono R9 zs⟩, B9⟩
      intro w3 B3
      have BW := bkeep BW B3
      rintro _ rfl
      rintro _ rfl
      rintro _ rfl
      intro v28 h28
      rintro _ rfl
      rintro _ rfl
      rintro _ rfl
      intro v32 h32
      rintro -
      simp only [Act.put, List.setIfInBounds_toArray, List.set_cons_zero, List.set_cons_succ, List.toList_toArray, List.length_cons, List.length_nil, List.drop_succ_cons, List.drop_zero, List.drop_nil, Nat.zero_add]
      obtain ⟨A1, k1, rfl, O1⟩ := h28
      obtain ⟨A2, k2, rfl, O2⟩ := h32
      have HO1 := Lib.hid O1
      have HR2 := Lib.hid (own_row _ O2)
      have HW3 := Lib.hid BW
      clear O1 O2 B3 BW BX
      go_wp2_with (refine wpList_app _ (by rfl) (.tmp 28) (.tmp 32) _ rfl w.heap.size 5 i0_ _ 1 1 Try.underlying27 HI.out HZ.out HZ1.out HZ2.out rfl (by omega) (.slice A1 P.length k1) P.length (vb P) rfl HO1.out A2 Q.length k2 (vb Q) rfl (by simp [vb]) HR2.out (vb_one _) (by simp only [maxLen]; omega) (by omega) ?size ?_)
      case size => exact HW3.out.size
      intro A3 k3 w4 own4 gr4 at4
      have B4 := Lib.hid (HW3.out.grown gr4 HW3.out.size (own_ge HO1.out))
      rw [← vb_app] at own4
      have HO4 := Lib.hid own4
      clear own4 gr4 at4
      go_wp2_with fail
      go_ret
      have ho := HO4.out
      rw [← List.length_append] at ho
      exact ⟨A3, k3, by rw [List.length_append]; rfl, ho, B4.out⟩
    · obtain ⟨ra, hra⟩ := at_ a hai
      have e := tx_power hr hai
      have hpos := tx_pos hg a ra hra
      obtain ⟨T, rfl⟩ := Int.eq_ofNat_of_zero_le (by omega : 0 ≤ tm)
      rw [e, List.length_flatten, List.map_replicate, List.sum_replicate_nat, Int.toNat_natCast] at hlen
      have hT1 : T * 1 ≤ T * (tx g a).length := Nat.mul_le_mul_left _ hpos
      have hT4 : (T : Int) ≤ 4096 := by omega
      have hT2 : 1 * (tx g a).length ≤ T * (tx g a).length := Nat.mul_le_mul_right _ (by omega)
      have HCa := Lib.hid (ih a hai ra hra (by omega))
      rw [e, Int.toNat_natCast]
      simp only at c0 c1 c2 c3 c4
      obtain ⟨P, hP⟩ : ∃ P, P = tx g a := ⟨_, rfl⟩
      rw [← hP] at HCa hlen hT2 ⊢
      have HLEN := Lib.hid hlen
      have hpl : P.length ≤ 4096 := by omega
      have BX := Lib.hid (Box.new w 46 #[.int .i64 3, .int .u8 0, .int .i64 ((a : Int) + 1), .int .i64 0, .int .i64 (T : Int)])
      have BW := Lib.hid (balloc (Below.refl w.heap.size w) (.cells #[.int .i64 3, .int .u8 0, .int .i64 ((a : Int) + 1), .int .i64 0, .int .i64 (T : Int)] 46))
      have HRA := Lib.hid (ha.below BW.out (Nat.le_refl _))
      clear ih at_ e hr hra ha hi hz0 hz1 hz2 hP hpos hlen hT1 hT2 htm
      go_enter Try.func47, Try.ntmps47
      go_wp2_with fail
      (with_reducible refine (HCa.out _ HRA.out).mono ?_)
      rintro e w1 ⟨A1, k1, rfl, O1, B1⟩
      have BW1 := Lib.hid (bkeep BW.out B1)
      have BX1 := Lib.hid (BX.out.below B1 BX.out.lt)
      have HR1 := Lib.hid (own_row _ O1)
      clear B1 O1
      go_wp2_with fail
      go_loopw [7, 8] (fun so si wr => ∃ (j m : Nat) (A2 : Option Addr) (k2 : Nat), si = .int .i64 (j : Int) ∧ j ≤ T ∧ so = .slice A2 m k2 ∧ Hid (m = j * P.length) ∧ Hid (wr.ownsRow w1.heap.size 5 1 (.slice A2 m k2) m (vb (List.replicate j P).flatten)) ∧ Hid (Below w1.heap.size w1 wr)) (fun _ si _ => T - (intOf si).toNat)
      case atStart => exact ⟨0, 0, none, 0, rfl, by omega, rfl, Lib.hid (by simp), Lib.hid ⟨by simp [vb], .inl ⟨rfl, rfl⟩⟩, Lib.hid (Below.refl _ _)⟩
      case round =>
        obtain ⟨j, m, A2, k2, rfl, hj, rfl, HM, HO, BR⟩ := hrel
        have q4 : wr.cell? ⟨w.heap.size, 4, none⟩ = some (.int .i64 (T : Int)) := (BX1.out.below BR.out BX1.out.lt).cell 4
        by_cases hlt : j < T
        · have jT : (j : Int) < T := by omega
          have hm2 : m + P.length ≤ 4096 := by
            have h1 : (j + 1) * P.length ≤ T * P.length := Nat.mul_le_mul_right _ hlt
            have h2 : (j + 1) * P.length = m + P.length := by rw [Nat.succ_mul, HM.out]
            have := HLEN.out; omega
          have HM2 : Hid (m + P.length = (j + 1) * P.length) := Lib.hid (by rw [Nat.succ_mul, HM.out])
          have HRP := Lib.hid (HR1.out.below BR.out (Nat.le_refl _))
          go_wp2_with (refine wpList_app _ (by rfl) (.tmp 44) (.tmp 45) _ rfl w1.heap.size 5 i0_ _ 1 1 Try.underlying27 HI.out HZ.out HZ1.out HZ2.out rfl (by omega) (.slice A2 m k2) m (vb (List.replicate j P).flatten) rfl HO.out A1 P.length k1 (vb P) rfl (by simp [vb]) HRP.out (vb_one _) (by simp only [maxLen]; omega) (by omega) ?size ?_)
          case size => exact BR.out.size
          intro A3 k3 w4 own4 gr4 at4
          have B4 := Lib.hid (BR.out.grown gr4 BR.out.size (own_ge HO.out))
          have HO4 : Hid (w4.ownsRow w1.heap.size 5 1 (.slice A3 (m + P.length) k3) (m + P.length) (vb (List.replicate (j + 1) P).flatten)) := Lib.hid (by
            rw [List.replicate_succ', List.flatten_append, List.flatten_cons, List.flatten_nil, List.append_nil, vb_app]; exact own4)
          clear own4 gr4 at4
          go_wp2_with fail
          go_roundw
          case rel => exact ⟨j + 1, m + P.length, A3, k3, by go_num, by omega, rfl, HM2, HO4, B4⟩
          case measure => simp [intOf]; omega
        · obtain rfl : j = T := by omega
          have jT : ¬ (j : Int) < j := by omega
          have HLL : Hid ((List.replicate j P).flatten.length = m) := Lib.hid (by rw [List.length_flatten, List.map_replicate, List.sum_replicate_nat, HM.out])
          go_wp2_with fail
          go_ret
          exact ⟨A2, k2, by rw [HLL.out]; rfl, by rw [HLL.out]; exact own_mono HO.out BW1.out.size, BW1.out.trans (BR.out.mono BW1.out.size)⟩
end Go.Proofs.Ytcbahojefglakaa
