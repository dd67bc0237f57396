/- The law WeightCopies. -/
import Derived.Test.YtbapmolpfdiknaaWgtPow2
import Derived.Test.YtbapmolpfdiknaaWgtLawOf
import Derived.Test.YtbapmolpfdiknaaAppend
namespace Go.Proofs.Ytbapmolpfdiknaa
set_option linter.unusedVariables false
set_option linter.unusedSimpArgs false
open Go.RowKit Go.Lib
attribute [local go_sem ↓] Go.wp_at_zero Go.wp_at_succ
theorem info_u8 : (Try.prog.info? 5).map (fun i => (i.zero, i.size, i.bytes)) = some (some (.int .u8 0), 1, 1) := by kernel_rfl
theorem info_parts6 {o : Option TypeInfo} {z : Value} {s b : Nat} (h : o.map (fun i => (i.zero, i.size, i.bytes)) = some (some z, s, b)) : ∃ i, o = some i ∧ i.zero = some z ∧ i.size = s ∧ i.bytes = b := by
  cases o with
  | none => cases h
  | some i =>
    simp only [Option.map_some, Option.some.injEq, Prod.mk.injEq] at h
    exact ⟨i, rfl, h.1, h.2.1, h.2.2⟩
theorem vb_one (l : List Int) : ∀ u ∈ vb l, u.oneCell' = true := by
  intro u hu
  simp only [vb, List.mem_map] at hu
  obtain ⟨x, _, rfl⟩ := hu
  rfl
theorem own_ge {w : World} {base : Nat} {e : TypeId} {size n : Nat} {v : Value} {xs : List Value} (h : w.ownsRow base e size v n xs) : ∀ k, v.ownBlock = some k → base ≤ k := by
  rcases h.2 with ⟨rfl, _⟩ | ⟨g, cap, cur, rfl, hg, _⟩
  · intro k hk; simp [Value.ownBlock] at hk
  · intro k hk; simp [Value.ownBlock] at hk; omega
theorem rep_len6 (l : List Int) (k : Nat) : (rep l k).length = k * l.length := by
  induction k with
  | zero => simp [rep]
  | succ k ih => simp [rep, ih, Nat.succ_mul]
theorem rep_u8s (l : List Int) (h : U8s l) (k : Nat) : U8s (rep l k) := by
  induction k with
  | zero => intro x hx; simp [rep] at hx
  | succ k ih =>
    intro x hx
    simp only [rep, List.mem_append] at hx
    rcases hx with hx | hx
    · exact ih x hx
    · exact h x hx
set_option maxHeartbeats 2000000 in
theorem copies_out (n c : Nat) (A : Option Addr) (hn : n ≤ 140737488351232) (k : Int) (k0 : -9223372036854775808 ≤ k) (k1 : k ≤ 9223372036854775807) (h : k < 0 ∨ 200 < k ∨ 5000 < (n : Int) * k ∨ 5000 < n) (w : World) :
    Calls Try.prog 9 #[.slice A n c, .int .i64 k] w fun e w' => e = .returned (.bool true) ∧ Below w.heap.size w w' := by
  by_cases h1 : k < 0
  · clear h
    go_enter Try.func9, Try.ntmps9
    go_wp2_with fail
    go_ret
    exact ⟨rfl, Below.refl _ _⟩
  by_cases h2 : 200 < k
  · clear h
    go_enter Try.func9, Try.ntmps9
    go_wp2_with fail
    go_ret
    exact ⟨rfl, Below.refl _ _⟩
  have m0 : 0 ≤ (n : Int) * k := Int.mul_nonneg (by omega) (by omega)
  have m1 : (n : Int) * k ≤ n * 200 := Int.mul_le_mul_of_nonneg_left (by omega) (by omega)
  have wz := IntWalk.i64_in ((n : Int) * k) ⟨by omega, by omega⟩
  have c2 : ¬ 200 < k := h2
  by_cases h3 : 5000 < (n : Int) * k
  · clear h
    go_enter Try.func9, Try.ntmps9
    go_wp2_with fail
    go_ret
    exact ⟨rfl, Below.refl _ _⟩
  · have h4 : 5000 < (n : Int) := by omega
    clear h
    go_enter Try.func9, Try.ntmps9
    go_wp2_with fail
    go_ret
    exact ⟨rfl, Below.refl _ _⟩
set_option maxHeartbeats 8000000 in
theorem copies_in (l : List Int) (n c : Nat) (A : Option Addr) (hl : l.length = n) (hn : n ≤ 5000) (K : Nat) (k1 : K ≤ 200) (hk : K * n ≤ 5000) (x y : Wt)
    (HW : Hid (∀ w, RowAt w A (vb l) → Calls Try.prog 14 #[.slice A n c] w fun e w' => e = .returned (.agg #[.int .i64 x.n, .int .i64 x.l, .int .i64 x.h, .int .i64 x.t, .int .u64 x.v, .int .u64 x.s]) ∧ Below w.heap.size w w'))
    (HV2 : Hid (∀ (m c1 : Nat) (A1 : Option Addr) w, m = K * n → RowAt w A1 (vb (rep l K)) → Calls Try.prog 14 #[.slice A1 m c1] w fun e w' => e = .returned (.agg #[.int .i64 y.n, .int .i64 y.l, .int .i64 y.h, .int .i64 y.t, .int .u64 y.v, .int .u64 y.s]) ∧ Below w.heap.size w w'))
    (HR : Hid (CR x K y .nilIface)) (w : World) (ha : RowAt w A (vb l)) :
    Calls Try.prog 9 #[.slice A n c, .int .i64 (K : Int)] w fun e w' => e = .returned (.bool true) ∧ Below w.heap.size w w' := by
  obtain ⟨i0, hi, hz0, hz1, hz2⟩ := info_parts6 info_u8
  have hvl : (vb l).length = n * 1 := by rw [Nat.mul_one]; simp [vb, hl]
  have HV := Lib.hid hvl
  have HA := Lib.hid ha
  have HI := Lib.hid hi; have HZ := Lib.hid hz0; have HZ1 := Lib.hid hz1; have HZ2 := Lib.hid hz2
  have hk' : (n : Int) * (K : Int) ≤ 5000 := by rw [← Int.natCast_mul, Nat.mul_comm]; omega
  have m0 : 0 ≤ (n : Int) * (K : Int) := Int.mul_nonneg (by omega) (by omega)
  have wz := IntWalk.i64_in ((n : Int) * (K : Int)) ⟨by omega, by omega⟩
  have HK := Lib.hid hk
  have g1 : ¬ (K : Int) < 0 := by omega
  have g2 : ¬ 200 < (K : Int) := by omega
  have g3 : ¬ 5000 < (n : Int) * (K : Int) := by omega
  have g4 : ¬ 5000 < (n : Int) := by omega
  clear hvl ha hl hi hz0 hz1 hz2 hk
  go_enter Try.func9, Try.ntmps9
  go_wp2_with fail
  clear hk' m0 wz g3
  go_loopw [5, 6] (fun sr si wr => ∃ (i m : Nat) (A1 : Option Addr) (c1 : Nat), si = .int .i64 (i : Int) ∧ i ≤ K ∧ sr = .slice A1 m c1 ∧ Hid (m = i * n) ∧ Hid (wr.ownsRow w.heap.size 5 1 (.slice A1 m c1) m (vb (rep l i))) ∧ Hid (Below w.heap.size w wr)) (fun _ si _ => K - (intOf si).toNat)
  case atStart => exact ⟨0, 0, none, 0, rfl, by omega, rfl, Lib.hid (by simp), Lib.hid ⟨by simp [rep, vb], .inl ⟨rfl, rfl⟩⟩, Lib.hid (Below.refl _ _)⟩
  case round =>
    obtain ⟨i, m, A1, c1, rfl, hi, rfl, HM, HO, BW⟩ := hrel
    by_cases hlt : i < K
    · have hs : (i + 1) * n ≤ K * n := Nat.mul_le_mul_right n hlt
      have hs2 : (i + 1) * n = m + n := by rw [Nat.succ_mul, HM.out]
      have hmn : m + n ≤ 5000 := by have := HK.out; omega
      have HM2 : Hid (m + n = (i + 1) * n) := Lib.hid hs2.symm
      clear hs hs2
      go_wp2_with (refine wpList_app _ (by rfl) (.tmp 32) (.tmp 33) _ rfl w.heap.size 5 i0 _ 1 1 Try.underlying29 HI.out HZ.out HZ1.out HZ2.out rfl (by omega) (.slice A1 m c1) m (vb (rep l i)) rfl HO.out A n c (vb l) rfl HV.out ?row (vb_one l) (by simp only [maxLen]; omega) (by omega) ?size ?_)
      case row => exact HA.out.below BW.out (Nat.le_refl _)
      case size => exact BW.out.size
      intro A2 c2 w2 own2 gr2 at2
      have B2 := Lib.hid (BW.out.grown gr2 BW.out.size (own_ge HO.out))
      have HO2 : Hid (w2.ownsRow w.heap.size 5 1 (.slice A2 (m + n) c2) (m + n) (vb (rep l (i + 1)))) := Lib.hid (by
        have e : vb (rep l (i + 1)) = vb (rep l i) ++ vb l := by simp [rep, vb]
        rw [e]; exact own2)
      clear own2 gr2 at2
      go_wp2_with fail
      go_roundw
      case rel => exact ⟨i + 1, m + n, A2, c2, by go_num, by omega, rfl, HM2, HO2, B2⟩
      case measure => simp [intOf]; omega
    · obtain rfl : i = K := by omega
      have RA := Lib.hid (HA.out.below BW.out (Nat.le_refl _))
      have RB := Lib.hid (own_row _ HO.out)
      have HQ := Lib.hid (fun w h => HV2.out m c1 A1 w HM.out h)
      have HBW := BW.out
      clear HO HM HK HV2 HI HZ HZ1 HZ2 HV HA BW
      go_upto_region 8 with fail
      refine region_lin0 (.val (fun v _ => v = .slice A n c) :: .val (fun v _ => v = .agg #[.int .i64 x.n, .int .i64 x.l, .int .i64 x.h, .int .i64 x.t, .int .u64 x.v, .int .u64 x.s]) :: .val (fun v _ => v = .int .i64 (i : Int)) :: .val (fun v _ => v = .tuple #[.agg #[.int .i64 y.n, .int .i64 y.l, .int .i64 y.h, .int .i64 y.t, .int .u64 y.v, .int .u64 y.s], .nilIface]) :: .val (fun v _ => v = .tuple #[.agg #[.int .i64 y.n, .int .i64 y.l, .int .i64 y.h, .int .i64 y.t, .int .u64 y.v, .int .u64 y.s], .nilIface]) :: .val (fun v _ => v = .agg #[.int .i64 y.n, .int .i64 y.l, .int .i64 y.h, .int .i64 y.t, .int .u64 y.v, .int .u64 y.s]) :: .val (fun v _ => v = .nilIface) :: .new 26 #[.int .i64 0, .int .i64 0, .int .i64 0, .int .i64 0, .int .u64 0, .int .u64 0] #[.int .i64 y.n, .int .i64 y.l, .int .i64 y.h, .int .i64 y.t, .int .u64 y.v, .int .u64 y.s] 8 :: .put 26 #[.int .i64 0, .int .i64 0, .int .i64 0, .int .i64 0, .int .u64 0, .int .u64 0] #[.int .i64 y.n, .int .i64 y.l, .int .i64 y.h, .int .i64 y.t, .int .u64 y.v, .int .u64 y.s] 7 :: .val (fun v _ => v = .nilIface) :: [])
        ([] :: [(36, 0)] :: [] :: [(37, 1), (38, 2)] :: [(39, 3)] :: [(35, 4)] :: [(35, 4)] :: [] :: [(40, 5)] :: [(41, 6)] :: []) ((0, 0) :: (0, 0) :: (0, 0) :: (0, 0) :: (0, 0) :: (0, 0) :: (0, 0) :: (1, 8) :: (2, 7) :: (0, 0) :: []) 53 (by kernel_rfl) rfl rfl (by kernel_rfl) ⟨Stab.pure _ _ _, Stab.pure _ _ _, Stab.pure _ _ _, Stab.pure _ _ _, Stab.pure _ _ _, Stab.pure _ _ _, Stab.pure _ _ _, ⟨rfl, rfl, rfl⟩, Stab.pure _ _ _, trivial⟩ ⟨?_, ?_, ?_, ?_, ?_, ?_, ?_, ?_, ?_, ?_, trivial⟩ ?_
      · intro wx hb
        intro K hK
        go_simp
        exact hK _ _ rfl ⟨rfl, Below.refl _ _⟩
      · intro wx hb
        rintro _ rfl
        intro K hK
        have ra := RA.out.below hb (Nat.le_refl _)
        go_simp
        (with_reducible refine (HW.out _ ra).mono ?_)
        rintro e wa ⟨rfl, Ba⟩
        exact hK _ _ rfl ⟨rfl, Ba⟩
      · intro wx hb
        intro K hK
        go_simp
        exact hK _ _ rfl ⟨rfl, Below.refl _ _⟩
      · intro wx hb
        rintro _ rfl
        rintro _ rfl
        intro K hK
        go_simp
        (with_reducible refine (HR.out _).mono ?_)
        rintro e wa ⟨rfl, Ba⟩
        exact hK _ _ rfl ⟨rfl, Ba⟩
      · intro wx hb
        rintro _ rfl
        intro K hK
        go_simp
        exact hK _ _ rfl ⟨rfl, Below.refl _ _⟩
      · intro wx hb
        rintro _ rfl
        intro K hK
        go_simp
        exact hK _ _ rfl ⟨rfl, Below.refl _ _⟩
      · intro wx hb
        rintro _ rfl
        intro K hK
        go_simp
        exact hK _ _ rfl ⟨rfl, Below.refl _ _⟩
      · intro wx hb
        intro K hK
        go_simp
        exact hK _ _ rfl ⟨rfl, rfl⟩
      · intro wx hb
        intro g hg hbx
        rintro _ rfl
        intro K hK
        have c0 : wx.cell? ⟨g, 0, none⟩ = some (.int .i64 0) := hbx.cell 0
        have f0 := hbx.free 0
        have c1 : wx.cell? ⟨g, 1, none⟩ = some (.int .i64 0) := hbx.cell 1
        have f1 := hbx.free 1
        have c2 : wx.cell? ⟨g, 2, none⟩ = some (.int .i64 0) := hbx.cell 2
        have f2 := hbx.free 2
        have c3 : wx.cell? ⟨g, 3, none⟩ = some (.int .i64 0) := hbx.cell 3
        have f3 := hbx.free 3
        have c4 : wx.cell? ⟨g, 4, none⟩ = some (.int .u64 0) := hbx.cell 4
        have f4 := hbx.free 4
        have c5 : wx.cell? ⟨g, 5, none⟩ = some (.int .u64 0) := hbx.cell 5
        have f5 := hbx.free 5
        clear hb
        go_simp
        exact hK _ _ rfl ((((((((Stored.start hbx).set 0 _).set 1 _).set 2 _).set 3 _).set 4 _).set 5 _))
      · intro wx hb
        rintro _ rfl
        intro K hK
        go_simp
        exact hK _ _ rfl ⟨rfl, Below.refl _ _⟩
      intro w3 B3
      have HBW := bkeep HBW B3
      rintro _ rfl
      rintro _ rfl
      rintro _ rfl
      rintro _ rfl
      rintro _ rfl
      rintro _ rfl
      rintro _ rfl
      intro gy hgy By
      rintro _ rfl
      rintro -
      simp only [Act.put, List.setIfInBounds_toArray, List.set_cons_zero, List.set_cons_succ, List.toList_toArray, List.length_cons, List.length_nil, List.drop_succ_cons, List.drop_zero, List.drop_nil, Nat.zero_add, wpList]
      have RB3 := Lib.hid (RB.out.below B3 (Nat.le_refl _))
      clear B3
      go_upto_region 9 with fail
      refine region_lin (.val (fun v _ => v = .bool true) :: .val (fun v _ => v = .bool true) :: .val (fun v _ => v = .nilIface) :: .val (fun v _ => v = .bool true) :: .val (fun v _ => v = .bool true) :: .val (fun v _ => v = .bool true) :: .val (fun v _ => v = .agg #[.int .i64 y.n, .int .i64 y.l, .int .i64 y.h, .int .i64 y.t, .int .u64 y.v, .int .u64 y.s]) :: .val (fun v _ => v = .slice A1 m c1) :: .val (fun v _ => v = .agg #[.int .i64 y.n, .int .i64 y.l, .int .i64 y.h, .int .i64 y.t, .int .u64 y.v, .int .u64 y.s]) :: .val (fun v _ => v = .bool true) :: .val (fun v _ => v = .bool true) :: .val (fun v _ => v = .bool true) :: [])
        ([] :: [(42, 0)] :: [(43, 1)] :: [(44, 2), (43, 1)] :: [(43, 1), (45, 3)] :: [(46, 4)] :: [(47, 5)] :: [(47, 5)] :: [(49, 7), (47, 5)] :: [(48, 6), (50, 8), (47, 5)] :: [(47, 5), (51, 9)] :: [(52, 10)] :: []) ((0, 0) :: (0, 0) :: (0, 0) :: (0, 0) :: (0, 0) :: (0, 0) :: (0, 0) :: (0, 0) :: (0, 0) :: (0, 0) :: (0, 0) :: (0, 0) :: []) 53 (by kernel_rfl) rfl rfl (by kernel_rfl) ⟨Stab.pure _ _ _, Stab.pure _ _ _, Stab.pure _ _ _, Stab.pure _ _ _, Stab.pure _ _ _, Stab.pure _ _ _, Stab.pure _ _ _, Stab.pure _ _ _, Stab.pure _ _ _, Stab.pure _ _ _, Stab.pure _ _ _, Stab.pure _ _ _, trivial⟩ ⟨?_, ?_, ?_, ?_, ?_, ?_, ?_, ?_, ?_, ?_, ?_, ?_, trivial⟩ ?_
      · intro wx hb
        intro K hK
        go_simp
        (with_reducible refine (alive_any _).mono ?_)
        rintro e wa ⟨rfl, Ba⟩
        exact hK _ _ rfl ⟨rfl, Ba⟩
      · intro wx hb
        rintro _ rfl
        intro K hK
        go_simp
        exact hK _ _ rfl ⟨rfl, Below.refl _ _⟩
      · intro wx hb
        rintro _ rfl
        refine ⟨fun _ => ?_, fun h => absurd (show true = false from h) (by decide)⟩
        intro K hK
        go_simp
        exact hK _ _ rfl ⟨rfl, Below.refl _ _⟩
      · intro wx hb
        rintro _ rfl
        rintro _ rfl
        refine ⟨fun _ => ?_, fun h => absurd (show true = false from h) (by decide)⟩
        intro K hK
        go_simp
        exact hK _ _ rfl ⟨rfl, Below.refl _ _⟩
      · intro wx hb
        rintro _ rfl
        rintro _ rfl
        intro K hK
        go_simp
        exact hK _ _ rfl ⟨rfl, Below.refl _ _⟩
      · intro wx hb
        rintro _ rfl
        intro K hK
        go_simp
        exact hK _ _ rfl ⟨rfl, Below.refl _ _⟩
      · intro wx hb
        rintro _ rfl
        refine ⟨fun _ => ?_, fun h => absurd (show true = false from h) (by decide)⟩
        intro K hK
        exact wp_load_row 26 (.tmp 7) rfl gy rfl 26 _ (0, 0) _ (Box.below (By) hb (Box.lt (By))) Try.underlying26 rfl (by kernel_rfl) (hK _ _ rfl ⟨rfl, Below.refl _ _⟩)
      · intro wx hb
        rintro _ rfl
        refine ⟨fun _ => ?_, fun h => absurd (show true = false from h) (by decide)⟩
        intro K hK
        go_simp
        exact hK _ _ rfl ⟨rfl, Below.refl _ _⟩
      · intro wx hb
        rintro _ rfl
        rintro _ rfl
        refine ⟨fun _ => ?_, fun h => absurd (show true = false from h) (by decide)⟩
        intro K hK
        have rb := RB3.out.below hb (Nat.le_refl _)
        go_simp
        (with_reducible refine (HQ.out _ rb).mono ?_)
        rintro e wa ⟨rfl, Ba⟩
        exact hK _ _ rfl ⟨rfl, Ba⟩
      · intro wx hb
        rintro _ rfl
        rintro _ rfl
        rintro _ rfl
        refine ⟨fun _ => ?_, fun h => absurd (show true = false from h) (by decide)⟩
        intro K hK
        go_simp
        exact hK _ _ rfl ⟨rfl, Below.refl _ _⟩
      · intro wx hb
        rintro _ rfl
        rintro _ rfl
        intro K hK
        go_simp
        exact hK _ _ rfl ⟨rfl, Below.refl _ _⟩
      · intro wx hb
        rintro _ rfl
        intro K hK
        go_simp
        exact hK _ _ rfl ⟨rfl, Below.refl _ _⟩
      intro w4 B4
      have HBW := bkeep HBW B4
      rintro _ rfl
      rintro _ rfl
      rintro _ rfl
      rintro _ rfl
      rintro _ rfl
      rintro _ rfl
      rintro _ rfl
      rintro _ rfl
      rintro _ rfl
      rintro _ rfl
      rintro _ rfl
      rintro _ rfl
      rintro -
      simp only [Act.put, List.setIfInBounds_toArray, List.set_cons_zero, List.set_cons_succ, List.toList_toArray, List.length_cons, List.length_nil, List.drop_succ_cons, List.drop_zero, List.drop_nil, Nat.zero_add, wpList]
      go_wp2_with fail
      go_ret
      exact ⟨rfl, HBW⟩
theorem law_copies (l : List Int) (n c : Nat) (A : Option Addr) (hl : l.length = n) (hn : n ≤ 140737488351232) (hb : U8s l) (k : Int) (k0 : -9223372036854775808 ≤ k) (k1 : k ≤ 9223372036854775807) (w : World) (ha : RowAt w A (vb l)) :
    Calls Try.prog 9 #[.slice A n c, .int .i64 k] w fun e w' => e = .returned (.bool true) ∧ Below w.heap.size w w' := by
  by_cases h : k < 0 ∨ 200 < k ∨ 5000 < (n : Int) * k ∨ 5000 < n
  · exact copies_out n c A hn k k0 k1 h w
  · obtain ⟨K, rfl⟩ := Int.eq_ofNat_of_zero_le (by omega : 0 ≤ k)
    have hk : K * n ≤ 5000 := by
      have : ¬ 5000 < (n : Int) * (K : Int) := by omega
      rw [← Int.natCast_mul, Nat.mul_comm] at this
      omega
    have el : (rep l K).length = K * n := by rw [rep_len6, hl]
    have v := vW_of l (by omega)
    have v0 : 0 ≤ (wOf l).v := (wOf_ok l (by omega)).uv.lo
    have R := cr_ok (wOf l) (wOf_ok l (by omega)) v K (by omega) (by omega) (by
      have e : (wOf l).n = l.length := rfl
      rw [e, hl]; omega)
    simp only [Int.toNat_natCast] at R
    rw [rep_of] at R
    exact copies_in l n c A hl (by omega) K (by omega) hk (wOf l) (wOf (rep l K))
      (Lib.hid fun w h => wof_any l n c A hl (by omega) hb w h)
      (Lib.hid fun m c1 A1 w hm h => wof_any (rep l K) m c1 A1 (by omega) (by omega) (rep_u8s l hb K) w h)
      (Lib.hid R) w ha
end Go.Proofs.Ytbapmolpfdiknaa
