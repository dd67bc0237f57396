/- The walks of the laws DigestTexts and DigestJoins. -/
import Derived.Test.YtebjdlimboifaaaDigStr
import Derived.Test.YtebjdlimboifaaaDigAwake
import Derived.Test.YtebjdlimboifaaaOpenDigest
import Derived.Deep.DeepCutAuto
namespace Go.Proofs.Ytebjdlimboifaaa
set_option linter.unusedVariables false
set_option linter.unusedSimpArgs false
open Go.RowKit Go.Lib

theorem of_str (s : ByteArray) (hs : s.size ≤ 9223372036854775807) (c : Nat) (A : Option Addr) (w : World) (h : RowAt w A ((bi s).map (.int .u8))) :
    Calls Try.prog 15 #[.slice A s.size c] w fun e w' => e = .returned (.agg #[.int .u64 (dOf (bi s)).1, .int .u64 (dOf (bi s)).2]) ∧ Below w.heap.size w w' := of_any (bi s) s.size c A (bi_len s) hs (bi_u8 s) w h
theorem rof_str (s : ByteArray) (hs : s.size ≤ 9223372036854775807) (c : Nat) (A : Option Addr) (w : World) (h : RowAt w A ((bi s).map (.int .u8))) :
    Calls Try.prog 14 #[.slice A s.size c] w fun e w' => e = .returned (.agg #[.int .u64 (dOf (bi s)).1, .int .u64 (dOf (bi s)).2]) ∧ Below w.heap.size w w' := rof_any (bi s) s.size c A (bi_len s) hs (bi_u8 s) w h
theorem row_bytes (w : World) (s : ByteArray) : RowAt (Lib.bytesWorld w 5 s) (some ⟨w.heap.size, 0, none⟩) ((bi s).map (.int .u8)) := by
  obtain ⟨A, c, e, h⟩ := (Sl.conv w 5 s 0).row
  cases e
  exact h
theorem dOf_one (s : ByteArray) (h : s.size = 1) (h0 : 0 < s.size) : dOf (bi s) = (((s[0]'h0).toNat : Int) + 1, 1103515245) := by
  have hl : s.data.toList.length = 1 := by simpa using h
  have one : ∀ l : List UInt8, ∀ hl : l.length = 1, l.map (fun b => (b.toNat : Int)) = [((l[0]'(by omega)).toNat : Int)] := fun l hl => by
    match l, hl with
    | [x], _ => rfl
  have hb : bi s = [((s[0]'h0).toNat : Int)] := by
    exact one _ hl
  rw [hb]
  have := (s[0]'h0).toNat_lt
  have h1 : red (((s[0]'h0).toNat : Int) + 1) = (s[0]'h0).toNat + 1 := red_small _ (by omega) (by omega)
  simp [dOf, dStep, h1]
  decide +kernel
theorem rof_one (s : ByteArray) (h : s.size = 1) (h0 : 0 < s.size) (c : Nat) (A : Option Addr) (w : World) (hr : RowAt w A ((bi s).map (.int .u8))) :
    Calls Try.prog 14 #[.slice A s.size c] w fun e w' => e = .returned (.agg #[.int .u64 (((s[0]'h0).toNat : Int) + 1), .int .u64 1103515245]) ∧ Below w.heap.size w w' := by
  have := rof_str s (by omega) c A w hr
  rw [dOf_one s h h0] at this
  exact this

attribute [local go_sem ↓] Go.wp_at_zero Go.wp_at_succ
set_option maxHeartbeats 2000000 in
theorem law_texts (s : ByteArray) (hs : s.size ≤ 9223372036854775807) (w : World) :
    Calls Try.prog 3 #[.string s] w fun e w' => e = .returned (.bool true) ∧ Below w.heap.size w w' := by
  have kc := fun (w : World) (s : ByteArray) => Lib.run_convert_string_bytes (P := Try.prog) w 9 29 5 s Try.underlying9 Try.underlying29 Try.underlying5
  obtain ⟨t, ht⟩ : ∃ t, t = cutS s := ⟨_, rfl⟩
  have ts : t.size ≤ 300 := ht ▸ cutS_size s
  have hC := cut_any s hs
  rw [← ht] at hC
  have HC := Lib.hid hC
  clear ht hC
  by_cases h1 : t.size = 1
  · have h1' : ((t.size : Int) == 1) = true := by rw [beq_iff_eq]; omega
    have R1 := Lib.hid (rof_one t h1)
    have t0 : 0 < t.size := by omega
    have H1 := Lib.hid h1
    clear h1
    go_enter Try.func3, Try.ntmps3
    go_wp2_with fail
    (with_reducible refine (awake_any _).mono ?_)
    rintro e w1 ⟨rfl, B1⟩
    have BW := Lib.hid B1
    clear B1
    go_wp2_with fail
    go_wp2_with fail
    (with_reducible refine (HC.out _).mono ?_)
    rintro e w' ⟨rfl, rfl⟩
    have tn := (t[0]'t0).toNat_lt
    go_wp2_with fail
    (with_reducible refine (letter_any _ (by omega) (by omega) _).mono ?_)
    rintro e w4 ⟨rfl, B4⟩
    have BW4 := Lib.hid (bkeep BW.out B4)
    clear B4
    go_wp2_with fail
    (with_reducible refine (R1.out t0 _ _ _ (row_bytes _ t)).mono ?_)
    rintro e w5 ⟨rfl, B5⟩
    have BW5 := Lib.hid (bkeep (bkeep BW4.out (below_bytes _ _ _)) B5)
    clear B5
    go_wp2_with fail
    (with_reducible refine (of_str t (by omega) _ _ _ (row_bytes _ t)).mono ?_)
    rintro e w2 ⟨rfl, B2⟩
    have BW2 := Lib.hid (bkeep (bkeep BW5.out (below_bytes _ _ _)) B2)
    clear B2
    go_wp2_with fail
    (with_reducible refine (rof_str t (by omega) _ _ _ (row_bytes _ t)).mono ?_)
    rintro e w3 ⟨rfl, B3⟩
    have BW3 := Lib.hid (bkeep (bkeep BW2.out (below_bytes _ _ _)) B3)
    clear B3
    go_wp2_with fail
    go_ret
    exact ⟨rfl, BW3.out⟩
  · have h1' : ((t.size : Int) == 1) = false := by rw [beq_eq_false_iff_ne]; omega
    have H1 := Lib.hid h1
    clear h1
    go_enter Try.func3, Try.ntmps3
    go_wp2_with fail
    (with_reducible refine (awake_any _).mono ?_)
    rintro e w1 ⟨rfl, B1⟩
    have BW := Lib.hid B1
    clear B1
    go_wp2_with fail
    go_wp2_with fail
    (with_reducible refine (HC.out _).mono ?_)
    rintro e w' ⟨rfl, rfl⟩
    go_wp2_with fail
    (with_reducible refine (of_str t (by omega) _ _ _ (row_bytes _ t)).mono ?_)
    rintro e w2 ⟨rfl, B2⟩
    have BW2 := Lib.hid (bkeep (bkeep BW.out (below_bytes _ _ _)) B2)
    clear B2
    go_wp2_with fail
    (with_reducible refine (rof_str t (by omega) _ _ _ (row_bytes _ t)).mono ?_)
    rintro e w3 ⟨rfl, B3⟩
    have BW3 := Lib.hid (bkeep (bkeep BW2.out (below_bytes _ _ _)) B3)
    clear B3
    go_wp2_with fail
    go_ret
    exact ⟨rfl, BW3.out⟩

theorem bi_append (s t : ByteArray) : bi (s ++ t) = bi s ++ bi t := by simp [bi]
attribute [local go_sem ↓] Go.wp_at_zero Go.wp_at_succ
set_option maxHeartbeats 4000000 in
theorem law_joins (s t : ByteArray) (hs : s.size ≤ 9223372036854775807) (ht : t.size ≤ 9223372036854775807) (a1 a2 b1 b2 : Int) (ha : DigOk a1 a2) (hb : DigOk b1 b2) (w : World) :
    Calls Try.prog 4 #[.string s, .string t, .agg #[.int .u64 a1, .int .u64 a2], .agg #[.int .u64 b1, .int .u64 b2]] w fun e w' => e = .returned (.bool true) ∧ Below w.heap.size w w' := by
  have kc := fun (w : World) (s : ByteArray) => Lib.run_convert_string_bytes (P := Try.prog) w 9 29 5 s Try.underlying9 Try.underlying29 Try.underlying5
  obtain ⟨x, hx⟩ : ∃ x, x = cutS s := ⟨_, rfl⟩
  obtain ⟨y, hy⟩ : ∃ y, y = cutS t := ⟨_, rfl⟩
  have xs : x.size ≤ 300 := hx ▸ cutS_size s
  have ys : y.size ≤ 300 := hy ▸ cutS_size t
  have hCx := cut_any s hs
  have hCy := cut_any t ht
  rw [← hx] at hCx
  rw [← hy] at hCy
  have HX := Lib.hid hCx; have HY := Lib.hid hCy
  clear hx hy hCx hCy
  obtain ⟨z, hz⟩ : ∃ z, z = x ++ y := ⟨_, rfl⟩
  have xys : z.size ≤ 600 := by rw [hz]; simp; omega
  have J1 : Hid (∀ W, Calls Try.prog 16 #[.agg #[.int .u64 (dOf (bi x)).1, .int .u64 (dOf (bi x)).2], .agg #[.int .u64 (dOf (bi y)).1, .int .u64 (dOf (bi y)).2]] W fun e w' => e = .returned (.agg #[.int .u64 (dOf (bi z)).1, .int .u64 (dOf (bi z)).2]) ∧ Below W.heap.size W w') := Lib.hid fun W => by
    have hx := red_id (bi x); have hy := red_id (bi y)
    rw [hz, bi_append, dOf_append]
    exact join_any _ _ _ _ ⟨hx.2.2.1, by omega⟩ ⟨hx.2.2.2.2.1, by omega⟩ ⟨hy.2.2.1, by omega⟩ ⟨hy.2.2.2.2.1, by omega⟩ W
  have J2 := Lib.hid fun W => join_any _ _ _ _ ha.va ha.sc hb.va hb.sc W
  have J3 := Lib.hid fun W => rjoin_any _ _ _ _ ha.va ha.sc hb.va hb.sc W
  have HZ := Lib.hid hz
  clear hz
  go_enter Try.func4, Try.ntmps4
  go_wp2_with fail
  (with_reducible refine (awake_any _).mono ?_)
  rintro e w1 ⟨rfl, B1⟩
  have z1 : w.heap.size + 1 < w1.heap.size := by have hz := B1.size; (try simp at hz); omega
  have PA := (((Box.new w 26 #[.int .u64 a1, .int .u64 a2]).alloc _).below B1 (by simp; omega))
  have PB : Box w1 (w.heap.size + 1) 26 #[.int .u64 b1, .int .u64 b2] := (Box.new_ (by simp)).below B1 (by simp)
  have BW := Lib.hid (bkeep (balloc (balloc (Below.refl _ _) _) _) B1)
  clear B1
  go_wp2_with fail
  go_wp2_with fail
  (with_reducible refine (HX.out _).mono ?_)
  rintro e w' ⟨rfl, rfl⟩
  go_wp2_with fail
  (with_reducible refine (HY.out _).mono ?_)
  rintro e w' ⟨rfl, rfl⟩
  go_upto_region 4 with fail
  refine region_lin (.val (fun v _ => v = .string x) :: .val (Sl 5 ((bi x).map (.int .u8)) x.size) :: .val (fun v _ => v = .agg #[.int .u64 (dOf (bi x)).1, .int .u64 (dOf (bi x)).2]) :: .val (fun v _ => v = .string y) :: .val (Sl 5 ((bi y).map (.int .u8)) y.size) :: .val (fun v _ => v = .agg #[.int .u64 (dOf (bi y)).1, .int .u64 (dOf (bi y)).2]) :: .val (fun v _ => v = .agg #[.int .u64 (dOf (bi z)).1, .int .u64 (dOf (bi z)).2]) :: .val (fun v _ => v = .string x) :: .val (fun v _ => v = .string y) :: .val (fun v _ => v = .string z) :: .val (Sl 5 ((bi z).map (.int .u8)) z.size) :: .val (fun v _ => v = .agg #[.int .u64 (dOf (bi z)).1, .int .u64 (dOf (bi z)).2]) :: .val (fun v _ => v = .bool true) :: .val (fun v _ => v = .bool true) :: .val (fun v _ => v = .agg #[.int .u64 a1, .int .u64 a2]) :: .val (fun v _ => v = .agg #[.int .u64 b1, .int .u64 b2]) :: .val (fun v _ => v = .agg #[.int .u64 (red (a1 * b2 + b1)), .int .u64 (red (a2 * b2))]) :: .val (fun v _ => v = .agg #[.int .u64 a1, .int .u64 a2]) :: .val (fun v _ => v = .agg #[.int .u64 b1, .int .u64 b2]) :: .val (fun v _ => v = .agg #[.int .u64 (red (a1 * b2 + b1)), .int .u64 (red (a2 * b2))]) :: .val (fun v _ => v = .bool true) :: .val (fun v _ => v = .bool true) :: .val (fun v _ => v = .bool true) :: [])
    ([] :: [(15, 0)] :: [(16, 1)] :: [] :: [(18, 3)] :: [(19, 4)] :: [(17, 2), (20, 5)] :: [] :: [] :: [(22, 7), (23, 8)] :: [(24, 9)] :: [(25, 10)] :: [(21, 6), (26, 11)] :: [(27, 12)] :: [(28, 13)] :: [(28, 13)] :: [(29, 14), (30, 15), (28, 13)] :: [(28, 13)] :: [(28, 13)] :: [(32, 17), (33, 18), (28, 13)] :: [(31, 16), (34, 19), (28, 13)] :: [(28, 13), (35, 20)] :: [(36, 21)] :: []) ((0, 0) :: (0, 0) :: (0, 0) :: (0, 0) :: (0, 0) :: (0, 0) :: (0, 0) :: (0, 0) :: (0, 0) :: (0, 0) :: (0, 0) :: (0, 0) :: (0, 0) :: (0, 0) :: (0, 0) :: (0, 0) :: (0, 0) :: (0, 0) :: (0, 0) :: (0, 0) :: (0, 0) :: (0, 0) :: (0, 0) :: []) 37 (by kernel_rfl) rfl rfl (by kernel_rfl) ⟨Stab.pure _ _ _, (Sl.stab (by simp [tysOf])), Stab.pure _ _ _, Stab.pure _ _ _, (Sl.stab (by simp [tysOf])), Stab.pure _ _ _, Stab.pure _ _ _, Stab.pure _ _ _, Stab.pure _ _ _, Stab.pure _ _ _, (Sl.stab (by simp [tysOf])), Stab.pure _ _ _, Stab.pure _ _ _, Stab.pure _ _ _, Stab.pure _ _ _, Stab.pure _ _ _, Stab.pure _ _ _, Stab.pure _ _ _, Stab.pure _ _ _, Stab.pure _ _ _, Stab.pure _ _ _, Stab.pure _ _ _, Stab.pure _ _ _, trivial⟩ ⟨?_, ?_, ?_, ?_, ?_, ?_, ?_, ?_, ?_, ?_, ?_, ?_, ?_, ?_, ?_, ?_, ?_, ?_, ?_, ?_, ?_, ?_, ?_, trivial⟩ ?_
  · intro wx hb
    intro K hK
    go_simp
    exact hK _ _ rfl ⟨rfl, Below.refl _ _⟩
  · intro wx hb
    rintro _ rfl
    intro K hK
    go_simp; exact hK _ _ rfl ⟨Sl.conv _ _ _ _, below_bytes _ _ _⟩
  · intro wx hb
    intro v16 h16
    intro K hK
    obtain ⟨A, c, rfl, ra⟩ := h16.row
    go_simp
    (with_reducible refine (of_str x (by omega) _ _ _ ra).mono ?_)
    rintro e wa ⟨rfl, Ba⟩
    exact hK _ _ rfl ⟨rfl, Ba⟩
  · intro wx hb
    intro K hK
    go_simp
    exact hK _ _ rfl ⟨rfl, Below.refl _ _⟩
  · intro wx hb
    rintro _ rfl
    intro K hK
    go_simp; exact hK _ _ rfl ⟨Sl.conv _ _ _ _, below_bytes _ _ _⟩
  · intro wx hb
    intro v19 h19
    intro K hK
    obtain ⟨A, c, rfl, ra⟩ := h19.row
    go_simp
    (with_reducible refine (of_str y (by omega) _ _ _ ra).mono ?_)
    rintro e wa ⟨rfl, Ba⟩
    exact hK _ _ rfl ⟨rfl, Ba⟩
  · intro wx hb
    rintro _ rfl
    rintro _ rfl
    intro K hK
    go_simp
    (with_reducible refine (J1.out _).mono ?_)
    rintro e wa ⟨rfl, Ba⟩
    exact hK _ _ rfl ⟨rfl, Ba⟩
  · intro wx hb
    intro K hK
    go_simp
    exact hK _ _ rfl ⟨rfl, Below.refl _ _⟩
  · intro wx hb
    intro K hK
    go_simp
    exact hK _ _ rfl ⟨rfl, Below.refl _ _⟩
  · intro wx hb
    rintro _ rfl
    rintro _ rfl
    intro K hK
    go_wp2_with fail; exact hK _ _ rfl ⟨congrArg Value.string HZ.out.symm, Below.refl _ _⟩
  · intro wx hb
    rintro _ rfl
    intro K hK
    go_simp; exact hK _ _ rfl ⟨Sl.conv _ _ _ _, below_bytes _ _ _⟩
  · intro wx hb
    intro v25 h25
    intro K hK
    obtain ⟨A, c, rfl, ra⟩ := h25.row
    go_simp
    (with_reducible refine (of_str z (by omega) _ _ _ ra).mono ?_)
    rintro e wa ⟨rfl, Ba⟩
    exact hK _ _ rfl ⟨rfl, Ba⟩
  · intro wx hb
    rintro _ rfl
    rintro _ rfl
    intro K hK
    go_simp
    exact hK _ _ rfl ⟨rfl, Below.refl _ _⟩
  · intro wx hb
    rintro _ rfl
    intro K hK
    go_simp
    exact hK _ _ rfl ⟨rfl, Below.refl _ _⟩
  · intro wx hb
    rintro _ rfl
    refine ⟨fun _ => ?_, fun h => absurd (show true = false from h) (by decide)⟩
    intro K hK
    have mm := Box.below (PA) hb (Box.lt (PA))
    have m0 : wx.cell? ⟨w.heap.size, 0, none⟩ = some (.int .u64 a1) := mm.cell 0
    have m1 : wx.cell? ⟨w.heap.size, 1, none⟩ = some (.int .u64 a2) := mm.cell 1
    clear mm
    go_simp
    exact hK _ _ rfl ⟨rfl, Below.refl _ _⟩
  · intro wx hb
    rintro _ rfl
    refine ⟨fun _ => ?_, fun h => absurd (show true = false from h) (by decide)⟩
    intro K hK
    have mm := Box.below (PB) hb (Box.lt (PB))
    have m0 : wx.cell? ⟨(w.heap.size + 1), 0, none⟩ = some (.int .u64 b1) := mm.cell 0
    have m1 : wx.cell? ⟨(w.heap.size + 1), 1, none⟩ = some (.int .u64 b2) := mm.cell 1
    clear mm
    go_simp
    exact hK _ _ rfl ⟨rfl, Below.refl _ _⟩
  · intro wx hb
    rintro _ rfl
    rintro _ rfl
    rintro _ rfl
    refine ⟨fun _ => ?_, fun h => absurd (show true = false from h) (by decide)⟩
    intro K hK
    go_simp
    (with_reducible refine (J2.out _).mono ?_)
    rintro e wa ⟨rfl, Ba⟩
    exact hK _ _ rfl ⟨rfl, Ba⟩
  · intro wx hb
    rintro _ rfl
    refine ⟨fun _ => ?_, fun h => absurd (show true = false from h) (by decide)⟩
    intro K hK
    have mm := Box.below (PA) hb (Box.lt (PA))
    have m0 : wx.cell? ⟨w.heap.size, 0, none⟩ = some (.int .u64 a1) := mm.cell 0
    have m1 : wx.cell? ⟨w.heap.size, 1, none⟩ = some (.int .u64 a2) := mm.cell 1
    clear mm
    go_simp
    exact hK _ _ rfl ⟨rfl, Below.refl _ _⟩
  · intro wx hb
    rintro _ rfl
    refine ⟨fun _ => ?_, fun h => absurd (show true = false from h) (by decide)⟩
    intro K hK
    have mm := Box.below (PB) hb (Box.lt (PB))
    have m0 : wx.cell? ⟨(w.heap.size + 1), 0, none⟩ = some (.int .u64 b1) := mm.cell 0
    have m1 : wx.cell? ⟨(w.heap.size + 1), 1, none⟩ = some (.int .u64 b2) := mm.cell 1
    clear mm
    go_simp
    exact hK _ _ rfl ⟨rfl, Below.refl _ _⟩
  · intro wx hb
    rintro _ rfl
    rintro _ rfl
    rintro _ rfl
    refine ⟨fun _ => ?_, fun h => absurd (show true = false from h) (by decide)⟩
    intro K hK
    go_simp
    (with_reducible refine (J3.out _).mono ?_)
    rintro e wa ⟨rfl, Ba⟩
    exact hK _ _ rfl ⟨rfl, Ba⟩
  · intro wx hb
    rintro _ rfl
    rintro _ rfl
    rintro _ rfl
    refine ⟨fun _ => ?_, fun h => absurd (show true = false from h) (by decide)⟩
    intro K hK
    go_simp
    exact hK _ _ rfl ⟨rfl, Below.refl _ _⟩
  · intro wx hb
    rintro _ rfl
    rintro _ rfl
    intro K hK
    go_simp
    exact hK _ _ rfl ⟨rfl, Below.refl _ _⟩
  · intro wx hb
    rintro _ rfl
    intro K hK
    go_simp
    exact hK _ _ rfl ⟨rfl, Below.refl _ _⟩
  intro w5 B5
  rintro _ rfl
  intro v16 h16
  rintro _ rfl
  rintro _ rfl
  intro v19 h19
  rintro _ rfl
  rintro _ rfl
  rintro _ rfl
  rintro _ rfl
  rintro _ rfl
  intro v25 h25
  rintro _ rfl
  rintro _ rfl
  rintro _ rfl
  rintro _ rfl
  rintro _ rfl
  rintro _ rfl
  rintro _ rfl
  rintro _ rfl
  rintro _ rfl
  rintro _ rfl
  rintro _ rfl
  rintro _ rfl
  rintro -
  simp only [Act.put, List.setIfInBounds_toArray, List.set_cons_zero, List.set_cons_succ, List.toList_toArray, List.length_cons, List.length_nil, List.drop_succ_cons, List.drop_zero, List.drop_nil, Nat.zero_add, wpList]
  go_wp2_with fail
  go_ret
  exact ⟨rfl, bkeep BW.out B5⟩
end Go.Proofs.Ytebjdlimboifaaa
