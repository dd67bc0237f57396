/- The walk of the law DigestRepeats. -/
import Derived.Test.YtebjdlimboifaaaDigTexts
import Derived.Test.YtebjdlimboifaaaDigRep
import Derived.Test.YtebjdlimboifaaaDigRests
import Derived.IntWalk
namespace Go.Proofs.Ytebjdlimboifaaa
set_option linter.unusedVariables false
set_option linter.unusedSimpArgs false
open Go.RowKit Go.Lib

theorem rep_len (l : List Int) (k : Nat) : (rep l k).length = k * l.length := by
  induction k with
  | zero => simp [rep]
  | succ k ih => simp [rep, ih, Nat.succ_mul]
abbrev CRep (d1 d2 k r1 r2 : Int) : Prop := ∀ W : World, Calls Try.prog 20 #[.agg #[.int .u64 d1, .int .u64 d2], .int .i64 k] W fun e w' => e = .returned (.agg #[.int .u64 r1, .int .u64 r2]) ∧ Below W.heap.size W w'

attribute [local go_sem ↓] Go.wp_at_zero Go.wp_at_succ
set_option maxHeartbeats 4000000 in
theorem reps_of (s x : ByteArray) (hs : s.size ≤ 9223372036854775807) (m : Nat) (hm : Hid (m = min s.size 9)) (hx : Hid (x = s.extract 0 m)) (xs : x.size ≤ 9) (k : Int) (k0 : -128 ≤ k) (k1 : k ≤ 127) (d1 d2 : Int) (i j n : Nat) (i1 : i < 4294967296) (j1 : j < 4294967296) (hn : Hid (j % 1073741824 = n)) (n1 : n < 1073741824) (w : World)
    (p1 p2 q1 q2 s1 s2 m1 m2 t1 t2 k1_ k2_ : Int) (in1 : i * n < 4611686018427387904)
    (R1 : Hid (CRep d1 d2 i p1 p2)) (R2 : Hid (CRep d1 d2 j q1 q2)) (R3 : Hid (CRep d1 d2 (i + j) s1 s2)) (R4 : Hid (CRep p1 p2 n m1 m2)) (R5 : Hid (CRep d1 d2 (i * n) m1 m2)) (R6 : Hid (CRep t1 t2 k k1_ k2_))
    (J : Hid (∀ W : World, Calls Try.prog 16 #[.agg #[.int .u64 p1, .int .u64 p2], .agg #[.int .u64 q1, .int .u64 q2]] W fun e w' => e = .returned (.agg #[.int .u64 s1, .int .u64 s2]) ∧ Below W.heap.size W w'))
    (T1 : Hid (∀ (c : Nat) (A : Option Addr) (w : World), RowAt w A ((bi x).map (.int .u8)) → Calls Try.prog 15 #[.slice A x.size c] w fun e w' => e = .returned (.agg #[.int .u64 t1, .int .u64 t2]) ∧ Below w.heap.size w w'))
    (T2 : Hid (∀ tx : ByteArray, bi tx = rep (bi x) k.toNat → tx.size ≤ 2000 → ∀ (c : Nat) (A : Option Addr) (w : World), RowAt w A ((bi tx).map (.int .u8)) → Calls Try.prog 14 #[.slice A tx.size c] w fun e w' => e = .returned (.agg #[.int .u64 k1_, .int .u64 k2_]) ∧ Below w.heap.size w w')) :
    Calls Try.prog 7 #[.string s, .int .i8 k, .agg #[.int .u64 d1, .int .u64 d2], .int .u32 (i : Int), .int .u32 (j : Int)] w fun e w' => e = .returned (.bool true) ∧ Below w.heap.size w w' := by
  have kc := fun (w : World) (s : ByteArray) => Lib.run_convert_string_bytes (P := Try.prog) w 9 29 5 s Try.underlying9 Try.underlying29 Try.underlying5
  go_enter Try.func7, Try.ntmps7
  go_wp2_with fail
  (with_reducible refine (awake_any _).mono ?_)
  rintro e w1 ⟨rfl, B1⟩
  have PD : Box w1 w.heap.size 26 #[.int .u64 d1, .int .u64 d2] := (Box.new w _ _).below B1 (by simp)
  have BW := Lib.hid (bkeep (balloc (Below.refl _ _) _) B1)
  have HPD := Lib.hid PD
  clear B1 PD
  go_upto_region 3 with fail
  refine region_lin0 (.val (fun v _ => v = .string s) :: .val (fun v _ => v = .string s) :: .val (fun v _ => v = .int .i64 (s.size : Int)) :: .val (fun v _ => v = .int .i64 (m : Int)) :: .val (fun v _ => v = .string x) :: .val (fun v _ => v = .string x) :: [])
    ([] :: [] :: [(18, 1)] :: [(19, 2)] :: [(17, 0), (20, 3)] :: [(21, 4)] :: []) ((0, 0) :: (0, 0) :: (0, 0) :: (0, 0) :: (0, 0) :: (0, 0) :: []) 77 (by kernel_rfl) rfl rfl (by kernel_rfl) ⟨Stab.pure _ _ _, Stab.pure _ _ _, Stab.pure _ _ _, Stab.pure _ _ _, Stab.pure _ _ _, Stab.pure _ _ _, trivial⟩ ⟨?_, ?_, ?_, ?_, ?_, ?_, trivial⟩ ?_
  · intro wx hb
    intro K hK
    go_simp
    exact hK _ _ rfl ⟨rfl, Below.refl _ _⟩
  · intro wx hb
    intro K hK
    go_simp
    exact hK _ _ rfl ⟨rfl, Below.refl _ _⟩
  · intro wx hb
    rintro _ rfl
    intro K hK
    go_simp
    exact hK _ _ rfl ⟨rfl, Below.refl _ _⟩
  · intro wx hb
    rintro _ rfl
    intro K hK
    by_cases h9 : (s.size : Int) ≤ 9 <;> (go_wp2_with fail; exact hK _ _ rfl ⟨congrArg (Value.int .i64) (by have := hm.out; omega), Below.refl _ _⟩)
  · intro wx hb
    rintro _ rfl
    rintro _ rfl
    intro K hK
    have ms : m ≤ s.size := (by have := hm.out; omega); go_wp2_with fail; exact hK _ _ rfl ⟨congrArg Value.string hx.out.symm, Below.refl _ _⟩
  · intro wx hb
    rintro _ rfl
    intro K hK
    go_simp
    exact hK _ _ rfl ⟨rfl, Below.refl _ _⟩
  intro w2 B2
  rintro _ rfl
  rintro _ rfl
  rintro _ rfl
  rintro _ rfl
  rintro _ rfl
  rintro _ rfl
  rintro -
  simp only [Act.put, List.setIfInBounds_toArray, List.set_cons_zero, List.set_cons_succ, List.toList_toArray, List.length_cons, List.length_nil, List.drop_succ_cons, List.drop_zero, List.drop_nil, Nat.zero_add, wpList]
  have HPD2 := Lib.hid (HPD.out.below B2 HPD.out.lt)
  have BW2 := Lib.hid (bkeep BW.out B2)
  clear B2
  obtain ⟨K, hK⟩ : ∃ K : Nat, K = k.toNat := ⟨_, rfl⟩
  have HK := Lib.hid hK
  rw [← hK] at T2
  have K1 : K ≤ 127 := by omega
  clear hK
  go_upto_region 5 with fail
  refine region_lin0 (.val (fun v _ => v = .int .i8 k) :: .val (fun v _ => v = .int .i64 k) :: .val (fun v _ => v = .int .i64 (K : Int)) :: .val (fun v _ => v = .int .i64 0) :: [])
    ([] :: [(22, 0)] :: [(23, 1)] :: [] :: []) ((0, 0) :: (0, 0) :: (0, 0) :: (0, 0) :: []) 77 (by kernel_rfl) rfl rfl (by kernel_rfl) ⟨Stab.pure _ _ _, Stab.pure _ _ _, Stab.pure _ _ _, Stab.pure _ _ _, trivial⟩ ⟨?_, ?_, ?_, ?_, trivial⟩ ?_
  · intro wx hb
    intro K hK
    go_simp
    exact hK _ _ rfl ⟨rfl, Below.refl _ _⟩
  · intro wx hb
    rintro _ rfl
    intro K hK
    have wz := IntWalk.i64_in k ⟨by omega, by omega⟩
    go_simp
    exact hK _ _ rfl ⟨rfl, Below.refl _ _⟩
  · intro wx hb
    rintro _ rfl
    intro K hK
    by_cases h9 : (0 : Int) ≤ k <;> (go_wp2_with fail; exact hK _ _ rfl ⟨congrArg (Value.int .i64) (by have := HK.out; omega), Below.refl _ _⟩)
  · intro wx hb
    intro K hK
    go_simp
    exact hK _ _ rfl ⟨rfl, Below.refl _ _⟩
  intro w3 B3
  rintro _ rfl
  rintro _ rfl
  rintro _ rfl
  rintro _ rfl
  rintro -
  simp only [Act.put, List.setIfInBounds_toArray, List.set_cons_zero, List.set_cons_succ, List.toList_toArray, List.length_cons, List.length_nil, List.drop_succ_cons, List.drop_zero, List.drop_nil, Nat.zero_add, wpList]
  have HPD3 := Lib.hid (HPD2.out.below B3 HPD2.out.lt)
  have BW3 := Lib.hid (bkeep BW2.out B3)
  clear B3
  go_wp2_with fail
  go_loop [11, 25] (fun st si => ∃ (q : Nat) (tx : ByteArray), st = .string tx ∧ si = .int .i64 (q : Int) ∧ q ≤ K ∧ Hid (bi tx = rep (bi x) q) ∧ Hid (tx.size = q * x.size)) (fun _ si => K - (intOf si).toNat)
  case atStart => exact ⟨0, ⟨#[]⟩, rfl, rfl, by omega, Lib.hid rfl, Lib.hid (by rw [Nat.zero_mul]; rfl)⟩
  case round =>
    obtain ⟨q, tx, rfl, rfl, hq, HT, HS⟩ := hrel
    have tb : tx.size ≤ 1143 := by
      have h1 := HS.out
      have h2 : q * x.size ≤ 127 * 9 := Nat.mul_le_mul (by omega) xs
      omega
    by_cases hlt : q < K
    · have HT2 := Lib.hid (show bi (tx ++ x) = rep (bi x) (q + 1) by rw [bi_append, HT.out]; rfl)
      have HS2 := Lib.hid (show (tx ++ x).size = (q + 1) * x.size by rw [ByteArray.size_append, HS.out, Nat.succ_mul])
      go_wp2_with fail
      go_round
      case rel => exact ⟨q + 1, tx ++ x, rfl, by go_num, by omega, HT2, HS2⟩
      case measure => simp [intOf]; omega
    · obtain rfl : q = K := by omega
      have TX := Lib.hid (T2.out tx HT.out (by omega))
      go_upto_region 9 with fail
      refine region_lin (.val (fun v _ => v = .agg #[.int .u64 d1, .int .u64 d2]) :: .val (fun v _ => v = .int .u32 (i : Int)) :: .val (fun v _ => v = .int .i64 (i : Int)) :: .val (fun v _ => v = .agg #[.int .u64 p1, .int .u64 p2]) :: .val (fun v _ => v = .agg #[.int .u64 d1, .int .u64 d2]) :: .val (fun v _ => v = .int .u32 (j : Int)) :: .val (fun v _ => v = .int .i64 (j : Int)) :: .val (fun v _ => v = .agg #[.int .u64 q1, .int .u64 q2]) :: .new 26 #[.int .u64 0, .int .u64 0] #[.int .u64 p1, .int .u64 p2] 10 :: .new 26 #[.int .u64 0, .int .u64 0] #[.int .u64 q1, .int .u64 q2] 11 :: .put 26 #[.int .u64 0, .int .u64 0] #[.int .u64 p1, .int .u64 p2] 12 :: .put 26 #[.int .u64 0, .int .u64 0] #[.int .u64 q1, .int .u64 q2] 13 :: [])
        ([] :: [] :: [(32, 1)] :: [(31, 0), (33, 2)] :: [] :: [] :: [(36, 5)] :: [(35, 4), (37, 6)] :: [] :: [] :: [(34, 3)] :: [(38, 7)] :: []) ((0, 0) :: (0, 0) :: (0, 0) :: (0, 0) :: (0, 0) :: (0, 0) :: (0, 0) :: (0, 0) :: (1, 10) :: (1, 11) :: (2, 12) :: (2, 13) :: []) 77 (by kernel_rfl) rfl rfl (by kernel_rfl) ⟨Stab.pure _ _ _, Stab.pure _ _ _, Stab.pure _ _ _, Stab.pure _ _ _, Stab.pure _ _ _, Stab.pure _ _ _, Stab.pure _ _ _, Stab.pure _ _ _, ⟨rfl, rfl, rfl⟩, ⟨rfl, rfl, rfl⟩, trivial⟩ ⟨?_, ?_, ?_, ?_, ?_, ?_, ?_, ?_, ?_, ?_, ?_, ?_, trivial⟩ ?_
      · intro wx hb
        intro K hK
        have mm := Box.below (HPD3.out) hb (Box.lt (HPD3.out))
        have m0 : wx.cell? ⟨w.heap.size, 0, none⟩ = some (.int .u64 d1) := mm.cell 0
        have m1 : wx.cell? ⟨w.heap.size, 1, none⟩ = some (.int .u64 d2) := mm.cell 1
        clear mm
        go_simp
        exact hK _ _ rfl ⟨rfl, Below.refl _ _⟩
      · intro wx hb
        intro K hK
        go_simp
        exact hK _ _ rfl ⟨rfl, Below.refl _ _⟩
      · intro wx hb
        rintro _ rfl
        intro K hK
        have wz := IntWalk.i64_in (i : Int) ⟨by omega, by omega⟩
        go_simp
        exact hK _ _ rfl ⟨rfl, Below.refl _ _⟩
      · intro wx hb
        rintro _ rfl
        rintro _ rfl
        intro K hK
        go_simp
        (with_reducible refine (R1.out _).mono ?_)
        rintro e wa ⟨rfl, Ba⟩
        exact hK _ _ rfl ⟨rfl, Ba⟩
      · intro wx hb
        intro K hK
        have mm := Box.below (HPD3.out) hb (Box.lt (HPD3.out))
        have m0 : wx.cell? ⟨w.heap.size, 0, none⟩ = some (.int .u64 d1) := mm.cell 0
        have m1 : wx.cell? ⟨w.heap.size, 1, none⟩ = some (.int .u64 d2) := mm.cell 1
        clear mm
        go_simp
        exact hK _ _ rfl ⟨rfl, Below.refl _ _⟩
      · intro wx hb
        intro K hK
        go_simp
        exact hK _ _ rfl ⟨rfl, Below.refl _ _⟩
      · intro wx hb
        rintro _ rfl
        intro K hK
        have wz := IntWalk.i64_in (j : Int) ⟨by omega, by omega⟩
        go_simp
        exact hK _ _ rfl ⟨rfl, Below.refl _ _⟩
      · intro wx hb
        rintro _ rfl
        rintro _ rfl
        intro K hK
        go_simp
        (with_reducible refine (R2.out _).mono ?_)
        rintro e wa ⟨rfl, Ba⟩
        exact hK _ _ rfl ⟨rfl, Ba⟩
      · intro wx hb
        intro K hK
        go_simp
        exact hK _ _ rfl ⟨rfl, rfl⟩
      · intro wx hb
        intro K hK
        go_simp
        exact hK _ _ rfl ⟨rfl, rfl⟩
      · intro wx hb
        intro g hg hbx
        rintro _ rfl
        intro K hK
        have c0 : wx.cell? ⟨g, 0, none⟩ = some (.int .u64 0) := hbx.cell 0
        have f0 := hbx.free 0
        have c1 : wx.cell? ⟨g, 1, none⟩ = some (.int .u64 0) := hbx.cell 1
        have f1 := hbx.free 1
        clear hb
        go_simp
        exact hK _ _ rfl ((((Stored.start hbx).set 0 _).set 1 _))
      · intro wx hb
        intro g hg hbx
        rintro _ rfl
        intro K hK
        have c0 : wx.cell? ⟨g, 0, none⟩ = some (.int .u64 0) := hbx.cell 0
        have f0 := hbx.free 0
        have c1 : wx.cell? ⟨g, 1, none⟩ = some (.int .u64 0) := hbx.cell 1
        have f1 := hbx.free 1
        clear hb
        go_simp
        exact hK _ _ rfl ((((Stored.start hbx).set 0 _).set 1 _))
      intro w4 B4
      rintro _ rfl
      rintro _ rfl
      rintro _ rfl
      rintro _ rfl
      rintro _ rfl
      rintro _ rfl
      rintro _ rfl
      rintro _ rfl
      intro gx hgx Bx
      intro gy hgy By
      rintro -
      simp only [Act.put, List.setIfInBounds_toArray, List.set_cons_zero, List.set_cons_succ, List.toList_toArray, List.length_cons, List.length_nil, List.drop_succ_cons, List.drop_zero, List.drop_nil, Nat.zero_add, wpList]
      have HPD4 := Lib.hid (HPD3.out.below B4 HPD3.out.lt)
      have BW4 := Lib.hid (bkeep BW3.out B4)
      clear B4
      go_upto_region 10 with fail
      refine region_lin0 (.val (fun v _ => v = .int .u32 (j : Int)) :: .val (fun v _ => v = .int .i64 (j : Int)) :: .val (fun v _ => v = .int .i64 (n : Int)) :: .val (fun v _ => v = .int .i64 (n : Int)) :: [])
        ([] :: [(39, 0)] :: [(40, 1)] :: [(41, 2)] :: []) ((0, 0) :: (0, 0) :: (0, 0) :: (0, 0) :: []) 77 (by kernel_rfl) rfl rfl (by kernel_rfl) ⟨Stab.pure _ _ _, Stab.pure _ _ _, Stab.pure _ _ _, Stab.pure _ _ _, trivial⟩ ⟨?_, ?_, ?_, ?_, trivial⟩ ?_
      · intro wx hb
        intro K hK
        go_simp
        exact hK _ _ rfl ⟨rfl, Below.refl _ _⟩
      · intro wx hb
        rintro _ rfl
        intro K hK
        have wz := IntWalk.i64_in (j : Int) ⟨by omega, by omega⟩
        go_simp
        exact hK _ _ rfl ⟨rfl, Below.refl _ _⟩
      · intro wx hb
        rintro _ rfl
        intro K hK
        go_wp2_with fail; exact hK _ _ rfl ⟨congrArg (Value.int .i64) (by have := hn.out; omega), Below.refl _ _⟩
      · intro wx hb
        rintro _ rfl
        intro K hK
        go_simp
        exact hK _ _ rfl ⟨rfl, Below.refl _ _⟩
      intro w5 B5
      have Bx := Box.below Bx B5 (Box.lt Bx)
      have By := Box.below By B5 (Box.lt By)
      rintro _ rfl
      rintro _ rfl
      rintro _ rfl
      rintro _ rfl
      rintro -
      simp only [Act.put, List.setIfInBounds_toArray, List.set_cons_zero, List.set_cons_succ, List.toList_toArray, List.length_cons, List.length_nil, List.drop_succ_cons, List.drop_zero, List.drop_nil, Nat.zero_add, wpList]
      have HPD5 := Lib.hid (HPD4.out.below B5 HPD4.out.lt)
      have BW5 := Lib.hid (bkeep BW4.out B5)
      clear B5
      go_upto_region 11 with fail
      refine region_lin (.val (fun v _ => v = .string x) :: .val (Sl 5 ((bi x).map (.int .u8)) x.size) :: .val (fun v _ => v = .agg #[.int .u64 t1, .int .u64 t2]) :: .val (fun v _ => v = .int .i8 k) :: .val (fun v _ => v = .int .i64 k) :: .val (fun v _ => v = .agg #[.int .u64 k1_, .int .u64 k2_]) :: .val (fun v _ => v = .string tx) :: .val (Sl 5 ((bi tx).map (.int .u8)) tx.size) :: .val (fun v _ => v = .agg #[.int .u64 k1_, .int .u64 k2_]) :: .val (fun v _ => v = .bool true) :: .val (fun v _ => v = .bool true) :: .val (fun v _ => v = .agg #[.int .u64 d1, .int .u64 d2]) :: .val (fun v _ => v = .int .u32 (i : Int)) :: .val (fun v _ => v = .int .i64 (i : Int)) :: .val (fun v _ => v = .int .u32 (j : Int)) :: .val (fun v _ => v = .int .i64 (j : Int)) :: .val (fun v _ => v = .int .i64 ((i : Int) + j)) :: .val (fun v _ => v = .agg #[.int .u64 s1, .int .u64 s2]) :: .val (fun v _ => v = .agg #[.int .u64 p1, .int .u64 p2]) :: .val (fun v _ => v = .agg #[.int .u64 q1, .int .u64 q2]) :: .val (fun v _ => v = .agg #[.int .u64 s1, .int .u64 s2]) :: .val (fun v _ => v = .bool true) :: .val (fun v _ => v = .bool true) :: .val (fun v _ => v = .bool true) :: .val (fun v _ => v = .agg #[.int .u64 p1, .int .u64 p2]) :: .val (fun v _ => v = .int .i64 (n : Int)) :: .val (fun v _ => v = .agg #[.int .u64 m1, .int .u64 m2]) :: .val (fun v _ => v = .agg #[.int .u64 d1, .int .u64 d2]) :: .val (fun v _ => v = .int .u32 (i : Int)) :: .val (fun v _ => v = .int .i64 (i : Int)) :: .val (fun v _ => v = .int .i64 (n : Int)) :: .val (fun v _ => v = .int .i64 ((i : Int) * n)) :: .val (fun v _ => v = .agg #[.int .u64 m1, .int .u64 m2]) :: .val (fun v _ => v = .bool true) :: .val (fun v _ => v = .bool true) :: .val (fun v _ => v = .bool true) :: [])
        ([] :: [(42, 0)] :: [(43, 1)] :: [] :: [(45, 3)] :: [(44, 2), (46, 4)] :: [] :: [(48, 6)] :: [(49, 7)] :: [(47, 5), (50, 8)] :: [(51, 9)] :: [(52, 10)] :: [(52, 10)] :: [(54, 12), (52, 10)] :: [(52, 10)] :: [(56, 14), (52, 10)] :: [(55, 13), (57, 15), (52, 10)] :: [(53, 11), (58, 16), (52, 10)] :: [(52, 10)] :: [(52, 10)] :: [(60, 18), (61, 19), (52, 10)] :: [(59, 17), (62, 20), (52, 10)] :: [(52, 10), (63, 21)] :: [(64, 22)] :: [(65, 23)] :: [(65, 23)] :: [(66, 24), (67, 25), (65, 23)] :: [(65, 23)] :: [(65, 23)] :: [(70, 28), (65, 23)] :: [(65, 23)] :: [(71, 29), (72, 30), (65, 23)] :: [(69, 27), (73, 31), (65, 23)] :: [(68, 26), (74, 32), (65, 23)] :: [(65, 23), (75, 33)] :: [(76, 34)] :: []) ((0, 0) :: (0, 0) :: (0, 0) :: (0, 0) :: (0, 0) :: (0, 0) :: (0, 0) :: (0, 0) :: (0, 0) :: (0, 0) :: (0, 0) :: (0, 0) :: (0, 0) :: (0, 0) :: (0, 0) :: (0, 0) :: (0, 0) :: (0, 0) :: (0, 0) :: (0, 0) :: (0, 0) :: (0, 0) :: (0, 0) :: (0, 0) :: (0, 0) :: (0, 0) :: (0, 0) :: (0, 0) :: (0, 0) :: (0, 0) :: (0, 0) :: (0, 0) :: (0, 0) :: (0, 0) :: (0, 0) :: (0, 0) :: []) 77 (by kernel_rfl) rfl rfl (by kernel_rfl) ⟨Stab.pure _ _ _, (Sl.stab (by simp [tysOf])), Stab.pure _ _ _, Stab.pure _ _ _, Stab.pure _ _ _, Stab.pure _ _ _, Stab.pure _ _ _, (Sl.stab (by simp [tysOf])), Stab.pure _ _ _, Stab.pure _ _ _, Stab.pure _ _ _, Stab.pure _ _ _, Stab.pure _ _ _, Stab.pure _ _ _, Stab.pure _ _ _, Stab.pure _ _ _, Stab.pure _ _ _, Stab.pure _ _ _, Stab.pure _ _ _, Stab.pure _ _ _, Stab.pure _ _ _, Stab.pure _ _ _, Stab.pure _ _ _, Stab.pure _ _ _, Stab.pure _ _ _, Stab.pure _ _ _, Stab.pure _ _ _, Stab.pure _ _ _, Stab.pure _ _ _, Stab.pure _ _ _, Stab.pure _ _ _, Stab.pure _ _ _, Stab.pure _ _ _, Stab.pure _ _ _, Stab.pure _ _ _, Stab.pure _ _ _, trivial⟩ ⟨?_, ?_, ?_, ?_, ?_, ?_, ?_, ?_, ?_, ?_, ?_, ?_, ?_, ?_, ?_, ?_, ?_, ?_, ?_, ?_, ?_, ?_, ?_, ?_, ?_, ?_, ?_, ?_, ?_, ?_, ?_, ?_, ?_, ?_, ?_, ?_, trivial⟩ ?_
      · intro wx hb
        intro K hK
        go_simp
        exact hK _ _ rfl ⟨rfl, Below.refl _ _⟩
      · intro wx hb
        rintro _ rfl
        intro K hK
        go_simp; exact hK _ _ rfl ⟨Sl.conv _ _ _ _, below_bytes _ _ _⟩
      · intro wx hb
        intro v43 h43
        intro K hK
        obtain ⟨A, c, rfl, ra⟩ := h43.row
        go_simp
        (with_reducible refine (T1.out _ _ _ ra).mono ?_)
        rintro e wa ⟨rfl, Ba⟩
        exact hK _ _ rfl ⟨rfl, Ba⟩
      · intro wx hb
        intro K hK
        go_simp
        exact hK _ _ rfl ⟨rfl, Below.refl _ _⟩
      · intro wx hb
        rintro _ rfl
        intro K hK
        have wz := IntWalk.i64_in k ⟨by omega, by omega⟩
        go_simp
        exact hK _ _ rfl ⟨rfl, Below.refl _ _⟩
      · intro wx hb
        rintro _ rfl
        rintro _ rfl
        intro K hK
        go_simp
        (with_reducible refine (R6.out _).mono ?_)
        rintro e wa ⟨rfl, Ba⟩
        exact hK _ _ rfl ⟨rfl, Ba⟩
      · intro wx hb
        intro K hK
        go_simp
        exact hK _ _ rfl ⟨rfl, Below.refl _ _⟩
      · intro wx hb
        rintro _ rfl
        intro K hK
        go_simp; exact hK _ _ rfl ⟨Sl.conv _ _ _ _, below_bytes _ _ _⟩
      · intro wx hb
        intro v49 h49
        intro K hK
        obtain ⟨A, c, rfl, ra⟩ := h49.row
        go_simp
        (with_reducible refine (TX.out _ _ _ ra).mono ?_)
        rintro e wa ⟨rfl, Ba⟩
        exact hK _ _ rfl ⟨rfl, Ba⟩
      · intro wx hb
        rintro _ rfl
        rintro _ rfl
        intro K hK
        go_simp
        exact hK _ _ rfl ⟨rfl, Below.refl _ _⟩
      · intro wx hb
        rintro _ rfl
        intro K hK
        go_simp
        exact hK _ _ rfl ⟨rfl, Below.refl _ _⟩
      · intro wx hb
        rintro _ rfl
        refine ⟨fun _ => ?_, fun h => absurd (show true = false from h) (by decide)⟩
        intro K hK
        have mm := Box.below (HPD5.out) hb (Box.lt (HPD5.out))
        have m0 : wx.cell? ⟨w.heap.size, 0, none⟩ = some (.int .u64 d1) := mm.cell 0
        have m1 : wx.cell? ⟨w.heap.size, 1, none⟩ = some (.int .u64 d2) := mm.cell 1
        clear mm
        go_simp
        exact hK _ _ rfl ⟨rfl, Below.refl _ _⟩
      · intro wx hb
        rintro _ rfl
        refine ⟨fun _ => ?_, fun h => absurd (show true = false from h) (by decide)⟩
        intro K hK
        go_simp
        exact hK _ _ rfl ⟨rfl, Below.refl _ _⟩
      · intro wx hb
        rintro _ rfl
        rintro _ rfl
        refine ⟨fun _ => ?_, fun h => absurd (show true = false from h) (by decide)⟩
        intro K hK
        have wz := IntWalk.i64_in (i : Int) ⟨by omega, by omega⟩
        go_simp
        exact hK _ _ rfl ⟨rfl, Below.refl _ _⟩
      · intro wx hb
        rintro _ rfl
        refine ⟨fun _ => ?_, fun h => absurd (show true = false from h) (by decide)⟩
        intro K hK
        go_simp
        exact hK _ _ rfl ⟨rfl, Below.refl _ _⟩
      · intro wx hb
        rintro _ rfl
        rintro _ rfl
        refine ⟨fun _ => ?_, fun h => absurd (show true = false from h) (by decide)⟩
        intro K hK
        have wz := IntWalk.i64_in (j : Int) ⟨by omega, by omega⟩
        go_simp
        exact hK _ _ rfl ⟨rfl, Below.refl _ _⟩
      · intro wx hb
        rintro _ rfl
        rintro _ rfl
        rintro _ rfl
        refine ⟨fun _ => ?_, fun h => absurd (show true = false from h) (by decide)⟩
        intro K hK
        have wz := IntWalk.i64_in ((i : Int) + j) ⟨by omega, by omega⟩
        go_simp
        exact hK _ _ rfl ⟨rfl, Below.refl _ _⟩
      · intro wx hb
        rintro _ rfl
        rintro _ rfl
        rintro _ rfl
        refine ⟨fun _ => ?_, fun h => absurd (show true = false from h) (by decide)⟩
        intro K hK
        go_simp
        (with_reducible refine (R3.out _).mono ?_)
        rintro e wa ⟨rfl, Ba⟩
        exact hK _ _ rfl ⟨rfl, Ba⟩
      · intro wx hb
        rintro _ rfl
        refine ⟨fun _ => ?_, fun h => absurd (show true = false from h) (by decide)⟩
        intro K hK
        have mm := Box.below (Bx) hb (Box.lt (Bx))
        have m0 : wx.cell? ⟨gx, 0, none⟩ = some (.int .u64 p1) := mm.cell 0
        have m1 : wx.cell? ⟨gx, 1, none⟩ = some (.int .u64 p2) := mm.cell 1
        clear mm
        go_simp
        exact hK _ _ rfl ⟨rfl, Below.refl _ _⟩
      · intro wx hb
        rintro _ rfl
        refine ⟨fun _ => ?_, fun h => absurd (show true = false from h) (by decide)⟩
        intro K hK
        have mm := Box.below (By) hb (Box.lt (By))
        have m0 : wx.cell? ⟨gy, 0, none⟩ = some (.int .u64 q1) := mm.cell 0
        have m1 : wx.cell? ⟨gy, 1, none⟩ = some (.int .u64 q2) := mm.cell 1
        clear mm
        go_simp
        exact hK _ _ rfl ⟨rfl, Below.refl _ _⟩
      · intro wx hb
        rintro _ rfl
        rintro _ rfl
        rintro _ rfl
        refine ⟨fun _ => ?_, fun h => absurd (show true = false from h) (by decide)⟩
        intro K hK
        go_simp
        (with_reducible refine (J.out _).mono ?_)
        rintro e wa ⟨rfl, Ba⟩
        exact hK _ _ rfl ⟨rfl, Ba⟩
      · intro wx hb
        rintro _ rfl
        rintro _ rfl
        rintro _ rfl
        refine ⟨fun _ => ?_, fun h => absurd (show true = false from h) (by decide)⟩
        intro K hK
        go_simp
        exact hK _ _ rfl ⟨rfl, Below.refl _ _⟩
      · intro wx hb
        rintro _ rfl
        rintro _ rfl
        intro K hK
        go_simp
        exact hK _ _ rfl ⟨rfl, Below.refl _ _⟩
      · intro wx hb
        rintro _ rfl
        intro K hK
        go_simp
        exact hK _ _ rfl ⟨rfl, Below.refl _ _⟩
      · intro wx hb
        rintro _ rfl
        refine ⟨fun _ => ?_, fun h => absurd (show true = false from h) (by decide)⟩
        intro K hK
        have mm := Box.below (Bx) hb (Box.lt (Bx))
        have m0 : wx.cell? ⟨gx, 0, none⟩ = some (.int .u64 p1) := mm.cell 0
        have m1 : wx.cell? ⟨gx, 1, none⟩ = some (.int .u64 p2) := mm.cell 1
        clear mm
        go_simp
        exact hK _ _ rfl ⟨rfl, Below.refl _ _⟩
      · intro wx hb
        rintro _ rfl
        refine ⟨fun _ => ?_, fun h => absurd (show true = false from h) (by decide)⟩
        intro K hK
        go_simp
        exact hK _ _ rfl ⟨rfl, Below.refl _ _⟩
      · intro wx hb
        rintro _ rfl
        rintro _ rfl
        rintro _ rfl
        refine ⟨fun _ => ?_, fun h => absurd (show true = false from h) (by decide)⟩
        intro K hK
        go_simp
        (with_reducible refine (R4.out _).mono ?_)
        rintro e wa ⟨rfl, Ba⟩
        exact hK _ _ rfl ⟨rfl, Ba⟩
      · intro wx hb
        rintro _ rfl
        refine ⟨fun _ => ?_, fun h => absurd (show true = false from h) (by decide)⟩
        intro K hK
        have mm := Box.below (HPD5.out) hb (Box.lt (HPD5.out))
        have m0 : wx.cell? ⟨w.heap.size, 0, none⟩ = some (.int .u64 d1) := mm.cell 0
        have m1 : wx.cell? ⟨w.heap.size, 1, none⟩ = some (.int .u64 d2) := mm.cell 1
        clear mm
        go_simp
        exact hK _ _ rfl ⟨rfl, Below.refl _ _⟩
      · intro wx hb
        rintro _ rfl
        refine ⟨fun _ => ?_, fun h => absurd (show true = false from h) (by decide)⟩
        intro K hK
        go_simp
        exact hK _ _ rfl ⟨rfl, Below.refl _ _⟩
      · intro wx hb
        rintro _ rfl
        rintro _ rfl
        refine ⟨fun _ => ?_, fun h => absurd (show true = false from h) (by decide)⟩
        intro K hK
        have wz := IntWalk.i64_in (i : Int) ⟨by omega, by omega⟩
        go_simp
        exact hK _ _ rfl ⟨rfl, Below.refl _ _⟩
      · intro wx hb
        rintro _ rfl
        refine ⟨fun _ => ?_, fun h => absurd (show true = false from h) (by decide)⟩
        intro K hK
        go_simp
        exact hK _ _ rfl ⟨rfl, Below.refl _ _⟩
      · intro wx hb
        rintro _ rfl
        rintro _ rfl
        rintro _ rfl
        refine ⟨fun _ => ?_, fun h => absurd (show true = false from h) (by decide)⟩
        intro K hK
        have wz := IntWalk.i64_in ((i : Int) * n) ⟨(by have := Int.mul_nonneg (Int.natCast_nonneg i) (Int.natCast_nonneg n); omega), (by have h := Int.ofNat_le.2 (Nat.le_of_lt in1); rw [Int.natCast_mul] at h; omega)⟩; clear in1; go_wp2_with fail; exact hK _ _ rfl ⟨rfl, Below.refl _ _⟩
      · intro wx hb
        rintro _ rfl
        rintro _ rfl
        rintro _ rfl
        refine ⟨fun _ => ?_, fun h => absurd (show true = false from h) (by decide)⟩
        intro K hK
        go_simp
        (with_reducible refine (R5.out _).mono ?_)
        rintro e wa ⟨rfl, Ba⟩
        exact hK _ _ rfl ⟨rfl, Ba⟩
      · intro wx hb
        rintro _ rfl
        rintro _ rfl
        rintro _ rfl
        refine ⟨fun _ => ?_, fun h => absurd (show true = false from h) (by decide)⟩
        intro K hK
        go_simp
        exact hK _ _ rfl ⟨rfl, Below.refl _ _⟩
      · intro wx hb
        rintro _ rfl
        rintro _ rfl
        intro K hK
        go_simp
        exact hK _ _ rfl ⟨rfl, Below.refl _ _⟩
      · intro wx hb
        rintro _ rfl
        intro K hK
        go_simp
        exact hK _ _ rfl ⟨rfl, Below.refl _ _⟩
      intro w6 B6
      rintro _ rfl
      intro v43 h43
      rintro _ rfl
      rintro _ rfl
      rintro _ rfl
      rintro _ rfl
      rintro _ rfl
      intro v49 h49
      rintro _ rfl
      rintro _ rfl
      rintro _ rfl
      rintro _ rfl
      rintro _ rfl
      rintro _ rfl
      rintro _ rfl
      rintro _ rfl
      rintro _ rfl
      rintro _ rfl
      rintro _ rfl
      rintro _ rfl
      rintro _ rfl
      rintro _ rfl
      rintro _ rfl
      rintro _ rfl
      rintro _ rfl
      rintro _ rfl
      rintro _ rfl
      rintro _ rfl
      rintro _ rfl
      rintro _ rfl
      rintro _ rfl
      rintro _ rfl
      rintro _ rfl
      rintro _ rfl
      rintro _ rfl
      rintro _ rfl
      rintro -
      simp only [Act.put, List.setIfInBounds_toArray, List.set_cons_zero, List.set_cons_succ, List.toList_toArray, List.length_cons, List.length_nil, List.drop_succ_cons, List.drop_zero, List.drop_nil, Nat.zero_add, wpList]
      have BW6 := Lib.hid (bkeep BW5.out B6)
      go_wp2_with fail
      go_ret
      exact ⟨rfl, BW6.out⟩

theorem law_reps (s : ByteArray) (hs : s.size ≤ 9223372036854775807) (k : Int) (k0 : -128 ≤ k) (k1 : k ≤ 127) (d1 d2 : Int) (hd : DigOk d1 d2) (i j : Int) (i0 : 0 ≤ i) (i1 : i ≤ 4294967295) (j0 : 0 ≤ j) (j1 : j ≤ 4294967295) (w : World) :
    Calls Try.prog 7 #[.string s, .int .i8 k, .agg #[.int .u64 d1, .int .u64 d2], .int .u32 i, .int .u32 j] w fun e w' => e = .returned (.bool true) ∧ Below w.heap.size w w' := by
  obtain ⟨i, rfl⟩ := Int.eq_ofNat_of_zero_le i0
  obtain ⟨j, rfl⟩ := Int.eq_ofNat_of_zero_le j0
  have hn : j % 1073741824 < 1073741824 := Nat.mod_lt _ (by omega)
  have hin : i * (j % 1073741824) < 4611686018427387904 := by
    have h1 : i * (j % 1073741824) ≤ 4294967295 * 1073741823 := Nat.mul_le_mul (by omega) (by omega)
    omega
  have hx : (s.extract 0 (min s.size 9)).size ≤ 9 := by simp; omega
  have hxs : (s.extract 0 (min s.size 9)).size ≤ 9223372036854775807 := by omega
  generalize hX : s.extract 0 (min s.size 9) = x at *
  have up := u_rD (d1, d2) i
  have ud := u_dof (bi x)
  refine reps_of s x hs _ (Lib.hid rfl) (Lib.hid hX.symm) hx k k0 k1 d1 d2 i j (j % 1073741824) (by omega) (by omega) (Lib.hid rfl) hn w (rD (d1, d2) i).1 (rD (d1, d2) i).2 (rD (d1, d2) j).1 (rD (d1, d2) j).2 (rD (d1, d2) (i + j)).1 (rD (d1, d2) (i + j)).2
    (rD (d1, d2) (i * (j % 1073741824))).1 (rD (d1, d2) (i * (j % 1073741824))).2 (dOf (bi x)).1 (dOf (bi x)).2 (rD (dOf (bi x)) k.toNat).1 (rD (dOf (bi x)) k.toNat).2 hin
    (Lib.hid fun W => rep_nat d1 d2 i (by omega) hd.va hd.sc W) (Lib.hid fun W => rep_nat d1 d2 j (by omega) hd.va hd.sc W) (Lib.hid fun W => ?_) (Lib.hid fun W => ?_) (Lib.hid fun W => ?_) (Lib.hid fun W => rep_any _ _ k (by omega) (by omega) ud.1 ud.2 W)
    (Lib.hid fun W => ?_) (Lib.hid fun c A W h => of_str x hxs c A W h) (Lib.hid fun tx ht hl c A W h => ?_)
  · have h := rep_nat d1 d2 (i + j) (by omega) hd.va hd.sc W
    rwa [Int.natCast_add] at h
  · have h := rep_nat _ _ (j % 1073741824) (by omega) up.1 up.2 W
    rw [show ((rD (d1, d2) i).1, (rD (d1, d2) i).2) = rD (d1, d2) i from rfl, rD_mul] at h
    exact h
  · have h := rep_nat d1 d2 (i * (j % 1073741824)) (by omega) hd.va hd.sc W
    rwa [Int.natCast_mul] at h
  · have h := join_any _ _ _ _ up.1 up.2 (u_rD (d1, d2) j).1 (u_rD (d1, d2) j).2 W
    rw [rD_add]
    exact h
  · have h' := rof_str tx (by omega) c A W h
    rw [ht, dOf_rep] at h'
    exact h'
end Go.Proofs.Ytebjdlimboifaaa
