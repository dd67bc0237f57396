/- Plain laws of the digest of a row; the walks of cut, and of the reference's Of. -/
import Derived.Test.YtebjdlimboifaaaSl
import Derived.Test.YtebjdlimboifaaaDigOf
import Derived.Test.YtebjdlimboifaaaDigRef
import Derived.WalkSpells
import Derived.WalkLawsBesides
import Derived.Deep.DeepCutAuto
namespace Go.Proofs.Ytebjdlimboifaaa
set_option linter.unusedVariables false
set_option linter.unusedSimpArgs false
open Go.RowKit Go.Lib

theorem snocRec {α : Type} {p : List α → Prop} (m : List α) (nil : p []) (snoc : ∀ m b, p m → p (m ++ [b])) : p m := by
  have key : ∀ n (l : List α), l.length = n → p l := by
    intro n
    induction n with
    | zero => intro l h; rw [List.eq_nil_of_length_eq_zero h]; exact nil
    | succ n ih =>
      intro l h
      rcases List.eq_nil_or_concat l with rfl | ⟨l', b, rfl⟩
      · simp at h
      · rw [List.concat_eq_append] at h ⊢
        exact snoc l' b (ih l' (by simpa using h))
  exact key _ m rfl
theorem dOf_snoc (l : List Int) (b : Int) : dOf (l ++ [b]) = dStep (dOf l) b := by unfold dOf; rw [List.foldl_append]; rfl
theorem red_id (l : List Int) : red (dOf l).1 = (dOf l).1 ∧ red (dOf l).2 = (dOf l).2 ∧ 0 ≤ (dOf l).1 ∧ (dOf l).1 < 2305843009213693951 ∧ 0 ≤ (dOf l).2 ∧ (dOf l).2 < 2305843009213693951 := by
  have key : 0 ≤ (dOf l).1 ∧ (dOf l).1 < 2305843009213693951 ∧ 0 ≤ (dOf l).2 ∧ (dOf l).2 < 2305843009213693951 := by
    rcases List.eq_nil_or_concat l with rfl | ⟨l', b, rfl⟩
    · simp [dOf]
    · rw [List.concat_eq_append, dOf_snoc]
      exact ⟨red_lo _, red_hi _, red_lo _, red_hi _⟩
  exact ⟨red_small _ key.1 key.2.1, red_small _ key.2.2.1 key.2.2.2, key⟩
theorem dOf_append (l m : List Int) : dOf (l ++ m) = (red ((dOf l).1 * (dOf m).2 + (dOf m).1), red ((dOf l).2 * (dOf m).2)) := by
  induction m using snocRec with
  | nil =>
    have h := red_id l
    simp [dOf] at h ⊢
    exact Prod.ext h.1.symm h.2.1.symm
  | snoc m b ih =>
    rw [← List.append_assoc, dOf_snoc, ih, dOf_snoc]
    unfold dStep
    simp only
    refine Prod.ext ?_ ?_
    · simp only
      rw [red_add_r, ← red_add_l (red (_ + _) * _), red_mul_l, red_add_l, ← red_add_l ((dOf l).1 * _), red_mul_r, red_add_l]
      congr 1
      rw [Int.add_mul, Int.mul_assoc]
      omega
    · simp only
      rw [red_mul_l, red_mul_r, Int.mul_assoc]
theorem dOf_cons (b : Int) (m : List Int) : dOf (b :: m) = (red ((dOf m).1 + red ((b + 1) * (dOf m).2)), red ((dOf m).2 * 1103515245)) := by
  have h := dOf_append [b] m
  rw [List.singleton_append] at h
  rw [h]
  have e : dOf [b] = (red (b + 1), red 1103515245) := by simp [dOf, dStep]
  rw [e]
  refine Prod.ext ?_ ?_
  · simp only
    rw [← red_add_l, red_mul_l, Int.add_comm]
  · simp only
    rw [red_mul_l, Int.mul_comm]

theorem Box.new_ {w : World} {g : Nat} {t : TypeId} {cs : Array Value} (hg : g = w.heap.size) : Box (w.alloc (.cells cs t)) g t cs := by subst hg; exact Box.new w t cs
theorem dOf_drop (l : List Int) (j : Nat) (hj : j < l.length) (V S : Int) (h : (V, S) = dOf (l.drop (j + 1))) : (red (V + red ((l[j] + 1) * S)), red (S * 1103515245)) = dOf (l.drop j) := by
  rw [List.drop_eq_getElem_cons hj, dOf_cons, ← h]

attribute [local go_sem ↓] Go.wp_at_zero Go.wp_at_succ
set_option maxHeartbeats 2000000 in
theorem rof_any (l : List Int) (n c : Nat) (A : Option Addr) (hl : l.length = n) (hn : n ≤ 9223372036854775807) (hb : U8s l) (w : World) (ha : RowAt w A (vb l)) :
    Calls Try.prog 14 #[.slice A n c] w fun e w' => e = .returned (.agg #[.int .u64 (dOf l).1, .int .u64 (dOf l).2]) ∧ Below w.heap.size w w' := by
  have HA := Lib.hid ha; have HL := Lib.hid hl; have HB := Lib.hid hb
  clear ha hl hb
  have z1 : w.heap.size < w.heap.size + 1 + 1 := by omega
  go_enter Try.func14, Try.ntmps14
  go_wp2_with fail
  go_loopw [4] (fun si wr => ∃ (k : Nat) (V S : Int), si = .int .i64 ((k : Int) - 1) ∧ k ≤ n ∧ Hid ((V, S) = dOf (l.drop k)) ∧ Hid (Box wr w.heap.size 26 #[.int .u64 0, .int .u64 0]) ∧ Hid (Box wr (w.heap.size + 1) 26 #[.int .u64 V, .int .u64 S]) ∧ Hid (Below w.heap.size w wr)) (fun si _ => (intOf si + 1).toNat)
  case atStart =>
    refine ⟨n, 0, 1, rfl, by omega, Lib.hid (by rw [List.drop_eq_nil_of_le (by rw [HL.out]; exact Nat.le_refl _)]; rfl), Lib.hid ?_, Lib.hid ?_, Lib.hid ?_⟩
    · exact (Box.new w _ _).alloc _
    · exact Box.new_ (by simp)
    · exact balloc (balloc (Below.refl _ _) _) _
  case round =>
    obtain ⟨k, V, S, rfl, hk, H, BX, DX, BW⟩ := hrel
    have glt := DX.out.lt
    by_cases hlt : 0 < k
    · obtain ⟨j, rfl⟩ : ∃ j, k = j + 1 := ⟨k - 1, by omega⟩
      have ej : ((j + 1 : Nat) : Int) - 1 = (j : Int) := by omega
      rw [ej]
      clear ej
      have hkl : j < l.length := by rw [HL.out]; omega
      obtain ⟨ad, rfl, g1, c1⟩ := HA.out.get (vb_get hkl)
      obtain ⟨b0, b1⟩ := HB.out _ (List.getElem_mem hkl)
      have H2 := Lib.hid (dOf_drop l j hkl V S H.out)
      have hV := red_id (l.drop (j + 1))
      rw [← H.out] at hV
      obtain ⟨-, -, v0, v1, s0, s1⟩ := hV
      obtain ⟨z, hz⟩ : ∃ z, z = l[j] := ⟨_, rfl⟩
      rw [← hz] at c1 b0 b1 H2
      have c2 := (BW.out.cell (p := ad.add j) (by rw [block_add]; exact g1)).trans c1
      have g2 : (ad.add j).block < wr.heap.size := cell_lt c2
      clear hz H c1
      have r0 := red_lo ((z + 1) * S); have r1 := red_hi ((z + 1) * S)
      have j0 : (0 : Int) ≤ j := by omega
      have j1 : (j : Int) < n := by omega
      go_upto_region 5 with fail
      refine region_lin (.val (fun v _ => v = .pointer (some ⟨(w.heap.size + 1), 0, none⟩)) :: .val (fun v _ => v = .int .u64 V) :: .val (fun v _ => v = .slice (some ad) n c) :: .val (fun v _ => v = .int .i64 j) :: .val (fun v _ => v = .pointer (some (ad.add j))) :: .val (fun v _ => v = .int .u8 z) :: .val (fun v _ => v = .int .u64 z) :: .val (fun v _ => v = .int .u64 (z + 1)) :: .val (fun v _ => v = .pointer (some ⟨(w.heap.size + 1), 1, none⟩)) :: .val (fun v _ => v = .int .u64 S) :: .val (fun v _ => v = .int .u64 (red ((z + 1) * S))) :: .val (fun v _ => v = .int .u64 (red (V + red ((z + 1) * S)))) :: .val (fun v _ => v = .pointer (some ⟨(w.heap.size + 1), 0, none⟩)) :: [])
        ([] :: [(13, 0)] :: [] :: [] :: [(15, 2), (16, 3)] :: [(17, 4)] :: [(18, 5)] :: [(19, 6)] :: [] :: [(21, 8)] :: [(20, 7), (22, 9)] :: [(14, 1), (23, 10)] :: [] :: []) ((0, 0) :: (0, 0) :: (0, 0) :: (0, 0) :: (0, 0) :: (0, 0) :: (0, 0) :: (0, 0) :: (0, 0) :: (0, 0) :: (0, 0) :: (0, 0) :: (0, 0) :: []) 31 (by kernel_rfl) rfl rfl (by kernel_rfl) ⟨Stab.pure _ _ _, Stab.pure _ _ _, Stab.pure _ _ _, Stab.pure _ _ _, Stab.pure _ _ _, Stab.pure _ _ _, Stab.pure _ _ _, Stab.pure _ _ _, Stab.pure _ _ _, Stab.pure _ _ _, Stab.pure _ _ _, Stab.pure _ _ _, Stab.pure _ _ _, trivial⟩ ⟨?_, ?_, ?_, ?_, ?_, ?_, ?_, ?_, ?_, ?_, ?_, ?_, ?_, trivial⟩ ?_
      · intro wx hb
        intro K hK
        go_simp
        exact hK _ _ rfl ⟨rfl, Below.refl _ _⟩
      · intro wx hb
        rintro _ rfl
        intro K hK
        have mm := Box.below (DX.out) hb (Box.lt (DX.out))
        have m0 : wx.cell? ⟨(w.heap.size + 1), 0, none⟩ = some (.int .u64 V) := mm.cell 0
        have m1 : wx.cell? ⟨(w.heap.size + 1), 1, none⟩ = some (.int .u64 S) := mm.cell 1
        clear mm
        go_simp
        exact hK _ _ rfl ⟨rfl, Below.refl _ _⟩
      · intro wx hb
        intro K hK
        go_simp
        exact hK _ _ rfl ⟨rfl, Below.refl _ _⟩
      · intro wx hb
        intro K hK
        go_simp
        exact hK _ _ rfl ⟨rfl, Below.refl _ _⟩
      · intro wx hb
        rintro _ rfl
        rintro _ rfl
        intro K hK
        go_simp
        exact hK _ _ rfl ⟨rfl, Below.refl _ _⟩
      · intro wx hb
        rintro _ rfl
        intro K hK
        have m := (hb.cell (p := ad.add j) g2).trans c2
        go_simp
        exact hK _ _ rfl ⟨rfl, Below.refl _ _⟩
      · intro wx hb
        rintro _ rfl
        intro K hK
        have wz := IntWalk.u64_in z ⟨by omega, by omega⟩
        go_simp
        exact hK _ _ rfl ⟨rfl, Below.refl _ _⟩
      · intro wx hb
        rintro _ rfl
        intro K hK
        have wz := IntWalk.u64_in (z + 1) ⟨by omega, by omega⟩
        go_simp
        exact hK _ _ rfl ⟨rfl, Below.refl _ _⟩
      · intro wx hb
        intro K hK
        go_simp
        exact hK _ _ rfl ⟨rfl, Below.refl _ _⟩
      · intro wx hb
        rintro _ rfl
        intro K hK
        have mm := Box.below (DX.out) hb (Box.lt (DX.out))
        have m0 : wx.cell? ⟨(w.heap.size + 1), 0, none⟩ = some (.int .u64 V) := mm.cell 0
        have m1 : wx.cell? ⟨(w.heap.size + 1), 1, none⟩ = some (.int .u64 S) := mm.cell 1
        clear mm
        go_simp
        exact hK _ _ rfl ⟨rfl, Below.refl _ _⟩
      · intro wx hb
        rintro _ rfl
        rintro _ rfl
        intro K hK
        go_simp
        (with_reducible refine (rmul_any (z + 1) S (by omega) (by omega) (by omega) (by omega) _).mono ?_)
        rintro e wa ⟨rfl, rfl⟩
        exact hK _ _ rfl ⟨rfl, Below.refl _ _⟩
      · intro wx hb
        rintro _ rfl
        rintro _ rfl
        intro K hK
        go_simp
        (with_reducible refine (radd_any V (red ((z + 1) * S)) (by omega) (by omega) (by omega) _).mono ?_)
        rintro e wa ⟨rfl, rfl⟩
        exact hK _ _ rfl ⟨rfl, Below.refl _ _⟩
      · intro wx hb
        intro K hK
        go_simp
        exact hK _ _ rfl ⟨rfl, Below.refl _ _⟩
      intro w5 B5
      rintro _ rfl
      rintro _ rfl
      rintro _ rfl
      rintro _ rfl
      rintro _ rfl
      rintro _ rfl
      rintro _ rfl
      rintro _ rfl
      rintro _ rfl
      rintro _ rfl
      rintro _ rfl
      rintro _ rfl
      rintro _ rfl
      rintro -
      simp only [Act.put, List.setIfInBounds_toArray, List.set_cons_zero, List.set_cons_succ, List.toList_toArray, List.length_cons, List.length_nil, List.drop_succ_cons, List.drop_zero, List.drop_nil, Nat.zero_add]
      have DX5 := DX.out.below B5 glt
      have d0 : w5.cell? ⟨w.heap.size + 1, 0, none⟩ = some (.int .u64 V) := DX5.cell 0
      have d1 : w5.cell? ⟨w.heap.size + 1, 1, none⟩ = some (.int .u64 S) := DX5.cell 1
      have f0 := DX5.free 0; have f1 := DX5.free 1
      have BX5 := Lib.hid ((BX.out.below B5 BX.out.lt).far (p := ⟨w.heap.size + 1, 0, none⟩) (by simp) (.int .u64 (red (V + red ((z + 1) * S)))))
      have DY5 := Lib.hid (DX5.set_ 0 (.int .u64 (red (V + red ((z + 1) * S)))))
      have BW5 := Lib.hid ((bkeep BW.out B5).setCell (p := ⟨w.heap.size + 1, 0, none⟩) (by simp) (.int .u64 (red (V + red ((z + 1) * S)))))
      clear DX5 B5
      go_wp2_with fail
      (with_reducible refine (rmul_any S 1103515245 (by omega) (by omega) (by omega) (by omega) _).mono ?_)
      rintro e w' ⟨rfl, rfl⟩
      go_wp2_with fail
      go_roundw
      case rel =>
        refine ⟨j, _, _, by go_num, by omega, H2, Lib.hid ?_, Lib.hid ?_, Lib.hid ?_⟩
        · exact BX5.out.far (by simp) _
        · exact DY5.out.set_ 1 _
        · exact BW5.out.setCell (by simp) _
      case measure => simp [intOf] <;> omega
    · obtain rfl : k = 0 := by omega
      have E : Hid ((V, S) = dOf l) := Lib.hid H.out
      have x0 : wr.cell? ⟨w.heap.size, 0, none⟩ = some (.int .u64 0) := BX.out.cell 0
      have x1 : wr.cell? ⟨w.heap.size, 1, none⟩ = some (.int .u64 0) := BX.out.cell 1
      have d0 : wr.cell? ⟨w.heap.size + 1, 0, none⟩ = some (.int .u64 V) := DX.out.cell 0
      have d1 : wr.cell? ⟨w.heap.size + 1, 1, none⟩ = some (.int .u64 S) := DX.out.cell 1
      have g0 := BX.out.free 0; have g1 := BX.out.free 1
      clear H
      go_wp2_with fail
      refine bodyPost_ret (v := .agg #[.int .u64 V, .int .u64 S]) ?_ rfl ⟨by rw [← E.out], ?_⟩
      · simp only [results, Try.results14]
        simp [go_sem, x0, x1]
      · exact (BW.out.setCell (by simp) _).setCell (by simp) _

/-- the first letters of a text -/
def cutS (s : ByteArray) : ByteArray := s.extract 0 (min s.size 300)
theorem cutS_size (s : ByteArray) : (cutS s).size ≤ 300 := by simp [cutS]; omega
theorem cut_any (s : ByteArray) (hs : s.size ≤ 9223372036854775807) (w : World) : Calls Try.prog 12 #[.string s] w fun e w' => e = .returned (.string (cutS s)) ∧ w = w' := by
  by_cases h : s.size ≤ 300
  · have e : s = cutS s := by
      unfold cutS
      rw [Nat.min_eq_left h]
      simp
    have h' : (s.size : Int) ≤ 300 := by omega
    have E := Lib.hid e
    clear e
    go_enter Try.func12, Try.ntmps12
    go_wp2_with fail
    go_ret
    exact ⟨congrArg (fun x => Ending.returned (Value.string x)) E.out, rfl⟩
  · have h' : (300 : Int) < (s.size : Int) := by omega
    have e : cutS s = s.extract 0 300 := by unfold cutS; rw [Nat.min_eq_right (by omega)]
    have E := Lib.hid e
    clear e h
    go_enter Try.func12, Try.ntmps12
    go_wp2_with fail
    go_ret
    exact ⟨congrArg (fun x => Ending.returned (Value.string x)) E.out.symm, rfl⟩
end Go.Proofs.Ytebjdlimboifaaa
