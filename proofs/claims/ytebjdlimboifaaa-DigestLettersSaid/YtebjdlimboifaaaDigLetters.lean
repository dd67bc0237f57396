/- The walk of the law DigestLetters. -/
import Derived.Test.YtebjdlimboifaaaDigRests
import Derived.Deep.DeepCutAuto
import Derived.IntWalk
namespace Go.Proofs.Ytebjdlimboifaaa
set_option linter.unusedVariables false
set_option linter.unusedSimpArgs false
open Go.RowKit Go.Lib

theorem add_zero_none (g j : Nat) : (⟨g, 0, none⟩ : Addr).add j = ⟨g, j, none⟩ := by unfold Addr.add; split <;> simp_all
theorem row_set {w : World} {g : Nat} {xs : List Value} (h : RowAt w (some ⟨g, 0, none⟩) xs) (j : Nat) (u : Value) : RowAt (w.setCell ⟨g, j, none⟩ u) (some ⟨g, 0, none⟩) (xs.set j u) := by
  intro k v hk
  rw [List.getElem?_set] at hk
  by_cases e : j = k
  · subst e
    simp only [if_true] at hk
    split at hk
    · rename_i hl
      cases hk
      obtain ⟨a2, e2, hc⟩ := h j _ (List.getElem?_eq_getElem hl)
      cases e2
      rw [add_zero_none] at hc
      exact ⟨_, rfl, by rw [add_zero_none]; exact World.cell?_setCell_same _ _ _ hc⟩
    · cases hk
  · rw [if_neg e] at hk
    obtain ⟨a2, e2, hc⟩ := h k v hk
    cases e2
    rw [add_zero_none] at hc
    refine ⟨_, rfl, ?_⟩
    rw [add_zero_none]
    exact (World.cell?_setCell_other _ _ _ _ (fun h2 => e (congrArg Addr.off h2))).trans hc
theorem red_zero_small (d : Int) (h : red d = 0) (h0 : -256 < d) (h1 : d < 256) : d = 0 := by unfold red at h; omega
theorem dOf_set (l : List Int) (hl : U8s l) (j : Nat) (hj : j < l.length) (b : Int) (b0 : 0 ≤ b) (b1 : b ≤ 255) :
    (dOf (l.set j b)).2 = (dOf l).2 ∧ ((dOf (l.set j b)).1 = (dOf l).1 ↔ l[j] = b) := by
  have e1 : l = l.take j ++ ([l[j]] ++ l.drop (j + 1)) := by simp
  have e2 : l.set j b = l.take j ++ ([b] ++ l.drop (j + 1)) := by
    rw [List.set_eq_take_append_cons_drop]
    simp [hj]
  obtain ⟨z0, z1⟩ := hl _ (List.getElem_mem hj)
  generalize l[j] = z at *
  generalize hl1 : l.take j = l1 at *
  generalize hl2 : l.drop (j + 1) = l2 at *
  have h1 := congrArg dOf e1; have h2 := congrArg dOf e2
  rw [h2, h1]
  have one : ∀ x, dOf [x] = (red (x + 1), red 1103515245) := fun x => by simp [dOf, dStep]
  have exp : ∀ x, dOf (l1 ++ ([x] ++ l2)) = (red ((dOf l1).1 * red (1103515245 * (dOf l2).2) + ((x + 1) * (dOf l2).2 + (dOf l2).1)), red ((dOf l1).2 * red (1103515245 * (dOf l2).2))) := fun x => by
    rw [dOf_append, dOf_append, one]
    simp only
    rw [red_mul_l 1103515245, red_add_r, ← red_add_r _ (red (x + 1) * _ + _), ← red_add_l (red (x + 1) * _), red_mul_l, red_add_l, red_add_r]
  rw [exp, exp]
  refine ⟨rfl, fun h => ?_, fun h => by rw [h]⟩
  simp only at h
  have hd : red ((z - b) * (dOf l2).2) = 0 := by
    have e3 : (z - b) * (dOf l2).2 = (z + 1) * (dOf l2).2 - (b + 1) * (dOf l2).2 := by rw [← Int.sub_mul]; congr 1; omega
    rw [e3]
    generalize (z + 1) * (dOf l2).2 = p at *
    generalize (b + 1) * (dOf l2).2 = q at *
    unfold red at h ⊢
    omega
  have hz : red (z - b) = 0 := Classical.byContradiction fun hn => red_ne_mul (z - b) _ hn (u_dof l2).2.lo (scale_ne l2) hd
  have := red_zero_small (z - b) hz (by omega) (by omega)
  omega

def tL (s : ByteArray) (j : Nat) (b : Int) : List Int := (bi s).set j b
attribute [local go_sem ↓] Go.wp_at_zero Go.wp_at_succ
set_option maxHeartbeats 4000000 in
theorem letters_of (s : ByteArray) (hs : s.size ≤ 9223372036854775807) (a : Int) (a0 : -9223372036854775808 ≤ a) (a1 : a ≤ 9223372036854775807) (b : Int) (b0 : 0 ≤ b) (b1 : b ≤ 255) (w : World) (t : ByteArray) (ts : t.size ≤ 300) (HC : Hid (∀ w : World, Calls Try.prog 12 #[.string s] w fun e w' => e = .returned (.string t) ∧ w = w'))
    (hn : (t.size == 0) = false) (hn' : ((t.size : Int) == 0) = false) (u : Int) (u0 : 0 ≤ u) (hu : IntKind.u64.wrap a = u) (j : Nat) (hj : u % (t.size : Int) = (j : Int)) (jt : j < t.size) (z : Int) (V S X : Int)
    (D1 : Hid (dOf (bi t) = (V, S))) (D2 : Hid (dOf (tL t j b) = (X, S))) (hz : Hid ((bi t)[j]? = some z)) (hc : (V == X) = (z == b)) (q : Bool) (hq : (z == b) = q) :
    Calls Try.prog 6 #[.string s, .int .i64 a, .int .u8 b] w fun e w' => e = .returned (.bool true) ∧ Below w.heap.size w w' := by
  have kc := fun (w : World) (s : ByteArray) => Lib.run_convert_string_bytes (P := Try.prog) w 9 29 5 s Try.underlying9 Try.underlying29 Try.underlying5
  have HU := Lib.hid hu; have HJ := Lib.hid hj; have HQ := Lib.hid hc; have HB := Lib.hid hq
  clear hu hj hc hq
  go_enter Try.func6, Try.ntmps6
  go_wp2_with fail
  (with_reducible refine (awake_any _).mono ?_)
  rintro e w1 ⟨rfl, B1⟩
  have BW := Lib.hid B1
  clear B1
  go_wp2_with fail
  go_wp2_with fail
  (with_reducible refine (HC.out _).mono ?_)
  rintro e w' ⟨rfl, rfl⟩
  go_upto_region 7 with fail
  refine region_lin0 (.val (fun v _ => v = .int .i64 a) :: .val (fun v _ => v = .int .u64 u) :: .val (fun v _ => v = .string t) :: .val (fun v _ => v = .int .i64 (t.size : Int)) :: .val (fun v _ => v = .int .u64 (t.size : Int)) :: .val (fun v _ => v = .int .u64 (j : Int)) :: .val (fun v _ => v = .int .i64 (j : Int)) :: .val (fun v _ => v = .int .i64 (j : Int)) :: [])
    ([] :: [(20, 0)] :: [] :: [(22, 2)] :: [(23, 3)] :: [(21, 1), (24, 4)] :: [(25, 5)] :: [(26, 6)] :: []) ((0, 0) :: (0, 0) :: (0, 0) :: (0, 0) :: (0, 0) :: (0, 0) :: (0, 0) :: (0, 0) :: []) 54 (by kernel_rfl) rfl rfl (by kernel_rfl) ⟨Stab.pure _ _ _, Stab.pure _ _ _, Stab.pure _ _ _, Stab.pure _ _ _, Stab.pure _ _ _, Stab.pure _ _ _, Stab.pure _ _ _, Stab.pure _ _ _, trivial⟩ ⟨?_, ?_, ?_, ?_, ?_, ?_, ?_, ?_, trivial⟩ ?_
  · intro wx hb
    intro K hK
    go_simp
    exact hK _ _ rfl ⟨rfl, Below.refl _ _⟩
  · intro wx hb
    rintro _ rfl
    intro K hK
    have wz := HU.out
    go_simp
    exact hK _ _ rfl ⟨rfl, Below.refl _ _⟩
  · intro wx hb
    intro K hK
    go_simp
    exact hK _ _ rfl ⟨rfl, Below.refl _ _⟩
  · intro wx hb
    rintro _ rfl
    intro K hK
    go_simp
    exact hK _ _ rfl ⟨rfl, Below.refl _ _⟩
  · intro wx hb
    rintro _ rfl
    intro K hK
    have wz := IntWalk.u64_in (t.size : Int) ⟨by omega, by omega⟩
    go_simp
    exact hK _ _ rfl ⟨rfl, Below.refl _ _⟩
  · intro wx hb
    rintro _ rfl
    rintro _ rfl
    intro K hK
    have nz : ¬ (t.size = 0) := (by omega); go_wp2_with fail; exact hK _ _ rfl ⟨congrArg (Value.int .u64) HJ.out, Below.refl _ _⟩
  · intro wx hb
    rintro _ rfl
    intro K hK
    have wz := IntWalk.i64_in (j : Int) ⟨by omega, by omega⟩
    go_simp
    exact hK _ _ rfl ⟨rfl, Below.refl _ _⟩
  · intro wx hb
    rintro _ rfl
    intro K hK
    go_simp
    exact hK _ _ rfl ⟨rfl, Below.refl _ _⟩
  intro w2 B2
  rintro _ rfl
  rintro _ rfl
  rintro _ rfl
  rintro _ rfl
  rintro _ rfl
  rintro _ rfl
  rintro _ rfl
  rintro _ rfl
  rintro -
  simp only [Act.put, List.setIfInBounds_toArray, List.set_cons_zero, List.set_cons_succ, List.toList_toArray, List.length_cons, List.length_nil, List.drop_succ_cons, List.drop_zero, List.drop_nil, Nat.zero_add, wpList]
  have RW : RowAt w2 (some ⟨w1.heap.size, 0, none⟩) ((bi t).map (.int .u8)) := (row_bytes w1 t).below B2 (Nat.le_refl _)
  have BW2 := Lib.hid (bkeep (bkeep BW.out (below_bytes _ _ _)) B2)
  have lt2 : w1.heap.size < w2.heap.size := by have := B2.size; rw [Lib.bytesWorld_size] at this; omega
  have cj : w2.cell? ⟨w1.heap.size, j, none⟩ = some (.int .u8 z) := by
    obtain ⟨ad, e, _, h⟩ := RW.get (k := j) (u := .int .u8 z) (by rw [List.getElem?_map, hz.out]; rfl)
    cases e
    rwa [add_zero_none] at h
  have fj : w2.frozen? ⟨w1.heap.size, j, none⟩ = false := by
    rw [B2.frozen (p := ⟨w1.heap.size, j, none⟩) (by rw [Lib.bytesWorld_size]; simp)]
    simp only [World.frozen?, Lib.bytesWorld_at_new]
    have : ¬ (Lib.bytesCells w1 5 t).size ≤ j := by simp [Lib.bytesCells]; omega
    simp [this]
  have RW2 := Lib.hid (row_set RW j (.int .u8 b))
  have BW3 := Lib.hid (BW2.out.setCell (p := ⟨w1.heap.size, j, none⟩) BW.out.size (.int .u8 b))
  have hj0 : (0 : Int) ≤ j := by omega
  have hj1 : (j : Int) < t.size := by omega
  clear RW B2
  go_upto_region 9 with fail
  have RW3 : RowAt (w2.setCell ⟨w1.heap.size, j, none⟩ (.int .u8 b)) (some ⟨w1.heap.size, 0, none⟩) (vb (tL t j b)) := by
    have h := RW2.out
    rw [← List.map_set] at h
    exact h
  have TU : U8s (tL t j b) := fun x hx => by
    rcases List.mem_or_eq_of_mem_set hx with h | h
    · exact bi_u8 t x h
    · rw [h]; exact ⟨b0, b1⟩
  have TL : (tL t j b).length = t.size := by unfold tL; rw [List.length_set, bi_len]
  have OX : Hid (∀ (c : Nat) (A : Option Addr) (w : World), RowAt w A ((bi t).map (.int .u8)) → Calls Try.prog 15 #[.slice A t.size c] w fun e w' => e = .returned (.agg #[.int .u64 V, .int .u64 S]) ∧ Below w.heap.size w w') := Lib.hid fun c A w h => by
    have := of_str t (by omega) c A w h
    rwa [D1.out] at this
  have OY : Hid (∀ (c : Nat) (A : Option Addr) (w : World), RowAt w A (vb (tL t j b)) → Calls Try.prog 15 #[.slice A t.size c] w fun e w' => e = .returned (.agg #[.int .u64 X, .int .u64 S]) ∧ Below w.heap.size w w') := Lib.hid fun c A w h => by
    have := of_any (tL t j b) t.size c A TL (by omega) TU w h
    rwa [D2.out] at this
  have RW4 := Lib.hid RW3
  clear RW3 TU TL
  go_upto_region 9 with fail
  refine region_lin0 (.val (fun v _ => v = .string t) :: .val (Sl 5 ((bi t).map (.int .u8)) t.size) :: .val (fun v _ => v = .agg #[.int .u64 V, .int .u64 S]) :: .val (fun v _ => v = .slice (some ⟨w1.heap.size, 0, none⟩) t.size (grownCap w1 t.size 0 5)) :: .val (fun v _ => v = .agg #[.int .u64 X, .int .u64 S]) :: .new 26 #[.int .u64 0, .int .u64 0] #[.int .u64 V, .int .u64 S] 7 :: .new 26 #[.int .u64 0, .int .u64 0] #[.int .u64 X, .int .u64 S] 8 :: .put 26 #[.int .u64 0, .int .u64 0] #[.int .u64 V, .int .u64 S] 9 :: .put 26 #[.int .u64 0, .int .u64 0] #[.int .u64 X, .int .u64 S] 10 :: [])
    ([] :: [(31, 0)] :: [(32, 1)] :: [] :: [(34, 3)] :: [] :: [] :: [(33, 2)] :: [(35, 4)] :: []) ((0, 0) :: (0, 0) :: (0, 0) :: (0, 0) :: (0, 0) :: (1, 7) :: (1, 8) :: (2, 9) :: (2, 10) :: []) 54 (by kernel_rfl) rfl rfl (by kernel_rfl) ⟨Stab.pure _ _ _, (Sl.stab (by simp [tysOf])), Stab.pure _ _ _, Stab.pure _ _ _, Stab.pure _ _ _, ⟨rfl, rfl, rfl⟩, ⟨rfl, rfl, rfl⟩, trivial⟩ ⟨?_, ?_, ?_, ?_, ?_, ?_, ?_, ?_, ?_, trivial⟩ ?_
  · intro wx hb
    intro K hK
    go_simp
    exact hK _ _ rfl ⟨rfl, Below.refl _ _⟩
  · intro wx hb
    rintro _ rfl
    intro K hK
    go_simp; exact hK _ _ rfl ⟨Sl.conv _ _ _ _, below_bytes _ _ _⟩
  · intro wx hb
    intro v32 h32
    intro K hK
    obtain ⟨A, c, rfl, ra⟩ := h32.row
    go_simp
    (with_reducible refine (OX.out _ _ _ ra).mono ?_)
    rintro e wa ⟨rfl, Ba⟩
    exact hK _ _ rfl ⟨rfl, Ba⟩
  · intro wx hb
    intro K hK
    go_simp
    exact hK _ _ rfl ⟨rfl, Below.refl _ _⟩
  · intro wx hb
    rintro _ rfl
    intro K hK
    have ra := RW4.out.below hb (Nat.le_refl _)
    go_simp
    (with_reducible refine (OY.out _ _ _ ra).mono ?_)
    rintro e wa ⟨rfl, Ba⟩
    exact hK _ _ rfl ⟨rfl, Ba⟩
  · intro wx hb
    intro K hK
    go_simp
    exact hK _ _ rfl ⟨rfl, rfl⟩
  · intro wx hb
    intro K hK
    go_simp
    exact hK _ _ rfl ⟨rfl, rfl⟩
  · intro wx hb
    intro g hg hbx
    rintro _ rfl
    intro K hK
    have c0 : wx.cell? ⟨g, 0, none⟩ = some (.int .u64 0) := hbx.cell 0
    have f0 := hbx.free 0
    have c1 : wx.cell? ⟨g, 1, none⟩ = some (.int .u64 0) := hbx.cell 1
    have f1 := hbx.free 1
    clear hb
    go_simp
    exact hK _ _ rfl ((((Stored.start hbx).set 0 _).set 1 _))
  · intro wx hb
    intro g hg hbx
    rintro _ rfl
    intro K hK
    have c0 : wx.cell? ⟨g, 0, none⟩ = some (.int .u64 0) := hbx.cell 0
    have f0 := hbx.free 0
    have c1 : wx.cell? ⟨g, 1, none⟩ = some (.int .u64 0) := hbx.cell 1
    have f1 := hbx.free 1
    clear hb
    go_simp
    exact hK _ _ rfl ((((Stored.start hbx).set 0 _).set 1 _))
  intro w4 B4
  rintro _ rfl
  intro v32 h32
  rintro _ rfl
  rintro _ rfl
  rintro _ rfl
  intro gx hgx Bx
  intro gy hgy By
  rintro -
  simp only [Act.put, List.setIfInBounds_toArray, List.set_cons_zero, List.set_cons_succ, List.toList_toArray, List.length_cons, List.length_nil, List.drop_succ_cons, List.drop_zero, List.drop_nil, Nat.zero_add, wpList]
  have BW4 := Lib.hid (bkeep BW3.out B4)
  have EZ : Hid ((((t[j]'jt).toNat : Nat) : Int) = z) := Lib.hid (by
    have h := hz.out
    simp only [bi, List.getElem?_map] at h
    have h2 : t.data.toList[j]? = some (t[j]'jt) := List.getElem?_eq_getElem (by simpa using jt)
    rw [h2] at h
    simpa using h)
  go_upto_region 10 with fail
  refine region_lin (.val (fun v _ => v = .pointer (some ⟨gx, 1, none⟩)) :: .val (fun v _ => v = .int .u64 S) :: .val (fun v _ => v = .pointer (some ⟨gy, 1, none⟩)) :: .val (fun v _ => v = .int .u64 S) :: .val (fun v _ => v = .bool true) :: .val (fun v _ => v = .bool true) :: .val (fun v _ => v = .pointer (some ⟨gx, 0, none⟩)) :: .val (fun v _ => v = .int .u64 V) :: .val (fun v _ => v = .pointer (some ⟨gy, 0, none⟩)) :: .val (fun v _ => v = .int .u64 X) :: .val (fun v _ => v = .bool q) :: .val (fun v _ => v = .string t) :: .val (fun v _ => v = .int .i64 (j : Int)) :: .val (fun v _ => v = .int .u8 z) :: .val (fun v _ => v = .int .u8 b) :: .val (fun v _ => v = .bool q) :: .val (fun v _ => v = .bool true) :: .val (fun v _ => v = .bool true) :: .val (fun v _ => v = .bool true) :: [])
    ([] :: [(36, 0)] :: [] :: [(38, 2)] :: [(37, 1), (39, 3)] :: [(40, 4)] :: [(41, 5)] :: [(42, 6), (41, 5)] :: [(41, 5)] :: [(44, 8), (41, 5)] :: [(43, 7), (45, 9), (41, 5)] :: [(41, 5)] :: [(41, 5)] :: [(47, 11), (48, 12), (41, 5)] :: [(41, 5)] :: [(49, 13), (50, 14), (41, 5)] :: [(46, 10), (51, 15), (41, 5)] :: [(41, 5), (52, 16)] :: [(53, 17)] :: []) ((0, 0) :: (0, 0) :: (0, 0) :: (0, 0) :: (0, 0) :: (0, 0) :: (0, 0) :: (0, 0) :: (0, 0) :: (0, 0) :: (0, 0) :: (0, 0) :: (0, 0) :: (0, 0) :: (0, 0) :: (0, 0) :: (0, 0) :: (0, 0) :: (0, 0) :: []) 54 (by kernel_rfl) rfl rfl (by kernel_rfl) ⟨Stab.pure _ _ _, Stab.pure _ _ _, Stab.pure _ _ _, Stab.pure _ _ _, Stab.pure _ _ _, Stab.pure _ _ _, Stab.pure _ _ _, Stab.pure _ _ _, Stab.pure _ _ _, Stab.pure _ _ _, Stab.pure _ _ _, Stab.pure _ _ _, Stab.pure _ _ _, Stab.pure _ _ _, Stab.pure _ _ _, Stab.pure _ _ _, Stab.pure _ _ _, Stab.pure _ _ _, Stab.pure _ _ _, trivial⟩ ⟨?_, ?_, ?_, ?_, ?_, ?_, ?_, ?_, ?_, ?_, ?_, ?_, ?_, ?_, ?_, ?_, ?_, ?_, ?_, trivial⟩ ?_
  · intro wx hb
    intro K hK
    go_simp
    exact hK _ _ rfl ⟨rfl, Below.refl _ _⟩
  · intro wx hb
    rintro _ rfl
    intro K hK
    have mm := Box.below (Bx) hb (Box.lt (Bx))
    have m0 : wx.cell? ⟨gx, 0, none⟩ = some (.int .u64 V) := mm.cell 0
    have m1 : wx.cell? ⟨gx, 1, none⟩ = some (.int .u64 S) := mm.cell 1
    clear mm
    go_simp
    exact hK _ _ rfl ⟨rfl, Below.refl _ _⟩
  · intro wx hb
    intro K hK
    go_simp
    exact hK _ _ rfl ⟨rfl, Below.refl _ _⟩
  · intro wx hb
    rintro _ rfl
    intro K hK
    have mm := Box.below (By) hb (Box.lt (By))
    have m0 : wx.cell? ⟨gy, 0, none⟩ = some (.int .u64 X) := mm.cell 0
    have m1 : wx.cell? ⟨gy, 1, none⟩ = some (.int .u64 S) := mm.cell 1
    clear mm
    go_simp
    exact hK _ _ rfl ⟨rfl, Below.refl _ _⟩
  · intro wx hb
    rintro _ rfl
    rintro _ rfl
    intro K hK
    go_simp
    exact hK _ _ rfl ⟨rfl, Below.refl _ _⟩
  · intro wx hb
    rintro _ rfl
    intro K hK
    go_simp
    exact hK _ _ rfl ⟨rfl, Below.refl _ _⟩
  · intro wx hb
    rintro _ rfl
    refine ⟨fun _ => ?_, fun h => absurd (show true = false from h) (by decide)⟩
    intro K hK
    go_simp
    exact hK _ _ rfl ⟨rfl, Below.refl _ _⟩
  · intro wx hb
    rintro _ rfl
    rintro _ rfl
    refine ⟨fun _ => ?_, fun h => absurd (show true = false from h) (by decide)⟩
    intro K hK
    have mm := Box.below (Bx) hb (Box.lt (Bx))
    have m0 : wx.cell? ⟨gx, 0, none⟩ = some (.int .u64 V) := mm.cell 0
    have m1 : wx.cell? ⟨gx, 1, none⟩ = some (.int .u64 S) := mm.cell 1
    clear mm
    go_simp
    exact hK _ _ rfl ⟨rfl, Below.refl _ _⟩
  · intro wx hb
    rintro _ rfl
    refine ⟨fun _ => ?_, fun h => absurd (show true = false from h) (by decide)⟩
    intro K hK
    go_simp
    exact hK _ _ rfl ⟨rfl, Below.refl _ _⟩
  · intro wx hb
    rintro _ rfl
    rintro _ rfl
    refine ⟨fun _ => ?_, fun h => absurd (show true = false from h) (by decide)⟩
    intro K hK
    have mm := Box.below (By) hb (Box.lt (By))
    have m0 : wx.cell? ⟨gy, 0, none⟩ = some (.int .u64 X) := mm.cell 0
    have m1 : wx.cell? ⟨gy, 1, none⟩ = some (.int .u64 S) := mm.cell 1
    clear mm
    go_simp
    exact hK _ _ rfl ⟨rfl, Below.refl _ _⟩
  · intro wx hb
    rintro _ rfl
    rintro _ rfl
    rintro _ rfl
    refine ⟨fun _ => ?_, fun h => absurd (show true = false from h) (by decide)⟩
    intro K hK
    have e := HQ.out; have e2 := HB.out
    go_simp
    exact hK _ _ rfl ⟨rfl, Below.refl _ _⟩
  · intro wx hb
    rintro _ rfl
    refine ⟨fun _ => ?_, fun h => absurd (show true = false from h) (by decide)⟩
    intro K hK
    go_simp
    exact hK _ _ rfl ⟨rfl, Below.refl _ _⟩
  · intro wx hb
    rintro _ rfl
    refine ⟨fun _ => ?_, fun h => absurd (show true = false from h) (by decide)⟩
    intro K hK
    go_simp
    exact hK _ _ rfl ⟨rfl, Below.refl _ _⟩
  · intro wx hb
    rintro _ rfl
    rintro _ rfl
    rintro _ rfl
    refine ⟨fun _ => ?_, fun h => absurd (show true = false from h) (by decide)⟩
    intro K hK
    have ez := EZ.out
    go_simp
    exact hK _ _ rfl ⟨rfl, Below.refl _ _⟩
  · intro wx hb
    rintro _ rfl
    refine ⟨fun _ => ?_, fun h => absurd (show true = false from h) (by decide)⟩
    intro K hK
    go_simp
    exact hK _ _ rfl ⟨rfl, Below.refl _ _⟩
  · intro wx hb
    rintro _ rfl
    rintro _ rfl
    rintro _ rfl
    refine ⟨fun _ => ?_, fun h => absurd (show true = false from h) (by decide)⟩
    intro K hK
    have e2 := HB.out
    go_simp
    exact hK _ _ rfl ⟨rfl, Below.refl _ _⟩
  · intro wx hb
    rintro _ rfl
    rintro _ rfl
    rintro _ rfl
    refine ⟨fun _ => ?_, fun h => absurd (show true = false from h) (by decide)⟩
    intro K hK
    go_simp
    exact hK _ _ rfl ⟨rfl, Below.refl _ _⟩
  · intro wx hb
    rintro _ rfl
    rintro _ rfl
    intro K hK
    go_simp
    exact hK _ _ rfl ⟨rfl, Below.refl _ _⟩
  · intro wx hb
    rintro _ rfl
    intro K hK
    go_simp
    exact hK _ _ rfl ⟨rfl, Below.refl _ _⟩
  intro w5 B5
  rintro _ rfl
  rintro _ rfl
  rintro _ rfl
  rintro _ rfl
  rintro _ rfl
  rintro _ rfl
  rintro _ rfl
  rintro _ rfl
  rintro _ rfl
  rintro _ rfl
  rintro _ rfl
  rintro _ rfl
  rintro _ rfl
  rintro _ rfl
  rintro _ rfl
  rintro _ rfl
  rintro _ rfl
  rintro _ rfl
  rintro _ rfl
  rintro -
  simp only [Act.put, List.setIfInBounds_toArray, List.set_cons_zero, List.set_cons_succ, List.toList_toArray, List.length_cons, List.length_nil, List.drop_succ_cons, List.drop_zero, List.drop_nil, Nat.zero_add, wpList]
  have BW5 := Lib.hid (bkeep BW4.out B5)
  go_wp2_with fail
  go_ret
  exact ⟨rfl, BW5.out⟩

set_option maxHeartbeats 4000000 in
theorem letters_none (s : ByteArray) (a b : Int) (w : World) (t : ByteArray) (HC : Hid (∀ w : World, Calls Try.prog 12 #[.string s] w fun e w' => e = .returned (.string t) ∧ w = w')) (h0 : t.size = 0) :
    Calls Try.prog 6 #[.string s, .int .i64 a, .int .u8 b] w fun e w' => e = .returned (.bool true) ∧ Below w.heap.size w w' := by
  go_enter Try.func6, Try.ntmps6
  go_wp2_with fail
  (with_reducible refine (awake_any _).mono ?_)
  rintro e w1 ⟨rfl, B1⟩
  have BW := Lib.hid B1
  clear B1
  go_wp2_with fail
  go_wp2_with fail
  (with_reducible refine (HC.out _).mono ?_)
  rintro e w' ⟨rfl, rfl⟩
  go_wp2_with fail
  go_ret
  exact ⟨rfl, BW.out⟩

theorem law_letters (s : ByteArray) (hs : s.size ≤ 9223372036854775807) (a : Int) (a0 : -9223372036854775808 ≤ a) (a1 : a ≤ 9223372036854775807) (b : Int) (b0 : 0 ≤ b) (b1 : b ≤ 255) (w : World) :
    Calls Try.prog 6 #[.string s, .int .i64 a, .int .u8 b] w fun e w' => e = .returned (.bool true) ∧ Below w.heap.size w w' := by
  have HC := Lib.hid (cut_any s hs)
  have ts := cutS_size s
  generalize cutS s = t at *
  by_cases h0 : t.size = 0
  · exact letters_none s a b w t HC h0
  · have hp : (0 : Int) < t.size := by omega
    have hj0 := Int.emod_nonneg (IntKind.u64.wrap a) (show (t.size : Int) ≠ 0 by omega)
    have hj1 := Int.emod_lt_of_pos (IntKind.u64.wrap a) hp
    obtain ⟨j, hj⟩ := Int.eq_ofNat_of_zero_le hj0
    have jt : j < t.size := by omega
    have jl : j < (bi t).length := by rw [bi_len]; exact jt
    obtain ⟨d1, d2⟩ := dOf_set (bi t) (bi_u8 t) j jl b b0 b1
    have u0 : 0 ≤ IntKind.u64.wrap a := by rw [IntKind.wrap_u64]; omega
    refine letters_of s hs a a0 a1 b b0 b1 w t ts HC (by rw [beq_eq_false_iff_ne]; exact h0) (by rw [beq_eq_false_iff_ne]; omega) _ u0 rfl j hj jt ((bi t)[j]) (dOf (bi t)).1 (dOf (bi t)).2 (dOf (tL t j b)).1 (Lib.hid rfl) (Lib.hid ?_) (Lib.hid (List.getElem?_eq_getElem jl)) ?_ _ rfl
    · exact Prod.ext rfl d1
    · rw [Bool.eq_iff_iff, beq_iff_eq, beq_iff_eq, eq_comm]
      exact d2
end Go.Proofs.Ytebjdlimboifaaa
