/- The walk of evergreenref11.Trim. Written by wip/gen/grrtrim.py. -/
import Derived.Test.YtcbahojefglakaaGrTrim
import Derived.Test.YtcbahojefglakaaGrEql
import Derived.Test.YtcbahojefglakaaRegLin
namespace Go.Proofs.Ytcbahojefglakaa
set_option linter.unusedVariables false
set_option linter.unusedSimpArgs false
open Go.RowKit Go.Lib
attribute [local go_sem ↓] Go.wp_at_zero Go.wp_at_succ
theorem own_far {w : World} {base : Nat} {e : TypeId} {size n : Nat} {v : Value} {xs : List Value} (h : w.ownsRow base e size v n xs) {p : Addr} (_hp : p.spot = none) (hk : ∀ k, v.ownBlock = some k → k ≠ p.block) (u : Value) : (w.setCell p u).ownsRow base e size v n xs :=
  own_block h fun k h2 => Below.heap_setCell w p u k (hk k h2)
theorem wp_name {Pr : Program} {code : Code} {Q : Exit → Act → World → Prop} {a : Act} {w : World} (F : World → Prop) (h : F w) (k : ∀ w5, F w5 → Code.wp Pr code Q a w5) : Code.wp Pr code Q a w := k w h
theorem getD_set_ne {l : List Int} {i j : Nat} (h : i ≠ j) (v : Int) : (l.set i v).getD j 0 = l.getD j 0 := by
  rw [List.getD_eq_getElem?_getD, List.getD_eq_getElem?_getD, List.getElem?_set_ne h]
theorem getD_set_eq {l : List Int} {i : Nat} (h : i < l.length) (v : Int) : (l.set i v).getD i 0 = v := by
  rw [List.getD_eq_getElem?_getD, List.getElem?_set_self h]; rfl
theorem mark_one (u : List Bool) (lt : Int) : mark u (refsR ⟨1, lt, 0, 0, 0⟩) = u := rfl
theorem mark_two (u : List Bool) (a b : Nat) : mark u (refsR ⟨2, 0, (a : Int) + 1, (b : Int) + 1, 0⟩) = (u.set (a + 1) true).set (b + 1) true := rfl
theorem mark_three (u : List Bool) (a : Nat) (tm : Int) : mark u (refsR ⟨3, 0, (a : Int) + 1, 0, tm⟩) = u.set (a + 1) true := rfl
theorem pos_at {out : List Rl} {r : Rl} {k : Nat} (h : out[k]? = some r) (hn : r ∉ out.take k) : pos out r = k + 1 := by
  have hk := (List.getElem?_eq_some_iff.1 h).1
  have e : out = out.take k ++ r :: out.drop (k + 1) := by rw [← drop_of h, List.take_append_drop]
  have h1 := pos_new (out.take k) r ((pos_zero _ _).2 hn)
  have h2 : pos (out.take k ++ [r]) r ≠ 0 := by rw [h1]; omega
  have h3 := pos_pre h2 (out.drop (k + 1))
  rw [List.append_assoc] at h3
  rw [e]
  have e2 : out.take k ++ r :: out.drop (k + 1) = out.take k ++ ([r] ++ out.drop (k + 1)) := rfl
  rw [e2, h3, h1, List.length_take]; omega
set_option maxRecDepth 100000 in
set_option maxHeartbeats 32000000 in
theorem rtrim_any (g : List Rl) (n c : Nat) (A : Option Addr) (hl : g.length = n) (hn : n ≤ 100000) (h0 : gcode 0 g = 0) (hok : ∀ r ∈ g, r.Ok) (w : World) (ha : RowAt w A (gc g)) :
    Calls Try.prog 33 #[.slice A n c] w (SliceOut w (trim g).length (gc (trim g))) := by
  obtain ⟨i0_, hi, hz0, hz1, hz2⟩ := info_parts5 info_rule
  have HI := Lib.hid hi; have HZ := Lib.hid hz0; have HZ1 := Lib.hid hz1; have HZ2 := Lib.hid hz2
  obtain ⟨U, hU⟩ : ∃ U, U = used g := ⟨_, rfl⟩
  obtain ⟨F, hF⟩ : ∃ F, F = trim g := ⟨_, rfl⟩
  have HUS : Hid (useFrom g n (use0 n) = U ∧ U.length = n + 1) := Lib.hid ⟨by rw [hU, ← hl]; rfl, by rw [hU, used_len, hl]⟩
  have HFS : Hid ((trFrom U 0 (g.drop 0) ([], List.replicate (n + 1) 0)).1 = F) := Lib.hid (by rw [hF, hU, ← hl]; rfl)
  rw [← hF]
  have HA := Lib.hid ha; have HL := Lib.hid hl; have H0 := Lib.hid h0; have HOK := Lib.hid hok
  have mk : ∀ w : World, (Instr.makeSlice 86 (.int .i64 ((n : Int) + 1)) (.int .i64 ((n : Int) + 1))).run Try.prog w = .ok (.slice (some ⟨w.heap.size, 0, none⟩) (n + 1) (n + 1)) (w.alloc (.cells (bl (List.replicate (n + 1) false)).toArray 4)) := fun w => mk_bools (n + 1) (by omega) w
  have mk2 : ∀ w : World, (Instr.makeSlice 84 (.int .i64 ((n : Int) + 1)) (.int .i64 ((n : Int) + 1))).run Try.prog w = .ok (.slice (some ⟨w.heap.size, 0, none⟩) (n + 1) (n + 1)) (w.alloc (.cells (vi (List.replicate (n + 1) 0)).toArray 44)) := fun w => mk_ids (n + 1) (by omega) w
  have MK2 := Lib.hid mk2
  clear ha hl h0 hU hF hi hz0 hz1 hz2 hok mk2
  go_enter Try.func33, Try.ntmps33
  go_upto_region 2 with fail
  clear mk
  obtain ⟨w2, hw2⟩ : ∃ w2, w2 = w.alloc (.cells (bl (List.replicate (n + 1) false)).toArray 4) := ⟨_, rfl⟩
  rw [← hw2]
  obtain ⟨G1, hG1⟩ : ∃ G1, G1 = w.heap.size := ⟨_, rfl⟩
  have HB2 : Hid (Box w2 G1 4 (bl (List.replicate (n + 1) false)).toArray) := Lib.hid (by rw [hw2, hG1]; exact Box.new w _ _)
  have BW2 : Hid (Below w.heap.size w w2) := Lib.hid (by rw [hw2]; exact balloc (Below.refl _ _) _)
  have zg : w.heap.size ≤ G1 := by rw [hG1]; exact Nat.le_refl _
  rw [← hG1]
  clear hw2 hG1
  have v0 : w2.cell? ⟨G1, n, none⟩ = some (.bool false) := (HB2.out.cell n).trans ((bl_at (by simp)).trans (by simp))
  have f0 := HB2.out.free n
  have HB3 : Hid (Box (w2.setCell ⟨G1, n, none⟩ (.bool true)) G1 4 (bl (use0 n)).toArray) := Lib.hid (by
    have := HB2.out.set_ n (.bool true)
    rw [bl_set, use0_eq] at this
    exact this)
  have BW3 := Lib.hid (BW2.out.setCell (p := ⟨G1, n, none⟩) zg (.bool true))
  go_wp2_with fail
  go_loopw [4] (fun si wr => ∃ (j : Nat) (u : List Bool), si = .int .i64 (j : Int) ∧ j ≤ n ∧ Hid (useFrom g j u = U ∧ u.length = n + 1) ∧ Hid (Box wr G1 4 (bl u).toArray) ∧ Hid (Below w.heap.size w wr)) (fun si _ => (intOf si).toNat)
  case atStart => exact ⟨n, use0 n, rfl, Nat.le_refl _, Lib.hid ⟨HUS.out.1, by simp [use0]⟩, HB3, BW3⟩
  case round =>
    clear v0 f0
    obtain ⟨j, u, rfl, hj, HG, HB, BW⟩ := hrel
    by_cases hj0 : 0 < j
    · obtain ⟨i, rfl⟩ : ∃ i, j = i + 1 := ⟨j - 1, by omega⟩
      have hil : i < g.length := by rw [HL.out]; omega
      obtain ⟨r, hr⟩ : ∃ r, g[i]? = some r := ⟨_, List.getElem?_eq_getElem hil⟩
      have hway := rule_way H0.out hr
      have hrow := row_rl (HA.out.below BW.out (Nat.le_refl _)) hr
      obtain ⟨ad, rfl, hadl, c0, c1, c2, c3, c4⟩ := hrow
      obtain ⟨q, hq⟩ : ∃ q, q = u.getD (i + 1) false := ⟨_, rfl⟩
      have cu : wr.cell? ⟨G1, i + 1, none⟩ = some (.bool q) := (HB.out.cell (i + 1)).trans ((bl_at (by rw [HG.out.2]; omega)).trans (by rw [hq]))
      have i0 : (0 : Int) ≤ i := by omega
      have i1 : (i : Int) < (n : Int) := by omega
      have i2 : (1 : Int) ≤ (i : Int) + 1 := by omega
      have sj : ((i + 1 : Nat) : Int) = (i : Int) + 1 := by omega
      have HGu := Lib.hid HG.out.2
      rw [sj]
      cases q with
      | false =>
        have HG2 : Hid (useFrom g i u = U ∧ u.length = n + 1) := Lib.hid ⟨by
          have := HG.out.1
          unfold useFrom at this
          rw [useStep_no hr hq.symm] at this
          exact this, HG.out.2⟩
        clear hr hq sj hway
        go_wp2_with fail
        go_roundw
        case rel => exact ⟨i, u, by go_num, by omega, HG2, HB, BW⟩
        case measure => simp [intOf] <;> omega
      | true =>
        have HG2 : Hid (useFrom g i (mark u (refsR r)) = U ∧ (mark u (refsR r)).length = n + 1) := Lib.hid ⟨by
          have := HG.out.1
          unfold useFrom at this
          rw [useStep_yes hr hq.symm] at this
          exact this, by rw [mark_len]; exact HG.out.2⟩
        have HRr := Lib.hid hr
        obtain ⟨kd, lt, lf, rg, tm⟩ := r
        simp only at c0 c1 c2 c3 c4 hway
        clear hq sj HG hr
        rcases hway with ⟨rfl, rfl, rfl, rfl⟩ | ⟨rfl, rfl, rfl, p1, p2, q1, q2⟩ | ⟨rfl, rfl, rfl, t2, p1, p2⟩
        · rw [mark_one] at HG2
          go_wp2_with fail
          go_roundw
          case rel => exact ⟨i, u, by go_num, by omega, HG2, HB, BW⟩
          case measure => simp [intOf] <;> omega
        · obtain ⟨a, rfl⟩ : ∃ a : Nat, lf = (a : Int) + 1 := ⟨(lf - 1).toNat, by omega⟩
          obtain ⟨b, rfl⟩ : ∃ b : Nat, rg = (b : Int) + 1 := ⟨(rg - 1).toNat, by omega⟩
          rw [mark_two] at HG2
          have an : (a : Int) + 1 < (n : Int) + 1 := by omega
          have a0 : (0 : Int) ≤ (a : Int) + 1 := by omega
          have cb : wr.cell? ⟨G1, a + 1, none⟩ = some (.bool (u.getD (a + 1) false)) := (HB.out.cell (a + 1)).trans (bl_at (by rw [HGu.out]; omega))
          generalize u.getD (a + 1) false = b0 at cb
          have fb := HB.out.free (a + 1)
          have HBy : Hid (Box (wr.setCell ⟨G1, a + 1, none⟩ (.bool true)) G1 4 (bl (u.set (a + 1) true)).toArray) := Lib.hid (by
            have := HB.out.set_ (a + 1) (.bool true)
            rw [bl_set] at this
            exact this)
          have BWy := Lib.hid (BW.out.setCell (p := ⟨G1, a + 1, none⟩) zg (.bool true))
          go_upto_region 8 with fail
          refine wp_name (fun w5 => Hid (Box w5 G1 4 (bl (u.set (a + 1) true)).toArray) ∧ Hid (Below w.heap.size w w5)) ⟨HBy, BWy⟩ ?_
          rintro w5 ⟨HB5, BW5⟩
          clear cb fb HBy BWy c0 c1 c2 c3 c4 cu
          obtain ⟨ad2, e2, hadl2, c0, c1, c2, c3, c4⟩ := row_rl (HA.out.below BW5.out (Nat.le_refl _)) HRr.out
          cases e2
          simp only at c0 c1 c2 c3 c4
          have bn : (b : Int) + 1 < (n : Int) + 1 := by omega
          have b00 : (0 : Int) ≤ (b : Int) + 1 := by omega
          have cb : w5.cell? ⟨G1, b + 1, none⟩ = some (.bool ((u.set (a + 1) true).getD (b + 1) false)) := (HB5.out.cell (b + 1)).trans (bl_at (by rw [List.length_set, HGu.out]; omega))
          generalize (u.set (a + 1) true).getD (b + 1) false = b0 at cb
          have fb := HB5.out.free (b + 1)
          have HB6 : Hid (Box (w5.setCell ⟨G1, b + 1, none⟩ (.bool true)) G1 4 (bl ((u.set (a + 1) true).set (b + 1) true)).toArray) := Lib.hid (by
            have := HB5.out.set_ (b + 1) (.bool true)
            rw [bl_set] at this
            exact this)
          have BW6 := Lib.hid (BW5.out.setCell (p := ⟨G1, b + 1, none⟩) zg (.bool true))
          go_wp2_with fail
          go_roundw
          case rel => exact ⟨i, (u.set (a + 1) true).set (b + 1) true, by go_num, by omega, HG2, HB6, BW6⟩
          case measure => simp [intOf] <;> omega
        · obtain ⟨a, rfl⟩ : ∃ a : Nat, lf = (a : Int) + 1 := ⟨(lf - 1).toNat, by omega⟩
          rw [mark_three] at HG2
          have an : (a : Int) + 1 < (n : Int) + 1 := by omega
          have a0 : (0 : Int) ≤ (a : Int) + 1 := by omega
          have cb : wr.cell? ⟨G1, a + 1, none⟩ = some (.bool (u.getD (a + 1) false)) := (HB.out.cell (a + 1)).trans (bl_at (by rw [HGu.out]; omega))
          generalize u.getD (a + 1) false = b0 at cb
          have fb := HB.out.free (a + 1)
          have HBy : Hid (Box (wr.setCell ⟨G1, a + 1, none⟩ (.bool true)) G1 4 (bl (u.set (a + 1) true)).toArray) := Lib.hid (by
            have := HB.out.set_ (a + 1) (.bool true)
            rw [bl_set] at this
            exact this)
          have BWy := Lib.hid (BW.out.setCell (p := ⟨G1, a + 1, none⟩) zg (.bool true))
          go_upto_region 8 with fail
          refine wp_name (fun w5 => Hid (Box w5 G1 4 (bl (u.set (a + 1) true)).toArray) ∧ Hid (Below w.heap.size w w5)) ⟨HBy, BWy⟩ ?_
          rintro w5 ⟨HB5, BW5⟩
          clear cb fb HBy BWy c0 c1 c2 c3 c4 cu
          obtain ⟨ad2, e2, hadl2, c0, c1, c2, c3, c4⟩ := row_rl (HA.out.below BW5.out (Nat.le_refl _)) HRr.out
          cases e2
          simp only at c0 c1 c2 c3 c4
          go_wp2_with fail
          go_roundw
          case rel => exact ⟨i, u.set (a + 1) true, by go_num, by omega, HG2, HB5, BW5⟩
          case measure => simp [intOf] <;> omega
    · obtain rfl : j = 0 := by omega
      have HBU : Hid (Box wr G1 4 (bl U).toArray) := Lib.hid (by
        have e : u = U := HG.out.1
        rw [← e]; exact HB.out)
      rw [show (((0 : Nat) : Int)) = 0 from rfl]
      have mk2 := MK2.out
      have G1lt := HB.out.lt
      clear HG
      go_upto_region 12 with fail
      clear mk2
      obtain ⟨G2, hG2⟩ : ∃ G2, G2 = wr.heap.size := ⟨_, rfl⟩
      obtain ⟨w4, hw4⟩ : ∃ w4, w4 = wr.alloc (.cells (vi (List.replicate (n + 1) 0)).toArray 44) := ⟨_, rfl⟩
      rw [← hw4, ← hG2]
      have HU4 : Hid (Box w4 G1 4 (bl U).toArray) := Lib.hid (by rw [hw4]; exact HBU.out.alloc _)
      have HT4 : Hid (Box w4 G2 44 (vi (List.replicate (n + 1) 0)).toArray) := Lib.hid (by rw [hw4, hG2]; exact Box.new wr _ _)
      have BW4 : Hid (Below w.heap.size w w4) := Lib.hid (by rw [hw4]; exact balloc BW.out _)
      have z4 : w4.heap.size = G2 + 1 := by rw [hw4, hG2]; simp
      have G12 : G1 < G2 := by rw [hG2]; exact G1lt
      obtain ⟨B4, hB4⟩ : ∃ B4, B4 = w4.heap.size := ⟨_, rfl⟩
      have zB : B4 = G2 + 1 := hB4.trans z4
      have zb1 : G2 < B4 := by omega
      have zb2 : B4 ≤ w4.heap.size := by omega
      clear hw4 hG2 z4 hB4 zB HBU HB BW G1lt
      have HO4 : Hid (w4.ownsRow B4 46 5 (.slice none 0 0) 0 (gc [])) := Lib.hid ⟨by simp [gc], .inl ⟨rfl, rfl⟩⟩
      go_wp2_with fail
      go_loopw [6, 7, 8, 9] (fun so si _ _ wr => ∃ (i m : Nat) (A1 : Option Addr) (c1 : Nat) (out : List Rl) (tb : List Int), si = .int .i64 ((i : Int) + 1) ∧ i ≤ n ∧ so = .slice A1 m c1 ∧ m ≤ i ∧ B4 ≤ wr.heap.size ∧ Hid ((trFrom U i (g.drop i) (out, tb)).1 = F ∧ TrOk n i out tb ∧ out.length = m ∧ ∀ j, i < j → tb.getD j 0 = 0) ∧
        Hid (Box wr G1 4 (bl U).toArray) ∧ Hid (Box wr G2 44 (vi tb).toArray) ∧ Hid (wr.ownsRow B4 46 5 (.slice A1 m c1) m (gc out)) ∧ Hid (Below w.heap.size w wr)) (fun _ si _ _ _ => n + 1 - (intOf si).toNat)
      case atStart => exact ⟨0, 0, none, 0, [], List.replicate (n + 1) 0, rfl, by omega, rfl, by omega, zb2, Lib.hid ⟨HFS.out, TrOk.start n, rfl, fun j _ => by
        rw [List.getD_eq_getElem?_getD, List.getElem?_replicate]; split <;> rfl⟩, HU4, HT4, HO4, BW4⟩
      case round =>
        obtain ⟨i, m, A1, c1, out, tb, rfl, hi, rfl, hmi, zbx, HG, HBU, HBT, HO, BW⟩ := hrel
        by_cases hlt : i < n
        · have hil : i < g.length := by rw [HL.out]; omega
          obtain ⟨r, hr⟩ : ∃ r, g[i]? = some r := ⟨_, List.getElem?_eq_getElem hil⟩
          have hway := rule_way H0.out hr
          have hrok := HOK.out r (List.mem_of_getElem? hr)
          obtain ⟨ad, rfl, hadl, d0, d1, d2, d3, d4⟩ := row_rl (HA.out.below BW.out (Nat.le_refl _)) hr
          obtain ⟨q, hq⟩ : ∃ q, q = U.getD (i + 1) false := ⟨_, rfl⟩
          have cu : wr.cell? ⟨G1, i + 1, none⟩ = some (.bool q) := (HBU.out.cell (i + 1)).trans ((bl_at (by rw [HUS.out.2]; omega)).trans (by rw [hq]))
          have i0 : (0 : Int) ≤ i := by omega
          have i1 : (i : Int) < (n : Int) := by omega
          have i2 : (i : Int) + 1 ≤ (n : Int) := by omega
          have i3 : (i : Int) + 1 < (n : Int) + 1 := by omega
          have gl1 := HBU.out.lt; have gl2 := HBT.out.lt
          cases q with
          | false =>
            have HG2 : Hid ((trFrom U (i + 1) (g.drop (i + 1)) (out, tb)).1 = F ∧ TrOk n (i + 1) out tb ∧ out.length = m ∧ ∀ j, i + 1 < j → tb.getD j 0 = 0) := Lib.hid ⟨by
              have := HG.out.1
              rw [trFrom_at hr, trStep_no hq.symm] at this
              exact this, HG.out.2.1.skip, HG.out.2.2.1, fun j hj => HG.out.2.2.2 j (by omega)⟩
            clear hr hq hrok hway
            go_wp2_with fail
            go_roundw
            case rel => exact ⟨i + 1, m, A1, c1, out, tb, by go_num, by omega, rfl, by omega, zbx, HG2, HBU, HBT, HO, BW⟩
            case measure => simp [intOf] <;> omega
          | true =>
            have htok := HG.out.2.1
            have hr2ok := htok.moved (by omega) hrok
            have hnew : pos out (mvd2 r tb) = 0 → (trFrom U (i + 1) (g.drop (i + 1)) (out ++ [mvd2 r tb], tb.set (i + 1) ((out.length : Int) + 1))).1 = F := fun h => by
              have := HG.out.1
              rw [trFrom_at hr, trStep_new hq.symm h] at this
              exact this
            have hold : pos out (mvd2 r tb) ≠ 0 → (trFrom U (i + 1) (g.drop (i + 1)) (out, tb.set (i + 1) (pos out (mvd2 r tb)))).1 = F := fun h => by
              have := HG.out.1
              rw [trFrom_at hr, trStep_old hq.symm h] at this
              exact this
            have HTL := Lib.hid htok.len
            have ht0 := HG.out.2.2.2 (i + 1) (by omega)
            obtain ⟨kd, lt, lf, rg, tm⟩ := r
            simp only at d0 d1 d2 d3 d4 hway
            have HTO := Lib.hid htok; have HOL := Lib.hid HG.out.2.2.1; have HZR := Lib.hid HG.out.2.2.2
            clear hr hq hrok htok HG
            rcases hway with ⟨rfl, rfl, rfl, rfl⟩ | ⟨rfl, rfl, rfl, p1, p2, q1, q2⟩ | ⟨rfl, rfl, rfl, t2, p1, p2⟩
            · obtain ⟨GR, hGR⟩ : ∃ GR, GR = wr.heap.size := ⟨_, rfl⟩
              have e2 : mvd2 (⟨1, lt, 0, 0, 0⟩ : Rl) tb = ⟨1, lt, 0, 0, 0⟩ := rfl
              rw [e2] at hnew hold hr2ok
              clear e2
              have zs : w.heap.size ≤ wr.heap.size := BW.out.size
              have HX0 := Lib.hid (Box.new wr 46 #[.int .i64 1, .int .u8 lt, .int .i64 0, .int .i64 0, .int .i64 0])
              have HU0 := Lib.hid (HBU.out.alloc (.cells #[.int .i64 1, .int .u8 lt, .int .i64 0, .int .i64 0, .int .i64 0] 46))
              have HT0_ := Lib.hid (HBT.out.alloc (.cells #[.int .i64 1, .int .u8 lt, .int .i64 0, .int .i64 0, .int .i64 0] 46))
              have HO0 := Lib.hid (own_alloc HO.out (.cells #[.int .i64 1, .int .u8 lt, .int .i64 0, .int .i64 0, .int .i64 0] 46))
              have BW0 := Lib.hid (balloc BW.out (.cells #[.int .i64 1, .int .u8 lt, .int .i64 0, .int .i64 0, .int .i64 0] 46))
              go_upto_region 21 with fail
              rw [← hGR]
              refine wp_name (fun w5 => Hid (Box w5 G1 4 (bl U).toArray) ∧ Hid (Box w5 G2 44 (vi tb).toArray) ∧ Hid (Box w5 GR 46 #[.int .i64 1, .int .u8 lt, .int .i64 0, .int .i64 0, .int .i64 0]) ∧ Hid (w5.ownsRow B4 46 5 (.slice A1 m c1) m (gc out)) ∧ Hid (Below w.heap.size w w5) ∧ B4 ≤ w5.heap.size ∧ G2 < GR ∧ GR < w5.heap.size) ?facts ?_
              case facts =>
                rw [hGR]
                exact ⟨HU0, HT0_, HX0, HO0, BW0, by simp [World.setCell] <;> omega, gl2, by simp [World.setCell]⟩
              clear hGR HX0 HU0 HT0_ HO0 BW0 HBU HBT HO BW
              rintro w5 ⟨HU5, HT5, HX5, HO5, BW5, zb5, zr5, zr6⟩
              have HNEW := Lib.hid hnew; have HOLD := Lib.hid hold; have HR2 := Lib.hid hr2ok; have HT0 := Lib.hid ht0
              clear hnew hold hr2ok ht0 d0 d1 d2 d3 d4 cu
              go_wp2_with fail
              go_loopw [9] (fun sk wr => ∃ (k : Nat) (tb2 : List Int), sk = .int .i64 (k : Int) ∧ k ≤ m ∧ B4 ≤ wr.heap.size ∧ GR < wr.heap.size ∧ Hid ((tb2 = tb ∧ (⟨1, lt, 0, 0, 0⟩ : Rl) ∉ out.take k) ∨ (pos out ⟨1, lt, 0, 0, 0⟩ ≠ 0 ∧ tb2 = tb.set (i + 1) (pos out ⟨1, lt, 0, 0, 0⟩))) ∧ Hid (Box wr G1 4 (bl U).toArray) ∧ Hid (Box wr G2 44 (vi tb2).toArray) ∧ Hid (Box wr GR 46 #[.int .i64 1, .int .u8 lt, .int .i64 0, .int .i64 0, .int .i64 0]) ∧ Hid (wr.ownsRow B4 46 5 (.slice A1 m c1) m (gc out)) ∧ Hid (Below w.heap.size w wr)) (fun sk _ => m + 1 - (intOf sk).toNat)
              case atStart => exact ⟨0, tb, rfl, by omega, zb5, zr6, Lib.hid (.inl ⟨rfl, by simp⟩), HU5, HT5, HX5, HO5, BW5⟩
              case round =>
                obtain ⟨k, tb2, rfl, hk, zb7, zr7, HS, HU7, HT7, HX7, HO7, BW7⟩ := hrel
                have k0 : (0 : Int) ≤ k := by omega
                have gl7 := HT7.out.lt
                have x0 : wr.cell? ⟨GR, 0, none⟩ = some (.int .i64 1) := HX7.out.cell 0
                have x1 : wr.cell? ⟨GR, 1, none⟩ = some (.int .u8 lt) := HX7.out.cell 1
                have x2 : wr.cell? ⟨GR, 2, none⟩ = some (.int .i64 0) := HX7.out.cell 2
                have x3 : wr.cell? ⟨GR, 3, none⟩ = some (.int .i64 0) := HX7.out.cell 3
                have x4 : wr.cell? ⟨GR, 4, none⟩ = some (.int .i64 0) := HX7.out.cell 4
                rcases HS.out with ⟨htb, hnk⟩ | ⟨hps, htb⟩
                · have ct : wr.cell? ⟨G2, i + 1, none⟩ = some (.int .i64 0) := (HT7.out.cell (i + 1)).trans ((vi_at2 (by rw [htb, HTL.out]; omega)).trans (by rw [htb, HT0.out]))
                  have ft := HT7.out.free (i + 1)
                  have HNK := Lib.hid hnk; have HTB := Lib.hid htb
                  clear hnk htb HS
                  by_cases hkm : k < m
                  · have hkl : k < out.length := by rw [HOL.out]; exact hkm
                    obtain ⟨rk, hrk⟩ : ∃ rk, out[k]? = some rk := ⟨_, List.getElem?_eq_getElem hkl⟩
                    obtain ⟨ao, rfl, hao, y0, y1, y2, y3, y4⟩ := row_rl (own_row _ HO7.out) hrk
                    have hao2 : (ao.add (k * 5)).block < wr.heap.size := by rw [block_add]; exact hao
                    have km : (k : Int) < (m : Int) := by omega
                    have HRK := Lib.hid hrk
                    have heq : ∀ w, (binOp .eql 46 rk.val (⟨1, lt, 0, 0, 0⟩ : Rl).val).run Try.prog w = .ok (.bool (decide (rk = ⟨1, lt, 0, 0, 0⟩))) w := fun w => run_eql_rule rk ⟨1, lt, 0, 0, 0⟩ w
                    have HXo := HX7.out
                    obtain ⟨qe, hqe⟩ : ∃ qe, qe = decide (rk = ⟨1, lt, 0, 0, 0⟩) := ⟨_, rfl⟩
                    rw [← hqe] at heq
                    have HQE := Lib.hid hqe
                    obtain ⟨k1, l1, lf1, rg1, t1⟩ := rk
                    simp only at y0 y1 y2 y3 y4
                    clear hrk hqe
                    go_upto_region 24 with fail
                    refine region_lin (.val (fun v _ => v = .slice (some ao) m c1) :: .val (fun v _ => v = .int .i64 (k : Int)) :: .val (fun v _ => v = .pointer (some (ao.add (k * 5)))) :: .val (fun v _ => v = .agg #[.int .i64 k1, .int .u8 l1, .int .i64 lf1, .int .i64 rg1, .int .i64 t1]) :: .val (fun v _ => v = .agg #[.int .i64 1, .int .u8 lt, .int .i64 0, .int .i64 0, .int .i64 0]) :: .val (fun v _ => v = .bool qe) :: [])
                      ([] :: [] :: [(111, 0), (112, 1)] :: [(113, 2)] :: [] :: [(114, 3), (115, 4)] :: []) ((0, 0) :: (0, 0) :: (0, 0) :: (0, 0) :: (0, 0) :: (0, 0) :: []) 137 (by kernel_rfl) rfl rfl (by kernel_rfl) ⟨Stab.pure _ _ _, Stab.pure _ _ _, Stab.pure _ _ _, Stab.pure _ _ _, Stab.pure _ _ _, Stab.pure _ _ _, trivial⟩ ⟨?_, ?_, ?_, ?_, ?_, ?_, trivial⟩ ?_
                    · intro wx hb
                      intro K hK
                      go_simp
                      exact hK _ _ rfl ⟨rfl, Below.refl _ _⟩
                    · intro wx hb
                      intro K hK
                      go_simp
                      exact hK _ _ rfl ⟨rfl, Below.refl _ _⟩
                    · intro wx hb
                      rintro _ rfl
                      rintro _ rfl
                      intro K hK
                      go_simp
                      exact hK _ _ rfl ⟨rfl, Below.refl _ _⟩
                    · intro wx hb
                      rintro _ rfl
                      intro K hK
                      have z0 := (hb.cell (p := (ao.add (k * 5))) hao2).trans y0; have z1 := (hb.cell (p := ⟨(ao.add (k * 5)).block, (ao.add (k * 5)).off + 1, none⟩) hao2).trans y1; have z2 := (hb.cell (p := ⟨(ao.add (k * 5)).block, (ao.add (k * 5)).off + 2, none⟩) hao2).trans y2; have z3 := (hb.cell (p := ⟨(ao.add (k * 5)).block, (ao.add (k * 5)).off + 3, none⟩) hao2).trans y3; have z4 := (hb.cell (p := ⟨(ao.add (k * 5)).block, (ao.add (k * 5)).off + 4, none⟩) hao2).trans y4; go_simp; exact hK _ _ rfl ⟨rfl, Below.refl _ _⟩
                    · intro wx hb
                      intro K hK
                      exact wp_load_row 46 (.tmp 8) rfl GR rfl 46 _ (0, 0) _ (Box.below (HXo) hb (Box.lt (HXo))) Try.underlying46 rfl (by kernel_rfl) (hK _ _ rfl ⟨rfl, Below.refl _ _⟩)
                    · intro wx hb
                      rintro _ rfl
                      rintro _ rfl
                      intro K hK
                      go_simp
                      exact hK _ _ rfl ⟨rfl, Below.refl _ _⟩
                    intro w8 B8
                    rintro _ rfl
                    rintro _ rfl
                    rintro _ rfl
                    rintro _ rfl
                    rintro _ rfl
                    rintro _ rfl
                    rintro -
                    simp only [Act.put, List.setIfInBounds_toArray, List.set_cons_zero, List.set_cons_succ, List.toList_toArray, List.length_cons, List.length_nil, List.drop_succ_cons, List.drop_zero, List.drop_nil, Nat.zero_add, wpList]
                    have HU8 := Lib.hid (HU7.out.below B8 HU7.out.lt); have HT8 := Lib.hid (HT7.out.below B8 HT7.out.lt); have HX8 := Lib.hid (HX7.out.below B8 HX7.out.lt); have HO8 := Lib.hid (own_below HO7.out B8); have BW8 := Lib.hid (bkeep BW7.out B8)
                    have zb8 : B4 ≤ w8.heap.size := Nat.le_trans zb7 B8.size
                    have zr8 : GR < w8.heap.size := Nat.lt_of_lt_of_le zr7 B8.size
                    have ct8 : w8.cell? ⟨G2, i + 1, none⟩ = some (.int .i64 0) := (B8.cell (p := ⟨G2, i + 1, none⟩) gl7).trans ct
                    have ft8 := HT8.out.free (i + 1)
                    clear B8 heq y0 y1 y2 y3 y4 x0 x1 x2 x3 x4 ct ft HXo
                    cases qe with
                    | true =>
                      have hrr : (⟨k1, l1, lf1, rg1, t1⟩ : Rl) = ⟨1, lt, 0, 0, 0⟩ := of_decide_eq_true HQE.out.symm
                      have hpos := pos_at (by rw [← hrr]; exact HRK.out : out[k]? = some ⟨1, lt, 0, 0, 0⟩) HNK.out
                      have HS2 : Hid ((tb.set (i + 1) ((k : Int) + 1) = tb ∧ (⟨1, lt, 0, 0, 0⟩ : Rl) ∉ out.take (k + 1)) ∨ (pos out ⟨1, lt, 0, 0, 0⟩ ≠ 0 ∧ tb.set (i + 1) ((k : Int) + 1) = tb.set (i + 1) (pos out ⟨1, lt, 0, 0, 0⟩))) := Lib.hid (.inr ⟨by rw [hpos]; omega, by rw [hpos]; rfl⟩)
                      have HT9 : Hid (Box (w8.setCell ⟨G2, i + 1, none⟩ (.int .i64 ((k : Int) + 1))) G2 44 (vi (tb.set (i + 1) ((k : Int) + 1))).toArray) := Lib.hid (by
                        have := HT8.out.set_ (i + 1) (.int .i64 ((k : Int) + 1))
                        rw [vi_set, HTB.out] at this
                        exact this)
                      have HU9 := Lib.hid (HU8.out.far (p := ⟨G2, i + 1, none⟩) (by simp; omega) (.int .i64 ((k : Int) + 1)))
                      have HX9 := Lib.hid (HX8.out.far (p := ⟨G2, i + 1, none⟩) (by simp; omega) (.int .i64 ((k : Int) + 1)))
                      have HO9 := Lib.hid (own_set HO8.out (p := ⟨G2, i + 1, none⟩) (by simp; omega) (.int .i64 ((k : Int) + 1)))
                      have BW9 := Lib.hid (BW8.out.setCell (p := ⟨G2, i + 1, none⟩) (by simp; omega) (.int .i64 ((k : Int) + 1)))
                      clear hrr hpos
                      go_wp2_with fail
                      go_roundw
                      case rel => exact ⟨k + 1, tb.set (i + 1) ((k : Int) + 1), by go_num, by omega, by simpa [World.setCell] using zb8, by simpa [World.setCell] using zr8, HS2, HU9, HT9, HX9, HO9, BW9⟩
                      case measure => simp [intOf] <;> omega
                    | false =>
                      have HS2 : Hid ((tb2 = tb ∧ (⟨1, lt, 0, 0, 0⟩ : Rl) ∉ out.take (k + 1)) ∨ (pos out ⟨1, lt, 0, 0, 0⟩ ≠ 0 ∧ tb2 = tb.set (i + 1) (pos out ⟨1, lt, 0, 0, 0⟩))) := Lib.hid (.inl ⟨HTB.out, by
                        have hne := of_decide_eq_false HQE.out.symm
                        obtain ⟨hlt2, hge⟩ := List.getElem?_eq_some_iff.1 HRK.out
                        rw [List.take_succ_eq_append_getElem hlt2, hge]
                        intro hm
                        rcases List.mem_append.1 hm with hm | hm
                        · exact HNK.out hm
                        · exact hne (List.mem_singleton.1 hm).symm⟩)
                      go_wp2_with fail
                      go_roundw
                      case rel => exact ⟨k + 1, tb2, by go_num, by omega, zb8, zr8, HS2, HU8, HT8, HX8, HO8, BW8⟩
                      case measure => simp [intOf] <;> omega
                  · obtain rfl : k = m := by omega
                    have hpos : pos out ⟨1, lt, 0, 0, 0⟩ = 0 := (pos_zero _ _).2 (by
                      have := HNK.out
                      rw [List.take_of_length_le (by rw [HOL.out]; exact Nat.le_refl _)] at this
                      exact this)
                    have HG2 : Hid ((trFrom U (i + 1) (g.drop (i + 1)) (out ++ [⟨1, lt, 0, 0, 0⟩], tb.set (i + 1) ((k : Int) + 1))).1 = F ∧ TrOk n (i + 1) (out ++ [⟨1, lt, 0, 0, 0⟩]) (tb.set (i + 1) ((k : Int) + 1)) ∧ (out ++ [(⟨1, lt, 0, 0, 0⟩ : Rl)]).length = k + 1 ∧ ∀ j, i + 1 < j → (tb.set (i + 1) ((k : Int) + 1)).getD j 0 = 0) := Lib.hid ⟨by
                      have := HNEW.out hpos
                      rw [HOL.out] at this
                      exact this, by
                      have := HTO.out.new HR2.out
                      rw [HOL.out] at this
                      exact this, by rw [List.length_append, HOL.out]; rfl, fun j hj => by rw [getD_set_ne (by omega)]; exact HZR.out j (by omega)⟩
                    have hob : ∀ q, (Value.slice A1 k c1).ownBlock = some q → B4 ≤ q := own_ge HO7.out
                    clear hpos
                    go_upto_region 27 with fail
                    go_wp2_with (refine wpList_app _ (by rfl) (.tmp 127) (.tmp 129) _ rfl B4 46 i0_ _ 5 40 Try.underlying22 HI.out HZ.out HZ1.out HZ2.out rfl (by omega) (.slice A1 k c1) k (gc out) rfl ?own _ 1 1 ((⟨1, lt, 0, 0, 0⟩ : Rl).cells) rfl rfl ?row (cells_one _) (by simp only [maxLen]; omega) (by omega) ?size ?_)
                    case own => exact own_alloc HO7.out _
                    case row => exact RowAt.of_block (box_new_ (by simp))
                    case size => simp; omega
                    intro A9 c9 w9 own9 gr9 at9
                    rw [gc_snoc] at own9
                    have HO9 := Lib.hid own9
                    have zb9 : B4 ≤ w9.heap.size := by have := gr9.size; simp at this; omega
                    have HU9 := Lib.hid ((HU7.out.alloc _).grown gr9 (fun e => by have := hob _ e; omega))
                    have HT9 := Lib.hid ((HT7.out.alloc _).grown gr9 (fun e => by have := hob _ e; omega))
                    have BW9 := Lib.hid ((balloc BW7.out _).grown gr9 (by have := BW7.out.size; simp; omega) (fun q hq => by have := hob q hq; omega))
                    have ct9 : w9.cell? ⟨G2, i + 1, none⟩ = some (.int .i64 0) := (HT9.out.cell (i + 1)).trans ((vi_at2 (by rw [HTB.out, HTL.out]; omega)).trans (by rw [HTB.out, HT0.out]))
                    have ft9 := HT9.out.free (i + 1)
                    have HU10 := Lib.hid (HU9.out.far (p := ⟨G2, i + 1, none⟩) (by simp; omega) (.int .i64 ((k : Int) + 1)))
                    have HT10 : Hid (Box (w9.setCell ⟨G2, i + 1, none⟩ (.int .i64 ((k : Int) + 1))) G2 44 (vi (tb.set (i + 1) ((k : Int) + 1))).toArray) := Lib.hid (by
                      have := HT9.out.set_ (i + 1) (.int .i64 ((k : Int) + 1))
                      rw [vi_set, HTB.out] at this
                      exact this)
                    have HO10 := Lib.hid (own_set HO9.out (p := ⟨G2, i + 1, none⟩) (by simp; omega) (.int .i64 ((k : Int) + 1)))
                    have BW10 := Lib.hid (BW9.out.setCell (p := ⟨G2, i + 1, none⟩) (by simp; omega) (.int .i64 ((k : Int) + 1)))
                    clear own9 gr9 at9 hob ct ft x0 x1 x2 x3 x4
                    go_wp2_with fail
                    go_roundw
                    case rel => exact ⟨i + 1, k + 1, A9, c9, _, _, by go_num, by omega, rfl, by omega, by simpa [World.setCell] using zb9, HG2, HU10, HT10, HO10, BW10⟩
                    case measure => simp [intOf] <;> omega
                · obtain ⟨p, hp⟩ : ∃ p, p = pos out ⟨1, lt, 0, 0, 0⟩ := ⟨_, rfl⟩
                  have HG2 : Hid ((trFrom U (i + 1) (g.drop (i + 1)) (out, tb2)).1 = F ∧ TrOk n (i + 1) out tb2 ∧ out.length = m ∧ ∀ j, i + 1 < j → tb2.getD j 0 = 0) := Lib.hid ⟨by rw [htb]; exact HOLD.out hps, by rw [htb]; exact HTO.out.old _, HOL.out, fun j hj => by rw [htb, getD_set_ne (by omega)]; exact HZR.out j (by omega)⟩
                  have ct : wr.cell? ⟨G2, i + 1, none⟩ = some (.int .i64 (p : Int)) := (HT7.out.cell (i + 1)).trans ((vi_at2 (by rw [htb, List.length_set, HTL.out]; omega)).trans (by rw [htb, getD_set_eq (by rw [HTL.out]; omega), hp]))
                  have p1_ : ((p : Int) == 0) = false := by rw [beq_eq_false_iff_ne]; rw [← hp] at hps; omega
                  have p0_ : p ≠ 0 := by rw [hp]; exact hps
                  clear hp hps htb HS
                  by_cases hkm : k < m
                  · have km : (k : Int) < (m : Int) := by omega
                    go_wp2_with fail
                    go_roundw
                    case rel => exact ⟨i + 1, m, A1, c1, out, tb2, by go_num, by omega, rfl, by omega, zb7, HG2, HU7, HT7, HO7, BW7⟩
                    case measure => simp [intOf] <;> omega
                  · obtain rfl : k = m := by omega
                    go_wp2_with fail
                    go_roundw
                    case rel => exact ⟨i + 1, k, A1, c1, out, tb2, by go_num, by omega, rfl, by omega, zb7, HG2, HU7, HT7, HO7, BW7⟩
                    case measure => simp [intOf] <;> omega
            · obtain ⟨a, rfl⟩ : ∃ a : Nat, lf = (a : Int) + 1 := ⟨(lf - 1).toNat, by omega⟩
              obtain ⟨b, rfl⟩ : ∃ b : Nat, rg = (b : Int) + 1 := ⟨(rg - 1).toNat, by omega⟩
              obtain ⟨GR, hGR⟩ : ∃ GR, GR = wr.heap.size := ⟨_, rfl⟩
              obtain ⟨x, hx⟩ : ∃ x, x = tb.getD (a + 1) 0 := ⟨_, rfl⟩
              obtain ⟨y, hy⟩ : ∃ y, y = tb.getD (b + 1) 0 := ⟨_, rfl⟩
              have an : (a : Int) + 1 < (n : Int) + 1 := by omega
              have a0 : (0 : Int) ≤ (a : Int) + 1 := by omega
              have bn : (b : Int) + 1 < (n : Int) + 1 := by omega
              have b00 : (0 : Int) ≤ (b : Int) + 1 := by omega
              have ca : wr.cell? ⟨G2, a + 1, none⟩ = some (.int .i64 x) := (HBT.out.cell (a + 1)).trans ((vi_at2 (by rw [HTL.out]; omega)).trans (by rw [hx]))
              have cb : wr.cell? ⟨G2, b + 1, none⟩ = some (.int .i64 y) := (HBT.out.cell (b + 1)).trans ((vi_at2 (by rw [HTL.out]; omega)).trans (by rw [hy]))
              have e2 : mvd2 (⟨2, 0, (a : Int) + 1, (b : Int) + 1, 0⟩ : Rl) tb = ⟨2, 0, x, y, 0⟩ := by rw [hx, hy]; rfl
              clear hx hy
              rw [e2] at hnew hold hr2ok
              clear e2
              have zs : w.heap.size ≤ wr.heap.size := BW.out.size
              have HX0 := Lib.hid (Box.new wr 46 #[.int .i64 2, .int .u8 0, .int .i64 x, .int .i64 y, .int .i64 0])
              have HU0 := Lib.hid (HBU.out.alloc (.cells #[.int .i64 2, .int .u8 0, .int .i64 x, .int .i64 y, .int .i64 0] 46))
              have HT0_ := Lib.hid (HBT.out.alloc (.cells #[.int .i64 2, .int .u8 0, .int .i64 x, .int .i64 y, .int .i64 0] 46))
              have HO0 := Lib.hid (own_alloc HO.out (.cells #[.int .i64 2, .int .u8 0, .int .i64 x, .int .i64 y, .int .i64 0] 46))
              have BW0 := Lib.hid (balloc BW.out (.cells #[.int .i64 2, .int .u8 0, .int .i64 x, .int .i64 y, .int .i64 0] 46))
              go_upto_region 21 with fail
              rw [← hGR]
              refine wp_name (fun w5 => Hid (Box w5 G1 4 (bl U).toArray) ∧ Hid (Box w5 G2 44 (vi tb).toArray) ∧ Hid (Box w5 GR 46 #[.int .i64 2, .int .u8 0, .int .i64 x, .int .i64 y, .int .i64 0]) ∧ Hid (w5.ownsRow B4 46 5 (.slice A1 m c1) m (gc out)) ∧ Hid (Below w.heap.size w w5) ∧ B4 ≤ w5.heap.size ∧ G2 < GR ∧ GR < w5.heap.size) ?facts ?_
              case facts =>
                rw [hGR]
                exact ⟨HU0, HT0_, HX0, HO0, BW0, by simp [World.setCell] <;> omega, gl2, by simp [World.setCell]⟩
              clear hGR HX0 HU0 HT0_ HO0 BW0 HBU HBT HO BW ca cb
              rintro w5 ⟨HU5, HT5, HX5, HO5, BW5, zb5, zr5, zr6⟩
              have HNEW := Lib.hid hnew; have HOLD := Lib.hid hold; have HR2 := Lib.hid hr2ok; have HT0 := Lib.hid ht0
              clear hnew hold hr2ok ht0 d0 d1 d2 d3 d4 cu
              go_wp2_with fail
              go_loopw [9] (fun sk wr => ∃ (k : Nat) (tb2 : List Int), sk = .int .i64 (k : Int) ∧ k ≤ m ∧ B4 ≤ wr.heap.size ∧ GR < wr.heap.size ∧ Hid ((tb2 = tb ∧ (⟨2, 0, x, y, 0⟩ : Rl) ∉ out.take k) ∨ (pos out ⟨2, 0, x, y, 0⟩ ≠ 0 ∧ tb2 = tb.set (i + 1) (pos out ⟨2, 0, x, y, 0⟩))) ∧ Hid (Box wr G1 4 (bl U).toArray) ∧ Hid (Box wr G2 44 (vi tb2).toArray) ∧ Hid (Box wr GR 46 #[.int .i64 2, .int .u8 0, .int .i64 x, .int .i64 y, .int .i64 0]) ∧ Hid (wr.ownsRow B4 46 5 (.slice A1 m c1) m (gc out)) ∧ Hid (Below w.heap.size w wr)) (fun sk _ => m + 1 - (intOf sk).toNat)
              case atStart => exact ⟨0, tb, rfl, by omega, zb5, zr6, Lib.hid (.inl ⟨rfl, by simp⟩), HU5, HT5, HX5, HO5, BW5⟩
              case round =>
                obtain ⟨k, tb2, rfl, hk, zb7, zr7, HS, HU7, HT7, HX7, HO7, BW7⟩ := hrel
                have k0 : (0 : Int) ≤ k := by omega
                have gl7 := HT7.out.lt
                have x0 : wr.cell? ⟨GR, 0, none⟩ = some (.int .i64 2) := HX7.out.cell 0
                have x1 : wr.cell? ⟨GR, 1, none⟩ = some (.int .u8 0) := HX7.out.cell 1
                have x2 : wr.cell? ⟨GR, 2, none⟩ = some (.int .i64 x) := HX7.out.cell 2
                have x3 : wr.cell? ⟨GR, 3, none⟩ = some (.int .i64 y) := HX7.out.cell 3
                have x4 : wr.cell? ⟨GR, 4, none⟩ = some (.int .i64 0) := HX7.out.cell 4
                rcases HS.out with ⟨htb, hnk⟩ | ⟨hps, htb⟩
                · have ct : wr.cell? ⟨G2, i + 1, none⟩ = some (.int .i64 0) := (HT7.out.cell (i + 1)).trans ((vi_at2 (by rw [htb, HTL.out]; omega)).trans (by rw [htb, HT0.out]))
                  have ft := HT7.out.free (i + 1)
                  have HNK := Lib.hid hnk; have HTB := Lib.hid htb
                  clear hnk htb HS
                  by_cases hkm : k < m
                  · have hkl : k < out.length := by rw [HOL.out]; exact hkm
                    obtain ⟨rk, hrk⟩ : ∃ rk, out[k]? = some rk := ⟨_, List.getElem?_eq_getElem hkl⟩
                    obtain ⟨ao, rfl, hao, y0, y1, y2, y3, y4⟩ := row_rl (own_row _ HO7.out) hrk
                    have hao2 : (ao.add (k * 5)).block < wr.heap.size := by rw [block_add]; exact hao
                    have km : (k : Int) < (m : Int) := by omega
                    have HRK := Lib.hid hrk
                    have heq : ∀ w, (binOp .eql 46 rk.val (⟨2, 0, x, y, 0⟩ : Rl).val).run Try.prog w = .ok (.bool (decide (rk = ⟨2, 0, x, y, 0⟩))) w := fun w => run_eql_rule rk ⟨2, 0, x, y, 0⟩ w
                    have HXo := HX7.out
                    obtain ⟨qe, hqe⟩ : ∃ qe, qe = decide (rk = ⟨2, 0, x, y, 0⟩) := ⟨_, rfl⟩
                    rw [← hqe] at heq
                    have HQE := Lib.hid hqe
                    obtain ⟨k1, l1, lf1, rg1, t1⟩ := rk
                    simp only at y0 y1 y2 y3 y4
                    clear hrk hqe
                    go_upto_region 24 with fail
                    refine region_lin (.val (fun v _ => v = .slice (some ao) m c1) :: .val (fun v _ => v = .int .i64 (k : Int)) :: .val (fun v _ => v = .pointer (some (ao.add (k * 5)))) :: .val (fun v _ => v = .agg #[.int .i64 k1, .int .u8 l1, .int .i64 lf1, .int .i64 rg1, .int .i64 t1]) :: .val (fun v _ => v = .agg #[.int .i64 2, .int .u8 0, .int .i64 x, .int .i64 y, .int .i64 0]) :: .val (fun v _ => v = .bool qe) :: [])
                      ([] :: [] :: [(111, 0), (112, 1)] :: [(113, 2)] :: [] :: [(114, 3), (115, 4)] :: []) ((0, 0) :: (0, 0) :: (0, 0) :: (0, 0) :: (0, 0) :: (0, 0) :: []) 137 (by kernel_rfl) rfl rfl (by kernel_rfl) ⟨Stab.pure _ _ _, Stab.pure _ _ _, Stab.pure _ _ _, Stab.pure _ _ _, Stab.pure _ _ _, Stab.pure _ _ _, trivial⟩ ⟨?_, ?_, ?_, ?_, ?_, ?_, trivial⟩ ?_
                    · intro wx hb
                      intro K hK
                      go_simp
                      exact hK _ _ rfl ⟨rfl, Below.refl _ _⟩
                    · intro wx hb
                      intro K hK
                      go_simp
                      exact hK _ _ rfl ⟨rfl, Below.refl _ _⟩
                    · intro wx hb
                      rintro _ rfl
                      rintro _ rfl
                      intro K hK
                      go_simp
                      exact hK _ _ rfl ⟨rfl, Below.refl _ _⟩
                    · intro wx hb
                      rintro _ rfl
                      intro K hK
                      have z0 := (hb.cell (p := (ao.add (k * 5))) hao2).trans y0; have z1 := (hb.cell (p := ⟨(ao.add (k * 5)).block, (ao.add (k * 5)).off + 1, none⟩) hao2).trans y1; have z2 := (hb.cell (p := ⟨(ao.add (k * 5)).block, (ao.add (k * 5)).off + 2, none⟩) hao2).trans y2; have z3 := (hb.cell (p := ⟨(ao.add (k * 5)).block, (ao.add (k * 5)).off + 3, none⟩) hao2).trans y3; have z4 := (hb.cell (p := ⟨(ao.add (k * 5)).block, (ao.add (k * 5)).off + 4, none⟩) hao2).trans y4; go_simp; exact hK _ _ rfl ⟨rfl, Below.refl _ _⟩
                    · intro wx hb
                      intro K hK
                      exact wp_load_row 46 (.tmp 8) rfl GR rfl 46 _ (0, 0) _ (Box.below (HXo) hb (Box.lt (HXo))) Try.underlying46 rfl (by kernel_rfl) (hK _ _ rfl ⟨rfl, Below.refl _ _⟩)
                    · intro wx hb
                      rintro _ rfl
                      rintro _ rfl
                      intro K hK
                      go_simp
                      exact hK _ _ rfl ⟨rfl, Below.refl _ _⟩
                    intro w8 B8
                    rintro _ rfl
                    rintro _ rfl
                    rintro _ rfl
                    rintro _ rfl
                    rintro _ rfl
                    rintro _ rfl
                    rintro -
                    simp only [Act.put, List.setIfInBounds_toArray, List.set_cons_zero, List.set_cons_succ, List.toList_toArray, List.length_cons, List.length_nil, List.drop_succ_cons, List.drop_zero, List.drop_nil, Nat.zero_add, wpList]
                    have HU8 := Lib.hid (HU7.out.below B8 HU7.out.lt); have HT8 := Lib.hid (HT7.out.below B8 HT7.out.lt); have HX8 := Lib.hid (HX7.out.below B8 HX7.out.lt); have HO8 := Lib.hid (own_below HO7.out B8); have BW8 := Lib.hid (bkeep BW7.out B8)
                    have zb8 : B4 ≤ w8.heap.size := Nat.le_trans zb7 B8.size
                    have zr8 : GR < w8.heap.size := Nat.lt_of_lt_of_le zr7 B8.size
                    have ct8 : w8.cell? ⟨G2, i + 1, none⟩ = some (.int .i64 0) := (B8.cell (p := ⟨G2, i + 1, none⟩) gl7).trans ct
                    have ft8 := HT8.out.free (i + 1)
                    clear B8 heq y0 y1 y2 y3 y4 x0 x1 x2 x3 x4 ct ft HXo
                    cases qe with
                    | true =>
                      have hrr : (⟨k1, l1, lf1, rg1, t1⟩ : Rl) = ⟨2, 0, x, y, 0⟩ := of_decide_eq_true HQE.out.symm
                      have hpos := pos_at (by rw [← hrr]; exact HRK.out : out[k]? = some ⟨2, 0, x, y, 0⟩) HNK.out
                      have HS2 : Hid ((tb.set (i + 1) ((k : Int) + 1) = tb ∧ (⟨2, 0, x, y, 0⟩ : Rl) ∉ out.take (k + 1)) ∨ (pos out ⟨2, 0, x, y, 0⟩ ≠ 0 ∧ tb.set (i + 1) ((k : Int) + 1) = tb.set (i + 1) (pos out ⟨2, 0, x, y, 0⟩))) := Lib.hid (.inr ⟨by rw [hpos]; omega, by rw [hpos]; rfl⟩)
                      have HT9 : Hid (Box (w8.setCell ⟨G2, i + 1, none⟩ (.int .i64 ((k : Int) + 1))) G2 44 (vi (tb.set (i + 1) ((k : Int) + 1))).toArray) := Lib.hid (by
                        have := HT8.out.set_ (i + 1) (.int .i64 ((k : Int) + 1))
                        rw [vi_set, HTB.out] at this
                        exact this)
                      have HU9 := Lib.hid (HU8.out.far (p := ⟨G2, i + 1, none⟩) (by simp; omega) (.int .i64 ((k : Int) + 1)))
                      have HX9 := Lib.hid (HX8.out.far (p := ⟨G2, i + 1, none⟩) (by simp; omega) (.int .i64 ((k : Int) + 1)))
                      have HO9 := Lib.hid (own_set HO8.out (p := ⟨G2, i + 1, none⟩) (by simp; omega) (.int .i64 ((k : Int) + 1)))
                      have BW9 := Lib.hid (BW8.out.setCell (p := ⟨G2, i + 1, none⟩) (by simp; omega) (.int .i64 ((k : Int) + 1)))
                      clear hrr hpos
                      go_wp2_with fail
                      go_roundw
                      case rel => exact ⟨k + 1, tb.set (i + 1) ((k : Int) + 1), by go_num, by omega, by simpa [World.setCell] using zb8, by simpa [World.setCell] using zr8, HS2, HU9, HT9, HX9, HO9, BW9⟩
                      case measure => simp [intOf] <;> omega
                    | false =>
                      have HS2 : Hid ((tb2 = tb ∧ (⟨2, 0, x, y, 0⟩ : Rl) ∉ out.take (k + 1)) ∨ (pos out ⟨2, 0, x, y, 0⟩ ≠ 0 ∧ tb2 = tb.set (i + 1) (pos out ⟨2, 0, x, y, 0⟩))) := Lib.hid (.inl ⟨HTB.out, by
                        have hne := of_decide_eq_false HQE.out.symm
                        obtain ⟨hlt2, hge⟩ := List.getElem?_eq_some_iff.1 HRK.out
                        rw [List.take_succ_eq_append_getElem hlt2, hge]
                        intro hm
                        rcases List.mem_append.1 hm with hm | hm
                        · exact HNK.out hm
                        · exact hne (List.mem_singleton.1 hm).symm⟩)
                      go_wp2_with fail
                      go_roundw
                      case rel => exact ⟨k + 1, tb2, by go_num, by omega, zb8, zr8, HS2, HU8, HT8, HX8, HO8, BW8⟩
                      case measure => simp [intOf] <;> omega
                  · obtain rfl : k = m := by omega
                    have hpos : pos out ⟨2, 0, x, y, 0⟩ = 0 := (pos_zero _ _).2 (by
                      have := HNK.out
                      rw [List.take_of_length_le (by rw [HOL.out]; exact Nat.le_refl _)] at this
                      exact this)
                    have HG2 : Hid ((trFrom U (i + 1) (g.drop (i + 1)) (out ++ [⟨2, 0, x, y, 0⟩], tb.set (i + 1) ((k : Int) + 1))).1 = F ∧ TrOk n (i + 1) (out ++ [⟨2, 0, x, y, 0⟩]) (tb.set (i + 1) ((k : Int) + 1)) ∧ (out ++ [(⟨2, 0, x, y, 0⟩ : Rl)]).length = k + 1 ∧ ∀ j, i + 1 < j → (tb.set (i + 1) ((k : Int) + 1)).getD j 0 = 0) := Lib.hid ⟨by
                      have := HNEW.out hpos
                      rw [HOL.out] at this
                      exact this, by
                      have := HTO.out.new HR2.out
                      rw [HOL.out] at this
                      exact this, by rw [List.length_append, HOL.out]; rfl, fun j hj => by rw [getD_set_ne (by omega)]; exact HZR.out j (by omega)⟩
                    have hob : ∀ q, (Value.slice A1 k c1).ownBlock = some q → B4 ≤ q := own_ge HO7.out
                    clear hpos
                    go_upto_region 27 with fail
                    go_wp2_with (refine wpList_app _ (by rfl) (.tmp 127) (.tmp 129) _ rfl B4 46 i0_ _ 5 40 Try.underlying22 HI.out HZ.out HZ1.out HZ2.out rfl (by omega) (.slice A1 k c1) k (gc out) rfl ?own _ 1 1 ((⟨2, 0, x, y, 0⟩ : Rl).cells) rfl rfl ?row (cells_one _) (by simp only [maxLen]; omega) (by omega) ?size ?_)
                    case own => exact own_alloc HO7.out _
                    case row => exact RowAt.of_block (box_new_ (by simp))
                    case size => simp; omega
                    intro A9 c9 w9 own9 gr9 at9
                    rw [gc_snoc] at own9
                    have HO9 := Lib.hid own9
                    have zb9 : B4 ≤ w9.heap.size := by have := gr9.size; simp at this; omega
                    have HU9 := Lib.hid ((HU7.out.alloc _).grown gr9 (fun e => by have := hob _ e; omega))
                    have HT9 := Lib.hid ((HT7.out.alloc _).grown gr9 (fun e => by have := hob _ e; omega))
                    have BW9 := Lib.hid ((balloc BW7.out _).grown gr9 (by have := BW7.out.size; simp; omega) (fun q hq => by have := hob q hq; omega))
                    have ct9 : w9.cell? ⟨G2, i + 1, none⟩ = some (.int .i64 0) := (HT9.out.cell (i + 1)).trans ((vi_at2 (by rw [HTB.out, HTL.out]; omega)).trans (by rw [HTB.out, HT0.out]))
                    have ft9 := HT9.out.free (i + 1)
                    have HU10 := Lib.hid (HU9.out.far (p := ⟨G2, i + 1, none⟩) (by simp; omega) (.int .i64 ((k : Int) + 1)))
                    have HT10 : Hid (Box (w9.setCell ⟨G2, i + 1, none⟩ (.int .i64 ((k : Int) + 1))) G2 44 (vi (tb.set (i + 1) ((k : Int) + 1))).toArray) := Lib.hid (by
                      have := HT9.out.set_ (i + 1) (.int .i64 ((k : Int) + 1))
                      rw [vi_set, HTB.out] at this
                      exact this)
                    have HO10 := Lib.hid (own_set HO9.out (p := ⟨G2, i + 1, none⟩) (by simp; omega) (.int .i64 ((k : Int) + 1)))
                    have BW10 := Lib.hid (BW9.out.setCell (p := ⟨G2, i + 1, none⟩) (by simp; omega) (.int .i64 ((k : Int) + 1)))
                    clear own9 gr9 at9 hob ct ft x0 x1 x2 x3 x4
                    go_wp2_with fail
                    go_roundw
                    case rel => exact ⟨i + 1, k + 1, A9, c9, _, _, by go_num, by omega, rfl, by omega, by simpa [World.setCell] using zb9, HG2, HU10, HT10, HO10, BW10⟩
                    case measure => simp [intOf] <;> omega
                · obtain ⟨p, hp⟩ : ∃ p, p = pos out ⟨2, 0, x, y, 0⟩ := ⟨_, rfl⟩
                  have HG2 : Hid ((trFrom U (i + 1) (g.drop (i + 1)) (out, tb2)).1 = F ∧ TrOk n (i + 1) out tb2 ∧ out.length = m ∧ ∀ j, i + 1 < j → tb2.getD j 0 = 0) := Lib.hid ⟨by rw [htb]; exact HOLD.out hps, by rw [htb]; exact HTO.out.old _, HOL.out, fun j hj => by rw [htb, getD_set_ne (by omega)]; exact HZR.out j (by omega)⟩
                  have ct : wr.cell? ⟨G2, i + 1, none⟩ = some (.int .i64 (p : Int)) := (HT7.out.cell (i + 1)).trans ((vi_at2 (by rw [htb, List.length_set, HTL.out]; omega)).trans (by rw [htb, getD_set_eq (by rw [HTL.out]; omega), hp]))
                  have p1_ : ((p : Int) == 0) = false := by rw [beq_eq_false_iff_ne]; rw [← hp] at hps; omega
                  have p0_ : p ≠ 0 := by rw [hp]; exact hps
                  clear hp hps htb HS
                  by_cases hkm : k < m
                  · have km : (k : Int) < (m : Int) := by omega
                    go_wp2_with fail
                    go_roundw
                    case rel => exact ⟨i + 1, m, A1, c1, out, tb2, by go_num, by omega, rfl, by omega, zb7, HG2, HU7, HT7, HO7, BW7⟩
                    case measure => simp [intOf] <;> omega
                  · obtain rfl : k = m := by omega
                    go_wp2_with fail
                    go_roundw
                    case rel => exact ⟨i + 1, k, A1, c1, out, tb2, by go_num, by omega, rfl, by omega, zb7, HG2, HU7, HT7, HO7, BW7⟩
                    case measure => simp [intOf] <;> omega
            · obtain ⟨a, rfl⟩ : ∃ a : Nat, lf = (a : Int) + 1 := ⟨(lf - 1).toNat, by omega⟩
              obtain ⟨GR, hGR⟩ : ∃ GR, GR = wr.heap.size := ⟨_, rfl⟩
              obtain ⟨x, hx⟩ : ∃ x, x = tb.getD (a + 1) 0 := ⟨_, rfl⟩
              have an : (a : Int) + 1 < (n : Int) + 1 := by omega
              have a0 : (0 : Int) ≤ (a : Int) + 1 := by omega
              have ca : wr.cell? ⟨G2, a + 1, none⟩ = some (.int .i64 x) := (HBT.out.cell (a + 1)).trans ((vi_at2 (by rw [HTL.out]; omega)).trans (by rw [hx]))
              have e2 : mvd2 (⟨3, 0, (a : Int) + 1, 0, tm⟩ : Rl) tb = ⟨3, 0, x, 0, tm⟩ := by rw [hx]; rfl
              clear hx
              rw [e2] at hnew hold hr2ok
              clear e2
              have zs : w.heap.size ≤ wr.heap.size := BW.out.size
              have HX0 := Lib.hid (Box.new wr 46 #[.int .i64 3, .int .u8 0, .int .i64 x, .int .i64 0, .int .i64 tm])
              have HU0 := Lib.hid (HBU.out.alloc (.cells #[.int .i64 3, .int .u8 0, .int .i64 x, .int .i64 0, .int .i64 tm] 46))
              have HT0_ := Lib.hid (HBT.out.alloc (.cells #[.int .i64 3, .int .u8 0, .int .i64 x, .int .i64 0, .int .i64 tm] 46))
              have HO0 := Lib.hid (own_alloc HO.out (.cells #[.int .i64 3, .int .u8 0, .int .i64 x, .int .i64 0, .int .i64 tm] 46))
              have BW0 := Lib.hid (balloc BW.out (.cells #[.int .i64 3, .int .u8 0, .int .i64 x, .int .i64 0, .int .i64 tm] 46))
              go_upto_region 21 with fail
              rw [← hGR]
              refine wp_name (fun w5 => Hid (Box w5 G1 4 (bl U).toArray) ∧ Hid (Box w5 G2 44 (vi tb).toArray) ∧ Hid (Box w5 GR 46 #[.int .i64 3, .int .u8 0, .int .i64 x, .int .i64 0, .int .i64 tm]) ∧ Hid (w5.ownsRow B4 46 5 (.slice A1 m c1) m (gc out)) ∧ Hid (Below w.heap.size w w5) ∧ B4 ≤ w5.heap.size ∧ G2 < GR ∧ GR < w5.heap.size) ?facts ?_
              case facts =>
                rw [hGR]
                exact ⟨HU0, HT0_, HX0, HO0, BW0, by simp [World.setCell] <;> omega, gl2, by simp [World.setCell]⟩
              clear hGR HX0 HU0 HT0_ HO0 BW0 HBU HBT HO BW ca
              rintro w5 ⟨HU5, HT5, HX5, HO5, BW5, zb5, zr5, zr6⟩
              have HNEW := Lib.hid hnew; have HOLD := Lib.hid hold; have HR2 := Lib.hid hr2ok; have HT0 := Lib.hid ht0
              clear hnew hold hr2ok ht0 d0 d1 d2 d3 d4 cu
              go_wp2_with fail
              go_loopw [9] (fun sk wr => ∃ (k : Nat) (tb2 : List Int), sk = .int .i64 (k : Int) ∧ k ≤ m ∧ B4 ≤ wr.heap.size ∧ GR < wr.heap.size ∧ Hid ((tb2 = tb ∧ (⟨3, 0, x, 0, tm⟩ : Rl) ∉ out.take k) ∨ (pos out ⟨3, 0, x, 0, tm⟩ ≠ 0 ∧ tb2 = tb.set (i + 1) (pos out ⟨3, 0, x, 0, tm⟩))) ∧ Hid (Box wr G1 4 (bl U).toArray) ∧ Hid (Box wr G2 44 (vi tb2).toArray) ∧ Hid (Box wr GR 46 #[.int .i64 3, .int .u8 0, .int .i64 x, .int .i64 0, .int .i64 tm]) ∧ Hid (wr.ownsRow B4 46 5 (.slice A1 m c1) m (gc out)) ∧ Hid (Below w.heap.size w wr)) (fun sk _ => m + 1 - (intOf sk).toNat)
              case atStart => exact ⟨0, tb, rfl, by omega, zb5, zr6, Lib.hid (.inl ⟨rfl, by simp⟩), HU5, HT5, HX5, HO5, BW5⟩
              case round =>
                obtain ⟨k, tb2, rfl, hk, zb7, zr7, HS, HU7, HT7, HX7, HO7, BW7⟩ := hrel
                have k0 : (0 : Int) ≤ k := by omega
                have gl7 := HT7.out.lt
                have x0 : wr.cell? ⟨GR, 0, none⟩ = some (.int .i64 3) := HX7.out.cell 0
                have x1 : wr.cell? ⟨GR, 1, none⟩ = some (.int .u8 0) := HX7.out.cell 1
                have x2 : wr.cell? ⟨GR, 2, none⟩ = some (.int .i64 x) := HX7.out.cell 2
                have x3 : wr.cell? ⟨GR, 3, none⟩ = some (.int .i64 0) := HX7.out.cell 3
                have x4 : wr.cell? ⟨GR, 4, none⟩ = some (.int .i64 tm) := HX7.out.cell 4
                rcases HS.out with ⟨htb, hnk⟩ | ⟨hps, htb⟩
                · have ct : wr.cell? ⟨G2, i + 1, none⟩ = some (.int .i64 0) := (HT7.out.cell (i + 1)).trans ((vi_at2 (by rw [htb, HTL.out]; omega)).trans (by rw [htb, HT0.out]))
                  have ft := HT7.out.free (i + 1)
                  have HNK := Lib.hid hnk; have HTB := Lib.hid htb
                  clear hnk htb HS
                  by_cases hkm : k < m
                  · have hkl : k < out.length := by rw [HOL.out]; exact hkm
                    obtain ⟨rk, hrk⟩ : ∃ rk, out[k]? = some rk := ⟨_, List.getElem?_eq_getElem hkl⟩
                    obtain ⟨ao, rfl, hao, y0, y1, y2, y3, y4⟩ := row_rl (own_row _ HO7.out) hrk
                    have hao2 : (ao.add (k * 5)).block < wr.heap.size := by rw [block_add]; exact hao
                    have km : (k : Int) < (m : Int) := by omega
                    have HRK := Lib.hid hrk
                    have heq : ∀ w, (binOp .eql 46 rk.val (⟨3, 0, x, 0, tm⟩ : Rl).val).run Try.prog w = .ok (.bool (decide (rk = ⟨3, 0, x, 0, tm⟩))) w := fun w => run_eql_rule rk ⟨3, 0, x, 0, tm⟩ w
                    have HXo := HX7.out
                    obtain ⟨qe, hqe⟩ : ∃ qe, qe = decide (rk = ⟨3, 0, x, 0, tm⟩) := ⟨_, rfl⟩
                    rw [← hqe] at heq
                    have HQE := Lib.hid hqe
                    obtain ⟨k1, l1, lf1, rg1, t1⟩ := rk
                    simp only at y0 y1 y2 y3 y4
                    clear hrk hqe
                    go_upto_region 24 with fail
                    refine region_lin (.val (fun v _ => v = .slice (some ao) m c1) :: .val (fun v _ => v = .int .i64 (k : Int)) :: .val (fun v _ => v = .pointer (some (ao.add (k * 5)))) :: .val (fun v _ => v = .agg #[.int .i64 k1, .int .u8 l1, .int .i64 lf1, .int .i64 rg1, .int .i64 t1]) :: .val (fun v _ => v = .agg #[.int .i64 3, .int .u8 0, .int .i64 x, .int .i64 0, .int .i64 tm]) :: .val (fun v _ => v = .bool qe) :: [])
                      ([] :: [] :: [(111, 0), (112, 1)] :: [(113, 2)] :: [] :: [(114, 3), (115, 4)] :: []) ((0, 0) :: (0, 0) :: (0, 0) :: (0, 0) :: (0, 0) :: (0, 0) :: []) 137 (by kernel_rfl) rfl rfl (by kernel_rfl) ⟨Stab.pure _ _ _, Stab.pure _ _ _, Stab.pure _ _ _, Stab.pure _ _ _, Stab.pure _ _ _, Stab.pure _ _ _, trivial⟩ ⟨?_, ?_, ?_, ?_, ?_, ?_, trivial⟩ ?_
                    · intro wx hb
                      intro K hK
                      go_simp
                      exact hK _ _ rfl ⟨rfl, Below.refl _ _⟩
                    · intro wx hb
                      intro K hK
                      go_simp
                      exact hK _ _ rfl ⟨rfl, Below.refl _ _⟩
                    · intro wx hb
                      rintro _ rfl
                      rintro _ rfl
                      intro K hK
                      go_simp
                      exact hK _ _ rfl ⟨rfl, Below.refl _ _⟩
                    · intro wx hb
                      rintro _ rfl
                      intro K hK
                      have z0 := (hb.cell (p := (ao.add (k * 5))) hao2).trans y0; have z1 := (hb.cell (p := ⟨(ao.add (k * 5)).block, (ao.add (k * 5)).off + 1, none⟩) hao2).trans y1; have z2 := (hb.cell (p := ⟨(ao.add (k * 5)).block, (ao.add (k * 5)).off + 2, none⟩) hao2).trans y2; have z3 := (hb.cell (p := ⟨(ao.add (k * 5)).block, (ao.add (k * 5)).off + 3, none⟩) hao2).trans y3; have z4 := (hb.cell (p := ⟨(ao.add (k * 5)).block, (ao.add (k * 5)).off + 4, none⟩) hao2).trans y4; go_simp; exact hK _ _ rfl ⟨rfl, Below.refl _ _⟩
                    · intro wx hb
                      intro K hK
                      exact wp_load_row 46 (.tmp 8) rfl GR rfl 46 _ (0, 0) _ (Box.below (HXo) hb (Box.lt (HXo))) Try.underlying46 rfl (by kernel_rfl) (hK _ _ rfl ⟨rfl, Below.refl _ _⟩)
                    · intro wx hb
                      rintro _ rfl
                      rintro _ rfl
                      intro K hK
                      go_simp
                      exact hK _ _ rfl ⟨rfl, Below.refl _ _⟩
                    intro w8 B8
                    rintro _ rfl
                    rintro _ rfl
                    rintro _ rfl
                    rintro _ rfl
                    rintro _ rfl
                    rintro _ rfl
                    rintro -
                    simp only [Act.put, List.setIfInBounds_toArray, List.set_cons_zero, List.set_cons_succ, List.toList_toArray, List.length_cons, List.length_nil, List.drop_succ_cons, List.drop_zero, List.drop_nil, Nat.zero_add, wpList]
                    have HU8 := Lib.hid (HU7.out.below B8 HU7.out.lt); have HT8 := Lib.hid (HT7.out.below B8 HT7.out.lt); have HX8 := Lib.hid (HX7.out.below B8 HX7.out.lt); have HO8 := Lib.hid (own_below HO7.out B8); have BW8 := Lib.hid (bkeep BW7.out B8)
                    have zb8 : B4 ≤ w8.heap.size := Nat.le_trans zb7 B8.size
                    have zr8 : GR < w8.heap.size := Nat.lt_of_lt_of_le zr7 B8.size
                    have ct8 : w8.cell? ⟨G2, i + 1, none⟩ = some (.int .i64 0) := (B8.cell (p := ⟨G2, i + 1, none⟩) gl7).trans ct
                    have ft8 := HT8.out.free (i + 1)
                    clear B8 heq y0 y1 y2 y3 y4 x0 x1 x2 x3 x4 ct ft HXo
                    cases qe with
                    | true =>
                      have hrr : (⟨k1, l1, lf1, rg1, t1⟩ : Rl) = ⟨3, 0, x, 0, tm⟩ := of_decide_eq_true HQE.out.symm
                      have hpos := pos_at (by rw [← hrr]; exact HRK.out : out[k]? = some ⟨3, 0, x, 0, tm⟩) HNK.out
                      have HS2 : Hid ((tb.set (i + 1) ((k : Int) + 1) = tb ∧ (⟨3, 0, x, 0, tm⟩ : Rl) ∉ out.take (k + 1)) ∨ (pos out ⟨3, 0, x, 0, tm⟩ ≠ 0 ∧ tb.set (i + 1) ((k : Int) + 1) = tb.set (i + 1) (pos out ⟨3, 0, x, 0, tm⟩))) := Lib.hid (.inr ⟨by rw [hpos]; omega, by rw [hpos]; rfl⟩)
                      have HT9 : Hid (Box (w8.setCell ⟨G2, i + 1, none⟩ (.int .i64 ((k : Int) + 1))) G2 44 (vi (tb.set (i + 1) ((k : Int) + 1))).toArray) := Lib.hid (by
                        have := HT8.out.set_ (i + 1) (.int .i64 ((k : Int) + 1))
                        rw [vi_set, HTB.out] at this
                        exact this)
                      have HU9 := Lib.hid (HU8.out.far (p := ⟨G2, i + 1, none⟩) (by simp; omega) (.int .i64 ((k : Int) + 1)))
                      have HX9 := Lib.hid (HX8.out.far (p := ⟨G2, i + 1, none⟩) (by simp; omega) (.int .i64 ((k : Int) + 1)))
                      have HO9 := Lib.hid (own_set HO8.out (p := ⟨G2, i + 1, none⟩) (by simp; omega) (.int .i64 ((k : Int) + 1)))
                      have BW9 := Lib.hid (BW8.out.setCell (p := ⟨G2, i + 1, none⟩) (by simp; omega) (.int .i64 ((k : Int) + 1)))
                      clear hrr hpos
                      go_wp2_with fail
                      go_roundw
                      case rel => exact ⟨k + 1, tb.set (i + 1) ((k : Int) + 1), by go_num, by omega, by simpa [World.setCell] using zb8, by simpa [World.setCell] using zr8, HS2, HU9, HT9, HX9, HO9, BW9⟩
                      case measure => simp [intOf] <;> omega
                    | false =>
                      have HS2 : Hid ((tb2 = tb ∧ (⟨3, 0, x, 0, tm⟩ : Rl) ∉ out.take (k + 1)) ∨ (pos out ⟨3, 0, x, 0, tm⟩ ≠ 0 ∧ tb2 = tb.set (i + 1) (pos out ⟨3, 0, x, 0, tm⟩))) := Lib.hid (.inl ⟨HTB.out, by
                        have hne := of_decide_eq_false HQE.out.symm
                        obtain ⟨hlt2, hge⟩ := List.getElem?_eq_some_iff.1 HRK.out
                        rw [List.take_succ_eq_append_getElem hlt2, hge]
                        intro hm
                        rcases List.mem_append.1 hm with hm | hm
                        · exact HNK.out hm
                        · exact hne (List.mem_singleton.1 hm).symm⟩)
                      go_wp2_with fail
                      go_roundw
                      case rel => exact ⟨k + 1, tb2, by go_num, by omega, zb8, zr8, HS2, HU8, HT8, HX8, HO8, BW8⟩
                      case measure => simp [intOf] <;> omega
                  · obtain rfl : k = m := by omega
                    have hpos : pos out ⟨3, 0, x, 0, tm⟩ = 0 := (pos_zero _ _).2 (by
                      have := HNK.out
                      rw [List.take_of_length_le (by rw [HOL.out]; exact Nat.le_refl _)] at this
                      exact this)
                    have HG2 : Hid ((trFrom U (i + 1) (g.drop (i + 1)) (out ++ [⟨3, 0, x, 0, tm⟩], tb.set (i + 1) ((k : Int) + 1))).1 = F ∧ TrOk n (i + 1) (out ++ [⟨3, 0, x, 0, tm⟩]) (tb.set (i + 1) ((k : Int) + 1)) ∧ (out ++ [(⟨3, 0, x, 0, tm⟩ : Rl)]).length = k + 1 ∧ ∀ j, i + 1 < j → (tb.set (i + 1) ((k : Int) + 1)).getD j 0 = 0) := Lib.hid ⟨by
                      have := HNEW.out hpos
                      rw [HOL.out] at this
                      exact this, by
                      have := HTO.out.new HR2.out
                      rw [HOL.out] at this
                      exact this, by rw [List.length_append, HOL.out]; rfl, fun j hj => by rw [getD_set_ne (by omega)]; exact HZR.out j (by omega)⟩
                    have hob : ∀ q, (Value.slice A1 k c1).ownBlock = some q → B4 ≤ q := own_ge HO7.out
                    clear hpos
                    go_upto_region 27 with fail
                    go_wp2_with (refine wpList_app _ (by rfl) (.tmp 127) (.tmp 129) _ rfl B4 46 i0_ _ 5 40 Try.underlying22 HI.out HZ.out HZ1.out HZ2.out rfl (by omega) (.slice A1 k c1) k (gc out) rfl ?own _ 1 1 ((⟨3, 0, x, 0, tm⟩ : Rl).cells) rfl rfl ?row (cells_one _) (by simp only [maxLen]; omega) (by omega) ?size ?_)
                    case own => exact own_alloc HO7.out _
                    case row => exact RowAt.of_block (box_new_ (by simp))
                    case size => simp; omega
                    intro A9 c9 w9 own9 gr9 at9
                    rw [gc_snoc] at own9
                    have HO9 := Lib.hid own9
                    have zb9 : B4 ≤ w9.heap.size := by have := gr9.size; simp at this; omega
                    have HU9 := Lib.hid ((HU7.out.alloc _).grown gr9 (fun e => by have := hob _ e; omega))
                    have HT9 := Lib.hid ((HT7.out.alloc _).grown gr9 (fun e => by have := hob _ e; omega))
                    have BW9 := Lib.hid ((balloc BW7.out _).grown gr9 (by have := BW7.out.size; simp; omega) (fun q hq => by have := hob q hq; omega))
                    have ct9 : w9.cell? ⟨G2, i + 1, none⟩ = some (.int .i64 0) := (HT9.out.cell (i + 1)).trans ((vi_at2 (by rw [HTB.out, HTL.out]; omega)).trans (by rw [HTB.out, HT0.out]))
                    have ft9 := HT9.out.free (i + 1)
                    have HU10 := Lib.hid (HU9.out.far (p := ⟨G2, i + 1, none⟩) (by simp; omega) (.int .i64 ((k : Int) + 1)))
                    have HT10 : Hid (Box (w9.setCell ⟨G2, i + 1, none⟩ (.int .i64 ((k : Int) + 1))) G2 44 (vi (tb.set (i + 1) ((k : Int) + 1))).toArray) := Lib.hid (by
                      have := HT9.out.set_ (i + 1) (.int .i64 ((k : Int) + 1))
                      rw [vi_set, HTB.out] at this
                      exact this)
                    have HO10 := Lib.hid (own_set HO9.out (p := ⟨G2, i + 1, none⟩) (by simp; omega) (.int .i64 ((k : Int) + 1)))
                    have BW10 := Lib.hid (BW9.out.setCell (p := ⟨G2, i + 1, none⟩) (by simp; omega) (.int .i64 ((k : Int) + 1)))
                    clear own9 gr9 at9 hob ct ft x0 x1 x2 x3 x4
                    go_wp2_with fail
                    go_roundw
                    case rel => exact ⟨i + 1, k + 1, A9, c9, _, _, by go_num, by omega, rfl, by omega, by simpa [World.setCell] using zb9, HG2, HU10, HT10, HO10, BW10⟩
                    case measure => simp [intOf] <;> omega
                · obtain ⟨p, hp⟩ : ∃ p, p = pos out ⟨3, 0, x, 0, tm⟩ := ⟨_, rfl⟩
                  have HG2 : Hid ((trFrom U (i + 1) (g.drop (i + 1)) (out, tb2)).1 = F ∧ TrOk n (i + 1) out tb2 ∧ out.length = m ∧ ∀ j, i + 1 < j → tb2.getD j 0 = 0) := Lib.hid ⟨by rw [htb]; exact HOLD.out hps, by rw [htb]; exact HTO.out.old _, HOL.out, fun j hj => by rw [htb, getD_set_ne (by omega)]; exact HZR.out j (by omega)⟩
                  have ct : wr.cell? ⟨G2, i + 1, none⟩ = some (.int .i64 (p : Int)) := (HT7.out.cell (i + 1)).trans ((vi_at2 (by rw [htb, List.length_set, HTL.out]; omega)).trans (by rw [htb, getD_set_eq (by rw [HTL.out]; omega), hp]))
                  have p1_ : ((p : Int) == 0) = false := by rw [beq_eq_false_iff_ne]; rw [← hp] at hps; omega
                  have p0_ : p ≠ 0 := by rw [hp]; exact hps
                  clear hp hps htb HS
                  by_cases hkm : k < m
                  · have km : (k : Int) < (m : Int) := by omega
                    go_wp2_with fail
                    go_roundw
                    case rel => exact ⟨i + 1, m, A1, c1, out, tb2, by go_num, by omega, rfl, by omega, zb7, HG2, HU7, HT7, HO7, BW7⟩
                    case measure => simp [intOf] <;> omega
                  · obtain rfl : k = m := by omega
                    go_wp2_with fail
                    go_roundw
                    case rel => exact ⟨i + 1, k, A1, c1, out, tb2, by go_num, by omega, rfl, by omega, zb7, HG2, HU7, HT7, HO7, BW7⟩
                    case measure => simp [intOf] <;> omega
        · obtain rfl : i = n := by omega
          have HG2 : Hid (out = F ∧ out.length = m) := Lib.hid ⟨by
            have := HG.out.1
            rw [trFrom_end (by rw [HL.out]; exact Nat.le_refl _)] at this
            exact this, HG.out.2.2.1⟩
          go_wp2_with fail
          go_ret
          refine ⟨A1, c1, ?_, ?_, BW.out⟩
          · rw [← HG2.out.1, HG2.out.2]; rfl
          · rw [← HG2.out.1]; exact own_row _ HO.out
end Go.Proofs.Ytcbahojefglakaa
