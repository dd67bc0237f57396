/- The walk of grammar.Trim. -/
import Derived.Test.YtcbahojefglakaaGrTrimPlain
import Derived.Carry
import Derived.Test.YtcbahojefglakaaGrRLen
namespace Go.Proofs.Ytcbahojefglakaa
set_option linter.unusedVariables false
set_option linter.unusedSimpArgs false
open Go.RowKit Go.Lib
attribute [local go_sem ↓] Go.wp_at_zero Go.wp_at_succ
theorem row_keep {w : World} {A : Option Addr} {l : List Int} {p : Addr} {b : Bool} (h : RowAt w A (vi l)) (hp : w.cell? p = some (.bool b)) (v : Value) : RowAt (w.setCell p v) A (vi l) := fun k u hu => by
  obtain ⟨ad, e, hc⟩ := h k u hu
  refine ⟨ad, e, (World.cell?_setCell_other w _ _ v (fun e => ?_)).trans hc⟩
  have hk : k < (vi l).length := (List.getElem?_eq_some_iff.1 hu).1
  have hu2 : u = .int .i64 (l[k]'(by simpa [vi] using hk)) := by
    have := (List.getElem?_eq_some_iff.1 hu).2
    rw [← this]; simp [vi]
  subst hu2
  rw [← e, hp] at hc
  cases hc
theorem own_lt {w : World} {base : Nat} {e : TypeId} {size n : Nat} {v : Value} {xs : List Value} (h : w.ownsRow base e size v n xs) : ∀ k, v.ownBlock = some k → k < w.heap.size := by
  rcases h.2 with ⟨rfl, _⟩ | ⟨g, cap, cur, rfl, hg, hc, _⟩
  · intro k hk; simp [Value.ownBlock] at hk
  · intro k hk
    simp [Value.ownBlock] at hk
    have := Box.lt (cs := cur) (t := e) hc
    omega
theorem own_block {w w' : World} {base : Nat} {e : TypeId} {size n : Nat} {v : Value} {xs : List Value} (h : w.ownsRow base e size v n xs) (hk : ∀ k, v.ownBlock = some k → w'.heap[k]? = w.heap[k]?) : w'.ownsRow base e size v n xs := by
  refine ⟨h.1, ?_⟩
  rcases h.2 with h | ⟨g, cap, cur, hv, hg, hc, hr⟩
  · exact .inl h
  · exact .inr ⟨g, cap, cur, hv, hg, (hk g (by rw [hv]; simp [Value.ownBlock])).trans hc, hr⟩
theorem own_kept {w w' : World} {base : Nat} {e : TypeId} {size n : Nat} {v : Value} {xs : List Value} {row : Option Nat} (h : w.ownsRow base e size v n xs) (gr : w.grownBy w' row) (hne : ∀ k, v.ownBlock = some k → row ≠ some k) : w'.ownsRow base e size v n xs :=
  own_block h fun k hk => gr.block k (own_lt h k hk) (fun e => hne k hk e.symm)
theorem own_set {w : World} {base : Nat} {e : TypeId} {size n : Nat} {v : Value} {xs : List Value} (h : w.ownsRow base e size v n xs) {p : Addr} (hp : p.block < base) (u : Value) : (w.setCell p u).ownsRow base e size v n xs :=
  own_block h fun k hk => Below.heap_setCell w p u k (by have := own_ge h k hk; omega)
set_option maxRecDepth 100000 in
set_option maxHeartbeats 16000000 in
theorem trim_ok (g : List Rl) (n c : Nat) (A : Option Addr) (hl : g.length = n) (hn : n ≤ 100000) (h0 : gcode 0 g = 0) (hok : ∀ r ∈ g, r.Ok) (w : World) (ha : RowAt w A (gc g)) :
    Calls Try.prog 31 #[.slice A n c] w (RulesOut (trim g) .nilIface w) := by
  have HC := fun w h => check_g g n c A hl (by omega) w h
  rw [h0] at HC
  obtain ⟨i0_, hi, hz0, hz1, hz2⟩ := info_parts5 info_rule
  have HI := Lib.hid hi; have HZ := Lib.hid hz0; have HZ1 := Lib.hid hz1; have HZ2 := Lib.hid hz2
  obtain ⟨U, hU⟩ : ∃ U, U = used g := ⟨_, rfl⟩
  obtain ⟨F, hF⟩ : ∃ F, F = trim g := ⟨_, rfl⟩
  have HUS : Hid (useFrom g n (use0 n) = U ∧ U.length = n + 1) := Lib.hid ⟨by rw [hU, ← hl]; rfl, by rw [hU, used_len, hl]⟩
  have HFS : Hid ((trFrom U 0 (g.drop 0) ([], List.replicate (n + 1) 0)).1 = F) := Lib.hid (by rw [hF, hU, ← hl]; rfl)
  rw [← hF]
  have HA := Lib.hid ha; have HL := Lib.hid hl; have HCC := Lib.hid HC; have H0 := Lib.hid h0; have HOK := Lib.hid hok
  have mk : ∀ w : World, (Instr.makeSlice 86 (.int .i64 ((n : Int) + 1)) (.int .i64 ((n : Int) + 1))).run Try.prog w = .ok (.slice (some ⟨w.heap.size, 0, none⟩) (n + 1) (n + 1)) (w.alloc (.cells (bl (List.replicate (n + 1) false)).toArray 4)) := fun w => mk_bools (n + 1) (by omega) w
  have mk2 : ∀ w : World, (Instr.makeSlice 84 (.int .i64 ((n : Int) + 1)) (.int .i64 ((n : Int) + 1))).run Try.prog w = .ok (.slice (some ⟨w.heap.size, 0, none⟩) (n + 1) (n + 1)) (w.alloc (.cells (vi (List.replicate (n + 1) 0)).toArray 44)) := fun w => mk_ids (n + 1) (by omega) w
  have MK2 := Lib.hid mk2
  clear ha hl HC h0 hU hF hi hz0 hz1 hz2 hok mk2
  go_enter Try.func31, Try.ntmps31
  go_wp2_with fail
  (with_reducible refine (HCC.out _ HA.out).mono ?_)
  rintro e w1 ⟨rfl, B1⟩
  rw [errv_zero]
  have BW1 := Lib.hid B1
  clear B1
  go_upto_region 5 with fail
  clear mk
  obtain ⟨w2, hw2⟩ : ∃ w2, w2 = w1.alloc (.cells (bl (List.replicate (n + 1) false)).toArray 4) := ⟨_, rfl⟩
  rw [← hw2]
  obtain ⟨G1, hG1⟩ : ∃ G1, G1 = w1.heap.size := ⟨_, rfl⟩
  rw [← hG1]
  have HB2 : Hid (Box w2 G1 4 (bl (List.replicate (n + 1) false)).toArray) := Lib.hid (by rw [hw2, hG1]; exact Box.new w1 _ _)
  have BW2 : Hid (Below w.heap.size w w2) := Lib.hid (by rw [hw2]; exact balloc BW1.out _)
  have zg : w.heap.size ≤ G1 := by rw [hG1]; exact BW1.out.size
  clear hw2 hG1
  have v0 : w2.cell? ⟨G1, n, none⟩ = some (.bool false) := (HB2.out.cell n).trans ((bl_at (by simp)).trans (by simp))
  have f0 := HB2.out.free n
  have HB3 : Hid (Box (w2.setCell ⟨G1, n, none⟩ (.bool true)) G1 4 (bl (use0 n)).toArray) := Lib.hid (by
    have := HB2.out.set_ n (.bool true)
    rw [bl_set, use0_eq] at this
    exact this)
  have BW3 := Lib.hid (BW2.out.setCell (p := ⟨G1, n, none⟩) zg (.bool true))
  go_wp2_with fail
  go_loopw [6] (fun si wr => ∃ (j : Nat) (u : List Bool), si = .int .i64 ((j : Int) - 1) ∧ j ≤ n ∧ Hid (useFrom g j u = U ∧ u.length = n + 1) ∧ Hid (Box wr G1 4 (bl u).toArray) ∧ Hid (Below w.heap.size w wr)) (fun si _ => (intOf si + 1).toNat)
  case atStart => exact ⟨n, use0 n, rfl, Nat.le_refl _, Lib.hid ⟨HUS.out.1, by simp [use0]⟩, HB3, BW3⟩
  case round =>
    clear v0 f0
    obtain ⟨j, u, rfl, hj, HG, HB, BW⟩ := hrel
    by_cases hj0 : 0 < j
    · obtain ⟨i, rfl⟩ : ∃ i, j = i + 1 := ⟨j - 1, by omega⟩
      have hil : i < g.length := by rw [HL.out]; omega
      obtain ⟨r, hr⟩ : ∃ r, g[i]? = some r := ⟨_, List.getElem?_eq_getElem hil⟩
      have hmv := mv_ok (n := n) H0.out hr (by omega)
      obtain ⟨ad, rfl, hadl, c0, c1, c2, c3, c4⟩ := row_rl (HA.out.below BW.out (Nat.le_refl _)) hr
      obtain ⟨q, hq⟩ : ∃ q, q = u.getD (i + 1) false := ⟨_, rfl⟩
      have cu : wr.cell? ⟨G1, i + 1, none⟩ = some (.bool q) := (HB.out.cell (i + 1)).trans ((bl_at (by rw [HG.out.2]; omega)).trans (by rw [hq]))
      have i0 : (0 : Int) ≤ i := by omega
      have i1 : (i : Int) < (n : Int) := by omega
      have sj : ((i + 1 : Nat) : Int) - 1 = i := by omega
      rw [sj]
      cases q with
      | false =>
        have HG2 : Hid (useFrom g i u = U ∧ u.length = n + 1) := Lib.hid ⟨by
          have := HG.out.1
          unfold useFrom at this
          rw [useStep_no hr hq.symm] at this
          exact this, HG.out.2⟩
        clear hr hq sj hmv
        go_wp2_with fail
        go_roundw
        case rel => exact ⟨i, u, by go_num, by omega, HG2, HB, BW⟩
        case measure => simp [intOf] <;> omega
      | true =>
        obtain ⟨l, hlr⟩ : ∃ l, l = refsR r := ⟨_, rfl⟩
        have hlm : ∀ x ∈ l, 0 ≤ x ∧ x < ((n + 1 : Nat) : Int) := fun x hx => mv_get hmv (by rw [← hlr]; exact hx)
        have HLM := Lib.hid hlm
        have HG2 : Hid (useFrom g i (mark u l) = U ∧ (mark u l).length = n + 1) := Lib.hid ⟨by
          have := HG.out.1
          unfold useFrom at this
          rw [useStep_yes hr hq.symm, ← hlr] at this
          exact this, by rw [mark_len]; exact HG.out.2⟩
        have HUL := Lib.hid HG.out.2
        have HRf : Hid (∀ w, Calls Try.prog 50 #[r.val] w (SliceOut w l.length (vi l))) := Lib.hid (fun w => by rw [hlr]; exact refs_any r.kd r.lt r.lf r.rg r.tm w)
        have hle : l.length ≤ 2 := by rw [hlr]; exact refsOf_le _ _ _
        obtain ⟨kd, lt, lf, rg, tm⟩ := r
        simp only at c0 c1 c2 c3 c4
        clear hr hq sj hmv hlr hlm HG
        go_wp2_with fail
        (with_reducible refine (HRf.out _).mono ?_)
        rintro e w4 ⟨A4, c4', rfl, R4, B4⟩
        have HB4 := Lib.hid (HB.out.below B4 HB.out.lt)
        have BW4 := Lib.hid (bkeep BW.out B4)
        have HR4 := Lib.hid R4
        clear B4 R4 c0 c1 c2 c3 c4 cu
        go_wp2_with fail
        go_loopw [49] (fun si wr => ∃ k : Nat, si = .int .i64 (k : Int) ∧ k ≤ l.length ∧ Hid (Box wr G1 4 (bl (mark u (l.take k))).toArray) ∧ Hid (Below w.heap.size w wr) ∧ Hid (RowAt wr A4 (vi l))) (fun si _ => l.length - (intOf si).toNat)
        case atStart => exact ⟨0, rfl, by omega, HB4, BW4, HR4⟩
        case round =>
          obtain ⟨k, rfl, hk, HBx, BWx, HRx⟩ := hrel
          by_cases hkl : k < l.length
          · obtain ⟨x1, x2⟩ := HLM.out _ (List.getElem_mem hkl)
            obtain ⟨xn, hxn⟩ : ∃ xn : Nat, l[k] = (xn : Int) := ⟨l[k].toNat, by omega⟩
            obtain ⟨a4, rfl, hal, ca⟩ := HRx.out.get (vi_get hkl)
            rw [hxn] at ca x1 x2
            have hx3 : xn < n + 1 := by omega
            have cb : wr.cell? ⟨G1, xn, none⟩ = some (.bool ((mark u (l.take k)).getD xn false)) := (HBx.out.cell xn).trans (bl_at (by rw [mark_len, HUL.out]; exact hx3))
            generalize (mark u (l.take k)).getD xn false = b0 at cb
            have fb := HBx.out.free xn
            have HBy : Hid (Box (wr.setCell ⟨G1, xn, none⟩ (.bool true)) G1 4 (bl (mark u (l.take (k + 1)))).toArray) := Lib.hid (by
              have := HBx.out.set_ xn (.bool true)
              rw [bl_set] at this
              rw [mark_take hkl, hxn]
              exact this)
            have HRy := Lib.hid (row_keep HRx.out cb (.bool true))
            have BWy := Lib.hid (BWx.out.setCell (p := ⟨G1, xn, none⟩) zg (.bool true))
            have k0 : (0 : Int) ≤ k := by omega
            clear hxn x1 x2
            go_wp2_with fail
            go_roundw
            case rel => exact ⟨k + 1, by go_num, by omega, HBy, BWy, HRy⟩
            case measure => simp [intOf] <;> omega
          · obtain rfl : k = l.length := by omega
            have HBy : Hid (Box wr G1 4 (bl (mark u l)).toArray) := Lib.hid (by
              have := HBx.out
              rw [List.take_length] at this
              exact this)
            go_wp2_with fail
            go_roundw
            case rel => exact ⟨i, mark u l, by go_num, by omega, HG2, HBy, BWx⟩
            case measure => simp [intOf] <;> omega
    · obtain rfl : j = 0 := by omega
      have HBU : Hid (Box wr G1 4 (bl U).toArray) := Lib.hid (by
        have h := HG.out.1
        have e : u = U := h
        rw [← e]; exact HB.out)
      rw [show (((0 : Nat) : Int) - 1) = -1 by omega]
      have mk2 := MK2.out
      have hmm := @run_makeMap Try.prog
      have G1lt := HB.out.lt
      clear HG
      go_upto_region 18 with fail
      clear mk2 hmm
      obtain ⟨G2, hG2⟩ : ∃ G2, G2 = wr.heap.size := ⟨_, rfl⟩
      obtain ⟨w4, hw4⟩ : ∃ w4, w4 = (wr.alloc (.cells (vi (List.replicate (n + 1) 0)).toArray 44)).alloc (.map #[] 0) := ⟨_, rfl⟩
      rw [← hw4, ← hG2]
      have HU4 : Hid (Box w4 G1 4 (bl U).toArray) := Lib.hid (by rw [hw4]; exact (HBU.out.alloc _).alloc _)
      have HT4 : Hid (Box w4 G2 44 (vi (List.replicate (n + 1) 0)).toArray) := Lib.hid (by rw [hw4, hG2]; exact (Box.new wr _ _).alloc _)
      have HF4 : Hid (FirstMap w4 (G2 + 1) 0 []) := Lib.hid (by
        rw [hw4, hG2]
        have := first_made (wr.alloc (.cells (vi (List.replicate (n + 1) 0)).toArray 44))
        rw [World.size_alloc] at this
        exact this)
      have BW4 : Hid (Below w.heap.size w w4) := Lib.hid (by rw [hw4]; exact balloc (balloc BW.out _) _)
      have z4 : w4.heap.size = G2 + 2 := by rw [hw4, hG2]; simp
      have G12 : G1 < G2 := by rw [hG2]; exact G1lt
      obtain ⟨B4, hB4⟩ : ∃ B4, B4 = w4.heap.size := ⟨_, rfl⟩
      have zB : B4 = G2 + 2 := hB4.trans z4
      have zb1 : G2 + 1 < B4 := by omega
      have zb2 : B4 ≤ w4.heap.size := by omega
      clear hw4 hG2 z4 hB4 zB HBU HB BW G1lt
      have HO4 : Hid (w4.ownsRow B4 46 5 (.slice none 0 0) 0 (gc [])) := Lib.hid ⟨by simp [gc], .inl ⟨rfl, rfl⟩⟩
      go_wp2_with fail
      go_loopw [9, 12, 13, 14, 15, 16, 17, 64] (fun so _ _ _ _ _ _ si wr => ∃ (i m : Nat) (A1 : Option Addr) (c1 : Nat) (out : List Rl) (tb : List Int), si = .int .i64 (i : Int) ∧ i ≤ n ∧ so = .slice A1 m c1 ∧ m ≤ i ∧ B4 ≤ wr.heap.size ∧ Hid ((trFrom U i (g.drop i) (out, tb)).1 = F ∧ TrOk n i out tb ∧ out.length = m) ∧
        Hid (Box wr G1 4 (bl U).toArray) ∧ Hid (Box wr G2 44 (vi tb).toArray) ∧ Hid (FirstMap wr (G2 + 1) m out) ∧ Hid (wr.ownsRow B4 46 5 (.slice A1 m c1) m (gc out)) ∧ Hid (Below w.heap.size w wr)) (fun _ _ _ _ _ _ _ si _ => n - (intOf si).toNat)
      case atStart => exact ⟨0, 0, none, 0, [], List.replicate (n + 1) 0, rfl, by omega, rfl, by omega, zb2, Lib.hid ⟨HFS.out, TrOk.start n, rfl⟩, HU4, HT4, HF4, HO4, BW4⟩
      case round =>
        obtain ⟨i, m, A1, c1, out, tb, rfl, hi, rfl, hmi, zbx, HG, HBU, HBT, HBF, HO, BW⟩ := hrel
        by_cases hlt : i < n
        · have hil : i < g.length := by rw [HL.out]; omega
          obtain ⟨r, hr⟩ : ∃ r, g[i]? = some r := ⟨_, List.getElem?_eq_getElem hil⟩
          have hmv := mv_ok (n := n) H0.out hr (by omega)
          have hrok := HOK.out r (List.mem_of_getElem? hr)
          obtain ⟨ad, rfl, hadl, d0, d1, d2, d3, d4⟩ := row_rl (HA.out.below BW.out (Nat.le_refl _)) hr
          obtain ⟨q, hq⟩ : ∃ q, q = U.getD (i + 1) false := ⟨_, rfl⟩
          have cu : wr.cell? ⟨G1, i + 1, none⟩ = some (.bool q) := (HBU.out.cell (i + 1)).trans ((bl_at (by rw [HUS.out.2]; omega)).trans (by rw [hq]))
          have i0 : (0 : Int) ≤ i := by omega
          have i1 : (i : Int) < (n : Int) := by omega
          have gl1 := HBU.out.lt; have gl2 := HBT.out.lt; have gl3 := HBF.out.lt
          cases q with
          | false =>
            have HG2 : Hid ((trFrom U (i + 1) (g.drop (i + 1)) (out, tb)).1 = F ∧ TrOk n (i + 1) out tb ∧ out.length = m) := Lib.hid ⟨by
              have := HG.out.1
              rw [trFrom_at hr, trStep_no hq.symm] at this
              exact this, HG.out.2.1.skip, HG.out.2.2⟩
            obtain ⟨kd, lt, lf, rg, tm⟩ := r
            simp only at d0 d1 d2 d3 d4
            have X := (Obj.cells #[.int .i64 kd, .int .u8 lt, .int .i64 lf, .int .i64 rg, .int .i64 tm] 46)
            have HBU2 := Lib.hid (HBU.out.alloc (.cells #[.int .i64 kd, .int .u8 lt, .int .i64 lf, .int .i64 rg, .int .i64 tm] 46))
            have HBT2 := Lib.hid (HBT.out.alloc (.cells #[.int .i64 kd, .int .u8 lt, .int .i64 lf, .int .i64 rg, .int .i64 tm] 46))
            have HBF2 := Lib.hid (HBF.out.alloc (.cells #[.int .i64 kd, .int .u8 lt, .int .i64 lf, .int .i64 rg, .int .i64 tm] 46))
            have HO2 := Lib.hid (own_alloc HO.out (.cells #[.int .i64 kd, .int .u8 lt, .int .i64 lf, .int .i64 rg, .int .i64 tm] 46))
            have BW2 := Lib.hid (balloc BW.out (.cells #[.int .i64 kd, .int .u8 lt, .int .i64 lf, .int .i64 rg, .int .i64 tm] 46))
            clear hr hq hmv hrok X
            go_wp2_with fail
            go_roundw
            case rel => exact ⟨i + 1, m, A1, c1, out, tb, by go_num, by omega, rfl, by omega, by simp; omega, HG2, HBU2, HBT2, HBF2, HO2, BW2⟩
            case measure => simp [intOf] <;> omega
          | true =>
            have htok := HG.out.2.1
            have hr2ok := htok.moved (by omega) hrok
            obtain ⟨e1, e2⟩ := mv_val htok.len hmv
            have HM : Hid (∀ w, RowAt w (some ⟨G2, 0, none⟩) (vi tb) → Calls Try.prog 51 #[r.val, .slice (some ⟨G2, 0, none⟩) (n + 1) (n + 1)] w fun e w' => e = .returned (.tuple #[(mvd2 r tb).val, .nilIface]) ∧ Below w.heap.size w w') := Lib.hid (fun w a => by
              have := move_any r.kd r.lt r.lf r.rg r.tm (n + 1) (n + 1) (some ⟨G2, 0, none⟩) tb htok.len (by omega) w a
              rw [e1, e2, errv_zero] at this
              exact this)
            have hnew : pos out (mvd2 r tb) = 0 → (trFrom U (i + 1) (g.drop (i + 1)) (out ++ [mvd2 r tb], tb.set (i + 1) ((out.length : Int) + 1))).1 = F := fun h => by
              have := HG.out.1
              rw [trFrom_at hr, trStep_new hq.symm h] at this
              exact this
            have hold : pos out (mvd2 r tb) ≠ 0 → (trFrom U (i + 1) (g.drop (i + 1)) (out, tb.set (i + 1) (pos out (mvd2 r tb)))).1 = F := fun h => by
              have := HG.out.1
              rw [trFrom_at hr, trStep_old hq.symm h] at this
              exact this
            obtain ⟨r2, hr2⟩ : ∃ r2, r2 = mvd2 r tb := ⟨_, rfl⟩
            rw [← hr2] at HM hnew hold hr2ok
            have HNEW := Lib.hid hnew; have HOLD := Lib.hid hold; have HR2 := Lib.hid hr2ok; have HTO := Lib.hid htok; have HOL := Lib.hid HG.out.2.2
            have ct : wr.cell? ⟨G2, i + 1, none⟩ = some (.int .i64 (tb.getD (i + 1) 0)) := (HBT.out.cell (i + 1)).trans (vi_at2 (by rw [htok.len]; omega))
            have HCT := Lib.hid ct
            obtain ⟨kd, lt, lf, rg, tm⟩ := r
            simp only at d0 d1 d2 d3 d4
            have HBU1 := Lib.hid (HBU.out.alloc (.cells #[.int .i64 kd, .int .u8 lt, .int .i64 lf, .int .i64 rg, .int .i64 tm] 46))
            have HBT1 := Lib.hid (HBT.out.alloc (.cells #[.int .i64 kd, .int .u8 lt, .int .i64 lf, .int .i64 rg, .int .i64 tm] 46))
            have HBF1 := Lib.hid (HBF.out.alloc (.cells #[.int .i64 kd, .int .u8 lt, .int .i64 lf, .int .i64 rg, .int .i64 tm] 46))
            have HO1 := Lib.hid (own_alloc HO.out (.cells #[.int .i64 kd, .int .u8 lt, .int .i64 lf, .int .i64 rg, .int .i64 tm] 46))
            have BW1' := Lib.hid (balloc BW.out (.cells #[.int .i64 kd, .int .u8 lt, .int .i64 lf, .int .i64 rg, .int .i64 tm] 46))
            have HRW1 := Lib.hid (RowAt.of_block HBT1.out)
            clear hr hq hmv hrok htok e1 e2 hnew hold hr2 hr2ok ct HG
            go_wp2_with fail
            (with_reducible refine (HM.out _ (by have := HRW1.out; simpa using this)).mono ?_)
            rintro e w5 ⟨rfl, B5⟩
            have HBU5 := Lib.hid (HBU1.out.below B5 HBU1.out.lt)
            have HBT5 := Lib.hid (HBT1.out.below B5 HBT1.out.lt)
            have HBF5 := Lib.hid (HBF1.out.below B5 HBF1.out.lt)
            have HO5 := Lib.hid (own_below HO1.out B5)
            have BW5 := Lib.hid (bkeep BW1'.out B5)
            have zb5 : B4 ≤ w5.heap.size := by have := B5.size; simp at this; omega
            obtain ⟨kd2, lt2, lf2, rg2, tm2⟩ := r2
            have HBU6 := Lib.hid (HBU5.out.alloc (.cells #[.int .i64 kd2, .int .u8 lt2, .int .i64 lf2, .int .i64 rg2, .int .i64 tm2] 46))
            have HBT6 := Lib.hid (HBT5.out.alloc (.cells #[.int .i64 kd2, .int .u8 lt2, .int .i64 lf2, .int .i64 rg2, .int .i64 tm2] 46))
            have HBF6 := Lib.hid (HBF5.out.alloc (.cells #[.int .i64 kd2, .int .u8 lt2, .int .i64 lf2, .int .i64 rg2, .int .i64 tm2] 46))
            have HO6 := Lib.hid (own_alloc HO5.out (.cells #[.int .i64 kd2, .int .u8 lt2, .int .i64 lf2, .int .i64 rg2, .int .i64 tm2] 46))
            have BW6 := Lib.hid (balloc BW5.out (.cells #[.int .i64 kd2, .int .u8 lt2, .int .i64 lf2, .int .i64 rg2, .int .i64 tm2] 46))
            have HX6 := Lib.hid (Box.new w5 46 #[.int .i64 kd2, .int .u8 lt2, .int .i64 lf2, .int .i64 rg2, .int .i64 tm2])
            clear B5 d0 d1 d2 d3 d4 cu
            by_cases hp : pos out ⟨kd2, lt2, lf2, rg2, tm2⟩ = 0
            · have HP := Lib.hid hp
              have HG2 : Hid ((trFrom U (i + 1) (g.drop (i + 1)) (out ++ [⟨kd2, lt2, lf2, rg2, tm2⟩], tb.set (i + 1) ((m : Int) + 1))).1 = F ∧ TrOk n (i + 1) (out ++ [⟨kd2, lt2, lf2, rg2, tm2⟩]) (tb.set (i + 1) ((m : Int) + 1)) ∧ (out ++ [(⟨kd2, lt2, lf2, rg2, tm2⟩ : Rl)]).length = m + 1) := Lib.hid ⟨by
                have := HNEW.out hp
                rw [HOL.out] at this
                exact this, by
                have := HTO.out.new HR2.out
                rw [HOL.out] at this
                exact this, by rw [List.length_append, HOL.out]; rfl⟩
              clear hp
              go_wp2_with (first | (at_lookup; refine wpList_first_look rfl (.tmp 85) (.tmp 86) rfl (G2 + 1) m out rfl HBF6.out ⟨kd2, lt2, lf2, rg2, tm2⟩ HR2.out rfl 0 false (by rw [HP.out]; rfl) (by rw [HP.out]; rfl) ?_) | refine wpList_app _ (by rfl) (.tmp 92) (.tmp 94) _ rfl B4 46 i0_ _ 5 40 Try.underlying22 HI.out HZ.out HZ1.out HZ2.out rfl (by omega) (.slice A1 m c1) m (gc out) rfl ?own _ 1 1 ((⟨kd2, lt2, lf2, rg2, tm2⟩ : Rl).cells) rfl rfl ?row (cells_one _) (by simp only [maxLen]; omega) (by omega) ?size ?_)
              case own => exact own_alloc HO6.out _
              case row => exact RowAt.of_block (box_new_ (by simp))
              case size => simp; omega
              intro A7 c7 w7 own7 gr7 at7
              rw [gc_snoc] at own7
              have hob : ∀ k, (Value.slice A1 m c1).ownBlock = some k → B4 ≤ k := own_ge HO.out
              have hob5 := own_lt HO5.out
              have zb7 : B4 ≤ w7.heap.size := by have := gr7.size; simp at this; omega
              have HO7 := Lib.hid own7
              have HBU7 := Lib.hid ((HBU6.out.alloc _).grown gr7 (fun e => by have := hob _ e; omega))
              have HBT7 := Lib.hid ((HBT6.out.alloc _).grown gr7 (fun e => by have := hob _ e; omega))
              have HBF7 := Lib.hid ((HBF6.out.alloc _).grown gr7 (fun e => by have := hob _ e; omega))
              have HX7 := Lib.hid ((HX6.out.alloc _).grown gr7 (fun e => by have := hob5 _ e; omega))
              have BW7 := Lib.hid ((balloc BW6.out _).grown gr7 (by have := BW6.out.size; simp at this ⊢; omega) (fun k hk => by have := hob k hk; omega))
              have y0 : w7.cell? ⟨w5.heap.size, 0, none⟩ = some (.int .i64 kd2) := HX7.out.cell 0
              have y1 : w7.cell? ⟨w5.heap.size, 1, none⟩ = some (.int .u8 lt2) := HX7.out.cell 1
              have y2 : w7.cell? ⟨w5.heap.size, 2, none⟩ = some (.int .i64 lf2) := HX7.out.cell 2
              have y3 : w7.cell? ⟨w5.heap.size, 3, none⟩ = some (.int .i64 rg2) := HX7.out.cell 3
              have y4 : w7.cell? ⟨w5.heap.size, 4, none⟩ = some (.int .i64 tm2) := HX7.out.cell 4
              clear own7 gr7 at7 hob5
              go_wp2_with (at_mapUpdate; refine wpList_first_store rfl (.tmp 98) (.tmp 99) (.tmp 100) rfl (G2 + 1) m out rfl HBF7.out (by simp only [maxLen]; omega) ⟨kd2, lt2, lf2, rg2, tm2⟩ HR2.out rfl HP.out ((m : Int) + 1) (by rw [HOL.out]; rfl) (by omega) rfl ?_)
              intro w8 hF8 gr8
              have hob7 := own_ge HO7.out
              have HO8 := Lib.hid (own_kept HO7.out gr8 (fun k hk e => by have := hob7 k hk; injection e with e; omega))
              have HBU8 := Lib.hid (HBU7.out.grown gr8 (fun e => by injection e with e; omega))
              have HBT8 := Lib.hid (HBT7.out.grown gr8 (fun e => by injection e with e; omega))
              have HBF8 := Lib.hid hF8
              have zb8 : B4 ≤ w8.heap.size := by have := gr8.size; omega
              have BW8 := Lib.hid (BW7.out.grown gr8 (by have := BW7.out.size; omega) (fun k hk => by injection hk with hk; omega))
              have ct8 : w8.cell? ⟨G2, i + 1, none⟩ = some (.int .i64 (tb.getD (i + 1) 0)) := (HBT8.out.cell (i + 1)).trans (vi_at2 (by rw [HTO.out.len]; omega))
              generalize tb.getD (i + 1) 0 = t0 at ct8
              have ft8 := HBT8.out.free (i + 1)
              have HBU9 := Lib.hid (HBU8.out.far (p := ⟨G2, i + 1, none⟩) (by simp; omega) (.int .i64 ((m : Int) + 1)))
              have HBT9 : Hid (Box (w8.setCell ⟨G2, i + 1, none⟩ (.int .i64 ((m : Int) + 1))) G2 44 (vi (tb.set (i + 1) ((m : Int) + 1))).toArray) := Lib.hid (by
                have := HBT8.out.set_ (i + 1) (.int .i64 ((m : Int) + 1))
                rw [vi_set] at this
                exact this)
              have HBF9 := Lib.hid (HBF8.out.set (p := ⟨G2, i + 1, none⟩) (by simp) (.int .i64 ((m : Int) + 1)))
              have HO9 := Lib.hid (own_set HO8.out (p := ⟨G2, i + 1, none⟩) (by simp; omega) (.int .i64 ((m : Int) + 1)))
              have BW9 := Lib.hid (BW8.out.setCell (p := ⟨G2, i + 1, none⟩) (by simp; omega) (.int .i64 ((m : Int) + 1)))
              clear hF8 gr8 hob7 hob y0 y1 y2 y3 y4
              go_wp2_with fail
              go_roundw
              case rel => exact ⟨i + 1, m + 1, A7, c7, _, _, by go_num, by omega, rfl, by omega, by simp [World.setCell]; omega, HG2, HBU9, HBT9, HBF9, HO9, BW9⟩
              case measure => simp [intOf] <;> omega
            · obtain ⟨p, hpp⟩ : ∃ p, p = pos out ⟨kd2, lt2, lf2, rg2, tm2⟩ := ⟨_, rfl⟩
              have HP : Hid (p = pos out ⟨kd2, lt2, lf2, rg2, tm2⟩ ∧ p ≠ 0) := Lib.hid ⟨hpp, by rw [hpp]; exact hp⟩
              have HG2 : Hid ((trFrom U (i + 1) (g.drop (i + 1)) (out, tb.set (i + 1) (p : Int))).1 = F ∧ TrOk n (i + 1) out (tb.set (i + 1) (p : Int)) ∧ out.length = m) := Lib.hid ⟨by rw [hpp]; exact HOLD.out hp, by rw [hpp]; exact HTO.out.old _, HOL.out⟩
              have hple : p ≤ m := by rw [hpp, ← HOL.out]; exact pos_le _ _
              have ct6 : (w5.alloc (.cells #[.int .i64 kd2, .int .u8 lt2, .int .i64 lf2, .int .i64 rg2, .int .i64 tm2] 46)).cell? ⟨G2, i + 1, none⟩ = some (.int .i64 (tb.getD (i + 1) 0)) := (HBT6.out.cell (i + 1)).trans (vi_at2 (by rw [HTO.out.len]; omega))
              have ct5 : w5.cell? ⟨G2, i + 1, none⟩ = some (.int .i64 (tb.getD (i + 1) 0)) := (HBT5.out.cell (i + 1)).trans (vi_at2 (by rw [HTO.out.len]; omega))
              generalize tb.getD (i + 1) 0 = t0 at ct5 ct6
              have ft5 := HBT5.out.free (i + 1)
              have ft6 := HBT6.out.free (i + 1)
              have gl5 := HBT5.out.lt
              have HBU9 := Lib.hid ((HBU5.out.far (p := ⟨G2, i + 1, none⟩) (by simp; omega) (.int .i64 (p : Int))).alloc (.cells #[.int .i64 kd2, .int .u8 lt2, .int .i64 lf2, .int .i64 rg2, .int .i64 tm2] 46))
              have HBT9 : Hid (Box ((w5.setCell ⟨G2, i + 1, none⟩ (.int .i64 (p : Int))).alloc (.cells #[.int .i64 kd2, .int .u8 lt2, .int .i64 lf2, .int .i64 rg2, .int .i64 tm2] 46)) G2 44 (vi (tb.set (i + 1) (p : Int))).toArray) := Lib.hid (by
                have := HBT5.out.set_ (i + 1) (.int .i64 (p : Int))
                rw [vi_set] at this
                exact this.alloc _)
              have HBF9 := Lib.hid ((HBF5.out.set (p := ⟨G2, i + 1, none⟩) (by simp) (.int .i64 (p : Int))).alloc (.cells #[.int .i64 kd2, .int .u8 lt2, .int .i64 lf2, .int .i64 rg2, .int .i64 tm2] 46))
              have HO9 := Lib.hid (own_alloc (own_set HO5.out (p := ⟨G2, i + 1, none⟩) (by simp; omega) (.int .i64 (p : Int))) (.cells #[.int .i64 kd2, .int .u8 lt2, .int .i64 lf2, .int .i64 rg2, .int .i64 tm2] 46))
              have BW9 := Lib.hid (balloc (BW5.out.setCell (p := ⟨G2, i + 1, none⟩) (by simp; omega) (.int .i64 (p : Int))) (.cells #[.int .i64 kd2, .int .u8 lt2, .int .i64 lf2, .int .i64 rg2, .int .i64 tm2] 46))
              clear hp hpp
              go_wp2_with (at_lookup; refine wpList_first_look rfl (.tmp 85) (.tmp 86) rfl (G2 + 1) m out rfl HBF6.out ⟨kd2, lt2, lf2, rg2, tm2⟩ HR2.out rfl (p : Int) true (by rw [← HP.out.1]) (by rw [← HP.out.1]; simp [HP.out.2]) ?_)
              go_roundw
              case rel => exact ⟨i + 1, m, A1, c1, _, _, by go_num, by omega, rfl, by omega, by simp [World.setCell]; omega, HG2, HBU9, HBT9, HBF9, HO9, BW9⟩
              case measure => simp [intOf] <;> omega
        · obtain rfl : i = n := by omega
          have HG2 : Hid (out = F ∧ out.length = m) := Lib.hid ⟨by
            have := HG.out.1
            rw [trFrom_end (by rw [HL.out]; exact Nat.le_refl _)] at this
            exact this, HG.out.2.2⟩
          go_wp2_with fail
          go_ret2
          refine ⟨A1, c1, ?_, ?_, BW.out⟩
          · rw [← HG2.out.1, HG2.out.2]; rfl
          · rw [← HG2.out.1]; exact own_row _ HO.out
theorem trim_bad (g : List Rl) (n c : Nat) (A : Option Addr) (hl : g.length = n) (hn : n ≤ 100000) (h0 : gcode 0 g ≠ 0) (w : World) (ha : RowAt w A (gc g)) :
    Calls Try.prog 31 #[.slice A n c] w (RulesOut [] (errv (gcode 0 g)) w) := by
  have HC := fun w h => check_g g n c A hl (by omega) w h
  generalize gcode 0 g = k at HC h0
  rw [errv_pos k h0] at HC
  have HA := Lib.hid ha; have HCC := Lib.hid HC
  have HK := Lib.hid h0
  clear ha hl HC h0
  go_enter Try.func31, Try.ntmps31
  go_wp2_with fail
  (with_reducible refine (HCC.out _ HA.out).mono ?_)
  rintro e w1 ⟨rfl, B1⟩
  have BW1 := Lib.hid B1
  clear B1
  go_wp2_with fail
  go_ret2
  exact ⟨none, 0, by rw [errv_pos k HK.out]; rfl, RowAt.nil _ _, BW1.out⟩
end Go.Proofs.Ytcbahojefglakaa
