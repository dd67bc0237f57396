/- The walk of grammar.Weights. Written by wip/gen/grwts.py. -/
import Derived.Test.YtcbahojefglakaaGrWtPlain
import Derived.Test.YtcbahojefglakaaGrLen
namespace Go.Proofs.Ytcbahojefglakaa
set_option linter.unusedVariables false
set_option linter.unusedSimpArgs false
open Go.RowKit Go.Lib
attribute [local go_sem ↓] Go.wp_at_zero Go.wp_at_succ
/-- what hands back a list of weights and an error -/
def WtsOut (ws : List Wt) (er : Value) (w : World) (e : Ending) (w' : World) : Prop := ∃ A c, e = .returned (.tuple #[.slice A ws.length c, er]) ∧ RowAt w' A (wcs ws) ∧ Below w.heap.size w w'
/-- letters and numbers of times within the machine's kinds -/
def Rb (g : List Rl) : Prop := ∀ r ∈ g, 0 ≤ r.lt ∧ r.lt ≤ 255 ∧ r.tm ≤ 9223372036854775807
def wtsL (g : List Rl) : List Wt := if (lens g).2 = 0 then wls g g.length else []
theorem arrW_row {w : World} {G : Nat} {t : TypeId} {ws : List Wt} {n : Nat} (h : Box w G t (arrW ws n)) (hl : ws.length = n) : RowAt w (some ⟨G, 0, none⟩) (wcs ws) := by
  have := RowAt.of_block h
  rw [arrW_end hl] at this
  exact this
theorem join_ok' (x y : Wt) (hx : WOk x) (hy : WOk y) (vv : Wt) (k : Int) (hk : joinW x y = (vv, k)) (w : World) : Calls Try.prog 60 #[.agg #[.int .i64 x.n, .int .i64 x.l, .int .i64 x.h, .int .i64 x.t, .int .u64 x.v, .int .u64 x.s], .agg #[.int .i64 y.n, .int .i64 y.l, .int .i64 y.h, .int .i64 y.t, .int .u64 y.v, .int .u64 y.s]] w fun e w' => e = .returned (.tuple #[.agg #[.int .i64 vv.n, .int .i64 vv.l, .int .i64 vv.h, .int .i64 vv.t, .int .u64 vv.v, .int .u64 vv.s], errv k]) ∧ Below w.heap.size w w' := by
  have := wjoin_any x y hx hy w
  rw [hk] at this
  exact this
theorem rep_ok' (x : Wt) (t : Int) (hx : WOk x) (t0 : 0 ≤ t) (t1 : t ≤ 9223372036854775807) (vv : Wt) (k : Int) (hk : repW x t = (vv, k)) (w : World) : Calls Try.prog 61 #[.agg #[.int .i64 x.n, .int .i64 x.l, .int .i64 x.h, .int .i64 x.t, .int .u64 x.v, .int .u64 x.s], .int .i64 t] w fun e w' => e = .returned (.tuple #[.agg #[.int .i64 vv.n, .int .i64 vv.l, .int .i64 vv.h, .int .i64 vv.t, .int .u64 vv.v, .int .u64 vv.s], errv k]) ∧ Below w.heap.size w w' := by
  have := wrep_any x t hx (by omega) t1 w
  rw [hk] at this
  exact this
set_option maxRecDepth 100000 in
set_option maxHeartbeats 16000000 in
theorem weights_ok (g : List Rl) (n c : Nat) (A : Option Addr) (hl : g.length = n) (hn : n ≤ 100000) (h0 : gcode 0 g = 0) (hrb : Rb g) (w : World) (ha : RowAt w A (gc g)) :
    Calls Try.prog 40 #[.slice A n c] w (WtsOut (wtsL g) (errv (lens g).2) w) := by
  have HC := fun w h => check_g g n c A hl (by omega) w h
  rw [h0] at HC
  have hlen := lens_ok h0
  obtain ⟨L, hL⟩ : ∃ L, L = lens g := ⟨_, rfl⟩
  have hLL : lensFrom (tls g 0) (g.drop 0) = L := by rw [hL, hlen]; rfl
  obtain ⟨X, hX⟩ : ∃ X, X = wtsL g := ⟨_, rfl⟩
  have hX2 : X = if L.2 = 0 then wls g g.length else [] := by rw [hX, hL]; rfl
  rw [← hL, ← hX]
  have HA := Lib.hid ha; have HL := Lib.hid hl; have HCC := Lib.hid HC; have H0 := Lib.hid h0; have HLL := Lib.hid hLL; have HRB := Lib.hid hrb; have HX := Lib.hid hX2
  clear ha hl HC h0 hL hLL hrb hlen hX hX2
  go_enter Try.func40, Try.ntmps40
  go_wp2_with fail
  (with_reducible refine (HCC.out _ HA.out).mono ?_)
  rintro e w1 ⟨rfl, B1⟩
  rw [errv_zero]
  have BW1 := Lib.hid B1
  have mk := fun w => mk_weights n (by omega) w
  clear B1
  go_wp2_with fail
  clear mk
  have BG := Lib.hid (Box.new w1 70 (arrW (wls g 0) n))
  have B0 := Lib.hid (balloc BW1.out (.cells (arrW [] n) 70))
  have zg : w.heap.size ≤ w1.heap.size := BW1.out.size
  go_loopw [6, 7, 8, 19] (fun _ _ _ si wr => ∃ i : Nat, si = .int .i64 (i : Int) ∧ i ≤ n ∧ Hid (lensFrom (tls g i) (g.drop i) = L ∧ ∀ j, j < i → ((tx g j).length : Int) ≤ 1152921504606846976) ∧ Hid (Box wr w1.heap.size 70 (arrW (wls g i) n)) ∧ Hid (Below w.heap.size w wr)) (fun _ _ _ si _ => n - (intOf si).toNat)
  case atStart => exact ⟨0, rfl, by omega, Lib.hid ⟨HLL.out, fun j hj => by omega⟩, BG, B0⟩
  case round =>
    obtain ⟨i, rfl, hi, HG, HB, BW⟩ := hrel
    by_cases hlt : i < n
    · have hil : i < g.length := by rw [HL.out]; exact hlt
      obtain ⟨r, hr⟩ : ∃ r, g[i]? = some r := ⟨_, List.getElem?_eq_getElem hil⟩
      have hway := rule_way H0.out hr
      obtain ⟨hb0, hb1, ht1⟩ := HRB.out r (List.mem_of_getElem? hr)
      obtain ⟨ad, rfl, hadl, c0, c1, c2, c3, c4⟩ := row_rl (HA.out.below BW.out (Nat.le_refl _)) hr
      obtain ⟨kd, lt, lf, rg, tm⟩ := r
      simp only at c0 c1 c2 c3 c4 hway hb0 hb1 ht1
      have i0 : (0 : Int) ≤ i := by omega
      have i1 : (i : Int) < (n : Int) := by omega
      have zw : w1.heap.size < wr.heap.size := HB.out.lt
      have zn : w1.heap.size ≠ wr.heap.size := by omega
      rcases hway with ⟨rfl, rfl, rfl, rfl⟩ | ⟨rfl, rfl, rfl, p1, p2, q1, q2⟩ | ⟨rfl, rfl, rfl, t2, p1, p2⟩
      · have HLet := Lib.hid (fun w => wletter_any lt hb0 hb1 w)
        have htx : tx g i = [lt] := tx_letter hr
        have HG2 : Hid (lensFrom (tls g (i + 1)) (g.drop (i + 1)) = L ∧ ∀ j, j < i + 1 → ((tx g j).length : Int) ≤ 1152921504606846976) := Lib.hid ⟨by
          have e := len1_letter (tls g i) (r := ⟨1, lt, 0, 0, 0⟩) rfl
          have := lf_ok (acc := tls g i) hr (by rw [e])
          rw [e] at this
          rw [tls_succ, htx]
          exact this.symm.trans HG.out.1, fun j hj => by
          by_cases hji : j < i
          · exact HG.out.2 j hji
          · obtain rfl : j = i := by omega
            rw [htx]; simp⟩
        have HW : Hid (wls g (i + 1) = wls g i ++ [wL lt]) := Lib.hid (by rw [wls_succ, htx]; rfl)
        have HBw := Lib.hid (HB.out.alloc (.cells #[.int .i64 1, .int .u8 lt, .int .i64 0, .int .i64 0, .int .i64 0] 46))
        have BWw := Lib.hid (balloc BW.out (.cells #[.int .i64 1, .int .u8 lt, .int .i64 0, .int .i64 0, .int .i64 0] 46))
        obtain ⟨q, hq⟩ : ∃ q, q = wL lt := ⟨_, rfl⟩
        rw [← hq] at HW HLet
        clear hr htx hq
        go_wp2_with fail
        (with_reducible refine (HLet.out _).mono ?_)
        rintro e w3 ⟨rfl, B3⟩
        have HB3 := HBw.out.below B3 HBw.out.lt
        have BW3 := Lib.hid (bkeep BWw.out B3)
        have v0 : w3.cell? ⟨w1.heap.size, i * 6, none⟩ = some (.int .i64 0) := (HB3.cell (i * 6 + 0)).trans (arrW_zero (by rw [wls_len]; exact Nat.le_refl _) hlt rfl)
        have f0 := HB3.free (i * 6)
        have v1 : w3.cell? ⟨w1.heap.size, i * 6 + 1, none⟩ = some (.int .i64 0) := (HB3.cell (i * 6 + 1)).trans (arrW_zero (by rw [wls_len]; exact Nat.le_refl _) hlt rfl)
        have f1 := HB3.free (i * 6 + 1)
        have v2 : w3.cell? ⟨w1.heap.size, i * 6 + 2, none⟩ = some (.int .i64 0) := (HB3.cell (i * 6 + 2)).trans (arrW_zero (by rw [wls_len]; exact Nat.le_refl _) hlt rfl)
        have f2 := HB3.free (i * 6 + 2)
        have v3 : w3.cell? ⟨w1.heap.size, i * 6 + 3, none⟩ = some (.int .i64 0) := (HB3.cell (i * 6 + 3)).trans (arrW_zero (by rw [wls_len]; exact Nat.le_refl _) hlt rfl)
        have f3 := HB3.free (i * 6 + 3)
        have v4 : w3.cell? ⟨w1.heap.size, i * 6 + 4, none⟩ = some (.int .u64 0) := (HB3.cell (i * 6 + 4)).trans (arrW_zero (by rw [wls_len]; exact Nat.le_refl _) hlt rfl)
        have f4 := HB3.free (i * 6 + 4)
        have v5 : w3.cell? ⟨w1.heap.size, i * 6 + 5, none⟩ = some (.int .u64 0) := (HB3.cell (i * 6 + 5)).trans (arrW_zero (by rw [wls_len]; exact Nat.le_refl _) hlt rfl)
        have f5 := HB3.free (i * 6 + 5)
        have HB4 : Hid (Box (setL w3 w1.heap.size (i * 6) q.cells) w1.heap.size 70 (arrW (wls g (i + 1)) n)) := Lib.hid (by
          have h1 := Box.setL_ q.cells HB3 (i * 6)
          have h2 := arrW_set (ws := wls g i) (n := n) q (by rw [wls_len]; exact hlt)
          rw [wls_len] at h2
          rw [h2, ← HW.out] at h1
          exact h1)
        have BW4 : Hid (Below w.heap.size w (setL w3 w1.heap.size (i * 6) q.cells)) := Lib.hid (setL_below BW3.out _ _ _ zg)
        clear B3 HB3
        go_wp2_with fail
        go_roundw
        case rel => exact ⟨i + 1, by go_num, by omega, HG2, HB4, BW4⟩
        case measure => simp [intOf]; omega
      · obtain ⟨a, rfl⟩ : ∃ a : Nat, lf = (a : Int) + 1 := ⟨(lf - 1).toNat, by omega⟩
        obtain ⟨b, rfl⟩ : ∃ b : Nat, rg = (b : Int) + 1 := ⟨(rg - 1).toNat, by omega⟩
        have ai : a < i := by omega
        have an : (a : Int) < n := by omega
        have a0 : (0 : Int) ≤ a := by omega
        have wa : IntKind.i64.wrap (a : Int) = a := IntWalk.i64_in _ ⟨by omega, by omega⟩
        have bi : b < i := by omega
        have bn : (b : Int) < n := by omega
        have b0 : (0 : Int) ≤ b := by omega
        have wb : IntKind.i64.wrap (b : Int) = b := IntWalk.i64_in _ ⟨by omega, by omega⟩
        have la := HG.out.2 a ai
        have lb := HG.out.2 b bi
        have htx : tx g i = tx g a ++ tx g b := tx_pair hr ai bi
        have HJ := join_of_text la lb
        have he := len1_pair (tls g i) (r := ⟨2, 0, (a : Int) + 1, (b : Int) + 1, 0⟩) rfl
        have hea : ((a : Int) + 1 - 1).toNat = a := by omega
        have heb : ((b : Int) + 1 - 1).toNat = b := by omega
        simp only [hea, heb, tls_get g ai, tls_get g bi] at he
        rw [lenAdd_text (by omega) la (by omega) lb] at he
        have hout : ∃ (vv : Wt) (k : Int), joinW (wOf (tx g a)) (wOf (tx g b)) = (vv, k) ∧ (k = 0 → wls g (i + 1) = wls g i ++ [vv] ∧ (lensFrom (tls g (i + 1)) (g.drop (i + 1)) = L ∧ ∀ j, j < i + 1 → ((tx g j).length : Int) ≤ 1152921504606846976)) ∧ (k ≠ 0 → L = ([], k)) := by
          by_cases hcd : ((tx g a).length : Int) + (tx g b).length ≤ 1152921504606846976
          · rw [if_pos hcd] at HJ he
            refine ⟨_, 0, HJ, fun _ => ⟨by rw [wls_succ, htx], ?_, fun j hj => ?_⟩, fun h => absurd rfl h⟩
            · have := lf_ok (acc := tls g i) hr (by rw [he])
              rw [he] at this
              rw [tls_succ, htx, List.length_append, Int.natCast_add]
              exact this.symm.trans HG.out.1
            · by_cases hji : j < i
              · exact HG.out.2 j hji
              · obtain rfl : j = i := by omega
                rw [htx, List.length_append, Int.natCast_add]; exact hcd
          · rw [if_neg hcd] at HJ he
            refine ⟨_, 2, HJ, fun h => absurd h (by decide), fun _ => ?_⟩
            have := lf_bad (acc := tls g i) hr (by rw [he]; decide)
            rw [he] at this
            exact HG.out.1.symm.trans this
        obtain ⟨vv, k, hjk, hyes, hno⟩ := hout
        have HY := Lib.hid hyes; have HN := Lib.hid hno
        have HXw : Hid (∀ j u, (wOf (tx g a)).cells[j]? = some u → wr.cell? ⟨w1.heap.size, a * 6 + j, none⟩ = some u) := Lib.hid fun j u hu => (HB.out.cell (a * 6 + j)).trans (arrW_at (wls_get g ai) hu)
        have HYw : Hid (∀ j u, (wOf (tx g b)).cells[j]? = some u → wr.cell? ⟨w1.heap.size, b * 6 + j, none⟩ = some u) := Lib.hid fun j u hu => (HB.out.cell (b * 6 + j)).trans (arrW_at (wls_get g bi) hu)
        have okx := wOf_ok (tx g a) la
        have oky := wOf_ok (tx g b) lb
        obtain ⟨x, hx⟩ : ∃ x, x = wOf (tx g a) := ⟨_, rfl⟩
        rw [← hx] at HXw hjk okx
        obtain ⟨y, hy⟩ : ∃ y, y = wOf (tx g b) := ⟨_, rfl⟩
        rw [← hy] at HYw hjk oky
        have HQ := Lib.hid (fun w => join_ok' x y okx oky vv k hjk w)
        have HBw := Lib.hid (HB.out.alloc (.cells #[.int .i64 2, .int .u8 0, .int .i64 ((a : Int) + 1), .int .i64 ((b : Int) + 1), .int .i64 0] 46))
        have BX := Box.new wr 46 #[.int .i64 2, .int .u8 0, .int .i64 ((a : Int) + 1), .int .i64 ((b : Int) + 1), .int .i64 0]
        have BW0 := balloc BW.out (.cells #[.int .i64 2, .int .u8 0, .int .i64 ((a : Int) + 1), .int .i64 ((b : Int) + 1), .int .i64 0] 46)
        have HBz : Hid (∀ j u, zW.cells[j]? = some u → wr.cell? ⟨w1.heap.size, i * 6 + j, none⟩ = some u) := Lib.hid fun j u hu => (HB.out.cell (i * 6 + j)).trans (arrW_zero (by rw [wls_len]; exact Nat.le_refl _) hlt hu)
        clear hr htx HJ he hea heb hyes hno hjk okx oky hx hy la lb
        go_upto_region 13 with fail
        refine Rm.region_st (sx := 19) (px := ⟨w1.heap.size, (i * 6), none⟩) (ux := [.int .i64 vv.n, .int .i64 vv.l, .int .i64 vv.h, .int .i64 vv.t, .int .u64 vv.v, .int .u64 vv.s]) (bs := [true, true, true, true, true, true, true, true, true, true, true, true, true, true, true, true, true, false, true, true]) (.val (fun v _ => v = .slice (some ⟨w1.heap.size, 0, none⟩) n n) :: .val (fun v _ => v = .int .i64 (i : Int)) :: .val (fun v _ => v = .slice (some ⟨w1.heap.size, 0, none⟩) n n) :: .val (fun v _ => v = .pointer (some ⟨wr.heap.size, 2, none⟩)) :: .val (fun v _ => v = .int .i64 ((a : Int) + 1)) :: .val (fun v _ => v = .int .i64 (a : Int)) :: .val (fun v _ => v = .pointer (some ⟨w1.heap.size, a * 6, none⟩)) :: .val (fun v _ => v = .agg #[.int .i64 x.n, .int .i64 x.l, .int .i64 x.h, .int .i64 x.t, .int .u64 x.v, .int .u64 x.s]) :: .val (fun v _ => v = .slice (some ⟨w1.heap.size, 0, none⟩) n n) :: .val (fun v _ => v = .pointer (some ⟨wr.heap.size, 3, none⟩)) :: .val (fun v _ => v = .int .i64 ((b : Int) + 1)) :: .val (fun v _ => v = .int .i64 (b : Int)) :: .val (fun v _ => v = .pointer (some ⟨w1.heap.size, b * 6, none⟩)) :: .val (fun v _ => v = .agg #[.int .i64 y.n, .int .i64 y.l, .int .i64 y.h, .int .i64 y.t, .int .u64 y.v, .int .u64 y.s]) :: .val (fun v _ => v = .tuple #[.agg #[.int .i64 vv.n, .int .i64 vv.l, .int .i64 vv.h, .int .i64 vv.t, .int .u64 vv.v, .int .u64 vv.s], errv k]) :: .val (fun v _ => v = .tuple #[.agg #[.int .i64 vv.n, .int .i64 vv.l, .int .i64 vv.h, .int .i64 vv.t, .int .u64 vv.v, .int .u64 vv.s], errv k]) :: .val (fun v _ => v = .agg #[.int .i64 vv.n, .int .i64 vv.l, .int .i64 vv.h, .int .i64 vv.t, .int .u64 vv.v, .int .u64 vv.s]) :: .val (fun v _ => v = errv k) :: .val (fun v _ => v = .pointer (some ⟨w1.heap.size, i * 6, none⟩)) :: .st ⟨w1.heap.size, (i * 6), none⟩ ([.int .i64 vv.n, .int .i64 vv.l, .int .i64 vv.h, .int .i64 vv.t, .int .u64 vv.v, .int .u64 vv.s]) :: [])
          ([] :: [] :: [] :: [] :: [(40, 3)] :: [(41, 4)] :: [(39, 2), (42, 5)] :: [(43, 6)] :: [] :: [] :: [(46, 9)] :: [(47, 10)] :: [(45, 8), (48, 11)] :: [(49, 12)] :: [(44, 7), (50, 13)] :: [(51, 14)] :: [(36, 15)] :: [(36, 15)] :: [(37, 0), (38, 1)] :: [(54, 18), (52, 16)] :: []) ((0, 0) :: (0, 0) :: (0, 0) :: (0, 0) :: (0, 0) :: (0, 0) :: (0, 0) :: (0, 0) :: (0, 0) :: (0, 0) :: (0, 0) :: (0, 0) :: (0, 0) :: (0, 0) :: (0, 0) :: (0, 0) :: (0, 0) :: (0, 0) :: (0, 0) :: (3, 0) :: []) 77 (by kernel_rfl) rfl rfl (by kernel_rfl) (by kernel_rfl) rfl (by first | omega | (simp; omega)) ⟨⟨rfl, rfl⟩, trivial⟩ (by decide) ⟨⟨Rm.Stab.pure _ _ _, fun _ _ h => h⟩, ⟨Rm.Stab.pure _ _ _, fun _ _ h => h⟩, ⟨Rm.Stab.pure _ _ _, fun _ _ h => h⟩, ⟨Rm.Stab.pure _ _ _, fun _ _ h => h⟩, ⟨Rm.Stab.pure _ _ _, fun _ _ h => h⟩, ⟨Rm.Stab.pure _ _ _, fun _ _ h => h⟩, ⟨Rm.Stab.pure _ _ _, fun _ _ h => h⟩, ⟨Rm.Stab.pure _ _ _, fun _ _ h => h⟩, ⟨Rm.Stab.pure _ _ _, fun _ _ h => h⟩, ⟨Rm.Stab.pure _ _ _, fun _ _ h => h⟩, ⟨Rm.Stab.pure _ _ _, fun _ _ h => h⟩, ⟨Rm.Stab.pure _ _ _, fun _ _ h => h⟩, ⟨Rm.Stab.pure _ _ _, fun _ _ h => h⟩, ⟨Rm.Stab.pure _ _ _, fun _ _ h => h⟩, ⟨Rm.Stab.pure _ _ _, fun _ _ h => h⟩, ⟨Rm.Stab.pure _ _ _, fun _ _ h => h⟩, ⟨Rm.Stab.pure _ _ _, fun _ _ h => h⟩, ⟨Rm.Stab.pure _ _ _, fun _ _ h => h⟩, ⟨Rm.Stab.pure _ _ _, fun _ _ h => h⟩, trivial⟩ ⟨?_, ?_, ?_, ?_, ?_, ?_, ?_, ?_, ?_, ?_, ?_, ?_, ?_, ?_, ?_, ?_, ?_, ?_, ?_, ?_, trivial⟩ ?_
        · intro wx hb0
          have hb : Below _ _ wx := hb0
          intro K hK
          go_simp
          exact hK _ _ rfl ⟨rfl, Below.refl _ _⟩
        · intro wx hb0
          have hb : Below _ _ wx := hb0
          intro K hK
          go_simp
          exact hK _ _ rfl ⟨rfl, Below.refl _ _⟩
        · intro wx hb0
          have hb : Below _ _ wx := hb0
          intro K hK
          go_simp
          exact hK _ _ rfl ⟨rfl, Below.refl _ _⟩
        · intro wx hb0
          have hb : Below _ _ wx := hb0
          intro K hK
          go_simp
          exact hK _ _ rfl ⟨rfl, Below.refl _ _⟩
        · intro wx hb0
          have hb : Below _ _ wx := hb0
          rintro _ rfl
          intro K hK
          have mm := Box.below (BX) hb (Box.lt (BX))
          have m0 : wx.cell? ⟨wr.heap.size, 0, none⟩ = some (.int .i64 2) := mm.cell 0
          have m1 : wx.cell? ⟨wr.heap.size, 1, none⟩ = some (.int .u8 0) := mm.cell 1
          have m2 : wx.cell? ⟨wr.heap.size, 2, none⟩ = some (.int .i64 ((a : Int) + 1)) := mm.cell 2
          have m3 : wx.cell? ⟨wr.heap.size, 3, none⟩ = some (.int .i64 ((b : Int) + 1)) := mm.cell 3
          have m4 : wx.cell? ⟨wr.heap.size, 4, none⟩ = some (.int .i64 0) := mm.cell 4
          clear mm
          go_simp
          exact hK _ _ rfl ⟨rfl, Below.refl _ _⟩
        · intro wx hb0
          have hb : Below _ _ wx := hb0
          rintro _ rfl
          intro K hK
          go_simp
          exact hK _ _ rfl ⟨rfl, Below.refl _ _⟩
        · intro wx hb0
          have hb : Below _ _ wx := hb0
          rintro _ rfl
          rintro _ rfl
          intro K hK
          go_simp
          exact hK _ _ rfl ⟨rfl, Below.refl _ _⟩
        · intro wx hb0
          have hb : Below _ _ wx := hb0
          rintro _ rfl
          intro K hK
          have z0 := (hb.cell (p := ⟨w1.heap.size, a * 6, none⟩) HBw.out.lt).trans ((HBw.out.cell (a * 6 + 0)).trans ((HB.out.cell (a * 6 + 0)).symm.trans (HXw.out 0 _ rfl))); have z1 := (hb.cell (p := ⟨w1.heap.size, a * 6 + 1, none⟩) HBw.out.lt).trans ((HBw.out.cell (a * 6 + 1)).trans ((HB.out.cell (a * 6 + 1)).symm.trans (HXw.out 1 _ rfl))); have z2 := (hb.cell (p := ⟨w1.heap.size, a * 6 + 2, none⟩) HBw.out.lt).trans ((HBw.out.cell (a * 6 + 2)).trans ((HB.out.cell (a * 6 + 2)).symm.trans (HXw.out 2 _ rfl))); have z3 := (hb.cell (p := ⟨w1.heap.size, a * 6 + 3, none⟩) HBw.out.lt).trans ((HBw.out.cell (a * 6 + 3)).trans ((HB.out.cell (a * 6 + 3)).symm.trans (HXw.out 3 _ rfl))); have z4 := (hb.cell (p := ⟨w1.heap.size, a * 6 + 4, none⟩) HBw.out.lt).trans ((HBw.out.cell (a * 6 + 4)).trans ((HB.out.cell (a * 6 + 4)).symm.trans (HXw.out 4 _ rfl))); have z5 := (hb.cell (p := ⟨w1.heap.size, a * 6 + 5, none⟩) HBw.out.lt).trans ((HBw.out.cell (a * 6 + 5)).trans ((HB.out.cell (a * 6 + 5)).symm.trans (HXw.out 5 _ rfl))); go_simp; exact hK _ _ rfl ⟨rfl, Below.refl _ _⟩
        · intro wx hb0
          have hb : Below _ _ wx := hb0
          intro K hK
          go_simp
          exact hK _ _ rfl ⟨rfl, Below.refl _ _⟩
        · intro wx hb0
          have hb : Below _ _ wx := hb0
          intro K hK
          go_simp
          exact hK _ _ rfl ⟨rfl, Below.refl _ _⟩
        · intro wx hb0
          have hb : Below _ _ wx := hb0
          rintro _ rfl
          intro K hK
          have mm := Box.below (BX) hb (Box.lt (BX))
          have m0 : wx.cell? ⟨wr.heap.size, 0, none⟩ = some (.int .i64 2) := mm.cell 0
          have m1 : wx.cell? ⟨wr.heap.size, 1, none⟩ = some (.int .u8 0) := mm.cell 1
          have m2 : wx.cell? ⟨wr.heap.size, 2, none⟩ = some (.int .i64 ((a : Int) + 1)) := mm.cell 2
          have m3 : wx.cell? ⟨wr.heap.size, 3, none⟩ = some (.int .i64 ((b : Int) + 1)) := mm.cell 3
          have m4 : wx.cell? ⟨wr.heap.size, 4, none⟩ = some (.int .i64 0) := mm.cell 4
          clear mm
          go_simp
          exact hK _ _ rfl ⟨rfl, Below.refl _ _⟩
        · intro wx hb0
          have hb : Below _ _ wx := hb0
          rintro _ rfl
          intro K hK
          go_simp
          exact hK _ _ rfl ⟨rfl, Below.refl _ _⟩
        · intro wx hb0
          have hb : Below _ _ wx := hb0
          rintro _ rfl
          rintro _ rfl
          intro K hK
          go_simp
          exact hK _ _ rfl ⟨rfl, Below.refl _ _⟩
        · intro wx hb0
          have hb : Below _ _ wx := hb0
          rintro _ rfl
          intro K hK
          have z0 := (hb.cell (p := ⟨w1.heap.size, b * 6, none⟩) HBw.out.lt).trans ((HBw.out.cell (b * 6 + 0)).trans ((HB.out.cell (b * 6 + 0)).symm.trans (HYw.out 0 _ rfl))); have z1 := (hb.cell (p := ⟨w1.heap.size, b * 6 + 1, none⟩) HBw.out.lt).trans ((HBw.out.cell (b * 6 + 1)).trans ((HB.out.cell (b * 6 + 1)).symm.trans (HYw.out 1 _ rfl))); have z2 := (hb.cell (p := ⟨w1.heap.size, b * 6 + 2, none⟩) HBw.out.lt).trans ((HBw.out.cell (b * 6 + 2)).trans ((HB.out.cell (b * 6 + 2)).symm.trans (HYw.out 2 _ rfl))); have z3 := (hb.cell (p := ⟨w1.heap.size, b * 6 + 3, none⟩) HBw.out.lt).trans ((HBw.out.cell (b * 6 + 3)).trans ((HB.out.cell (b * 6 + 3)).symm.trans (HYw.out 3 _ rfl))); have z4 := (hb.cell (p := ⟨w1.heap.size, b * 6 + 4, none⟩) HBw.out.lt).trans ((HBw.out.cell (b * 6 + 4)).trans ((HB.out.cell (b * 6 + 4)).symm.trans (HYw.out 4 _ rfl))); have z5 := (hb.cell (p := ⟨w1.heap.size, b * 6 + 5, none⟩) HBw.out.lt).trans ((HBw.out.cell (b * 6 + 5)).trans ((HB.out.cell (b * 6 + 5)).symm.trans (HYw.out 5 _ rfl))); go_simp; exact hK _ _ rfl ⟨rfl, Below.refl _ _⟩
        · intro wx hb0
          have hb : Below _ _ wx := hb0
          rintro _ rfl
          rintro _ rfl
          intro K hK
          go_simp
          (with_reducible refine (HQ.out _).mono ?_)
          rintro e wa ⟨rfl, Ba⟩
          exact hK _ _ rfl ⟨rfl, Ba⟩
        · intro wx hb0
          have hb : Below _ _ wx := hb0
          rintro _ rfl
          intro K hK
          go_simp
          exact hK _ _ rfl ⟨rfl, Below.refl _ _⟩
        · intro wx hb0
          have hb : Below _ _ wx := hb0
          rintro _ rfl
          intro K hK
          go_simp
          exact hK _ _ rfl ⟨rfl, Below.refl _ _⟩
        · intro wx hb0
          rintro _ rfl
          intro K hK
          go_simp
          exact hK _ _ rfl ⟨rfl, Below.refl _ _⟩
        · intro wx hb0
          have hb : Below _ _ wx := hb0
          rintro _ rfl
          rintro _ rfl
          intro K hK
          go_simp
          exact hK _ _ rfl ⟨rfl, Below.refl _ _⟩
        · intro wx hb0
          have hb : Below _ _ wx := hb0
          rintro _ rfl
          rintro _ rfl
          intro K hK
          have zc0 := (hb.cell (p := ⟨w1.heap.size, i * 6, none⟩) HBw.out.lt).trans ((HBw.out.cell (i * 6 + 0)).trans ((HB.out.cell (i * 6 + 0)).symm.trans (HBz.out 0 _ rfl))); have zf0 := (Box.below HBw.out hb HBw.out.lt).free (i * 6); have zc1 := (hb.cell (p := ⟨w1.heap.size, i * 6 + 1, none⟩) HBw.out.lt).trans ((HBw.out.cell (i * 6 + 1)).trans ((HB.out.cell (i * 6 + 1)).symm.trans (HBz.out 1 _ rfl))); have zf1 := (Box.below HBw.out hb HBw.out.lt).free (i * 6 + 1); have zc2 := (hb.cell (p := ⟨w1.heap.size, i * 6 + 2, none⟩) HBw.out.lt).trans ((HBw.out.cell (i * 6 + 2)).trans ((HB.out.cell (i * 6 + 2)).symm.trans (HBz.out 2 _ rfl))); have zf2 := (Box.below HBw.out hb HBw.out.lt).free (i * 6 + 2); have zc3 := (hb.cell (p := ⟨w1.heap.size, i * 6 + 3, none⟩) HBw.out.lt).trans ((HBw.out.cell (i * 6 + 3)).trans ((HB.out.cell (i * 6 + 3)).symm.trans (HBz.out 3 _ rfl))); have zf3 := (Box.below HBw.out hb HBw.out.lt).free (i * 6 + 3); have zc4 := (hb.cell (p := ⟨w1.heap.size, i * 6 + 4, none⟩) HBw.out.lt).trans ((HBw.out.cell (i * 6 + 4)).trans ((HB.out.cell (i * 6 + 4)).symm.trans (HBz.out 4 _ rfl))); have zf4 := (Box.below HBw.out hb HBw.out.lt).free (i * 6 + 4); have zc5 := (hb.cell (p := ⟨w1.heap.size, i * 6 + 5, none⟩) HBw.out.lt).trans ((HBw.out.cell (i * 6 + 5)).trans ((HB.out.cell (i * 6 + 5)).symm.trans (HBz.out 5 _ rfl))); have zf5 := (Box.below HBw.out hb HBw.out.lt).free (i * 6 + 5)
          go_simp
          exact hK _ _ rfl rfl
        intro w3 B3
        rintro _ rfl
        rintro _ rfl
        rintro _ rfl
        rintro _ rfl
        rintro _ rfl
        rintro _ rfl
        rintro _ rfl
        rintro _ rfl
        rintro _ rfl
        rintro _ rfl
        rintro _ rfl
        rintro _ rfl
        rintro _ rfl
        rintro _ rfl
        rintro _ rfl
        rintro _ rfl
        rintro _ rfl
        rintro _ rfl
        rintro _ rfl
        rintro -
        simp only [Act.put, List.setIfInBounds_toArray, List.set_cons_zero, List.set_cons_succ, List.toList_toArray, List.length_cons, List.length_nil, List.drop_succ_cons, List.drop_zero, List.drop_nil, Nat.zero_add]
        have HB4 : Hid (k = 0 → Box w3 w1.heap.size 70 (arrW (wls g (i + 1)) n)) := Lib.hid (fun hk => by
          have h1 := Box.setL_ vv.cells HBw.out (i * 6)
          have h2 := arrW_set (ws := wls g i) (n := n) vv (by rw [wls_len]; exact hlt)
          rw [wls_len] at h2
          rw [h2, ← (HY.out hk).1] at h1
          exact h1.below B3 HBw.out.lt)
        have BW4 := Lib.hid ((setL_below BW0 w1.heap.size (i * 6) vv.cells zg).trans (B3.mono BW0.size))
        clear B3 BW0 BX HQ HBz HXw HYw
        by_cases k0 : k = 0
        · subst k0
          rw [errv_zero]
          have HG2 := Lib.hid (HY.out rfl).2
          have HB5 := Lib.hid (HB4.out rfl)
          go_wp2_with fail
          go_roundw
          case rel => exact ⟨i + 1, by go_num, by omega, HG2, HB5, BW4⟩
          case measure => simp [intOf]; omega
        · rw [errv_pos k k0]
          have HG2 := Lib.hid (HN.out k0)
          clear HG HY HN
          go_wp2_with fail
          go_ret2
          refine ⟨none, 0, ?_, ?_, BW4.out⟩
          · rw [HX.out, HG2.out, if_neg k0, errv_pos k k0]; rfl
          · rw [HX.out, HG2.out, if_neg k0]; exact RowAt.nil _ _
      · obtain ⟨a, rfl⟩ : ∃ a : Nat, lf = (a : Int) + 1 := ⟨(lf - 1).toNat, by omega⟩
        have ai : a < i := by omega
        have an : (a : Int) < n := by omega
        have a0 : (0 : Int) ≤ a := by omega
        have wa : IntKind.i64.wrap (a : Int) = a := IntWalk.i64_in _ ⟨by omega, by omega⟩
        have la := HG.out.2 a ai
        have htx : tx g i = (List.replicate tm.toNat (tx g a)).flatten := tx_power hr ai
        have HJ := rep_of_text la (k := tm) (by omega)
        have he := len1_power (tls g i) (r := ⟨3, 0, (a : Int) + 1, 0, tm⟩) rfl
        have hea : ((a : Int) + 1 - 1).toNat = a := by omega
        simp only [hea, tls_get g ai] at he
        rw [lenMul_text (by omega) la (by omega)] at he
        have hout : ∃ (vv : Wt) (k : Int), repW (wOf (tx g a)) tm = (vv, k) ∧ (k = 0 → wls g (i + 1) = wls g i ++ [vv] ∧ (lensFrom (tls g (i + 1)) (g.drop (i + 1)) = L ∧ ∀ j, j < i + 1 → ((tx g j).length : Int) ≤ 1152921504606846976)) ∧ (k ≠ 0 → L = ([], k)) := by
          by_cases hcd : ((tx g a).length : Int) * tm ≤ 1152921504606846976
          · rw [if_pos hcd] at HJ he
            refine ⟨_, 0, HJ, fun _ => ⟨by rw [wls_succ, htx], ?_, fun j hj => ?_⟩, fun h => absurd rfl h⟩
            · have := lf_ok (acc := tls g i) hr (by rw [he])
              rw [he] at this
              have hfl : (((List.replicate tm.toNat (tx g a)).flatten).length : Int) = (tx g a).length * tm := by
                rw [List.length_flatten, List.map_replicate, List.sum_replicate_nat, Int.natCast_mul, Int.toNat_of_nonneg (by omega), Int.mul_comm]
              rw [tls_succ, htx, hfl]
              exact this.symm.trans HG.out.1
            · by_cases hji : j < i
              · exact HG.out.2 j hji
              · obtain rfl : j = i := by omega
                have hfl : (((List.replicate tm.toNat (tx g a)).flatten).length : Int) = (tx g a).length * tm := by
                  rw [List.length_flatten, List.map_replicate, List.sum_replicate_nat, Int.natCast_mul, Int.toNat_of_nonneg (by omega), Int.mul_comm]
                rw [htx, hfl]; exact hcd
          · rw [if_neg hcd] at HJ he
            refine ⟨_, 2, HJ, fun h => absurd h (by decide), fun _ => ?_⟩
            have := lf_bad (acc := tls g i) hr (by rw [he]; decide)
            rw [he] at this
            exact HG.out.1.symm.trans this
        obtain ⟨vv, k, hjk, hyes, hno⟩ := hout
        have HY := Lib.hid hyes; have HN := Lib.hid hno
        have HXw : Hid (∀ j u, (wOf (tx g a)).cells[j]? = some u → wr.cell? ⟨w1.heap.size, a * 6 + j, none⟩ = some u) := Lib.hid fun j u hu => (HB.out.cell (a * 6 + j)).trans (arrW_at (wls_get g ai) hu)
        have okx := wOf_ok (tx g a) la
        obtain ⟨x, hx⟩ : ∃ x, x = wOf (tx g a) := ⟨_, rfl⟩
        rw [← hx] at HXw hjk okx
        have HQ := Lib.hid (fun w => rep_ok' x tm okx (by omega) ht1 vv k hjk w)
        have HBw := Lib.hid (HB.out.alloc (.cells #[.int .i64 3, .int .u8 0, .int .i64 ((a : Int) + 1), .int .i64 0, .int .i64 tm] 46))
        have BX := Box.new wr 46 #[.int .i64 3, .int .u8 0, .int .i64 ((a : Int) + 1), .int .i64 0, .int .i64 tm]
        have BW0 := balloc BW.out (.cells #[.int .i64 3, .int .u8 0, .int .i64 ((a : Int) + 1), .int .i64 0, .int .i64 tm] 46)
        have HBz : Hid (∀ j u, zW.cells[j]? = some u → wr.cell? ⟨w1.heap.size, i * 6 + j, none⟩ = some u) := Lib.hid fun j u hu => (HB.out.cell (i * 6 + j)).trans (arrW_zero (by rw [wls_len]; exact Nat.le_refl _) hlt hu)
        clear hr htx HJ he hea hyes hno hjk okx hx la
        go_upto_region 15 with fail
        refine Rm.region_st (sx := 15) (px := ⟨w1.heap.size, (i * 6), none⟩) (ux := [.int .i64 vv.n, .int .i64 vv.l, .int .i64 vv.h, .int .i64 vv.t, .int .u64 vv.v, .int .u64 vv.s]) (bs := [true, true, true, true, true, true, true, true, true, true, true, true, true, false, true, true]) (.val (fun v _ => v = .slice (some ⟨w1.heap.size, 0, none⟩) n n) :: .val (fun v _ => v = .int .i64 (i : Int)) :: .val (fun v _ => v = .slice (some ⟨w1.heap.size, 0, none⟩) n n) :: .val (fun v _ => v = .pointer (some ⟨wr.heap.size, 2, none⟩)) :: .val (fun v _ => v = .int .i64 ((a : Int) + 1)) :: .val (fun v _ => v = .int .i64 (a : Int)) :: .val (fun v _ => v = .pointer (some ⟨w1.heap.size, a * 6, none⟩)) :: .val (fun v _ => v = .agg #[.int .i64 x.n, .int .i64 x.l, .int .i64 x.h, .int .i64 x.t, .int .u64 x.v, .int .u64 x.s]) :: .val (fun v _ => v = .pointer (some ⟨wr.heap.size, 4, none⟩)) :: .val (fun v _ => v = .int .i64 tm) :: .val (fun v _ => v = .tuple #[.agg #[.int .i64 vv.n, .int .i64 vv.l, .int .i64 vv.h, .int .i64 vv.t, .int .u64 vv.v, .int .u64 vv.s], errv k]) :: .val (fun v _ => v = .tuple #[.agg #[.int .i64 vv.n, .int .i64 vv.l, .int .i64 vv.h, .int .i64 vv.t, .int .u64 vv.v, .int .u64 vv.s], errv k]) :: .val (fun v _ => v = .agg #[.int .i64 vv.n, .int .i64 vv.l, .int .i64 vv.h, .int .i64 vv.t, .int .u64 vv.v, .int .u64 vv.s]) :: .val (fun v _ => v = errv k) :: .val (fun v _ => v = .pointer (some ⟨w1.heap.size, i * 6, none⟩)) :: .st ⟨w1.heap.size, (i * 6), none⟩ ([.int .i64 vv.n, .int .i64 vv.l, .int .i64 vv.h, .int .i64 vv.t, .int .u64 vv.v, .int .u64 vv.s]) :: [])
          ([] :: [] :: [] :: [] :: [(61, 3)] :: [(62, 4)] :: [(60, 2), (63, 5)] :: [(64, 6)] :: [] :: [(66, 8)] :: [(65, 7), (67, 9)] :: [(68, 10)] :: [(57, 11)] :: [(57, 11)] :: [(58, 0), (59, 1)] :: [(71, 14), (69, 12)] :: []) ((0, 0) :: (0, 0) :: (0, 0) :: (0, 0) :: (0, 0) :: (0, 0) :: (0, 0) :: (0, 0) :: (0, 0) :: (0, 0) :: (0, 0) :: (0, 0) :: (0, 0) :: (0, 0) :: (0, 0) :: (3, 0) :: []) 77 (by kernel_rfl) rfl rfl (by kernel_rfl) (by kernel_rfl) rfl (by first | omega | (simp; omega)) ⟨⟨rfl, rfl⟩, trivial⟩ (by decide) ⟨⟨Rm.Stab.pure _ _ _, fun _ _ h => h⟩, ⟨Rm.Stab.pure _ _ _, fun _ _ h => h⟩, ⟨Rm.Stab.pure _ _ _, fun _ _ h => h⟩, ⟨Rm.Stab.pure _ _ _, fun _ _ h => h⟩, ⟨Rm.Stab.pure _ _ _, fun _ _ h => h⟩, ⟨Rm.Stab.pure _ _ _, fun _ _ h => h⟩, ⟨Rm.Stab.pure _ _ _, fun _ _ h => h⟩, ⟨Rm.Stab.pure _ _ _, fun _ _ h => h⟩, ⟨Rm.Stab.pure _ _ _, fun _ _ h => h⟩, ⟨Rm.Stab.pure _ _ _, fun _ _ h => h⟩, ⟨Rm.Stab.pure _ _ _, fun _ _ h => h⟩, ⟨Rm.Stab.pure _ _ _, fun _ _ h => h⟩, ⟨Rm.Stab.pure _ _ _, fun _ _ h => h⟩, ⟨Rm.Stab.pure _ _ _, fun _ _ h => h⟩, ⟨Rm.Stab.pure _ _ _, fun _ _ h => h⟩, trivial⟩ ⟨?_, ?_, ?_, ?_, ?_, ?_, ?_, ?_, ?_, ?_, ?_, ?_, ?_, ?_, ?_, ?_, trivial⟩ ?_
        · intro wx hb0
          have hb : Below _ _ wx := hb0
          intro K hK
          go_simp
          exact hK _ _ rfl ⟨rfl, Below.refl _ _⟩
        · intro wx hb0
          have hb : Below _ _ wx := hb0
          intro K hK
          go_simp
          exact hK _ _ rfl ⟨rfl, Below.refl _ _⟩
        · intro wx hb0
          have hb : Below _ _ wx := hb0
          intro K hK
          go_simp
          exact hK _ _ rfl ⟨rfl, Below.refl _ _⟩
        · intro wx hb0
          have hb : Below _ _ wx := hb0
          intro K hK
          go_simp
          exact hK _ _ rfl ⟨rfl, Below.refl _ _⟩
        · intro wx hb0
          have hb : Below _ _ wx := hb0
          rintro _ rfl
          intro K hK
          have mm := Box.below (BX) hb (Box.lt (BX))
          have m0 : wx.cell? ⟨wr.heap.size, 0, none⟩ = some (.int .i64 3) := mm.cell 0
          have m1 : wx.cell? ⟨wr.heap.size, 1, none⟩ = some (.int .u8 0) := mm.cell 1
          have m2 : wx.cell? ⟨wr.heap.size, 2, none⟩ = some (.int .i64 ((a : Int) + 1)) := mm.cell 2
          have m3 : wx.cell? ⟨wr.heap.size, 3, none⟩ = some (.int .i64 0) := mm.cell 3
          have m4 : wx.cell? ⟨wr.heap.size, 4, none⟩ = some (.int .i64 tm) := mm.cell 4
          clear mm
          go_simp
          exact hK _ _ rfl ⟨rfl, Below.refl _ _⟩
        · intro wx hb0
          have hb : Below _ _ wx := hb0
          rintro _ rfl
          intro K hK
          go_simp
          exact hK _ _ rfl ⟨rfl, Below.refl _ _⟩
        · intro wx hb0
          have hb : Below _ _ wx := hb0
          rintro _ rfl
          rintro _ rfl
          intro K hK
          go_simp
          exact hK _ _ rfl ⟨rfl, Below.refl _ _⟩
        · intro wx hb0
          have hb : Below _ _ wx := hb0
          rintro _ rfl
          intro K hK
          have z0 := (hb.cell (p := ⟨w1.heap.size, a * 6, none⟩) HBw.out.lt).trans ((HBw.out.cell (a * 6 + 0)).trans ((HB.out.cell (a * 6 + 0)).symm.trans (HXw.out 0 _ rfl))); have z1 := (hb.cell (p := ⟨w1.heap.size, a * 6 + 1, none⟩) HBw.out.lt).trans ((HBw.out.cell (a * 6 + 1)).trans ((HB.out.cell (a * 6 + 1)).symm.trans (HXw.out 1 _ rfl))); have z2 := (hb.cell (p := ⟨w1.heap.size, a * 6 + 2, none⟩) HBw.out.lt).trans ((HBw.out.cell (a * 6 + 2)).trans ((HB.out.cell (a * 6 + 2)).symm.trans (HXw.out 2 _ rfl))); have z3 := (hb.cell (p := ⟨w1.heap.size, a * 6 + 3, none⟩) HBw.out.lt).trans ((HBw.out.cell (a * 6 + 3)).trans ((HB.out.cell (a * 6 + 3)).symm.trans (HXw.out 3 _ rfl))); have z4 := (hb.cell (p := ⟨w1.heap.size, a * 6 + 4, none⟩) HBw.out.lt).trans ((HBw.out.cell (a * 6 + 4)).trans ((HB.out.cell (a * 6 + 4)).symm.trans (HXw.out 4 _ rfl))); have z5 := (hb.cell (p := ⟨w1.heap.size, a * 6 + 5, none⟩) HBw.out.lt).trans ((HBw.out.cell (a * 6 + 5)).trans ((HB.out.cell (a * 6 + 5)).symm.trans (HXw.out 5 _ rfl))); go_simp; exact hK _ _ rfl ⟨rfl, Below.refl _ _⟩
        · intro wx hb0
          have hb : Below _ _ wx := hb0
          intro K hK
          go_simp
          exact hK _ _ rfl ⟨rfl, Below.refl _ _⟩
        · intro wx hb0
          have hb : Below _ _ wx := hb0
          rintro _ rfl
          intro K hK
          have mm := Box.below (BX) hb (Box.lt (BX))
          have m0 : wx.cell? ⟨wr.heap.size, 0, none⟩ = some (.int .i64 3) := mm.cell 0
          have m1 : wx.cell? ⟨wr.heap.size, 1, none⟩ = some (.int .u8 0) := mm.cell 1
          have m2 : wx.cell? ⟨wr.heap.size, 2, none⟩ = some (.int .i64 ((a : Int) + 1)) := mm.cell 2
          have m3 : wx.cell? ⟨wr.heap.size, 3, none⟩ = some (.int .i64 0) := mm.cell 3
          have m4 : wx.cell? ⟨wr.heap.size, 4, none⟩ = some (.int .i64 tm) := mm.cell 4
          clear mm
          go_simp
          exact hK _ _ rfl ⟨rfl, Below.refl _ _⟩
        · intro wx hb0
          have hb : Below _ _ wx := hb0
          rintro _ rfl
          rintro _ rfl
          intro K hK
          go_simp
          (with_reducible refine (HQ.out _).mono ?_)
          rintro e wa ⟨rfl, Ba⟩
          exact hK _ _ rfl ⟨rfl, Ba⟩
        · intro wx hb0
          have hb : Below _ _ wx := hb0
          rintro _ rfl
          intro K hK
          go_simp
          exact hK _ _ rfl ⟨rfl, Below.refl _ _⟩
        · intro wx hb0
          have hb : Below _ _ wx := hb0
          rintro _ rfl
          intro K hK
          go_simp
          exact hK _ _ rfl ⟨rfl, Below.refl _ _⟩
        · intro wx hb0
          rintro _ rfl
          intro K hK
          go_simp
          exact hK _ _ rfl ⟨rfl, Below.refl _ _⟩
        · intro wx hb0
          have hb : Below _ _ wx := hb0
          rintro _ rfl
          rintro _ rfl
          intro K hK
          go_simp
          exact hK _ _ rfl ⟨rfl, Below.refl _ _⟩
        · intro wx hb0
          have hb : Below _ _ wx := hb0
          rintro _ rfl
          rintro _ rfl
          intro K hK
          have zc0 := (hb.cell (p := ⟨w1.heap.size, i * 6, none⟩) HBw.out.lt).trans ((HBw.out.cell (i * 6 + 0)).trans ((HB.out.cell (i * 6 + 0)).symm.trans (HBz.out 0 _ rfl))); have zf0 := (Box.below HBw.out hb HBw.out.lt).free (i * 6); have zc1 := (hb.cell (p := ⟨w1.heap.size, i * 6 + 1, none⟩) HBw.out.lt).trans ((HBw.out.cell (i * 6 + 1)).trans ((HB.out.cell (i * 6 + 1)).symm.trans (HBz.out 1 _ rfl))); have zf1 := (Box.below HBw.out hb HBw.out.lt).free (i * 6 + 1); have zc2 := (hb.cell (p := ⟨w1.heap.size, i * 6 + 2, none⟩) HBw.out.lt).trans ((HBw.out.cell (i * 6 + 2)).trans ((HB.out.cell (i * 6 + 2)).symm.trans (HBz.out 2 _ rfl))); have zf2 := (Box.below HBw.out hb HBw.out.lt).free (i * 6 + 2); have zc3 := (hb.cell (p := ⟨w1.heap.size, i * 6 + 3, none⟩) HBw.out.lt).trans ((HBw.out.cell (i * 6 + 3)).trans ((HB.out.cell (i * 6 + 3)).symm.trans (HBz.out 3 _ rfl))); have zf3 := (Box.below HBw.out hb HBw.out.lt).free (i * 6 + 3); have zc4 := (hb.cell (p := ⟨w1.heap.size, i * 6 + 4, none⟩) HBw.out.lt).trans ((HBw.out.cell (i * 6 + 4)).trans ((HB.out.cell (i * 6 + 4)).symm.trans (HBz.out 4 _ rfl))); have zf4 := (Box.below HBw.out hb HBw.out.lt).free (i * 6 + 4); have zc5 := (hb.cell (p := ⟨w1.heap.size, i * 6 + 5, none⟩) HBw.out.lt).trans ((HBw.out.cell (i * 6 + 5)).trans ((HB.out.cell (i * 6 + 5)).symm.trans (HBz.out 5 _ rfl))); have zf5 := (Box.below HBw.out hb HBw.out.lt).free (i * 6 + 5)
          go_simp
          exact hK _ _ rfl rfl
        intro w3 B3
        rintro _ rfl
        rintro _ rfl
        rintro _ rfl
        rintro _ rfl
        rintro _ rfl
        rintro _ rfl
        rintro _ rfl
        rintro _ rfl
        rintro _ rfl
        rintro _ rfl
        rintro _ rfl
        rintro _ rfl
        rintro _ rfl
        rintro _ rfl
        rintro _ rfl
        rintro -
        simp only [Act.put, List.setIfInBounds_toArray, List.set_cons_zero, List.set_cons_succ, List.toList_toArray, List.length_cons, List.length_nil, List.drop_succ_cons, List.drop_zero, List.drop_nil, Nat.zero_add]
        have HB4 : Hid (k = 0 → Box w3 w1.heap.size 70 (arrW (wls g (i + 1)) n)) := Lib.hid (fun hk => by
          have h1 := Box.setL_ vv.cells HBw.out (i * 6)
          have h2 := arrW_set (ws := wls g i) (n := n) vv (by rw [wls_len]; exact hlt)
          rw [wls_len] at h2
          rw [h2, ← (HY.out hk).1] at h1
          exact h1.below B3 HBw.out.lt)
        have BW4 := Lib.hid ((setL_below BW0 w1.heap.size (i * 6) vv.cells zg).trans (B3.mono BW0.size))
        clear B3 BW0 BX HQ HBz HXw
        by_cases k0 : k = 0
        · subst k0
          rw [errv_zero]
          have HG2 := Lib.hid (HY.out rfl).2
          have HB5 := Lib.hid (HB4.out rfl)
          go_wp2_with fail
          go_roundw
          case rel => exact ⟨i + 1, by go_num, by omega, HG2, HB5, BW4⟩
          case measure => simp [intOf]; omega
        · rw [errv_pos k k0]
          have HG2 := Lib.hid (HN.out k0)
          clear HG HY HN
          go_wp2_with fail
          go_ret2
          refine ⟨none, 0, ?_, ?_, BW4.out⟩
          · rw [HX.out, HG2.out, if_neg k0, errv_pos k k0]; rfl
          · rw [HX.out, HG2.out, if_neg k0]; exact RowAt.nil _ _
    · obtain rfl : i = n := by omega
      have HG2 : Hid (L = (tls g i, 0)) := Lib.hid (HG.out.1.symm.trans (lf_end (by rw [HL.out]; exact Nat.le_refl _)))
      go_wp2_with fail
      go_ret2
      refine ⟨some ⟨w1.heap.size, 0, none⟩, i, ?_, ?_, BW.out⟩
      · rw [HX.out, HG2.out, if_pos rfl, wls_len, HL.out]; rfl
      · rw [HX.out, HG2.out, if_pos rfl, HL.out]; exact arrW_row HB.out (wls_len g i)
theorem weights_bad (g : List Rl) (n c : Nat) (A : Option Addr) (hl : g.length = n) (hn : n ≤ 100000) (h0 : gcode 0 g ≠ 0) (w : World) (ha : RowAt w A (gc g)) :
    Calls Try.prog 40 #[.slice A n c] w (WtsOut (wtsL g) (errv (lens g).2) w) := by
  have HC := fun w h => check_g g n c A hl (by omega) w h
  have hb := lens_bad h0
  have hX : wtsL g = [] := by unfold wtsL; rw [hb, if_neg h0]
  rw [hX, hb]
  generalize gcode 0 g = k at HC h0
  rw [errv_pos k h0] at HC
  have HA := Lib.hid ha; have HCC := Lib.hid HC
  have HK := Lib.hid h0
  clear ha hl HC h0 hX hb
  go_enter Try.func40, Try.ntmps40
  go_wp2_with fail
  (with_reducible refine (HCC.out _ HA.out).mono ?_)
  rintro e w1 ⟨rfl, B1⟩
  have BW1 := Lib.hid B1
  clear B1
  go_wp2_with fail
  go_ret2
  exact ⟨none, 0, by rw [errv_pos k HK.out]; rfl, RowAt.nil _ _, BW1.out⟩
theorem weights_any (g : List Rl) (n c : Nat) (A : Option Addr) (hl : g.length = n) (hn : n ≤ 100000) (hrb : Rb g) (w : World) (ha : RowAt w A (gc g)) :
    Calls Try.prog 40 #[.slice A n c] w (WtsOut (wtsL g) (errv (lens g).2) w) := by
  by_cases h0 : gcode 0 g = 0
  · exact weights_ok g n c A hl hn h0 hrb w ha
  · exact weights_bad g n c A hl hn h0 w ha
end Go.Proofs.Ytcbahojefglakaa
