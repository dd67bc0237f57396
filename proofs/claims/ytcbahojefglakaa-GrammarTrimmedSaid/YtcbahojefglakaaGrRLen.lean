/- The walks of evergreenref11.Check and Lengths, of copied and of Clip. Written by wip/gen/grrlen.py. -/
import Derived.Test.YtcbahojefglakaaGrLen
import Derived.Test.YtcbahojefglakaaLenRef
namespace Go.Proofs.Ytcbahojefglakaa
set_option linter.unusedVariables false
set_option linter.unusedSimpArgs false
open Go.RowKit Go.Lib
attribute [local go_sem ↓] Go.wp_at_zero Go.wp_at_succ
/-- what hands back a slice of numbers and an error -/
def IntsOut (l : List Int) (er : Value) (w : World) (e : Ending) (w' : World) : Prop := ∃ A2 c2, e = .returned (.tuple #[.slice A2 l.length c2, er]) ∧ RowAt w' A2 (vi l) ∧ Below w.heap.size w w'
theorem lengths_out (g : List Rl) (n c : Nat) (A : Option Addr) (hl : g.length = n) (hn : n ≤ 1000000) (w : World) (ha : RowAt w A (gc g)) :
    Calls Try.prog 45 #[.slice A n c] w (IntsOut (lens g).1 (errv (lens g).2) w) := lengths_any g n c A hl hn w ha
def clipI (n lo hi : Int) : Int := if n < lo then lo else if hi < n then hi else n
theorem clip_any (n lo hi : Int) (w : World) : Calls Try.prog 46 #[.int .i64 n, .int .i64 lo, .int .i64 hi] w fun e w' => e = .returned (.int .i64 (clipI n lo hi)) ∧ w = w' := by
  by_cases h1 : n < lo
  · have e : clipI n lo hi = lo := if_pos h1
    rw [e]
    go_enter Try.func46, Try.ntmps46
    go_wp2
    go_ret
    exact ⟨rfl, rfl⟩
  · by_cases h2 : hi < n
    · have e : clipI n lo hi = hi := by unfold clipI; rw [if_neg h1, if_pos h2]
      rw [e]
      go_enter Try.func46, Try.ntmps46
      go_wp2
      go_ret
      exact ⟨rfl, rfl⟩
    · have e : clipI n lo hi = n := by unfold clipI; rw [if_neg h1, if_neg h2]
      rw [e]
      go_enter Try.func46, Try.ntmps46
      go_wp2
      go_ret
      exact ⟨rfl, rfl⟩
theorem rclip_any (n lo hi : Int) (w : World) : Calls Try.prog 16 #[.int .i64 n, .int .i64 lo, .int .i64 hi] w fun e w' => e = .returned (.int .i64 (clipI n lo hi)) ∧ w = w' := by
  by_cases h1 : n < lo
  · have e : clipI n lo hi = lo := if_pos h1
    rw [e]
    go_enter Try.func16, Try.ntmps16
    go_wp2
    go_ret
    exact ⟨rfl, rfl⟩
  · by_cases h2 : hi < n
    · have e : clipI n lo hi = hi := by unfold clipI; rw [if_neg h1, if_pos h2]
      rw [e]
      go_enter Try.func16, Try.ntmps16
      go_wp2
      go_ret
      exact ⟨rfl, rfl⟩
    · have e : clipI n lo hi = n := by unfold clipI; rw [if_neg h1, if_neg h2]
      rw [e]
      go_enter Try.func16, Try.ntmps16
      go_wp2
      go_ret
      exact ⟨rfl, rfl⟩
set_option maxHeartbeats 1000000 in
theorem rcheck_g (g : List Rl) (n c : Nat) (A : Option Addr) (hl : g.length = n) (hn : n ≤ 140737488355328) (w : World) (ha : RowAt w A (gc g)) :
    Calls Try.prog 30 #[.slice A n c] w fun e w' => e = .returned (.int .i64 (gcode 0 g)) ∧ Below w.heap.size w w' := by
  have HA := Lib.hid ha; have HL := Lib.hid hl
  clear ha hl
  go_enter Try.func30, Try.ntmps30
  go_wp2_with fail
  go_loopw [3, 4] (fun si _ wr => ∃ i : Nat, si = .int .i64 (i : Int) ∧ i ≤ n ∧ Hid (gcode i (g.drop i) = gcode 0 g) ∧ Hid (Below w.heap.size w wr)) (fun si _ _ => n - (intOf si).toNat)
  case atStart => exact ⟨0, rfl, by omega, Lib.hid rfl, Lib.hid (Below.refl _ _)⟩
  case round =>
    obtain ⟨i, rfl, hi, HG, BW⟩ := hrel
    by_cases hlt : i < n
    · have hil : i < g.length := by rw [HL.out]; exact hlt
      obtain ⟨r, hr⟩ : ∃ r, g[i]? = some r := ⟨_, List.getElem?_eq_getElem hil⟩
      obtain ⟨ad, rfl, hadl, c0, c1, c2, c3, c4⟩ := row_rl (HA.out.below BW.out (Nat.le_refl _)) hr
      have HC := fun w => rule_any r.kd r.lt r.lf r.rg r.tm (i + 1) (by omega) (by omega) w
      obtain ⟨k, hk⟩ : ∃ k, k = rc r (i + 1) := ⟨_, rfl⟩
      rw [show checkCode r.kd r.lt r.lf r.rg r.tm (i + 1) = k from hk.symm] at HC
      have HCC := Lib.hid HC; have HK := Lib.hid hk
      obtain ⟨kd, lt, lf, rg, tm⟩ := r
      simp only at c0 c1 c2 c3 c4
      have i0 : (0 : Int) ≤ i := by omega
      have i1 : (i : Int) < (n : Int) := by omega
      have HR := Lib.hid hr
      clear hr HC hk
      go_wp2_with fail
      (with_reducible refine (HCC.out _).mono ?_)
      rintro e w1 ⟨rfl, B1⟩
      have BW1 := Lib.hid (bkeep BW.out B1)
      clear B1
      by_cases k0 : k = 0
      · subst k0
        have HG2 := Lib.hid ((gcode_ok HR.out HK.out.symm).symm.trans HG.out)
        clear HK HCC HG
        go_wp2_with fail
        go_roundw
        case rel => exact ⟨i + 1, by go_num, by omega, HG2, BW1⟩
        case measure => simp [intOf]; omega
      · have HG2 := Lib.hid (HG.out.symm.trans ((gcode_bad HR.out (by rw [← HK.out]; exact k0)).trans HK.out.symm))
        have kn : (k != 0) = true := by rw [bne_iff_ne]; exact k0
        clear HG HCC k0
        go_wp2_with fail
        go_ret
        exact ⟨by rw [HG2.out]; rfl, BW1.out⟩
    · obtain rfl : i = n := by omega
      have HG2 := Lib.hid (HG.out.symm.trans (gcode_end (by rw [HL.out]; exact Nat.le_refl _)))
      clear HG
      go_wp2_with fail
      go_ret
      exact ⟨by rw [HG2.out]; rfl, BW.out⟩
theorem info_rule : (Try.prog.info? 46).map (fun i => (i.zero, i.size, i.bytes)) = some (some (.agg #[.int .i64 0, .int .u8 0, .int .i64 0, .int .i64 0, .int .i64 0]), 5, 40) := by kernel_rfl
theorem copied_any (g : List Rl) (n c : Nat) (A : Option Addr) (hl : g.length = n) (hn : n ≤ 3518437208883) (w : World) (ha : RowAt w A (gc g)) :
    Calls Try.prog 18 #[.slice A n c] w (SliceOut w n (gc g)) := by
  obtain ⟨i0_, hi, hz0, hz1, hz2⟩ := info_parts5 info_rule
  have HI := Lib.hid hi; have HZ := Lib.hid hz0; have HZ1 := Lib.hid hz1; have HZ2 := Lib.hid hz2
  have HA := Lib.hid (ha.below (balloc (Below.refl w.heap.size w) (.cells #[] 46)) (Nat.le_refl _))
  have HL := Lib.hid hl
  have HO := Lib.hid (own_made w 46 5)
  clear hi hz0 hz1 hz2 ha hl
  go_enter Try.func18, Try.ntmps18
  go_wp2_with (refine wpList_app _ (by rfl) (.tmp 3) (.tmp 4) _ rfl (w.heap.size) 46 i0_ _ 5 40 Try.underlying22 HI.out HZ.out HZ1.out HZ2.out rfl (by omega) (.slice (some ⟨w.heap.size, 0, none⟩) 0 0) 0 [] rfl HO.out A n c (gc g) rfl (by rw [gc_len, HL.out]) HA.out (gc_one g) (by simp only [maxLen]; omega) (by omega) ?size ?_)
  case size => simp
  intro A3 c3 w3 own3 gr3 at3
  have B3 := Lib.hid ((balloc (Below.refl w.heap.size w) (.cells #[] 46)).grown gr3 (by simp) (own_ge HO.out))
  have HO3 := Lib.hid own3
  clear own3 gr3 at3
  go_wp2_with fail
  go_ret
  exact ⟨A3, c3, rfl, own_row _ HO3.out, B3.out⟩
theorem vi_one (l : List Int) : ∀ u ∈ vi l, u.oneCell' = true := by
  intro u hu
  simp only [vi, List.mem_map] at hu
  obtain ⟨x, _, rfl⟩ := hu
  rfl
theorem vi_app (a b : List Int) : vi (a ++ b) = vi a ++ vi b := by simp [vi]
theorem row_cell {w : World} {ad : Addr} {l : List Int} {k : Nat} (h : RowAt w (some ad) (vi l)) (hk : k < l.length) : w.cell? (ad.add k) = some (.int .i64 (l.getD k 0)) := by
  obtain ⟨a2, e, hc⟩ := h k _ (vi_get hk)
  cases e
  rw [hc, List.getD_eq_getElem?_getD, List.getElem?_eq_getElem hk]; rfl

set_option maxRecDepth 100000 in
set_option maxHeartbeats 8000000 in
theorem rlengths_any (g : List Rl) (n c : Nat) (A : Option Addr) (hl : g.length = n) (hn : n ≤ 1000000) (w : World) (ha : RowAt w A (gc g)) :
    Calls Try.prog 15 #[.slice A n c] w (IntsOut (lens g).1 (.int .i64 (lens g).2) w) := by
  have HC := fun w h => rcheck_g g n c A hl (by omega) w h
  by_cases h0 : gcode 0 g = 0
  · rw [h0] at HC
    rw [lens_ok h0]
    obtain ⟨L, hL⟩ : ∃ L, L = lensFrom [] g := ⟨_, rfl⟩
    rw [← hL]
    obtain ⟨i0_, hi, hz0, hz1, hz2⟩ := info_parts5 info_int
    have HI := Lib.hid hi; have HZ := Lib.hid hz0; have HZ1 := Lib.hid hz1; have HZ2 := Lib.hid hz2
    have HA := Lib.hid ha; have HL := Lib.hid hl; have HCC := Lib.hid HC; have H0 := Lib.hid h0; have HLL := Lib.hid hL
    clear ha hl HC h0 hL hi hz0 hz1 hz2
    go_enter Try.func15, Try.ntmps15
    go_wp2_with fail
    (with_reducible refine (HCC.out _ HA.out).mono ?_)
    rintro e w1 ⟨rfl, B1⟩
    have BW1 := Lib.hid B1
    clear B1
    go_wp2_with fail
    go_loopw [5, 6, 7, 8] (fun so si _ _ wr => ∃ (i : Nat) (acc : List Int) (A1 : Option Addr) (c1 : Nat), si = .int .i64 (i : Int) ∧ i ≤ n ∧ so = .slice A1 i c1 ∧ Hid (acc.length = i ∧ lensFrom acc (g.drop i) = L) ∧ Hid (wr.ownsRow w.heap.size 3 1 (.slice A1 i c1) i (vi acc)) ∧ Hid (Below w.heap.size w wr)) (fun _ si _ _ _ => n - (intOf si).toNat)
    case atStart => exact ⟨0, [], none, 0, rfl, by omega, rfl, Lib.hid ⟨rfl, HLL.out.symm⟩, Lib.hid ⟨by simp [vi], .inl ⟨rfl, rfl⟩⟩, BW1⟩
    case round =>
      obtain ⟨i, acc, A1, c1, rfl, hi, rfl, HG, HO, BW⟩ := hrel
      by_cases hlt : i < n
      · have hil : i < g.length := by rw [HL.out]; exact hlt
        obtain ⟨r, hr⟩ : ∃ r, g[i]? = some r := ⟨_, List.getElem?_eq_getElem hil⟩
        have hway := rule_way H0.out hr
        obtain ⟨ad, rfl, hadl, c0, c1_, c2, c3, c4⟩ := row_rl (HA.out.below BW.out (Nat.le_refl _)) hr
        obtain ⟨kd, lt, lf, rg, tm⟩ := r
        simp only at c0 c1_ c2 c3 c4 hway
        have i0 : (0 : Int) ≤ i := by omega
        have i1 : (i : Int) < (n : Int) := by omega
        have hadl2 : (ad.add (i * 5)).block < wr.heap.size := by rw [block_add]; exact hadl
        rcases hway with ⟨rfl, rfl, rfl, rfl⟩ | ⟨rfl, rfl, rfl, p1, p2, q1, q2⟩ | ⟨rfl, rfl, rfl, t2, p1, p2⟩
        · have HG2 : Hid ((acc ++ [(1 : Int)]).length = i + 1 ∧ lensFrom (acc ++ [1]) (g.drop (i + 1)) = L) := Lib.hid ⟨by simp [HG.out.1], by
            have e := len1_letter acc (r := ⟨1, lt, 0, 0, 0⟩) rfl
            have := lf_ok (acc := acc) hr (by rw [e])
            rw [e] at this
            exact this.symm.trans HG.out.2⟩
          clear hr
          have HAp := Lib.hid (own_alloc HO.out (.cells #[.int .i64 1] 3))
          go_wp2_with (refine wpList_app _ (by rfl) (.tmp 72) (.tmp 74) _ rfl w.heap.size 3 i0_ _ 1 8 Try.underlying23 HI.out HZ.out HZ1.out HZ2.out rfl (by omega) (.slice A1 i c1) i (vi acc) rfl HAp.out (some ⟨wr.heap.size, 0, none⟩) 1 1 (vi [1]) rfl rfl ?row (vi_one _) (by simp only [maxLen]; omega) (by omega) ?size ?_)
          case row => exact RowAt.of_block (heap_alloc_new wr _)
          case size => have := BW.out.size; simp; omega
          intro A5 c5 w5 own5 gr5 at5
          have B5 := Lib.hid ((balloc BW.out _).grown gr5 (by have := BW.out.size; simp; omega) (own_ge HO.out))
          rw [← vi_app] at own5
          have HO5 := Lib.hid own5
          clear own5 gr5 at5
          go_wp2_with fail
          go_roundw
          case rel => exact ⟨i + 1, acc ++ [1], A5, c5, by go_num, by omega, rfl, HG2, HO5, B5⟩
          case measure => simp [intOf]; omega
        · obtain ⟨a, rfl⟩ : ∃ a : Nat, lf = (a : Int) + 1 := ⟨(lf - 1).toNat, by omega⟩
          obtain ⟨b, rfl⟩ : ∃ b : Nat, rg = (b : Int) + 1 := ⟨(rg - 1).toNat, by omega⟩
          have ai : a < i := by omega
          have an : (a : Int) < i := by omega
          have a0 : (0 : Int) ≤ a := by omega
          have bi : b < i := by omega
          have bn : (b : Int) < i := by omega
          have b0 : (0 : Int) ≤ b := by omega
          have ai2 : a < acc.length := by rw [HG.out.1]; exact ai
          obtain ⟨ar, rfl, harl, _⟩ := (own_row _ HO.out).get (vi_get ai2)
          obtain ⟨x, hx⟩ : ∃ x, x = acc.getD a 0 := ⟨_, rfl⟩
          obtain ⟨y, hy⟩ : ∃ y, y = acc.getD b 0 := ⟨_, rfl⟩
          have cx : wr.cell? (ar.add a) = some (.int .i64 x) := (row_cell (own_row _ HO.out) ai2).trans (by rw [hx])
          have cy : wr.cell? (ar.add b) = some (.int .i64 y) := (row_cell (own_row _ HO.out) (by rw [HG.out.1]; exact bi)).trans (by rw [hy])
          have ha2 : ∀ k, (ar.add k).block < wr.heap.size := fun k => by rw [block_add]; exact harl
          obtain ⟨⟨vv, k⟩, hk⟩ : ∃ q, lenAdd x y = q := ⟨_, rfl⟩
          have hc := fun w => refadd1_any x y w
          rw [hk] at hc
          have HQ := Lib.hid hc
          have HE : Hid (len1 acc ⟨2, 0, (a : Int) + 1, (b : Int) + 1, 0⟩ = (vv, k)) := Lib.hid (by
            have e := len1_pair acc (r := ⟨2, 0, (a : Int) + 1, (b : Int) + 1, 0⟩) rfl
            have ea : ((a : Int) + 1 - 1).toNat = a := by omega
            have eb : ((b : Int) + 1 - 1).toNat = b := by omega
            exact e.trans (by simp only [ea, eb, ← hx, ← hy]; exact hk))
          have HR := Lib.hid hr
          have BW0 := BW.out
          have wa : IntKind.i64.wrap (a : Int) = a := IntWalk.i64_in _ ⟨by omega, by omega⟩
          have wb : IntKind.i64.wrap (b : Int) = b := IntWalk.i64_in _ ⟨by omega, by omega⟩
          clear hr hx hy hk hc
          go_upto_region 11 with fail
          refine region_lin (.val (fun v _ => v = .slice (some ar) i c1) :: .val (fun v _ => v = .slice (some ad) n c) :: .val (fun v _ => v = .int .i64 (i : Int)) :: .val (fun v _ => v = .pointer (some (ad.add (i * 5)))) :: .val (fun v _ => v = .pointer (some ⟨(ad.add (i * 5)).block, (ad.add (i * 5)).off + 2, none⟩)) :: .val (fun v _ => v = .int .i64 ((a : Int) + 1)) :: .val (fun v _ => v = .int .i64 (a : Int)) :: .val (fun v _ => v = .pointer (some (ar.add a))) :: .val (fun v _ => v = .int .i64 x) :: .val (fun v _ => v = .slice (some ar) i c1) :: .val (fun v _ => v = .slice (some ad) n c) :: .val (fun v _ => v = .int .i64 (i : Int)) :: .val (fun v _ => v = .pointer (some (ad.add (i * 5)))) :: .val (fun v _ => v = .pointer (some ⟨(ad.add (i * 5)).block, (ad.add (i * 5)).off + 3, none⟩)) :: .val (fun v _ => v = .int .i64 ((b : Int) + 1)) :: .val (fun v _ => v = .int .i64 (b : Int)) :: .val (fun v _ => v = .pointer (some (ar.add b))) :: .val (fun v _ => v = .int .i64 y) :: .val (fun v _ => v = .tuple #[.int .i64 vv, .int .i64 k]) :: .val (fun v _ => v = .tuple #[.int .i64 vv, .int .i64 k]) :: .val (fun v _ => v = .int .i64 vv) :: .val (fun v _ => v = .int .i64 k) :: .val (fun v _ => v = .int .i64 vv) :: .val (fun v _ => v = .int .i64 k) :: [])
            ([] :: [] :: [] :: [(29, 1), (30, 2)] :: [(31, 3)] :: [(32, 4)] :: [(33, 5)] :: [(28, 0), (34, 6)] :: [(35, 7)] :: [] :: [] :: [] :: [(38, 10), (39, 11)] :: [(40, 12)] :: [(41, 13)] :: [(42, 14)] :: [(37, 9), (43, 15)] :: [(44, 16)] :: [(36, 8), (45, 17)] :: [(46, 18)] :: [(27, 19)] :: [(27, 19)] :: [(47, 20)] :: [(48, 21)] :: []) ((0, 0) :: (0, 0) :: (0, 0) :: (0, 0) :: (0, 0) :: (0, 0) :: (0, 0) :: (0, 0) :: (0, 0) :: (0, 0) :: (0, 0) :: (0, 0) :: (0, 0) :: (0, 0) :: (0, 0) :: (0, 0) :: (0, 0) :: (0, 0) :: (0, 0) :: (0, 0) :: (0, 0) :: (0, 0) :: (0, 0) :: (0, 0) :: []) 77 (by kernel_rfl) rfl rfl (by kernel_rfl) ⟨Stab.pure _ _ _, Stab.pure _ _ _, Stab.pure _ _ _, Stab.pure _ _ _, Stab.pure _ _ _, Stab.pure _ _ _, Stab.pure _ _ _, Stab.pure _ _ _, Stab.pure _ _ _, Stab.pure _ _ _, Stab.pure _ _ _, Stab.pure _ _ _, Stab.pure _ _ _, Stab.pure _ _ _, Stab.pure _ _ _, Stab.pure _ _ _, Stab.pure _ _ _, Stab.pure _ _ _, Stab.pure _ _ _, Stab.pure _ _ _, Stab.pure _ _ _, Stab.pure _ _ _, Stab.pure _ _ _, Stab.pure _ _ _, trivial⟩ ⟨?_, ?_, ?_, ?_, ?_, ?_, ?_, ?_, ?_, ?_, ?_, ?_, ?_, ?_, ?_, ?_, ?_, ?_, ?_, ?_, ?_, ?_, ?_, ?_, trivial⟩ ?_
          · intro wx hb
            intro K hK
            go_simp
            exact hK _ _ rfl ⟨rfl, Below.refl _ _⟩
          · intro wx hb
            intro K hK
            go_simp
            exact hK _ _ rfl ⟨rfl, Below.refl _ _⟩
          · intro wx hb
            intro K hK
            go_simp
            exact hK _ _ rfl ⟨rfl, Below.refl _ _⟩
          · intro wx hb
            rintro _ rfl
            rintro _ rfl
            intro K hK
            go_simp
            exact hK _ _ rfl ⟨rfl, Below.refl _ _⟩
          · intro wx hb
            rintro _ rfl
            intro K hK
            go_simp
            exact hK _ _ rfl ⟨rfl, Below.refl _ _⟩
          · intro wx hb
            rintro _ rfl
            intro K hK
            have zz := (hb.cell (p := ⟨(ad.add (i * 5)).block, (ad.add (i * 5)).off + 2, none⟩) (hadl2)).trans c2; go_simp; exact hK _ _ rfl ⟨rfl, Below.refl _ _⟩
          · intro wx hb
            rintro _ rfl
            intro K hK
            go_simp
            exact hK _ _ rfl ⟨rfl, Below.refl _ _⟩
          · intro wx hb
            rintro _ rfl
            rintro _ rfl
            intro K hK
            go_simp
            exact hK _ _ rfl ⟨rfl, Below.refl _ _⟩
          · intro wx hb
            rintro _ rfl
            intro K hK
            have zz := (hb.cell (p := ar.add a) (ha2 a)).trans cx; go_simp; exact hK _ _ rfl ⟨rfl, Below.refl _ _⟩
          · intro wx hb
            intro K hK
            go_simp
            exact hK _ _ rfl ⟨rfl, Below.refl _ _⟩
          · intro wx hb
            intro K hK
            go_simp
            exact hK _ _ rfl ⟨rfl, Below.refl _ _⟩
          · intro wx hb
            intro K hK
            go_simp
            exact hK _ _ rfl ⟨rfl, Below.refl _ _⟩
          · intro wx hb
            rintro _ rfl
            rintro _ rfl
            intro K hK
            go_simp
            exact hK _ _ rfl ⟨rfl, Below.refl _ _⟩
          · intro wx hb
            rintro _ rfl
            intro K hK
            go_simp
            exact hK _ _ rfl ⟨rfl, Below.refl _ _⟩
          · intro wx hb
            rintro _ rfl
            intro K hK
            have zz := (hb.cell (p := ⟨(ad.add (i * 5)).block, (ad.add (i * 5)).off + 3, none⟩) (hadl2)).trans c3; go_simp; exact hK _ _ rfl ⟨rfl, Below.refl _ _⟩
          · intro wx hb
            rintro _ rfl
            intro K hK
            go_simp
            exact hK _ _ rfl ⟨rfl, Below.refl _ _⟩
          · intro wx hb
            rintro _ rfl
            rintro _ rfl
            intro K hK
            go_simp
            exact hK _ _ rfl ⟨rfl, Below.refl _ _⟩
          · intro wx hb
            rintro _ rfl
            intro K hK
            have zz := (hb.cell (p := ar.add b) (ha2 b)).trans cy; go_simp; exact hK _ _ rfl ⟨rfl, Below.refl _ _⟩
          · intro wx hb
            rintro _ rfl
            rintro _ rfl
            intro K hK
            go_simp
            (with_reducible refine (HQ.out _).mono ?_)
            rintro e wa ⟨rfl, rfl⟩
            exact hK _ _ rfl ⟨rfl, Below.refl _ _⟩
          · intro wx hb
            rintro _ rfl
            intro K hK
            go_simp
            exact hK _ _ rfl ⟨rfl, Below.refl _ _⟩
          · intro wx hb
            rintro _ rfl
            intro K hK
            go_simp
            exact hK _ _ rfl ⟨rfl, Below.refl _ _⟩
          · intro wx hb
            rintro _ rfl
            intro K hK
            go_simp
            exact hK _ _ rfl ⟨rfl, Below.refl _ _⟩
          · intro wx hb
            rintro _ rfl
            intro K hK
            go_simp
            exact hK _ _ rfl ⟨rfl, Below.refl _ _⟩
          · intro wx hb
            rintro _ rfl
            intro K hK
            go_simp
            exact hK _ _ rfl ⟨rfl, Below.refl _ _⟩
          intro w3 B3
          have BW0 := bkeep BW0 B3
          rintro _ rfl
          rintro _ rfl
          rintro _ rfl
          rintro _ rfl
          rintro _ rfl
          rintro _ rfl
          rintro _ rfl
          rintro _ rfl
          rintro _ rfl
          rintro _ rfl
          rintro _ rfl
          rintro _ rfl
          rintro _ rfl
          rintro _ rfl
          rintro _ rfl
          rintro _ rfl
          rintro _ rfl
          rintro _ rfl
          rintro _ rfl
          rintro _ rfl
          rintro _ rfl
          rintro _ rfl
          rintro _ rfl
          rintro _ rfl
          rintro -
          simp only [Act.put, List.setIfInBounds_toArray, List.set_cons_zero, List.set_cons_succ, List.toList_toArray, List.length_cons, List.length_nil, List.drop_succ_cons, List.drop_zero, List.drop_nil, Nat.zero_add, wpList]
          have HO3 := Lib.hid (own_below HO.out B3)
          clear B3
          by_cases k0 : k = 0
          · subst k0
            have HG2 : Hid ((acc ++ [vv]).length = i + 1 ∧ lensFrom (acc ++ [vv]) (g.drop (i + 1)) = L) := Lib.hid ⟨by simp [HG.out.1], by
              have := lf_ok (acc := acc) HR.out (by rw [HE.out])
              rw [HE.out] at this
              exact this.symm.trans HG.out.2⟩
            have HAp := Lib.hid (own_alloc HO3.out (.cells #[.int .i64 vv] 3))
            go_wp2_with (refine wpList_app _ (by rfl) (.tmp 72) (.tmp 74) _ rfl w.heap.size 3 i0_ _ 1 8 Try.underlying23 HI.out HZ.out HZ1.out HZ2.out rfl (by omega) (.slice (some ar) i c1) i (vi acc) rfl HAp.out (some ⟨w3.heap.size, 0, none⟩) 1 1 (vi [vv]) rfl rfl ?row (vi_one _) (by simp only [maxLen]; omega) (by omega) ?size ?_)
            case row => exact RowAt.of_block (heap_alloc_new w3 _)
            case size => have := BW0.size; simp; omega
            intro A5 c5 w5 own5 gr5 at5
            have B5 := Lib.hid ((balloc BW0 _).grown gr5 (by have := BW0.size; simp; omega) (own_ge HO3.out))
            rw [← vi_app] at own5
            have HO5 := Lib.hid own5
            clear own5 gr5 at5
            go_wp2_with fail
            go_roundw
            case rel => exact ⟨i + 1, acc ++ [vv], A5, c5, by go_num, by omega, rfl, HG2, HO5, B5⟩
            case measure => simp [intOf]; omega
          · have HG2 : Hid (L = ([], k)) := Lib.hid (by
              have := lf_bad (acc := acc) HR.out (by rw [HE.out]; exact k0)
              rw [HE.out] at this
              exact HG.out.2.symm.trans this)
            have kn : (k != 0) = true := by rw [bne_iff_ne]; exact k0
            clear HG HE HR k0
            go_wp2_with fail
            go_ret2
            exact ⟨none, 0, by rw [HG2.out]; rfl, by rw [HG2.out]; exact RowAt.nil _ _, BW0⟩
        · obtain ⟨a, rfl⟩ : ∃ a : Nat, lf = (a : Int) + 1 := ⟨(lf - 1).toNat, by omega⟩
          have ai : a < i := by omega
          have an : (a : Int) < i := by omega
          have a0 : (0 : Int) ≤ a := by omega
          have ai2 : a < acc.length := by rw [HG.out.1]; exact ai
          obtain ⟨ar, rfl, harl, _⟩ := (own_row _ HO.out).get (vi_get ai2)
          obtain ⟨x, hx⟩ : ∃ x, x = acc.getD a 0 := ⟨_, rfl⟩
          have cx : wr.cell? (ar.add a) = some (.int .i64 x) := (row_cell (own_row _ HO.out) ai2).trans (by rw [hx])
          have ha2 : ∀ k, (ar.add k).block < wr.heap.size := fun k => by rw [block_add]; exact harl
          obtain ⟨⟨vv, k⟩, hk⟩ : ∃ q, lenMul x tm = q := ⟨_, rfl⟩
          have hc := fun w => refmul1_any x tm w
          rw [hk] at hc
          have HQ := Lib.hid hc
          have HE : Hid (len1 acc ⟨3, 0, (a : Int) + 1, 0, tm⟩ = (vv, k)) := Lib.hid (by
            have e := len1_power acc (r := ⟨3, 0, (a : Int) + 1, 0, tm⟩) rfl
            have ea : ((a : Int) + 1 - 1).toNat = a := by omega
            exact e.trans (by simp only [ea, ← hx]; exact hk))
          have HR := Lib.hid hr
          have BW0 := BW.out
          have wa : IntKind.i64.wrap (a : Int) = a := IntWalk.i64_in _ ⟨by omega, by omega⟩
          clear hr hx hk hc
          go_upto_region 13 with fail
          refine region_lin (.val (fun v _ => v = .slice (some ar) i c1) :: .val (fun v _ => v = .slice (some ad) n c) :: .val (fun v _ => v = .int .i64 (i : Int)) :: .val (fun v _ => v = .pointer (some (ad.add (i * 5)))) :: .val (fun v _ => v = .pointer (some ⟨(ad.add (i * 5)).block, (ad.add (i * 5)).off + 2, none⟩)) :: .val (fun v _ => v = .int .i64 ((a : Int) + 1)) :: .val (fun v _ => v = .int .i64 (a : Int)) :: .val (fun v _ => v = .pointer (some (ar.add a))) :: .val (fun v _ => v = .int .i64 x) :: .val (fun v _ => v = .slice (some ad) n c) :: .val (fun v _ => v = .int .i64 (i : Int)) :: .val (fun v _ => v = .pointer (some (ad.add (i * 5)))) :: .val (fun v _ => v = .pointer (some ⟨(ad.add (i * 5)).block, (ad.add (i * 5)).off + 4, none⟩)) :: .val (fun v _ => v = .int .i64 tm) :: .val (fun v _ => v = .tuple #[.int .i64 vv, .int .i64 k]) :: .val (fun v _ => v = .tuple #[.int .i64 vv, .int .i64 k]) :: .val (fun v _ => v = .int .i64 vv) :: .val (fun v _ => v = .int .i64 k) :: .val (fun v _ => v = .int .i64 vv) :: .val (fun v _ => v = .int .i64 k) :: [])
            ([] :: [] :: [] :: [(53, 1), (54, 2)] :: [(55, 3)] :: [(56, 4)] :: [(57, 5)] :: [(52, 0), (58, 6)] :: [(59, 7)] :: [] :: [] :: [(61, 9), (62, 10)] :: [(63, 11)] :: [(64, 12)] :: [(60, 8), (65, 13)] :: [(66, 14)] :: [(51, 15)] :: [(51, 15)] :: [(67, 16)] :: [(68, 17)] :: []) ((0, 0) :: (0, 0) :: (0, 0) :: (0, 0) :: (0, 0) :: (0, 0) :: (0, 0) :: (0, 0) :: (0, 0) :: (0, 0) :: (0, 0) :: (0, 0) :: (0, 0) :: (0, 0) :: (0, 0) :: (0, 0) :: (0, 0) :: (0, 0) :: (0, 0) :: (0, 0) :: []) 77 (by kernel_rfl) rfl rfl (by kernel_rfl) ⟨Stab.pure _ _ _, Stab.pure _ _ _, Stab.pure _ _ _, Stab.pure _ _ _, Stab.pure _ _ _, Stab.pure _ _ _, Stab.pure _ _ _, Stab.pure _ _ _, Stab.pure _ _ _, Stab.pure _ _ _, Stab.pure _ _ _, Stab.pure _ _ _, Stab.pure _ _ _, Stab.pure _ _ _, Stab.pure _ _ _, Stab.pure _ _ _, Stab.pure _ _ _, Stab.pure _ _ _, Stab.pure _ _ _, Stab.pure _ _ _, trivial⟩ ⟨?_, ?_, ?_, ?_, ?_, ?_, ?_, ?_, ?_, ?_, ?_, ?_, ?_, ?_, ?_, ?_, ?_, ?_, ?_, ?_, trivial⟩ ?_
          · intro wx hb
            intro K hK
            go_simp
            exact hK _ _ rfl ⟨rfl, Below.refl _ _⟩
          · intro wx hb
            intro K hK
            go_simp
            exact hK _ _ rfl ⟨rfl, Below.refl _ _⟩
          · intro wx hb
            intro K hK
            go_simp
            exact hK _ _ rfl ⟨rfl, Below.refl _ _⟩
          · intro wx hb
            rintro _ rfl
            rintro _ rfl
            intro K hK
            go_simp
            exact hK _ _ rfl ⟨rfl, Below.refl _ _⟩
          · intro wx hb
            rintro _ rfl
            intro K hK
            go_simp
            exact hK _ _ rfl ⟨rfl, Below.refl _ _⟩
          · intro wx hb
            rintro _ rfl
            intro K hK
            have zz := (hb.cell (p := ⟨(ad.add (i * 5)).block, (ad.add (i * 5)).off + 2, none⟩) (hadl2)).trans c2; go_simp; exact hK _ _ rfl ⟨rfl, Below.refl _ _⟩
          · intro wx hb
            rintro _ rfl
            intro K hK
            go_simp
            exact hK _ _ rfl ⟨rfl, Below.refl _ _⟩
          · intro wx hb
            rintro _ rfl
            rintro _ rfl
            intro K hK
            go_simp
            exact hK _ _ rfl ⟨rfl, Below.refl _ _⟩
          · intro wx hb
            rintro _ rfl
            intro K hK
            have zz := (hb.cell (p := ar.add a) (ha2 a)).trans cx; go_simp; exact hK _ _ rfl ⟨rfl, Below.refl _ _⟩
          · intro wx hb
            intro K hK
            go_simp
            exact hK _ _ rfl ⟨rfl, Below.refl _ _⟩
          · intro wx hb
            intro K hK
            go_simp
            exact hK _ _ rfl ⟨rfl, Below.refl _ _⟩
          · intro wx hb
            rintro _ rfl
            rintro _ rfl
            intro K hK
            go_simp
            exact hK _ _ rfl ⟨rfl, Below.refl _ _⟩
          · intro wx hb
            rintro _ rfl
            intro K hK
            go_simp
            exact hK _ _ rfl ⟨rfl, Below.refl _ _⟩
          · intro wx hb
            rintro _ rfl
            intro K hK
            have zz := (hb.cell (p := ⟨(ad.add (i * 5)).block, (ad.add (i * 5)).off + 4, none⟩) (hadl2)).trans c4; go_simp; exact hK _ _ rfl ⟨rfl, Below.refl _ _⟩
          · intro wx hb
            rintro _ rfl
            rintro _ rfl
            intro K hK
            go_simp
            (with_reducible refine (HQ.out _).mono ?_)
            rintro e wa ⟨rfl, rfl⟩
            exact hK _ _ rfl ⟨rfl, Below.refl _ _⟩
          · intro wx hb
            rintro _ rfl
            intro K hK
            go_simp
            exact hK _ _ rfl ⟨rfl, Below.refl _ _⟩
          · intro wx hb
            rintro _ rfl
            intro K hK
            go_simp
            exact hK _ _ rfl ⟨rfl, Below.refl _ _⟩
          · intro wx hb
            rintro _ rfl
            intro K hK
            go_simp
            exact hK _ _ rfl ⟨rfl, Below.refl _ _⟩
          · intro wx hb
            rintro _ rfl
            intro K hK
            go_simp
            exact hK _ _ rfl ⟨rfl, Below.refl _ _⟩
          · intro wx hb
            rintro _ rfl
            intro K hK
            go_simp
            exact hK _ _ rfl ⟨rfl, Below.refl _ _⟩
          intro w3 B3
          have BW0 := bkeep BW0 B3
          rintro _ rfl
          rintro _ rfl
          rintro _ rfl
          rintro _ rfl
          rintro _ rfl
          rintro _ rfl
          rintro _ rfl
          rintro _ rfl
          rintro _ rfl
          rintro _ rfl
          rintro _ rfl
          rintro _ rfl
          rintro _ rfl
          rintro _ rfl
          rintro _ rfl
          rintro _ rfl
          rintro _ rfl
          rintro _ rfl
          rintro _ rfl
          rintro _ rfl
          rintro -
          simp only [Act.put, List.setIfInBounds_toArray, List.set_cons_zero, List.set_cons_succ, List.toList_toArray, List.length_cons, List.length_nil, List.drop_succ_cons, List.drop_zero, List.drop_nil, Nat.zero_add, wpList]
          have HO3 := Lib.hid (own_below HO.out B3)
          clear B3
          by_cases k0 : k = 0
          · subst k0
            have HG2 : Hid ((acc ++ [vv]).length = i + 1 ∧ lensFrom (acc ++ [vv]) (g.drop (i + 1)) = L) := Lib.hid ⟨by simp [HG.out.1], by
              have := lf_ok (acc := acc) HR.out (by rw [HE.out])
              rw [HE.out] at this
              exact this.symm.trans HG.out.2⟩
            have HAp := Lib.hid (own_alloc HO3.out (.cells #[.int .i64 vv] 3))
            go_wp2_with (refine wpList_app _ (by rfl) (.tmp 72) (.tmp 74) _ rfl w.heap.size 3 i0_ _ 1 8 Try.underlying23 HI.out HZ.out HZ1.out HZ2.out rfl (by omega) (.slice (some ar) i c1) i (vi acc) rfl HAp.out (some ⟨w3.heap.size, 0, none⟩) 1 1 (vi [vv]) rfl rfl ?row (vi_one _) (by simp only [maxLen]; omega) (by omega) ?size ?_)
            case row => exact RowAt.of_block (heap_alloc_new w3 _)
            case size => have := BW0.size; simp; omega
            intro A5 c5 w5 own5 gr5 at5
            have B5 := Lib.hid ((balloc BW0 _).grown gr5 (by have := BW0.size; simp; omega) (own_ge HO3.out))
            rw [← vi_app] at own5
            have HO5 := Lib.hid own5
            clear own5 gr5 at5
            go_wp2_with fail
            go_roundw
            case rel => exact ⟨i + 1, acc ++ [vv], A5, c5, by go_num, by omega, rfl, HG2, HO5, B5⟩
            case measure => simp [intOf]; omega
          · have HG2 : Hid (L = ([], k)) := Lib.hid (by
              have := lf_bad (acc := acc) HR.out (by rw [HE.out]; exact k0)
              rw [HE.out] at this
              exact HG.out.2.symm.trans this)
            have kn : (k != 0) = true := by rw [bne_iff_ne]; exact k0
            clear HG HE HR k0
            go_wp2_with fail
            go_ret2
            exact ⟨none, 0, by rw [HG2.out]; rfl, by rw [HG2.out]; exact RowAt.nil _ _, BW0⟩
      · obtain rfl : i = n := by omega
        have HG2 : Hid (L = (acc, 0)) := Lib.hid (HG.out.2.symm.trans (lf_end (by rw [HL.out]; exact Nat.le_refl _)))
        go_wp2_with fail
        go_ret2
        exact ⟨A1, c1, by rw [HG2.out, HG.out.1]; rfl, by rw [HG2.out]; exact own_row _ HO.out, BW.out⟩
  · have hb := lens_bad h0
    generalize lens g = L at hb ⊢
    subst hb
    generalize gcode 0 g = k at HC h0
    have HA := Lib.hid ha; have HCC := Lib.hid HC
    have kn : (k != 0) = true := by rw [bne_iff_ne]; exact h0
    clear ha hl HC h0
    go_enter Try.func15, Try.ntmps15
    go_wp2_with fail
    (with_reducible refine (HCC.out _ HA.out).mono ?_)
    rintro e w1 ⟨rfl, B1⟩
    have BW1 := Lib.hid B1
    clear B1
    go_wp2_with fail
    go_ret2
    exact ⟨none, 0, rfl, RowAt.nil _ _, BW1.out⟩
end Go.Proofs.Ytcbahojefglakaa
