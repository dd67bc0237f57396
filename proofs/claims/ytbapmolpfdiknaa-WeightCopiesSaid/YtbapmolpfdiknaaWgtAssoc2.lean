/- The law WeightAssociates. -/
import Derived.Test.YtbapmolpfdiknaaWgtAssoc
namespace Go.Proofs.Ytbapmolpfdiknaa
set_option linter.unusedVariables false
set_option linter.unusedSimpArgs false
open Go.RowKit Go.Lib
theorem ok_of {x : Wt} (h : vW x = true) (hv : 0 ≤ x.v) : WOk x := by
  have f := fit_of h hv
  have a1 := f.n0; have a2 := f.n1; have a3 := f.l0; have a4 := f.l1; have a5 := f.h0; have a6 := f.h1; have a7 := f.t0; have a8 := f.t1; have a9 := f.v1; have b1 := f.s0; have b2 := f.s1
  constructor <;> first | omega | exact ⟨by omega, by omega⟩
theorem cw_ok (a b : Wt) (ea : vW a = true) (eb : vW b = true) (va : 0 ≤ a.v) (vb : 0 ≤ b.v) (h : a.n + b.n ≤ 1152921504606846976) : CW a b (jnW a b) .nilIface := fun w => by
  have := wjoin_any a b (ok_of ea va) (ok_of eb vb) w
  simpa [joinW, ea, eb, h, errv] using this
theorem cw_long (a b : Wt) (ea : vW a = true) (eb : vW b = true) (va : 0 ≤ a.v) (vb : 0 ≤ b.v) (h : ¬ a.n + b.n ≤ 1152921504606846976) : CW a b zW (.iface 52 (.int .i64 2)) := fun w => by
  have := wjoin_any a b (ok_of ea va) (ok_of eb vb) w
  simpa [joinW, ea, eb, h, errv] using this
theorem jn_v (a b : Wt) : 0 ≤ (jnW a b).v := red_lo _
theorem left_any (a b c : Wt) (ea : vW a = true) (eb : vW b = true) (ec : vW c = true) (va : 0 ≤ a.v) (vb : 0 ≤ b.v) (vc : 0 ≤ c.v) (w : World) :
    Calls Try.prog 22 #[.agg #[.int .i64 a.n, .int .i64 a.l, .int .i64 a.h, .int .i64 a.t, .int .u64 a.v, .int .u64 a.s, .int .i64 b.n, .int .i64 b.l, .int .i64 b.h, .int .i64 b.t, .int .u64 b.v, .int .u64 b.s, .int .i64 c.n, .int .i64 c.l, .int .i64 c.h, .int .i64 c.t, .int .u64 c.v, .int .u64 c.s]] w fun e w' => e = .returned (.agg #[.int .i64 (three3 a b c).1.n, .int .i64 (three3 a b c).1.l, .int .i64 (three3 a b c).1.h, .int .i64 (three3 a b c).1.t, .int .u64 (three3 a b c).1.v, .int .u64 (three3 a b c).1.s, .int .i64 (three3 a b c).2]) ∧ Below w.heap.size w w' := by
  obtain ⟨_, _, _, an0, _⟩ := fit_facts ea; obtain ⟨_, _, _, bn0, _⟩ := fit_facts eb; obtain ⟨_, _, _, cn0, _⟩ := fit_facts ec
  unfold three3
  by_cases h1 : a.n + b.n ≤ 1152921504606846976
  · have ej := jn_valid a b ea eb va vb h1
    by_cases h2 : a.n + b.n + c.n ≤ 1152921504606846976
    · rw [if_pos h2]
      exact left_ok a b c _ _ _ 0 w (Lib.hid (cw_ok a b ea eb va vb h1)) (Lib.hid (cw_ok _ c ej ec (jn_v a b) vc h2)) (Lib.hid num_nil)
    · rw [if_neg h2]
      exact left_ok a b c _ _ _ 2 w (Lib.hid (cw_ok a b ea eb va vb h1)) (Lib.hid (cw_long _ c ej ec (jn_v a b) vc h2)) (Lib.hid (num_err 2))
  · rw [if_neg (by omega)]
    exact left_bad a b c w (Lib.hid (cw_long a b ea eb va vb h1))
theorem right_any (a b c : Wt) (ea : vW a = true) (eb : vW b = true) (ec : vW c = true) (va : 0 ≤ a.v) (vb : 0 ≤ b.v) (vc : 0 ≤ c.v) (w : World) :
    Calls Try.prog 23 #[.agg #[.int .i64 a.n, .int .i64 a.l, .int .i64 a.h, .int .i64 a.t, .int .u64 a.v, .int .u64 a.s, .int .i64 b.n, .int .i64 b.l, .int .i64 b.h, .int .i64 b.t, .int .u64 b.v, .int .u64 b.s, .int .i64 c.n, .int .i64 c.l, .int .i64 c.h, .int .i64 c.t, .int .u64 c.v, .int .u64 c.s]] w fun e w' => e = .returned (.agg #[.int .i64 (three3 a b c).1.n, .int .i64 (three3 a b c).1.l, .int .i64 (three3 a b c).1.h, .int .i64 (three3 a b c).1.t, .int .u64 (three3 a b c).1.v, .int .u64 (three3 a b c).1.s, .int .i64 (three3 a b c).2]) ∧ Below w.heap.size w w' := by
  obtain ⟨_, la, _, an0, _⟩ := fit_facts ea; obtain ⟨hb, lb, _, bn0, _⟩ := fit_facts eb; obtain ⟨_, lc, _, cn0, _⟩ := fit_facts ec
  unfold three3
  rw [wjn_assoc a b c la lb lc hb]
  by_cases h1 : b.n + c.n ≤ 1152921504606846976
  · have ej := jn_valid b c eb ec vb vc h1
    have en : (jnW b c).n = b.n + c.n := rfl
    by_cases h2 : a.n + b.n + c.n ≤ 1152921504606846976
    · rw [if_pos h2]
      exact right_ok a b c _ _ _ 0 w (Lib.hid (cw_ok b c eb ec vb vc h1)) (Lib.hid (cw_ok a _ ea ej va (jn_v b c) (by omega))) (Lib.hid num_nil)
    · rw [if_neg h2]
      exact right_ok a b c _ _ _ 2 w (Lib.hid (cw_ok b c eb ec vb vc h1)) (Lib.hid (cw_long a _ ea ej va (jn_v b c) (by omega))) (Lib.hid (num_err 2))
  · rw [if_neg (by omega)]
    exact right_bad a b c w (Lib.hid (cw_long b c eb ec vb vc h1))
def sel (a b c : Wt) : Nat → Wt
  | 0 => a
  | 1 => b
  | _ => c
attribute [local go_sem ↓] Go.wp_at_zero Go.wp_at_succ
set_option maxHeartbeats 8000000 in
theorem law_wassoc (a b c : Wt) (ha : WOk a) (hb : WOk b) (hc : WOk c) (w : World) :
    Calls Try.prog 7 #[.agg #[.int .i64 a.n, .int .i64 a.l, .int .i64 a.h, .int .i64 a.t, .int .u64 a.v, .int .u64 a.s, .int .i64 b.n, .int .i64 b.l, .int .i64 b.h, .int .i64 b.t, .int .u64 b.v, .int .u64 b.s, .int .i64 c.n, .int .i64 c.l, .int .i64 c.h, .int .i64 c.t, .int .u64 c.v, .int .u64 c.s]] w fun e w' => e = .returned (.bool true) ∧ Below w.heap.size w w' := by
  have HS : Hid (∀ i, i < 3 → WOk (sel a b c i) ∧ ∀ w, (Instr.index 43 (.agg #[.int .i64 a.n, .int .i64 a.l, .int .i64 a.h, .int .i64 a.t, .int .u64 a.v, .int .u64 a.s, .int .i64 b.n, .int .i64 b.l, .int .i64 b.h, .int .i64 b.t, .int .u64 b.v, .int .u64 b.s, .int .i64 c.n, .int .i64 c.l, .int .i64 c.h, .int .i64 c.t, .int .u64 c.v, .int .u64 c.s]) (.int .i64 (i : Int))).run Try.prog w = .ok (.agg #[.int .i64 (sel a b c i).n, .int .i64 (sel a b c i).l, .int .i64 (sel a b c i).h, .int .i64 (sel a b c i).t, .int .u64 (sel a b c i).v, .int .u64 (sel a b c i).s]) w) := Lib.hid fun i hi => by
    match i, hi with
    | 0, _ => exact ⟨ha, fun _ => by kernel_rfl⟩
    | 1, _ => exact ⟨hb, fun _ => by kernel_rfl⟩
    | 2, _ => exact ⟨hc, fun _ => by kernel_rfl⟩
  have HL := Lib.hid fun (h : vW a = true ∧ vW b = true ∧ vW c = true) => left_any a b c h.1 h.2.1 h.2.2 ha.uv.lo hb.uv.lo hc.uv.lo
  have HR := Lib.hid fun (h : vW a = true ∧ vW b = true ∧ vW c = true) => right_any a b c h.1 h.2.1 h.2.2 ha.uv.lo hb.uv.lo hc.uv.lo
  obtain ⟨r, hr⟩ : ∃ r, r = three3 a b c := ⟨_, rfl⟩
  rw [← hr] at HL HR
  obtain ⟨r, k⟩ := r
  have HPL := Lib.hid (Box.new w 43 #[.int .i64 a.n, .int .i64 a.l, .int .i64 a.h, .int .i64 a.t, .int .u64 a.v, .int .u64 a.s, .int .i64 b.n, .int .i64 b.l, .int .i64 b.h, .int .i64 b.t, .int .u64 b.v, .int .u64 b.s, .int .i64 c.n, .int .i64 c.l, .int .i64 c.h, .int .i64 c.t, .int .u64 c.v, .int .u64 c.s])
  clear hr ha hb hc
  go_enter Try.func7, Try.ntmps7
  go_wp2_with fail
  (with_reducible refine (alive_any _).mono ?_)
  rintro e w1 ⟨rfl, B1⟩
  have HPL1 := Lib.hid (HPL.out.below B1 HPL.out.lt)
  have BW1 := Lib.hid (bkeep (balloc (Below.refl w.heap.size w) _) B1)
  clear B1
  go_upto_region 3 with fail
  refine region_lin0 (.val (fun v _ => v = .agg #[.int .i64 a.n, .int .i64 a.l, .int .i64 a.h, .int .i64 a.t, .int .u64 a.v, .int .u64 a.s, .int .i64 b.n, .int .i64 b.l, .int .i64 b.h, .int .i64 b.t, .int .u64 b.v, .int .u64 b.s, .int .i64 c.n, .int .i64 c.l, .int .i64 c.h, .int .i64 c.t, .int .u64 c.v, .int .u64 c.s]) :: .val (fun v _ => v = (Value.int IntKind.i64 0)) :: [])
    ([] :: [] :: []) ((0, 0) :: (0, 0) :: []) 52 (by kernel_rfl) rfl rfl (by kernel_rfl) ⟨Stab.pure _ _ _, Stab.pure _ _ _, trivial⟩ ⟨?_, ?_, trivial⟩ ?_
  · intro wx hb
    intro K hK
    exact wp_load_row 43 (.tmp 1) rfl w.heap.size rfl 43 _ (0, 0) _ (Box.below (HPL1.out) hb (Box.lt (HPL1.out))) Try.underlying43 rfl (by kernel_rfl) (hK _ _ rfl ⟨rfl, Below.refl _ _⟩)
  · intro wx hb
    intro K hK
    go_simp
    exact hK _ _ rfl ⟨rfl, Below.refl _ _⟩
  intro w2 B2
  rintro _ rfl
  rintro _ rfl
  rintro -
  simp only [Act.put, List.setIfInBounds_toArray, List.set_cons_zero, List.set_cons_succ, List.toList_toArray, List.length_cons, List.length_nil, List.drop_succ_cons, List.drop_zero, List.drop_nil, Nat.zero_add, wpList]
  have HPL2 := Lib.hid (HPL1.out.below B2 HPL1.out.lt)
  have BW2 := Lib.hid (bkeep BW1.out B2)
  clear B2
  go_wp2_with fail
  go_loopw [12] (fun si wr => ∃ i : Nat, si = .int .i64 (i : Int) ∧ i ≤ 3 ∧ Hid (∀ j, j < i → vW (sel a b c j) = true) ∧ Hid (Box wr w.heap.size 43 #[.int .i64 a.n, .int .i64 a.l, .int .i64 a.h, .int .i64 a.t, .int .u64 a.v, .int .u64 a.s, .int .i64 b.n, .int .i64 b.l, .int .i64 b.h, .int .i64 b.t, .int .u64 b.v, .int .u64 b.s, .int .i64 c.n, .int .i64 c.l, .int .i64 c.h, .int .i64 c.t, .int .u64 c.v, .int .u64 c.s]) ∧ Hid (Below w.heap.size w wr)) (fun si _ => 3 - (intOf si).toNat)
  case atStart => exact ⟨0, rfl, by omega, Lib.hid (fun j hj => by omega), HPL2, BW2⟩
  case round =>
    obtain ⟨i, rfl, hi, HV, HP, BW⟩ := hrel
    by_cases hlt : i < 3
    · obtain ⟨ok, hix⟩ := HS.out i hlt
      have hsel : ∀ j, j < i + 1 → (vW (sel a b c i) = true → vW (sel a b c j) = true) := fun j hj h => by
        rcases Nat.lt_or_ge j i with h1 | h1
        · exact HV.out j h1
        · rw [show j = i by omega]; exact h
      have HSel := Lib.hid hsel
      clear hsel
      generalize sel a b c i = x at *
      have HIX := Lib.hid hix
      have i0 : (0 : Int) ≤ i := by omega
      have i1 : (i : Int) < 3 := by omega
      clear hix
      cases eq : vW x with
      | false =>
        as_aux_lemma =>
          have HX := Lib.hid (wvalid_v x ok false eq)
          clear eq
          go_upto_region 5 with fail
          refine region_lin0 (.val (fun v _ => v = .agg #[.int .i64 x.n, .int .i64 x.l, .int .i64 x.h, .int .i64 x.t, .int .u64 x.v, .int .u64 x.s]) :: .new 26 #[.int .i64 0, .int .i64 0, .int .i64 0, .int .i64 0, .int .u64 0, .int .u64 0] #[.int .i64 x.n, .int .i64 x.l, .int .i64 x.h, .int .i64 x.t, .int .u64 x.v, .int .u64 x.s] 2 :: .put 26 #[.int .i64 0, .int .i64 0, .int .i64 0, .int .i64 0, .int .u64 0, .int .u64 0] #[.int .i64 x.n, .int .i64 x.l, .int .i64 x.h, .int .i64 x.t, .int .u64 x.v, .int .u64 x.s] 4 :: [])
            ([] :: [] :: [(14, 0)] :: []) ((0, 0) :: (1, 2) :: (2, 4) :: []) 52 (by kernel_rfl) rfl rfl (by kernel_rfl) ⟨Stab.pure _ _ _, ⟨rfl, rfl, rfl⟩, trivial⟩ ⟨?_, ?_, ?_, trivial⟩ ?_
          · intro wx hb
            intro K hK
            have ix := HIX.out
            go_simp
            exact hK _ _ rfl ⟨rfl, Below.refl _ _⟩
          · intro wx hb
            intro K hK
            go_simp
            exact hK _ _ rfl ⟨rfl, rfl⟩
          · intro wx hb
            intro g hg hbx
            rintro _ rfl
            intro K hK
            have c0 : wx.cell? ⟨g, 0, none⟩ = some (.int .i64 0) := hbx.cell 0
            have f0 := hbx.free 0
            have c1 : wx.cell? ⟨g, 1, none⟩ = some (.int .i64 0) := hbx.cell 1
            have f1 := hbx.free 1
            have c2 : wx.cell? ⟨g, 2, none⟩ = some (.int .i64 0) := hbx.cell 2
            have f2 := hbx.free 2
            have c3 : wx.cell? ⟨g, 3, none⟩ = some (.int .i64 0) := hbx.cell 3
            have f3 := hbx.free 3
            have c4 : wx.cell? ⟨g, 4, none⟩ = some (.int .u64 0) := hbx.cell 4
            have f4 := hbx.free 4
            have c5 : wx.cell? ⟨g, 5, none⟩ = some (.int .u64 0) := hbx.cell 5
            have f5 := hbx.free 5
            clear hb
            go_simp
            exact hK _ _ rfl ((((((((Stored.start hbx).set 0 _).set 1 _).set 2 _).set 3 _).set 4 _).set 5 _))
          intro w3 B3
          rintro _ rfl
          intro gx hgx Bx
          rintro -
          simp only [Act.put, List.setIfInBounds_toArray, List.set_cons_zero, List.set_cons_succ, List.toList_toArray, List.length_cons, List.length_nil, List.drop_succ_cons, List.drop_zero, List.drop_nil, Nat.zero_add, wpList]
          have BW3 := bkeep BW.out B3
          clear B3
          go_upto_region 6 with fail
          refine region_lin0 (.val (fun v _ => v = .agg #[.int .i64 x.n, .int .i64 x.l, .int .i64 x.h, .int .i64 x.t, .int .u64 x.v, .int .u64 x.s]) :: .val (fun v _ => v = .bool false) :: .val (fun v _ => v = .bool true) :: [])
            ([] :: [(15, 0)] :: [(16, 1)] :: []) ((0, 0) :: (0, 0) :: (0, 0) :: []) 52 (by kernel_rfl) rfl rfl (by kernel_rfl) ⟨Stab.pure _ _ _, Stab.pure _ _ _, Stab.pure _ _ _, trivial⟩ ⟨?_, ?_, ?_, trivial⟩ ?_
          · intro wx hb
            intro K hK
            exact wp_load_row 26 (.tmp 4) rfl gx rfl 26 _ (0, 0) _ (Box.below (Bx) hb (Box.lt (Bx))) Try.underlying26 rfl (by kernel_rfl) (hK _ _ rfl ⟨rfl, Below.refl _ _⟩)
          · intro wx hb
            rintro _ rfl
            intro K hK
            go_simp
            (with_reducible refine (HX.out _).mono ?_)
            rintro e wa ⟨rfl, Ba⟩
            exact hK _ _ rfl ⟨rfl, Ba⟩
          · intro wx hb
            rintro _ rfl
            intro K hK
            go_simp
            exact hK _ _ rfl ⟨rfl, Below.refl _ _⟩
          intro w4 B4
          have BW3 := bkeep BW3 B4
          rintro _ rfl
          rintro _ rfl
          rintro _ rfl
          rintro -
          simp only [Act.put, List.setIfInBounds_toArray, List.set_cons_zero, List.set_cons_succ, List.toList_toArray, List.length_cons, List.length_nil, List.drop_succ_cons, List.drop_zero, List.drop_nil, Nat.zero_add, wpList]
          go_wp2_with fail
          go_ret
          exact ⟨rfl, BW3⟩
      | true =>
        as_aux_lemma =>
          have HX := Lib.hid (wvalid_v x ok true eq)
          have f := fit_facts eq
          have fx := fit_of eq ok.uv.lo
          have jr := cw_ok x uW eq uW_valid ok.uv.lo (by decide) (show x.n + 0 ≤ _ by have := fx.n1; omega)
          rw [jn_u_r x eq ok.uv.lo] at jr
          have jr : ∀ w : World, Calls Try.prog 19 #[.agg #[.int .i64 x.n, .int .i64 x.l, .int .i64 x.h, .int .i64 x.t, .int .u64 x.v, .int .u64 x.s], .agg #[.int .i64 0, .int .i64 0, .int .i64 0, .int .i64 0, .int .u64 0, .int .u64 1]] w fun e w' => e = .returned (.tuple #[.agg #[.int .i64 x.n, .int .i64 x.l, .int .i64 x.h, .int .i64 x.t, .int .u64 x.v, .int .u64 x.s], .nilIface]) ∧ Below w.heap.size w w' := jr
          have jl := cw_ok uW x uW_valid eq (by decide) ok.uv.lo (show 0 + x.n ≤ _ by have := fx.n1; omega)
          rw [jn_u_l x eq ok.uv.lo] at jl
          have jl : ∀ w : World, Calls Try.prog 19 #[.agg #[.int .i64 0, .int .i64 0, .int .i64 0, .int .i64 0, .int .u64 0, .int .u64 1], .agg #[.int .i64 x.n, .int .i64 x.l, .int .i64 x.h, .int .i64 x.t, .int .u64 x.v, .int .u64 x.s]] w fun e w' => e = .returned (.tuple #[.agg #[.int .i64 x.n, .int .i64 x.l, .int .i64 x.h, .int .i64 x.t, .int .u64 x.v, .int .u64 x.s], .nilIface]) ∧ Below w.heap.size w w' := jl
          have HJR := Lib.hid jr; have HJL := Lib.hid jl
          have HV2 : Hid (∀ j, j < i + 1 → vW (sel a b c j) = true) := Lib.hid fun j hj => HSel.out j hj eq
          clear eq f fx jr jl
          go_upto_region 5 with fail
          refine region_lin0 (.val (fun v _ => v = .agg #[.int .i64 x.n, .int .i64 x.l, .int .i64 x.h, .int .i64 x.t, .int .u64 x.v, .int .u64 x.s]) :: .new 26 #[.int .i64 0, .int .i64 0, .int .i64 0, .int .i64 0, .int .u64 0, .int .u64 0] #[.int .i64 x.n, .int .i64 x.l, .int .i64 x.h, .int .i64 x.t, .int .u64 x.v, .int .u64 x.s] 2 :: .put 26 #[.int .i64 0, .int .i64 0, .int .i64 0, .int .i64 0, .int .u64 0, .int .u64 0] #[.int .i64 x.n, .int .i64 x.l, .int .i64 x.h, .int .i64 x.t, .int .u64 x.v, .int .u64 x.s] 4 :: [])
            ([] :: [] :: [(14, 0)] :: []) ((0, 0) :: (1, 2) :: (2, 4) :: []) 52 (by kernel_rfl) rfl rfl (by kernel_rfl) ⟨Stab.pure _ _ _, ⟨rfl, rfl, rfl⟩, trivial⟩ ⟨?_, ?_, ?_, trivial⟩ ?_
          · intro wx hb
            intro K hK
            have ix := HIX.out
            go_simp
            exact hK _ _ rfl ⟨rfl, Below.refl _ _⟩
          · intro wx hb
            intro K hK
            go_simp
            exact hK _ _ rfl ⟨rfl, rfl⟩
          · intro wx hb
            intro g hg hbx
            rintro _ rfl
            intro K hK
            have c0 : wx.cell? ⟨g, 0, none⟩ = some (.int .i64 0) := hbx.cell 0
            have f0 := hbx.free 0
            have c1 : wx.cell? ⟨g, 1, none⟩ = some (.int .i64 0) := hbx.cell 1
            have f1 := hbx.free 1
            have c2 : wx.cell? ⟨g, 2, none⟩ = some (.int .i64 0) := hbx.cell 2
            have f2 := hbx.free 2
            have c3 : wx.cell? ⟨g, 3, none⟩ = some (.int .i64 0) := hbx.cell 3
            have f3 := hbx.free 3
            have c4 : wx.cell? ⟨g, 4, none⟩ = some (.int .u64 0) := hbx.cell 4
            have f4 := hbx.free 4
            have c5 : wx.cell? ⟨g, 5, none⟩ = some (.int .u64 0) := hbx.cell 5
            have f5 := hbx.free 5
            clear hb
            go_simp
            exact hK _ _ rfl ((((((((Stored.start hbx).set 0 _).set 1 _).set 2 _).set 3 _).set 4 _).set 5 _))
          intro w3 B3
          rintro _ rfl
          intro gx hgx Bx
          rintro -
          simp only [Act.put, List.setIfInBounds_toArray, List.set_cons_zero, List.set_cons_succ, List.toList_toArray, List.length_cons, List.length_nil, List.drop_succ_cons, List.drop_zero, List.drop_nil, Nat.zero_add, wpList]
          have BW3 := bkeep BW.out B3
          have HP3 := HP.out.below B3 HP.out.lt
          clear B3
          go_upto_region 6 with fail
          refine region_lin0 (.val (fun v _ => v = .agg #[.int .i64 x.n, .int .i64 x.l, .int .i64 x.h, .int .i64 x.t, .int .u64 x.v, .int .u64 x.s]) :: .val (fun v _ => v = .bool true) :: .val (fun v _ => v = .bool false) :: [])
            ([] :: [(15, 0)] :: [(16, 1)] :: []) ((0, 0) :: (0, 0) :: (0, 0) :: []) 52 (by kernel_rfl) rfl rfl (by kernel_rfl) ⟨Stab.pure _ _ _, Stab.pure _ _ _, Stab.pure _ _ _, trivial⟩ ⟨?_, ?_, ?_, trivial⟩ ?_
          · intro wx hb
            intro K hK
            exact wp_load_row 26 (.tmp 4) rfl gx rfl 26 _ (0, 0) _ (Box.below (Bx) hb (Box.lt (Bx))) Try.underlying26 rfl (by kernel_rfl) (hK _ _ rfl ⟨rfl, Below.refl _ _⟩)
          · intro wx hb
            rintro _ rfl
            intro K hK
            go_simp
            (with_reducible refine (HX.out _).mono ?_)
            rintro e wa ⟨rfl, Ba⟩
            exact hK _ _ rfl ⟨rfl, Ba⟩
          · intro wx hb
            rintro _ rfl
            intro K hK
            go_simp
            exact hK _ _ rfl ⟨rfl, Below.refl _ _⟩
          intro w4 B4
          have Bx := Box.below Bx B4 (Box.lt Bx)
          have HP3 := Box.below HP3 B4 (Box.lt HP3)
          have BW3 := bkeep BW3 B4
          rintro _ rfl
          rintro _ rfl
          rintro _ rfl
          rintro -
          simp only [Act.put, List.setIfInBounds_toArray, List.set_cons_zero, List.set_cons_succ, List.toList_toArray, List.length_cons, List.length_nil, List.drop_succ_cons, List.drop_zero, List.drop_nil, Nat.zero_add, wpList]
          clear B4
          as_aux_lemma =>
            go_upto_region 8 with fail
            refine region_lin (.val (fun v _ => v = .agg #[.int .i64 x.n, .int .i64 x.l, .int .i64 x.h, .int .i64 x.t, .int .u64 x.v, .int .u64 x.s]) :: .val (fun v _ => v = .agg #[.int .i64 0, .int .i64 0, .int .i64 0, .int .i64 0, .int .u64 0, .int .u64 1]) :: .val (fun v _ => v = .tuple #[.agg #[.int .i64 x.n, .int .i64 x.l, .int .i64 x.h, .int .i64 x.t, .int .u64 x.v, .int .u64 x.s], .nilIface]) :: .val (fun v _ => v = .tuple #[.agg #[.int .i64 x.n, .int .i64 x.l, .int .i64 x.h, .int .i64 x.t, .int .u64 x.v, .int .u64 x.s], .nilIface]) :: .val (fun v _ => v = .agg #[.int .i64 x.n, .int .i64 x.l, .int .i64 x.h, .int .i64 x.t, .int .u64 x.v, .int .u64 x.s]) :: .val (fun v _ => v = .nilIface) :: .new 26 #[.int .i64 0, .int .i64 0, .int .i64 0, .int .i64 0, .int .u64 0, .int .u64 0] #[.int .i64 x.n, .int .i64 x.l, .int .i64 x.h, .int .i64 x.t, .int .u64 x.v, .int .u64 x.s] 7 :: .put 26 #[.int .i64 0, .int .i64 0, .int .i64 0, .int .i64 0, .int .u64 0, .int .u64 0] #[.int .i64 x.n, .int .i64 x.l, .int .i64 x.h, .int .i64 x.t, .int .u64 x.v, .int .u64 x.s] 5 :: .val (fun v _ => v = .nilIface) :: [])
              ([] :: [] :: [(19, 0), (20, 1)] :: [(21, 2)] :: [(18, 3)] :: [(18, 3)] :: [] :: [(22, 4)] :: [(23, 5)] :: []) ((0, 0) :: (0, 0) :: (0, 0) :: (0, 0) :: (0, 0) :: (0, 0) :: (1, 7) :: (2, 5) :: (0, 0) :: []) 52 (by kernel_rfl) rfl rfl (by kernel_rfl) ⟨Stab.pure _ _ _, Stab.pure _ _ _, Stab.pure _ _ _, Stab.pure _ _ _, Stab.pure _ _ _, Stab.pure _ _ _, ⟨rfl, rfl, rfl⟩, Stab.pure _ _ _, trivial⟩ ⟨?_, ?_, ?_, ?_, ?_, ?_, ?_, ?_, ?_, trivial⟩ ?_
            · intro wx hb
              intro K hK
              exact wp_load_row 26 (.tmp 4) rfl gx rfl 26 _ (0, 0) _ (Box.below (Bx) hb (Box.lt (Bx))) Try.underlying26 rfl (by kernel_rfl) (hK _ _ rfl ⟨rfl, Below.refl _ _⟩)
            · intro wx hb
              intro K hK
              go_simp
              (with_reducible refine (wunit_any _).mono ?_)
              rintro e wa ⟨rfl, Ba⟩
              exact hK _ _ rfl ⟨rfl, Ba⟩
            · intro wx hb
              rintro _ rfl
              rintro _ rfl
              intro K hK
              go_simp
              (with_reducible refine (HJR.out _).mono ?_)
              rintro e wa ⟨rfl, Ba⟩
              exact hK _ _ rfl ⟨rfl, Ba⟩
            · intro wx hb
              rintro _ rfl
              intro K hK
              go_simp
              exact hK _ _ rfl ⟨rfl, Below.refl _ _⟩
            · intro wx hb
              rintro _ rfl
              intro K hK
              go_simp
              exact hK _ _ rfl ⟨rfl, Below.refl _ _⟩
            · intro wx hb
              rintro _ rfl
              intro K hK
              go_simp
              exact hK _ _ rfl ⟨rfl, Below.refl _ _⟩
            · intro wx hb
              intro K hK
              go_simp
              exact hK _ _ rfl ⟨rfl, rfl⟩
            · intro wx hb
              intro g hg hbx
              rintro _ rfl
              intro K hK
              have c0 : wx.cell? ⟨g, 0, none⟩ = some (.int .i64 0) := hbx.cell 0
              have f0 := hbx.free 0
              have c1 : wx.cell? ⟨g, 1, none⟩ = some (.int .i64 0) := hbx.cell 1
              have f1 := hbx.free 1
              have c2 : wx.cell? ⟨g, 2, none⟩ = some (.int .i64 0) := hbx.cell 2
              have f2 := hbx.free 2
              have c3 : wx.cell? ⟨g, 3, none⟩ = some (.int .i64 0) := hbx.cell 3
              have f3 := hbx.free 3
              have c4 : wx.cell? ⟨g, 4, none⟩ = some (.int .u64 0) := hbx.cell 4
              have f4 := hbx.free 4
              have c5 : wx.cell? ⟨g, 5, none⟩ = some (.int .u64 0) := hbx.cell 5
              have f5 := hbx.free 5
              clear hb
              go_simp
              exact hK _ _ rfl ((((((((Stored.start hbx).set 0 _).set 1 _).set 2 _).set 3 _).set 4 _).set 5 _))
            · intro wx hb
              rintro _ rfl
              intro K hK
              go_simp
              exact hK _ _ rfl ⟨rfl, Below.refl _ _⟩
            intro w5 B5
            have Bx := Box.below Bx B5 (Box.lt Bx)
            have HP3 := Box.below HP3 B5 (Box.lt HP3)
            have BW3 := bkeep BW3 B5
            rintro _ rfl
            rintro _ rfl
            rintro _ rfl
            rintro _ rfl
            rintro _ rfl
            rintro _ rfl
            intro gy hgy By
            rintro _ rfl
            rintro -
            simp only [Act.put, List.setIfInBounds_toArray, List.set_cons_zero, List.set_cons_succ, List.toList_toArray, List.length_cons, List.length_nil, List.drop_succ_cons, List.drop_zero, List.drop_nil, Nat.zero_add, wpList]
            clear B5
            as_aux_lemma =>
              go_upto_region 9 with fail
              refine region_lin (.val (fun v _ => v = .agg #[.int .i64 0, .int .i64 0, .int .i64 0, .int .i64 0, .int .u64 0, .int .u64 1]) :: .val (fun v _ => v = .agg #[.int .i64 x.n, .int .i64 x.l, .int .i64 x.h, .int .i64 x.t, .int .u64 x.v, .int .u64 x.s]) :: .val (fun v _ => v = .tuple #[.agg #[.int .i64 x.n, .int .i64 x.l, .int .i64 x.h, .int .i64 x.t, .int .u64 x.v, .int .u64 x.s], .nilIface]) :: .val (fun v _ => v = .tuple #[.agg #[.int .i64 x.n, .int .i64 x.l, .int .i64 x.h, .int .i64 x.t, .int .u64 x.v, .int .u64 x.s], .nilIface]) :: .val (fun v _ => v = .agg #[.int .i64 x.n, .int .i64 x.l, .int .i64 x.h, .int .i64 x.t, .int .u64 x.v, .int .u64 x.s]) :: .val (fun v _ => v = .nilIface) :: .new 26 #[.int .i64 0, .int .i64 0, .int .i64 0, .int .i64 0, .int .u64 0, .int .u64 0] #[.int .i64 x.n, .int .i64 x.l, .int .i64 x.h, .int .i64 x.t, .int .u64 x.v, .int .u64 x.s] 7 :: .put 26 #[.int .i64 0, .int .i64 0, .int .i64 0, .int .i64 0, .int .u64 0, .int .u64 0] #[.int .i64 x.n, .int .i64 x.l, .int .i64 x.h, .int .i64 x.t, .int .u64 x.v, .int .u64 x.s] 7 :: .val (fun v _ => v = .nilIface) :: [])
                ([] :: [] :: [(25, 0), (26, 1)] :: [(27, 2)] :: [(24, 3)] :: [(24, 3)] :: [] :: [(28, 4)] :: [(29, 5)] :: []) ((0, 0) :: (0, 0) :: (0, 0) :: (0, 0) :: (0, 0) :: (0, 0) :: (1, 7) :: (2, 7) :: (0, 0) :: []) 52 (by kernel_rfl) rfl rfl (by kernel_rfl) ⟨Stab.pure _ _ _, Stab.pure _ _ _, Stab.pure _ _ _, Stab.pure _ _ _, Stab.pure _ _ _, Stab.pure _ _ _, ⟨rfl, rfl, rfl⟩, Stab.pure _ _ _, trivial⟩ ⟨?_, ?_, ?_, ?_, ?_, ?_, ?_, ?_, ?_, trivial⟩ ?_
              · intro wx hb
                intro K hK
                go_simp
                (with_reducible refine (wunit_any _).mono ?_)
                rintro e wa ⟨rfl, Ba⟩
                exact hK _ _ rfl ⟨rfl, Ba⟩
              · intro wx hb
                intro K hK
                exact wp_load_row 26 (.tmp 4) rfl gx rfl 26 _ (0, 0) _ (Box.below (Bx) hb (Box.lt (Bx))) Try.underlying26 rfl (by kernel_rfl) (hK _ _ rfl ⟨rfl, Below.refl _ _⟩)
              · intro wx hb
                rintro _ rfl
                rintro _ rfl
                intro K hK
                go_simp
                (with_reducible refine (HJL.out _).mono ?_)
                rintro e wa ⟨rfl, Ba⟩
                exact hK _ _ rfl ⟨rfl, Ba⟩
              · intro wx hb
                rintro _ rfl
                intro K hK
                go_simp
                exact hK _ _ rfl ⟨rfl, Below.refl _ _⟩
              · intro wx hb
                rintro _ rfl
                intro K hK
                go_simp
                exact hK _ _ rfl ⟨rfl, Below.refl _ _⟩
              · intro wx hb
                rintro _ rfl
                intro K hK
                go_simp
                exact hK _ _ rfl ⟨rfl, Below.refl _ _⟩
              · intro wx hb
                intro K hK
                go_simp
                exact hK _ _ rfl ⟨rfl, rfl⟩
              · intro wx hb
                intro g hg hbx
                rintro _ rfl
                intro K hK
                have c0 : wx.cell? ⟨g, 0, none⟩ = some (.int .i64 0) := hbx.cell 0
                have f0 := hbx.free 0
                have c1 : wx.cell? ⟨g, 1, none⟩ = some (.int .i64 0) := hbx.cell 1
                have f1 := hbx.free 1
                have c2 : wx.cell? ⟨g, 2, none⟩ = some (.int .i64 0) := hbx.cell 2
                have f2 := hbx.free 2
                have c3 : wx.cell? ⟨g, 3, none⟩ = some (.int .i64 0) := hbx.cell 3
                have f3 := hbx.free 3
                have c4 : wx.cell? ⟨g, 4, none⟩ = some (.int .u64 0) := hbx.cell 4
                have f4 := hbx.free 4
                have c5 : wx.cell? ⟨g, 5, none⟩ = some (.int .u64 0) := hbx.cell 5
                have f5 := hbx.free 5
                clear hb
                go_simp
                exact hK _ _ rfl ((((((((Stored.start hbx).set 0 _).set 1 _).set 2 _).set 3 _).set 4 _).set 5 _))
              · intro wx hb
                rintro _ rfl
                intro K hK
                go_simp
                exact hK _ _ rfl ⟨rfl, Below.refl _ _⟩
              intro w6 B6
              have Bx := Box.below Bx B6 (Box.lt Bx)
              have By := Box.below By B6 (Box.lt By)
              have HP3 := Box.below HP3 B6 (Box.lt HP3)
              have BW3 := bkeep BW3 B6
              rintro _ rfl
              rintro _ rfl
              rintro _ rfl
              rintro _ rfl
              rintro _ rfl
              rintro _ rfl
              intro gz hgz Bz
              rintro _ rfl
              rintro -
              simp only [Act.put, List.setIfInBounds_toArray, List.set_cons_zero, List.set_cons_succ, List.toList_toArray, List.length_cons, List.length_nil, List.drop_succ_cons, List.drop_zero, List.drop_nil, Nat.zero_add, wpList]
              clear B6
              as_aux_lemma =>
                go_upto_region 10 with fail
                refine region_lin0 (.val (fun v _ => v = .nilIface) :: .val (fun v _ => v = .bool false) :: .val (fun v _ => v = .bool false) :: .val (fun v _ => v = .nilIface) :: .val (fun v _ => v = .bool false) :: .val (fun v _ => v = .bool false) :: .val (fun v _ => v = .bool false) :: .val (fun v _ => v = .agg #[.int .i64 x.n, .int .i64 x.l, .int .i64 x.h, .int .i64 x.t, .int .u64 x.v, .int .u64 x.s]) :: .val (fun v _ => v = .agg #[.int .i64 x.n, .int .i64 x.l, .int .i64 x.h, .int .i64 x.t, .int .u64 x.v, .int .u64 x.s]) :: .val (fun v _ => v = .bool false) :: .val (fun v _ => v = .bool false) :: .val (fun v _ => v = .bool false) :: .val (fun v _ => v = .agg #[.int .i64 x.n, .int .i64 x.l, .int .i64 x.h, .int .i64 x.t, .int .u64 x.v, .int .u64 x.s]) :: .val (fun v _ => v = .agg #[.int .i64 x.n, .int .i64 x.l, .int .i64 x.h, .int .i64 x.t, .int .u64 x.v, .int .u64 x.s]) :: .val (fun v _ => v = .bool false) :: .val (fun v _ => v = .bool false) :: [])
                  ([] :: [(30, 0)] :: [(31, 1)] :: [(32, 2)] :: [(33, 3), (32, 2)] :: [(32, 2), (34, 4)] :: [(35, 5)] :: [(36, 6)] :: [(36, 6)] :: [(37, 7), (38, 8), (36, 6)] :: [(36, 6), (39, 9)] :: [(40, 10)] :: [(41, 11)] :: [(41, 11)] :: [(42, 12), (43, 13), (41, 11)] :: [(41, 11), (44, 14)] :: []) ((0, 0) :: (0, 0) :: (0, 0) :: (0, 0) :: (0, 0) :: (0, 0) :: (0, 0) :: (0, 0) :: (0, 0) :: (0, 0) :: (0, 0) :: (0, 0) :: (0, 0) :: (0, 0) :: (0, 0) :: (0, 0) :: []) 52 (by kernel_rfl) rfl rfl (by kernel_rfl) ⟨Stab.pure _ _ _, Stab.pure _ _ _, Stab.pure _ _ _, Stab.pure _ _ _, Stab.pure _ _ _, Stab.pure _ _ _, Stab.pure _ _ _, Stab.pure _ _ _, Stab.pure _ _ _, Stab.pure _ _ _, Stab.pure _ _ _, Stab.pure _ _ _, Stab.pure _ _ _, Stab.pure _ _ _, Stab.pure _ _ _, Stab.pure _ _ _, trivial⟩ ⟨?_, ?_, ?_, ?_, ?_, ?_, ?_, ?_, ?_, ?_, ?_, ?_, ?_, ?_, ?_, ?_, trivial⟩ ?_
                · intro wx hb
                  intro K hK
                  go_simp
                  exact hK _ _ rfl ⟨rfl, Below.refl _ _⟩
                · intro wx hb
                  rintro _ rfl
                  intro K hK
                  go_simp
                  exact hK _ _ rfl ⟨rfl, Below.refl _ _⟩
                · intro wx hb
                  rintro _ rfl
                  intro K hK
                  go_simp
                  exact hK _ _ rfl ⟨rfl, Below.refl _ _⟩
                · intro wx hb
                  rintro _ rfl
                  refine ⟨fun _ => ?_, fun h => absurd (show true = false from h) (by decide)⟩
                  intro K hK
                  go_simp
                  exact hK _ _ rfl ⟨rfl, Below.refl _ _⟩
                · intro wx hb
                  rintro _ rfl
                  rintro _ rfl
                  refine ⟨fun _ => ?_, fun h => absurd (show true = false from h) (by decide)⟩
                  intro K hK
                  go_simp
                  exact hK _ _ rfl ⟨rfl, Below.refl _ _⟩
                · intro wx hb
                  rintro _ rfl
                  rintro _ rfl
                  intro K hK
                  go_simp
                  exact hK _ _ rfl ⟨rfl, Below.refl _ _⟩
                · intro wx hb
                  rintro _ rfl
                  intro K hK
                  go_simp
                  exact hK _ _ rfl ⟨rfl, Below.refl _ _⟩
                · intro wx hb
                  rintro _ rfl
                  refine ⟨fun _ => ?_, fun h => absurd (show true = false from h) (by decide)⟩
                  intro K hK
                  exact wp_load_row 26 (.tmp 5) rfl gy rfl 26 _ (0, 0) _ (Box.below (By) hb (Box.lt (By))) Try.underlying26 rfl (by kernel_rfl) (hK _ _ rfl ⟨rfl, Below.refl _ _⟩)
                · intro wx hb
                  rintro _ rfl
                  refine ⟨fun _ => ?_, fun h => absurd (show true = false from h) (by decide)⟩
                  intro K hK
                  exact wp_load_row 26 (.tmp 4) rfl gx rfl 26 _ (0, 0) _ (Box.below (Bx) hb (Box.lt (Bx))) Try.underlying26 rfl (by kernel_rfl) (hK _ _ rfl ⟨rfl, Below.refl _ _⟩)
                · intro wx hb
                  rintro _ rfl
                  rintro _ rfl
                  rintro _ rfl
                  refine ⟨fun _ => ?_, fun h => absurd (show true = false from h) (by decide)⟩
                  intro K hK
                  go_simp
                  exact hK _ _ rfl ⟨rfl, Below.refl _ _⟩
                · intro wx hb
                  rintro _ rfl
                  rintro _ rfl
                  intro K hK
                  go_simp
                  exact hK _ _ rfl ⟨rfl, Below.refl _ _⟩
                · intro wx hb
                  rintro _ rfl
                  intro K hK
                  go_simp
                  exact hK _ _ rfl ⟨rfl, Below.refl _ _⟩
                · intro wx hb
                  rintro _ rfl
                  refine ⟨fun _ => ?_, fun h => absurd (show true = false from h) (by decide)⟩
                  intro K hK
                  exact wp_load_row 26 (.tmp 7) rfl gz rfl 26 _ (0, 0) _ (Box.below (Bz) hb (Box.lt (Bz))) Try.underlying26 rfl (by kernel_rfl) (hK _ _ rfl ⟨rfl, Below.refl _ _⟩)
                · intro wx hb
                  rintro _ rfl
                  refine ⟨fun _ => ?_, fun h => absurd (show true = false from h) (by decide)⟩
                  intro K hK
                  exact wp_load_row 26 (.tmp 4) rfl gx rfl 26 _ (0, 0) _ (Box.below (Bx) hb (Box.lt (Bx))) Try.underlying26 rfl (by kernel_rfl) (hK _ _ rfl ⟨rfl, Below.refl _ _⟩)
                · intro wx hb
                  rintro _ rfl
                  rintro _ rfl
                  rintro _ rfl
                  refine ⟨fun _ => ?_, fun h => absurd (show true = false from h) (by decide)⟩
                  intro K hK
                  go_simp
                  exact hK _ _ rfl ⟨rfl, Below.refl _ _⟩
                · intro wx hb
                  rintro _ rfl
                  rintro _ rfl
                  intro K hK
                  go_simp
                  exact hK _ _ rfl ⟨rfl, Below.refl _ _⟩
                intro w7 B7
                have HP3 := Box.below HP3 B7 (Box.lt HP3)
                have BW3 := bkeep BW3 B7
                rintro _ rfl
                rintro _ rfl
                rintro _ rfl
                rintro _ rfl
                rintro _ rfl
                rintro _ rfl
                rintro _ rfl
                rintro _ rfl
                rintro _ rfl
                rintro _ rfl
                rintro _ rfl
                rintro _ rfl
                rintro _ rfl
                rintro _ rfl
                rintro _ rfl
                rintro _ rfl
                rintro -
                simp only [Act.put, List.setIfInBounds_toArray, List.set_cons_zero, List.set_cons_succ, List.toList_toArray, List.length_cons, List.length_nil, List.drop_succ_cons, List.drop_zero, List.drop_nil, Nat.zero_add, wpList]
                have HP7 := Lib.hid HP3; have HB7 := Lib.hid BW3
                clear B7 Bx By Bz HP3 BW3
                go_wp2_with fail
                go_roundw
                case rel => exact ⟨i + 1, by go_num, by omega, HV2, HP7, HB7⟩
                case measure => simp [intOf]; omega
    · as_aux_lemma =>
        obtain rfl : i = 3 := by omega
        have hv : vW a = true ∧ vW b = true ∧ vW c = true := ⟨HV.out 0 (by omega), HV.out 1 (by omega), HV.out 2 (by omega)⟩
        have H1 := Lib.hid (HL.out hv); have H2 := Lib.hid (HR.out hv)
        have HP8 := HP.out
        clear hv HL HR
        go_upto_region 13 with fail
        refine region_lin (.val (fun v _ => v = .agg #[.int .i64 a.n, .int .i64 a.l, .int .i64 a.h, .int .i64 a.t, .int .u64 a.v, .int .u64 a.s, .int .i64 b.n, .int .i64 b.l, .int .i64 b.h, .int .i64 b.t, .int .u64 b.v, .int .u64 b.s, .int .i64 c.n, .int .i64 c.l, .int .i64 c.h, .int .i64 c.t, .int .u64 c.v, .int .u64 c.s]) :: .val (fun v _ => v = .agg #[.int .i64 r.n, .int .i64 r.l, .int .i64 r.h, .int .i64 r.t, .int .u64 r.v, .int .u64 r.s, .int .i64 k]) :: .val (fun v _ => v = .agg #[.int .i64 a.n, .int .i64 a.l, .int .i64 a.h, .int .i64 a.t, .int .u64 a.v, .int .u64 a.s, .int .i64 b.n, .int .i64 b.l, .int .i64 b.h, .int .i64 b.t, .int .u64 b.v, .int .u64 b.s, .int .i64 c.n, .int .i64 c.l, .int .i64 c.h, .int .i64 c.t, .int .u64 c.v, .int .u64 c.s]) :: .val (fun v _ => v = .agg #[.int .i64 r.n, .int .i64 r.l, .int .i64 r.h, .int .i64 r.t, .int .u64 r.v, .int .u64 r.s, .int .i64 k]) :: .val (fun v _ => v = .bool true) :: .val (fun v _ => v = .bool true) :: [])
          ([] :: [(47, 0)] :: [] :: [(49, 2)] :: [(48, 1), (50, 3)] :: [(51, 4)] :: []) ((0, 0) :: (0, 0) :: (0, 0) :: (0, 0) :: (0, 0) :: (0, 0) :: []) 52 (by kernel_rfl) rfl rfl (by kernel_rfl) ⟨Stab.pure _ _ _, Stab.pure _ _ _, Stab.pure _ _ _, Stab.pure _ _ _, Stab.pure _ _ _, Stab.pure _ _ _, trivial⟩ ⟨?_, ?_, ?_, ?_, ?_, ?_, trivial⟩ ?_
        · intro wx hb
          intro K hK
          exact wp_load_row 43 (.tmp 1) rfl w.heap.size rfl 43 _ (0, 0) _ (Box.below (HP8) hb (Box.lt (HP8))) Try.underlying43 rfl (by kernel_rfl) (hK _ _ rfl ⟨rfl, Below.refl _ _⟩)
        · intro wx hb
          rintro _ rfl
          intro K hK
          go_simp
          (with_reducible refine (H1.out _).mono ?_)
          rintro e wa ⟨rfl, Ba⟩
          exact hK _ _ rfl ⟨rfl, Ba⟩
        · intro wx hb
          intro K hK
          exact wp_load_row 43 (.tmp 1) rfl w.heap.size rfl 43 _ (0, 0) _ (Box.below (HP8) hb (Box.lt (HP8))) Try.underlying43 rfl (by kernel_rfl) (hK _ _ rfl ⟨rfl, Below.refl _ _⟩)
        · intro wx hb
          rintro _ rfl
          intro K hK
          go_simp
          (with_reducible refine (H2.out _).mono ?_)
          rintro e wa ⟨rfl, Ba⟩
          exact hK _ _ rfl ⟨rfl, Ba⟩
        · intro wx hb
          rintro _ rfl
          rintro _ rfl
          intro K hK
          go_simp
          exact hK _ _ rfl ⟨rfl, Below.refl _ _⟩
        · intro wx hb
          rintro _ rfl
          intro K hK
          go_simp
          exact hK _ _ rfl ⟨rfl, Below.refl _ _⟩
        intro w8 B8
        rintro _ rfl
        rintro _ rfl
        rintro _ rfl
        rintro _ rfl
        rintro _ rfl
        rintro _ rfl
        rintro -
        simp only [Act.put, List.setIfInBounds_toArray, List.set_cons_zero, List.set_cons_succ, List.toList_toArray, List.length_cons, List.length_nil, List.drop_succ_cons, List.drop_zero, List.drop_nil, Nat.zero_add, wpList]
        go_wp2_with fail
        go_ret
        exact ⟨rfl, bkeep BW.out B8⟩
end Go.Proofs.Ytbapmolpfdiknaa
