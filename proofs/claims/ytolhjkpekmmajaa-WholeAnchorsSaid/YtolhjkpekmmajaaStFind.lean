/- The walk of the store's find. -/
import Derived.Test.YtolhjkpekmmajaaStGet
import Derived.Test.YtolhjkpekmmajaaRegLin
namespace Go.Proofs.Ytolhjkpekmmajaa
set_option linter.unusedVariables false
set_option linter.unusedSimpArgs false
open Go.RowKit Go.Lib Go.Maps
attribute [local go_sem ↓] Go.wp_at_zero Go.wp_at_succ
theorem wp_first_look {o : Oper} {a : Act} {w : World} {K : Act → World → Prop} {Q : Exit → Act → World → Prop} (m x : Operand) (hop : o.op = Op.lookup 116 m x true) (b n : Nat) (out : List Rl) (hm : a.eval m = .map (some b)) (hF : FirstMap w b n out) (r : Rl) (hr : r.Ok) (hx : a.eval x = r.val)
    (p : Int) (q : Bool) (hp : ((pos out r : Nat) : Int) = p) (hq : decide (pos out r ≠ 0) = q) (hK : K (a.put o.dst (.tuple #[.int .i64 p, .bool q])) w) : o.wp Try.prog a w K Q := by
  obtain ⟨D, hown, hD⟩ := hF
  obtain ⟨l, hl⟩ := rule_key r hr
  obtain ⟨h1, h2⟩ := hD r hr l hl
  obtain ⟨v, ps, hrun, hv⟩ := hown.look_ok key_law Try.underlying116 (id_zero w) (plainElem_int Try.underlying56 (by decide) : plainElem Try.prog 56 (.int .i64 0) = some (.lit (.int .i64 0), [])) hl
  obtain ⟨c, rfl, hc, _⟩ := plainElem_int_inv Try.underlying56 hv
  have hc := congrArg Prod.fst hc
  simp only [h1] at hc
  have e : ((pos out r : Nat) : Int) = c := (Lit.int.inj (DataW.lit.inj hc)).2
  rw [h2, hq, ← e, hp] at hrun
  unfold Oper.wp
  simp [execOp, hop, hm, hx, hrun, Result.andThen]
  exact hK
set_option maxRecDepth 100000 in
set_option maxHeartbeats 4000000 in
theorem find_old (L : List En) (r : Rl) (hr : r.Ok) (p : Nat) (hp : pos (L.map En.r) r = p) (hp0 : p ≠ 0) (B S G : Nat) (w : World) (st : St w B S G L) :
    Calls Try.prog 75 #[.pointer (some ⟨S, 0, none⟩), r.val] w fun e w' => e = .returned (.tuple #[.int .i64 p, .nilIface]) ∧ Below w.heap.size w w' := by
  obtain ⟨⟨A, c, bo, ow⟩, fm, lt, ne⟩ := st
  have c2 : w.cell? ⟨S, 2, none⟩ = some (.map (some G)) := bo.cell 2
  have slt := bo.lt; have glt := fm.lt
  obtain ⟨kd, lt_, lf, rg, tm⟩ := r
  have HP := Lib.hid hp; have HP0 := Lib.hid hp0; have HR := Lib.hid hr
  have HX := Box.new w 147 #[.int .i64 kd, .int .u8 lt_, .int .i64 lf, .int .i64 rg, .int .i64 tm]
  have HF := Lib.hid (fm.alloc (.cells #[.int .i64 kd, .int .u8 lt_, .int .i64 lf, .int .i64 rg, .int .i64 tm] 147))
  have HC : (w.alloc (.cells #[.int .i64 kd, .int .u8 lt_, .int .i64 lf, .int .i64 rg, .int .i64 tm] 147)).cell? ⟨S, 2, none⟩ = some (.map (some G)) := (bo.alloc _).cell 2
  have BW := Lib.hid (balloc (Below.refl w.heap.size w) (.cells #[.int .i64 kd, .int .u8 lt_, .int .i64 lf, .int .i64 rg, .int .i64 tm] 147))
  clear hp hp0 hr bo ow fm lt ne
  go_enter Try.func75, Try.ntmps75
  go_upto_region 1 with fail
  obtain ⟨GR, hGR⟩ : ∃ GR, GR = w.heap.size := ⟨_, rfl⟩
  obtain ⟨w1, hw1⟩ : ∃ w1, w1 = w.alloc (.cells #[.int .i64 kd, .int .u8 lt_, .int .i64 lf, .int .i64 rg, .int .i64 tm] 147) := ⟨_, rfl⟩
  rw [← hw1, ← hGR] at HX
  rw [← hw1] at HF HC BW
  rw [← hw1, ← hGR]
  have s1 : S < w1.heap.size := by rw [hw1]; simp; omega
  have g1 : G < w1.heap.size := by rw [hw1]; simp; omega
  have r1 : GR < w1.heap.size := by rw [hw1, hGR]; simp
  clear hw1 c2 slt glt hGR
  go_upto_region 1 with fail
  refine region_lin (.val (fun v _ => v = .pointer (some ⟨S, 0, none⟩)) :: .val (fun v _ => v = .pointer (some ⟨S, 0, none⟩)) :: .val (fun v _ => v = .pointer (some ⟨S, 2, none⟩)) :: .val (fun v _ => v = .map (some G)) :: .val (fun v _ => v = .agg #[.int .i64 kd, .int .u8 lt_, .int .i64 lf, .int .i64 rg, .int .i64 tm]) :: .val (fun v _ => v = .tuple #[.int .i64 (p : Int), .bool true]) :: .val (fun v _ => v = .tuple #[.int .i64 (p : Int), .bool true]) :: .val (fun v _ => v = .int .i64 (p : Int)) :: .val (fun v _ => v = .bool true) :: .val (fun v _ => v = .int .i64 (p : Int)) :: .val (fun v _ => v = .bool true) :: [])
    ([] :: [(9, 0)] :: [(10, 1)] :: [(11, 2)] :: [] :: [(12, 3), (13, 4)] :: [(14, 5)] :: [(8, 6)] :: [(8, 6)] :: [(15, 7)] :: [(16, 8)] :: []) ((0, 0) :: (0, 0) :: (0, 0) :: (0, 0) :: (0, 0) :: (0, 0) :: (0, 0) :: (0, 0) :: (0, 0) :: (0, 0) :: (0, 0) :: []) 30 (by kernel_rfl) rfl rfl (by kernel_rfl) ⟨Stab.pure _ _ _, Stab.pure _ _ _, Stab.pure _ _ _, Stab.pure _ _ _, Stab.pure _ _ _, Stab.pure _ _ _, Stab.pure _ _ _, Stab.pure _ _ _, Stab.pure _ _ _, Stab.pure _ _ _, Stab.pure _ _ _, trivial⟩ ⟨?_, ?_, ?_, ?_, ?_, ?_, ?_, ?_, ?_, ?_, ?_, trivial⟩ ?_
  · intro wx hb
    intro K hK
    go_simp
    exact hK _ _ rfl ⟨rfl, Below.refl _ _⟩
  · intro wx hb
    rintro _ rfl
    intro K hK
    go_simp
    exact hK _ _ rfl ⟨rfl, Below.refl _ _⟩
  · intro wx hb
    rintro _ rfl
    intro K hK
    go_simp
    exact hK _ _ rfl ⟨rfl, Below.refl _ _⟩
  · intro wx hb
    rintro _ rfl
    intro K hK
    have q2 := (hb.cell (p := ⟨S, 2, none⟩) s1).trans HC; go_simp; exact hK _ _ rfl ⟨rfl, Below.refl _ _⟩
  · intro wx hb
    intro K hK
    exact wp_load_row 147 (.tmp 3) rfl GR rfl 147 _ (0, 0) _ (Box.below (HX) hb (Box.lt (HX))) Try.underlying147 rfl (by kernel_rfl) (hK _ _ rfl ⟨rfl, Below.refl _ _⟩)
  · intro wx hb
    rintro _ rfl
    rintro _ rfl
    intro K hK
    (refine wp_first_look (.tmp 12) (.tmp 13) rfl G L.length (L.map En.r) rfl (HF.out.below hb g1) ⟨kd, lt_, lf, rg, tm⟩ HR.out rfl (p : Int) true (by rw [HP.out]) (by rw [HP.out]; simp [HP0.out]) (hK _ _ rfl ⟨rfl, Below.refl _ _⟩))
  · intro wx hb
    rintro _ rfl
    intro K hK
    go_simp
    exact hK _ _ rfl ⟨rfl, Below.refl _ _⟩
  · intro wx hb
    rintro _ rfl
    intro K hK
    go_simp
    exact hK _ _ rfl ⟨rfl, Below.refl _ _⟩
  · intro wx hb
    rintro _ rfl
    intro K hK
    go_simp
    exact hK _ _ rfl ⟨rfl, Below.refl _ _⟩
  · intro wx hb
    rintro _ rfl
    intro K hK
    go_simp
    exact hK _ _ rfl ⟨rfl, Below.refl _ _⟩
  · intro wx hb
    rintro _ rfl
    intro K hK
    go_simp
    exact hK _ _ rfl ⟨rfl, Below.refl _ _⟩
  intro w2 B2
  rintro _ rfl
  rintro _ rfl
  rintro _ rfl
  rintro _ rfl
  rintro _ rfl
  rintro _ rfl
  rintro _ rfl
  rintro _ rfl
  rintro _ rfl
  rintro _ rfl
  rintro _ rfl
  rintro -
  simp only [Act.put, List.setIfInBounds_toArray, List.set_cons_zero, List.set_cons_succ, List.toList_toArray, List.length_cons, List.length_nil, List.drop_succ_cons, List.drop_zero, List.drop_nil, Nat.zero_add, wpList]
  have BW2 := Lib.hid (bkeep BW.out B2)
  clear B2
  go_wp2_with fail
  go_ret2
  exact ⟨rfl, BW2.out⟩
set_option maxRecDepth 100000 in
set_option maxHeartbeats 4000000 in
theorem find_new (L : List En) (r : Rl) (hr : r.Ok) (hp : pos (L.map En.r) r = 0) (n : Nat) (hn : n = L.length) (hn1 : n < 1048576) (B S G : Nat) (w : World) (st : St w B S G L) :
    Calls Try.prog 75 #[.pointer (some ⟨S, 0, none⟩), r.val] w fun e w' => e = .returned (.tuple #[.int .i64 0, .nilIface]) ∧ Below w.heap.size w w' := by
  obtain ⟨⟨A, c, bo, ow⟩, fm, lt, ne⟩ := st
  rw [← hn] at bo fm
  have c2 : w.cell? ⟨S, 2, none⟩ = some (.map (some G)) := bo.cell 2
  have slt := bo.lt; have glt := fm.lt
  obtain ⟨kd, lt_, lf, rg, tm⟩ := r
  have HP := Lib.hid hp; have HR := Lib.hid hr
  have HX := Box.new w 147 #[.int .i64 kd, .int .u8 lt_, .int .i64 lf, .int .i64 rg, .int .i64 tm]
  have HF := Lib.hid (fm.alloc (.cells #[.int .i64 kd, .int .u8 lt_, .int .i64 lf, .int .i64 rg, .int .i64 tm] 147))
  have HC : (w.alloc (.cells #[.int .i64 kd, .int .u8 lt_, .int .i64 lf, .int .i64 rg, .int .i64 tm] 147)).cell? ⟨S, 2, none⟩ = some (.map (some G)) := (bo.alloc _).cell 2
  have BW := Lib.hid (balloc (Below.refl w.heap.size w) (.cells #[.int .i64 kd, .int .u8 lt_, .int .i64 lf, .int .i64 rg, .int .i64 tm] 147))
  have HC1 : (w.alloc (.cells #[.int .i64 kd, .int .u8 lt_, .int .i64 lf, .int .i64 rg, .int .i64 tm] 147)).cell? ⟨S, 1, none⟩ = some (.slice A n c) := (bo.alloc _).cell 1
  have HC0 : (w.alloc (.cells #[.int .i64 kd, .int .u8 lt_, .int .i64 lf, .int .i64 rg, .int .i64 tm] 147)).cell? ⟨S, 0, none⟩ = some (.int .i64 1048576) := (bo.alloc _).cell 0
  have nlt : ¬ (1048576 : Int) ≤ (n : Int) := by omega
  clear hp hr bo ow fm lt ne hn
  go_enter Try.func75, Try.ntmps75
  go_upto_region 1 with fail
  obtain ⟨GR, hGR⟩ : ∃ GR, GR = w.heap.size := ⟨_, rfl⟩
  obtain ⟨w1, hw1⟩ : ∃ w1, w1 = w.alloc (.cells #[.int .i64 kd, .int .u8 lt_, .int .i64 lf, .int .i64 rg, .int .i64 tm] 147) := ⟨_, rfl⟩
  rw [← hw1, ← hGR] at HX
  rw [← hw1] at HF HC HC1 HC0 BW
  rw [← hw1, ← hGR]
  have s1 : S < w1.heap.size := by rw [hw1]; simp; omega
  have g1 : G < w1.heap.size := by rw [hw1]; simp; omega
  have r1 : GR < w1.heap.size := by rw [hw1, hGR]; simp
  clear hw1 c2 slt glt hGR
  go_upto_region 1 with fail
  refine region_lin (.val (fun v _ => v = .pointer (some ⟨S, 0, none⟩)) :: .val (fun v _ => v = .pointer (some ⟨S, 0, none⟩)) :: .val (fun v _ => v = .pointer (some ⟨S, 2, none⟩)) :: .val (fun v _ => v = .map (some G)) :: .val (fun v _ => v = .agg #[.int .i64 kd, .int .u8 lt_, .int .i64 lf, .int .i64 rg, .int .i64 tm]) :: .val (fun v _ => v = .tuple #[.int .i64 0, .bool false]) :: .val (fun v _ => v = .tuple #[.int .i64 0, .bool false]) :: .val (fun v _ => v = .int .i64 0) :: .val (fun v _ => v = .bool false) :: .val (fun v _ => v = .int .i64 0) :: .val (fun v _ => v = .bool false) :: [])
    ([] :: [(9, 0)] :: [(10, 1)] :: [(11, 2)] :: [] :: [(12, 3), (13, 4)] :: [(14, 5)] :: [(8, 6)] :: [(8, 6)] :: [(15, 7)] :: [(16, 8)] :: []) ((0, 0) :: (0, 0) :: (0, 0) :: (0, 0) :: (0, 0) :: (0, 0) :: (0, 0) :: (0, 0) :: (0, 0) :: (0, 0) :: (0, 0) :: []) 30 (by kernel_rfl) rfl rfl (by kernel_rfl) ⟨Stab.pure _ _ _, Stab.pure _ _ _, Stab.pure _ _ _, Stab.pure _ _ _, Stab.pure _ _ _, Stab.pure _ _ _, Stab.pure _ _ _, Stab.pure _ _ _, Stab.pure _ _ _, Stab.pure _ _ _, Stab.pure _ _ _, trivial⟩ ⟨?_, ?_, ?_, ?_, ?_, ?_, ?_, ?_, ?_, ?_, ?_, trivial⟩ ?_
  · intro wx hb
    intro K hK
    go_simp
    exact hK _ _ rfl ⟨rfl, Below.refl _ _⟩
  · intro wx hb
    rintro _ rfl
    intro K hK
    go_simp
    exact hK _ _ rfl ⟨rfl, Below.refl _ _⟩
  · intro wx hb
    rintro _ rfl
    intro K hK
    go_simp
    exact hK _ _ rfl ⟨rfl, Below.refl _ _⟩
  · intro wx hb
    rintro _ rfl
    intro K hK
    have q2 := (hb.cell (p := ⟨S, 2, none⟩) s1).trans HC; go_simp; exact hK _ _ rfl ⟨rfl, Below.refl _ _⟩
  · intro wx hb
    intro K hK
    exact wp_load_row 147 (.tmp 3) rfl GR rfl 147 _ (0, 0) _ (Box.below (HX) hb (Box.lt (HX))) Try.underlying147 rfl (by kernel_rfl) (hK _ _ rfl ⟨rfl, Below.refl _ _⟩)
  · intro wx hb
    rintro _ rfl
    rintro _ rfl
    intro K hK
    (refine wp_first_look (.tmp 12) (.tmp 13) rfl G n (L.map En.r) rfl (HF.out.below hb g1) ⟨kd, lt_, lf, rg, tm⟩ HR.out rfl 0 false (by rw [HP.out]; rfl) (by rw [HP.out]; rfl) (hK _ _ rfl ⟨rfl, Below.refl _ _⟩))
  · intro wx hb
    rintro _ rfl
    intro K hK
    go_simp
    exact hK _ _ rfl ⟨rfl, Below.refl _ _⟩
  · intro wx hb
    rintro _ rfl
    intro K hK
    go_simp
    exact hK _ _ rfl ⟨rfl, Below.refl _ _⟩
  · intro wx hb
    rintro _ rfl
    intro K hK
    go_simp
    exact hK _ _ rfl ⟨rfl, Below.refl _ _⟩
  · intro wx hb
    rintro _ rfl
    intro K hK
    go_simp
    exact hK _ _ rfl ⟨rfl, Below.refl _ _⟩
  · intro wx hb
    rintro _ rfl
    intro K hK
    go_simp
    exact hK _ _ rfl ⟨rfl, Below.refl _ _⟩
  intro w2 B2
  rintro _ rfl
  rintro _ rfl
  rintro _ rfl
  rintro _ rfl
  rintro _ rfl
  rintro _ rfl
  rintro _ rfl
  rintro _ rfl
  rintro _ rfl
  rintro _ rfl
  rintro _ rfl
  rintro -
  simp only [Act.put, List.setIfInBounds_toArray, List.set_cons_zero, List.set_cons_succ, List.toList_toArray, List.length_cons, List.length_nil, List.drop_succ_cons, List.drop_zero, List.drop_nil, Nat.zero_add, wpList]
  have BW2 := Lib.hid (bkeep BW.out B2)
  have HD1 : w2.cell? ⟨S, 1, none⟩ = some (.slice A n c) := (B2.cell (p := ⟨S, 1, none⟩) s1).trans HC1
  have HD0 : w2.cell? ⟨S, 0, none⟩ = some (.int .i64 1048576) := (B2.cell (p := ⟨S, 0, none⟩) s1).trans HC0
  have s2 : S < w2.heap.size := Nat.lt_of_lt_of_le s1 B2.size
  clear B2 HC HC1 HC0 HX HF
  go_upto_region 4 with fail
  refine region_lin (.val (fun v _ => v = .pointer (some ⟨S, 0, none⟩)) :: .val (fun v _ => v = .pointer (some ⟨S, 0, none⟩)) :: .val (fun v _ => v = .pointer (some ⟨S, 1, none⟩)) :: .val (fun v _ => v = .slice A n c) :: .val (fun v _ => v = .int .i64 (n : Int)) :: .val (fun v _ => v = .pointer (some ⟨S, 0, none⟩)) :: .val (fun v _ => v = .pointer (some ⟨S, 0, none⟩)) :: .val (fun v _ => v = .pointer (some ⟨S, 0, none⟩)) :: .val (fun v _ => v = .int .i64 1048576) :: .val (fun v _ => v = .bool false) :: [])
    ([] :: [(19, 0)] :: [(20, 1)] :: [(21, 2)] :: [(22, 3)] :: [] :: [(24, 5)] :: [(25, 6)] :: [(26, 7)] :: [(23, 4), (27, 8)] :: []) ((0, 0) :: (0, 0) :: (0, 0) :: (0, 0) :: (0, 0) :: (0, 0) :: (0, 0) :: (0, 0) :: (0, 0) :: (0, 0) :: []) 30 (by kernel_rfl) rfl rfl (by kernel_rfl) ⟨Stab.pure _ _ _, Stab.pure _ _ _, Stab.pure _ _ _, Stab.pure _ _ _, Stab.pure _ _ _, Stab.pure _ _ _, Stab.pure _ _ _, Stab.pure _ _ _, Stab.pure _ _ _, Stab.pure _ _ _, trivial⟩ ⟨?_, ?_, ?_, ?_, ?_, ?_, ?_, ?_, ?_, ?_, trivial⟩ ?_
  · intro wx hb
    intro K hK
    go_simp
    exact hK _ _ rfl ⟨rfl, Below.refl _ _⟩
  · intro wx hb
    rintro _ rfl
    intro K hK
    go_simp
    exact hK _ _ rfl ⟨rfl, Below.refl _ _⟩
  · intro wx hb
    rintro _ rfl
    intro K hK
    go_simp
    exact hK _ _ rfl ⟨rfl, Below.refl _ _⟩
  · intro wx hb
    rintro _ rfl
    intro K hK
    have q2 := (hb.cell (p := ⟨S, 1, none⟩) s2).trans HD1; go_simp; exact hK _ _ rfl ⟨rfl, Below.refl _ _⟩
  · intro wx hb
    rintro _ rfl
    intro K hK
    go_simp
    exact hK _ _ rfl ⟨rfl, Below.refl _ _⟩
  · intro wx hb
    intro K hK
    go_simp
    exact hK _ _ rfl ⟨rfl, Below.refl _ _⟩
  · intro wx hb
    rintro _ rfl
    intro K hK
    go_simp
    exact hK _ _ rfl ⟨rfl, Below.refl _ _⟩
  · intro wx hb
    rintro _ rfl
    intro K hK
    go_simp
    exact hK _ _ rfl ⟨rfl, Below.refl _ _⟩
  · intro wx hb
    rintro _ rfl
    intro K hK
    have q2 := (hb.cell (p := ⟨S, 0, none⟩) s2).trans HD0; go_simp; exact hK _ _ rfl ⟨rfl, Below.refl _ _⟩
  · intro wx hb
    rintro _ rfl
    rintro _ rfl
    intro K hK
    go_simp
    exact hK _ _ rfl ⟨rfl, Below.refl _ _⟩
  intro w3 B3
  rintro _ rfl
  rintro _ rfl
  rintro _ rfl
  rintro _ rfl
  rintro _ rfl
  rintro _ rfl
  rintro _ rfl
  rintro _ rfl
  rintro _ rfl
  rintro _ rfl
  rintro -
  simp only [Act.put, List.setIfInBounds_toArray, List.set_cons_zero, List.set_cons_succ, List.toList_toArray, List.length_cons, List.length_nil, List.drop_succ_cons, List.drop_zero, List.drop_nil, Nat.zero_add, wpList]
  have BW3 := Lib.hid (bkeep BW2.out B3)
  clear B3
  go_wp2_with fail
  go_ret2
  exact ⟨rfl, BW3.out⟩
end Go.Proofs.Ytolhjkpekmmajaa
