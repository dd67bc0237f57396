/- The law RuleOnly. -/
import Derived.Test.YtpeapjnfncfjiaaRuleBack
import Derived.Test.YtpeapjnfncfjiaaRegLin
namespace Go.Proofs.Ytpeapjnfncfjiaa
set_option linter.unusedVariables false
set_option linter.unusedSimpArgs false
open Go.RowKit Go.Lib
attribute [local go_sem ↓] Go.wp_at_zero Go.wp_at_succ
theorem two_pre {l : List Int} (hb : U8s l) {x y q : Nat} (h : twoOf l = some (x, y, q)) :
    l.take q = l.take 1 ++ vput x ++ vput y ∧ ∀ j, j < q → twoOf (l.take j) = none := by
  obtain ⟨k, k2, h1, h2, rfl⟩ := two_some h
  obtain ⟨a1, a2, a3, _, _, _, a7⟩ := vt_only 9 true _ _ _ (hb.drop 1) h1
  obtain ⟨b1, b2, b3, _, _, _, b7⟩ := vt_only 9 true _ _ _ (hb.drop (1 + k)) h2
  refine ⟨?_, fun j hj => ?_⟩
  · rw [← a1, ← b1, List.append_assoc, show 1 + k + k2 = 1 + (k + k2) by omega, List.take_add, List.take_add, List.drop_drop]
  · have e1 : (l.take j).drop 1 = (l.drop 1).take (j - 1) := by rw [List.drop_take]
    unfold twoOf
    rw [e1]
    by_cases hk : j - 1 < k
    · rw [a7 _ hk]; rfl
    · rw [vt_ext (hb.drop 1) h1 (by omega)]
      simp only [Option.bind_some]
      have e2 : (l.take j).drop (1 + k) = (l.drop (1 + k)).take (j - (1 + k)) := by rw [List.drop_take]
      rw [e2, b7 _ (by omega)]; rfl
theorem take_hd {l : List Int} {k : Int} (h : l[0]? = some k) {j : Nat} (hj : 0 < j) : (l.take j)[0]? = some k := by rw [List.getElem?_take_of_lt hj]; exact h
theorem take_one {l : List Int} {k : Int} (h : l[0]? = some k) : l.take 1 = [k] := by
  match l, h with
  | a :: m, h => simp at h; simp [h]
/-- what a reading without an error says -/
structure Only (l : List Int) (n : Int) (r : Rl) (q : Nat) : Prop where
  q2 : 2 ≤ q
  ql : q ≤ l.length
  ok : checkCode r.kd r.lt r.lf r.rg r.tm n = 0
  enc : encR r.kd r.lt r.lf r.rg r.tm n = l.take q
  pre : ∀ j, j < q → tkR (l.take j) n = rzero 4
  tm1 : r.tm ≤ 9223372036854775807
theorem tk_only (l : List Int) (n : Int) (hb : U8s l) (R : Rl × Int × Int) (h : TkWay l n R) (h0 : R.2.2 = 0) : ∃ q : Nat, R.2.1 = q ∧ Only l n R.1 q := by
  have fin : ∀ r u, (tfin r u n).2.2 = 0 → rangedB (refsOf r.kd r.lf r.rg) n = true ∧ tfin r u n = (r, u, 0) := by
    intro r u h
    cases hr : rangedB (refsOf r.kd r.lf r.rg) n with
    | false => rw [tfin_no hr] at h; cases h
    | true => exact ⟨rfl, tfin_yes hr⟩
  cases h with
  | empty h => cases h0
  | kind k h h1 h2 h3 => cases h0
  | short h => cases h0
  | none2 h h2 => cases h0
  | none3 h h2 => cases h0
  | big x y e h h2 h3 => cases h0
  | letter b h h2 =>
    obtain ⟨hr, e⟩ := fin _ _ h0
    rw [e]
    have hl := (List.getElem?_eq_some_iff.1 h2).1
    refine ⟨2, rfl, ⟨Nat.le_refl _, by omega, check_of (by simp [formedB]) hr, ?_, fun j hj => ?_, by simp⟩⟩
    · match l, h, h2 with
      | a :: c :: m, h, h2 => simp at h h2; subst h h2; rfl
    · match l, h, h2 with
      | a :: c :: m, h, h2 =>
        have : j = 0 ∨ j = 1 := by omega
        simp at h h2; subst h h2
        rcases this with rfl | rfl <;> rfl
  | pair x y q h h2 =>
    by_cases hn : n < 1
    · rw [if_pos hn] at h0; cases h0
    · rw [if_neg hn] at h0 ⊢
      obtain ⟨hr, e⟩ := fin _ _ h0
      rw [e]
      obtain ⟨b1, b2, b3, b4⟩ := two_bd hb h2
      obtain ⟨p1, p2⟩ := two_pre hb h2
      refine ⟨q, rfl, ⟨by omega, b4, check_of (by simp [formedB]) hr, ?_, fun j hj => ?_, by simp⟩⟩
      · show ([2] ++ vput (n - (n - (x : Int))).toNat) ++ vput (n - (n - (y : Int))).toNat = _
        rw [p1, take_one h, show (n - (n - (x : Int))).toNat = x by omega, show (n - (n - (y : Int))).toNat = y by omega]
      · rcases Nat.eq_zero_or_pos j with rfl | hj0
        · rfl
        · exact tkR_none (.inl (take_hd h hj0)) (p2 j hj)
  | power x y q h h2 h3 =>
    by_cases hn : n < 1
    · rw [if_pos hn] at h0; cases h0
    · rw [if_neg hn] at h0 ⊢
      obtain ⟨hr, e⟩ := fin _ _ h0
      rw [e]
      obtain ⟨b1, b2, b3, b4⟩ := two_bd hb h2
      obtain ⟨p1, p2⟩ := two_pre hb h2
      refine ⟨q, rfl, ⟨by omega, b4, check_of (by simp [formedB]; omega) hr, ?_, fun j hj => ?_, ?_⟩⟩
      · show ([3] ++ vput (n - (n - (x : Int))).toNat) ++ vput ((y : Int) + 2 - 2).toNat = _
        rw [p1, take_one h, show (n - (n - (x : Int))).toNat = x by omega, show ((y : Int) + 2 - 2).toNat = y by omega]
      · rcases Nat.eq_zero_or_pos j with rfl | hj0
        · rfl
        · exact tkR_none (.inr (take_hd h hj0)) (p2 j hj)
      · show (y : Int) + 2 ≤ _; omega
set_option maxRecDepth 100000 in
set_option maxHeartbeats 2000000 in
theorem only_bad (l : List Int) (n c : Nat) (A : Option Addr) (N u k : Int) (r : Rl) (hk : k ≠ 0)
    (HT : Hid (∀ w, RowAt w A (vb l) → Calls Try.prog 27 #[.slice A n c, .int .i64 N] w fun e w' => e = .returned (.tuple #[r.val, .int .i64 u, .iface 40 (.int .i64 k)]) ∧ Below w.heap.size w w')) (w : World) (ha : RowAt w A (vb l)) :
    Calls Try.prog 11 #[.slice A n c, .int .i64 N] w fun e w' => e = .returned (.bool true) ∧ Below w.heap.size w w' := by
  obtain ⟨kd, lt, lf, rg, tm⟩ := r
  have HA := Lib.hid ha
  clear ha hk
  go_enter Try.func11, Try.ntmps11
  go_wp2_with fail
  (with_reducible refine (alive_any _).mono ?_)
  rintro e w1 ⟨rfl, B1⟩
  have HA1 := Lib.hid (HA.out.below B1 (Nat.le_refl _))
  have BW := Lib.hid B1
  clear B1
  go_wp2_with fail
  (with_reducible refine (HT.out _ HA1.out).mono ?_)
  rintro e w2 ⟨rfl, B2⟩
  have BW2 := Lib.hid (bkeep BW.out B2)
  clear B2
  go_wp2_with fail
  go_ret
  exact ⟨rfl, BW2.out.alloc BW2.out.size _⟩
set_option maxRecDepth 100000 in
set_option maxHeartbeats 4000000 in
theorem only_ok (l : List Int) (n c q : Nat) (A : Option Addr) (N kd lt lf rg tm : Int) (hl : l.length = n) (hn : n ≤ 140737488355328) (hc : n ≤ c) (q2 : 2 ≤ q) (qn : q ≤ n)
    (HT : Hid (∀ w, RowAt w A (vb l) → Calls Try.prog 27 #[.slice A n c, .int .i64 N] w fun e w' => e = .returned (.tuple #[.agg #[.int .i64 kd, .int .u8 lt, .int .i64 lf, .int .i64 rg, .int .i64 tm], .int .i64 (q : Int), .nilIface]) ∧ Below w.heap.size w w'))
    (HC : Hid (∀ w, Calls Try.prog 18 #[.agg #[.int .i64 kd, .int .u8 lt, .int .i64 lf, .int .i64 rg, .int .i64 tm], .int .i64 N] w fun e w' => e = .returned .nilIface ∧ Below w.heap.size w w'))
    (HP : Hid (∀ w, Calls Try.prog 23 #[.agg #[.int .i64 kd, .int .u8 lt, .int .i64 lf, .int .i64 rg, .int .i64 tm], .int .i64 N] w (PutOut (l.take q) .nilIface w)))
    (HK : Hid (∀ (j : Nat) w, j < q → RowAt w A (vb (l.take j)) → Calls Try.prog 27 #[.slice A j c, .int .i64 N] w fun e w' => e = .returned (.tuple #[.agg #[.int .i64 0, .int .u8 0, .int .i64 0, .int .i64 0, .int .i64 0], .int .i64 0, .iface 40 (.int .i64 4)]) ∧ Below w.heap.size w w')) (w : World) (ha : RowAt w A (vb l)) :
    Calls Try.prog 11 #[.slice A n c, .int .i64 N] w fun e w' => e = .returned (.bool true) ∧ Below w.heap.size w w' := by
  have HA := Lib.hid ha; have HL := Lib.hid hl
  have q2' : ¬ (q : Int) < 2 := by omega
  have q2d : decide ((q : Int) < 2) = false := decide_eq_false q2'
  have qnd : decide (n < q) = false := decide_eq_false (by omega)
  have qn' : ¬ (n : Int) < (q : Int) := by omega
  have qc : (q : Int) ≤ c := by omega
  have q0 : (0 : Int) ≤ q := by omega
  clear ha hl
  go_enter Try.func11, Try.ntmps11
  go_wp2_with fail
  (with_reducible refine (alive_any _).mono ?_)
  rintro e w1 ⟨rfl, B1⟩
  have HA1 := Lib.hid (HA.out.below B1 (Nat.le_refl _))
  have BW := B1
  clear B1
  go_upto_region 3 with fail
  refine region_lin0 (.val (fun v _ => v = .slice A n c) :: .val (fun v _ => v = .int .i64 N) :: .val (fun v _ => v = .tuple #[.agg #[.int .i64 kd, .int .u8 lt, .int .i64 lf, .int .i64 rg, .int .i64 tm], .int .i64 (q : Int), .nilIface]) :: .val (fun v _ => v = .tuple #[.agg #[.int .i64 kd, .int .u8 lt, .int .i64 lf, .int .i64 rg, .int .i64 tm], .int .i64 (q : Int), .nilIface]) :: .val (fun v _ => v = .agg #[.int .i64 kd, .int .u8 lt, .int .i64 lf, .int .i64 rg, .int .i64 tm]) :: .val (fun v _ => v = .int .i64 (q : Int)) :: .val (fun v _ => v = .nilIface) :: .new 24 #[.int .i64 0, .int .u8 0, .int .i64 0, .int .i64 0, .int .i64 0] #[.int .i64 kd, .int .u8 lt, .int .i64 lf, .int .i64 rg, .int .i64 tm] 8 :: .put 24 #[.int .i64 0, .int .u8 0, .int .i64 0, .int .i64 0, .int .i64 0] #[.int .i64 kd, .int .u8 lt, .int .i64 lf, .int .i64 rg, .int .i64 tm] 5 :: .val (fun v _ => v = .int .i64 (q : Int)) :: .val (fun v _ => v = .nilIface) :: [])
    ([] :: [] :: [(16, 0), (17, 1)] :: [(18, 2)] :: [(15, 3)] :: [(15, 3)] :: [(15, 3)] :: [] :: [(19, 4)] :: [(20, 5)] :: [(21, 6)] :: []) ((0, 0) :: (0, 0) :: (0, 0) :: (0, 0) :: (0, 0) :: (0, 0) :: (0, 0) :: (1, 8) :: (2, 5) :: (0, 0) :: (0, 0) :: []) 70 (by kernel_rfl) rfl rfl (by kernel_rfl) ⟨Stab.pure _ _ _, Stab.pure _ _ _, Stab.pure _ _ _, Stab.pure _ _ _, Stab.pure _ _ _, Stab.pure _ _ _, Stab.pure _ _ _, ⟨rfl, rfl, rfl⟩, Stab.pure _ _ _, Stab.pure _ _ _, trivial⟩ ⟨?_, ?_, ?_, ?_, ?_, ?_, ?_, ?_, ?_, ?_, ?_, trivial⟩ ?_
  · intro wx hb
    intro K hK
    go_simp
    exact hK _ _ rfl ⟨rfl, Below.refl _ _⟩
  · intro wx hb
    intro K hK
    go_simp
    exact hK _ _ rfl ⟨rfl, Below.refl _ _⟩
  · intro wx hb
    rintro _ rfl
    rintro _ rfl
    intro K hK
    have ra := HA1.out.below hb (Nat.le_refl _)
    go_simp
    (with_reducible refine (HT.out _ ra).mono ?_)
    rintro e wa ⟨rfl, Ba⟩
    exact hK _ _ rfl ⟨rfl, Ba⟩
  · intro wx hb
    rintro _ rfl
    intro K hK
    go_simp
    exact hK _ _ rfl ⟨rfl, Below.refl _ _⟩
  · intro wx hb
    rintro _ rfl
    intro K hK
    go_simp
    exact hK _ _ rfl ⟨rfl, Below.refl _ _⟩
  · intro wx hb
    rintro _ rfl
    intro K hK
    go_simp
    exact hK _ _ rfl ⟨rfl, Below.refl _ _⟩
  · intro wx hb
    rintro _ rfl
    intro K hK
    go_simp
    exact hK _ _ rfl ⟨rfl, Below.refl _ _⟩
  · intro wx hb
    intro K hK
    go_simp
    exact hK _ _ rfl ⟨rfl, rfl⟩
  · intro wx hb
    intro g hg hbx
    rintro _ rfl
    intro K hK
    have c0 : wx.cell? ⟨g, 0, none⟩ = some (.int .i64 0) := hbx.cell 0
    have f0 := hbx.free 0
    have c1 : wx.cell? ⟨g, 1, none⟩ = some (.int .u8 0) := hbx.cell 1
    have f1 := hbx.free 1
    have c2 : wx.cell? ⟨g, 2, none⟩ = some (.int .i64 0) := hbx.cell 2
    have f2 := hbx.free 2
    have c3 : wx.cell? ⟨g, 3, none⟩ = some (.int .i64 0) := hbx.cell 3
    have f3 := hbx.free 3
    have c4 : wx.cell? ⟨g, 4, none⟩ = some (.int .i64 0) := hbx.cell 4
    have f4 := hbx.free 4
    clear hb
    go_simp
    exact hK _ _ rfl (((((((Stored.start hbx).set 0 _).set 1 _).set 2 _).set 3 _).set 4 _))
  · intro wx hb
    rintro _ rfl
    intro K hK
    go_simp
    exact hK _ _ rfl ⟨rfl, Below.refl _ _⟩
  · intro wx hb
    rintro _ rfl
    intro K hK
    go_simp
    exact hK _ _ rfl ⟨rfl, Below.refl _ _⟩
  intro w2 B2
  have BW := bkeep BW B2
  rintro _ rfl
  rintro _ rfl
  rintro _ rfl
  rintro _ rfl
  rintro _ rfl
  rintro _ rfl
  rintro _ rfl
  intro gp hgp Bp
  rintro _ rfl
  rintro _ rfl
  rintro -
  simp only [Act.put, List.setIfInBounds_toArray, List.set_cons_zero, List.set_cons_succ, List.toList_toArray, List.length_cons, List.length_nil, List.drop_succ_cons, List.drop_zero, List.drop_nil, Nat.zero_add, wpList]
  have k0 : w2.cell? ⟨gp, 0, none⟩ = some (.int .i64 kd) := Bp.cell 0
  have k1 : w2.cell? ⟨gp, 1, none⟩ = some (.int .u8 lt) := Bp.cell 1
  have k2 : w2.cell? ⟨gp, 2, none⟩ = some (.int .i64 lf) := Bp.cell 2
  have k3 : w2.cell? ⟨gp, 3, none⟩ = some (.int .i64 rg) := Bp.cell 3
  have k4 : w2.cell? ⟨gp, 4, none⟩ = some (.int .i64 tm) := Bp.cell 4
  have HBp := Lib.hid Bp; have HBW := Lib.hid BW
  clear B2 Bp BW
  go_wp2_with fail
  (with_reducible refine (HC.out _).mono ?_)
  rintro e w3 ⟨rfl, B3⟩
  have HBp3 := Lib.hid (HBp.out.below B3 HBp.out.lt)
  have HBW3 := Lib.hid (bkeep HBW.out B3)
  clear B3 k0 k1 k2 k3 k4
  go_wp2_with fail
  go_loopw [8, 9, 10, 11] (fun sk _ _ _ wr => ∃ k : Nat, sk = .int .i64 (k : Int) ∧ k ≤ q ∧ Hid (Below w3.heap.size w3 wr)) (fun sk _ _ _ _ => q - (intOf sk).toNat)
  case atStart => exact ⟨0, rfl, by omega, Lib.hid (Below.refl _ _)⟩
  case round =>
    obtain ⟨k, rfl, hk, BR⟩ := hrel
    by_cases hlt : k < q
    · have i0 : (0 : Int) ≤ k := by omega
      have i1 : (k : Int) < q := by omega
      have i2 : (k : Int) ≤ c := by omega
      have hr := row_take (HA.out.below (bkeep HBW3.out BR.out) (Nat.le_refl _)) k
      rw [show (vb l).take k = vb (l.take k) by simp [vb]] at hr
      have HR := Lib.hid hr
      clear hr
      go_wp2_with fail
      (with_reducible refine (HK.out k _ hlt HR.out).mono ?_)
      rintro e w5 ⟨rfl, B5⟩
      have BR5 := Lib.hid (balloc (bkeep BR.out B5) (.cells #[.int .i64 0, .int .u8 0, .int .i64 0, .int .i64 0, .int .i64 0] 24))
      clear B5
      go_wp2_with fail
      (with_reducible refine (is_yes 4 rfl _).mono ?_)
      rintro e w' ⟨rfl, rfl⟩
      go_wp2_with fail
      go_roundw
      case rel => exact ⟨k + 1, by go_num, by omega, BR5⟩
      case measure => simp [intOf]; omega
    · have i1 : ¬ (k : Int) < q := by omega
      have Bp := HBp3.out.below BR.out HBp3.out.lt
      have HBp4 := Lib.hid Bp
      have BWr := Lib.hid (bkeep HBW3.out BR.out)
      have k0 : wr.cell? ⟨gp, 0, none⟩ = some (.int .i64 kd) := Bp.cell 0
      have k1 : wr.cell? ⟨gp, 1, none⟩ = some (.int .u8 lt) := Bp.cell 1
      have k2 : wr.cell? ⟨gp, 2, none⟩ = some (.int .i64 lf) := Bp.cell 2
      have k3 : wr.cell? ⟨gp, 3, none⟩ = some (.int .i64 rg) := Bp.cell 3
      have k4 : wr.cell? ⟨gp, 4, none⟩ = some (.int .i64 tm) := Bp.cell 4
      clear Bp hlt
      go_wp2_with fail
      (with_reducible refine (HP.out _).mono ?_)
      rintro e w5 ⟨A5, c5, rfl, R5, B5⟩
      have BW5 := Lib.hid (bkeep BWr.out B5)
      have hlen : (l.take q).length = q := by rw [List.length_take, HL.out]; omega
      have hr := row_take (HA.out.below BW5.out (Nat.le_refl _)) q
      rw [show (vb l).take q = vb (l.take q) by simp [vb]] at hr
      rw [hlen]
      have HS := Lib.hid (bytes_same (l.take q) q c5 c A5 A hlen w5 R5 hr)
      clear R5 B5 hr hlen k0 k1 k2 k3 k4
      go_wp2_with fail
      (with_reducible refine (HS.out).mono ?_)
      rintro e w' ⟨rfl, rfl⟩
      go_wp2_with fail
      go_ret
      exact ⟨rfl, BW5.out⟩
theorem law_only (l : List Int) (n c : Nat) (A : Option Addr) (hl : l.length = n) (hn : n ≤ 140737488351232) (hc : n ≤ c) (hb : U8s l) (N : Int) (N0 : -9223372036854775808 ≤ N) (N1 : N ≤ 9223372036854775807) (w : World) (ha : RowAt w A (vb l)) :
    Calls Try.prog 11 #[.slice A n c, .int .i64 N] w fun e w' => e = .returned (.bool true) ∧ Below w.heap.size w w' := by
  have HT := fun w h => tk_any l n c A hl (by omega) hc hb N N0 N1 w h
  have hw := tk_way l N
  have ho := tk_only l N hb (tkR l N) hw
  generalize tkR l N = R at HT hw ho
  obtain ⟨r, u, k⟩ := R
  by_cases hk : k = 0
  · obtain ⟨q, hq, H⟩ := ho hk
    obtain ⟨kd, lt, lf, rg, tm⟩ := r
    simp only at hq
    subst hq
    subst hk
    have hcode : checkCode kd lt lf rg tm N = 0 := H.ok
    have henc : encR kd lt lf rg tm N = l.take q := H.enc
    have ht1 : tm ≤ 9223372036854775807 := H.tm1
    have HP := fun w => put_ok kd lt lf rg tm N N0 N1 ht1 hcode w
    rw [henc] at HP
    have HC := fun w => check_any kd lt lf rg tm N N0 N1 w
    rw [hcode] at HC
    have q1 := H.ql
    refine only_ok l n c q A N kd lt lf rg tm hl (by omega) hc H.q2 (by omega) (Lib.hid HT) (Lib.hid HC) (Lib.hid HP) (Lib.hid fun j w hj hr => ?_) w ha
    have ht := tk_any (l.take j) j c A (by rw [List.length_take]; omega) (by omega) (by omega) (hb.take j) N N0 N1 w hr
    rw [H.pre j hj] at ht
    exact ht
  · refine only_bad l n c A N u k r hk (Lib.hid fun w h => ?_) w ha
    have := HT w h
    exact this.mono fun e w' ⟨h1, h2⟩ => ⟨by rw [h1]; simp only [errv_pos k hk], h2⟩
end Go.Proofs.Ytpeapjnfncfjiaa
