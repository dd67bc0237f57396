/- The walk of grammar.Decode. -/
import Derived.Test.YtcbahojefglakaaGrDecPlain
import Derived.Test.YtcbahojefglakaaRuleTake
import Derived.Test.YtcbahojefglakaaRulesOut
import Derived.Test.YtcbahojefglakaaGrExpands
namespace Go.Proofs.Ytcbahojefglakaa
set_option linter.unusedVariables false
set_option linter.unusedSimpArgs false
open Go.RowKit Go.Lib
attribute [local go_sem ↓] Go.wp_at_zero Go.wp_at_succ
/-- what Decode hands back: the rules and the error's number -/
def decOut (l : List Int) : List Rl × Int := match decG l with
  | some g => (g, 0)
  | none => ([], 4)
theorem decOut_none {l : List Int} (h : decG l = none) : decOut l = ([], 4) := by unfold decOut; rw [h]
theorem decOut_some {l : List Int} {g : List Rl} (h : decG l = some g) : decOut l = (g, 0) := by unfold decOut; rw [h]
def decEnd : Option (List Rl × List Int) → List Rl × Int
  | some (g, []) => (g, 0)
  | _ => ([], 4)
theorem rulesOut_nil {w w' : World} (hb : Below w.heap.size w w') : RulesOut [] (.iface 50 (.int .i64 4)) w (.returned (.tuple #[.slice none 0 0, .iface 50 (.int .i64 4)])) w' := ⟨none, 0, rfl, RowAt.nil _ _, hb⟩
set_option maxHeartbeats 1000000 in
theorem decode_no (l : List Int) (n c : Nat) (A : Option Addr) (hl : l.length = n) (hn : n ≤ 1000000) (hb : U8s l) (h : vt 9 true l = none) (w : World) (ha : RowAt w A (vb l)) :
    Calls Try.prog 39 #[.slice A n c] w (RulesOut [] (.iface 50 (.int .i64 4)) w) := by
  have HT := Lib.hid (vtake_no l n c A hl (by omega) hb h w ha)
  clear ha hl h hb
  go_enter Try.func39, Try.ntmps39
  go_wp2_with fail
  (with_reducible refine HT.out.mono ?_)
  rintro e w' ⟨v, u, r, rfl, hv, rfl⟩
  rcases hv with rfl | ⟨rfl, hv⟩
  · go_wp2_with fail
    go_ret2
    exact rulesOut_nil (Below.refl _ _)
  · have hv2 : (n : Int) < v := by omega
    go_wp2_with fail
    go_ret2
    exact rulesOut_nil (Below.refl _ _)
set_option maxHeartbeats 1000000 in
theorem decode_large (l : List Int) (n c m k : Nat) (A : Option Addr) (hl : l.length = n) (hn : n ≤ 1000000) (hb : U8s l) (h : vt 9 true l = some (m, k)) (hm : n < m) (w : World) (ha : RowAt w A (vb l)) :
    Calls Try.prog 39 #[.slice A n c] w (RulesOut [] (.iface 50 (.int .i64 4)) w) := by
  obtain ⟨v1, v2, v3⟩ := vt_lt hb h
  have HT := Lib.hid (vtake_yes l n c m k A hl (by omega) hb h w ha)
  clear ha hl h hb
  go_enter Try.func39, Try.ntmps39
  go_wp2_with fail
  (with_reducible refine HT.out.mono ?_)
  rintro e w' ⟨rfl, rfl⟩
  go_wp2_with fail
  go_ret2
  exact rulesOut_nil (Below.refl _ _)
theorem decFrom_step {k : Nat} {i : Int} {l : List Int} {acc : List Rl} {r : Rl} {q : Nat} (h : tkR l i = (r, (q : Int), 0)) : decFrom (k + 1) i l acc = decFrom k (i + 1) (l.drop q) (acc ++ [r]) := by
  show (if (tkR l i).2.2 = 0 then _ else none) = _
  rw [h]; rfl
theorem decFrom_bad {k : Nat} {i : Int} {l : List Int} {acc : List Rl} (h : (tkR l i).2.2 ≠ 0) : decFrom (k + 1) i l acc = none := if_neg h
set_option maxRecDepth 100000 in
set_option maxHeartbeats 8000000 in
theorem decode_from (l : List Int) (n c m k : Nat) (A : Option Addr) (hl : l.length = n) (hn : n ≤ 1000000) (hc : n ≤ c) (hb : U8s l) (h : vt 9 true l = some (m, k)) (hm : m ≤ n) (w : World) (ha : RowAt w A (vb l)) :
    Calls Try.prog 39 #[.slice A n c] w (RulesOut (decOut l).1 (errv (decOut l).2) w) := by
  obtain ⟨v1, v2, v3⟩ := vt_lt hb h
  obtain ⟨D, hD⟩ : ∃ D, D = decFrom m 1 (l.drop k) [] := ⟨_, rfl⟩
  obtain ⟨R, hR⟩ : ∃ R, R = decOut l := ⟨_, rfl⟩
  have HF : Hid (R = decEnd D) := Lib.hid (by
    have h2 := decG_from h (by omega)
    rw [hR, hD]
    unfold decOut
    rw [h2]
    cases decFrom m 1 (l.drop k) [] with
    | none => rfl
    | some p =>
      obtain ⟨g, rest⟩ := p
      cases rest <;> rfl)
  rw [← hR]
  obtain ⟨i0_, hi, hz0, hz1, hz2⟩ := info_parts5 info_rule
  have HI := Lib.hid hi; have HZ := Lib.hid hz0; have HZ1 := Lib.hid hz1; have HZ2 := Lib.hid hz2
  have HT := Lib.hid (vtake_yes l n c m k A hl (by omega) hb h w ha)
  have kn : k ≤ n := by omega
  obtain ⟨A1, hs, hr⟩ := cut_ex (vb l) A n c k k rfl kn hc (by rw [vb_len, hl])
  have HC : Hid (RowAt w A1 (vb (l.drop k)) ∧ (l.drop k).length = n - k ∧ U8s (l.drop k)) := Lib.hid ⟨by rw [← vb_drop]; exact hr w ha, by rw [List.length_drop, hl], hb.drop k⟩
  have HD : Hid (decFrom (m - 0) (((0 : Nat) : Int) + 1) (l.drop k) [] = D) := Lib.hid hD.symm
  have HO : Hid (w.ownsRow w.heap.size 46 5 (.slice none 0 0) 0 (gc [])) := Lib.hid ⟨by simp [gc], .inl ⟨rfl, rfl⟩⟩
  have HB := Lib.hid (Below.refl w.heap.size w)
  have hs' : (Instr.slice 27 (.slice A n c) (some (.int .i64 (k : Int))) none none).run Try.prog w = .ok (.slice A1 (n - k) (c - k)) w := hs w
  clear ha hl h hb hi hz0 hz1 hz2 hD hR hr hs v3
  go_enter Try.func39, Try.ntmps39
  go_wp2_with fail
  (with_reducible refine HT.out.mono ?_)
  rintro e w' ⟨rfl, rfl⟩
  have mi : (m : Int) ≤ (n : Int) := by omega
  have mb : decide (n < m) = false := by simp; omega
  go_wp2_with fail
  clear hs'
  go_loopw [0, 7, 8, 9, 10, 11] (fun s0 s7 s8 _ _ _ wr => ∃ (j n1 c1 : Nat) (A1 : Option Addr) (cur : List Int) (acc : List Rl) (A2 : Option Addr) (c2 : Nat), s0 = .slice A1 n1 c1 ∧ n1 ≤ n ∧ n1 ≤ c1 ∧ s7 = .slice A2 j c2 ∧ s8 = .int .i64 ((j : Int) + 1) ∧ j ≤ m ∧ Hid (RowAt w A1 (vb cur) ∧ cur.length = n1 ∧ U8s cur) ∧ Hid (decFrom (m - j) ((j : Int) + 1) cur acc = D) ∧ Hid (wr.ownsRow w.heap.size 46 5 (.slice A2 j c2) j (gc acc)) ∧ Hid (Below w.heap.size w wr)) (fun _ _ s8 _ _ _ _ => m + 1 - (intOf s8).toNat)
  case atStart => exact ⟨0, n - k, c - k, A1, l.drop k, [], none, 0, rfl, by omega, by omega, rfl, rfl, by omega, HC, HD, HO, HB⟩
  case round =>
    obtain ⟨j, n1, c1, A1, cur, acc, A2, c2, rfl, hn1, hc1, rfl, rfl, hj, HC, HD, HO, BW⟩ := hrel
    by_cases hlt : j < m
    · have hji : (j : Int) + 1 ≤ (m : Int) := by omega
      have HTk := Lib.hid (fun w ha => tk_any cur n1 c1 A1 HC.out.2.1 (by omega) hc1 HC.out.2.2 ((j : Int) + 1) (by omega) (by omega) w ha)
      have hw := tk_way cur ((j : Int) + 1)
      have hmj : m - j = (m - (j + 1)) + 1 := by omega
      by_cases hz : (tkR cur ((j : Int) + 1)).2.2 = 0
      · obtain ⟨q, hq, ho⟩ := tk_only cur _ HC.out.2.2 _ hw hz
        obtain ⟨r, hr⟩ : ∃ r, (tkR cur ((j : Int) + 1)).1 = r := ⟨_, rfl⟩
        have htk : tkR cur ((j : Int) + 1) = (r, (q : Int), 0) := by rw [← hr, ← hq, ← hz]
        have hql : q ≤ n1 := by have := ho.ql; rw [HC.out.2.1] at this; exact this
        have HD2 : Hid (decFrom (m - (j + 1)) (((j + 1 : Nat) : Int) + 1) (cur.drop q) (acc ++ [r]) = D) := Lib.hid (by
          have h1 := HD.out
          rw [hmj, decFrom_step htk] at h1
          rw [← h1]; congr 1)
        obtain ⟨A5, hs5, hr5⟩ := cut_ex (vb cur) A1 n1 c1 q q rfl hql hc1 (by rw [vb_len, HC.out.2.1])
        have HC2 : Hid (RowAt w A5 (vb (cur.drop q)) ∧ (cur.drop q).length = n1 - q ∧ U8s (cur.drop q)) := Lib.hid ⟨by rw [← vb_drop]; exact hr5 w HC.out.1, by rw [List.length_drop, HC.out.2.1], HC.out.2.2.drop q⟩
        rw [htk] at HTk
        have HTk2 : Hid (∀ w, RowAt w A1 (vb cur) → Calls Try.prog 58 #[.slice A1 n1 c1, .int .i64 ((j : Int) + 1)] w fun e w' => e = .returned (.tuple #[r.val, .int .i64 (q : Int), .nilIface]) ∧ Below w.heap.size w w') := Lib.hid (fun w ha => HTk.out w ha)
        clear hz hq ho hr htk HD hw hr5 HTk hmj
        have q0 : (0 : Int) ≤ q := by omega
        obtain ⟨kd, lt, lf, rg, tm⟩ := r
        go_wp2_with fail
        (with_reducible refine (HTk2.out _ (HC.out.1.below BW.out (Nat.le_refl _))).mono ?_)
        rintro e w2 ⟨rfl, B2⟩
        have HO2 := Lib.hid (own_below HO.out B2)
        have BW2 := Lib.hid (bkeep BW.out B2)
        clear B2
        go_wp2_with (refine wpList_app _ (by rfl) (.tmp 47) (.tmp 49) _ rfl w.heap.size 46 i0_ _ 5 40 Try.underlying22 HI.out HZ.out HZ1.out HZ2.out rfl (by omega) (.slice A2 j c2) j (gc acc) rfl ?own _ 1 1 ((⟨kd, lt, lf, rg, tm⟩ : Rl).cells) rfl rfl ?row (cells_one _) (by simp only [maxLen]; omega) (by omega) ?size ?_)
        case own => exact own_below HO2.out (by repeat (first | exact Below.refl _ _ | (with_reducible refine Below.alloc ?_ (by first | omega | (simp; done) | (simp; omega)) _) | (with_reducible refine Below.setCell ?_ (by first | omega | (simp; done) | (simp; omega)) _)))
        case row => exact RowAt.of_block (box_new_ (by simp))
        case size => have := BW2.out.size; simp; omega
        intro A6 c6 w6 own6 gr6 at6
        have B6 : Hid (Below w.heap.size w w6) := Lib.hid (BW2.out.trans (Below.grown (B := w.heap.size) (a := w2) (by
          have := BW2.out.size
          repeat (first | exact Below.refl _ _ | (with_reducible refine Below.alloc ?_ (by first | omega | (simp; done) | (simp; omega)) _) | (with_reducible refine Below.setCell ?_ (by first | omega | (simp; done) | (simp; omega)) _))) gr6 (by have := BW2.out.size; simp; omega) (own_ge HO2.out)))
        rw [gc_snoc] at own6
        have HO6 := Lib.hid own6
        clear own6 gr6 at6
        have hs5' : (Instr.slice 27 (.slice A1 n1 c1) (some (.int .i64 (q : Int))) none none).run Try.prog w6 = .ok (.slice A5 (n1 - q) (c1 - q)) w6 := hs5 w6
        clear hs5
        go_wp2_with fail
        go_roundw
        case rel => exact ⟨j + 1, n1 - q, c1 - q, A5, cur.drop q, acc ++ [⟨kd, lt, lf, rg, tm⟩], A6, c6, rfl, by omega, by omega, rfl, by go_num, by omega, HC2, HD2, HO6, B6⟩
        case measure => simp [intOf]; omega
      · have HR : Hid (R = ([], 4)) := Lib.hid (by
          have h1 := HD.out
          rw [hmj, decFrom_bad hz] at h1
          rw [HF.out, ← h1]; rfl)
        obtain ⟨⟨r, u, code⟩, hX⟩ : ∃ X, tkR cur ((j : Int) + 1) = X := ⟨_, rfl⟩
        rw [hX] at HTk hz
        have HTk2 : Hid (∀ w, RowAt w A1 (vb cur) → Calls Try.prog 58 #[.slice A1 n1 c1, .int .i64 ((j : Int) + 1)] w fun e w' => e = .returned (.tuple #[r.val, .int .i64 u, .iface 50 (.int .i64 code)]) ∧ Below w.heap.size w w') := Lib.hid (fun w ha => by
          have := HTk.out w ha
          unfold TkOut at this
          rw [errv_pos _ hz] at this
          exact this)
        clear hz hw HTk hX HD hmj
        obtain ⟨kd, lt, lf, rg, tm⟩ := r
        go_wp2_with fail
        (with_reducible refine (HTk2.out _ (HC.out.1.below BW.out (Nat.le_refl _))).mono ?_)
        rintro e w2 ⟨rfl, B2⟩
        have BW2 := Lib.hid (bkeep BW.out B2)
        clear B2
        go_wp2_with fail
        go_ret2
        rw [HR.out]
        exact rulesOut_nil (bkeep BW2.out (by repeat (first | exact Below.refl _ _ | (with_reducible refine Below.alloc ?_ (by first | omega | (simp; done) | (simp; omega)) _) | (with_reducible refine Below.setCell ?_ (by first | omega | (simp; done) | (simp; omega)) _))))
    · obtain rfl : j = m := by omega
      have hD := HD.out
      rw [Nat.sub_self] at hD
      have HD2 : Hid (D = some (acc, cur)) := Lib.hid hD.symm
      clear hD
      by_cases h0 : 0 < n1
      · have HR : Hid (R = ([], 4)) := Lib.hid (by
          have h1 := HC.out.2.1
          rw [HF.out, HD2.out]
          cases cur with
          | nil => simp at h1; omega
          | cons a b => rfl)
        go_wp2_with fail
        go_ret2
        rw [HR.out]
        exact rulesOut_nil BW.out
      · obtain rfl : n1 = 0 := by omega
        have HR : Hid (R = (acc, 0)) := Lib.hid (by
          have h1 := HC.out.2.1
          rw [HF.out, HD2.out]
          cases cur with
          | nil => rfl
          | cons a b => simp at h1)
        have HL : Hid (acc.length = j) := Lib.hid (by
          have := HO.out.1
          rw [gc_len] at this; omega)
        go_wp2_with fail
        go_ret2
        rw [HR.out]
        exact ⟨A2, c2, by rw [HL.out]; rfl, own_row _ HO.out, BW.out⟩
theorem decode_any (l : List Int) (n c : Nat) (A : Option Addr) (hl : l.length = n) (hn : n ≤ 1000000) (hc : n ≤ c) (hb : U8s l) (w : World) (ha : RowAt w A (vb l)) :
    Calls Try.prog 39 #[.slice A n c] w (RulesOut (decOut l).1 (errv (decOut l).2) w) := by
  cases h : vt 9 true l with
  | none => rw [decOut_none (decG_none h)]; exact decode_no l n c A hl hn hb h w ha
  | some p =>
    obtain ⟨m, k⟩ := p
    by_cases hm : n < m
    · rw [decOut_none (decG_large h (by omega))]; exact decode_large l n c m k A hl hn hb h hm w ha
    · exact decode_from l n c m k A hl hn hc hb h (by omega) w ha
end Go.Proofs.Ytcbahojefglakaa
