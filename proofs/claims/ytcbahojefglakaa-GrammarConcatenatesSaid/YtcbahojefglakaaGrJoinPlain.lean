/- Plain laws: a joined grammar is valid, its lengths and texts. -/
import Derived.Test.YtcbahojefglakaaGrJoinLaw
namespace Go.Proofs.Ytcbahojefglakaa
set_option linter.unusedVariables false
set_option linter.unusedSimpArgs false
theorem rc_letter (lt n : Int) (h : 1 ≤ n) : rc ⟨1, lt, 0, 0, 0⟩ n = 0 := by simp [rc, checkCode, formedB, refsOf, placeCode, rangedB, inB, h]
theorem rc_pair (a b n : Int) (h1 : 1 ≤ a) (h2 : a < n) (h3 : 1 ≤ b) (h4 : b < n) : rc ⟨2, 0, a, b, 0⟩ n = 0 := by
  simp [rc, checkCode, formedB, refsOf, placeCode, rangedB, inB, h1, h3]; omega
theorem rc_power (a tm n : Int) (h1 : 1 ≤ a) (h2 : a < n) (h3 : 2 ≤ tm) : rc ⟨3, 0, a, 0, tm⟩ n = 0 := by
  simp [rc, checkCode, formedB, refsOf, placeCode, rangedB, inB, h1, h3]; omega
theorem gcode_app : ∀ (g g' : List Rl) (i : Nat), gcode i g = 0 → gcode i (g ++ g') = gcode (i + g.length) g'
  | [], g', i, _ => rfl
  | r :: g, g', i, h => by
    have e : gcode i (r :: g) = if rc r (i + 1) = 0 then gcode (i + 1) g else rc r (i + 1) := rfl
    have e2 : gcode i (r :: g ++ g') = if rc r (i + 1) = 0 then gcode (i + 1) (g ++ g') else rc r (i + 1) := rfl
    rw [e] at h
    by_cases h0 : rc r (i + 1) = 0
    · rw [if_pos h0] at h
      rw [e2, if_pos h0, gcode_app g g' (i + 1) h]
      congr 1
      simp; omega
    · rw [if_neg h0] at h; exact absurd h h0
theorem gcode_all : ∀ (g : List Rl) (i : Nat), (∀ (k : Nat) (r : Rl), g[k]? = some r → rc r ((i : Int) + (k : Int) + 1) = 0) → gcode i g = 0
  | [], i, _ => rfl
  | r :: g, i, h => by
    have e : gcode i (r :: g) = if rc r (i + 1) = 0 then gcode (i + 1) g else rc r (i + 1) := rfl
    have h0 := h 0 r rfl
    rw [show (i : Int) + ((0 : Nat) : Int) + 1 = (i : Int) + 1 by omega] at h0
    rw [e, if_pos h0]
    refine gcode_all g (i + 1) fun k r' hr => ?_
    have := h (k + 1) r' hr
    rw [show (((i + 1 : Nat)) : Int) + (k : Int) + 1 = (i : Int) + ((k + 1 : Nat) : Int) + 1 by omega]
    exact this
/-- a valid rule, moved -/
theorem mvd_way {h : List Rl} (hv : gcode 0 h = 0) {i n : Nat} {r : Rl} (hr : h[i]? = some r) (hi : i ≤ 1000000) (hn : n ≤ 1000000) :
    (∃ lt, r = ⟨1, lt, 0, 0, 0⟩ ∧ mvd n r = ⟨1, lt, 0, 0, 0⟩) ∨
    (∃ a b : Nat, r = ⟨2, 0, (a : Int) + 1, (b : Int) + 1, 0⟩ ∧ a < i ∧ b < i ∧ mvd n r = ⟨2, 0, ((n + a : Nat) : Int) + 1, ((n + b : Nat) : Int) + 1, 0⟩) ∨
    (∃ (a : Nat) (tm : Int), r = ⟨3, 0, (a : Int) + 1, 0, tm⟩ ∧ a < i ∧ 2 ≤ tm ∧ mvd n r = ⟨3, 0, ((n + a : Nat) : Int) + 1, 0, tm⟩) := by
  rcases rule_way' hv hr with ⟨lt, rfl⟩ | ⟨a, b, rfl, ha, hb⟩ | ⟨a, tm, rfl, ha, ht⟩
  · exact .inl ⟨lt, rfl, rfl⟩
  · refine .inr (.inl ⟨a, b, rfl, ha, hb, ?_⟩)
    show (⟨2, 0, wrp ((a : Int) + 1 + n), wrp ((b : Int) + 1 + n), 0⟩ : Rl) = _
    rw [wrp_id (by omega) (by omega), wrp_id (by omega) (by omega), show (a : Int) + 1 + n = ((n + a : Nat) : Int) + 1 by omega, show (b : Int) + 1 + n = ((n + b : Nat) : Int) + 1 by omega]
  · refine .inr (.inr ⟨a, tm, rfl, ha, ht, ?_⟩)
    show (⟨3, 0, wrp ((a : Int) + 1 + n), 0, tm⟩ : Rl) = _
    rw [wrp_id (by omega) (by omega), show (a : Int) + 1 + n = ((n + a : Nat) : Int) + 1 by omega]
theorem gcode_moved {h : List Rl} (hv : gcode 0 h = 0) {n : Nat} (hh : h.length ≤ 1000000) (hn : n ≤ 1000000) : gcode n (h.map (mvd n)) = 0 := by
  refine gcode_all _ _ fun k r hr => ?_
  rw [List.getElem?_map] at hr
  match hq : h[k]?, hr with
  | some q, hr =>
    have hk := (List.getElem?_eq_some_iff.1 hq).1
    simp only [Option.map_some, Option.some.injEq] at hr
    rcases mvd_way hv hq (by omega) hn with ⟨lt, _, e⟩ | ⟨a, b, _, ha, hb, e⟩ | ⟨a, tm, _, ha, ht, e⟩
    · rw [← hr, e]; exact rc_letter _ _ (by omega)
    · rw [← hr, e]; exact rc_pair _ _ _ (by omega) (by omega) (by omega) (by omega)
    · rw [← hr, e]; exact rc_power _ _ _ (by omega) (by omega) ht
section
variable {α : Type} {f : List α → Rl → α}
theorem fwd_app : ∀ (g g' : List Rl) (acc : List α), fwd f acc (g ++ g') = fwd f (fwd f acc g) g'
  | [], g', acc => rfl
  | r :: g, g', acc => fwd_app g g' (acc ++ [f acc r])
end
theorem getD_add {α : Type} (T acc : List α) (a : Nat) (d : α) : (T ++ acc).getD (T.length + a) d = acc.getD a d := by
  rw [List.getD_eq_getElem?_getD, List.getD_eq_getElem?_getD, List.getElem?_append_right (by omega), Nat.add_sub_cancel_left]
theorem one_sub (a : Nat) : ((a : Int) + 1 - 1).toNat = a := by omega
/-- texts and lengths of a moved rule, those of another grammar before it -/
theorem tx1_moved {h : List Rl} (hv : gcode 0 h = 0) {i : Nat} {r : Rl} (hr : h[i]? = some r) (T acc : List (List Int)) (hi : i ≤ 1000000) (hn : T.length ≤ 1000000) : tx1 (T ++ acc) (mvd T.length r) = tx1 acc r := by
  rcases mvd_way (n := T.length) hv hr hi hn with ⟨lt, rfl, e⟩ | ⟨a, b, rfl, ha, hb, e⟩ | ⟨a, tm, rfl, ha, ht, e⟩
  · rw [e]; rfl
  · rw [e]; unfold tx1; simp only [if_true]; rw [one_sub, one_sub, one_sub, one_sub, getD_add, getD_add]
  · rw [e]; unfold tx1; rw [if_neg (by simp), if_pos rfl, if_neg (by simp), if_pos rfl]; simp only []; rw [one_sub, one_sub, getD_add]
theorem len1_moved {h : List Rl} (hv : gcode 0 h = 0) {i : Nat} {r : Rl} (hr : h[i]? = some r) (T acc : List Int) (hi : i ≤ 1000000) (hn : T.length ≤ 1000000) : len1 (T ++ acc) (mvd T.length r) = len1 acc r := by
  rcases mvd_way (n := T.length) hv hr hi hn with ⟨lt, rfl, e⟩ | ⟨a, b, rfl, ha, hb, e⟩ | ⟨a, tm, rfl, ha, ht, e⟩
  · rw [e]; rfl
  · rw [e, len1_pair _ rfl, len1_pair _ rfl]; simp only []; rw [one_sub, one_sub, one_sub, one_sub, getD_add, getD_add]
  · rw [e, len1_power _ rfl, len1_power _ rfl]; simp only []; rw [one_sub, one_sub, getD_add]
theorem fwd_moved {h : List Rl} (hv : gcode 0 h = 0) (hh : h.length ≤ 1000000) (T : List (List Int)) (hn : T.length ≤ 1000000) :
    ∀ (k i : Nat) (acc : List (List Int)), h.length - i = k → acc.length = i → fwd tx1 (T ++ acc) ((h.drop i).map (mvd T.length)) = T ++ fwd tx1 acc (h.drop i)
  | 0, i, acc, hk, hi => by rw [List.drop_eq_nil_of_le (by omega)]; rfl
  | k + 1, i, acc, hk, hi => by
    have hr : h[i]? = some (h[i]'(by omega)) := List.getElem?_eq_getElem _
    rw [drop_of hr]
    show fwd tx1 (T ++ acc ++ [tx1 (T ++ acc) (mvd T.length h[i])]) ((h.drop (i + 1)).map (mvd T.length)) = T ++ fwd tx1 (acc ++ [tx1 acc h[i]]) (h.drop (i + 1))
    rw [tx1_moved hv hr T acc (by omega) hn, List.append_assoc]
    exact fwd_moved hv hh T hn k (i + 1) _ (by omega) (by simp; omega)
theorem lens_moved {h : List Rl} (hv : gcode 0 h = 0) (hh : h.length ≤ 1000000) (T : List Int) (hn : T.length ≤ 1000000) :
    ∀ (k i : Nat) (acc L : List Int), h.length - i = k → acc.length = i → lensFrom acc (h.drop i) = (L, 0) → lensFrom (T ++ acc) ((h.drop i).map (mvd T.length)) = (T ++ L, 0)
  | 0, i, acc, L, hk, hi, hL => by
    rw [List.drop_eq_nil_of_le (by omega)] at hL ⊢
    cases hL; rfl
  | k + 1, i, acc, L, hk, hi, hL => by
    have hr : h[i]? = some (h[i]'(by omega)) := List.getElem?_eq_getElem _
    rw [drop_of hr] at hL ⊢
    have e1 : lensFrom acc (h[i] :: h.drop (i + 1)) = if (len1 acc h[i]).2 = 0 then lensFrom (acc ++ [(len1 acc h[i]).1]) (h.drop (i + 1)) else ([], (len1 acc h[i]).2) := rfl
    have e2 : lensFrom (T ++ acc) ((h[i] :: h.drop (i + 1)).map (mvd T.length)) = if (len1 (T ++ acc) (mvd T.length h[i])).2 = 0 then lensFrom (T ++ acc ++ [(len1 (T ++ acc) (mvd T.length h[i])).1]) ((h.drop (i + 1)).map (mvd T.length)) else ([], (len1 (T ++ acc) (mvd T.length h[i])).2) := rfl
    rw [e1] at hL
    rw [e2, len1_moved hv hr T acc (by omega) hn]
    by_cases h0 : (len1 acc h[i]).2 = 0
    · rw [if_pos h0] at hL ⊢
      rw [List.append_assoc]
      exact lens_moved hv hh T hn k (i + 1) _ L (by omega) (by simp; omega) hL
    · rw [if_neg h0] at hL; exact absurd (congrArg Prod.snd hL) h0
theorem lensFrom_app : ∀ (g g' : List Rl) (acc L : List Int), lensFrom acc g = (L, 0) → lensFrom acc (g ++ g') = lensFrom L g'
  | [], g', acc, L, h => by cases h; rfl
  | r :: g, g', acc, L, h => by
    have e1 : lensFrom acc (r :: g) = if (len1 acc r).2 = 0 then lensFrom (acc ++ [(len1 acc r).1]) g else ([], (len1 acc r).2) := rfl
    have e2 : lensFrom acc (r :: g ++ g') = if (len1 acc r).2 = 0 then lensFrom (acc ++ [(len1 acc r).1]) (g ++ g') else ([], (len1 acc r).2) := rfl
    rw [e1] at h
    by_cases h0 : (len1 acc r).2 = 0
    · rw [if_pos h0] at h
      rw [e2, if_pos h0]; exact lensFrom_app g g' _ L h
    · rw [if_neg h0] at h; exact absurd (congrArg Prod.snd h) h0
end Go.Proofs.Ytcbahojefglakaa
