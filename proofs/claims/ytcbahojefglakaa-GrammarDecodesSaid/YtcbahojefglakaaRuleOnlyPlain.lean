/- Plain laws: what a reading without an error says. -/
import Derived.Test.YtcbahojefglakaaRuleBackPlain
namespace Go.Proofs.Ytcbahojefglakaa
set_option linter.unusedVariables false
set_option linter.unusedSimpArgs false
theorem two_pre {l : List Int} (hb : U8s l) {x y q : Nat} (h : twoOf l = some (x, y, q)) :
    l.take q = l.take 1 ++ vput x ++ vput y ∧ ∀ j, j < q → twoOf (l.take j) = none := by
  obtain ⟨k, k2, h1, h2, rfl⟩ := two_some h
  obtain ⟨a1, a2, a3, _, _, _, a7⟩ := vt_only 9 true _ _ _ (hb.drop 1) h1
  obtain ⟨b1, b2, b3, _, _, _, b7⟩ := vt_only 9 true _ _ _ (hb.drop (1 + k)) h2
  refine ⟨?_, fun j hj => ?_⟩
  · rw [← a1, ← b1, List.append_assoc, show 1 + k + k2 = 1 + (k + k2) by omega, List.take_add, List.take_add, List.drop_drop]
  · have e1 : (l.take j).drop 1 = (l.drop 1).take (j - 1) := by rw [List.drop_take]
    unfold twoOf
    rw [e1]
    by_cases hk : j - 1 < k
    · rw [a7 _ hk]; rfl
    · rw [vt_ext (hb.drop 1) h1 (by omega)]
      simp only [Option.bind_some]
      have e2 : (l.take j).drop (1 + k) = (l.drop (1 + k)).take (j - (1 + k)) := by rw [List.drop_take]
      rw [e2, b7 _ (by omega)]; rfl
theorem take_hd {l : List Int} {k : Int} (h : l[0]? = some k) {j : Nat} (hj : 0 < j) : (l.take j)[0]? = some k := by rw [List.getElem?_take_of_lt hj]; exact h
theorem take_one {l : List Int} {k : Int} (h : l[0]? = some k) : l.take 1 = [k] := by
  match l, h with
  | a :: m, h => simp at h; simp [h]
/-- what a reading without an error says -/
structure Only (l : List Int) (n : Int) (r : Rl) (q : Nat) : Prop where
  q2 : 2 ≤ q
  ql : q ≤ l.length
  ok : checkCode r.kd r.lt r.lf r.rg r.tm n = 0
  enc : encR r.kd r.lt r.lf r.rg r.tm n = l.take q
  pre : ∀ j, j < q → tkR (l.take j) n = rzero 4
  tm1 : r.tm ≤ 9223372036854775807
theorem tk_only (l : List Int) (n : Int) (hb : U8s l) (R : Rl × Int × Int) (h : TkWay l n R) (h0 : R.2.2 = 0) : ∃ q : Nat, R.2.1 = q ∧ Only l n R.1 q := by
  have fin : ∀ r u, (tfin r u n).2.2 = 0 → rangedB (refsOf r.kd r.lf r.rg) n = true ∧ tfin r u n = (r, u, 0) := by
    intro r u h
    cases hr : rangedB (refsOf r.kd r.lf r.rg) n with
    | false => rw [tfin_no hr] at h; cases h
    | true => exact ⟨rfl, tfin_yes hr⟩
  cases h with
  | empty h => cases h0
  | kind k h h1 h2 h3 => cases h0
  | short h => cases h0
  | none2 h h2 => cases h0
  | none3 h h2 => cases h0
  | big x y e h h2 h3 => cases h0
  | letter b h h2 =>
    obtain ⟨hr, e⟩ := fin _ _ h0
    rw [e]
    have hl := (List.getElem?_eq_some_iff.1 h2).1
    refine ⟨2, rfl, ⟨Nat.le_refl _, by omega, check_of (by simp [formedB]) hr, ?_, fun j hj => ?_, by simp⟩⟩
    · match l, h, h2 with
      | a :: c :: m, h, h2 => simp at h h2; subst h h2; rfl
    · match l, h, h2 with
      | a :: c :: m, h, h2 =>
        have : j = 0 ∨ j = 1 := by omega
        simp at h h2; subst h h2
        rcases this with rfl | rfl <;> rfl
  | pair x y q h h2 =>
    by_cases hn : n < 1
    · rw [if_pos hn] at h0; cases h0
    · rw [if_neg hn] at h0 ⊢
      obtain ⟨hr, e⟩ := fin _ _ h0
      rw [e]
      obtain ⟨b1, b2, b3, b4⟩ := two_bd hb h2
      obtain ⟨p1, p2⟩ := two_pre hb h2
      refine ⟨q, rfl, ⟨by omega, b4, check_of (by simp [formedB]) hr, ?_, fun j hj => ?_, by simp⟩⟩
      · show ([2] ++ vput (n - (n - (x : Int))).toNat) ++ vput (n - (n - (y : Int))).toNat = _
        rw [p1, take_one h, show (n - (n - (x : Int))).toNat = x by omega, show (n - (n - (y : Int))).toNat = y by omega]
      · rcases Nat.eq_zero_or_pos j with rfl | hj0
        · rfl
        · exact tkR_none (.inl (take_hd h hj0)) (p2 j hj)
  | power x y q h h2 h3 =>
    by_cases hn : n < 1
    · rw [if_pos hn] at h0; cases h0
    · rw [if_neg hn] at h0 ⊢
      obtain ⟨hr, e⟩ := fin _ _ h0
      rw [e]
      obtain ⟨b1, b2, b3, b4⟩ := two_bd hb h2
      obtain ⟨p1, p2⟩ := two_pre hb h2
      refine ⟨q, rfl, ⟨by omega, b4, check_of (by simp [formedB]; omega) hr, ?_, fun j hj => ?_, ?_⟩⟩
      · show ([3] ++ vput (n - (n - (x : Int))).toNat) ++ vput ((y : Int) + 2 - 2).toNat = _
        rw [p1, take_one h, show (n - (n - (x : Int))).toNat = x by omega, show ((y : Int) + 2 - 2).toNat = y by omega]
      · rcases Nat.eq_zero_or_pos j with rfl | hj0
        · rfl
        · exact tkR_none (.inr (take_hd h hj0)) (p2 j hj)
      · show (y : Int) + 2 ≤ _; omega
end Go.Proofs.Ytcbahojefglakaa
