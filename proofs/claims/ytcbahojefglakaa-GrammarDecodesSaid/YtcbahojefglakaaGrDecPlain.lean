/- A grammar's bytes read: the plain law of Decode, and that it undoes Encode. -/
import Derived.Test.YtcbahojefglakaaGrEncPlain
import Derived.Test.YtcbahojefglakaaRuleOnlyPlain
namespace Go.Proofs.Ytcbahojefglakaa
set_option linter.unusedVariables false
set_option linter.unusedSimpArgs false
/-- k rules from number i on -/
def decFrom : Nat → Int → List Int → List Rl → Option (List Rl × List Int)
  | 0, _, l, acc => some (acc, l)
  | k + 1, i, l, acc => if (tkR l i).2.2 = 0 then decFrom k (i + 1) (l.drop (tkR l i).2.1.toNat) (acc ++ [(tkR l i).1]) else none
def decG (l : List Int) : Option (List Rl) := match vt 9 true l with
  | none => none
  | some (n, k) => if l.length < n then none else match decFrom n 1 (l.drop k) [] with
    | some (g, []) => some g
    | _ => none
theorem decG_none {l : List Int} (h : vt 9 true l = none) : decG l = none := by unfold decG; rw [h]
theorem decG_large {l : List Int} {n k : Nat} (h : vt 9 true l = some (n, k)) (h2 : l.length < n) : decG l = none := by unfold decG; rw [h]; simp only; rw [if_pos h2]
theorem decG_from {l : List Int} {n k : Nat} (h : vt 9 true l = some (n, k)) (h2 : ¬ l.length < n) : decG l = match decFrom n 1 (l.drop k) [] with
    | some (g, []) => some g
    | _ => none := by unfold decG; rw [h]; simp only; rw [if_neg h2]
theorem encFrom_len : ∀ (g : List Rl) (i : Nat), g.length ≤ (encFrom i g).length
  | [], _ => Nat.zero_le _
  | r :: g, i => by
    have := encFrom_len g (i + 1)
    have h1 : 1 ≤ (enc1 r (i + 1)).length := by
      unfold enc1 encR
      split
      · simp
      · split <;> simp <;> omega
    show g.length + 1 ≤ (enc1 r (i + 1) ++ encFrom (i + 1) g).length
    rw [List.length_append]; omega
theorem decFrom_back : ∀ (g : List Rl) (i : Nat) (acc : List Rl) (rest : List Int), i + g.length ≤ 1000000 → gcode i g = 0 → Tm g →
    decFrom g.length ((i : Int) + 1) (encFrom i g ++ rest) acc = some (acc ++ g, rest)
  | [], i, acc, rest, _, _, _ => by simp [decFrom, encFrom]
  | r :: g, i, acc, rest, hi, hg, ht => by
    have hc : rc r ((i : Int) + 1) = 0 := by
      have := gcode_at (r :: g) i hg 0 r rfl
      simpa using this
    have hg2 : gcode (i + 1) g = 0 := by
      have := gcode_ok (g := List.replicate i r ++ r :: g) (i := i) (r := r) (by simp) hc
      rw [show (List.replicate i r ++ r :: g).drop i = r :: g by simp] at this
      rw [show (List.replicate i r ++ r :: g).drop (i + 1) = g by rw [← List.drop_drop]; simp] at this
      rw [← this]; exact hg
    have tb := tk_back r.kd r.lt r.lf r.rg r.tm ((i : Int) + 1) (encFrom (i + 1) g ++ rest) (by simp at hi; omega) (ht r (List.mem_cons_self)) hc
    have ih := decFrom_back g (i + 1) (acc ++ [r]) rest (by simp at hi; omega) hg2 (fun q hq => ht q (List.mem_cons_of_mem _ hq))
    have e : encFrom i (r :: g) ++ rest = encR r.kd r.lt r.lf r.rg r.tm ((i : Int) + 1) ++ (encFrom (i + 1) g ++ rest) := by
      show (enc1 r (i + 1) ++ encFrom (i + 1) g) ++ rest = _
      rw [List.append_assoc]; rfl
    rw [e]
    show (if (tkR _ _).2.2 = 0 then _ else none) = _
    rw [tb]
    simp only [if_true]
    rw [show ((encR r.kd r.lt r.lf r.rg r.tm ((i : Int) + 1)).length : Int).toNat = (encR r.kd r.lt r.lf r.rg r.tm ((i : Int) + 1)).length from rfl, List.drop_left']
    · have e2 : ((i : Int) + 1 + 1) = (((i + 1 : Nat) : Int) + 1) := by omega
      rw [e2]
      show decFrom g.length _ _ (acc ++ [r]) = _
      rw [ih]; simp
    · rfl
theorem dec_back (g : List Rl) (rest : List Int) (hn : g.length ≤ 1000000) (hg : gcode 0 g = 0) (ht : Tm g) : decG (encG g ++ rest) = if rest = [] then some g else none := by
  have hv : vt 9 true (encG g ++ rest) = some (g.length, (vput g.length).length) := by
    unfold encG
    rw [List.append_assoc]
    exact vt_back 9 true _ _ (by rw [p9]; omega) (.inl ⟨by omega, rfl⟩)
  have hl : ¬ (encG g ++ rest).length < g.length := by
    have := encFrom_len g 0
    unfold encG
    simp only [List.length_append]; omega
  rw [decG_from hv hl]
  have e : (encG g ++ rest).drop (vput g.length).length = encFrom 0 g ++ rest := by
    unfold encG
    rw [List.append_assoc, List.drop_left']
    rfl
  have := decFrom_back g 0 [] rest (by omega) hg ht
  rw [e]
  rw [show (((0 : Nat) : Int) + 1) = 1 from rfl] at this
  rw [this]
  cases rest <;> simp
theorem encFrom_snoc : ∀ (g : List Rl) (i : Nat) (r : Rl), encFrom i (g ++ [r]) = encFrom i g ++ enc1 r ((i : Int) + g.length + 1)
  | [], i, r => by simp [encFrom]
  | a :: g, i, r => by
    show enc1 a (i + 1) ++ encFrom (i + 1) (g ++ [r]) = (enc1 a (i + 1) ++ encFrom (i + 1) g) ++ _
    rw [encFrom_snoc g (i + 1) r, List.append_assoc]
    congr 3
    simp; omega
theorem gcode_snoc : ∀ (g : List Rl) (i : Nat) (r : Rl), gcode i g = 0 → rc r ((i : Int) + g.length + 1) = 0 → gcode i (g ++ [r]) = 0
  | [], i, r, _, h => by
    have := gcode_ok (g := List.replicate i r ++ [r]) (i := i) (r := r) (by simp) (by simpa using h)
    rw [show (List.replicate i r ++ [r]).drop i = [r] by simp] at this
    show gcode i [r] = 0
    rw [this]
    rw [show (List.replicate i r ++ [r]).drop (i + 1) = [] by simp]; rfl
  | a :: g, i, r, h, h2 => by
    have hc : rc a ((i : Int) + 1) = 0 := by
      have := gcode_at (a :: g) i h 0 a rfl
      simpa using this
    have step : ∀ q : List Rl, gcode i (a :: q) = gcode (i + 1) q := by
      intro q
      have := gcode_ok (g := List.replicate i a ++ a :: q) (i := i) (r := a) (by simp) hc
      rw [show (List.replicate i a ++ a :: q).drop i = a :: q by simp] at this
      rw [show (List.replicate i a ++ a :: q).drop (i + 1) = q by rw [← List.drop_drop]; simp] at this
      exact this
    show gcode i (a :: (g ++ [r])) = 0
    rw [step]
    refine gcode_snoc g (i + 1) r ((step g).symm.trans h) ?_
    rw [show (((i + 1 : Nat) : Int) + g.length + 1) = ((i : Int) + (a :: g).length + 1) by simp; omega]
    exact h2
theorem decFrom_only : ∀ (k : Nat) (i : Nat) (l : List Int) (acc : List Rl) (g : List Rl) (rest : List Int), U8s l → acc.length = i → gcode 0 acc = 0 → Tm acc →
    decFrom k ((i : Int) + 1) l acc = some (g, rest) → gcode 0 g = 0 ∧ Tm g ∧ g.length = i + k ∧ encFrom 0 acc ++ l = encFrom 0 g ++ rest
  | 0, i, l, acc, g, rest, hb, ha, h0, ht, h => by
    simp only [decFrom, Option.some.injEq, Prod.mk.injEq] at h
    obtain ⟨rfl, rfl⟩ := h
    exact ⟨h0, ht, ha, rfl⟩
  | k + 1, i, l, acc, g, rest, hb, ha, h0, ht, h => by
    have hw := tk_way l ((i : Int) + 1)
    unfold decFrom at h
    by_cases hz : (tkR l ((i : Int) + 1)).2.2 = 0
    · rw [if_pos hz] at h
      obtain ⟨q, hq, ho⟩ := tk_only l _ hb _ hw hz
      rw [hq] at h
      obtain ⟨r, hr⟩ : ∃ r, (tkR l ((i : Int) + 1)).1 = r := ⟨_, rfl⟩
      rw [hr] at h ho
      have hc : rc r ((i : Int) + 1) = 0 := ho.ok
      have e1 : ((i : Int) + 1 + 1) = (((i + 1 : Nat) : Int) + 1) := by omega
      rw [e1] at h
      obtain ⟨h1, h2, h3, h4⟩ := decFrom_only k (i + 1) (l.drop q) (acc ++ [r]) g rest (hb.drop q) (by simp [ha])
        (gcode_snoc acc 0 r h0 (by rw [show (((0 : Nat) : Int) + acc.length + 1) = ((i : Int) + 1) by omega]; exact hc))
        (fun x hx => by
          rcases List.mem_append.1 hx with hx | hx
          · exact ht x hx
          · simp at hx; subst hx; exact ho.tm1) h
      refine ⟨h1, h2, by omega, ?_⟩
      rw [← h4, encFrom_snoc, List.append_assoc]
      congr 1
      have e2 : enc1 r (((0 : Nat) : Int) + acc.length + 1) = l.take q := by
        rw [show (((0 : Nat) : Int) + acc.length + 1) = ((i : Int) + 1) by omega]
        exact ho.enc
      rw [e2, List.take_append_drop]
    · rw [if_neg hz] at h; cases h
theorem dec_only (l : List Int) (g : List Rl) (hb : U8s l) (h : decG l = some g) : gcode 0 g = 0 ∧ Tm g ∧ encG g = l ∧ g.length ≤ l.length := by
  cases hv : vt 9 true l with
  | none => rw [decG_none hv] at h; cases h
  | some p =>
    obtain ⟨n, k⟩ := p
    by_cases hl : l.length < n
    · rw [decG_large hv hl] at h; cases h
    · rw [decG_from hv hl] at h
      obtain ⟨v1, v2, v3, _⟩ := vt_only 9 true l n k hb hv
      cases hd : decFrom n 1 (l.drop k) [] with
      | none => rw [hd] at h; cases h
      | some x =>
        obtain ⟨g2, rest⟩ := x
        rw [hd] at h
        cases rest with
        | cons a b => cases h
        | nil =>
          cases h
          obtain ⟨a1, a2, a3, a4⟩ := decFrom_only n 0 (l.drop k) [] g [] (hb.drop k) rfl rfl (fun x hx => by cases hx) hd
          simp only [Nat.zero_add] at a3
          refine ⟨a1, a2, ?_, by omega⟩
          simp only [encFrom, List.nil_append, List.append_nil] at a4
          unfold encG
          rw [← a4, a3, ← v1, List.take_append_drop]
theorem encG_pos (g : List Rl) : 1 ≤ (encG g).length := by
  unfold encG
  have : 1 ≤ (vput g.length).length := by
    by_cases h : g.length < 128
    · rw [vput_lt h]; simp
    · rw [vput_ge h]; simp
  rw [List.length_append]; omega
/-- the encoding less its last byte is not read -/
theorem dec_less (g : List Rl) (hn : g.length ≤ 1000000) (hg : gcode 0 g = 0) (ht : Tm g) (hb : U8s (encG g)) (hl : (encG g).length ≤ 1000000) : decG ((encG g).take ((encG g).length - 1)) = none := by
  cases h : decG ((encG g).take ((encG g).length - 1)) with
  | none => rfl
  | some q =>
    obtain ⟨b1, b2, b3, b4⟩ := dec_only _ q (hb.take _) h
    have hp := encG_pos g
    have e1 := dec_back g [] hn hg ht
    have e2 := dec_back q ((encG g).drop ((encG g).length - 1)) (by rw [List.length_take] at b4; omega) b1 b2
    rw [b3, List.take_append_drop] at e2
    rw [List.append_nil] at e1
    rw [e1, if_pos rfl, if_neg (by intro h; have := congrArg List.length h; simp at this; omega)] at e2
    cases e2
end Go.Proofs.Ytcbahojefglakaa
