/- Plain laws: grammars made of grammars: codes, texts, lengths (split out of GrJoinPlain and GrJoinPlain2). -/
import Derived.Test.YtcbahojefglakaaGrExpAny
namespace Go.Proofs.Ytcbahojefglakaa
set_option linter.unusedVariables false
set_option linter.unusedSimpArgs false
theorem rc_letter (lt n : Int) (h : 1 ≤ n) : rc ⟨1, lt, 0, 0, 0⟩ n = 0 := by simp [rc, checkCode, formedB, refsOf, placeCode, rangedB, inB, h]
theorem rc_pair (a b n : Int) (h1 : 1 ≤ a) (h2 : a < n) (h3 : 1 ≤ b) (h4 : b < n) : rc ⟨2, 0, a, b, 0⟩ n = 0 := by
  simp [rc, checkCode, formedB, refsOf, placeCode, rangedB, inB, h1, h3]; omega
theorem rc_power (a tm n : Int) (h1 : 1 ≤ a) (h2 : a < n) (h3 : 2 ≤ tm) : rc ⟨3, 0, a, 0, tm⟩ n = 0 := by
  simp [rc, checkCode, formedB, refsOf, placeCode, rangedB, inB, h1, h3]; omega
theorem gcode_app : ∀ (g g' : List Rl) (i : Nat), gcode i g = 0 → gcode i (g ++ g') = gcode (i + g.length) g'
  | [], g', i, _ => rfl
  | r :: g, g', i, h => by
    have e : gcode i (r :: g) = if rc r (i + 1) = 0 then gcode (i + 1) g else rc r (i + 1) := rfl
    have e2 : gcode i (r :: g ++ g') = if rc r (i + 1) = 0 then gcode (i + 1) (g ++ g') else rc r (i + 1) := rfl
    rw [e] at h
    by_cases h0 : rc r (i + 1) = 0
    · rw [if_pos h0] at h
      rw [e2, if_pos h0, gcode_app g g' (i + 1) h]
      congr 1
      simp; omega
    · rw [if_neg h0] at h; exact absurd h h0
theorem gcode_all : ∀ (g : List Rl) (i : Nat), (∀ (k : Nat) (r : Rl), g[k]? = some r → rc r ((i : Int) + (k : Int) + 1) = 0) → gcode i g = 0
  | [], i, _ => rfl
  | r :: g, i, h => by
    have e : gcode i (r :: g) = if rc r (i + 1) = 0 then gcode (i + 1) g else rc r (i + 1) := rfl
    have h0 := h 0 r rfl
    rw [show (i : Int) + ((0 : Nat) : Int) + 1 = (i : Int) + 1 by omega] at h0
    rw [e, if_pos h0]
    refine gcode_all g (i + 1) fun k r' hr => ?_
    have := h (k + 1) r' hr
    rw [show (((i + 1 : Nat)) : Int) + (k : Int) + 1 = (i : Int) + ((k + 1 : Nat) : Int) + 1 by omega]
    exact this
section
variable {α : Type} {f : List α → Rl → α}
theorem fwd_app : ∀ (g g' : List Rl) (acc : List α), fwd f acc (g ++ g') = fwd f (fwd f acc g) g'
  | [], g', acc => rfl
  | r :: g, g', acc => fwd_app g g' (acc ++ [f acc r])
end
theorem getD_add {α : Type} (T acc : List α) (a : Nat) (d : α) : (T ++ acc).getD (T.length + a) d = acc.getD a d := by
  rw [List.getD_eq_getElem?_getD, List.getD_eq_getElem?_getD, List.getElem?_append_right (by omega), Nat.add_sub_cancel_left]
theorem one_sub (a : Nat) : ((a : Int) + 1 - 1).toNat = a := by omega
theorem lensFrom_app : ∀ (g g' : List Rl) (acc L : List Int), lensFrom acc g = (L, 0) → lensFrom acc (g ++ g') = lensFrom L g'
  | [], g', acc, L, h => by cases h; rfl
  | r :: g, g', acc, L, h => by
    have e1 : lensFrom acc (r :: g) = if (len1 acc r).2 = 0 then lensFrom (acc ++ [(len1 acc r).1]) g else ([], (len1 acc r).2) := rfl
    have e2 : lensFrom acc (r :: g ++ g') = if (len1 acc r).2 = 0 then lensFrom (acc ++ [(len1 acc r).1]) (g ++ g') else ([], (len1 acc r).2) := rfl
    rw [e1] at h
    by_cases h0 : (len1 acc r).2 = 0
    · rw [if_pos h0] at h
      rw [e2, if_pos h0]; exact lensFrom_app g g' _ L h
    · rw [if_neg h0] at h; exact absurd (congrArg Prod.snd h) h0
/-- a valid grammar of not too long texts, and its text -/
structure Good (g : List Rl) (X : List Int) : Prop where
  code : gcode 0 g = 0
  lens : (lens g).2 = 0
  nil : g.length = 0 → X = []
  last : g.length ≠ 0 → X = tx g (g.length - 1)
theorem good_of_ex {g : List Rl} {most : Int} (h : (exOut g most).2 = 0) : Good g (exOut g most).1 ∧ ((exOut g most).1.length : Int) ≤ clipI most 0 65536 := by
  unfold exOut at h ⊢
  by_cases h0 : (lens g).2 = 0
  · have q : ¬ (lens g).2 ≠ 0 := by simp [h0]
    rw [if_neg q] at h ⊢
    by_cases hz : g.length = 0
    · rw [if_pos hz] at h ⊢
      exact ⟨⟨lens_g h0, h0, fun _ => rfl, fun e => absurd hz e⟩, (clip_hi most).1⟩
    · rw [if_neg hz] at h ⊢
      by_cases hc : clipI most 0 65536 < (tx g (g.length - 1)).length
      · rw [if_pos hc] at h; simp at h
      · rw [if_neg hc]
        exact ⟨⟨lens_g h0, h0, fun e => absurd e hz, fun _ => rfl⟩, by simpa using hc⟩
  · rw [if_pos h0] at h; exact absurd h h0
theorem ex_of_good {g : List Rl} {X : List Int} {most : Int} (h : Good g X) (hc : (X.length : Int) ≤ clipI most 0 65536) : exOut g most = (X, 0) := by
  unfold exOut
  rw [if_neg (by simp [h.lens])]
  by_cases hz : g.length = 0
  · rw [if_pos hz, h.nil hz]
  · rw [if_neg hz, ← h.last hz, if_neg (by omega)]
theorem lenAdd_small {a b : Int} (a0 : 0 ≤ a) (a1 : a ≤ 100000) (b0 : 0 ≤ b) (b1 : b ≤ 100000) : lenAdd a b = (a + b, 0) := by
  unfold lenAdd
  rw [if_pos (by rw [vld_yes a a0 (by omega), vld_yes b b0 (by omega)]; rfl), if_pos (by omega)]
theorem lenMul_small {a k : Int} (a0 : 0 ≤ a) (a1 : a ≤ 100000) (b0 : 0 ≤ k) (b1 : k ≤ 1000) : lenMul a k = (a * k, 0) := by
  have : a * k ≤ 100000 * 1000 := Int.mul_le_mul a1 b1 b0 (by omega)
  unfold lenMul
  rw [if_pos (by rw [vld_yes a a0 (by omega), decide_eq_true b0]; rfl), if_pos (by omega)]
theorem texts_len (g : List Rl) : (texts g).length = g.length := by unfold texts; rw [fwd_len]; simp
theorem lens_from {g : List Rl} (hv : gcode 0 g = 0) (h0 : (lens g).2 = 0) : lensFrom [] g = ((lens g).1, 0) := by
  rw [← lens_ok hv, ← h0]
theorem getD_app {α : Type} (T acc : List α) (a : Nat) (d : α) (h : a < T.length) : (T ++ acc).getD a d = T.getD a d := by
  rw [List.getD_eq_getElem?_getD, List.getD_eq_getElem?_getD, List.getElem?_append_left h]
theorem last_len {g : List Rl} {X : List Int} (h : Good g X) (hz : g.length ≠ 0) : (lens g).1.getD (g.length - 1) 0 = X.length := by
  rw [(lens_text h.code h.lens).2 _ _ (List.getElem?_eq_getElem (show g.length - 1 < g.length by omega)), ← h.last hz]
/-- one rule more -/
theorem good_snoc {G : List Rl} {T : List (List Int)} {L : List Int} {p : Rl} {Z : List Int} {v : Int} (hv : gcode 0 G = 0) (hT : texts G = T) (hL : lensFrom [] G = (L, 0)) (hp : rc p ((G.length : Int) + 1) = 0) (h1 : len1 L p = (v, 0)) (h2 : tx1 T p = Z) : Good (G ++ [p]) Z := by
  have hc : gcode 0 (G ++ [p]) = 0 := by
    rw [gcode_app G [p] 0 hv, Nat.zero_add]
    show (if rc p (G.length + 1) = 0 then gcode (G.length + 1) [] else rc p (G.length + 1)) = 0
    rw [if_pos hp]; rfl
  have ht : texts (G ++ [p]) = T ++ [Z] := by
    unfold texts; rw [fwd_app]
    show fwd tx1 (texts G) [p] = _
    rw [hT]; show T ++ [tx1 T p] = _; rw [h2]
  refine ⟨hc, ?_, fun e => by simp at e, fun _ => ?_⟩
  · rw [lens_ok hc, lensFrom_app G [p] [] L hL]
    show (if (len1 L p).2 = 0 then lensFrom (L ++ [(len1 L p).1]) [] else ([], (len1 L p).2)).2 = 0
    rw [h1]; rfl
  · unfold tx
    have hlen : T.length = G.length := by rw [← hT, texts_len]
    rw [ht, List.length_append, List.length_singleton, Nat.add_sub_cancel, ← hlen]
    have := getD_add T [Z] 0 []
    rw [Nat.add_zero] at this
    rw [this]; rfl
end Go.Proofs.Ytcbahojefglakaa
