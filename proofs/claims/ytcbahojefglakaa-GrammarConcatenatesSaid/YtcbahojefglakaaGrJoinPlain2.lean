/- Plain laws: the text of Join and of Repeat. -/
import Derived.Test.YtcbahojefglakaaGrJoinPlain
namespace Go.Proofs.Ytcbahojefglakaa
set_option linter.unusedVariables false
set_option linter.unusedSimpArgs false
/-- a valid grammar of not too long texts, and its text -/
structure Good (g : List Rl) (X : List Int) : Prop where
  code : gcode 0 g = 0
  lens : (lens g).2 = 0
  nil : g.length = 0 → X = []
  last : g.length ≠ 0 → X = tx g (g.length - 1)
theorem good_of_ex {g : List Rl} {most : Int} (h : (exOut g most).2 = 0) : Good g (exOut g most).1 ∧ ((exOut g most).1.length : Int) ≤ clipI most 0 65536 := by
  unfold exOut at h ⊢
  by_cases h0 : (lens g).2 = 0
  · have q : ¬ (lens g).2 ≠ 0 := by simp [h0]
    rw [if_neg q] at h ⊢
    by_cases hz : g.length = 0
    · rw [if_pos hz] at h ⊢
      exact ⟨⟨lens_g h0, h0, fun _ => rfl, fun e => absurd hz e⟩, (clip_hi most).1⟩
    · rw [if_neg hz] at h ⊢
      by_cases hc : clipI most 0 65536 < (tx g (g.length - 1)).length
      · rw [if_pos hc] at h; simp at h
      · rw [if_neg hc]
        exact ⟨⟨lens_g h0, h0, fun e => absurd e hz, fun _ => rfl⟩, by simpa using hc⟩
  · rw [if_pos h0] at h; exact absurd h h0
theorem ex_of_good {g : List Rl} {X : List Int} {most : Int} (h : Good g X) (hc : (X.length : Int) ≤ clipI most 0 65536) : exOut g most = (X, 0) := by
  unfold exOut
  rw [if_neg (by simp [h.lens])]
  by_cases hz : g.length = 0
  · rw [if_pos hz, h.nil hz]
  · rw [if_neg hz, ← h.last hz, if_neg (by omega)]
theorem lenAdd_small {a b : Int} (a0 : 0 ≤ a) (a1 : a ≤ 100000) (b0 : 0 ≤ b) (b1 : b ≤ 100000) : lenAdd a b = (a + b, 0) := by
  unfold lenAdd
  rw [if_pos (by rw [vld_yes a a0 (by omega), vld_yes b b0 (by omega)]; rfl), if_pos (by omega)]
theorem lenMul_small {a k : Int} (a0 : 0 ≤ a) (a1 : a ≤ 100000) (b0 : 0 ≤ k) (b1 : k ≤ 1000) : lenMul a k = (a * k, 0) := by
  have : a * k ≤ 100000 * 1000 := Int.mul_le_mul a1 b1 b0 (by omega)
  unfold lenMul
  rw [if_pos (by rw [vld_yes a a0 (by omega), decide_eq_true b0]; rfl), if_pos (by omega)]
theorem texts_len (g : List Rl) : (texts g).length = g.length := by unfold texts; rw [fwd_len]; simp
theorem lens_from {g : List Rl} (hv : gcode 0 g = 0) (h0 : (lens g).2 = 0) : lensFrom [] g = ((lens g).1, 0) := by
  rw [← lens_ok hv, ← h0]
theorem getD_app {α : Type} (T acc : List α) (a : Nat) (d : α) (h : a < T.length) : (T ++ acc).getD a d = T.getD a d := by
  rw [List.getD_eq_getElem?_getD, List.getD_eq_getElem?_getD, List.getElem?_append_left h]
theorem last_len {g : List Rl} {X : List Int} (h : Good g X) (hz : g.length ≠ 0) : (lens g).1.getD (g.length - 1) 0 = X.length := by
  rw [(lens_text h.code h.lens).2 _ _ (List.getElem?_eq_getElem (show g.length - 1 < g.length by omega)), ← h.last hz]
/-- one rule more -/
theorem good_snoc {G : List Rl} {T : List (List Int)} {L : List Int} {p : Rl} {Z : List Int} {v : Int} (hv : gcode 0 G = 0) (hT : texts G = T) (hL : lensFrom [] G = (L, 0)) (hp : rc p ((G.length : Int) + 1) = 0) (h1 : len1 L p = (v, 0)) (h2 : tx1 T p = Z) : Good (G ++ [p]) Z := by
  have hc : gcode 0 (G ++ [p]) = 0 := by
    rw [gcode_app G [p] 0 hv, Nat.zero_add]
    show (if rc p (G.length + 1) = 0 then gcode (G.length + 1) [] else rc p (G.length + 1)) = 0
    rw [if_pos hp]; rfl
  have ht : texts (G ++ [p]) = T ++ [Z] := by
    unfold texts; rw [fwd_app]
    show fwd tx1 (texts G) [p] = _
    rw [hT]; show T ++ [tx1 T p] = _; rw [h2]
  refine ⟨hc, ?_, fun e => by simp at e, fun _ => ?_⟩
  · rw [lens_ok hc, lensFrom_app G [p] [] L hL]
    show (if (len1 L p).2 = 0 then lensFrom (L ++ [(len1 L p).1]) [] else ([], (len1 L p).2)).2 = 0
    rw [h1]; rfl
  · unfold tx
    have hlen : T.length = G.length := by rw [← hT, texts_len]
    rw [ht, List.length_append, List.length_singleton, Nat.add_sub_cancel, ← hlen]
    have := getD_add T [Z] 0 []
    rw [Nat.add_zero] at this
    rw [this]; rfl
theorem good_join {g h : List Rl} {X Y : List Int} (hg : Good g X) (hh : Good h Y) (hn : g.length ≤ 1000) (hm : h.length ≤ 1000) (hx : X.length ≤ 1000) (hy : Y.length ≤ 1000) : Good (joined g h) (X ++ Y) := by
  unfold joined
  by_cases h1 : g.length = 0
  · rw [if_pos h1, hg.nil h1]; exact hh
  · rw [if_neg h1]
    by_cases h2 : h.length = 0
    · rw [if_pos h2, hh.nil h2, List.append_nil]; exact hg
    · rw [if_neg h2]
      have hT : texts (g ++ h.map (mvd g.length)) = texts g ++ texts h := by
        unfold texts; rw [fwd_app]
        have := fwd_moved hh.code (by omega) (texts g) (by rw [texts_len]; omega) h.length 0 [] (by omega) rfl
        rw [List.drop_zero, texts_len, List.append_nil] at this
        exact this
      have hL : lensFrom [] (g ++ h.map (mvd g.length)) = ((lens g).1 ++ (lens h).1, 0) := by
        rw [lensFrom_app g _ [] _ (lens_from hg.code hg.lens)]
        have hl := (lens_text hg.code hg.lens).1
        have := lens_moved hh.code (by omega) (lens g).1 (by omega) h.length 0 [] _ (by omega) rfl (by rw [List.drop_zero]; exact lens_from hh.code hh.lens)
        rw [List.drop_zero, List.append_nil, hl] at this
        exact this
      have hv : gcode 0 (g ++ h.map (mvd g.length)) = 0 := by rw [gcode_app g _ 0 hg.code, Nat.zero_add]; exact gcode_moved hh.code (by omega) (by omega)
      have lg := (lens_text hg.code hg.lens).1
      have lastg := last_len hg h1
      have lasth := last_len hh h2
      have e1 : ((g.length : Int) - 1).toNat = g.length - 1 := by omega
      have e2 : (((g.length + h.length : Nat) : Int) - 1).toNat = g.length + (h.length - 1) := by omega
      refine good_snoc hv hT hL (v := (X.length : Int) + Y.length) ?_ ?_ ?_
      · exact rc_pair _ _ _ (by omega) (by simp; omega) (by omega) (by simp; omega)
      · rw [len1_pair _ rfl]
        simp only []
        rw [e1, e2, getD_app _ _ _ _ (by omega), lastg]
        have := getD_add (lens g).1 (lens h).1 (h.length - 1) 0
        rw [lg] at this
        rw [this, lasth]
        exact lenAdd_small (by omega) (by omega) (by omega) (by omega)
      · unfold tx1
        rw [if_pos rfl]
        simp only []
        rw [e1, e2, getD_app _ _ _ _ (by rw [texts_len]; omega)]
        have := getD_add (texts g) (texts h) (h.length - 1) []
        rw [texts_len] at this
        rw [this, hg.last h1, hh.last h2]
        rfl
theorem good_rep {g : List Rl} {X : List Int} {k : Int} (hg : Good g X) (hn : g.length ≤ 1000) (hz : g.length ≠ 0) (hx : X.length ≤ 1000) (k1 : 1 < k) (k2 : k ≤ 1000) : Good (g ++ [⟨3, 0, (g.length : Int), 0, k⟩]) ((List.replicate k.toNat X).flatten) := by
  have e1 : ((g.length : Int) - 1).toNat = g.length - 1 := by omega
  refine good_snoc hg.code rfl (lens_from hg.code hg.lens) (v := (X.length : Int) * k) ?_ ?_ ?_
  · exact rc_power _ _ _ (by omega) (by omega) (by omega)
  · rw [len1_power _ rfl]
    simp only []
    rw [e1, last_len hg hz]
    exact lenMul_small (by omega) (by omega) (by omega) k2
  · unfold tx1
    rw [if_neg (by simp), if_pos rfl]
    simp only []
    rw [e1, hg.last hz]; rfl
end Go.Proofs.Ytcbahojefglakaa
