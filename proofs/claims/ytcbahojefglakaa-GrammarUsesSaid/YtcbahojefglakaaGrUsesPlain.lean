/- Plain laws of Uses: how often each rule occurs. -/
import Derived.Test.YtcbahojefglakaaGrDepLaw
namespace Go.Proofs.Ytcbahojefglakaa
set_option linter.unusedVariables false
set_option linter.unusedSimpArgs false
/-- a finite sum -/
def sm : Nat → (Nat → Int) → Int
  | 0, _ => 0
  | n + 1, f => sm n f + f n
theorem sm_congr {f f' : Nat → Int} : ∀ (n : Nat), (∀ j, j < n → f j = f' j) → sm n f = sm n f'
  | 0, _ => rfl
  | n + 1, h => by
    show sm n f + f n = sm n f' + f' n
    rw [sm_congr n (fun j hj => h j (by omega)), h n (by omega)]
theorem sm_plus (f d : Nat → Int) : ∀ (n : Nat), sm n (fun j => f j + d j) = sm n f + sm n d
  | 0 => rfl
  | n + 1 => by
    show sm n (fun j => f j + d j) + (f n + d n) = (sm n f + f n) + (sm n d + d n)
    rw [sm_plus f d n]; omega
theorem sm_zero {f : Nat → Int} : ∀ (n : Nat), (∀ j, j < n → f j = 0) → sm n f = 0
  | 0, _ => rfl
  | n + 1, h => by
    show sm n f + f n = 0
    rw [sm_zero n (fun j hj => h j (by omega)), h n (by omega)]; rfl
theorem sm_one (a : Nat) (y : Int) : ∀ (n : Nat), a < n → sm n (fun j => if j = a then y else 0) = y
  | n + 1, h => by
    show sm n (fun j => if j = a then y else 0) + (if n = a then y else 0) = y
    by_cases e : n = a
    · rw [if_pos e, sm_zero n (fun j hj => if_neg (by omega))]; omega
    · rw [if_neg e, sm_one a y n (by omega)]; omega
theorem sm_pos {f : Nat → Int} : ∀ (n : Nat), (∀ j, j < n → 0 ≤ f j) → 0 ≤ sm n f
  | 0, _ => Int.le_refl _
  | n + 1, h => by
    show 0 ≤ sm n f + f n
    have := sm_pos n (fun j hj => h j (by omega)); have := h n (by omega); omega
theorem sm_mono {f : Nat → Int} {m : Nat} : ∀ (n : Nat), m ≤ n → (∀ j, j < n → 0 ≤ f j) → sm m f ≤ sm n f
  | 0, hm, _ => by have : m = 0 := by omega
                   subst this; exact Int.le_refl _
  | n + 1, hm, h => by
    by_cases e : m = n + 1
    · subst e; exact Int.le_refl _
    · show sm m f ≤ sm n f + f n
      have h1 : sm m f ≤ sm n f := sm_mono n (by omega) (fun j hj => h j (by omega))
      have h2 := h n (by omega)
      omega
theorem sm_ge {f : Nat → Int} {a : Nat} : ∀ (n : Nat), a < n → (∀ j, j < n → 0 ≤ f j) → f a ≤ sm n f
  | n + 1, ha, h => by
    show f a ≤ sm n f + f n
    by_cases e : a = n
    · subst e; have := sm_pos a (fun j hj => h j (by omega)); omega
    · have h1 : f a ≤ sm n f := sm_ge n (by omega) (fun j hj => h j (by omega))
      have h2 := h n (by omega)
      omega
/-- 1 at a letter -/
def ltr (g : List Rl) (j : Nat) : Int := match g[j]? with
  | some r => if r.kd = 1 then 1 else 0
  | none => 0
theorem ltr_at {g : List Rl} {j : Nat} {r : Rl} (h : g[j]? = some r) : ltr g j = if r.kd = 1 then 1 else 0 := by unfold ltr; rw [h]
theorem ltr_pos (g : List Rl) (j : Nat) : 0 ≤ ltr g j := by unfold ltr; split <;> (try split) <;> omega
def ln (g : List Rl) (j : Nat) : Int := ((tx g j).length : Int)
def wt (g : List Rl) (i j : Nat) : Int := if j < i then ln g j else ltr g j
theorem wt_pos (g : List Rl) (i j : Nat) : 0 ≤ wt g i j := by
  unfold wt ln; split
  · omega
  · exact ltr_pos g j
def up (o : List Int) (a : Nat) (x : Int) : List Int := o.set a (o.getD a 0 + x)
theorem up_len (o : List Int) (a : Nat) (x : Int) : (up o a x).length = o.length := by simp [up]
theorem lset_getD {o : List Int} {a j : Nat} {v : Int} (h : a < o.length) : (o.set a v).getD j 0 = if j = a then v else o.getD j 0 := by
  rw [List.getD_eq_getElem?_getD, List.getD_eq_getElem?_getD, List.getElem?_set]
  by_cases e : a = j
  · subst e; rw [if_pos rfl, if_pos h, if_pos rfl]; rfl
  · rw [if_neg e, if_neg (fun h => e h.symm)]
theorem up_at {o : List Int} {a j : Nat} {x : Int} (h : a < o.length) : (up o a x).getD j 0 = o.getD j 0 + if j = a then x else 0 := by
  unfold up
  rw [lset_getD h]
  by_cases e : j = a
  · subst e; rw [if_pos rfl, if_pos rfl]
  · rw [if_neg e, if_neg e]; omega
structure UInv (g : List Rl) (n : Nat) (T : Int) (i : Nat) (o : List Int) : Prop where
  len : o.length = n
  pos : ∀ j, 0 ≤ o.getD j 0
  le : ∀ j, o.getD j 0 ≤ T
  sum : sm n (fun j => o.getD j 0 * wt g i j) = T
section
variable {g : List Rl} {n i : Nat} {T : Int} {o : List Int}
theorem mul_if (p : Prop) [Decidable p] (x y : Int) : (if p then x else 0) * y = if p then x * y else 0 := by split <;> simp
/-- one more rule done: what it gives to those behind it has its own length -/
theorem UInv.step (hg : gcode 0 g = 0) (h : UInv g n T (i + 1) o) (hn : g.length = n) (hi : i < n) {o' : List Int} {x : Int} (a b : Nat) (xa xb : Int) (ha : a < i) (hb : b < i) (hx : x = o.getD i 0) (xa0 : 0 ≤ xa) (xb0 : 0 ≤ xb)
    (ho : o'.length = n) (he : ∀ j, o'.getD j 0 = o.getD j 0 + (if j = a then xa else 0) + (if j = b then xb else 0)) (hl : ltr g i = 0) (hw : x * ln g i = xa * ln g a + xb * ln g b) : UInv g n T i o' := by
  have pos : ∀ j, 0 ≤ o'.getD j 0 := by
    intro j; rw [he]; have := h.pos j; split <;> split <;> omega
  have sum : sm n (fun j => o'.getD j 0 * wt g i j) = T := by
    have e : sm n (fun j => o'.getD j 0 * wt g i j) = sm n (fun j => (o.getD j 0 * wt g (i + 1) j) + (((if j = i then -(x * ln g i) else 0) + (if j = a then xa * ln g a else 0)) + (if j = b then xb * ln g b else 0))) := by
      refine sm_congr n fun j hj => ?_
      rw [he]
      by_cases h1 : j < i
      · have e1 : wt g i j = ln g j := if_pos h1
        have e2 : wt g (i + 1) j = ln g j := if_pos (by omega)
        rw [e1, e2, if_neg (show ¬ j = i by omega), Int.add_mul, Int.add_mul, mul_if, mul_if]
        have q1 : (if j = a then xa * ln g j else 0) = if j = a then xa * ln g a else 0 := by
          by_cases e : j = a
          · subst e; rfl
          · rw [if_neg e, if_neg e]
        have q2 : (if j = b then xb * ln g j else 0) = if j = b then xb * ln g b else 0 := by
          by_cases e : j = b
          · subst e; rfl
          · rw [if_neg e, if_neg e]
        rw [q1, q2]; omega
      · rw [if_neg (show ¬ j = a by omega), if_neg (show ¬ j = b by omega), if_neg (show ¬ j = a by omega), if_neg (show ¬ j = b by omega)]
        have e1 : wt g i j = ltr g j := if_neg h1
        rw [e1]
        by_cases h2 : j = i
        · subst h2
          have e2 : wt g (j + 1) j = ln g j := if_pos (by omega)
          rw [e2, hl, if_pos rfl, ← hx, Int.mul_zero]; omega
        · have e2 : wt g (i + 1) j = ltr g j := if_neg (by omega)
          rw [e2, if_neg h2]; simp
    rw [e, sm_plus, sm_plus, sm_plus, h.sum, sm_one i _ n hi, sm_one a _ n (by omega), sm_one b _ n (by omega)]
    omega
  refine ⟨ho, pos, fun j => ?_, sum⟩
  by_cases hj : j < i
  · have h1 := sm_ge (f := fun j => o'.getD j 0 * wt g i j) n (show j < n by omega) (fun k _ => Int.mul_nonneg (pos k) (wt_pos g i k))
    rw [sum] at h1
    have e1 : wt g i j = ln g j := if_pos hj
    simp only [e1] at h1
    have h2 : 1 ≤ ln g j := by
      have := tx_pos hg j _ (List.getElem?_eq_getElem (show j < g.length by omega)); unfold ln; omega
    have h3 := Int.mul_le_mul_of_nonneg_left h2 (pos j)
    omega
  · rw [he, if_neg (by omega), if_neg (by omega)]; have := h.le j; omega
theorem UInv.letter {lt : Int} (h : UInv g n T (i + 1) o) (hr : g[i]? = some ⟨1, lt, 0, 0, 0⟩) : UInv g n T i o := by
  refine ⟨h.len, h.pos, h.le, ?_⟩
  rw [← h.sum]
  refine sm_congr n fun j _ => ?_
  have : wt g i j = wt g (i + 1) j := by
    unfold wt
    by_cases h1 : j < i
    · rw [if_pos h1, if_pos (by omega)]
    · by_cases h2 : j = i
      · subst h2
        rw [if_neg h1, if_pos (by omega), ltr_at hr]
        unfold ln; rw [tx_letter hr]; rfl
      · rw [if_neg h1, if_neg (by omega)]
  rw [this]
theorem UInv.pair (hg : gcode 0 g = 0) (h : UInv g n T (i + 1) o) (hn : g.length = n) {a b : Nat} (hr : g[i]? = some ⟨2, 0, (a : Int) + 1, (b : Int) + 1, 0⟩) (ha : a < i) (hb : b < i) :
    UInv g n T i (up (up o a (o.getD i 0)) b (o.getD i 0)) := by
  have hi : i < n := by rw [← hn]; exact (List.getElem?_eq_some_iff.1 hr).1
  refine h.step hg hn hi (x := o.getD i 0) a b (o.getD i 0) (o.getD i 0) ha hb rfl (h.pos i) (h.pos i) (by rw [up_len, up_len, h.len]) (fun j => ?_) (by rw [ltr_at hr]; rfl) ?_
  · rw [up_at (by rw [up_len, h.len]; omega), up_at (by rw [h.len]; omega)]
  · unfold ln; rw [tx_pair hr ha hb, List.length_append, Int.natCast_add, Int.mul_add]
theorem UInv.power (hg : gcode 0 g = 0) (h : UInv g n T (i + 1) o) (hn : g.length = n) {a : Nat} {tm : Int} (hr : g[i]? = some ⟨3, 0, (a : Int) + 1, 0, tm⟩) (ha : a < i) (ht : 2 ≤ tm) :
    UInv g n T i (up o a (o.getD i 0 * tm)) := by
  have hi : i < n := by rw [← hn]; exact (List.getElem?_eq_some_iff.1 hr).1
  refine h.step hg hn hi (x := o.getD i 0) a a (o.getD i 0 * tm) 0 ha ha rfl (Int.mul_nonneg (h.pos i) (by omega)) (Int.le_refl _) (by rw [up_len, h.len]) (fun j => ?_) (by rw [ltr_at hr]; rfl) ?_
  · rw [up_at (by rw [h.len]; omega)]; have : (if j = a then (0 : Int) else 0) = 0 := by split <;> rfl
    omega
  · unfold ln
    rw [tx_power hr ha, List.length_flatten, List.map_replicate, List.sum_replicate_nat, Int.natCast_mul, Int.zero_mul, Int.add_zero, Int.mul_assoc, show ((tm.toNat : Nat) : Int) = tm by omega]
end
def ust (g : List Rl) (i : Nat) (o : List Int) : List Int := match g[i]? with
  | some r => if r.kd = 2 then up (up o (r.lf - 1).toNat (o.getD i 0)) (r.rg - 1).toNat (o.getD i 0) else if r.kd = 3 then up o (r.lf - 1).toNat (o.getD i 0 * r.tm) else o
  | none => o
def usesFrom (g : List Rl) : Nat → List Int → List Int
  | 0, o => o
  | i + 1, o => usesFrom g i (ust g i o)
def us0 (n : Nat) : List Int := (List.replicate n (0 : Int)).set (n - 1) 1
def uses (g : List Rl) : List Int := usesFrom g g.length (us0 g.length)
section
variable {g : List Rl} {i : Nat} {o : List Int} {a b : Nat} {lt tm : Int}
theorem ust_letter (hr : g[i]? = some ⟨1, lt, 0, 0, 0⟩) : ust g i o = o := by unfold ust; rw [hr]; rfl
theorem ust_pair (hr : g[i]? = some ⟨2, 0, (a : Int) + 1, (b : Int) + 1, 0⟩) : ust g i o = up (up o a (o.getD i 0)) b (o.getD i 0) := by
  unfold ust; rw [hr]
  show up (up o ((a : Int) + 1 - 1).toNat (o.getD i 0)) ((b : Int) + 1 - 1).toNat (o.getD i 0) = _
  rw [show ((a : Int) + 1 - 1).toNat = a by omega, show ((b : Int) + 1 - 1).toNat = b by omega]
theorem ust_power (hr : g[i]? = some ⟨3, 0, (a : Int) + 1, 0, tm⟩) : ust g i o = up o a (o.getD i 0 * tm) := by
  unfold ust; rw [hr]
  show up o ((a : Int) + 1 - 1).toNat (o.getD i 0 * tm) = _
  rw [show ((a : Int) + 1 - 1).toNat = a by omega]
end
/-- the length of the whole text -/
def tot (g : List Rl) : Int := if g.length = 0 then 0 else ln g (g.length - 1)
theorem inv_start (g : List Rl) (hg : gcode 0 g = 0) : UInv g g.length (tot g) g.length (us0 g.length) := by
  by_cases h0 : g.length = 0
  · have e : us0 g.length = [] := by rw [h0]; rfl
    have t : tot g = 0 := if_pos h0
    rw [e, t]
    exact ⟨h0.symm, fun j => by simp, fun j => by simp, by rw [h0]; rfl⟩
  · obtain ⟨m, hm⟩ : ∃ m, g.length = m + 1 := ⟨g.length - 1, by omega⟩
    have t : tot g = ln g m := by unfold tot; rw [if_neg h0, hm]; rfl
    have gd : ∀ j, (us0 g.length).getD j 0 = if j = m then 1 else 0 := by
      intro j
      unfold us0
      rw [hm, Nat.add_sub_cancel, lset_getD (by simp)]
      by_cases e : j = m
      · rw [if_pos e, if_pos e]
      · rw [if_neg e, if_neg e, List.getD_eq_getElem?_getD, List.getElem?_replicate]; split <;> rfl
    have p1 : 1 ≤ ln g m := by
      have := tx_pos hg m _ (List.getElem?_eq_getElem (show m < g.length by omega)); unfold ln; omega
    rw [t]
    refine ⟨by unfold us0; simp, fun j => by rw [gd]; split <;> omega, fun j => by rw [gd]; split <;> omega, ?_⟩
    rw [sm_congr (f' := fun j => if j = m then ln g m else 0) g.length (fun j hj => ?_), sm_one m _ _ (by omega)]
    rw [gd, mul_if]
    by_cases e : j = m
    · subst e; rw [if_pos rfl, if_pos rfl, Int.one_mul]; exact if_pos hj
    · rw [if_neg e, if_neg e]
theorem inv_uses (g : List Rl) (hg : gcode 0 g = 0) : UInv g g.length (tot g) 0 (uses g) := by
  have key : ∀ (i : Nat) (o : List Int), i ≤ g.length → UInv g g.length (tot g) i o → UInv g g.length (tot g) 0 (usesFrom g i o) := by
    intro i
    induction i with
    | zero => intro o _ h; exact h
    | succ i ih =>
      intro o hi h
      refine ih _ (by omega) ?_
      have hr : g[i]? = some (g[i]'(by omega)) := List.getElem?_eq_getElem _
      rcases rule_way' hg hr with ⟨lt, e⟩ | ⟨a, b, e, ha, hb⟩ | ⟨a, tm, e, ha, ht⟩
      · rw [e] at hr; rw [ust_letter hr]; exact h.letter hr
      · rw [e] at hr; rw [ust_pair hr]; exact h.pair hg rfl hr ha hb
      · rw [e] at hr; rw [ust_power hr]; exact h.power hg rfl hr ha ht
  exact key _ _ (Nat.le_refl _) (inv_start g hg)
theorem lens_le {g : List Rl} (h0 : (lens g).2 = 0) {i : Nat} (hi : i < g.length) : ln g i ≤ 1152921504606846976 := by
  have hg := lens_g h0
  have hr : g[i]? = some (g[i]'hi) := List.getElem?_eq_getElem _
  have h1 := (lens_text hg h0).2 i _ hr
  rw [lens_ok hg] at h0 h1
  obtain ⟨L, hL⟩ : ∃ L, lensFrom [] g = (L, 0) := ⟨(lensFrom [] g).1, by rw [← h0]⟩
  rw [hL] at h1
  obtain ⟨h2, h3⟩ := lens_at g [] L hL
  have h4 := fwd_at0 (f := fun acc r => (len1 acc r).1) g i _ hr
  rw [← h2] at h4
  have h5 := h3 i _ hr
  rw [List.length_nil, Nat.zero_add] at h5
  have h6 : (len1 (L.take i) g[i]).1 ≤ 1152921504606846976 := by
    unfold len1 at h5 ⊢
    split
    · rename_i q; rw [if_pos q] at h5
      unfold lenAdd at h5 ⊢
      split
      · rename_i q1; rw [if_pos q1] at h5
        split
        · assumption
        · rename_i q2; rw [if_neg q2] at h5; simp at h5
      · rename_i q1; rw [if_neg q1] at h5; simp at h5
    · rename_i q; rw [if_neg q] at h5
      split
      · rename_i q; rw [if_pos q] at h5
        unfold lenMul at h5 ⊢
        split
        · rename_i q1; rw [if_pos q1] at h5
          split
          · assumption
          · rename_i q2; rw [if_neg q2] at h5; simp at h5
        · rename_i q1; rw [if_neg q1] at h5; simp at h5
      · simp
  have h7 : L.getD i 0 = (len1 (L.take i) g[i]).1 := by rw [List.getD_eq_getElem?_getD, h4]; rfl
  unfold ln
  rw [← h1]
  show L.getD i 0 ≤ _
  rw [h7]; exact h6
theorem tot_le {g : List Rl} (h0 : (lens g).2 = 0) : tot g ≤ 1152921504606846976 := by
  unfold tot; split
  · omega
  · exact lens_le h0 (by omega)
end Go.Proofs.Ytcbahojefglakaa
