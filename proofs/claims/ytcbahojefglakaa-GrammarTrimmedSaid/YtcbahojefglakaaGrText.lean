/- Plain laws: the texts of a grammar's rules; the stack that writes a text out. -/
import Derived.Test.YtcbahojefglakaaGrPlain
namespace Go.Proofs.Ytcbahojefglakaa
set_option linter.unusedVariables false
set_option linter.unusedSimpArgs false
/-- a list that is made rule by rule -/
def fwd {α : Type} (f : List α → Rl → α) : List α → List Rl → List α
  | acc, [] => acc
  | acc, r :: g => fwd f (acc ++ [f acc r]) g
section
variable {α : Type} {f : List α → Rl → α}
theorem fwd_len : ∀ (g : List Rl) (acc : List α), (fwd f acc g).length = acc.length + g.length
  | [], acc => by simp [fwd]
  | r :: g, acc => by rw [fwd, fwd_len g]; simp; omega
theorem fwd_pre : ∀ (g : List Rl) (acc : List α), (fwd f acc g).take acc.length = acc
  | [], acc => by simp [fwd]
  | r :: g, acc => by
    have h := fwd_pre g (acc ++ [f acc r])
    have h2 : ((fwd f acc (r :: g)).take (acc ++ [f acc r]).length).take acc.length = acc := by
      rw [fwd, h]; simp
    rw [List.take_take] at h2
    simpa using h2
theorem fwd_at : ∀ (g : List Rl) (acc : List α) (i : Nat) (r : Rl), g[i]? = some r → (fwd f acc g)[acc.length + i]? = some (f ((fwd f acc g).take (acc.length + i)) r)
  | [], acc, i, r, h => by simp at h
  | a :: g, acc, 0, r, h => by
    simp at h; subst h
    have h1 := fwd_pre (f := f) (a :: g) acc
    have h2 := fwd_pre (f := f) g (acc ++ [f acc a])
    rw [Nat.add_zero, h1]
    have e : (fwd f acc (a :: g))[acc.length]? = ((fwd f acc (a :: g)).take (acc ++ [f acc a]).length)[acc.length]? := by
      rw [List.getElem?_take_of_lt (by simp)]
    rw [e, fwd, h2]
    simp
  | a :: g, acc, i + 1, r, h => by
    have h1 := fwd_at g (acc ++ [f acc a]) i r (by simpa using h)
    rw [fwd]
    have e : (acc ++ [f acc a]).length + i = acc.length + (i + 1) := by simp; omega
    rw [e] at h1
    exact h1
theorem fwd_at0 (g : List Rl) (i : Nat) (r : Rl) (h : g[i]? = some r) : (fwd f [] g)[i]? = some (f ((fwd f [] g).take i) r) := by
  have := fwd_at (f := f) g [] i r h
  simpa using this
end
theorem getD_take {α : Type} {l : List α} {i k : Nat} (h : k < i) (d : α) : (l.take i).getD k d = l.getD k d := by
  rw [List.getD_eq_getElem?_getD, List.getD_eq_getElem?_getD, List.getElem?_take_of_lt h]
/-- the text of a rule, those before it known -/
def tx1 (T : List (List Int)) (r : Rl) : List Int :=
  if r.kd = 2 then T.getD (r.lf - 1).toNat [] ++ T.getD (r.rg - 1).toNat [] else if r.kd = 3 then (List.replicate r.tm.toNat (T.getD (r.lf - 1).toNat [])).flatten else [r.lt]
def texts (g : List Rl) : List (List Int) := fwd tx1 [] g
/-- how many rounds a rule takes -/
def cs1 (C : List Nat) (r : Rl) : Nat :=
  if r.kd = 2 then 1 + C.getD (r.lf - 1).toNat 0 + C.getD (r.rg - 1).toNat 0 else if r.kd = 3 then 1 + r.tm.toNat * C.getD (r.lf - 1).toNat 0 else 1
def costs (g : List Rl) : List Nat := fwd cs1 [] g
def tx (g : List Rl) (i : Nat) : List Int := (texts g).getD i []
def cst (g : List Rl) (i : Nat) : Nat := (costs g).getD i 0
theorem tx_eq {g : List Rl} {i : Nat} {r : Rl} (hr : g[i]? = some r) : tx g i = tx1 ((texts g).take i) r := by
  unfold tx
  have h : (texts g)[i]? = some (tx1 ((texts g).take i) r) := fwd_at0 g i r hr
  rw [List.getD_eq_getElem?_getD, h]; rfl
theorem cst_eq {g : List Rl} {i : Nat} {r : Rl} (hr : g[i]? = some r) : cst g i = cs1 ((costs g).take i) r := by
  unfold cst
  have h : (costs g)[i]? = some (cs1 ((costs g).take i) r) := fwd_at0 g i r hr
  rw [List.getD_eq_getElem?_getD, h]; rfl
section
variable {g : List Rl} {i a b : Nat} {lt tm : Int}
theorem tx_letter (hr : g[i]? = some ⟨1, lt, 0, 0, 0⟩) : tx g i = [lt] := by rw [tx_eq hr]; simp [tx1]
theorem tx_pair (hr : g[i]? = some ⟨2, 0, (a : Int) + 1, (b : Int) + 1, 0⟩) (ha : a < i) (hb : b < i) : tx g i = tx g a ++ tx g b := by
  rw [tx_eq hr]
  unfold tx1
  rw [if_pos rfl]
  simp only [show ((a : Int) + 1 - 1).toNat = a by omega, show ((b : Int) + 1 - 1).toNat = b by omega]
  rw [getD_take ha, getD_take hb]; rfl
theorem tx_power (hr : g[i]? = some ⟨3, 0, (a : Int) + 1, 0, tm⟩) (ha : a < i) : tx g i = (List.replicate tm.toNat (tx g a)).flatten := by
  rw [tx_eq hr]
  unfold tx1
  rw [if_neg (by simp), if_pos rfl]
  simp only [show ((a : Int) + 1 - 1).toNat = a by omega]
  rw [getD_take ha]; rfl
theorem cst_letter (hr : g[i]? = some ⟨1, lt, 0, 0, 0⟩) : cst g i = 1 := by rw [cst_eq hr]; simp [cs1]
theorem cst_pair (hr : g[i]? = some ⟨2, 0, (a : Int) + 1, (b : Int) + 1, 0⟩) (ha : a < i) (hb : b < i) : cst g i = 1 + cst g a + cst g b := by
  rw [cst_eq hr]
  unfold cs1
  rw [if_pos rfl]
  simp only [show ((a : Int) + 1 - 1).toNat = a by omega, show ((b : Int) + 1 - 1).toNat = b by omega]
  rw [getD_take ha, getD_take hb]; rfl
theorem cst_power (hr : g[i]? = some ⟨3, 0, (a : Int) + 1, 0, tm⟩) (ha : a < i) : cst g i = 1 + tm.toNat * cst g a := by
  rw [cst_eq hr]
  unfold cs1
  rw [if_neg (by simp), if_pos rfl]
  simp only [show ((a : Int) + 1 - 1).toNat = a by omega]
  rw [getD_take ha]; rfl
end
/-- a valid rule, its references as places -/
theorem rule_way' {g : List Rl} (h : gcode 0 g = 0) {i : Nat} {r : Rl} (hr : g[i]? = some r) :
    (∃ lt, r = ⟨1, lt, 0, 0, 0⟩) ∨ (∃ a b : Nat, r = ⟨2, 0, (a : Int) + 1, (b : Int) + 1, 0⟩ ∧ a < i ∧ b < i) ∨ (∃ (a : Nat) (tm : Int), r = ⟨3, 0, (a : Int) + 1, 0, tm⟩ ∧ a < i ∧ 2 ≤ tm) := by
  have hw := rule_way h hr
  obtain ⟨kd, lt, lf, rg, tm⟩ := r
  simp only at hw
  rcases hw with ⟨rfl, rfl, rfl, rfl⟩ | ⟨rfl, rfl, rfl, p1, p2, q1, q2⟩ | ⟨rfl, rfl, rfl, t2, p1, p2⟩
  · exact .inl ⟨lt, rfl⟩
  · refine .inr (.inl ⟨(lf - 1).toNat, (rg - 1).toNat, ?_, by omega, by omega⟩)
    rw [show (((lf - 1).toNat : Nat) : Int) + 1 = lf by omega, show (((rg - 1).toNat : Nat) : Int) + 1 = rg by omega]
  · refine .inr (.inr ⟨(lf - 1).toNat, tm, ?_, by omega, t2⟩)
    rw [show (((lf - 1).toNat : Nat) : Int) + 1 = lf by omega]
theorem tx_pos {g : List Rl} (h : gcode 0 g = 0) : ∀ (i : Nat) (r : Rl), g[i]? = some r → 1 ≤ (tx g i).length := by
  intro i
  induction i using Nat.strongRecOn with
  | _ i ih =>
    intro r hr
    have at_ : ∀ k, k < i → ∃ r, g[k]? = some r := fun k hk => ⟨_, List.getElem?_eq_getElem (Nat.lt_trans hk (List.getElem?_eq_some_iff.1 hr).1)⟩
    rcases rule_way' h hr with ⟨lt, rfl⟩ | ⟨a, b, rfl, ha, hb⟩ | ⟨a, tm, rfl, ha, ht⟩
    · rw [tx_letter hr]; simp
    · obtain ⟨ra, hra⟩ := at_ a ha
      have := ih a ha ra hra
      rw [tx_pair hr ha hb, List.length_append]; omega
    · obtain ⟨ra, hra⟩ := at_ a ha
      have := ih a ha ra hra
      rw [tx_power hr ha, List.length_flatten, List.map_replicate, List.sum_replicate_nat]
      have : 1 * 1 ≤ tm.toNat * (tx g a).length := Nat.mul_le_mul (by omega) this
      omega
theorem lens_at : ∀ (g : List Rl) (acc L : List Int), lensFrom acc g = (L, 0) → L = fwd (fun acc r => (len1 acc r).1) acc g ∧ ∀ i r, g[i]? = some r → (len1 (L.take (acc.length + i)) r).2 = 0
  | [], acc, L, h => by
    cases h
    exact ⟨rfl, fun i r h => by simp at h⟩
  | a :: g, acc, L, h => by
    have e : lensFrom acc (a :: g) = if (len1 acc a).2 = 0 then lensFrom (acc ++ [(len1 acc a).1]) g else ([], (len1 acc a).2) := rfl
    rw [e] at h
    by_cases h0 : (len1 acc a).2 = 0
    · rw [if_pos h0] at h
      obtain ⟨h1, h2⟩ := lens_at g _ L h
      refine ⟨h1, fun i r hr => ?_⟩
      match i with
      | 0 =>
        simp at hr; subst hr
        have hp := fwd_pre (f := fun acc r => (len1 acc r).1) (a :: g) acc
        rw [h1, Nat.add_zero]
        have hp' : List.take acc.length (fwd (fun acc r => (len1 acc r).fst) (acc ++ [(len1 acc a).fst]) g) = acc := hp
        rw [hp']; exact h0
      | i + 1 =>
        have := h2 i r (by simpa using hr)
        rw [show (acc ++ [(len1 acc a).1]).length + i = acc.length + (i + 1) by simp; omega] at this
        exact this
    · rw [if_neg h0] at h
      exact absurd (congrArg Prod.snd h) h0
theorem lenAdd_ok {a b : Int} (h : (lenAdd a b).2 = 0) : (lenAdd a b).1 = a + b := by
  unfold lenAdd at h ⊢
  split
  · rename_i h1; rw [if_pos h1] at h
    split
    · rfl
    · rename_i h2; rw [if_neg h2] at h; simp at h
  · rename_i h1; rw [if_neg h1] at h; simp at h
theorem lenMul_ok {a b : Int} (h : (lenMul a b).2 = 0) : (lenMul a b).1 = a * b := by
  unfold lenMul at h ⊢
  split
  · rename_i h1; rw [if_pos h1] at h
    split
    · rfl
    · rename_i h2; rw [if_neg h2] at h; simp at h
  · rename_i h1; rw [if_neg h1] at h; simp at h
theorem lens_text {g : List Rl} (h : gcode 0 g = 0) (h0 : (lens g).2 = 0) : (lens g).1.length = g.length ∧ ∀ (i : Nat) (r : Rl), g[i]? = some r → (lens g).1.getD i 0 = (tx g i).length := by
  rw [lens_ok h] at h0 ⊢
  obtain ⟨L, hL⟩ : ∃ L, lensFrom [] g = (L, 0) := ⟨(lensFrom [] g).1, by rw [← h0]⟩
  rw [hL]
  obtain ⟨h1, h2⟩ := lens_at g [] L hL
  refine ⟨by show L.length = _; rw [h1, fwd_len]; simp, ?_⟩
  show ∀ (i : Nat) (r : Rl), g[i]? = some r → L.getD i 0 = _
  intro i
  induction i using Nat.strongRecOn with
  | _ i ih =>
    intro r hr
    have at_ : ∀ k, k < i → ∃ r, g[k]? = some r := fun k hk => ⟨_, List.getElem?_eq_getElem (Nat.lt_trans hk (List.getElem?_eq_some_iff.1 hr).1)⟩
    have hz := h2 i r hr
    have hv : L.getD i 0 = (len1 (L.take i) r).1 := by
      have := fwd_at0 (f := fun acc r => (len1 acc r).1) g i r hr
      rw [← h1] at this
      rw [List.getD_eq_getElem?_getD, this]; rfl
    rw [List.length_nil, Nat.zero_add] at hz
    rw [hv]
    rcases rule_way' h hr with ⟨lt, rfl⟩ | ⟨a, b, rfl, ha, hb⟩ | ⟨a, tm, rfl, ha, ht⟩
    · rw [len1_letter _ rfl, tx_letter hr]; rfl
    · obtain ⟨ra, hra⟩ := at_ a ha
      obtain ⟨rb, hrb⟩ := at_ b hb
      rw [len1_pair _ rfl] at hz ⊢
      rw [lenAdd_ok hz]
      simp only [show ((a : Int) + 1 - 1).toNat = a by omega, show ((b : Int) + 1 - 1).toNat = b by omega]
      rw [getD_take ha, getD_take hb, ih a ha ra hra, ih b hb rb hrb, tx_pair hr ha hb, List.length_append]
      omega
    · obtain ⟨ra, hra⟩ := at_ a ha
      rw [len1_power _ rfl] at hz ⊢
      rw [lenMul_ok hz]
      simp only [show ((a : Int) + 1 - 1).toNat = a by omega]
      rw [getD_take ha, ih a ha ra hra, tx_power hr ha, List.length_flatten, List.map_replicate, List.sum_replicate_nat, Int.natCast_mul, Int.mul_comm]
      congr 1
      omega
/-- what a stack (its top last) writes out: each entry is a rule's number and how often -/
def pile (g : List Rl) (p : Nat × Nat) : List Int := (List.replicate p.2 (tx g (p.1 - 1))).flatten
def rest (g : List Rl) (stk : List (Nat × Nat)) : List Int := (stk.reverse.map (pile g)).flatten
def costS (g : List Rl) (stk : List (Nat × Nat)) : Nat := (stk.map fun p => p.2 * cst g (p.1 - 1)).sum
def sc (stk : List (Nat × Nat)) : List Value := stk.flatMap fun p => [.int .i64 (p.1 : Int), .int .i64 (p.2 : Int)]
theorem rest_nil (g : List Rl) : rest g [] = [] := rfl
theorem rest_snoc (g : List Rl) (stk : List (Nat × Nat)) (p : Nat × Nat) : rest g (stk ++ [p]) = pile g p ++ rest g stk := by simp [rest]
theorem cost_snoc (g : List Rl) (stk : List (Nat × Nat)) (p : Nat × Nat) : costS g (stk ++ [p]) = costS g stk + p.2 * cst g (p.1 - 1) := by simp [costS]
theorem sc_app (a b : List (Nat × Nat)) : sc (a ++ b) = sc a ++ sc b := by simp [sc]
theorem sc_len (a : List (Nat × Nat)) : (sc a).length = a.length * 2 := by
  induction a with
  | nil => rfl
  | cons p a ih => simp [sc] at ih ⊢; omega
/-- the stack behind the taking of one of the top's copies -/
def popped (stk : List (Nat × Nat)) (s t : Nat) : List (Nat × Nat) := if t = 0 then stk else stk ++ [(s, t)]
theorem rest_pop (g : List Rl) (stk : List (Nat × Nat)) (s t : Nat) : rest g (stk ++ [(s, t + 1)]) = tx g (s - 1) ++ rest g (popped stk s t) := by
  rw [rest_snoc]
  unfold popped pile
  by_cases h : t = 0
  · subst h; simp
  · rw [if_neg h, rest_snoc]
    simp [pile, List.replicate_succ]
theorem cost_pop (g : List Rl) (stk : List (Nat × Nat)) (s t : Nat) : costS g (stk ++ [(s, t + 1)]) = costS g (popped stk s t) + cst g (s - 1) := by
  rw [cost_snoc]
  unfold popped
  by_cases h : t = 0
  · subst h; simp
  · rw [if_neg h, cost_snoc]
    simp only [Nat.succ_mul]; omega
/-- a stack that stands in order: numbers of rules, each at least once -/
def StkOk (g : List Rl) (stk : List (Nat × Nat)) : Prop := ∀ p ∈ stk, 1 ≤ p.1 ∧ p.1 ≤ g.length ∧ 1 ≤ p.2
theorem StkOk.app {g : List Rl} {a b : List (Nat × Nat)} (ha : StkOk g a) (hb : StkOk g b) : StkOk g (a ++ b) := fun p h => (List.mem_append.1 h).elim (ha p) (hb p)
theorem StkOk.one {g : List Rl} {s t : Nat} (h1 : 1 ≤ s) (h2 : s ≤ g.length) (h3 : 1 ≤ t) : StkOk g [(s, t)] := fun p h => by simp at h; subst h; exact ⟨h1, h2, h3⟩
theorem StkOk.left {g : List Rl} {a b : List (Nat × Nat)} (h : StkOk g (a ++ b)) : StkOk g a := fun p hp => h p (List.mem_append_left _ hp)
theorem StkOk.pop {g : List Rl} {stk : List (Nat × Nat)} {s t : Nat} (h : StkOk g (stk ++ [(s, t + 1)])) : StkOk g (popped stk s t) := by
  unfold popped
  by_cases h0 : t = 0
  · rw [if_pos h0]; exact h.left
  · rw [if_neg h0]
    have := h (s, t + 1) (by simp)
    exact h.left.app (StkOk.one this.1 this.2.1 (by omega))
theorem pile_len {g : List Rl} (h : gcode 0 g = 0) {p : Nat × Nat} (hp : 1 ≤ p.1 ∧ p.1 ≤ g.length ∧ 1 ≤ p.2) : 1 ≤ (pile g p).length ∧ p.2 ≤ (pile g p).length := by
  unfold pile
  rw [List.length_flatten, List.map_replicate, List.sum_replicate_nat]
  have h1 := tx_pos h (p.1 - 1) _ (List.getElem?_eq_getElem (by omega))
  have : p.2 * 1 ≤ p.2 * (tx g (p.1 - 1)).length := Nat.mul_le_mul_left _ h1
  omega
theorem rest_len {g : List Rl} (h : gcode 0 g = 0) (stk : List (Nat × Nat)) (hk : StkOk g stk) : stk.length ≤ (rest g stk).length ∧ ∀ p ∈ stk, p.2 ≤ (rest g stk).length := by
  have key : ∀ l : List (Nat × Nat), StkOk g l → l.length ≤ ((l.map (pile g)).flatten).length ∧ ∀ p ∈ l, p.2 ≤ ((l.map (pile g)).flatten).length := by
    intro l
    induction l with
    | nil => intro _; exact ⟨Nat.le_refl _, fun p hp => by simp at hp⟩
    | cons p l ih =>
      intro hl
      obtain ⟨i1, i2⟩ := ih fun q hq => hl q (List.mem_cons_of_mem _ hq)
      obtain ⟨p1, p2⟩ := pile_len h (hl p (by simp))
      rw [List.map_cons, List.flatten_cons, List.length_append]
      refine ⟨by rw [List.length_cons]; omega, fun q hq => ?_⟩
      rcases List.mem_cons.1 hq with hq | hq
      · subst hq; omega
      · have := i2 q hq; omega
  have := key stk.reverse fun p hp => hk p (List.mem_reverse.1 hp)
  rw [List.length_reverse] at this
  exact ⟨this.1, fun p hp => this.2 p (List.mem_reverse.2 hp)⟩
end Go.Proofs.Ytcbahojefglakaa
