/- The map from rules to their numbers, as Trim and Text hold it. -/
import Derived.Test.YtolhjkpekmmajaaOpenRules
import Derived.Test.YtolhjkpekmmajaaFrame
import Derived.Test.YtolhjkpekmmajaaOwnB
import Derived.Maps.OwnSet
import Derived.DeepKeys4
namespace Go.Proofs.Ytolhjkpekmmajaa
set_option linter.unusedVariables false
set_option linter.unusedSimpArgs false
open Go.RowKit Go.Lib Go.Maps
/-- the place of a rule in a list, from 1 on; 0 if it is not there -/
def pos : List Rl → Rl → Nat
  | [], _ => 0
  | a :: l, r => if a = r then 1 else if pos l r = 0 then 0 else pos l r + 1
theorem pos_le : ∀ (l : List Rl) (r : Rl), pos l r ≤ l.length
  | [], _ => Nat.le_refl _
  | a :: l, r => by
    have := pos_le l r
    unfold pos
    split
    · simp
    · split <;> simp <;> omega
theorem pos_get : ∀ (l : List Rl) (r : Rl), pos l r ≠ 0 → l[pos l r - 1]? = some r
  | [], _, h => absurd rfl h
  | a :: l, r, h => by
    unfold pos at h ⊢
    by_cases e : a = r
    · subst e; simp
    · rw [if_neg e] at h ⊢
      by_cases e2 : pos l r = 0
      · rw [if_pos e2] at h; exact absurd rfl h
      · rw [if_neg e2]
        have := pos_get l r e2
        obtain ⟨k, hk⟩ : ∃ k, pos l r = k + 1 := ⟨pos l r - 1, by omega⟩
        rw [hk] at this ⊢
        simpa using this
theorem pos_zero : ∀ (l : List Rl) (r : Rl), pos l r = 0 ↔ r ∉ l
  | [], r => by simp [pos]
  | a :: l, r => by
    unfold pos
    have := pos_zero l r
    by_cases e : a = r
    · subst e; simp
    · rw [if_neg e]
      have e' : r ≠ a := fun h => e h.symm
      by_cases e2 : pos l r = 0
      · rw [if_pos e2]; simp [e', this.1 e2]
      · rw [if_neg e2]
        have h3 : r ∈ l := by
          by_cases h : r ∈ l
          · exact h
          · exact absurd (this.2 h) e2
        simp [h3]
theorem pos_new : ∀ (l : List Rl) (r : Rl), pos l r = 0 → pos (l ++ [r]) r = l.length + 1
  | [], r, _ => by simp [pos]
  | a :: l, r, h => by
    have hn := (pos_zero (a :: l) r).1 h
    have e : a ≠ r := fun e => hn (by simp [e])
    have e2 : pos l r = 0 := (pos_zero l r).2 fun h => hn (by simp [h])
    have := pos_new l r e2
    show (if a = r then 1 else if pos (l ++ [r]) r = 0 then 0 else pos (l ++ [r]) r + 1) = _
    rw [if_neg e, this, if_neg (by omega)]; rfl
theorem pos_old : ∀ (l : List Rl) (r x : Rl), x ≠ r → pos (l ++ [r]) x = pos l x
  | [], r, x, h => by
    show (if r = x then 1 else if pos [] x = 0 then 0 else _) = _
    rw [if_neg (fun e => h e.symm)]; rfl
  | a :: l, r, x, h => by
    have := pos_old l r x h
    show (if a = x then 1 else if pos (l ++ [r]) x = 0 then 0 else pos (l ++ [r]) x + 1) = (if a = x then 1 else if pos l x = 0 then 0 else pos l x + 1)
    rw [this]
theorem pos_pre {l : List Rl} {r : Rl} (h : pos l r ≠ 0) (m : List Rl) : pos (l ++ m) r = pos l r := by
  induction l with
  | nil => exact absurd rfl h
  | cons a l ih =>
    show (if a = r then 1 else if pos (l ++ m) r = 0 then 0 else pos (l ++ m) r + 1) = (if a = r then 1 else if pos l r = 0 then 0 else pos l r + 1)
    by_cases e : a = r
    · rw [if_pos e, if_pos e]
    · rw [if_neg e, if_neg e]
      unfold pos at h
      rw [if_neg e] at h
      by_cases e2 : pos l r = 0
      · rw [if_pos e2] at h; exact absurd rfl h
      · rw [ih e2]
theorem key_law : Keyed Try.prog 147 := .of_law (deep_law_laid laidOut (m := 2) (by omega) (of_decide_eq_true (by kernel_rfl)) (by kernel_rfl) (by rw [Try.underlying147]))
theorem id_cells : Try.prog.cellsOf 56 = 1 := by kernel_rfl
theorem int_cells : Try.prog.cellsOf 3 = 1 := by kernel_rfl
theorem u8_cells : Try.prog.cellsOf 5 = 1 := by kernel_rfl
theorem key_type : Try.prog.keyType 147 = true := by kernel_rfl
theorem types_pos : ∃ m, Try.prog.types.size = m + 1 := ⟨Try.prog.types.size - 1, by have h : 0 < Try.prog.types.size := of_decide_eq_true (by kernel_rfl); omega⟩
theorem rule_key (r : Rl) (h : r.Ok) : ∃ l, keyOf Try.prog 147 r.val = some l := by
  have h' : RuleOk r.kd r.lt r.lf r.rg r.tm := h
  obtain ⟨a0, a1, b0, b1, c0, c1, d0, d1, f0, f1⟩ := h'
  obtain ⟨m, hm⟩ := types_pos
  have hf : r.val.formed Try.prog 147 = true := by simp [Value.formed, Try.underlying147, rule_cells]
  have w0 := WalkArith.wf_i64 ⟨a0, a1⟩; have w1 := WalkArith.wf_u8 ⟨b0, b1⟩; have w2 := WalkArith.wf_i64 ⟨c0, c1⟩; have w3 := WalkArith.wf_i64 ⟨d0, d1⟩; have w4 := WalkArith.wf_i64 ⟨f0, f1⟩
  unfold keyOf
  rw [Try.underlying147]
  simp only [key_type, hf, hm, Bool.and_true, if_true]
  simp [Program.keyLits, Try.underlying147, Try.underlying3, Try.underlying5, Try.underlying56, rule_cells, id_cells, int_cells, u8_cells, Value.cells, w0, w1, w2, w3, w4]
theorem rule_inj {a b : Rl} (h : a.val = b.val) : a = b := by
  obtain ⟨a1, a2, a3, a4, a5⟩ := a
  obtain ⟨b1, b2, b3, b4, b5⟩ := b
  simp [Rl.val] at h
  simp [h]
/-- block b is the map from each rule of out to its place -/
def FirstMap (w : World) (b n : Nat) (out : List Rl) : Prop := ∃ D : DataW Unit, w.ownsMap Try.prog 147 (plainElem Try.prog 56) b n D ∧
  ∀ x : Rl, x.Ok → ∀ l, keyOf Try.prog 147 x.val = some l → D.atKey l (.lit (.int .i64 0)) = .lit (.int .i64 (pos out x)) ∧ Maps.has D l = decide (pos out x ≠ 0)
theorem first_made (w : World) : FirstMap (w.alloc (.map #[] 0)) w.heap.size 0 [] :=
  ⟨.map [], World.ownsMap_made _ _ _ _, fun _ _ _ _ => ⟨rfl, rfl⟩⟩
theorem FirstMap.lt {w : World} {b n : Nat} {out : List Rl} (h : FirstMap w b n out) : b < w.heap.size := h.elim fun _ h => h.1.lt
theorem FirstMap.same {w w' : World} {b n : Nat} {out : List Rl} (h : FirstMap w b n out) (hb : w'.heap[b]? = w.heap[b]?) : FirstMap w' b n out := by
  obtain ⟨D, ⟨es, clock, h1, h2⟩, h3⟩ := h
  exact ⟨D, ⟨es, clock, hb.trans h1, h2⟩, h3⟩
theorem FirstMap.below {w w' : World} {b n B : Nat} {out : List Rl} (h : FirstMap w b n out) (hb : Below B w w') (hB : b < B) : FirstMap w' b n out := h.same (hb.block b hB)
theorem FirstMap.alloc {w : World} {b n : Nat} {out : List Rl} (h : FirstMap w b n out) (o : Obj) : FirstMap (w.alloc o) b n out := h.same (Below.heap_alloc w o b h.lt)
theorem FirstMap.set {w : World} {b n : Nat} {out : List Rl} (h : FirstMap w b n out) {p : Addr} (hp : b ≠ p.block) (u : Value) : FirstMap (w.setCell p u) b n out := h.same (Below.heap_setCell w p u b hp)
theorem FirstMap.grown {w w' : World} {b n : Nat} {out : List Rl} {row : Option Nat} (h : FirstMap w b n out) (hg : w.grownBy w' row) (hr : row ≠ some b) : FirstMap w' b n out := h.same (hg.block b h.lt (fun e => hr e.symm))
theorem id_zero (w : World) : (zeroValue 56).run Try.prog w = .ok (.int .i64 0) w := by kernel_rfl
section
variable {w : World} {ops : Array Oper} {rest : List Oper} {o : Oper} {a : Act} {Q : Exit → Act → World → Prop}
theorem wpList_first_look (hg : o.guard = none) (m x : Operand) (hop : o.op = Op.lookup 116 m x true) (b n : Nat) (out : List Rl) (hm : a.eval m = .map (some b)) (hF : FirstMap w b n out) (r : Rl) (hr : r.Ok) (hx : a.eval x = r.val)
    (p : Int) (q : Bool) (hp : ((pos out r : Nat) : Int) = p) (hq : decide (pos out r ≠ 0) = q) (hK : wpList Try.prog ops Q rest (a.put o.dst (.tuple #[.int .i64 p, .bool q])) w) : wpList Try.prog ops Q (o :: rest) a w := by
  obtain ⟨D, hown, hD⟩ := hF
  obtain ⟨l, hl⟩ := rule_key r hr
  obtain ⟨h1, h2⟩ := hD r hr l hl
  refine wpList_lookup_own_ok_int w hg m x _ hop 147 56 .i64 key_law Try.underlying116 Try.underlying56 (id_zero w) b n D hm hown r.val l hx hl fun c hc _ => ?_
  rw [h1] at hc
  have e : ((pos out r : Nat) : Int) = c := (Lit.int.inj (DataW.lit.inj hc)).2
  rw [h2, hq, ← e, hp]
  exact hK
theorem wpList_first_store (hg : o.guard = none) (m x v : Operand) (hop : o.op = Op.mapUpdate 116 m x v) (b n : Nat) (out : List Rl) (hm : a.eval m = .map (some b)) (hF : FirstMap w b n out) (hn : n < maxLen) (r : Rl) (hr : r.Ok) (hx : a.eval x = r.val)
    (hnew : pos out r = 0) (k : Int) (hk : k = ((out.length + 1 : Nat) : Int)) (hk1 : k ≤ 9223372036854775807) (hv : a.eval v = .int .i64 k)
    (hK : ∀ w', FirstMap w' b (n + 1) (out ++ [r]) → w.grownBy w' (some b) → wpList Try.prog ops Q rest (a.put o.dst undef) w') : wpList Try.prog ops Q (o :: rest) a w := by
  obtain ⟨D, hown, hD⟩ := hF
  obtain ⟨l, hl⟩ := rule_key r hr
  refine wpList_mapUpdate_own w hg m x v _ hop 147 56 key_law Try.underlying116 (plainElem Try.prog 56) b n D hm hown hn r.val _ l hx hv hl (.lit (.int .i64 k)) [] (plainElem_int Try.underlying56 (WalkArith.wf_i64 ⟨by omega, hk1⟩)) fun w' h1 h2 => hK w' ⟨_, h1, fun y hy ly hly => ?_⟩ h2
  by_cases e : y = r
  · subst e
    rw [hl] at hly
    cases hly
    rw [atKey_put_same hown.isMap (key_law.key hl), has_put_same hown.isMap (key_law.key hl), pos_new out y hnew, hk]
    exact ⟨rfl, by simp⟩
  · have hne : ly ≠ l := fun h => e (rule_inj (key_law.inj hly (h ▸ hl)))
    rw [atKey_put_other hne, has_put_other hne, pos_old out r y e]
    exact hD y hy ly hly
end
end Go.Proofs.Ytolhjkpekmmajaa
