import Derived.Test.YtcbahojefglakaaOpenRules
import Derived.Test.YtcbahojefglakaaFrame
import Derived.Test.YtcbahojefglakaaOwnB
import Derived.Maps.OwnSet
import Derived.DeepKeys4
import Derived.Test.YtcbahojefglakaaRuleCheck
import Derived.RegionTactic
import Derived.ChangeAlike
import Derived.Test.YtcbahojefglakaaRl
import Derived.Test.YtcbahojefglakaaGrLen
import Derived.Carry
import Derived.Test.YtcbahojefglakaaGrRLen
import Derived.Laws.StructEq
import Derived.Test.YtcbahojefglakaaGrExpAny
import Derived.Test.YtcbahojefglakaaWgtRep
import Derived.Test.YtcbahojefglakaaGrText
import Derived.Test.YtcbahojefglakaaRegSm
import Derived.Laws.MakeOwn
/- The map from rules to their numbers, as Trim and Text hold it. -/
namespace Go.Proofs.Ytcbahojefglakaa
set_option linter.unusedVariables false
set_option linter.unusedSimpArgs false
open Go.RowKit Go.Lib Go.Maps
/-- the place of a rule in a list, from 1 on; 0 if it is not there -/
def pos : List Rl → Rl → Nat
  | [], _ => 0
  | a :: l, r => if a = r then 1 else if pos l r = 0 then 0 else pos l r + 1
theorem pos_le : ∀ (l : List Rl) (r : Rl), pos l r ≤ l.length
  | [], _ => Nat.le_refl _
  | a :: l, r => by
    have := pos_le l r
    unfold pos
    split
    · simp
    · split <;> simp <;> omega
theorem pos_get : ∀ (l : List Rl) (r : Rl), pos l r ≠ 0 → l[pos l r - 1]? = some r
  | [], _, h => absurd rfl h
  | a :: l, r, h => by
    unfold pos at h ⊢
    by_cases e : a = r
    · subst e; simp
    · rw [if_neg e] at h ⊢
      by_cases e2 : pos l r = 0
      · rw [if_pos e2] at h; exact absurd rfl h
      · rw [if_neg e2]
        have := pos_get l r e2
        obtain ⟨k, hk⟩ : ∃ k, pos l r = k + 1 := ⟨pos l r - 1, by omega⟩
        rw [hk] at this ⊢
        simpa using this
theorem pos_zero : ∀ (l : List Rl) (r : Rl), pos l r = 0 ↔ r ∉ l
  | [], r => by simp [pos]
  | a :: l, r => by
    unfold pos
    have := pos_zero l r
    by_cases e : a = r
    · subst e; simp
    · rw [if_neg e]
      have e' : r ≠ a := fun h => e h.symm
      by_cases e2 : pos l r = 0
      · rw [if_pos e2]; simp [e', this.1 e2]
      · rw [if_neg e2]
        have h3 : r ∈ l := by
          by_cases h : r ∈ l
          · exact h
          · exact absurd (this.2 h) e2
        simp [h3]
theorem pos_new : ∀ (l : List Rl) (r : Rl), pos l r = 0 → pos (l ++ [r]) r = l.length + 1
  | [], r, _ => by simp [pos]
  | a :: l, r, h => by
    have hn := (pos_zero (a :: l) r).1 h
    have e : a ≠ r := fun e => hn (by simp [e])
    have e2 : pos l r = 0 := (pos_zero l r).2 fun h => hn (by simp [h])
    have := pos_new l r e2
    show (if a = r then 1 else if pos (l ++ [r]) r = 0 then 0 else pos (l ++ [r]) r + 1) = _
    rw [if_neg e, this, if_neg (by omega)]; rfl
theorem pos_old : ∀ (l : List Rl) (r x : Rl), x ≠ r → pos (l ++ [r]) x = pos l x
  | [], r, x, h => by
    show (if r = x then 1 else if pos [] x = 0 then 0 else _) = _
    rw [if_neg (fun e => h e.symm)]; rfl
  | a :: l, r, x, h => by
    have := pos_old l r x h
    show (if a = x then 1 else if pos (l ++ [r]) x = 0 then 0 else pos (l ++ [r]) x + 1) = (if a = x then 1 else if pos l x = 0 then 0 else pos l x + 1)
    rw [this]
theorem pos_pre {l : List Rl} {r : Rl} (h : pos l r ≠ 0) (m : List Rl) : pos (l ++ m) r = pos l r := by
  induction l with
  | nil => exact absurd rfl h
  | cons a l ih =>
    show (if a = r then 1 else if pos (l ++ m) r = 0 then 0 else pos (l ++ m) r + 1) = (if a = r then 1 else if pos l r = 0 then 0 else pos l r + 1)
    by_cases e : a = r
    · rw [if_pos e, if_pos e]
    · rw [if_neg e, if_neg e]
      unfold pos at h
      rw [if_neg e] at h
      by_cases e2 : pos l r = 0
      · rw [if_pos e2] at h; exact absurd rfl h
      · rw [ih e2]
theorem key_law : Keyed Try.prog 46 := .of_law (deep_law_laid laidOut (m := 2) (by omega) (of_decide_eq_true (by kernel_rfl)) (by kernel_rfl) (by rw [Try.underlying46]))
theorem id_cells : Try.prog.cellsOf 44 = 1 := by kernel_rfl
theorem int_cells : Try.prog.cellsOf 3 = 1 := by kernel_rfl
theorem u8_cells : Try.prog.cellsOf 5 = 1 := by kernel_rfl
theorem key_type : Try.prog.keyType 46 = true := by kernel_rfl
theorem types_pos : ∃ m, Try.prog.types.size = m + 1 := ⟨Try.prog.types.size - 1, by have h : 0 < Try.prog.types.size := of_decide_eq_true (by kernel_rfl); omega⟩
theorem rule_key (r : Rl) (h : r.Ok) : ∃ l, keyOf Try.prog 46 r.val = some l := by
  have h' : RuleOk r.kd r.lt r.lf r.rg r.tm := h
  obtain ⟨a0, a1, b0, b1, c0, c1, d0, d1, f0, f1⟩ := h'
  obtain ⟨m, hm⟩ := types_pos
  have hf : r.val.formed Try.prog 46 = true := by simp [Value.formed, Try.underlying46, rule_cells]
  have w0 := WalkArith.wf_i64 ⟨a0, a1⟩; have w1 := WalkArith.wf_u8 ⟨b0, b1⟩; have w2 := WalkArith.wf_i64 ⟨c0, c1⟩; have w3 := WalkArith.wf_i64 ⟨d0, d1⟩; have w4 := WalkArith.wf_i64 ⟨f0, f1⟩
  unfold keyOf
  rw [Try.underlying46]
  simp only [key_type, hf, hm, Bool.and_true, if_true]
  simp [Program.keyLits, Try.underlying46, Try.underlying3, Try.underlying5, Try.underlying44, rule_cells, id_cells, int_cells, u8_cells, Value.cells, w0, w1, w2, w3, w4]
theorem rule_inj {a b : Rl} (h : a.val = b.val) : a = b := by
  obtain ⟨a1, a2, a3, a4, a5⟩ := a
  obtain ⟨b1, b2, b3, b4, b5⟩ := b
  simp [Rl.val] at h
  simp [h]
/-- block b is the map from each rule of out to its place -/
def FirstMap (w : World) (b n : Nat) (out : List Rl) : Prop := ∃ D : DataW Unit, w.ownsMap Try.prog 46 (plainElem Try.prog 44) b n D ∧
  ∀ x : Rl, x.Ok → ∀ l, keyOf Try.prog 46 x.val = some l → D.atKey l (.lit (.int .i64 0)) = .lit (.int .i64 (pos out x)) ∧ Maps.has D l = decide (pos out x ≠ 0)
theorem first_made (w : World) : FirstMap (w.alloc (.map #[] 0)) w.heap.size 0 [] :=
  ⟨.map [], World.ownsMap_made _ _ _ _, fun _ _ _ _ => ⟨rfl, rfl⟩⟩
theorem FirstMap.lt {w : World} {b n : Nat} {out : List Rl} (h : FirstMap w b n out) : b < w.heap.size := h.elim fun _ h => h.1.lt
theorem FirstMap.same {w w' : World} {b n : Nat} {out : List Rl} (h : FirstMap w b n out) (hb : w'.heap[b]? = w.heap[b]?) : FirstMap w' b n out := by
  obtain ⟨D, ⟨es, clock, h1, h2⟩, h3⟩ := h
  exact ⟨D, ⟨es, clock, hb.trans h1, h2⟩, h3⟩
theorem FirstMap.below {w w' : World} {b n B : Nat} {out : List Rl} (h : FirstMap w b n out) (hb : Below B w w') (hB : b < B) : FirstMap w' b n out := h.same (hb.block b hB)
theorem FirstMap.alloc {w : World} {b n : Nat} {out : List Rl} (h : FirstMap w b n out) (o : Obj) : FirstMap (w.alloc o) b n out := h.same (Below.heap_alloc w o b h.lt)
theorem FirstMap.set {w : World} {b n : Nat} {out : List Rl} (h : FirstMap w b n out) {p : Addr} (hp : b ≠ p.block) (u : Value) : FirstMap (w.setCell p u) b n out := h.same (Below.heap_setCell w p u b hp)
theorem FirstMap.grown {w w' : World} {b n : Nat} {out : List Rl} {row : Option Nat} (h : FirstMap w b n out) (hg : w.grownBy w' row) (hr : row ≠ some b) : FirstMap w' b n out := h.same (hg.block b h.lt (fun e => hr e.symm))
theorem id_zero (w : World) : (zeroValue 44).run Try.prog w = .ok (.int .i64 0) w := by kernel_rfl
section
variable {w : World} {ops : Array Oper} {rest : List Oper} {o : Oper} {a : Act} {Q : Exit → Act → World → Prop}
theorem wpList_first_look (hg : o.guard = none) (m x : Operand) (hop : o.op = Op.lookup 81 m x true) (b n : Nat) (out : List Rl) (hm : a.eval m = .map (some b)) (hF : FirstMap w b n out) (r : Rl) (hr : r.Ok) (hx : a.eval x = r.val)
    (p : Int) (q : Bool) (hp : ((pos out r : Nat) : Int) = p) (hq : decide (pos out r ≠ 0) = q) (hK : wpList Try.prog ops Q rest (a.put o.dst (.tuple #[.int .i64 p, .bool q])) w) : wpList Try.prog ops Q (o :: rest) a w := by
  obtain ⟨D, hown, hD⟩ := hF
  obtain ⟨l, hl⟩ := rule_key r hr
  obtain ⟨h1, h2⟩ := hD r hr l hl
  refine wpList_lookup_own_ok_int w hg m x _ hop 46 44 .i64 key_law Try.underlying81 Try.underlying44 (id_zero w) b n D hm hown r.val l hx hl fun c hc _ => ?_
  rw [h1] at hc
  have e : ((pos out r : Nat) : Int) = c := (Lit.int.inj (DataW.lit.inj hc)).2
  rw [h2, hq, ← e, hp]
  exact hK
theorem wpList_first_store (hg : o.guard = none) (m x v : Operand) (hop : o.op = Op.mapUpdate 81 m x v) (b n : Nat) (out : List Rl) (hm : a.eval m = .map (some b)) (hF : FirstMap w b n out) (hn : n < maxLen) (r : Rl) (hr : r.Ok) (hx : a.eval x = r.val)
    (hnew : pos out r = 0) (k : Int) (hk : k = ((out.length + 1 : Nat) : Int)) (hk1 : k ≤ 9223372036854775807) (hv : a.eval v = .int .i64 k)
    (hK : ∀ w', FirstMap w' b (n + 1) (out ++ [r]) → w.grownBy w' (some b) → wpList Try.prog ops Q rest (a.put o.dst undef) w') : wpList Try.prog ops Q (o :: rest) a w := by
  obtain ⟨D, hown, hD⟩ := hF
  obtain ⟨l, hl⟩ := rule_key r hr
  refine wpList_mapUpdate_own w hg m x v _ hop 46 44 key_law Try.underlying81 (plainElem Try.prog 44) b n D hm hown hn r.val _ l hx hv hl (.lit (.int .i64 k)) [] (plainElem_int Try.underlying44 (WalkArith.wf_i64 ⟨by omega, hk1⟩)) fun w' h1 h2 => hK w' ⟨_, h1, fun y hy ly hly => ?_⟩ h2
  by_cases e : y = r
  · subst e
    rw [hl] at hly
    cases hly
    rw [atKey_put_same hown.isMap (key_law.key hl), has_put_same hown.isMap (key_law.key hl), pos_new out y hnew, hk]
    exact ⟨rfl, by simp⟩
  · have hne : ly ≠ l := fun h => e (rule_inj (key_law.inj hly (h ▸ hl)))
    rw [atKey_put_other hne, has_put_other hne, pos_old out r y e]
    exact hD y hy ly hly
end
end Go.Proofs.Ytcbahojefglakaa
/- The walks of rule.Move and evergreenref09.Move. Written by wip/gen/move.py. -/
namespace Go.Proofs.Ytcbahojefglakaa
set_option linter.unusedVariables false
set_option linter.unusedSimpArgs false
open Go.RowKit Go.Lib

theorem box_cell (w : World) (cs : Array Value) (t : TypeId) (o2 : Obj) (j : Nat) : ((w.alloc (.cells cs t)).alloc o2).cell? ⟨w.heap.size, j, none⟩ = cs[j]? := by
  apply cell_of_row _ _ _ _ t (0, 0)
  rw [Below.heap_alloc _ _ _ (by simp)]
  exact heap_alloc_new w _
theorem box_cell2 (w : World) (o1 : Obj) (cs : Array Value) (t : TypeId) (j : Nat) : ((w.alloc o1).alloc (.cells cs t)).cell? ⟨w.heap.size + 1, j, none⟩ = cs[j]? := by
  apply cell_of_row _ _ _ _ t (0, 0)
  have := heap_alloc_new (w.alloc o1) (.cells cs t)
  simpa using this
theorem far_set {w : World} {ad : Addr} {g j o : Nat} {u v : Value} (h : w.cell? (ad.add j) = some u) (hb : ad.block ≠ g) : (w.setCell ⟨g, o, none⟩ v).cell? (ad.add j) = some u :=
  (World.cell?_setCell_other w _ _ v (fun e => hb (by have := congrArg Addr.block e; rw [block_add] at this; exact this.symm))).trans h

/-- is each reference an index into a list of that length? -/
def mvOk (l : List Int) (len : Nat) : Bool := l.all fun x => decide (0 ≤ x) && decide (x < len)
theorem mv_get {l : List Int} {len : Nat} (h : mvOk l len = true) {x : Int} (hx : x ∈ l) : 0 ≤ x ∧ x < len := by
  have := List.all_eq_true.1 h x hx
  simpa using this
theorem mv_bad {l : List Int} {len : Nat} {x : Int} (hx : x ∈ l) (hb : ¬ (0 ≤ x ∧ x < len)) : mvOk l len = false := by
  cases h : mvOk l len
  · rfl
  · exact absurd (mv_get h hx) hb
def mvL (kd lf : Int) (tq : List Int) : Int := if kd = 2 ∨ kd = 3 then tq.getD lf.toNat 0 else lf
def mvR (kd rg : Int) (tq : List Int) : Int := if kd = 2 then tq.getD rg.toNat 0 else rg
theorem vi_at {tq : List Int} {x : Int} (h0 : 0 ≤ x) (h1 : x < tq.length) : (vi tq)[x.toNat]? = some (.int .i64 (tq.getD x.toNat 0)) := by
  have : x.toNat < tq.length := by omega
  rw [vi_get this, List.getD_eq_getElem?_getD, List.getElem?_eq_getElem this]; rfl

set_option maxHeartbeats 2000000 in
theorem move_bad (kd lt lf rg tm : Int) (len cap : Nat) (A : Option Addr) (tq : List Int) (hto : tq.length = len) (hlen : len ≤ 9223372036854775807) (w : World) (ht : RowAt w A (vi tq))
    (hok : mvOk (refsOf kd lf rg) len = false) :
    Calls Try.prog 51 #[.agg #[.int .i64 kd, .int .u8 lt, .int .i64 lf, .int .i64 rg, .int .i64 tm], .slice A len cap] w fun e w' => e = .returned (.tuple #[.agg #[.int .i64 0, .int .u8 0, .int .i64 0, .int .i64 0, .int .i64 0], .iface 50 (.int .i64 1)]) ∧ Below w.heap.size w w' := by
  obtain ⟨l, hl⟩ : ∃ l, l = refsOf kd lf rg := ⟨_, rfl⟩
  have hle : l.length ≤ 2 := by rw [hl]; exact refsOf_le kd lf rg
  have RR := refs_any kd lt lf rg tm
  rw [← hl] at RR hok
  have R2 := Lib.hid RR
  have HL := Lib.hid hl
  have OK := Lib.hid hok
  clear RR hl hok
  go_enter Try.func51, Try.ntmps51
  go_wp2_with fail
  (with_reducible refine (R2.out _).mono ?_)
  rintro e w1 ⟨A1, c1, rfl, R1, B1⟩
  have bw : Below w.heap.size w w1 := (((Below.refl _ _).alloc (Nat.le_refl _) _).alloc (by simp) _).trans (B1.mono (by simp; omega))
  have z1 : w.heap.size + 1 < w1.heap.size := by have hz := B1.size; simp at hz; omega
  obtain ⟨q1, f1⟩ := bcell B1
  have k0 : w1.cell? ⟨w.heap.size, 0, none⟩ = some (.int .i64 kd) := (q1 _ _ (by simp; omega)).trans (box_cell w _ 46 _ 0)
  have m0 : w1.cell? ⟨w.heap.size + 1, 0, none⟩ = some (.int .i64 0) := (q1 _ _ (by simp)).trans (box_cell2 w _ _ 46 0)
  have g0 : w1.frozen? ⟨w.heap.size, 0, none⟩ = false := (f1 _ _ (by simp; omega)).trans (by simp)
  have h0 : w1.frozen? ⟨w.heap.size + 1, 0, none⟩ = false := (f1 _ _ (by simp)).trans (by simp)
  have k1 : w1.cell? ⟨w.heap.size, 1, none⟩ = some (.int .u8 lt) := (q1 _ _ (by simp; omega)).trans (box_cell w _ 46 _ 1)
  have m1 : w1.cell? ⟨w.heap.size + 1, 1, none⟩ = some (.int .u8 0) := (q1 _ _ (by simp)).trans (box_cell2 w _ _ 46 1)
  have g1 : w1.frozen? ⟨w.heap.size, 1, none⟩ = false := (f1 _ _ (by simp; omega)).trans (by simp)
  have h1 : w1.frozen? ⟨w.heap.size + 1, 1, none⟩ = false := (f1 _ _ (by simp)).trans (by simp)
  have k2 : w1.cell? ⟨w.heap.size, 2, none⟩ = some (.int .i64 lf) := (q1 _ _ (by simp; omega)).trans (box_cell w _ 46 _ 2)
  have m2 : w1.cell? ⟨w.heap.size + 1, 2, none⟩ = some (.int .i64 0) := (q1 _ _ (by simp)).trans (box_cell2 w _ _ 46 2)
  have g2 : w1.frozen? ⟨w.heap.size, 2, none⟩ = false := (f1 _ _ (by simp; omega)).trans (by simp)
  have h2 : w1.frozen? ⟨w.heap.size + 1, 2, none⟩ = false := (f1 _ _ (by simp)).trans (by simp)
  have k3 : w1.cell? ⟨w.heap.size, 3, none⟩ = some (.int .i64 rg) := (q1 _ _ (by simp; omega)).trans (box_cell w _ 46 _ 3)
  have m3 : w1.cell? ⟨w.heap.size + 1, 3, none⟩ = some (.int .i64 0) := (q1 _ _ (by simp)).trans (box_cell2 w _ _ 46 3)
  have g3 : w1.frozen? ⟨w.heap.size, 3, none⟩ = false := (f1 _ _ (by simp; omega)).trans (by simp)
  have h3 : w1.frozen? ⟨w.heap.size + 1, 3, none⟩ = false := (f1 _ _ (by simp)).trans (by simp)
  have k4 : w1.cell? ⟨w.heap.size, 4, none⟩ = some (.int .i64 tm) := (q1 _ _ (by simp; omega)).trans (box_cell w _ 46 _ 4)
  have m4 : w1.cell? ⟨w.heap.size + 1, 4, none⟩ = some (.int .i64 0) := (q1 _ _ (by simp)).trans (box_cell2 w _ _ 46 4)
  have g4 : w1.frozen? ⟨w.heap.size, 4, none⟩ = false := (f1 _ _ (by simp; omega)).trans (by simp)
  have h4 : w1.frozen? ⟨w.heap.size + 1, 4, none⟩ = false := (f1 _ _ (by simp)).trans (by simp)
  have HR := Lib.hid R1; have BW := Lib.hid bw; have HT := Lib.hid (ht.below bw (Nat.le_refl _))
  clear R1 bw ht R2 q1 f1 B1
  go_wp2_with fail
  go_loop [11] (fun si => ∃ k : Nat, si = .int .i64 k ∧ k ≤ l.length ∧ Hid (∀ x ∈ l.take k, 0 ≤ x ∧ x < (len : Int))) (fun si => l.length - (intOf si).toNat)
  case atStart => exact ⟨0, rfl, by omega, Lib.hid (by simp)⟩
  case round =>
    obtain ⟨k, rfl, hk, H⟩ := hrel
    by_cases hlt : k < l.length
    · obtain ⟨ad, rfl, _, c1⟩ := HR.out.get (vi_get hlt)
      obtain ⟨z, hz⟩ : ∃ z, z = l[k] := ⟨_, rfl⟩
      rw [← hz] at c1
      have HZ := Lib.hid hz
      clear hz
      by_cases b0 : z < 0
      · go_wp2_with fail
        refine bodyPost_ret (v := .tuple #[.agg #[.int .i64 0, .int .u8 0, .int .i64 0, .int .i64 0, .int .i64 0], .iface 50 (.int .i64 1)]) ?_ rfl ⟨rfl, ?_⟩
        · simp only [results, Try.results51]
          simp [go_sem, k0, k1, k2, k3, k4, m0, m1, m2, m3, m4]
        · repeat (first | (with_reducible exact BW.out) | (with_reducible refine Below.drew ?_) | (with_reducible refine Below.setCell ?_ (by simp) _))
      · by_cases b1 : (len : Int) ≤ z
        · go_wp2_with fail
          refine bodyPost_ret (v := .tuple #[.agg #[.int .i64 0, .int .u8 0, .int .i64 0, .int .i64 0, .int .i64 0], .iface 50 (.int .i64 1)]) ?_ rfl ⟨rfl, ?_⟩
          · simp only [results, Try.results51]
            simp [go_sem, k0, k1, k2, k3, k4, m0, m1, m2, m3, m4]
          · repeat (first | (with_reducible exact BW.out) | (with_reducible refine Below.drew ?_) | (with_reducible refine Below.setCell ?_ (by simp) _))
        · have H2 : Hid (∀ x ∈ l.take (k + 1), 0 ≤ x ∧ x < (len : Int)) := Lib.hid (by
            rw [List.take_succ_eq_append_getElem hlt, ← HZ.out]
            intro x hx
            rcases List.mem_append.1 hx with h | h
            · exact H.out x h
            · simp at h; subst h; omega)
          clear H
          go_wp2_with fail
          go_round
          case rel => exact ⟨k + 1, by go_num, by omega, H2⟩
          case measure => simp [intOf]; omega
    · exfalso
      obtain rfl : k = l.length := by omega
      have h2 := H.out
      rw [List.take_length] at h2
      have h3 := OK.out
      have : mvOk l len = true := List.all_eq_true.2 fun x hx => by simpa using h2 x hx
      rw [this] at h3; cases h3

set_option maxHeartbeats 2000000 in
theorem move_two (lt lf rg tm : Int) (len cap : Nat) (A : Option Addr) (tq : List Int) (hto : tq.length = len) (hlen : len ≤ 9223372036854775807) (w : World) (ht : RowAt w A (vi tq))
    (hok : mvOk (refsOf 2 lf rg) len = true) :
    Calls Try.prog 51 #[.agg #[.int .i64 2, .int .u8 lt, .int .i64 lf, .int .i64 rg, .int .i64 tm], .slice A len cap] w fun e w' => e = .returned (.tuple #[.agg #[.int .i64 2, .int .u8 lt, .int .i64 (tq.getD lf.toNat 0), .int .i64 (tq.getD rg.toNat 0), .int .i64 tm], .nilIface]) ∧ Below w.heap.size w w' := by
  obtain ⟨l0, l1⟩ := mv_get hok (x := lf) (by simp [refsOf])
  obtain ⟨r0, r1⟩ := mv_get hok (x := rg) (by simp [refsOf])
  obtain ⟨x, hx⟩ : ∃ x, x = tq.getD lf.toNat 0 := ⟨_, rfl⟩
  obtain ⟨adr, rfl, hb, hl1⟩ := ht.get (vi_at l0 (by omega))
  rw [← hx] at hl1 ⊢
  have HX := Lib.hid hx
  clear hx
  obtain ⟨y, hy⟩ : ∃ y, y = tq.getD rg.toNat 0 := ⟨_, rfl⟩
  obtain ⟨ad2, e2, _, hr1⟩ := ht.get (vi_at r0 (by omega))
  obtain rfl : adr = ad2 := by injection e2
  rw [← hy] at hr1 ⊢
  have HY := Lib.hid hy
  clear hy e2
  obtain ⟨l, hl⟩ : ∃ l, l = refsOf 2 lf rg := ⟨_, rfl⟩
  have hle : l.length ≤ 2 := by rw [hl]; exact refsOf_le 2 lf rg
  have RR := refs_any 2 lt lf rg tm
  rw [← hl] at RR hok
  have R2 := Lib.hid RR
  have HL := Lib.hid hl
  have OK := Lib.hid hok
  clear RR hl hok
  go_enter Try.func51, Try.ntmps51
  go_wp2_with fail
  (with_reducible refine (R2.out _).mono ?_)
  rintro e w1 ⟨A1, c1, rfl, R1, B1⟩
  have bw : Below w.heap.size w w1 := (((Below.refl _ _).alloc (Nat.le_refl _) _).alloc (by simp) _).trans (B1.mono (by simp; omega))
  have z1 : w.heap.size + 1 < w1.heap.size := by have hz := B1.size; simp at hz; omega
  have hl2 : w1.cell? (adr.add lf.toNat) = some (.int .i64 x) := (bw.cell (by rw [block_add]; exact hb)).trans hl1
  have o1 : ∀ (o : Nat) v, (w1.setCell ⟨w.heap.size, o, none⟩ v).cell? (adr.add lf.toNat) = some (.int .i64 x) := fun o v => far_set hl2 (by omega)
  clear hl1
  have hr2 : w1.cell? (adr.add rg.toNat) = some (.int .i64 y) := (bw.cell (by rw [block_add]; exact hb)).trans hr1
  have o2 : ∀ (o : Nat) v, (w1.setCell ⟨w.heap.size, o, none⟩ v).cell? (adr.add rg.toNat) = some (.int .i64 y) := fun o v => far_set hr2 (by omega)
  clear hr1
  obtain ⟨q1, f1⟩ := bcell B1
  have k0 : w1.cell? ⟨w.heap.size, 0, none⟩ = some (.int .i64 2) := (q1 _ _ (by simp; omega)).trans (box_cell w _ 46 _ 0)
  have m0 : w1.cell? ⟨w.heap.size + 1, 0, none⟩ = some (.int .i64 0) := (q1 _ _ (by simp)).trans (box_cell2 w _ _ 46 0)
  have g0 : w1.frozen? ⟨w.heap.size, 0, none⟩ = false := (f1 _ _ (by simp; omega)).trans (by simp)
  have h0 : w1.frozen? ⟨w.heap.size + 1, 0, none⟩ = false := (f1 _ _ (by simp)).trans (by simp)
  have k1 : w1.cell? ⟨w.heap.size, 1, none⟩ = some (.int .u8 lt) := (q1 _ _ (by simp; omega)).trans (box_cell w _ 46 _ 1)
  have m1 : w1.cell? ⟨w.heap.size + 1, 1, none⟩ = some (.int .u8 0) := (q1 _ _ (by simp)).trans (box_cell2 w _ _ 46 1)
  have g1 : w1.frozen? ⟨w.heap.size, 1, none⟩ = false := (f1 _ _ (by simp; omega)).trans (by simp)
  have h1 : w1.frozen? ⟨w.heap.size + 1, 1, none⟩ = false := (f1 _ _ (by simp)).trans (by simp)
  have k2 : w1.cell? ⟨w.heap.size, 2, none⟩ = some (.int .i64 lf) := (q1 _ _ (by simp; omega)).trans (box_cell w _ 46 _ 2)
  have m2 : w1.cell? ⟨w.heap.size + 1, 2, none⟩ = some (.int .i64 0) := (q1 _ _ (by simp)).trans (box_cell2 w _ _ 46 2)
  have g2 : w1.frozen? ⟨w.heap.size, 2, none⟩ = false := (f1 _ _ (by simp; omega)).trans (by simp)
  have h2 : w1.frozen? ⟨w.heap.size + 1, 2, none⟩ = false := (f1 _ _ (by simp)).trans (by simp)
  have k3 : w1.cell? ⟨w.heap.size, 3, none⟩ = some (.int .i64 rg) := (q1 _ _ (by simp; omega)).trans (box_cell w _ 46 _ 3)
  have m3 : w1.cell? ⟨w.heap.size + 1, 3, none⟩ = some (.int .i64 0) := (q1 _ _ (by simp)).trans (box_cell2 w _ _ 46 3)
  have g3 : w1.frozen? ⟨w.heap.size, 3, none⟩ = false := (f1 _ _ (by simp; omega)).trans (by simp)
  have h3 : w1.frozen? ⟨w.heap.size + 1, 3, none⟩ = false := (f1 _ _ (by simp)).trans (by simp)
  have k4 : w1.cell? ⟨w.heap.size, 4, none⟩ = some (.int .i64 tm) := (q1 _ _ (by simp; omega)).trans (box_cell w _ 46 _ 4)
  have m4 : w1.cell? ⟨w.heap.size + 1, 4, none⟩ = some (.int .i64 0) := (q1 _ _ (by simp)).trans (box_cell2 w _ _ 46 4)
  have g4 : w1.frozen? ⟨w.heap.size, 4, none⟩ = false := (f1 _ _ (by simp; omega)).trans (by simp)
  have h4 : w1.frozen? ⟨w.heap.size + 1, 4, none⟩ = false := (f1 _ _ (by simp)).trans (by simp)
  have HR := Lib.hid R1; have BW := Lib.hid bw; have HT := Lib.hid (ht.below bw (Nat.le_refl _))
  clear R1 bw ht R2 q1 f1 B1
  go_wp2_with fail
  go_loop [11] (fun si => ∃ k : Nat, si = .int .i64 k ∧ k ≤ l.length) (fun si => l.length - (intOf si).toNat)
  case atStart => exact ⟨0, rfl, by omega⟩
  case round =>
    obtain ⟨k, rfl, hk⟩ := hrel
    by_cases hlt : k < l.length
    · obtain ⟨ad, rfl, _, c1⟩ := HR.out.get (vi_get hlt)
      obtain ⟨b0, b1⟩ := mv_get OK.out (List.getElem_mem hlt)
      obtain ⟨z, hz⟩ : ∃ z, z = l[k] := ⟨_, rfl⟩
      rw [← hz] at c1 b0 b1
      clear hz
      go_wp2_with fail
      go_round
      case rel => exact ⟨k + 1, by go_num, by omega⟩
      case measure => simp [intOf]; omega
    · obtain rfl : k = l.length := by omega
      go_wp2_with fail
      go_region
      all_goals go_wp2
      all_goals
        refine bodyPost_ret (v := .tuple #[.agg #[.int .i64 2, .int .u8 lt, .int .i64 x, .int .i64 y, .int .i64 tm], .nilIface]) ?_ rfl ⟨rfl, ?_⟩
        · simp only [results, Try.results51]
          simp [go_sem, k0, k1, k2, k3, k4, m0, m1, m2, m3, m4]
        · repeat (first | (with_reducible exact BW.out) | (with_reducible refine Below.drew ?_) | (with_reducible refine Below.setCell ?_ (by simp) _))

set_option maxHeartbeats 2000000 in
theorem move_three (lt lf rg tm : Int) (len cap : Nat) (A : Option Addr) (tq : List Int) (hto : tq.length = len) (hlen : len ≤ 9223372036854775807) (w : World) (ht : RowAt w A (vi tq))
    (hok : mvOk (refsOf 3 lf rg) len = true) :
    Calls Try.prog 51 #[.agg #[.int .i64 3, .int .u8 lt, .int .i64 lf, .int .i64 rg, .int .i64 tm], .slice A len cap] w fun e w' => e = .returned (.tuple #[.agg #[.int .i64 3, .int .u8 lt, .int .i64 (tq.getD lf.toNat 0), .int .i64 (rg), .int .i64 tm], .nilIface]) ∧ Below w.heap.size w w' := by
  obtain ⟨l0, l1⟩ := mv_get hok (x := lf) (by simp [refsOf])
  obtain ⟨x, hx⟩ : ∃ x, x = tq.getD lf.toNat 0 := ⟨_, rfl⟩
  obtain ⟨adr, rfl, hb, hl1⟩ := ht.get (vi_at l0 (by omega))
  rw [← hx] at hl1 ⊢
  have HX := Lib.hid hx
  clear hx
  obtain ⟨l, hl⟩ : ∃ l, l = refsOf 3 lf rg := ⟨_, rfl⟩
  have hle : l.length ≤ 2 := by rw [hl]; exact refsOf_le 3 lf rg
  have RR := refs_any 3 lt lf rg tm
  rw [← hl] at RR hok
  have R2 := Lib.hid RR
  have HL := Lib.hid hl
  have OK := Lib.hid hok
  clear RR hl hok
  go_enter Try.func51, Try.ntmps51
  go_wp2_with fail
  (with_reducible refine (R2.out _).mono ?_)
  rintro e w1 ⟨A1, c1, rfl, R1, B1⟩
  have bw : Below w.heap.size w w1 := (((Below.refl _ _).alloc (Nat.le_refl _) _).alloc (by simp) _).trans (B1.mono (by simp; omega))
  have z1 : w.heap.size + 1 < w1.heap.size := by have hz := B1.size; simp at hz; omega
  have hl2 : w1.cell? (adr.add lf.toNat) = some (.int .i64 x) := (bw.cell (by rw [block_add]; exact hb)).trans hl1
  have o1 : ∀ (o : Nat) v, (w1.setCell ⟨w.heap.size, o, none⟩ v).cell? (adr.add lf.toNat) = some (.int .i64 x) := fun o v => far_set hl2 (by omega)
  clear hl1
  obtain ⟨q1, f1⟩ := bcell B1
  have k0 : w1.cell? ⟨w.heap.size, 0, none⟩ = some (.int .i64 3) := (q1 _ _ (by simp; omega)).trans (box_cell w _ 46 _ 0)
  have m0 : w1.cell? ⟨w.heap.size + 1, 0, none⟩ = some (.int .i64 0) := (q1 _ _ (by simp)).trans (box_cell2 w _ _ 46 0)
  have g0 : w1.frozen? ⟨w.heap.size, 0, none⟩ = false := (f1 _ _ (by simp; omega)).trans (by simp)
  have h0 : w1.frozen? ⟨w.heap.size + 1, 0, none⟩ = false := (f1 _ _ (by simp)).trans (by simp)
  have k1 : w1.cell? ⟨w.heap.size, 1, none⟩ = some (.int .u8 lt) := (q1 _ _ (by simp; omega)).trans (box_cell w _ 46 _ 1)
  have m1 : w1.cell? ⟨w.heap.size + 1, 1, none⟩ = some (.int .u8 0) := (q1 _ _ (by simp)).trans (box_cell2 w _ _ 46 1)
  have g1 : w1.frozen? ⟨w.heap.size, 1, none⟩ = false := (f1 _ _ (by simp; omega)).trans (by simp)
  have h1 : w1.frozen? ⟨w.heap.size + 1, 1, none⟩ = false := (f1 _ _ (by simp)).trans (by simp)
  have k2 : w1.cell? ⟨w.heap.size, 2, none⟩ = some (.int .i64 lf) := (q1 _ _ (by simp; omega)).trans (box_cell w _ 46 _ 2)
  have m2 : w1.cell? ⟨w.heap.size + 1, 2, none⟩ = some (.int .i64 0) := (q1 _ _ (by simp)).trans (box_cell2 w _ _ 46 2)
  have g2 : w1.frozen? ⟨w.heap.size, 2, none⟩ = false := (f1 _ _ (by simp; omega)).trans (by simp)
  have h2 : w1.frozen? ⟨w.heap.size + 1, 2, none⟩ = false := (f1 _ _ (by simp)).trans (by simp)
  have k3 : w1.cell? ⟨w.heap.size, 3, none⟩ = some (.int .i64 rg) := (q1 _ _ (by simp; omega)).trans (box_cell w _ 46 _ 3)
  have m3 : w1.cell? ⟨w.heap.size + 1, 3, none⟩ = some (.int .i64 0) := (q1 _ _ (by simp)).trans (box_cell2 w _ _ 46 3)
  have g3 : w1.frozen? ⟨w.heap.size, 3, none⟩ = false := (f1 _ _ (by simp; omega)).trans (by simp)
  have h3 : w1.frozen? ⟨w.heap.size + 1, 3, none⟩ = false := (f1 _ _ (by simp)).trans (by simp)
  have k4 : w1.cell? ⟨w.heap.size, 4, none⟩ = some (.int .i64 tm) := (q1 _ _ (by simp; omega)).trans (box_cell w _ 46 _ 4)
  have m4 : w1.cell? ⟨w.heap.size + 1, 4, none⟩ = some (.int .i64 0) := (q1 _ _ (by simp)).trans (box_cell2 w _ _ 46 4)
  have g4 : w1.frozen? ⟨w.heap.size, 4, none⟩ = false := (f1 _ _ (by simp; omega)).trans (by simp)
  have h4 : w1.frozen? ⟨w.heap.size + 1, 4, none⟩ = false := (f1 _ _ (by simp)).trans (by simp)
  have HR := Lib.hid R1; have BW := Lib.hid bw; have HT := Lib.hid (ht.below bw (Nat.le_refl _))
  clear R1 bw ht R2 q1 f1 B1
  go_wp2_with fail
  go_loop [11] (fun si => ∃ k : Nat, si = .int .i64 k ∧ k ≤ l.length) (fun si => l.length - (intOf si).toNat)
  case atStart => exact ⟨0, rfl, by omega⟩
  case round =>
    obtain ⟨k, rfl, hk⟩ := hrel
    by_cases hlt : k < l.length
    · obtain ⟨ad, rfl, _, c1⟩ := HR.out.get (vi_get hlt)
      obtain ⟨b0, b1⟩ := mv_get OK.out (List.getElem_mem hlt)
      obtain ⟨z, hz⟩ : ∃ z, z = l[k] := ⟨_, rfl⟩
      rw [← hz] at c1 b0 b1
      clear hz
      go_wp2_with fail
      go_round
      case rel => exact ⟨k + 1, by go_num, by omega⟩
      case measure => simp [intOf]; omega
    · obtain rfl : k = l.length := by omega
      go_wp2_with fail
      all_goals
        refine bodyPost_ret (v := .tuple #[.agg #[.int .i64 3, .int .u8 lt, .int .i64 x, .int .i64 rg, .int .i64 tm], .nilIface]) ?_ rfl ⟨rfl, ?_⟩
        · simp only [results, Try.results51]
          simp [go_sem, k0, k1, k2, k3, k4, m0, m1, m2, m3, m4]
        · repeat (first | (with_reducible exact BW.out) | (with_reducible refine Below.drew ?_) | (with_reducible refine Below.setCell ?_ (by simp) _))

set_option maxHeartbeats 2000000 in
theorem move_one (kd lt lf rg tm : Int) (len cap : Nat) (A : Option Addr) (tq : List Int) (hto : tq.length = len) (hlen : len ≤ 9223372036854775807) (w : World) (ht : RowAt w A (vi tq))
    (e1 : (kd == 2) = false) (e2 : (kd == 3) = false) (hok : mvOk (refsOf kd lf rg) len = true) :
    Calls Try.prog 51 #[.agg #[.int .i64 kd, .int .u8 lt, .int .i64 lf, .int .i64 rg, .int .i64 tm], .slice A len cap] w fun e w' => e = .returned (.tuple #[.agg #[.int .i64 kd, .int .u8 lt, .int .i64 (lf), .int .i64 (rg), .int .i64 tm], .nilIface]) ∧ Below w.heap.size w w' := by
  obtain ⟨l, hl⟩ : ∃ l, l = refsOf kd lf rg := ⟨_, rfl⟩
  have hle : l.length ≤ 2 := by rw [hl]; exact refsOf_le kd lf rg
  have RR := refs_any kd lt lf rg tm
  rw [← hl] at RR hok
  have R2 := Lib.hid RR
  have HL := Lib.hid hl
  have OK := Lib.hid hok
  clear RR hl hok
  go_enter Try.func51, Try.ntmps51
  go_wp2_with fail
  (with_reducible refine (R2.out _).mono ?_)
  rintro e w1 ⟨A1, c1, rfl, R1, B1⟩
  have bw : Below w.heap.size w w1 := (((Below.refl _ _).alloc (Nat.le_refl _) _).alloc (by simp) _).trans (B1.mono (by simp; omega))
  have z1 : w.heap.size + 1 < w1.heap.size := by have hz := B1.size; simp at hz; omega
  obtain ⟨q1, f1⟩ := bcell B1
  have k0 : w1.cell? ⟨w.heap.size, 0, none⟩ = some (.int .i64 kd) := (q1 _ _ (by simp; omega)).trans (box_cell w _ 46 _ 0)
  have m0 : w1.cell? ⟨w.heap.size + 1, 0, none⟩ = some (.int .i64 0) := (q1 _ _ (by simp)).trans (box_cell2 w _ _ 46 0)
  have g0 : w1.frozen? ⟨w.heap.size, 0, none⟩ = false := (f1 _ _ (by simp; omega)).trans (by simp)
  have h0 : w1.frozen? ⟨w.heap.size + 1, 0, none⟩ = false := (f1 _ _ (by simp)).trans (by simp)
  have k1 : w1.cell? ⟨w.heap.size, 1, none⟩ = some (.int .u8 lt) := (q1 _ _ (by simp; omega)).trans (box_cell w _ 46 _ 1)
  have m1 : w1.cell? ⟨w.heap.size + 1, 1, none⟩ = some (.int .u8 0) := (q1 _ _ (by simp)).trans (box_cell2 w _ _ 46 1)
  have g1 : w1.frozen? ⟨w.heap.size, 1, none⟩ = false := (f1 _ _ (by simp; omega)).trans (by simp)
  have h1 : w1.frozen? ⟨w.heap.size + 1, 1, none⟩ = false := (f1 _ _ (by simp)).trans (by simp)
  have k2 : w1.cell? ⟨w.heap.size, 2, none⟩ = some (.int .i64 lf) := (q1 _ _ (by simp; omega)).trans (box_cell w _ 46 _ 2)
  have m2 : w1.cell? ⟨w.heap.size + 1, 2, none⟩ = some (.int .i64 0) := (q1 _ _ (by simp)).trans (box_cell2 w _ _ 46 2)
  have g2 : w1.frozen? ⟨w.heap.size, 2, none⟩ = false := (f1 _ _ (by simp; omega)).trans (by simp)
  have h2 : w1.frozen? ⟨w.heap.size + 1, 2, none⟩ = false := (f1 _ _ (by simp)).trans (by simp)
  have k3 : w1.cell? ⟨w.heap.size, 3, none⟩ = some (.int .i64 rg) := (q1 _ _ (by simp; omega)).trans (box_cell w _ 46 _ 3)
  have m3 : w1.cell? ⟨w.heap.size + 1, 3, none⟩ = some (.int .i64 0) := (q1 _ _ (by simp)).trans (box_cell2 w _ _ 46 3)
  have g3 : w1.frozen? ⟨w.heap.size, 3, none⟩ = false := (f1 _ _ (by simp; omega)).trans (by simp)
  have h3 : w1.frozen? ⟨w.heap.size + 1, 3, none⟩ = false := (f1 _ _ (by simp)).trans (by simp)
  have k4 : w1.cell? ⟨w.heap.size, 4, none⟩ = some (.int .i64 tm) := (q1 _ _ (by simp; omega)).trans (box_cell w _ 46 _ 4)
  have m4 : w1.cell? ⟨w.heap.size + 1, 4, none⟩ = some (.int .i64 0) := (q1 _ _ (by simp)).trans (box_cell2 w _ _ 46 4)
  have g4 : w1.frozen? ⟨w.heap.size, 4, none⟩ = false := (f1 _ _ (by simp; omega)).trans (by simp)
  have h4 : w1.frozen? ⟨w.heap.size + 1, 4, none⟩ = false := (f1 _ _ (by simp)).trans (by simp)
  have HR := Lib.hid R1; have BW := Lib.hid bw; have HT := Lib.hid (ht.below bw (Nat.le_refl _))
  clear R1 bw ht R2 q1 f1 B1
  go_wp2_with fail
  go_loop [11] (fun si => ∃ k : Nat, si = .int .i64 k ∧ k ≤ l.length) (fun si => l.length - (intOf si).toNat)
  case atStart => exact ⟨0, rfl, by omega⟩
  case round =>
    obtain ⟨k, rfl, hk⟩ := hrel
    by_cases hlt : k < l.length
    · obtain ⟨ad, rfl, _, c1⟩ := HR.out.get (vi_get hlt)
      obtain ⟨b0, b1⟩ := mv_get OK.out (List.getElem_mem hlt)
      obtain ⟨z, hz⟩ : ∃ z, z = l[k] := ⟨_, rfl⟩
      rw [← hz] at c1 b0 b1
      clear hz
      go_wp2_with fail
      go_round
      case rel => exact ⟨k + 1, by go_num, by omega⟩
      case measure => simp [intOf]; omega
    · obtain rfl : k = l.length := by omega
      go_wp2_with fail
      all_goals
        refine bodyPost_ret (v := .tuple #[.agg #[.int .i64 kd, .int .u8 lt, .int .i64 lf, .int .i64 rg, .int .i64 tm], .nilIface]) ?_ rfl ⟨rfl, ?_⟩
        · simp only [results, Try.results51]
          simp [go_sem, k0, k1, k2, k3, k4, m0, m1, m2, m3, m4]
        · repeat (first | (with_reducible exact BW.out) | (with_reducible refine Below.drew ?_) | (with_reducible refine Below.setCell ?_ (by simp) _))

/-- a rule moved: its value and an error's number. -/
def mvVal (kd lt lf rg tm : Int) (tq : List Int) : Value := if mvOk (refsOf kd lf rg) tq.length then .agg #[.int .i64 kd, .int .u8 lt, .int .i64 (mvL kd lf tq), .int .i64 (mvR kd rg tq), .int .i64 tm] else .agg #[.int .i64 0, .int .u8 0, .int .i64 0, .int .i64 0, .int .i64 0]
def mvCode (kd lf rg : Int) (tq : List Int) : Int := if mvOk (refsOf kd lf rg) tq.length then 0 else 1

theorem move_any (kd lt lf rg tm : Int) (len cap : Nat) (A : Option Addr) (tq : List Int) (hto : tq.length = len) (hlen : len ≤ 9223372036854775807) (w : World) (ht : RowAt w A (vi tq)) :
    Calls Try.prog 51 #[.agg #[.int .i64 kd, .int .u8 lt, .int .i64 lf, .int .i64 rg, .int .i64 tm], .slice A len cap] w fun e w' => e = .returned (.tuple #[mvVal kd lt lf rg tm tq, errv (mvCode kd lf rg tq)]) ∧ Below w.heap.size w w' := by
  subst hto
  cases hok : mvOk (refsOf kd lf rg) tq.length
  · have := move_bad kd lt lf rg tm _ cap A tq rfl hlen w ht hok
    unfold mvVal mvCode
    rw [hok]
    exact this
  · unfold mvVal mvCode mvL mvR
    rw [hok]
    by_cases h2 : kd = 2
    · subst h2
      exact move_two lt lf rg tm _ cap A tq rfl hlen w ht hok
    · by_cases h3 : kd = 3
      · subst h3
        exact move_three lt lf rg tm _ cap A tq rfl hlen w ht hok
      · have := move_one kd lt lf rg tm _ cap A tq rfl hlen w ht (by rw [beq_eq_false_iff_ne]; exact h2) (by rw [beq_eq_false_iff_ne]; exact h3) hok
        rw [if_pos rfl, if_neg (by omega), if_neg h2]
        exact this

end Go.Proofs.Ytcbahojefglakaa
/- What hands back a list of rules; small words for rules' cells. -/
namespace Go.Proofs.Ytcbahojefglakaa
set_option linter.unusedVariables false
set_option linter.unusedSimpArgs false
open Go.RowKit Go.Lib
/-- what hands back a list of rules and an error -/
def RulesOut (l : List Rl) (er : Value) (w : World) (e : Ending) (w' : World) : Prop := ∃ A c, e = .returned (.tuple #[.slice A l.length c, er]) ∧ RowAt w' A (gc l) ∧ Below w.heap.size w w'
theorem box_new_ {w : World} {g : Nat} {t : TypeId} {cs : Array Value} (h : g = w.heap.size) : Box (w.alloc (.cells cs t)) g t cs := by subst h; exact Box.new w t cs
theorem gc_one' (r : Rl) : gc [r] = r.cells := by simp [gc]
theorem gc_snoc (l : List Rl) (r : Rl) : gc l ++ r.cells = gc (l ++ [r]) := by rw [gc_app, gc_one']
theorem cells_one (r : Rl) : ∀ u ∈ r.cells, u.oneCell' = true := by rw [← gc_one']; exact gc_one _
end Go.Proofs.Ytcbahojefglakaa
/- What Trim computes, in plain words. -/
namespace Go.Proofs.Ytcbahojefglakaa
set_option linter.unusedVariables false
set_option linter.unusedSimpArgs false
open Go.RowKit Go.Lib
def bl (u : List Bool) : List Value := u.map .bool
/-- the marks at the numbers of l are set -/
def mark (u : List Bool) (l : List Int) : List Bool := l.foldl (fun u x => u.set x.toNat true) u
theorem mark_len : ∀ (l : List Int) (u : List Bool), (mark u l).length = u.length
  | [], _ => rfl
  | x :: l, u => (mark_len l (u.set x.toNat true)).trans (by simp)
theorem mark_snoc (u : List Bool) (l : List Int) (x : Int) : mark u (l ++ [x]) = (mark u l).set x.toNat true := by unfold mark; rw [List.foldl_append]; rfl
theorem mark_take {u : List Bool} {l : List Int} {k : Nat} (h : k < l.length) : mark u (l.take (k + 1)) = (mark u (l.take k)).set (l[k].toNat) true := by
  rw [List.take_succ_eq_append_getElem h, mark_snoc]
def refsR (r : Rl) : List Int := refsOf r.kd r.lf r.rg
def useStep (g : List Rl) (u : List Bool) (i : Nat) : List Bool := match g[i]? with
  | some r => if u.getD (i + 1) false then mark u (refsR r) else u
  | none => u
def useFrom (g : List Rl) : Nat → List Bool → List Bool
  | 0, u => u
  | i + 1, u => useFrom g i (useStep g u i)
def use0 (n : Nat) : List Bool := List.replicate n false ++ [true]
def used (g : List Rl) : List Bool := useFrom g g.length (use0 g.length)
theorem useStep_len (g : List Rl) (u : List Bool) (i : Nat) : (useStep g u i).length = u.length := by
  unfold useStep
  split
  · split
    · exact mark_len _ _
    · rfl
  · rfl
theorem useFrom_len (g : List Rl) : ∀ (i : Nat) (u : List Bool), (useFrom g i u).length = u.length
  | 0, _ => rfl
  | i + 1, u => (useFrom_len g i _).trans (useStep_len g u i)
theorem used_len (g : List Rl) : (used g).length = g.length + 1 := by unfold used; rw [useFrom_len]; simp [use0]
theorem useStep_yes {g : List Rl} {u : List Bool} {i : Nat} {r : Rl} (h : g[i]? = some r) (hu : u.getD (i + 1) false = true) : useStep g u i = mark u (refsR r) := by unfold useStep; rw [h]; exact if_pos hu
theorem useStep_no {g : List Rl} {u : List Bool} {i : Nat} {r : Rl} (h : g[i]? = some r) (hu : u.getD (i + 1) false = false) : useStep g u i = u := by unfold useStep; rw [h]; simp only; rw [hu]; rfl
/-- a rule with its references replaced -/
def mvd2 (r : Rl) (tb : List Int) : Rl := ⟨r.kd, r.lt, mvL r.kd r.lf tb, mvR r.kd r.rg tb, r.tm⟩
def trStep (u : List Bool) (i : Nat) (r : Rl) (s : List Rl × List Int) : List Rl × List Int :=
  if u.getD (i + 1) false then
    (if pos s.1 (mvd2 r s.2) = 0 then (s.1 ++ [mvd2 r s.2], s.2.set (i + 1) ((s.1.length : Int) + 1)) else (s.1, s.2.set (i + 1) (pos s.1 (mvd2 r s.2))))
  else s
def trFrom (u : List Bool) : Nat → List Rl → List Rl × List Int → List Rl × List Int
  | _, [], s => s
  | i, r :: g, s => trFrom u (i + 1) g (trStep u i r s)
def tr0 (n : Nat) : List Rl × List Int := ([], List.replicate (n + 1) 0)
def trim (g : List Rl) : List Rl := (trFrom (used g) 0 g (tr0 g.length)).1
theorem trFrom_at {u : List Bool} {g : List Rl} {i : Nat} {r : Rl} (h : g[i]? = some r) (s : List Rl × List Int) : trFrom u i (g.drop i) s = trFrom u (i + 1) (g.drop (i + 1)) (trStep u i r s) := by rw [drop_of h]; rfl
theorem trFrom_end {u : List Bool} {g : List Rl} {i : Nat} (h : g.length ≤ i) (s : List Rl × List Int) : trFrom u i (g.drop i) s = s := by rw [List.drop_eq_nil_of_le h]; rfl
theorem trStep_no {u : List Bool} {i : Nat} {r : Rl} {s : List Rl × List Int} (h : u.getD (i + 1) false = false) : trStep u i r s = s := by unfold trStep; rw [h]; rfl
theorem trStep_new {u : List Bool} {i : Nat} {r : Rl} {out : List Rl} {tb : List Int} (h : u.getD (i + 1) false = true) (h2 : pos out (mvd2 r tb) = 0) : trStep u i r (out, tb) = (out ++ [mvd2 r tb], tb.set (i + 1) ((out.length : Int) + 1)) := by
  unfold trStep; rw [if_pos h, if_pos h2]
theorem trStep_old {u : List Bool} {i : Nat} {r : Rl} {out : List Rl} {tb : List Int} (h : u.getD (i + 1) false = true) (h2 : pos out (mvd2 r tb) ≠ 0) : trStep u i r (out, tb) = (out, tb.set (i + 1) (pos out (mvd2 r tb))) := by
  unfold trStep; rw [if_pos h, if_neg h2]
/-- what stands between the rounds: numbers within what has been put out -/
structure TrOk (n i : Nat) (out : List Rl) (tb : List Int) : Prop where
  len : tb.length = n + 1
  outl : out.length ≤ i
  lo : ∀ x ∈ tb, 0 ≤ x ∧ x ≤ (out.length : Int)
  ok : ∀ r ∈ out, r.Ok
theorem TrOk.start (n : Nat) : TrOk n 0 [] (List.replicate (n + 1) 0) := ⟨by simp, Nat.le_refl _, fun x hx => by rw [List.eq_of_mem_replicate hx]; simp, fun r hr => by cases hr⟩
theorem TrOk.getD {n i : Nat} {out : List Rl} {tb : List Int} (h : TrOk n i out tb) (k : Nat) : 0 ≤ tb.getD k 0 ∧ tb.getD k 0 ≤ (out.length : Int) := by
  by_cases hk : k < tb.length
  · rw [List.getD_eq_getElem?_getD, List.getElem?_eq_getElem hk]; exact h.lo _ (List.getElem_mem hk)
  · rw [List.getD_eq_getElem?_getD, List.getElem?_eq_none (by omega)]; simp
theorem TrOk.moved {n i : Nat} {out : List Rl} {tb : List Int} (h : TrOk n i out tb) (hi : i ≤ 1000000) {r : Rl} (hr : r.Ok) : (mvd2 r tb).Ok := by
  have h' : RuleOk r.kd r.lt r.lf r.rg r.tm := hr
  obtain ⟨a0, a1, b0, b1, c0, c1, d0, d1, f0, f1⟩ := h'
  have o := h.outl
  have e1 := h.getD r.lf.toNat
  have e2 := h.getD r.rg.toNat
  show RuleOk r.kd r.lt (mvL r.kd r.lf tb) (mvR r.kd r.rg tb) r.tm
  have l : -9223372036854775808 ≤ mvL r.kd r.lf tb ∧ mvL r.kd r.lf tb ≤ 9223372036854775807 := by unfold mvL; split <;> omega
  have m : -9223372036854775808 ≤ mvR r.kd r.rg tb ∧ mvR r.kd r.rg tb ≤ 9223372036854775807 := by unfold mvR; split <;> omega
  exact ⟨a0, a1, b0, b1, l.1, l.2, m.1, m.2, f0, f1⟩
theorem TrOk.skip {n i : Nat} {out : List Rl} {tb : List Int} (h : TrOk n i out tb) : TrOk n (i + 1) out tb := ⟨h.len, Nat.le_succ_of_le h.outl, h.lo, h.ok⟩
theorem TrOk.old {n i : Nat} {out : List Rl} {tb : List Int} (h : TrOk n i out tb) (r : Rl) : TrOk n (i + 1) out (tb.set (i + 1) (pos out r)) :=
  ⟨by rw [List.length_set]; exact h.len, Nat.le_succ_of_le h.outl, fun x hx => by
    rcases List.mem_or_eq_of_mem_set hx with hx | rfl
    · exact h.lo x hx
    · have := pos_le out r; omega, h.ok⟩
theorem TrOk.new {n i : Nat} {out : List Rl} {tb : List Int} (h : TrOk n i out tb) {r : Rl} (hr : r.Ok) : TrOk n (i + 1) (out ++ [r]) (tb.set (i + 1) ((out.length : Int) + 1)) :=
  ⟨by rw [List.length_set]; exact h.len, by rw [List.length_append]; simp; exact h.outl, fun x hx => by
    rw [List.length_append]
    rcases List.mem_or_eq_of_mem_set hx with hx | rfl
    · have := h.lo x hx
      simp; omega
    · simp; omega, fun q hq => by
    rcases List.mem_append.1 hq with hq | hq
    · exact h.ok q hq
    · simp at hq; subst hq; exact hr⟩
theorem mv_ok {g : List Rl} (h0 : gcode 0 g = 0) {i n : Nat} {r : Rl} (hr : g[i]? = some r) (hn : i ≤ n) : mvOk (refsR r) (n + 1) = true := by
  have hw := rule_way h0 hr
  unfold refsR refsOf mvOk
  rcases hw with ⟨e1, _⟩ | ⟨e1, _, _, p1, p2, q1, q2⟩ | ⟨e1, _, _, _, p1, p2⟩
  · rw [e1]; rfl
  · rw [if_pos e1]; simp; omega
  · rw [if_neg (by omega), if_pos e1]; simp; omega
theorem mv_val {r : Rl} {tb : List Int} {n : Nat} (hl : tb.length = n + 1) (h : mvOk (refsR r) (n + 1) = true) : mvVal r.kd r.lt r.lf r.rg r.tm tb = (mvd2 r tb).val ∧ mvCode r.kd r.lf r.rg tb = 0 := by
  have h' : mvOk (refsOf r.kd r.lf r.rg) tb.length = true := by rw [hl]; exact h
  unfold mvVal mvCode
  rw [if_pos h', if_pos h']
  exact ⟨rfl, rfl⟩
/-- boxes through an append of another row -/
theorem Box.grown {w w' : World} {g : Nat} {t : TypeId} {cs : Array Value} (h : Box w g t cs) {row : Option Nat} (gr : w.grownBy w' row) (hr : row ≠ some g) : Box w' g t cs := (gr.block g h.lt (fun e => hr e.symm)).trans h
theorem info_bool : (Try.prog.info? 4).map (fun i => (i.zero, i.size, i.bytes)) = some (some (.bool false), 1, 1) := by kernel_rfl
theorem info_id : (Try.prog.info? 44).map (fun i => (i.zero, i.size, i.bytes)) = some (some (.int .i64 0), 1, 8) := by kernel_rfl
theorem made_one (z : Value) (hz : z.cells = #[z]) (n : Nat) : madeCells z.cells (n * 1) = (List.replicate n z).toArray := by
  rw [hz]
  refine Array.ext_getElem? fun i => ?_
  simp only [madeCells, Nat.mul_one, Array.getElem?_map]
  by_cases h : i < n
  · rw [Array.getElem?_eq_getElem (by simpa using h)]
    simp [h, Nat.mod_one]
  · rw [Array.getElem?_eq_none (by simp; omega)]
    simp [h]
theorem mk_bools (n : Nat) (hn : n ≤ 1000000) (w : World) : (Instr.makeSlice 86 (.int .i64 (n : Int)) (.int .i64 (n : Int))).run Try.prog w = .ok (.slice (some ⟨w.heap.size, 0, none⟩) n n) (w.alloc (.cells (bl (List.replicate n false)).toArray 4)) := by
  obtain ⟨i0_, hi, hz0, hz1, hz2⟩ := info_parts5 info_bool
  have h := run_makeSlice (P := Try.prog) w 86 4 i0_ _ Try.underlying86 hi hz0 .i64 .i64 n n (by omega) (by omega) (by rw [hz1]; omega) (by rw [hz2]; omega) (by omega)
  rw [h, hz1]
  have e := made_one (.bool false) rfl n
  simp only [Int.toNat_natCast]
  rw [e]
  simp [bl]
theorem mk_ids (n : Nat) (hn : n ≤ 1000000) (w : World) : (Instr.makeSlice 84 (.int .i64 (n : Int)) (.int .i64 (n : Int))).run Try.prog w = .ok (.slice (some ⟨w.heap.size, 0, none⟩) n n) (w.alloc (.cells (vi (List.replicate n 0)).toArray 44)) := by
  obtain ⟨i0_, hi, hz0, hz1, hz2⟩ := info_parts5 info_id
  have h := run_makeSlice (P := Try.prog) w 84 44 i0_ _ Try.underlying84 hi hz0 .i64 .i64 n n (by omega) (by omega) (by rw [hz1]; omega) (by rw [hz2]; omega) (by omega)
  rw [h, hz1]
  have e := made_one (.int .i64 0) rfl n
  simp only [Int.toNat_natCast]
  rw [e]
  simp [vi]
theorem bl_set (u : List Bool) (k : Nat) (b : Bool) : (bl u).toArray.setIfInBounds k (.bool b) = (bl (u.set k b)).toArray := by simp [bl, List.map_set]
theorem vi_set (u : List Int) (k : Nat) (b : Int) : (vi u).toArray.setIfInBounds k (.int .i64 b) = (vi (u.set k b)).toArray := by simp [vi, List.map_set]
theorem bl_at {u : List Bool} {k : Nat} (h : k < u.length) : (bl u).toArray[k]? = some (.bool (u.getD k false)) := by simp [bl, h]
theorem vi_at2 {u : List Int} {k : Nat} (h : k < u.length) : (vi u).toArray[k]? = some (.int .i64 (u.getD k 0)) := by simp [vi, h]
theorem use0_eq (n : Nat) : (List.replicate (n + 1) false).set n true = use0 n := by
  refine List.ext_getElem? fun i => ?_
  unfold use0
  rw [List.getElem?_set]
  by_cases h : n = i
  · subst h
    simp
  · rw [if_neg h]
    by_cases h2 : i < n
    · rw [List.getElem?_append_left (by simpa using h2)]
      simp [h2, Nat.lt_succ_of_lt h2]
    · rw [List.getElem?_append_right (by simp; omega)]
      have h3 : ¬ i < n + 1 := by omega
      rw [List.getElem?_eq_none (by simp; omega), List.getElem?_eq_none (by simp; omega)]
end Go.Proofs.Ytcbahojefglakaa
/- The walk of grammar.Trim. -/
namespace Go.Proofs.Ytcbahojefglakaa
set_option linter.unusedVariables false
set_option linter.unusedSimpArgs false
open Go.RowKit Go.Lib
attribute [local go_sem ↓] Go.wp_at_zero Go.wp_at_succ
theorem row_keep {w : World} {A : Option Addr} {l : List Int} {p : Addr} {b : Bool} (h : RowAt w A (vi l)) (hp : w.cell? p = some (.bool b)) (v : Value) : RowAt (w.setCell p v) A (vi l) := fun k u hu => by
  obtain ⟨ad, e, hc⟩ := h k u hu
  refine ⟨ad, e, (World.cell?_setCell_other w _ _ v (fun e => ?_)).trans hc⟩
  have hk : k < (vi l).length := (List.getElem?_eq_some_iff.1 hu).1
  have hu2 : u = .int .i64 (l[k]'(by simpa [vi] using hk)) := by
    have := (List.getElem?_eq_some_iff.1 hu).2
    rw [← this]; simp [vi]
  subst hu2
  rw [← e, hp] at hc
  cases hc
theorem own_lt {w : World} {base : Nat} {e : TypeId} {size n : Nat} {v : Value} {xs : List Value} (h : w.ownsRow base e size v n xs) : ∀ k, v.ownBlock = some k → k < w.heap.size := by
  rcases h.2 with ⟨rfl, _⟩ | ⟨g, cap, cur, rfl, hg, hc, _⟩
  · intro k hk; simp [Value.ownBlock] at hk
  · intro k hk
    simp [Value.ownBlock] at hk
    have := Box.lt (cs := cur) (t := e) hc
    omega
theorem own_block {w w' : World} {base : Nat} {e : TypeId} {size n : Nat} {v : Value} {xs : List Value} (h : w.ownsRow base e size v n xs) (hk : ∀ k, v.ownBlock = some k → w'.heap[k]? = w.heap[k]?) : w'.ownsRow base e size v n xs := by
  refine ⟨h.1, ?_⟩
  rcases h.2 with h | ⟨g, cap, cur, hv, hg, hc, hr⟩
  · exact .inl h
  · exact .inr ⟨g, cap, cur, hv, hg, (hk g (by rw [hv]; simp [Value.ownBlock])).trans hc, hr⟩
theorem own_kept {w w' : World} {base : Nat} {e : TypeId} {size n : Nat} {v : Value} {xs : List Value} {row : Option Nat} (h : w.ownsRow base e size v n xs) (gr : w.grownBy w' row) (hne : ∀ k, v.ownBlock = some k → row ≠ some k) : w'.ownsRow base e size v n xs :=
  own_block h fun k hk => gr.block k (own_lt h k hk) (fun e => hne k hk e.symm)
theorem own_set {w : World} {base : Nat} {e : TypeId} {size n : Nat} {v : Value} {xs : List Value} (h : w.ownsRow base e size v n xs) {p : Addr} (hp : p.block < base) (u : Value) : (w.setCell p u).ownsRow base e size v n xs :=
  own_block h fun k hk => Below.heap_setCell w p u k (by have := own_ge h k hk; omega)
set_option maxRecDepth 100000 in
set_option maxHeartbeats 16000000 in
theorem trim_ok (g : List Rl) (n c : Nat) (A : Option Addr) (hl : g.length = n) (hn : n ≤ 100000) (h0 : gcode 0 g = 0) (hok : ∀ r ∈ g, r.Ok) (w : World) (ha : RowAt w A (gc g)) :
    Calls Try.prog 31 #[.slice A n c] w (RulesOut (trim g) .nilIface w) := by
  have HC := fun w h => check_g g n c A hl (by omega) w h
  rw [h0] at HC
  obtain ⟨i0_, hi, hz0, hz1, hz2⟩ := info_parts5 info_rule
  have HI := Lib.hid hi; have HZ := Lib.hid hz0; have HZ1 := Lib.hid hz1; have HZ2 := Lib.hid hz2
  obtain ⟨U, hU⟩ : ∃ U, U = used g := ⟨_, rfl⟩
  obtain ⟨F, hF⟩ : ∃ F, F = trim g := ⟨_, rfl⟩
  have HUS : Hid (useFrom g n (use0 n) = U ∧ U.length = n + 1) := Lib.hid ⟨by rw [hU, ← hl]; rfl, by rw [hU, used_len, hl]⟩
  have HFS : Hid ((trFrom U 0 (g.drop 0) ([], List.replicate (n + 1) 0)).1 = F) := Lib.hid (by rw [hF, hU, ← hl]; rfl)
  rw [← hF]
  have HA := Lib.hid ha; have HL := Lib.hid hl; have HCC := Lib.hid HC; have H0 := Lib.hid h0; have HOK := Lib.hid hok
  have mk : ∀ w : World, (Instr.makeSlice 86 (.int .i64 ((n : Int) + 1)) (.int .i64 ((n : Int) + 1))).run Try.prog w = .ok (.slice (some ⟨w.heap.size, 0, none⟩) (n + 1) (n + 1)) (w.alloc (.cells (bl (List.replicate (n + 1) false)).toArray 4)) := fun w => mk_bools (n + 1) (by omega) w
  have mk2 : ∀ w : World, (Instr.makeSlice 84 (.int .i64 ((n : Int) + 1)) (.int .i64 ((n : Int) + 1))).run Try.prog w = .ok (.slice (some ⟨w.heap.size, 0, none⟩) (n + 1) (n + 1)) (w.alloc (.cells (vi (List.replicate (n + 1) 0)).toArray 44)) := fun w => mk_ids (n + 1) (by omega) w
  have MK2 := Lib.hid mk2
  clear ha hl HC h0 hU hF hi hz0 hz1 hz2 hok mk2
  go_enter Try.func31, Try.ntmps31
  go_wp2_with fail
  (with_reducible refine (HCC.out _ HA.out).mono ?_)
  rintro e w1 ⟨rfl, B1⟩
  rw [errv_zero]
  have BW1 := Lib.hid B1
  clear B1
  go_upto_region 5 with fail
  clear mk
  obtain ⟨w2, hw2⟩ : ∃ w2, w2 = w1.alloc (.cells (bl (List.replicate (n + 1) false)).toArray 4) := ⟨_, rfl⟩
  rw [← hw2]
  obtain ⟨G1, hG1⟩ : ∃ G1, G1 = w1.heap.size := ⟨_, rfl⟩
  rw [← hG1]
  have HB2 : Hid (Box w2 G1 4 (bl (List.replicate (n + 1) false)).toArray) := Lib.hid (by rw [hw2, hG1]; exact Box.new w1 _ _)
  have BW2 : Hid (Below w.heap.size w w2) := Lib.hid (by rw [hw2]; exact balloc BW1.out _)
  have zg : w.heap.size ≤ G1 := by rw [hG1]; exact BW1.out.size
  clear hw2 hG1
  have v0 : w2.cell? ⟨G1, n, none⟩ = some (.bool false) := (HB2.out.cell n).trans ((bl_at (by simp)).trans (by simp))
  have f0 := HB2.out.free n
  have HB3 : Hid (Box (w2.setCell ⟨G1, n, none⟩ (.bool true)) G1 4 (bl (use0 n)).toArray) := Lib.hid (by
    have := HB2.out.set_ n (.bool true)
    rw [bl_set, use0_eq] at this
    exact this)
  have BW3 := Lib.hid (BW2.out.setCell (p := ⟨G1, n, none⟩) zg (.bool true))
  go_wp2_with fail
  go_loopw [6] (fun si wr => ∃ (j : Nat) (u : List Bool), si = .int .i64 ((j : Int) - 1) ∧ j ≤ n ∧ Hid (useFrom g j u = U ∧ u.length = n + 1) ∧ Hid (Box wr G1 4 (bl u).toArray) ∧ Hid (Below w.heap.size w wr)) (fun si _ => (intOf si + 1).toNat)
  case atStart => exact ⟨n, use0 n, rfl, Nat.le_refl _, Lib.hid ⟨HUS.out.1, by simp [use0]⟩, HB3, BW3⟩
  case round =>
    clear v0 f0
    obtain ⟨j, u, rfl, hj, HG, HB, BW⟩ := hrel
    by_cases hj0 : 0 < j
    · obtain ⟨i, rfl⟩ : ∃ i, j = i + 1 := ⟨j - 1, by omega⟩
      have hil : i < g.length := by rw [HL.out]; omega
      obtain ⟨r, hr⟩ : ∃ r, g[i]? = some r := ⟨_, List.getElem?_eq_getElem hil⟩
      have hmv := mv_ok (n := n) H0.out hr (by omega)
      obtain ⟨ad, rfl, hadl, c0, c1, c2, c3, c4⟩ := row_rl (HA.out.below BW.out (Nat.le_refl _)) hr
      obtain ⟨q, hq⟩ : ∃ q, q = u.getD (i + 1) false := ⟨_, rfl⟩
      have cu : wr.cell? ⟨G1, i + 1, none⟩ = some (.bool q) := (HB.out.cell (i + 1)).trans ((bl_at (by rw [HG.out.2]; omega)).trans (by rw [hq]))
      have i0 : (0 : Int) ≤ i := by omega
      have i1 : (i : Int) < (n : Int) := by omega
      have sj : ((i + 1 : Nat) : Int) - 1 = i := by omega
      rw [sj]
      cases q with
      | false =>
        have HG2 : Hid (useFrom g i u = U ∧ u.length = n + 1) := Lib.hid ⟨by
          have := HG.out.1
          unfold useFrom at this
          rw [useStep_no hr hq.symm] at this
          exact this, HG.out.2⟩
        clear hr hq sj hmv
        go_wp2_with fail
        go_roundw
        case rel => exact ⟨i, u, by go_num, by omega, HG2, HB, BW⟩
        case measure => simp [intOf] <;> omega
      | true =>
        obtain ⟨l, hlr⟩ : ∃ l, l = refsR r := ⟨_, rfl⟩
        have hlm : ∀ x ∈ l, 0 ≤ x ∧ x < ((n + 1 : Nat) : Int) := fun x hx => mv_get hmv (by rw [← hlr]; exact hx)
        have HLM := Lib.hid hlm
        have HG2 : Hid (useFrom g i (mark u l) = U ∧ (mark u l).length = n + 1) := Lib.hid ⟨by
          have := HG.out.1
          unfold useFrom at this
          rw [useStep_yes hr hq.symm, ← hlr] at this
          exact this, by rw [mark_len]; exact HG.out.2⟩
        have HUL := Lib.hid HG.out.2
        have HRf : Hid (∀ w, Calls Try.prog 50 #[r.val] w (SliceOut w l.length (vi l))) := Lib.hid (fun w => by rw [hlr]; exact refs_any r.kd r.lt r.lf r.rg r.tm w)
        have hle : l.length ≤ 2 := by rw [hlr]; exact refsOf_le _ _ _
        obtain ⟨kd, lt, lf, rg, tm⟩ := r
        simp only at c0 c1 c2 c3 c4
        clear hr hq sj hmv hlr hlm HG
        go_wp2_with fail
        (with_reducible refine (HRf.out _).mono ?_)
        rintro e w4 ⟨A4, c4', rfl, R4, B4⟩
        have HB4 := Lib.hid (HB.out.below B4 HB.out.lt)
        have BW4 := Lib.hid (bkeep BW.out B4)
        have HR4 := Lib.hid R4
        clear B4 R4 c0 c1 c2 c3 c4 cu
        go_wp2_with fail
        go_loopw [49] (fun si wr => ∃ k : Nat, si = .int .i64 (k : Int) ∧ k ≤ l.length ∧ Hid (Box wr G1 4 (bl (mark u (l.take k))).toArray) ∧ Hid (Below w.heap.size w wr) ∧ Hid (RowAt wr A4 (vi l))) (fun si _ => l.length - (intOf si).toNat)
        case atStart => exact ⟨0, rfl, by omega, HB4, BW4, HR4⟩
        case round =>
          obtain ⟨k, rfl, hk, HBx, BWx, HRx⟩ := hrel
          by_cases hkl : k < l.length
          · obtain ⟨x1, x2⟩ := HLM.out _ (List.getElem_mem hkl)
            obtain ⟨xn, hxn⟩ : ∃ xn : Nat, l[k] = (xn : Int) := ⟨l[k].toNat, by omega⟩
            obtain ⟨a4, rfl, hal, ca⟩ := HRx.out.get (vi_get hkl)
            rw [hxn] at ca x1 x2
            have hx3 : xn < n + 1 := by omega
            have cb : wr.cell? ⟨G1, xn, none⟩ = some (.bool ((mark u (l.take k)).getD xn false)) := (HBx.out.cell xn).trans (bl_at (by rw [mark_len, HUL.out]; exact hx3))
            generalize (mark u (l.take k)).getD xn false = b0 at cb
            have fb := HBx.out.free xn
            have HBy : Hid (Box (wr.setCell ⟨G1, xn, none⟩ (.bool true)) G1 4 (bl (mark u (l.take (k + 1)))).toArray) := Lib.hid (by
              have := HBx.out.set_ xn (.bool true)
              rw [bl_set] at this
              rw [mark_take hkl, hxn]
              exact this)
            have HRy := Lib.hid (row_keep HRx.out cb (.bool true))
            have BWy := Lib.hid (BWx.out.setCell (p := ⟨G1, xn, none⟩) zg (.bool true))
            have k0 : (0 : Int) ≤ k := by omega
            clear hxn x1 x2
            go_wp2_with fail
            go_roundw
            case rel => exact ⟨k + 1, by go_num, by omega, HBy, BWy, HRy⟩
            case measure => simp [intOf] <;> omega
          · obtain rfl : k = l.length := by omega
            have HBy : Hid (Box wr G1 4 (bl (mark u l)).toArray) := Lib.hid (by
              have := HBx.out
              rw [List.take_length] at this
              exact this)
            go_wp2_with fail
            go_roundw
            case rel => exact ⟨i, mark u l, by go_num, by omega, HG2, HBy, BWx⟩
            case measure => simp [intOf] <;> omega
    · obtain rfl : j = 0 := by omega
      have HBU : Hid (Box wr G1 4 (bl U).toArray) := Lib.hid (by
        have h := HG.out.1
        have e : u = U := h
        rw [← e]; exact HB.out)
      rw [show (((0 : Nat) : Int) - 1) = -1 by omega]
      have mk2 := MK2.out
      have hmm := @run_makeMap Try.prog
      have G1lt := HB.out.lt
      clear HG
      go_upto_region 18 with fail
      clear mk2 hmm
      obtain ⟨G2, hG2⟩ : ∃ G2, G2 = wr.heap.size := ⟨_, rfl⟩
      obtain ⟨w4, hw4⟩ : ∃ w4, w4 = (wr.alloc (.cells (vi (List.replicate (n + 1) 0)).toArray 44)).alloc (.map #[] 0) := ⟨_, rfl⟩
      rw [← hw4, ← hG2]
      have HU4 : Hid (Box w4 G1 4 (bl U).toArray) := Lib.hid (by rw [hw4]; exact (HBU.out.alloc _).alloc _)
      have HT4 : Hid (Box w4 G2 44 (vi (List.replicate (n + 1) 0)).toArray) := Lib.hid (by rw [hw4, hG2]; exact (Box.new wr _ _).alloc _)
      have HF4 : Hid (FirstMap w4 (G2 + 1) 0 []) := Lib.hid (by
        rw [hw4, hG2]
        have := first_made (wr.alloc (.cells (vi (List.replicate (n + 1) 0)).toArray 44))
        rw [World.size_alloc] at this
        exact this)
      have BW4 : Hid (Below w.heap.size w w4) := Lib.hid (by rw [hw4]; exact balloc (balloc BW.out _) _)
      have z4 : w4.heap.size = G2 + 2 := by rw [hw4, hG2]; simp
      have G12 : G1 < G2 := by rw [hG2]; exact G1lt
      obtain ⟨B4, hB4⟩ : ∃ B4, B4 = w4.heap.size := ⟨_, rfl⟩
      have zB : B4 = G2 + 2 := hB4.trans z4
      have zb1 : G2 + 1 < B4 := by omega
      have zb2 : B4 ≤ w4.heap.size := by omega
      clear hw4 hG2 z4 hB4 zB HBU HB BW G1lt
      have HO4 : Hid (w4.ownsRow B4 46 5 (.slice none 0 0) 0 (gc [])) := Lib.hid ⟨by simp [gc], .inl ⟨rfl, rfl⟩⟩
      go_wp2_with fail
      go_loopw [9, 12, 13, 14, 15, 16, 17, 64] (fun so _ _ _ _ _ _ si wr => ∃ (i m : Nat) (A1 : Option Addr) (c1 : Nat) (out : List Rl) (tb : List Int), si = .int .i64 (i : Int) ∧ i ≤ n ∧ so = .slice A1 m c1 ∧ m ≤ i ∧ B4 ≤ wr.heap.size ∧ Hid ((trFrom U i (g.drop i) (out, tb)).1 = F ∧ TrOk n i out tb ∧ out.length = m) ∧
        Hid (Box wr G1 4 (bl U).toArray) ∧ Hid (Box wr G2 44 (vi tb).toArray) ∧ Hid (FirstMap wr (G2 + 1) m out) ∧ Hid (wr.ownsRow B4 46 5 (.slice A1 m c1) m (gc out)) ∧ Hid (Below w.heap.size w wr)) (fun _ _ _ _ _ _ _ si _ => n - (intOf si).toNat)
      case atStart => exact ⟨0, 0, none, 0, [], List.replicate (n + 1) 0, rfl, by omega, rfl, by omega, zb2, Lib.hid ⟨HFS.out, TrOk.start n, rfl⟩, HU4, HT4, HF4, HO4, BW4⟩
      case round =>
        obtain ⟨i, m, A1, c1, out, tb, rfl, hi, rfl, hmi, zbx, HG, HBU, HBT, HBF, HO, BW⟩ := hrel
        by_cases hlt : i < n
        · have hil : i < g.length := by rw [HL.out]; omega
          obtain ⟨r, hr⟩ : ∃ r, g[i]? = some r := ⟨_, List.getElem?_eq_getElem hil⟩
          have hmv := mv_ok (n := n) H0.out hr (by omega)
          have hrok := HOK.out r (List.mem_of_getElem? hr)
          obtain ⟨ad, rfl, hadl, d0, d1, d2, d3, d4⟩ := row_rl (HA.out.below BW.out (Nat.le_refl _)) hr
          obtain ⟨q, hq⟩ : ∃ q, q = U.getD (i + 1) false := ⟨_, rfl⟩
          have cu : wr.cell? ⟨G1, i + 1, none⟩ = some (.bool q) := (HBU.out.cell (i + 1)).trans ((bl_at (by rw [HUS.out.2]; omega)).trans (by rw [hq]))
          have i0 : (0 : Int) ≤ i := by omega
          have i1 : (i : Int) < (n : Int) := by omega
          have gl1 := HBU.out.lt; have gl2 := HBT.out.lt; have gl3 := HBF.out.lt
          cases q with
          | false =>
            have HG2 : Hid ((trFrom U (i + 1) (g.drop (i + 1)) (out, tb)).1 = F ∧ TrOk n (i + 1) out tb ∧ out.length = m) := Lib.hid ⟨by
              have := HG.out.1
              rw [trFrom_at hr, trStep_no hq.symm] at this
              exact this, HG.out.2.1.skip, HG.out.2.2⟩
            obtain ⟨kd, lt, lf, rg, tm⟩ := r
            simp only at d0 d1 d2 d3 d4
            have X := (Obj.cells #[.int .i64 kd, .int .u8 lt, .int .i64 lf, .int .i64 rg, .int .i64 tm] 46)
            have HBU2 := Lib.hid (HBU.out.alloc (.cells #[.int .i64 kd, .int .u8 lt, .int .i64 lf, .int .i64 rg, .int .i64 tm] 46))
            have HBT2 := Lib.hid (HBT.out.alloc (.cells #[.int .i64 kd, .int .u8 lt, .int .i64 lf, .int .i64 rg, .int .i64 tm] 46))
            have HBF2 := Lib.hid (HBF.out.alloc (.cells #[.int .i64 kd, .int .u8 lt, .int .i64 lf, .int .i64 rg, .int .i64 tm] 46))
            have HO2 := Lib.hid (own_alloc HO.out (.cells #[.int .i64 kd, .int .u8 lt, .int .i64 lf, .int .i64 rg, .int .i64 tm] 46))
            have BW2 := Lib.hid (balloc BW.out (.cells #[.int .i64 kd, .int .u8 lt, .int .i64 lf, .int .i64 rg, .int .i64 tm] 46))
            clear hr hq hmv hrok X
            go_wp2_with fail
            go_roundw
            case rel => exact ⟨i + 1, m, A1, c1, out, tb, by go_num, by omega, rfl, by omega, by simp; omega, HG2, HBU2, HBT2, HBF2, HO2, BW2⟩
            case measure => simp [intOf] <;> omega
          | true =>
            have htok := HG.out.2.1
            have hr2ok := htok.moved (by omega) hrok
            obtain ⟨e1, e2⟩ := mv_val htok.len hmv
            have HM : Hid (∀ w, RowAt w (some ⟨G2, 0, none⟩) (vi tb) → Calls Try.prog 51 #[r.val, .slice (some ⟨G2, 0, none⟩) (n + 1) (n + 1)] w fun e w' => e = .returned (.tuple #[(mvd2 r tb).val, .nilIface]) ∧ Below w.heap.size w w') := Lib.hid (fun w a => by
              have := move_any r.kd r.lt r.lf r.rg r.tm (n + 1) (n + 1) (some ⟨G2, 0, none⟩) tb htok.len (by omega) w a
              rw [e1, e2, errv_zero] at this
              exact this)
            have hnew : pos out (mvd2 r tb) = 0 → (trFrom U (i + 1) (g.drop (i + 1)) (out ++ [mvd2 r tb], tb.set (i + 1) ((out.length : Int) + 1))).1 = F := fun h => by
              have := HG.out.1
              rw [trFrom_at hr, trStep_new hq.symm h] at this
              exact this
            have hold : pos out (mvd2 r tb) ≠ 0 → (trFrom U (i + 1) (g.drop (i + 1)) (out, tb.set (i + 1) (pos out (mvd2 r tb)))).1 = F := fun h => by
              have := HG.out.1
              rw [trFrom_at hr, trStep_old hq.symm h] at this
              exact this
            obtain ⟨r2, hr2⟩ : ∃ r2, r2 = mvd2 r tb := ⟨_, rfl⟩
            rw [← hr2] at HM hnew hold hr2ok
            have HNEW := Lib.hid hnew; have HOLD := Lib.hid hold; have HR2 := Lib.hid hr2ok; have HTO := Lib.hid htok; have HOL := Lib.hid HG.out.2.2
            have ct : wr.cell? ⟨G2, i + 1, none⟩ = some (.int .i64 (tb.getD (i + 1) 0)) := (HBT.out.cell (i + 1)).trans (vi_at2 (by rw [htok.len]; omega))
            have HCT := Lib.hid ct
            obtain ⟨kd, lt, lf, rg, tm⟩ := r
            simp only at d0 d1 d2 d3 d4
            have HBU1 := Lib.hid (HBU.out.alloc (.cells #[.int .i64 kd, .int .u8 lt, .int .i64 lf, .int .i64 rg, .int .i64 tm] 46))
            have HBT1 := Lib.hid (HBT.out.alloc (.cells #[.int .i64 kd, .int .u8 lt, .int .i64 lf, .int .i64 rg, .int .i64 tm] 46))
            have HBF1 := Lib.hid (HBF.out.alloc (.cells #[.int .i64 kd, .int .u8 lt, .int .i64 lf, .int .i64 rg, .int .i64 tm] 46))
            have HO1 := Lib.hid (own_alloc HO.out (.cells #[.int .i64 kd, .int .u8 lt, .int .i64 lf, .int .i64 rg, .int .i64 tm] 46))
            have BW1' := Lib.hid (balloc BW.out (.cells #[.int .i64 kd, .int .u8 lt, .int .i64 lf, .int .i64 rg, .int .i64 tm] 46))
            have HRW1 := Lib.hid (RowAt.of_block HBT1.out)
            clear hr hq hmv hrok htok e1 e2 hnew hold hr2 hr2ok ct HG
            go_wp2_with fail
            (with_reducible refine (HM.out _ (by have := HRW1.out; simpa using this)).mono ?_)
            rintro e w5 ⟨rfl, B5⟩
            have HBU5 := Lib.hid (HBU1.out.below B5 HBU1.out.lt)
            have HBT5 := Lib.hid (HBT1.out.below B5 HBT1.out.lt)
            have HBF5 := Lib.hid (HBF1.out.below B5 HBF1.out.lt)
            have HO5 := Lib.hid (own_below HO1.out B5)
            have BW5 := Lib.hid (bkeep BW1'.out B5)
            have zb5 : B4 ≤ w5.heap.size := by have := B5.size; simp at this; omega
            obtain ⟨kd2, lt2, lf2, rg2, tm2⟩ := r2
            have HBU6 := Lib.hid (HBU5.out.alloc (.cells #[.int .i64 kd2, .int .u8 lt2, .int .i64 lf2, .int .i64 rg2, .int .i64 tm2] 46))
            have HBT6 := Lib.hid (HBT5.out.alloc (.cells #[.int .i64 kd2, .int .u8 lt2, .int .i64 lf2, .int .i64 rg2, .int .i64 tm2] 46))
            have HBF6 := Lib.hid (HBF5.out.alloc (.cells #[.int .i64 kd2, .int .u8 lt2, .int .i64 lf2, .int .i64 rg2, .int .i64 tm2] 46))
            have HO6 := Lib.hid (own_alloc HO5.out (.cells #[.int .i64 kd2, .int .u8 lt2, .int .i64 lf2, .int .i64 rg2, .int .i64 tm2] 46))
            have BW6 := Lib.hid (balloc BW5.out (.cells #[.int .i64 kd2, .int .u8 lt2, .int .i64 lf2, .int .i64 rg2, .int .i64 tm2] 46))
            have HX6 := Lib.hid (Box.new w5 46 #[.int .i64 kd2, .int .u8 lt2, .int .i64 lf2, .int .i64 rg2, .int .i64 tm2])
            clear B5 d0 d1 d2 d3 d4 cu
            by_cases hp : pos out ⟨kd2, lt2, lf2, rg2, tm2⟩ = 0
            · have HP := Lib.hid hp
              have HG2 : Hid ((trFrom U (i + 1) (g.drop (i + 1)) (out ++ [⟨kd2, lt2, lf2, rg2, tm2⟩], tb.set (i + 1) ((m : Int) + 1))).1 = F ∧ TrOk n (i + 1) (out ++ [⟨kd2, lt2, lf2, rg2, tm2⟩]) (tb.set (i + 1) ((m : Int) + 1)) ∧ (out ++ [(⟨kd2, lt2, lf2, rg2, tm2⟩ : Rl)]).length = m + 1) := Lib.hid ⟨by
                have := HNEW.out hp
                rw [HOL.out] at this
                exact this, by
                have := HTO.out.new HR2.out
                rw [HOL.out] at this
                exact this, by rw [List.length_append, HOL.out]; rfl⟩
              clear hp
              go_wp2_with (first | (at_lookup; refine wpList_first_look rfl (.tmp 85) (.tmp 86) rfl (G2 + 1) m out rfl HBF6.out ⟨kd2, lt2, lf2, rg2, tm2⟩ HR2.out rfl 0 false (by rw [HP.out]; rfl) (by rw [HP.out]; rfl) ?_) | refine wpList_app _ (by rfl) (.tmp 92) (.tmp 94) _ rfl B4 46 i0_ _ 5 40 Try.underlying22 HI.out HZ.out HZ1.out HZ2.out rfl (by omega) (.slice A1 m c1) m (gc out) rfl ?own _ 1 1 ((⟨kd2, lt2, lf2, rg2, tm2⟩ : Rl).cells) rfl rfl ?row (cells_one _) (by simp only [maxLen]; omega) (by omega) ?size ?_)
              case own => exact own_alloc HO6.out _
              case row => exact RowAt.of_block (box_new_ (by simp))
              case size => simp; omega
              intro A7 c7 w7 own7 gr7 at7
              rw [gc_snoc] at own7
              have hob : ∀ k, (Value.slice A1 m c1).ownBlock = some k → B4 ≤ k := own_ge HO.out
              have hob5 := own_lt HO5.out
              have zb7 : B4 ≤ w7.heap.size := by have := gr7.size; simp at this; omega
              have HO7 := Lib.hid own7
              have HBU7 := Lib.hid ((HBU6.out.alloc _).grown gr7 (fun e => by have := hob _ e; omega))
              have HBT7 := Lib.hid ((HBT6.out.alloc _).grown gr7 (fun e => by have := hob _ e; omega))
              have HBF7 := Lib.hid ((HBF6.out.alloc _).grown gr7 (fun e => by have := hob _ e; omega))
              have HX7 := Lib.hid ((HX6.out.alloc _).grown gr7 (fun e => by have := hob5 _ e; omega))
              have BW7 := Lib.hid ((balloc BW6.out _).grown gr7 (by have := BW6.out.size; simp at this ⊢; omega) (fun k hk => by have := hob k hk; omega))
              have y0 : w7.cell? ⟨w5.heap.size, 0, none⟩ = some (.int .i64 kd2) := HX7.out.cell 0
              have y1 : w7.cell? ⟨w5.heap.size, 1, none⟩ = some (.int .u8 lt2) := HX7.out.cell 1
              have y2 : w7.cell? ⟨w5.heap.size, 2, none⟩ = some (.int .i64 lf2) := HX7.out.cell 2
              have y3 : w7.cell? ⟨w5.heap.size, 3, none⟩ = some (.int .i64 rg2) := HX7.out.cell 3
              have y4 : w7.cell? ⟨w5.heap.size, 4, none⟩ = some (.int .i64 tm2) := HX7.out.cell 4
              clear own7 gr7 at7 hob5
              go_wp2_with (at_mapUpdate; refine wpList_first_store rfl (.tmp 98) (.tmp 99) (.tmp 100) rfl (G2 + 1) m out rfl HBF7.out (by simp only [maxLen]; omega) ⟨kd2, lt2, lf2, rg2, tm2⟩ HR2.out rfl HP.out ((m : Int) + 1) (by rw [HOL.out]; rfl) (by omega) rfl ?_)
              intro w8 hF8 gr8
              have hob7 := own_ge HO7.out
              have HO8 := Lib.hid (own_kept HO7.out gr8 (fun k hk e => by have := hob7 k hk; injection e with e; omega))
              have HBU8 := Lib.hid (HBU7.out.grown gr8 (fun e => by injection e with e; omega))
              have HBT8 := Lib.hid (HBT7.out.grown gr8 (fun e => by injection e with e; omega))
              have HBF8 := Lib.hid hF8
              have zb8 : B4 ≤ w8.heap.size := by have := gr8.size; omega
              have BW8 := Lib.hid (BW7.out.grown gr8 (by have := BW7.out.size; omega) (fun k hk => by injection hk with hk; omega))
              have ct8 : w8.cell? ⟨G2, i + 1, none⟩ = some (.int .i64 (tb.getD (i + 1) 0)) := (HBT8.out.cell (i + 1)).trans (vi_at2 (by rw [HTO.out.len]; omega))
              generalize tb.getD (i + 1) 0 = t0 at ct8
              have ft8 := HBT8.out.free (i + 1)
              have HBU9 := Lib.hid (HBU8.out.far (p := ⟨G2, i + 1, none⟩) (by simp; omega) (.int .i64 ((m : Int) + 1)))
              have HBT9 : Hid (Box (w8.setCell ⟨G2, i + 1, none⟩ (.int .i64 ((m : Int) + 1))) G2 44 (vi (tb.set (i + 1) ((m : Int) + 1))).toArray) := Lib.hid (by
                have := HBT8.out.set_ (i + 1) (.int .i64 ((m : Int) + 1))
                rw [vi_set] at this
                exact this)
              have HBF9 := Lib.hid (HBF8.out.set (p := ⟨G2, i + 1, none⟩) (by simp) (.int .i64 ((m : Int) + 1)))
              have HO9 := Lib.hid (own_set HO8.out (p := ⟨G2, i + 1, none⟩) (by simp; omega) (.int .i64 ((m : Int) + 1)))
              have BW9 := Lib.hid (BW8.out.setCell (p := ⟨G2, i + 1, none⟩) (by simp; omega) (.int .i64 ((m : Int) + 1)))
              clear hF8 gr8 hob7 hob y0 y1 y2 y3 y4
              go_wp2_with fail
              go_roundw
              case rel => exact ⟨i + 1, m + 1, A7, c7, _, _, by go_num, by omega, rfl, by omega, by simp [World.setCell]; omega, HG2, HBU9, HBT9, HBF9, HO9, BW9⟩
              case measure => simp [intOf] <;> omega
            · obtain ⟨p, hpp⟩ : ∃ p, p = pos out ⟨kd2, lt2, lf2, rg2, tm2⟩ := ⟨_, rfl⟩
              have HP : Hid (p = pos out ⟨kd2, lt2, lf2, rg2, tm2⟩ ∧ p ≠ 0) := Lib.hid ⟨hpp, by rw [hpp]; exact hp⟩
              have HG2 : Hid ((trFrom U (i + 1) (g.drop (i + 1)) (out, tb.set (i + 1) (p : Int))).1 = F ∧ TrOk n (i + 1) out (tb.set (i + 1) (p : Int)) ∧ out.length = m) := Lib.hid ⟨by rw [hpp]; exact HOLD.out hp, by rw [hpp]; exact HTO.out.old _, HOL.out⟩
              have hple : p ≤ m := by rw [hpp, ← HOL.out]; exact pos_le _ _
              have ct6 : (w5.alloc (.cells #[.int .i64 kd2, .int .u8 lt2, .int .i64 lf2, .int .i64 rg2, .int .i64 tm2] 46)).cell? ⟨G2, i + 1, none⟩ = some (.int .i64 (tb.getD (i + 1) 0)) := (HBT6.out.cell (i + 1)).trans (vi_at2 (by rw [HTO.out.len]; omega))
              have ct5 : w5.cell? ⟨G2, i + 1, none⟩ = some (.int .i64 (tb.getD (i + 1) 0)) := (HBT5.out.cell (i + 1)).trans (vi_at2 (by rw [HTO.out.len]; omega))
              generalize tb.getD (i + 1) 0 = t0 at ct5 ct6
              have ft5 := HBT5.out.free (i + 1)
              have ft6 := HBT6.out.free (i + 1)
              have gl5 := HBT5.out.lt
              have HBU9 := Lib.hid ((HBU5.out.far (p := ⟨G2, i + 1, none⟩) (by simp; omega) (.int .i64 (p : Int))).alloc (.cells #[.int .i64 kd2, .int .u8 lt2, .int .i64 lf2, .int .i64 rg2, .int .i64 tm2] 46))
              have HBT9 : Hid (Box ((w5.setCell ⟨G2, i + 1, none⟩ (.int .i64 (p : Int))).alloc (.cells #[.int .i64 kd2, .int .u8 lt2, .int .i64 lf2, .int .i64 rg2, .int .i64 tm2] 46)) G2 44 (vi (tb.set (i + 1) (p : Int))).toArray) := Lib.hid (by
                have := HBT5.out.set_ (i + 1) (.int .i64 (p : Int))
                rw [vi_set] at this
                exact this.alloc _)
              have HBF9 := Lib.hid ((HBF5.out.set (p := ⟨G2, i + 1, none⟩) (by simp) (.int .i64 (p : Int))).alloc (.cells #[.int .i64 kd2, .int .u8 lt2, .int .i64 lf2, .int .i64 rg2, .int .i64 tm2] 46))
              have HO9 := Lib.hid (own_alloc (own_set HO5.out (p := ⟨G2, i + 1, none⟩) (by simp; omega) (.int .i64 (p : Int))) (.cells #[.int .i64 kd2, .int .u8 lt2, .int .i64 lf2, .int .i64 rg2, .int .i64 tm2] 46))
              have BW9 := Lib.hid (balloc (BW5.out.setCell (p := ⟨G2, i + 1, none⟩) (by simp; omega) (.int .i64 (p : Int))) (.cells #[.int .i64 kd2, .int .u8 lt2, .int .i64 lf2, .int .i64 rg2, .int .i64 tm2] 46))
              clear hp hpp
              go_wp2_with (at_lookup; refine wpList_first_look rfl (.tmp 85) (.tmp 86) rfl (G2 + 1) m out rfl HBF6.out ⟨kd2, lt2, lf2, rg2, tm2⟩ HR2.out rfl (p : Int) true (by rw [← HP.out.1]) (by rw [← HP.out.1]; simp [HP.out.2]) ?_)
              go_roundw
              case rel => exact ⟨i + 1, m, A1, c1, _, _, by go_num, by omega, rfl, by omega, by simp [World.setCell]; omega, HG2, HBU9, HBT9, HBF9, HO9, BW9⟩
              case measure => simp [intOf] <;> omega
        · obtain rfl : i = n := by omega
          have HG2 : Hid (out = F ∧ out.length = m) := Lib.hid ⟨by
            have := HG.out.1
            rw [trFrom_end (by rw [HL.out]; exact Nat.le_refl _)] at this
            exact this, HG.out.2.2⟩
          go_wp2_with fail
          go_ret2
          refine ⟨A1, c1, ?_, ?_, BW.out⟩
          · rw [← HG2.out.1, HG2.out.2]; rfl
          · rw [← HG2.out.1]; exact own_row _ HO.out
theorem trim_bad (g : List Rl) (n c : Nat) (A : Option Addr) (hl : g.length = n) (hn : n ≤ 100000) (h0 : gcode 0 g ≠ 0) (w : World) (ha : RowAt w A (gc g)) :
    Calls Try.prog 31 #[.slice A n c] w (RulesOut [] (errv (gcode 0 g)) w) := by
  have HC := fun w h => check_g g n c A hl (by omega) w h
  generalize gcode 0 g = k at HC h0
  rw [errv_pos k h0] at HC
  have HA := Lib.hid ha; have HCC := Lib.hid HC
  have HK := Lib.hid h0
  clear ha hl HC h0
  go_enter Try.func31, Try.ntmps31
  go_wp2_with fail
  (with_reducible refine (HCC.out _ HA.out).mono ?_)
  rintro e w1 ⟨rfl, B1⟩
  have BW1 := Lib.hid B1
  clear B1
  go_wp2_with fail
  go_ret2
  exact ⟨none, 0, by rw [errv_pos k HK.out]; rfl, RowAt.nil _ _, BW1.out⟩
end Go.Proofs.Ytcbahojefglakaa
/- Two rules compared. -/
namespace Go.Proofs.Ytcbahojefglakaa
set_option linter.unusedVariables false
set_option linter.unusedSimpArgs false
open Go.RowKit Go.Lib
theorem rule_fields : (Try.prog.fieldsOf 46).toList.map (fun f => (f.name, f.type, f.offset)) = [("Kind", 3, 0), ("Letter", 5, 1), ("Left", 44, 2), ("Right", 44, 3), ("Times", 3, 4)] := by kernel_rfl
theorem run_eqFields_rule (d : Nat) (x y : Rl) (w : World) :
    (Op.equalIn (d + 2) 46 x.val y.val).run Try.prog w = .ok (decide (x = y)) w := by
  have hu : Try.prog.underlying 46 = some (.struct (Try.prog.fieldsOf 46)) := by kernel_rfl
  have hp : Try.prog.stoodInHeld 46 = false := by kernel_rfl
  have hf := rule_fields
  rw [run_equalIn_agg w (d + 1) _ _ _ hu hp]
  generalize (Try.prog.fieldsOf 46).toList = fs at hf
  have hl : fs.length = 5 := by have := congrArg List.length hf; simpa using this
  match fs, hl with
  | [f0, f1, f2, f3, f4], _ =>
    simp only [List.map_cons, List.map_nil, List.cons.injEq, Prod.mk.injEq, and_true] at hf
    obtain ⟨⟨n0, t0, o0⟩, ⟨n1, t1, o1⟩, ⟨n2, t2, o2⟩, ⟨n3, t3, o3⟩, ⟨n4, t4, o4⟩⟩ := hf
    obtain ⟨kd, lt, lf, rg, tm⟩ := x
    obtain ⟨kd2, lt2, lf2, rg2, tm2⟩ := y
    simp only [Op.eqFields, n0, n1, n2, n3, n4, t0, t1, t2, t3, t4, o0, o1, o2, o3, o4]
    by_cases h0 : kd = kd2 <;> by_cases h1 : lt = lt2 <;> by_cases h2 : lf = lf2 <;> by_cases h3 : rg = rg2 <;> by_cases h4 : tm = tm2 <;>
      simp [go_sem, h0, h1, h2, h3, h4, Try.underlying3, Try.underlying5, Try.underlying44]
theorem run_eql_rule (x y : Rl) (w : World) : (binOp .eql 46 x.val y.val).run Try.prog w = .ok (.bool (decide (x = y))) w := by
  rw [run_eql_struct, run_eqFields_rule 9998]
  rfl
end Go.Proofs.Ytcbahojefglakaa
/- Plain laws: grammars made of grammars: codes, texts, lengths (split out of GrJoinPlain and GrJoinPlain2). -/
namespace Go.Proofs.Ytcbahojefglakaa
set_option linter.unusedVariables false
set_option linter.unusedSimpArgs false
theorem rc_letter (lt n : Int) (h : 1 ≤ n) : rc ⟨1, lt, 0, 0, 0⟩ n = 0 := by simp [rc, checkCode, formedB, refsOf, placeCode, rangedB, inB, h]
theorem rc_pair (a b n : Int) (h1 : 1 ≤ a) (h2 : a < n) (h3 : 1 ≤ b) (h4 : b < n) : rc ⟨2, 0, a, b, 0⟩ n = 0 := by
  simp [rc, checkCode, formedB, refsOf, placeCode, rangedB, inB, h1, h3]; omega
theorem rc_power (a tm n : Int) (h1 : 1 ≤ a) (h2 : a < n) (h3 : 2 ≤ tm) : rc ⟨3, 0, a, 0, tm⟩ n = 0 := by
  simp [rc, checkCode, formedB, refsOf, placeCode, rangedB, inB, h1, h3]; omega
theorem gcode_app : ∀ (g g' : List Rl) (i : Nat), gcode i g = 0 → gcode i (g ++ g') = gcode (i + g.length) g'
  | [], g', i, _ => rfl
  | r :: g, g', i, h => by
    have e : gcode i (r :: g) = if rc r (i + 1) = 0 then gcode (i + 1) g else rc r (i + 1) := rfl
    have e2 : gcode i (r :: g ++ g') = if rc r (i + 1) = 0 then gcode (i + 1) (g ++ g') else rc r (i + 1) := rfl
    rw [e] at h
    by_cases h0 : rc r (i + 1) = 0
    · rw [if_pos h0] at h
      rw [e2, if_pos h0, gcode_app g g' (i + 1) h]
      congr 1
      simp; omega
    · rw [if_neg h0] at h; exact absurd h h0
theorem gcode_all : ∀ (g : List Rl) (i : Nat), (∀ (k : Nat) (r : Rl), g[k]? = some r → rc r ((i : Int) + (k : Int) + 1) = 0) → gcode i g = 0
  | [], i, _ => rfl
  | r :: g, i, h => by
    have e : gcode i (r :: g) = if rc r (i + 1) = 0 then gcode (i + 1) g else rc r (i + 1) := rfl
    have h0 := h 0 r rfl
    rw [show (i : Int) + ((0 : Nat) : Int) + 1 = (i : Int) + 1 by omega] at h0
    rw [e, if_pos h0]
    refine gcode_all g (i + 1) fun k r' hr => ?_
    have := h (k + 1) r' hr
    rw [show (((i + 1 : Nat)) : Int) + (k : Int) + 1 = (i : Int) + ((k + 1 : Nat) : Int) + 1 by omega]
    exact this
section
variable {α : Type} {f : List α → Rl → α}
theorem fwd_app : ∀ (g g' : List Rl) (acc : List α), fwd f acc (g ++ g') = fwd f (fwd f acc g) g'
  | [], g', acc => rfl
  | r :: g, g', acc => fwd_app g g' (acc ++ [f acc r])
end
theorem getD_add {α : Type} (T acc : List α) (a : Nat) (d : α) : (T ++ acc).getD (T.length + a) d = acc.getD a d := by
  rw [List.getD_eq_getElem?_getD, List.getD_eq_getElem?_getD, List.getElem?_append_right (by omega), Nat.add_sub_cancel_left]
theorem one_sub (a : Nat) : ((a : Int) + 1 - 1).toNat = a := by omega
theorem lensFrom_app : ∀ (g g' : List Rl) (acc L : List Int), lensFrom acc g = (L, 0) → lensFrom acc (g ++ g') = lensFrom L g'
  | [], g', acc, L, h => by cases h; rfl
  | r :: g, g', acc, L, h => by
    have e1 : lensFrom acc (r :: g) = if (len1 acc r).2 = 0 then lensFrom (acc ++ [(len1 acc r).1]) g else ([], (len1 acc r).2) := rfl
    have e2 : lensFrom acc (r :: g ++ g') = if (len1 acc r).2 = 0 then lensFrom (acc ++ [(len1 acc r).1]) (g ++ g') else ([], (len1 acc r).2) := rfl
    rw [e1] at h
    by_cases h0 : (len1 acc r).2 = 0
    · rw [if_pos h0] at h
      rw [e2, if_pos h0]; exact lensFrom_app g g' _ L h
    · rw [if_neg h0] at h; exact absurd (congrArg Prod.snd h) h0
/-- a valid grammar of not too long texts, and its text -/
structure Good (g : List Rl) (X : List Int) : Prop where
  code : gcode 0 g = 0
  lens : (lens g).2 = 0
  nil : g.length = 0 → X = []
  last : g.length ≠ 0 → X = tx g (g.length - 1)
theorem good_of_ex {g : List Rl} {most : Int} (h : (exOut g most).2 = 0) : Good g (exOut g most).1 ∧ ((exOut g most).1.length : Int) ≤ clipI most 0 65536 := by
  unfold exOut at h ⊢
  by_cases h0 : (lens g).2 = 0
  · have q : ¬ (lens g).2 ≠ 0 := by simp [h0]
    rw [if_neg q] at h ⊢
    by_cases hz : g.length = 0
    · rw [if_pos hz] at h ⊢
      exact ⟨⟨lens_g h0, h0, fun _ => rfl, fun e => absurd hz e⟩, (clip_hi most).1⟩
    · rw [if_neg hz] at h ⊢
      by_cases hc : clipI most 0 65536 < (tx g (g.length - 1)).length
      · rw [if_pos hc] at h; simp at h
      · rw [if_neg hc]
        exact ⟨⟨lens_g h0, h0, fun e => absurd e hz, fun _ => rfl⟩, by simpa using hc⟩
  · rw [if_pos h0] at h; exact absurd h h0
theorem ex_of_good {g : List Rl} {X : List Int} {most : Int} (h : Good g X) (hc : (X.length : Int) ≤ clipI most 0 65536) : exOut g most = (X, 0) := by
  unfold exOut
  rw [if_neg (by simp [h.lens])]
  by_cases hz : g.length = 0
  · rw [if_pos hz, h.nil hz]
  · rw [if_neg hz, ← h.last hz, if_neg (by omega)]
theorem lenAdd_small {a b : Int} (a0 : 0 ≤ a) (a1 : a ≤ 100000) (b0 : 0 ≤ b) (b1 : b ≤ 100000) : lenAdd a b = (a + b, 0) := by
  unfold lenAdd
  rw [if_pos (by rw [vld_yes a a0 (by omega), vld_yes b b0 (by omega)]; rfl), if_pos (by omega)]
theorem lenMul_small {a k : Int} (a0 : 0 ≤ a) (a1 : a ≤ 100000) (b0 : 0 ≤ k) (b1 : k ≤ 1000) : lenMul a k = (a * k, 0) := by
  have : a * k ≤ 100000 * 1000 := Int.mul_le_mul a1 b1 b0 (by omega)
  unfold lenMul
  rw [if_pos (by rw [vld_yes a a0 (by omega), decide_eq_true b0]; rfl), if_pos (by omega)]
theorem texts_len (g : List Rl) : (texts g).length = g.length := by unfold texts; rw [fwd_len]; simp
theorem lens_from {g : List Rl} (hv : gcode 0 g = 0) (h0 : (lens g).2 = 0) : lensFrom [] g = ((lens g).1, 0) := by
  rw [← lens_ok hv, ← h0]
theorem getD_app {α : Type} (T acc : List α) (a : Nat) (d : α) (h : a < T.length) : (T ++ acc).getD a d = T.getD a d := by
  rw [List.getD_eq_getElem?_getD, List.getD_eq_getElem?_getD, List.getElem?_append_left h]
theorem last_len {g : List Rl} {X : List Int} (h : Good g X) (hz : g.length ≠ 0) : (lens g).1.getD (g.length - 1) 0 = X.length := by
  rw [(lens_text h.code h.lens).2 _ _ (List.getElem?_eq_getElem (show g.length - 1 < g.length by omega)), ← h.last hz]
/-- one rule more -/
theorem good_snoc {G : List Rl} {T : List (List Int)} {L : List Int} {p : Rl} {Z : List Int} {v : Int} (hv : gcode 0 G = 0) (hT : texts G = T) (hL : lensFrom [] G = (L, 0)) (hp : rc p ((G.length : Int) + 1) = 0) (h1 : len1 L p = (v, 0)) (h2 : tx1 T p = Z) : Good (G ++ [p]) Z := by
  have hc : gcode 0 (G ++ [p]) = 0 := by
    rw [gcode_app G [p] 0 hv, Nat.zero_add]
    show (if rc p (G.length + 1) = 0 then gcode (G.length + 1) [] else rc p (G.length + 1)) = 0
    rw [if_pos hp]; rfl
  have ht : texts (G ++ [p]) = T ++ [Z] := by
    unfold texts; rw [fwd_app]
    show fwd tx1 (texts G) [p] = _
    rw [hT]; show T ++ [tx1 T p] = _; rw [h2]
  refine ⟨hc, ?_, fun e => by simp at e, fun _ => ?_⟩
  · rw [lens_ok hc, lensFrom_app G [p] [] L hL]
    show (if (len1 L p).2 = 0 then lensFrom (L ++ [(len1 L p).1]) [] else ([], (len1 L p).2)).2 = 0
    rw [h1]; rfl
  · unfold tx
    have hlen : T.length = G.length := by rw [← hT, texts_len]
    rw [ht, List.length_append, List.length_singleton, Nat.add_sub_cancel, ← hlen]
    have := getD_add T [Z] 0 []
    rw [Nat.add_zero] at this
    rw [this]; rfl
end Go.Proofs.Ytcbahojefglakaa
/- A list of weights as cells; the weights of a grammar's texts. -/
namespace Go.Proofs.Ytcbahojefglakaa
set_option linter.unusedVariables false
set_option linter.unusedSimpArgs false
open Go.RowKit Go.Lib
def Wt.cells (x : Wt) : List Value := [.int .i64 x.n, .int .i64 x.l, .int .i64 x.h, .int .i64 x.t, .int .u64 x.v, .int .u64 x.s]
def wcs (ws : List Wt) : List Value := ws.flatMap Wt.cells
theorem wcs_len (ws : List Wt) : (wcs ws).length = ws.length * 6 := by
  induction ws with
  | nil => rfl
  | cons r g ih => simp [wcs, Wt.cells] at ih ⊢; omega
theorem wcs_cons (r : Wt) (g : List Wt) : wcs (r :: g) = r.cells ++ wcs g := rfl
theorem wcs_app (a b : List Wt) : wcs (a ++ b) = wcs a ++ wcs b := by simp [wcs]
theorem wcs_get {g : List Wt} {i j : Nat} {r : Wt} {u : Value} (h : g[i]? = some r) (hu : r.cells[j]? = some u) : (wcs g)[i * 6 + j]? = some u := by
  induction g generalizing i with
  | nil => simp at h
  | cons a g ih =>
    have hj : j < 6 := (List.getElem?_eq_some_iff.1 hu).1
    rw [wcs_cons]
    match i with
    | 0 =>
      simp at h; subst h
      rw [List.getElem?_append_left (by simp [Wt.cells]; omega), Nat.zero_mul, Nat.zero_add]; exact hu
    | i + 1 =>
      simp at h
      rw [List.getElem?_append_right (by simp [Wt.cells]; omega)]
      have e : (i + 1) * 6 + j - a.cells.length = i * 6 + j := by simp [Wt.cells]; omega
      rw [e]; exact ih h
theorem wcs_one (g : List Wt) : ∀ u ∈ wcs g, u.oneCell' = true := by
  intro u hu
  simp only [wcs, List.mem_flatMap, Wt.cells] at hu
  obtain ⟨r, _, hr⟩ := hu
  simp at hr
  rcases hr with rfl | rfl | rfl | rfl | rfl | rfl <;> rfl
/-- n weights, of which the first are known -/
def arrW (ws : List Wt) (n : Nat) : Array Value := (wcs (ws ++ List.replicate (n - ws.length) zW)).toArray
theorem arrW_at {ws : List Wt} {n k j : Nat} {x : Wt} {u : Value} (h : ws[k]? = some x) (hu : x.cells[j]? = some u) : (arrW ws n)[k * 6 + j]? = some u := by
  have hk := (List.getElem?_eq_some_iff.1 h).1
  show (wcs _).toArray[_]? = _
  rw [List.getElem?_toArray]
  exact wcs_get (by rw [List.getElem?_append_left hk]; exact h) hu
theorem arrW_zero {ws : List Wt} {n k j : Nat} {u : Value} (h : ws.length ≤ k) (hn : k < n) (hu : zW.cells[j]? = some u) : (arrW ws n)[k * 6 + j]? = some u := by
  show (wcs _).toArray[_]? = _
  rw [List.getElem?_toArray]
  refine wcs_get (r := zW) ?_ hu
  rw [List.getElem?_append_right h, List.getElem?_replicate, if_pos (by omega)]
theorem arrW_set {ws : List Wt} {n : Nat} (x : Wt) (h : ws.length < n) : setLA (arrW ws n) (ws.length * 6) x.cells = arrW (ws ++ [x]) n := by
  have e1 : wcs (ws ++ List.replicate (n - ws.length) zW) = wcs ws ++ zW.cells ++ wcs (List.replicate (n - ws.length - 1) zW) := by
    rw [wcs_app, show n - ws.length = (n - ws.length - 1) + 1 by omega, List.replicate_succ, wcs_cons, List.append_assoc]
    simp
  have e2 : wcs (ws ++ [x] ++ List.replicate (n - (ws ++ [x]).length) zW) = wcs ws ++ x.cells ++ wcs (List.replicate (n - ws.length - 1) zW) := by
    rw [wcs_app, wcs_app, show n - (ws ++ [x]).length = n - ws.length - 1 by simp; omega]
    simp [wcs]
  unfold arrW
  rw [e1, e2, ← wcs_len]
  exact setLA_mid x.cells zW.cells (wcs ws) _ rfl
theorem arrW_end {ws : List Wt} {n : Nat} (h : ws.length = n) : arrW ws n = (wcs ws).toArray := by unfold arrW; rw [h]; simp
theorem zW_cell (j : Nat) (h : j < 6) : ∃ u, zW.cells[j]? = some u ∧ (Value.agg #[.int .i64 0, .int .i64 0, .int .i64 0, .int .i64 0, .int .u64 0, .int .u64 0]).cells[j]! = u := by
  match j, h with
  | 0, _ => exact ⟨_, rfl, rfl⟩
  | 1, _ => exact ⟨_, rfl, rfl⟩
  | 2, _ => exact ⟨_, rfl, rfl⟩
  | 3, _ => exact ⟨_, rfl, rfl⟩
  | 4, _ => exact ⟨_, rfl, rfl⟩
  | 5, _ => exact ⟨_, rfl, rfl⟩
theorem arrW_start (n : Nat) : madeCells (Value.agg #[.int .i64 0, .int .i64 0, .int .i64 0, .int .i64 0, .int .u64 0, .int .u64 0]).cells (n * 6) = arrW [] n := by
  refine Array.ext_getElem? fun i => ?_
  by_cases hi : i < n * 6
  · obtain ⟨u, h1, h2⟩ := zW_cell (i % 6) (by omega)
    have h3 := arrW_zero (ws := []) (n := n) (k := i / 6) (Nat.zero_le _) (by omega) h1
    rw [Nat.div_add_mod'] at h3
    rw [h3]
    have hs : (Value.agg #[.int .i64 0, .int .i64 0, .int .i64 0, .int .i64 0, .int .u64 0, .int .u64 0]).cells.size = 6 := rfl
    simp only [madeCells, Array.getElem?_map, hs]
    rw [Array.getElem?_eq_getElem (by simpa using hi)]
    simp [h2]
  · rw [Array.getElem?_eq_none (by simp [madeCells]; omega), Array.getElem?_eq_none (by simp [arrW, wcs_len]; omega)]
theorem info_weight : (Try.prog.info? 70).map (fun i => (i.zero, i.size, i.bytes)) = some (some (.agg #[.int .i64 0, .int .i64 0, .int .i64 0, .int .i64 0, .int .u64 0, .int .u64 0]), 6, 48) := by kernel_rfl
theorem mk_weights (n : Nat) (hn : n ≤ 100000) (w : World) : (Instr.makeSlice 63 (.int .i64 (n : Int)) (.int .i64 (n : Int))).run Try.prog w = .ok (.slice (some ⟨w.heap.size, 0, none⟩) n n) (w.alloc (.cells (arrW [] n) 70)) := by
  obtain ⟨i0_, hi, hz0, hz1, hz2⟩ := info_parts5 info_weight
  have h := run_makeSlice (P := Try.prog) w 63 70 i0_ _ Try.underlying63 hi hz0 .i64 .i64 n n (by omega) (by omega) (by rw [hz1]; omega) (by rw [hz2]; omega) (by omega)
  rw [h, hz1, ← arrW_start]
  rfl
/-- the weights of the texts of the first i rules -/
def wls (g : List Rl) (i : Nat) : List Wt := (List.range i).map fun j => wOf (tx g j)
def tls (g : List Rl) (i : Nat) : List Int := (List.range i).map fun j => ((tx g j).length : Int)
theorem wls_len (g : List Rl) (i : Nat) : (wls g i).length = i := by simp [wls]
theorem tls_len (g : List Rl) (i : Nat) : (tls g i).length = i := by simp [tls]
theorem wls_succ (g : List Rl) (i : Nat) : wls g (i + 1) = wls g i ++ [wOf (tx g i)] := by simp [wls, List.range_succ]
theorem tls_succ (g : List Rl) (i : Nat) : tls g (i + 1) = tls g i ++ [((tx g i).length : Int)] := by simp [tls, List.range_succ]
theorem wls_get (g : List Rl) {i j : Nat} (h : j < i) : (wls g i)[j]? = some (wOf (tx g j)) := by simp [wls, h]
theorem tls_get (g : List Rl) {i j : Nat} (h : j < i) : (tls g i).getD j 0 = ((tx g j).length : Int) := by simp [tls, h]
theorem rep_flat (l : List Int) (k : Nat) : rep l k = (List.replicate k l).flatten := by
  induction k with
  | zero => rfl
  | succ k ih => rw [List.replicate_succ', List.flatten_append, ← ih]; simp [rep]
theorem vW_of' {l : List Int} (h : (l.length : Int) ≤ 1152921504606846976) : vW (wOf l) = true := wOf_vB l h
theorem join_of_text {p q : List Int} (hp : (p.length : Int) ≤ 1152921504606846976) (hq : (q.length : Int) ≤ 1152921504606846976) :
    joinW (wOf p) (wOf q) = if (p.length : Int) + q.length ≤ 1152921504606846976 then (wOf (p ++ q), 0) else (zW, 2) := by
  by_cases h : (p.length : Int) + q.length ≤ 1152921504606846976
  · rw [if_pos h]
    exact joinW_of p q (by rw [List.length_append]; omega)
  · rw [if_neg h]
    unfold joinW
    rw [vW_of' hp, vW_of' hq]
    exact if_neg h
theorem rep_of_text {p : List Int} (hp : (p.length : Int) ≤ 1152921504606846976) {k : Int} (hk : 0 ≤ k) :
    repW (wOf p) k = if (p.length : Int) * k ≤ 1152921504606846976 then (wOf (List.replicate k.toNat p).flatten, 0) else (zW, 2) := by
  unfold repW
  rw [vW_of' hp, if_pos rfl, if_pos hk, rep_of, rep_flat]
  rfl
theorem lenAdd_text {a b : Int} (ha0 : 0 ≤ a) (ha : a ≤ 1152921504606846976) (hb0 : 0 ≤ b) (hb : b ≤ 1152921504606846976) : lenAdd a b = if a + b ≤ 1152921504606846976 then (a + b, 0) else (0, 2) := by
  unfold lenAdd
  rw [vld_yes a ha0 ha, vld_yes b hb0 hb]; rfl
theorem lenMul_text {a k : Int} (ha0 : 0 ≤ a) (ha : a ≤ 1152921504606846976) (hk : 0 ≤ k) : lenMul a k = if a * k ≤ 1152921504606846976 then (a * k, 0) else (0, 2) := by
  unfold lenMul
  rw [vld_yes a ha0 ha]; simp [hk]
end Go.Proofs.Ytcbahojefglakaa
/- The walk of grammar.Weights. Written by wip/gen/grwts.py. -/
namespace Go.Proofs.Ytcbahojefglakaa
set_option linter.unusedVariables false
set_option linter.unusedSimpArgs false
open Go.RowKit Go.Lib
attribute [local go_sem ↓] Go.wp_at_zero Go.wp_at_succ
/-- what hands back a list of weights and an error -/
def WtsOut (ws : List Wt) (er : Value) (w : World) (e : Ending) (w' : World) : Prop := ∃ A c, e = .returned (.tuple #[.slice A ws.length c, er]) ∧ RowAt w' A (wcs ws) ∧ Below w.heap.size w w'
/-- letters and numbers of times within the machine's kinds -/
def Rb (g : List Rl) : Prop := ∀ r ∈ g, 0 ≤ r.lt ∧ r.lt ≤ 255 ∧ r.tm ≤ 9223372036854775807
def wtsL (g : List Rl) : List Wt := if (lens g).2 = 0 then wls g g.length else []
theorem arrW_row {w : World} {G : Nat} {t : TypeId} {ws : List Wt} {n : Nat} (h : Box w G t (arrW ws n)) (hl : ws.length = n) : RowAt w (some ⟨G, 0, none⟩) (wcs ws) := by
  have := RowAt.of_block h
  rw [arrW_end hl] at this
  exact this
theorem join_ok' (x y : Wt) (hx : WOk x) (hy : WOk y) (vv : Wt) (k : Int) (hk : joinW x y = (vv, k)) (w : World) : Calls Try.prog 60 #[.agg #[.int .i64 x.n, .int .i64 x.l, .int .i64 x.h, .int .i64 x.t, .int .u64 x.v, .int .u64 x.s], .agg #[.int .i64 y.n, .int .i64 y.l, .int .i64 y.h, .int .i64 y.t, .int .u64 y.v, .int .u64 y.s]] w fun e w' => e = .returned (.tuple #[.agg #[.int .i64 vv.n, .int .i64 vv.l, .int .i64 vv.h, .int .i64 vv.t, .int .u64 vv.v, .int .u64 vv.s], errv k]) ∧ Below w.heap.size w w' := by
  have := wjoin_any x y hx hy w
  rw [hk] at this
  exact this
theorem rep_ok' (x : Wt) (t : Int) (hx : WOk x) (t0 : 0 ≤ t) (t1 : t ≤ 9223372036854775807) (vv : Wt) (k : Int) (hk : repW x t = (vv, k)) (w : World) : Calls Try.prog 61 #[.agg #[.int .i64 x.n, .int .i64 x.l, .int .i64 x.h, .int .i64 x.t, .int .u64 x.v, .int .u64 x.s], .int .i64 t] w fun e w' => e = .returned (.tuple #[.agg #[.int .i64 vv.n, .int .i64 vv.l, .int .i64 vv.h, .int .i64 vv.t, .int .u64 vv.v, .int .u64 vv.s], errv k]) ∧ Below w.heap.size w w' := by
  have := wrep_any x t hx (by omega) t1 w
  rw [hk] at this
  exact this
set_option maxRecDepth 100000 in
set_option maxHeartbeats 16000000 in
theorem weights_ok (g : List Rl) (n c : Nat) (A : Option Addr) (hl : g.length = n) (hn : n ≤ 100000) (h0 : gcode 0 g = 0) (hrb : Rb g) (w : World) (ha : RowAt w A (gc g)) :
    Calls Try.prog 40 #[.slice A n c] w (WtsOut (wtsL g) (errv (lens g).2) w) := by
  have HC := fun w h => check_g g n c A hl (by omega) w h
  rw [h0] at HC
  have hlen := lens_ok h0
  obtain ⟨L, hL⟩ : ∃ L, L = lens g := ⟨_, rfl⟩
  have hLL : lensFrom (tls g 0) (g.drop 0) = L := by rw [hL, hlen]; rfl
  obtain ⟨X, hX⟩ : ∃ X, X = wtsL g := ⟨_, rfl⟩
  have hX2 : X = if L.2 = 0 then wls g g.length else [] := by rw [hX, hL]; rfl
  rw [← hL, ← hX]
  have HA := Lib.hid ha; have HL := Lib.hid hl; have HCC := Lib.hid HC; have H0 := Lib.hid h0; have HLL := Lib.hid hLL; have HRB := Lib.hid hrb; have HX := Lib.hid hX2
  clear ha hl HC h0 hL hLL hrb hlen hX hX2
  go_enter Try.func40, Try.ntmps40
  go_wp2_with fail
  (with_reducible refine (HCC.out _ HA.out).mono ?_)
  rintro e w1 ⟨rfl, B1⟩
  rw [errv_zero]
  have BW1 := Lib.hid B1
  have mk := fun w => mk_weights n (by omega) w
  clear B1
  go_wp2_with fail
  clear mk
  have BG := Lib.hid (Box.new w1 70 (arrW (wls g 0) n))
  have B0 := Lib.hid (balloc BW1.out (.cells (arrW [] n) 70))
  have zg : w.heap.size ≤ w1.heap.size := BW1.out.size
  go_loopw [6, 7, 8, 19] (fun _ _ _ si wr => ∃ i : Nat, si = .int .i64 (i : Int) ∧ i ≤ n ∧ Hid (lensFrom (tls g i) (g.drop i) = L ∧ ∀ j, j < i → ((tx g j).length : Int) ≤ 1152921504606846976) ∧ Hid (Box wr w1.heap.size 70 (arrW (wls g i) n)) ∧ Hid (Below w.heap.size w wr)) (fun _ _ _ si _ => n - (intOf si).toNat)
  case atStart => exact ⟨0, rfl, by omega, Lib.hid ⟨HLL.out, fun j hj => by omega⟩, BG, B0⟩
  case round =>
    obtain ⟨i, rfl, hi, HG, HB, BW⟩ := hrel
    by_cases hlt : i < n
    · have hil : i < g.length := by rw [HL.out]; exact hlt
      obtain ⟨r, hr⟩ : ∃ r, g[i]? = some r := ⟨_, List.getElem?_eq_getElem hil⟩
      have hway := rule_way H0.out hr
      obtain ⟨hb0, hb1, ht1⟩ := HRB.out r (List.mem_of_getElem? hr)
      obtain ⟨ad, rfl, hadl, c0, c1, c2, c3, c4⟩ := row_rl (HA.out.below BW.out (Nat.le_refl _)) hr
      obtain ⟨kd, lt, lf, rg, tm⟩ := r
      simp only at c0 c1 c2 c3 c4 hway hb0 hb1 ht1
      have i0 : (0 : Int) ≤ i := by omega
      have i1 : (i : Int) < (n : Int) := by omega
      have zw : w1.heap.size < wr.heap.size := HB.out.lt
      have zn : w1.heap.size ≠ wr.heap.size := by omega
      rcases hway with ⟨rfl, rfl, rfl, rfl⟩ | ⟨rfl, rfl, rfl, p1, p2, q1, q2⟩ | ⟨rfl, rfl, rfl, t2, p1, p2⟩
      · have HLet := Lib.hid (fun w => wletter_any lt hb0 hb1 w)
        have htx : tx g i = [lt] := tx_letter hr
        have HG2 : Hid (lensFrom (tls g (i + 1)) (g.drop (i + 1)) = L ∧ ∀ j, j < i + 1 → ((tx g j).length : Int) ≤ 1152921504606846976) := Lib.hid ⟨by
          have e := len1_letter (tls g i) (r := ⟨1, lt, 0, 0, 0⟩) rfl
          have := lf_ok (acc := tls g i) hr (by rw [e])
          rw [e] at this
          rw [tls_succ, htx]
          exact this.symm.trans HG.out.1, fun j hj => by
          by_cases hji : j < i
          · exact HG.out.2 j hji
          · obtain rfl : j = i := by omega
            rw [htx]; simp⟩
        have HW : Hid (wls g (i + 1) = wls g i ++ [wL lt]) := Lib.hid (by rw [wls_succ, htx]; rfl)
        have HBw := Lib.hid (HB.out.alloc (.cells #[.int .i64 1, .int .u8 lt, .int .i64 0, .int .i64 0, .int .i64 0] 46))
        have BWw := Lib.hid (balloc BW.out (.cells #[.int .i64 1, .int .u8 lt, .int .i64 0, .int .i64 0, .int .i64 0] 46))
        obtain ⟨q, hq⟩ : ∃ q, q = wL lt := ⟨_, rfl⟩
        rw [← hq] at HW HLet
        clear hr htx hq
        go_wp2_with fail
        (with_reducible refine (HLet.out _).mono ?_)
        rintro e w3 ⟨rfl, B3⟩
        have HB3 := HBw.out.below B3 HBw.out.lt
        have BW3 := Lib.hid (bkeep BWw.out B3)
        have v0 : w3.cell? ⟨w1.heap.size, i * 6, none⟩ = some (.int .i64 0) := (HB3.cell (i * 6 + 0)).trans (arrW_zero (by rw [wls_len]; exact Nat.le_refl _) hlt rfl)
        have f0 := HB3.free (i * 6)
        have v1 : w3.cell? ⟨w1.heap.size, i * 6 + 1, none⟩ = some (.int .i64 0) := (HB3.cell (i * 6 + 1)).trans (arrW_zero (by rw [wls_len]; exact Nat.le_refl _) hlt rfl)
        have f1 := HB3.free (i * 6 + 1)
        have v2 : w3.cell? ⟨w1.heap.size, i * 6 + 2, none⟩ = some (.int .i64 0) := (HB3.cell (i * 6 + 2)).trans (arrW_zero (by rw [wls_len]; exact Nat.le_refl _) hlt rfl)
        have f2 := HB3.free (i * 6 + 2)
        have v3 : w3.cell? ⟨w1.heap.size, i * 6 + 3, none⟩ = some (.int .i64 0) := (HB3.cell (i * 6 + 3)).trans (arrW_zero (by rw [wls_len]; exact Nat.le_refl _) hlt rfl)
        have f3 := HB3.free (i * 6 + 3)
        have v4 : w3.cell? ⟨w1.heap.size, i * 6 + 4, none⟩ = some (.int .u64 0) := (HB3.cell (i * 6 + 4)).trans (arrW_zero (by rw [wls_len]; exact Nat.le_refl _) hlt rfl)
        have f4 := HB3.free (i * 6 + 4)
        have v5 : w3.cell? ⟨w1.heap.size, i * 6 + 5, none⟩ = some (.int .u64 0) := (HB3.cell (i * 6 + 5)).trans (arrW_zero (by rw [wls_len]; exact Nat.le_refl _) hlt rfl)
        have f5 := HB3.free (i * 6 + 5)
        have HB4 : Hid (Box (setL w3 w1.heap.size (i * 6) q.cells) w1.heap.size 70 (arrW (wls g (i + 1)) n)) := Lib.hid (by
          have h1 := Box.setL_ q.cells HB3 (i * 6)
          have h2 := arrW_set (ws := wls g i) (n := n) q (by rw [wls_len]; exact hlt)
          rw [wls_len] at h2
          rw [h2, ← HW.out] at h1
          exact h1)
        have BW4 : Hid (Below w.heap.size w (setL w3 w1.heap.size (i * 6) q.cells)) := Lib.hid (setL_below BW3.out _ _ _ zg)
        clear B3 HB3
        go_wp2_with fail
        go_roundw
        case rel => exact ⟨i + 1, by go_num, by omega, HG2, HB4, BW4⟩
        case measure => simp [intOf]; omega
      · obtain ⟨a, rfl⟩ : ∃ a : Nat, lf = (a : Int) + 1 := ⟨(lf - 1).toNat, by omega⟩
        obtain ⟨b, rfl⟩ : ∃ b : Nat, rg = (b : Int) + 1 := ⟨(rg - 1).toNat, by omega⟩
        have ai : a < i := by omega
        have an : (a : Int) < n := by omega
        have a0 : (0 : Int) ≤ a := by omega
        have wa : IntKind.i64.wrap (a : Int) = a := IntWalk.i64_in _ ⟨by omega, by omega⟩
        have bi : b < i := by omega
        have bn : (b : Int) < n := by omega
        have b0 : (0 : Int) ≤ b := by omega
        have wb : IntKind.i64.wrap (b : Int) = b := IntWalk.i64_in _ ⟨by omega, by omega⟩
        have la := HG.out.2 a ai
        have lb := HG.out.2 b bi
        have htx : tx g i = tx g a ++ tx g b := tx_pair hr ai bi
        have HJ := join_of_text la lb
        have he := len1_pair (tls g i) (r := ⟨2, 0, (a : Int) + 1, (b : Int) + 1, 0⟩) rfl
        have hea : ((a : Int) + 1 - 1).toNat = a := by omega
        have heb : ((b : Int) + 1 - 1).toNat = b := by omega
        simp only [hea, heb, tls_get g ai, tls_get g bi] at he
        rw [lenAdd_text (by omega) la (by omega) lb] at he
        have hout : ∃ (vv : Wt) (k : Int), joinW (wOf (tx g a)) (wOf (tx g b)) = (vv, k) ∧ (k = 0 → wls g (i + 1) = wls g i ++ [vv] ∧ (lensFrom (tls g (i + 1)) (g.drop (i + 1)) = L ∧ ∀ j, j < i + 1 → ((tx g j).length : Int) ≤ 1152921504606846976)) ∧ (k ≠ 0 → L = ([], k)) := by
          by_cases hcd : ((tx g a).length : Int) + (tx g b).length ≤ 1152921504606846976
          · rw [if_pos hcd] at HJ he
            refine ⟨_, 0, HJ, fun _ => ⟨by rw [wls_succ, htx], ?_, fun j hj => ?_⟩, fun h => absurd rfl h⟩
            · have := lf_ok (acc := tls g i) hr (by rw [he])
              rw [he] at this
              rw [tls_succ, htx, List.length_append, Int.natCast_add]
              exact this.symm.trans HG.out.1
            · by_cases hji : j < i
              · exact HG.out.2 j hji
              · obtain rfl : j = i := by omega
                rw [htx, List.length_append, Int.natCast_add]; exact hcd
          · rw [if_neg hcd] at HJ he
            refine ⟨_, 2, HJ, fun h => absurd h (by decide), fun _ => ?_⟩
            have := lf_bad (acc := tls g i) hr (by rw [he]; decide)
            rw [he] at this
            exact HG.out.1.symm.trans this
        obtain ⟨vv, k, hjk, hyes, hno⟩ := hout
        have HY := Lib.hid hyes; have HN := Lib.hid hno
        have HXw : Hid (∀ j u, (wOf (tx g a)).cells[j]? = some u → wr.cell? ⟨w1.heap.size, a * 6 + j, none⟩ = some u) := Lib.hid fun j u hu => (HB.out.cell (a * 6 + j)).trans (arrW_at (wls_get g ai) hu)
        have HYw : Hid (∀ j u, (wOf (tx g b)).cells[j]? = some u → wr.cell? ⟨w1.heap.size, b * 6 + j, none⟩ = some u) := Lib.hid fun j u hu => (HB.out.cell (b * 6 + j)).trans (arrW_at (wls_get g bi) hu)
        have okx := wOf_ok (tx g a) la
        have oky := wOf_ok (tx g b) lb
        obtain ⟨x, hx⟩ : ∃ x, x = wOf (tx g a) := ⟨_, rfl⟩
        rw [← hx] at HXw hjk okx
        obtain ⟨y, hy⟩ : ∃ y, y = wOf (tx g b) := ⟨_, rfl⟩
        rw [← hy] at HYw hjk oky
        have HQ := Lib.hid (fun w => join_ok' x y okx oky vv k hjk w)
        have HBw := Lib.hid (HB.out.alloc (.cells #[.int .i64 2, .int .u8 0, .int .i64 ((a : Int) + 1), .int .i64 ((b : Int) + 1), .int .i64 0] 46))
        have BX := Box.new wr 46 #[.int .i64 2, .int .u8 0, .int .i64 ((a : Int) + 1), .int .i64 ((b : Int) + 1), .int .i64 0]
        have BW0 := balloc BW.out (.cells #[.int .i64 2, .int .u8 0, .int .i64 ((a : Int) + 1), .int .i64 ((b : Int) + 1), .int .i64 0] 46)
        have HBz : Hid (∀ j u, zW.cells[j]? = some u → wr.cell? ⟨w1.heap.size, i * 6 + j, none⟩ = some u) := Lib.hid fun j u hu => (HB.out.cell (i * 6 + j)).trans (arrW_zero (by rw [wls_len]; exact Nat.le_refl _) hlt hu)
        clear hr htx HJ he hea heb hyes hno hjk okx oky hx hy la lb
        go_upto_region 13 with fail
        refine Rm.region_st (sx := 19) (px := ⟨w1.heap.size, (i * 6), none⟩) (ux := [.int .i64 vv.n, .int .i64 vv.l, .int .i64 vv.h, .int .i64 vv.t, .int .u64 vv.v, .int .u64 vv.s]) (bs := [true, true, true, true, true, true, true, true, true, true, true, true, true, true, true, true, true, false, true, true]) (.val (fun v _ => v = .slice (some ⟨w1.heap.size, 0, none⟩) n n) :: .val (fun v _ => v = .int .i64 (i : Int)) :: .val (fun v _ => v = .slice (some ⟨w1.heap.size, 0, none⟩) n n) :: .val (fun v _ => v = .pointer (some ⟨wr.heap.size, 2, none⟩)) :: .val (fun v _ => v = .int .i64 ((a : Int) + 1)) :: .val (fun v _ => v = .int .i64 (a : Int)) :: .val (fun v _ => v = .pointer (some ⟨w1.heap.size, a * 6, none⟩)) :: .val (fun v _ => v = .agg #[.int .i64 x.n, .int .i64 x.l, .int .i64 x.h, .int .i64 x.t, .int .u64 x.v, .int .u64 x.s]) :: .val (fun v _ => v = .slice (some ⟨w1.heap.size, 0, none⟩) n n) :: .val (fun v _ => v = .pointer (some ⟨wr.heap.size, 3, none⟩)) :: .val (fun v _ => v = .int .i64 ((b : Int) + 1)) :: .val (fun v _ => v = .int .i64 (b : Int)) :: .val (fun v _ => v = .pointer (some ⟨w1.heap.size, b * 6, none⟩)) :: .val (fun v _ => v = .agg #[.int .i64 y.n, .int .i64 y.l, .int .i64 y.h, .int .i64 y.t, .int .u64 y.v, .int .u64 y.s]) :: .val (fun v _ => v = .tuple #[.agg #[.int .i64 vv.n, .int .i64 vv.l, .int .i64 vv.h, .int .i64 vv.t, .int .u64 vv.v, .int .u64 vv.s], errv k]) :: .val (fun v _ => v = .tuple #[.agg #[.int .i64 vv.n, .int .i64 vv.l, .int .i64 vv.h, .int .i64 vv.t, .int .u64 vv.v, .int .u64 vv.s], errv k]) :: .val (fun v _ => v = .agg #[.int .i64 vv.n, .int .i64 vv.l, .int .i64 vv.h, .int .i64 vv.t, .int .u64 vv.v, .int .u64 vv.s]) :: .val (fun v _ => v = errv k) :: .val (fun v _ => v = .pointer (some ⟨w1.heap.size, i * 6, none⟩)) :: .st ⟨w1.heap.size, (i * 6), none⟩ ([.int .i64 vv.n, .int .i64 vv.l, .int .i64 vv.h, .int .i64 vv.t, .int .u64 vv.v, .int .u64 vv.s]) :: [])
          ([] :: [] :: [] :: [] :: [(40, 3)] :: [(41, 4)] :: [(39, 2), (42, 5)] :: [(43, 6)] :: [] :: [] :: [(46, 9)] :: [(47, 10)] :: [(45, 8), (48, 11)] :: [(49, 12)] :: [(44, 7), (50, 13)] :: [(51, 14)] :: [(36, 15)] :: [(36, 15)] :: [(37, 0), (38, 1)] :: [(54, 18), (52, 16)] :: []) ((0, 0) :: (0, 0) :: (0, 0) :: (0, 0) :: (0, 0) :: (0, 0) :: (0, 0) :: (0, 0) :: (0, 0) :: (0, 0) :: (0, 0) :: (0, 0) :: (0, 0) :: (0, 0) :: (0, 0) :: (0, 0) :: (0, 0) :: (0, 0) :: (0, 0) :: (3, 0) :: []) 77 (by kernel_rfl) rfl rfl (by kernel_rfl) (by kernel_rfl) rfl (by first | omega | (simp; omega)) ⟨⟨rfl, rfl⟩, trivial⟩ (by decide) ⟨⟨Rm.Stab.pure _ _ _, fun _ _ h => h⟩, ⟨Rm.Stab.pure _ _ _, fun _ _ h => h⟩, ⟨Rm.Stab.pure _ _ _, fun _ _ h => h⟩, ⟨Rm.Stab.pure _ _ _, fun _ _ h => h⟩, ⟨Rm.Stab.pure _ _ _, fun _ _ h => h⟩, ⟨Rm.Stab.pure _ _ _, fun _ _ h => h⟩, ⟨Rm.Stab.pure _ _ _, fun _ _ h => h⟩, ⟨Rm.Stab.pure _ _ _, fun _ _ h => h⟩, ⟨Rm.Stab.pure _ _ _, fun _ _ h => h⟩, ⟨Rm.Stab.pure _ _ _, fun _ _ h => h⟩, ⟨Rm.Stab.pure _ _ _, fun _ _ h => h⟩, ⟨Rm.Stab.pure _ _ _, fun _ _ h => h⟩, ⟨Rm.Stab.pure _ _ _, fun _ _ h => h⟩, ⟨Rm.Stab.pure _ _ _, fun _ _ h => h⟩, ⟨Rm.Stab.pure _ _ _, fun _ _ h => h⟩, ⟨Rm.Stab.pure _ _ _, fun _ _ h => h⟩, ⟨Rm.Stab.pure _ _ _, fun _ _ h => h⟩, ⟨Rm.Stab.pure _ _ _, fun _ _ h => h⟩, ⟨Rm.Stab.pure _ _ _, fun _ _ h => h⟩, trivial⟩ ⟨?_, ?_, ?_, ?_, ?_, ?_, ?_, ?_, ?_, ?_, ?_, ?_, ?_, ?_, ?_, ?_, ?_, ?_, ?_, ?_, trivial⟩ ?_
        · intro wx hb0
          have hb : Below _ _ wx := hb0
          intro K hK
          go_simp
          exact hK _ _ rfl ⟨rfl, Below.refl _ _⟩
        · intro wx hb0
          have hb : Below _ _ wx := hb0
          intro K hK
          go_simp
          exact hK _ _ rfl ⟨rfl, Below.refl _ _⟩
        · intro wx hb0
          have hb : Below _ _ wx := hb0
          intro K hK
          go_simp
          exact hK _ _ rfl ⟨rfl, Below.refl _ _⟩
        · intro wx hb0
          have hb : Below _ _ wx := hb0
          intro K hK
          go_simp
          exact hK _ _ rfl ⟨rfl, Below.refl _ _⟩
        · intro wx hb0
          have hb : Below _ _ wx := hb0
          rintro _ rfl
          intro K hK
          have mm := Box.below (BX) hb (Box.lt (BX))
          have m0 : wx.cell? ⟨wr.heap.size, 0, none⟩ = some (.int .i64 2) := mm.cell 0
          have m1 : wx.cell? ⟨wr.heap.size, 1, none⟩ = some (.int .u8 0) := mm.cell 1
          have m2 : wx.cell? ⟨wr.heap.size, 2, none⟩ = some (.int .i64 ((a : Int) + 1)) := mm.cell 2
          have m3 : wx.cell? ⟨wr.heap.size, 3, none⟩ = some (.int .i64 ((b : Int) + 1)) := mm.cell 3
          have m4 : wx.cell? ⟨wr.heap.size, 4, none⟩ = some (.int .i64 0) := mm.cell 4
          clear mm
          go_simp
          exact hK _ _ rfl ⟨rfl, Below.refl _ _⟩
        · intro wx hb0
          have hb : Below _ _ wx := hb0
          rintro _ rfl
          intro K hK
          go_simp
          exact hK _ _ rfl ⟨rfl, Below.refl _ _⟩
        · intro wx hb0
          have hb : Below _ _ wx := hb0
          rintro _ rfl
          rintro _ rfl
          intro K hK
          go_simp
          exact hK _ _ rfl ⟨rfl, Below.refl _ _⟩
        · intro wx hb0
          have hb : Below _ _ wx := hb0
          rintro _ rfl
          intro K hK
          have z0 := (hb.cell (p := ⟨w1.heap.size, a * 6, none⟩) HBw.out.lt).trans ((HBw.out.cell (a * 6 + 0)).trans ((HB.out.cell (a * 6 + 0)).symm.trans (HXw.out 0 _ rfl))); have z1 := (hb.cell (p := ⟨w1.heap.size, a * 6 + 1, none⟩) HBw.out.lt).trans ((HBw.out.cell (a * 6 + 1)).trans ((HB.out.cell (a * 6 + 1)).symm.trans (HXw.out 1 _ rfl))); have z2 := (hb.cell (p := ⟨w1.heap.size, a * 6 + 2, none⟩) HBw.out.lt).trans ((HBw.out.cell (a * 6 + 2)).trans ((HB.out.cell (a * 6 + 2)).symm.trans (HXw.out 2 _ rfl))); have z3 := (hb.cell (p := ⟨w1.heap.size, a * 6 + 3, none⟩) HBw.out.lt).trans ((HBw.out.cell (a * 6 + 3)).trans ((HB.out.cell (a * 6 + 3)).symm.trans (HXw.out 3 _ rfl))); have z4 := (hb.cell (p := ⟨w1.heap.size, a * 6 + 4, none⟩) HBw.out.lt).trans ((HBw.out.cell (a * 6 + 4)).trans ((HB.out.cell (a * 6 + 4)).symm.trans (HXw.out 4 _ rfl))); have z5 := (hb.cell (p := ⟨w1.heap.size, a * 6 + 5, none⟩) HBw.out.lt).trans ((HBw.out.cell (a * 6 + 5)).trans ((HB.out.cell (a * 6 + 5)).symm.trans (HXw.out 5 _ rfl))); go_simp; exact hK _ _ rfl ⟨rfl, Below.refl _ _⟩
        · intro wx hb0
          have hb : Below _ _ wx := hb0
          intro K hK
          go_simp
          exact hK _ _ rfl ⟨rfl, Below.refl _ _⟩
        · intro wx hb0
          have hb : Below _ _ wx := hb0
          intro K hK
          go_simp
          exact hK _ _ rfl ⟨rfl, Below.refl _ _⟩
        · intro wx hb0
          have hb : Below _ _ wx := hb0
          rintro _ rfl
          intro K hK
          have mm := Box.below (BX) hb (Box.lt (BX))
          have m0 : wx.cell? ⟨wr.heap.size, 0, none⟩ = some (.int .i64 2) := mm.cell 0
          have m1 : wx.cell? ⟨wr.heap.size, 1, none⟩ = some (.int .u8 0) := mm.cell 1
          have m2 : wx.cell? ⟨wr.heap.size, 2, none⟩ = some (.int .i64 ((a : Int) + 1)) := mm.cell 2
          have m3 : wx.cell? ⟨wr.heap.size, 3, none⟩ = some (.int .i64 ((b : Int) + 1)) := mm.cell 3
          have m4 : wx.cell? ⟨wr.heap.size, 4, none⟩ = some (.int .i64 0) := mm.cell 4
          clear mm
          go_simp
          exact hK _ _ rfl ⟨rfl, Below.refl _ _⟩
        · intro wx hb0
          have hb : Below _ _ wx := hb0
          rintro _ rfl
          intro K hK
          go_simp
          exact hK _ _ rfl ⟨rfl, Below.refl _ _⟩
        · intro wx hb0
          have hb : Below _ _ wx := hb0
          rintro _ rfl
          rintro _ rfl
          intro K hK
          go_simp
          exact hK _ _ rfl ⟨rfl, Below.refl _ _⟩
        · intro wx hb0
          have hb : Below _ _ wx := hb0
          rintro _ rfl
          intro K hK
          have z0 := (hb.cell (p := ⟨w1.heap.size, b * 6, none⟩) HBw.out.lt).trans ((HBw.out.cell (b * 6 + 0)).trans ((HB.out.cell (b * 6 + 0)).symm.trans (HYw.out 0 _ rfl))); have z1 := (hb.cell (p := ⟨w1.heap.size, b * 6 + 1, none⟩) HBw.out.lt).trans ((HBw.out.cell (b * 6 + 1)).trans ((HB.out.cell (b * 6 + 1)).symm.trans (HYw.out 1 _ rfl))); have z2 := (hb.cell (p := ⟨w1.heap.size, b * 6 + 2, none⟩) HBw.out.lt).trans ((HBw.out.cell (b * 6 + 2)).trans ((HB.out.cell (b * 6 + 2)).symm.trans (HYw.out 2 _ rfl))); have z3 := (hb.cell (p := ⟨w1.heap.size, b * 6 + 3, none⟩) HBw.out.lt).trans ((HBw.out.cell (b * 6 + 3)).trans ((HB.out.cell (b * 6 + 3)).symm.trans (HYw.out 3 _ rfl))); have z4 := (hb.cell (p := ⟨w1.heap.size, b * 6 + 4, none⟩) HBw.out.lt).trans ((HBw.out.cell (b * 6 + 4)).trans ((HB.out.cell (b * 6 + 4)).symm.trans (HYw.out 4 _ rfl))); have z5 := (hb.cell (p := ⟨w1.heap.size, b * 6 + 5, none⟩) HBw.out.lt).trans ((HBw.out.cell (b * 6 + 5)).trans ((HB.out.cell (b * 6 + 5)).symm.trans (HYw.out 5 _ rfl))); go_simp; exact hK _ _ rfl ⟨rfl, Below.refl _ _⟩
        · intro wx hb0
          have hb : Below _ _ wx := hb0
          rintro _ rfl
          rintro _ rfl
          intro K hK
          go_simp
          (with_reducible refine (HQ.out _).mono ?_)
          rintro e wa ⟨rfl, Ba⟩
          exact hK _ _ rfl ⟨rfl, Ba⟩
        · intro wx hb0
          have hb : Below _ _ wx := hb0
          rintro _ rfl
          intro K hK
          go_simp
          exact hK _ _ rfl ⟨rfl, Below.refl _ _⟩
        · intro wx hb0
          have hb : Below _ _ wx := hb0
          rintro _ rfl
          intro K hK
          go_simp
          exact hK _ _ rfl ⟨rfl, Below.refl _ _⟩
        · intro wx hb0
          rintro _ rfl
          intro K hK
          go_simp
          exact hK _ _ rfl ⟨rfl, Below.refl _ _⟩
        · intro wx hb0
          have hb : Below _ _ wx := hb0
          rintro _ rfl
          rintro _ rfl
          intro K hK
          go_simp
          exact hK _ _ rfl ⟨rfl, Below.refl _ _⟩
        · intro wx hb0
          have hb : Below _ _ wx := hb0
          rintro _ rfl
          rintro _ rfl
          intro K hK
          have zc0 := (hb.cell (p := ⟨w1.heap.size, i * 6, none⟩) HBw.out.lt).trans ((HBw.out.cell (i * 6 + 0)).trans ((HB.out.cell (i * 6 + 0)).symm.trans (HBz.out 0 _ rfl))); have zf0 := (Box.below HBw.out hb HBw.out.lt).free (i * 6); have zc1 := (hb.cell (p := ⟨w1.heap.size, i * 6 + 1, none⟩) HBw.out.lt).trans ((HBw.out.cell (i * 6 + 1)).trans ((HB.out.cell (i * 6 + 1)).symm.trans (HBz.out 1 _ rfl))); have zf1 := (Box.below HBw.out hb HBw.out.lt).free (i * 6 + 1); have zc2 := (hb.cell (p := ⟨w1.heap.size, i * 6 + 2, none⟩) HBw.out.lt).trans ((HBw.out.cell (i * 6 + 2)).trans ((HB.out.cell (i * 6 + 2)).symm.trans (HBz.out 2 _ rfl))); have zf2 := (Box.below HBw.out hb HBw.out.lt).free (i * 6 + 2); have zc3 := (hb.cell (p := ⟨w1.heap.size, i * 6 + 3, none⟩) HBw.out.lt).trans ((HBw.out.cell (i * 6 + 3)).trans ((HB.out.cell (i * 6 + 3)).symm.trans (HBz.out 3 _ rfl))); have zf3 := (Box.below HBw.out hb HBw.out.lt).free (i * 6 + 3); have zc4 := (hb.cell (p := ⟨w1.heap.size, i * 6 + 4, none⟩) HBw.out.lt).trans ((HBw.out.cell (i * 6 + 4)).trans ((HB.out.cell (i * 6 + 4)).symm.trans (HBz.out 4 _ rfl))); have zf4 := (Box.below HBw.out hb HBw.out.lt).free (i * 6 + 4); have zc5 := (hb.cell (p := ⟨w1.heap.size, i * 6 + 5, none⟩) HBw.out.lt).trans ((HBw.out.cell (i * 6 + 5)).trans ((HB.out.cell (i * 6 + 5)).symm.trans (HBz.out 5 _ rfl))); have zf5 := (Box.below HBw.out hb HBw.out.lt).free (i * 6 + 5)
          go_simp
          exact hK _ _ rfl rfl
        intro w3 B3
        rintro _ rfl
        rintro _ rfl
        rintro _ rfl
        rintro _ rfl
        rintro _ rfl
        rintro _ rfl
        rintro _ rfl
        rintro _ rfl
        rintro _ rfl
        rintro _ rfl
        rintro _ rfl
        rintro _ rfl
        rintro _ rfl
        rintro _ rfl
        rintro _ rfl
        rintro _ rfl
        rintro _ rfl
        rintro _ rfl
        rintro _ rfl
        rintro -
        simp only [Act.put, List.setIfInBounds_toArray, List.set_cons_zero, List.set_cons_succ, List.toList_toArray, List.length_cons, List.length_nil, List.drop_succ_cons, List.drop_zero, List.drop_nil, Nat.zero_add]
        have HB4 : Hid (k = 0 → Box w3 w1.heap.size 70 (arrW (wls g (i + 1)) n)) := Lib.hid (fun hk => by
          have h1 := Box.setL_ vv.cells HBw.out (i * 6)
          have h2 := arrW_set (ws := wls g i) (n := n) vv (by rw [wls_len]; exact hlt)
          rw [wls_len] at h2
          rw [h2, ← (HY.out hk).1] at h1
          exact h1.below B3 HBw.out.lt)
        have BW4 := Lib.hid ((setL_below BW0 w1.heap.size (i * 6) vv.cells zg).trans (B3.mono BW0.size))
        clear B3 BW0 BX HQ HBz HXw HYw
        by_cases k0 : k = 0
        · subst k0
          rw [errv_zero]
          have HG2 := Lib.hid (HY.out rfl).2
          have HB5 := Lib.hid (HB4.out rfl)
          go_wp2_with fail
          go_roundw
          case rel => exact ⟨i + 1, by go_num, by omega, HG2, HB5, BW4⟩
          case measure => simp [intOf]; omega
        · rw [errv_pos k k0]
          have HG2 := Lib.hid (HN.out k0)
          clear HG HY HN
          go_wp2_with fail
          go_ret2
          refine ⟨none, 0, ?_, ?_, BW4.out⟩
          · rw [HX.out, HG2.out, if_neg k0, errv_pos k k0]; rfl
          · rw [HX.out, HG2.out, if_neg k0]; exact RowAt.nil _ _
      · obtain ⟨a, rfl⟩ : ∃ a : Nat, lf = (a : Int) + 1 := ⟨(lf - 1).toNat, by omega⟩
        have ai : a < i := by omega
        have an : (a : Int) < n := by omega
        have a0 : (0 : Int) ≤ a := by omega
        have wa : IntKind.i64.wrap (a : Int) = a := IntWalk.i64_in _ ⟨by omega, by omega⟩
        have la := HG.out.2 a ai
        have htx : tx g i = (List.replicate tm.toNat (tx g a)).flatten := tx_power hr ai
        have HJ := rep_of_text la (k := tm) (by omega)
        have he := len1_power (tls g i) (r := ⟨3, 0, (a : Int) + 1, 0, tm⟩) rfl
        have hea : ((a : Int) + 1 - 1).toNat = a := by omega
        simp only [hea, tls_get g ai] at he
        rw [lenMul_text (by omega) la (by omega)] at he
        have hout : ∃ (vv : Wt) (k : Int), repW (wOf (tx g a)) tm = (vv, k) ∧ (k = 0 → wls g (i + 1) = wls g i ++ [vv] ∧ (lensFrom (tls g (i + 1)) (g.drop (i + 1)) = L ∧ ∀ j, j < i + 1 → ((tx g j).length : Int) ≤ 1152921504606846976)) ∧ (k ≠ 0 → L = ([], k)) := by
          by_cases hcd : ((tx g a).length : Int) * tm ≤ 1152921504606846976
          · rw [if_pos hcd] at HJ he
            refine ⟨_, 0, HJ, fun _ => ⟨by rw [wls_succ, htx], ?_, fun j hj => ?_⟩, fun h => absurd rfl h⟩
            · have := lf_ok (acc := tls g i) hr (by rw [he])
              rw [he] at this
              have hfl : (((List.replicate tm.toNat (tx g a)).flatten).length : Int) = (tx g a).length * tm := by
                rw [List.length_flatten, List.map_replicate, List.sum_replicate_nat, Int.natCast_mul, Int.toNat_of_nonneg (by omega), Int.mul_comm]
              rw [tls_succ, htx, hfl]
              exact this.symm.trans HG.out.1
            · by_cases hji : j < i
              · exact HG.out.2 j hji
              · obtain rfl : j = i := by omega
                have hfl : (((List.replicate tm.toNat (tx g a)).flatten).length : Int) = (tx g a).length * tm := by
                  rw [List.length_flatten, List.map_replicate, List.sum_replicate_nat, Int.natCast_mul, Int.toNat_of_nonneg (by omega), Int.mul_comm]
                rw [htx, hfl]; exact hcd
          · rw [if_neg hcd] at HJ he
            refine ⟨_, 2, HJ, fun h => absurd h (by decide), fun _ => ?_⟩
            have := lf_bad (acc := tls g i) hr (by rw [he]; decide)
            rw [he] at this
            exact HG.out.1.symm.trans this
        obtain ⟨vv, k, hjk, hyes, hno⟩ := hout
        have HY := Lib.hid hyes; have HN := Lib.hid hno
        have HXw : Hid (∀ j u, (wOf (tx g a)).cells[j]? = some u → wr.cell? ⟨w1.heap.size, a * 6 + j, none⟩ = some u) := Lib.hid fun j u hu => (HB.out.cell (a * 6 + j)).trans (arrW_at (wls_get g ai) hu)
        have okx := wOf_ok (tx g a) la
        obtain ⟨x, hx⟩ : ∃ x, x = wOf (tx g a) := ⟨_, rfl⟩
        rw [← hx] at HXw hjk okx
        have HQ := Lib.hid (fun w => rep_ok' x tm okx (by omega) ht1 vv k hjk w)
        have HBw := Lib.hid (HB.out.alloc (.cells #[.int .i64 3, .int .u8 0, .int .i64 ((a : Int) + 1), .int .i64 0, .int .i64 tm] 46))
        have BX := Box.new wr 46 #[.int .i64 3, .int .u8 0, .int .i64 ((a : Int) + 1), .int .i64 0, .int .i64 tm]
        have BW0 := balloc BW.out (.cells #[.int .i64 3, .int .u8 0, .int .i64 ((a : Int) + 1), .int .i64 0, .int .i64 tm] 46)
        have HBz : Hid (∀ j u, zW.cells[j]? = some u → wr.cell? ⟨w1.heap.size, i * 6 + j, none⟩ = some u) := Lib.hid fun j u hu => (HB.out.cell (i * 6 + j)).trans (arrW_zero (by rw [wls_len]; exact Nat.le_refl _) hlt hu)
        clear hr htx HJ he hea hyes hno hjk okx hx la
        go_upto_region 15 with fail
        refine Rm.region_st (sx := 15) (px := ⟨w1.heap.size, (i * 6), none⟩) (ux := [.int .i64 vv.n, .int .i64 vv.l, .int .i64 vv.h, .int .i64 vv.t, .int .u64 vv.v, .int .u64 vv.s]) (bs := [true, true, true, true, true, true, true, true, true, true, true, true, true, false, true, true]) (.val (fun v _ => v = .slice (some ⟨w1.heap.size, 0, none⟩) n n) :: .val (fun v _ => v = .int .i64 (i : Int)) :: .val (fun v _ => v = .slice (some ⟨w1.heap.size, 0, none⟩) n n) :: .val (fun v _ => v = .pointer (some ⟨wr.heap.size, 2, none⟩)) :: .val (fun v _ => v = .int .i64 ((a : Int) + 1)) :: .val (fun v _ => v = .int .i64 (a : Int)) :: .val (fun v _ => v = .pointer (some ⟨w1.heap.size, a * 6, none⟩)) :: .val (fun v _ => v = .agg #[.int .i64 x.n, .int .i64 x.l, .int .i64 x.h, .int .i64 x.t, .int .u64 x.v, .int .u64 x.s]) :: .val (fun v _ => v = .pointer (some ⟨wr.heap.size, 4, none⟩)) :: .val (fun v _ => v = .int .i64 tm) :: .val (fun v _ => v = .tuple #[.agg #[.int .i64 vv.n, .int .i64 vv.l, .int .i64 vv.h, .int .i64 vv.t, .int .u64 vv.v, .int .u64 vv.s], errv k]) :: .val (fun v _ => v = .tuple #[.agg #[.int .i64 vv.n, .int .i64 vv.l, .int .i64 vv.h, .int .i64 vv.t, .int .u64 vv.v, .int .u64 vv.s], errv k]) :: .val (fun v _ => v = .agg #[.int .i64 vv.n, .int .i64 vv.l, .int .i64 vv.h, .int .i64 vv.t, .int .u64 vv.v, .int .u64 vv.s]) :: .val (fun v _ => v = errv k) :: .val (fun v _ => v = .pointer (some ⟨w1.heap.size, i * 6, none⟩)) :: .st ⟨w1.heap.size, (i * 6), none⟩ ([.int .i64 vv.n, .int .i64 vv.l, .int .i64 vv.h, .int .i64 vv.t, .int .u64 vv.v, .int .u64 vv.s]) :: [])
          ([] :: [] :: [] :: [] :: [(61, 3)] :: [(62, 4)] :: [(60, 2), (63, 5)] :: [(64, 6)] :: [] :: [(66, 8)] :: [(65, 7), (67, 9)] :: [(68, 10)] :: [(57, 11)] :: [(57, 11)] :: [(58, 0), (59, 1)] :: [(71, 14), (69, 12)] :: []) ((0, 0) :: (0, 0) :: (0, 0) :: (0, 0) :: (0, 0) :: (0, 0) :: (0, 0) :: (0, 0) :: (0, 0) :: (0, 0) :: (0, 0) :: (0, 0) :: (0, 0) :: (0, 0) :: (0, 0) :: (3, 0) :: []) 77 (by kernel_rfl) rfl rfl (by kernel_rfl) (by kernel_rfl) rfl (by first | omega | (simp; omega)) ⟨⟨rfl, rfl⟩, trivial⟩ (by decide) ⟨⟨Rm.Stab.pure _ _ _, fun _ _ h => h⟩, ⟨Rm.Stab.pure _ _ _, fun _ _ h => h⟩, ⟨Rm.Stab.pure _ _ _, fun _ _ h => h⟩, ⟨Rm.Stab.pure _ _ _, fun _ _ h => h⟩, ⟨Rm.Stab.pure _ _ _, fun _ _ h => h⟩, ⟨Rm.Stab.pure _ _ _, fun _ _ h => h⟩, ⟨Rm.Stab.pure _ _ _, fun _ _ h => h⟩, ⟨Rm.Stab.pure _ _ _, fun _ _ h => h⟩, ⟨Rm.Stab.pure _ _ _, fun _ _ h => h⟩, ⟨Rm.Stab.pure _ _ _, fun _ _ h => h⟩, ⟨Rm.Stab.pure _ _ _, fun _ _ h => h⟩, ⟨Rm.Stab.pure _ _ _, fun _ _ h => h⟩, ⟨Rm.Stab.pure _ _ _, fun _ _ h => h⟩, ⟨Rm.Stab.pure _ _ _, fun _ _ h => h⟩, ⟨Rm.Stab.pure _ _ _, fun _ _ h => h⟩, trivial⟩ ⟨?_, ?_, ?_, ?_, ?_, ?_, ?_, ?_, ?_, ?_, ?_, ?_, ?_, ?_, ?_, ?_, trivial⟩ ?_
        · intro wx hb0
          have hb : Below _ _ wx := hb0
          intro K hK
          go_simp
          exact hK _ _ rfl ⟨rfl, Below.refl _ _⟩
        · intro wx hb0
          have hb : Below _ _ wx := hb0
          intro K hK
          go_simp
          exact hK _ _ rfl ⟨rfl, Below.refl _ _⟩
        · intro wx hb0
          have hb : Below _ _ wx := hb0
          intro K hK
          go_simp
          exact hK _ _ rfl ⟨rfl, Below.refl _ _⟩
        · intro wx hb0
          have hb : Below _ _ wx := hb0
          intro K hK
          go_simp
          exact hK _ _ rfl ⟨rfl, Below.refl _ _⟩
        · intro wx hb0
          have hb : Below _ _ wx := hb0
          rintro _ rfl
          intro K hK
          have mm := Box.below (BX) hb (Box.lt (BX))
          have m0 : wx.cell? ⟨wr.heap.size, 0, none⟩ = some (.int .i64 3) := mm.cell 0
          have m1 : wx.cell? ⟨wr.heap.size, 1, none⟩ = some (.int .u8 0) := mm.cell 1
          have m2 : wx.cell? ⟨wr.heap.size, 2, none⟩ = some (.int .i64 ((a : Int) + 1)) := mm.cell 2
          have m3 : wx.cell? ⟨wr.heap.size, 3, none⟩ = some (.int .i64 0) := mm.cell 3
          have m4 : wx.cell? ⟨wr.heap.size, 4, none⟩ = some (.int .i64 tm) := mm.cell 4
          clear mm
          go_simp
          exact hK _ _ rfl ⟨rfl, Below.refl _ _⟩
        · intro wx hb0
          have hb : Below _ _ wx := hb0
          rintro _ rfl
          intro K hK
          go_simp
          exact hK _ _ rfl ⟨rfl, Below.refl _ _⟩
        · intro wx hb0
          have hb : Below _ _ wx := hb0
          rintro _ rfl
          rintro _ rfl
          intro K hK
          go_simp
          exact hK _ _ rfl ⟨rfl, Below.refl _ _⟩
        · intro wx hb0
          have hb : Below _ _ wx := hb0
          rintro _ rfl
          intro K hK
          have z0 := (hb.cell (p := ⟨w1.heap.size, a * 6, none⟩) HBw.out.lt).trans ((HBw.out.cell (a * 6 + 0)).trans ((HB.out.cell (a * 6 + 0)).symm.trans (HXw.out 0 _ rfl))); have z1 := (hb.cell (p := ⟨w1.heap.size, a * 6 + 1, none⟩) HBw.out.lt).trans ((HBw.out.cell (a * 6 + 1)).trans ((HB.out.cell (a * 6 + 1)).symm.trans (HXw.out 1 _ rfl))); have z2 := (hb.cell (p := ⟨w1.heap.size, a * 6 + 2, none⟩) HBw.out.lt).trans ((HBw.out.cell (a * 6 + 2)).trans ((HB.out.cell (a * 6 + 2)).symm.trans (HXw.out 2 _ rfl))); have z3 := (hb.cell (p := ⟨w1.heap.size, a * 6 + 3, none⟩) HBw.out.lt).trans ((HBw.out.cell (a * 6 + 3)).trans ((HB.out.cell (a * 6 + 3)).symm.trans (HXw.out 3 _ rfl))); have z4 := (hb.cell (p := ⟨w1.heap.size, a * 6 + 4, none⟩) HBw.out.lt).trans ((HBw.out.cell (a * 6 + 4)).trans ((HB.out.cell (a * 6 + 4)).symm.trans (HXw.out 4 _ rfl))); have z5 := (hb.cell (p := ⟨w1.heap.size, a * 6 + 5, none⟩) HBw.out.lt).trans ((HBw.out.cell (a * 6 + 5)).trans ((HB.out.cell (a * 6 + 5)).symm.trans (HXw.out 5 _ rfl))); go_simp; exact hK _ _ rfl ⟨rfl, Below.refl _ _⟩
        · intro wx hb0
          have hb : Below _ _ wx := hb0
          intro K hK
          go_simp
          exact hK _ _ rfl ⟨rfl, Below.refl _ _⟩
        · intro wx hb0
          have hb : Below _ _ wx := hb0
          rintro _ rfl
          intro K hK
          have mm := Box.below (BX) hb (Box.lt (BX))
          have m0 : wx.cell? ⟨wr.heap.size, 0, none⟩ = some (.int .i64 3) := mm.cell 0
          have m1 : wx.cell? ⟨wr.heap.size, 1, none⟩ = some (.int .u8 0) := mm.cell 1
          have m2 : wx.cell? ⟨wr.heap.size, 2, none⟩ = some (.int .i64 ((a : Int) + 1)) := mm.cell 2
          have m3 : wx.cell? ⟨wr.heap.size, 3, none⟩ = some (.int .i64 0) := mm.cell 3
          have m4 : wx.cell? ⟨wr.heap.size, 4, none⟩ = some (.int .i64 tm) := mm.cell 4
          clear mm
          go_simp
          exact hK _ _ rfl ⟨rfl, Below.refl _ _⟩
        · intro wx hb0
          have hb : Below _ _ wx := hb0
          rintro _ rfl
          rintro _ rfl
          intro K hK
          go_simp
          (with_reducible refine (HQ.out _).mono ?_)
          rintro e wa ⟨rfl, Ba⟩
          exact hK _ _ rfl ⟨rfl, Ba⟩
        · intro wx hb0
          have hb : Below _ _ wx := hb0
          rintro _ rfl
          intro K hK
          go_simp
          exact hK _ _ rfl ⟨rfl, Below.refl _ _⟩
        · intro wx hb0
          have hb : Below _ _ wx := hb0
          rintro _ rfl
          intro K hK
          go_simp
          exact hK _ _ rfl ⟨rfl, Below.refl _ _⟩
        · intro wx hb0
          rintro _ rfl
          intro K hK
          go_simp
          exact hK _ _ rfl ⟨rfl, Below.refl _ _⟩
        · intro wx hb0
          have hb : Below _ _ wx := hb0
          rintro _ rfl
          rintro _ rfl
          intro K hK
          go_simp
          exact hK _ _ rfl ⟨rfl, Below.refl _ _⟩
        · intro wx hb0
          have hb : Below _ _ wx := hb0
          rintro _ rfl
          rintro _ rfl
          intro K hK
          have zc0 := (hb.cell (p := ⟨w1.heap.size, i * 6, none⟩) HBw.out.lt).trans ((HBw.out.cell (i * 6 + 0)).trans ((HB.out.cell (i * 6 + 0)).symm.trans (HBz.out 0 _ rfl))); have zf0 := (Box.below HBw.out hb HBw.out.lt).free (i * 6); have zc1 := (hb.cell (p := ⟨w1.heap.size, i * 6 + 1, none⟩) HBw.out.lt).trans ((HBw.out.cell (i * 6 + 1)).trans ((HB.out.cell (i * 6 + 1)).symm.trans (HBz.out 1 _ rfl))); have zf1 := (Box.below HBw.out hb HBw.out.lt).free (i * 6 + 1); have zc2 := (hb.cell (p := ⟨w1.heap.size, i * 6 + 2, none⟩) HBw.out.lt).trans ((HBw.out.cell (i * 6 + 2)).trans ((HB.out.cell (i * 6 + 2)).symm.trans (HBz.out 2 _ rfl))); have zf2 := (Box.below HBw.out hb HBw.out.lt).free (i * 6 + 2); have zc3 := (hb.cell (p := ⟨w1.heap.size, i * 6 + 3, none⟩) HBw.out.lt).trans ((HBw.out.cell (i * 6 + 3)).trans ((HB.out.cell (i * 6 + 3)).symm.trans (HBz.out 3 _ rfl))); have zf3 := (Box.below HBw.out hb HBw.out.lt).free (i * 6 + 3); have zc4 := (hb.cell (p := ⟨w1.heap.size, i * 6 + 4, none⟩) HBw.out.lt).trans ((HBw.out.cell (i * 6 + 4)).trans ((HB.out.cell (i * 6 + 4)).symm.trans (HBz.out 4 _ rfl))); have zf4 := (Box.below HBw.out hb HBw.out.lt).free (i * 6 + 4); have zc5 := (hb.cell (p := ⟨w1.heap.size, i * 6 + 5, none⟩) HBw.out.lt).trans ((HBw.out.cell (i * 6 + 5)).trans ((HB.out.cell (i * 6 + 5)).symm.trans (HBz.out 5 _ rfl))); have zf5 := (Box.below HBw.out hb HBw.out.lt).free (i * 6 + 5)
          go_simp
          exact hK _ _ rfl rfl
        intro w3 B3
        rintro _ rfl
        rintro _ rfl
        rintro _ rfl
        rintro _ rfl
        rintro _ rfl
        rintro _ rfl
        rintro _ rfl
        rintro _ rfl
        rintro _ rfl
        rintro _ rfl
        rintro _ rfl
        rintro _ rfl
        rintro _ rfl
        rintro _ rfl
        rintro _ rfl
        rintro -
        simp only [Act.put, List.setIfInBounds_toArray, List.set_cons_zero, List.set_cons_succ, List.toList_toArray, List.length_cons, List.length_nil, List.drop_succ_cons, List.drop_zero, List.drop_nil, Nat.zero_add]
        have HB4 : Hid (k = 0 → Box w3 w1.heap.size 70 (arrW (wls g (i + 1)) n)) := Lib.hid (fun hk => by
          have h1 := Box.setL_ vv.cells HBw.out (i * 6)
          have h2 := arrW_set (ws := wls g i) (n := n) vv (by rw [wls_len]; exact hlt)
          rw [wls_len] at h2
          rw [h2, ← (HY.out hk).1] at h1
          exact h1.below B3 HBw.out.lt)
        have BW4 := Lib.hid ((setL_below BW0 w1.heap.size (i * 6) vv.cells zg).trans (B3.mono BW0.size))
        clear B3 BW0 BX HQ HBz HXw
        by_cases k0 : k = 0
        · subst k0
          rw [errv_zero]
          have HG2 := Lib.hid (HY.out rfl).2
          have HB5 := Lib.hid (HB4.out rfl)
          go_wp2_with fail
          go_roundw
          case rel => exact ⟨i + 1, by go_num, by omega, HG2, HB5, BW4⟩
          case measure => simp [intOf]; omega
        · rw [errv_pos k k0]
          have HG2 := Lib.hid (HN.out k0)
          clear HG HY HN
          go_wp2_with fail
          go_ret2
          refine ⟨none, 0, ?_, ?_, BW4.out⟩
          · rw [HX.out, HG2.out, if_neg k0, errv_pos k k0]; rfl
          · rw [HX.out, HG2.out, if_neg k0]; exact RowAt.nil _ _
    · obtain rfl : i = n := by omega
      have HG2 : Hid (L = (tls g i, 0)) := Lib.hid (HG.out.1.symm.trans (lf_end (by rw [HL.out]; exact Nat.le_refl _)))
      go_wp2_with fail
      go_ret2
      refine ⟨some ⟨w1.heap.size, 0, none⟩, i, ?_, ?_, BW.out⟩
      · rw [HX.out, HG2.out, if_pos rfl, wls_len, HL.out]; rfl
      · rw [HX.out, HG2.out, if_pos rfl, HL.out]; exact arrW_row HB.out (wls_len g i)
theorem weights_bad (g : List Rl) (n c : Nat) (A : Option Addr) (hl : g.length = n) (hn : n ≤ 100000) (h0 : gcode 0 g ≠ 0) (w : World) (ha : RowAt w A (gc g)) :
    Calls Try.prog 40 #[.slice A n c] w (WtsOut (wtsL g) (errv (lens g).2) w) := by
  have HC := fun w h => check_g g n c A hl (by omega) w h
  have hb := lens_bad h0
  have hX : wtsL g = [] := by unfold wtsL; rw [hb, if_neg h0]
  rw [hX, hb]
  generalize gcode 0 g = k at HC h0
  rw [errv_pos k h0] at HC
  have HA := Lib.hid ha; have HCC := Lib.hid HC
  have HK := Lib.hid h0
  clear ha hl HC h0 hX hb
  go_enter Try.func40, Try.ntmps40
  go_wp2_with fail
  (with_reducible refine (HCC.out _ HA.out).mono ?_)
  rintro e w1 ⟨rfl, B1⟩
  have BW1 := Lib.hid B1
  clear B1
  go_wp2_with fail
  go_ret2
  exact ⟨none, 0, by rw [errv_pos k HK.out]; rfl, RowAt.nil _ _, BW1.out⟩
theorem weights_any (g : List Rl) (n c : Nat) (A : Option Addr) (hl : g.length = n) (hn : n ≤ 100000) (hrb : Rb g) (w : World) (ha : RowAt w A (gc g)) :
    Calls Try.prog 40 #[.slice A n c] w (WtsOut (wtsL g) (errv (lens g).2) w) := by
  by_cases h0 : gcode 0 g = 0
  · exact weights_ok g n c A hl hn h0 hrb w ha
  · exact weights_bad g n c A hl hn h0 w ha
end Go.Proofs.Ytcbahojefglakaa
