/- What Trim computes, in plain words. -/
import Derived.Test.YtcbahojefglakaaGrMap
import Derived.Test.YtcbahojefglakaaRuleMove
import Derived.Test.YtcbahojefglakaaGrLen
import Derived.Test.YtcbahojefglakaaRulesOut
namespace Go.Proofs.Ytcbahojefglakaa
set_option linter.unusedVariables false
set_option linter.unusedSimpArgs false
open Go.RowKit Go.Lib
def bl (u : List Bool) : List Value := u.map .bool
/-- the marks at the numbers of l are set -/
def mark (u : List Bool) (l : List Int) : List Bool := l.foldl (fun u x => u.set x.toNat true) u
theorem mark_len : ∀ (l : List Int) (u : List Bool), (mark u l).length = u.length
  | [], _ => rfl
  | x :: l, u => (mark_len l (u.set x.toNat true)).trans (by simp)
theorem mark_snoc (u : List Bool) (l : List Int) (x : Int) : mark u (l ++ [x]) = (mark u l).set x.toNat true := by unfold mark; rw [List.foldl_append]; rfl
theorem mark_take {u : List Bool} {l : List Int} {k : Nat} (h : k < l.length) : mark u (l.take (k + 1)) = (mark u (l.take k)).set (l[k].toNat) true := by
  rw [List.take_succ_eq_append_getElem h, mark_snoc]
def refsR (r : Rl) : List Int := refsOf r.kd r.lf r.rg
def useStep (g : List Rl) (u : List Bool) (i : Nat) : List Bool := match g[i]? with
  | some r => if u.getD (i + 1) false then mark u (refsR r) else u
  | none => u
def useFrom (g : List Rl) : Nat → List Bool → List Bool
  | 0, u => u
  | i + 1, u => useFrom g i (useStep g u i)
def use0 (n : Nat) : List Bool := List.replicate n false ++ [true]
def used (g : List Rl) : List Bool := useFrom g g.length (use0 g.length)
theorem useStep_len (g : List Rl) (u : List Bool) (i : Nat) : (useStep g u i).length = u.length := by
  unfold useStep
  split
  · split
    · exact mark_len _ _
    · rfl
  · rfl
theorem useFrom_len (g : List Rl) : ∀ (i : Nat) (u : List Bool), (useFrom g i u).length = u.length
  | 0, _ => rfl
  | i + 1, u => (useFrom_len g i _).trans (useStep_len g u i)
theorem used_len (g : List Rl) : (used g).length = g.length + 1 := by unfold used; rw [useFrom_len]; simp [use0]
theorem useStep_yes {g : List Rl} {u : List Bool} {i : Nat} {r : Rl} (h : g[i]? = some r) (hu : u.getD (i + 1) false = true) : useStep g u i = mark u (refsR r) := by unfold useStep; rw [h]; exact if_pos hu
theorem useStep_no {g : List Rl} {u : List Bool} {i : Nat} {r : Rl} (h : g[i]? = some r) (hu : u.getD (i + 1) false = false) : useStep g u i = u := by unfold useStep; rw [h]; simp only; rw [hu]; rfl
/-- a rule with its references replaced -/
def mvd2 (r : Rl) (tb : List Int) : Rl := ⟨r.kd, r.lt, mvL r.kd r.lf tb, mvR r.kd r.rg tb, r.tm⟩
def trStep (u : List Bool) (i : Nat) (r : Rl) (s : List Rl × List Int) : List Rl × List Int :=
  if u.getD (i + 1) false then
    (if pos s.1 (mvd2 r s.2) = 0 then (s.1 ++ [mvd2 r s.2], s.2.set (i + 1) ((s.1.length : Int) + 1)) else (s.1, s.2.set (i + 1) (pos s.1 (mvd2 r s.2))))
  else s
def trFrom (u : List Bool) : Nat → List Rl → List Rl × List Int → List Rl × List Int
  | _, [], s => s
  | i, r :: g, s => trFrom u (i + 1) g (trStep u i r s)
def tr0 (n : Nat) : List Rl × List Int := ([], List.replicate (n + 1) 0)
def trim (g : List Rl) : List Rl := (trFrom (used g) 0 g (tr0 g.length)).1
theorem trFrom_at {u : List Bool} {g : List Rl} {i : Nat} {r : Rl} (h : g[i]? = some r) (s : List Rl × List Int) : trFrom u i (g.drop i) s = trFrom u (i + 1) (g.drop (i + 1)) (trStep u i r s) := by rw [drop_of h]; rfl
theorem trFrom_end {u : List Bool} {g : List Rl} {i : Nat} (h : g.length ≤ i) (s : List Rl × List Int) : trFrom u i (g.drop i) s = s := by rw [List.drop_eq_nil_of_le h]; rfl
theorem trStep_no {u : List Bool} {i : Nat} {r : Rl} {s : List Rl × List Int} (h : u.getD (i + 1) false = false) : trStep u i r s = s := by unfold trStep; rw [h]; rfl
theorem trStep_new {u : List Bool} {i : Nat} {r : Rl} {out : List Rl} {tb : List Int} (h : u.getD (i + 1) false = true) (h2 : pos out (mvd2 r tb) = 0) : trStep u i r (out, tb) = (out ++ [mvd2 r tb], tb.set (i + 1) ((out.length : Int) + 1)) := by
  unfold trStep; rw [if_pos h, if_pos h2]
theorem trStep_old {u : List Bool} {i : Nat} {r : Rl} {out : List Rl} {tb : List Int} (h : u.getD (i + 1) false = true) (h2 : pos out (mvd2 r tb) ≠ 0) : trStep u i r (out, tb) = (out, tb.set (i + 1) (pos out (mvd2 r tb))) := by
  unfold trStep; rw [if_pos h, if_neg h2]
/-- what stands between the rounds: numbers within what has been put out -/
structure TrOk (n i : Nat) (out : List Rl) (tb : List Int) : Prop where
  len : tb.length = n + 1
  outl : out.length ≤ i
  lo : ∀ x ∈ tb, 0 ≤ x ∧ x ≤ (out.length : Int)
  ok : ∀ r ∈ out, r.Ok
theorem TrOk.start (n : Nat) : TrOk n 0 [] (List.replicate (n + 1) 0) := ⟨by simp, Nat.le_refl _, fun x hx => by rw [List.eq_of_mem_replicate hx]; simp, fun r hr => by cases hr⟩
theorem TrOk.getD {n i : Nat} {out : List Rl} {tb : List Int} (h : TrOk n i out tb) (k : Nat) : 0 ≤ tb.getD k 0 ∧ tb.getD k 0 ≤ (out.length : Int) := by
  by_cases hk : k < tb.length
  · rw [List.getD_eq_getElem?_getD, List.getElem?_eq_getElem hk]; exact h.lo _ (List.getElem_mem hk)
  · rw [List.getD_eq_getElem?_getD, List.getElem?_eq_none (by omega)]; simp
theorem TrOk.moved {n i : Nat} {out : List Rl} {tb : List Int} (h : TrOk n i out tb) (hi : i ≤ 1000000) {r : Rl} (hr : r.Ok) : (mvd2 r tb).Ok := by
  have h' : RuleOk r.kd r.lt r.lf r.rg r.tm := hr
  obtain ⟨a0, a1, b0, b1, c0, c1, d0, d1, f0, f1⟩ := h'
  have o := h.outl
  have e1 := h.getD r.lf.toNat
  have e2 := h.getD r.rg.toNat
  show RuleOk r.kd r.lt (mvL r.kd r.lf tb) (mvR r.kd r.rg tb) r.tm
  have l : -9223372036854775808 ≤ mvL r.kd r.lf tb ∧ mvL r.kd r.lf tb ≤ 9223372036854775807 := by unfold mvL; split <;> omega
  have m : -9223372036854775808 ≤ mvR r.kd r.rg tb ∧ mvR r.kd r.rg tb ≤ 9223372036854775807 := by unfold mvR; split <;> omega
  exact ⟨a0, a1, b0, b1, l.1, l.2, m.1, m.2, f0, f1⟩
theorem TrOk.skip {n i : Nat} {out : List Rl} {tb : List Int} (h : TrOk n i out tb) : TrOk n (i + 1) out tb := ⟨h.len, Nat.le_succ_of_le h.outl, h.lo, h.ok⟩
theorem TrOk.old {n i : Nat} {out : List Rl} {tb : List Int} (h : TrOk n i out tb) (r : Rl) : TrOk n (i + 1) out (tb.set (i + 1) (pos out r)) :=
  ⟨by rw [List.length_set]; exact h.len, Nat.le_succ_of_le h.outl, fun x hx => by
    rcases List.mem_or_eq_of_mem_set hx with hx | rfl
    · exact h.lo x hx
    · have := pos_le out r; omega, h.ok⟩
theorem TrOk.new {n i : Nat} {out : List Rl} {tb : List Int} (h : TrOk n i out tb) {r : Rl} (hr : r.Ok) : TrOk n (i + 1) (out ++ [r]) (tb.set (i + 1) ((out.length : Int) + 1)) :=
  ⟨by rw [List.length_set]; exact h.len, by rw [List.length_append]; simp; exact h.outl, fun x hx => by
    rw [List.length_append]
    rcases List.mem_or_eq_of_mem_set hx with hx | rfl
    · have := h.lo x hx
      simp; omega
    · simp; omega, fun q hq => by
    rcases List.mem_append.1 hq with hq | hq
    · exact h.ok q hq
    · simp at hq; subst hq; exact hr⟩
theorem mv_ok {g : List Rl} (h0 : gcode 0 g = 0) {i n : Nat} {r : Rl} (hr : g[i]? = some r) (hn : i ≤ n) : mvOk (refsR r) (n + 1) = true := by
  have hw := rule_way h0 hr
  unfold refsR refsOf mvOk
  rcases hw with ⟨e1, _⟩ | ⟨e1, _, _, p1, p2, q1, q2⟩ | ⟨e1, _, _, _, p1, p2⟩
  · rw [e1]; rfl
  · rw [if_pos e1]; simp; omega
  · rw [if_neg (by omega), if_pos e1]; simp; omega
theorem mv_val {r : Rl} {tb : List Int} {n : Nat} (hl : tb.length = n + 1) (h : mvOk (refsR r) (n + 1) = true) : mvVal r.kd r.lt r.lf r.rg r.tm tb = (mvd2 r tb).val ∧ mvCode r.kd r.lf r.rg tb = 0 := by
  have h' : mvOk (refsOf r.kd r.lf r.rg) tb.length = true := by rw [hl]; exact h
  unfold mvVal mvCode
  rw [if_pos h', if_pos h']
  exact ⟨rfl, rfl⟩
/-- boxes through an append of another row -/
theorem Box.grown {w w' : World} {g : Nat} {t : TypeId} {cs : Array Value} (h : Box w g t cs) {row : Option Nat} (gr : w.grownBy w' row) (hr : row ≠ some g) : Box w' g t cs := (gr.block g h.lt (fun e => hr e.symm)).trans h
theorem info_bool : (Try.prog.info? 4).map (fun i => (i.zero, i.size, i.bytes)) = some (some (.bool false), 1, 1) := by kernel_rfl
theorem info_id : (Try.prog.info? 44).map (fun i => (i.zero, i.size, i.bytes)) = some (some (.int .i64 0), 1, 8) := by kernel_rfl
theorem made_one (z : Value) (hz : z.cells = #[z]) (n : Nat) : madeCells z.cells (n * 1) = (List.replicate n z).toArray := by
  rw [hz]
  refine Array.ext_getElem? fun i => ?_
  simp only [madeCells, Nat.mul_one, Array.getElem?_map]
  by_cases h : i < n
  · rw [Array.getElem?_eq_getElem (by simpa using h)]
    simp [h, Nat.mod_one]
  · rw [Array.getElem?_eq_none (by simp; omega)]
    simp [h]
theorem mk_bools (n : Nat) (hn : n ≤ 1000000) (w : World) : (Instr.makeSlice 86 (.int .i64 (n : Int)) (.int .i64 (n : Int))).run Try.prog w = .ok (.slice (some ⟨w.heap.size, 0, none⟩) n n) (w.alloc (.cells (bl (List.replicate n false)).toArray 4)) := by
  obtain ⟨i0_, hi, hz0, hz1, hz2⟩ := info_parts5 info_bool
  have h := run_makeSlice (P := Try.prog) w 86 4 i0_ _ Try.underlying86 hi hz0 .i64 .i64 n n (by omega) (by omega) (by rw [hz1]; omega) (by rw [hz2]; omega) (by omega)
  rw [h, hz1]
  have e := made_one (.bool false) rfl n
  simp only [Int.toNat_natCast]
  rw [e]
  simp [bl]
theorem mk_ids (n : Nat) (hn : n ≤ 1000000) (w : World) : (Instr.makeSlice 84 (.int .i64 (n : Int)) (.int .i64 (n : Int))).run Try.prog w = .ok (.slice (some ⟨w.heap.size, 0, none⟩) n n) (w.alloc (.cells (vi (List.replicate n 0)).toArray 44)) := by
  obtain ⟨i0_, hi, hz0, hz1, hz2⟩ := info_parts5 info_id
  have h := run_makeSlice (P := Try.prog) w 84 44 i0_ _ Try.underlying84 hi hz0 .i64 .i64 n n (by omega) (by omega) (by rw [hz1]; omega) (by rw [hz2]; omega) (by omega)
  rw [h, hz1]
  have e := made_one (.int .i64 0) rfl n
  simp only [Int.toNat_natCast]
  rw [e]
  simp [vi]
theorem bl_set (u : List Bool) (k : Nat) (b : Bool) : (bl u).toArray.setIfInBounds k (.bool b) = (bl (u.set k b)).toArray := by simp [bl, List.map_set]
theorem vi_set (u : List Int) (k : Nat) (b : Int) : (vi u).toArray.setIfInBounds k (.int .i64 b) = (vi (u.set k b)).toArray := by simp [vi, List.map_set]
theorem bl_at {u : List Bool} {k : Nat} (h : k < u.length) : (bl u).toArray[k]? = some (.bool (u.getD k false)) := by simp [bl, h]
theorem vi_at2 {u : List Int} {k : Nat} (h : k < u.length) : (vi u).toArray[k]? = some (.int .i64 (u.getD k 0)) := by simp [vi, h]
theorem use0_eq (n : Nat) : (List.replicate (n + 1) false).set n true = use0 n := by
  refine List.ext_getElem? fun i => ?_
  unfold use0
  rw [List.getElem?_set]
  by_cases h : n = i
  · subst h
    simp
  · rw [if_neg h]
    by_cases h2 : i < n
    · rw [List.getElem?_append_left (by simpa using h2)]
      simp [h2, Nat.lt_succ_of_lt h2]
    · rw [List.getElem?_append_right (by simp; omega)]
      have h3 : ¬ i < n + 1 := by omega
      rw [List.getElem?_eq_none (by simp; omega), List.getElem?_eq_none (by simp; omega)]
end Go.Proofs.Ytcbahojefglakaa
