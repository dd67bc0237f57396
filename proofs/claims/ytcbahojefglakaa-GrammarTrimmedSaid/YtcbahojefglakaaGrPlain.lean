/- Plain words for grammars: lengths of the rules' texts; rows of numbers that a call made. -/
import Derived.Test.YtcbahojefglakaaGrCheck
import Derived.Test.YtcbahojefglakaaRulePutPlain
import Derived.Test.YtcbahojefglakaaLen
import Derived.Deep.OwnRows
namespace Go.Proofs.Ytcbahojefglakaa
set_option linter.unusedVariables false
set_option linter.unusedSimpArgs false
open Go.RowKit Go.Lib
theorem gcode_at : ∀ (g : List Rl) (i : Nat), gcode i g = 0 → ∀ (k : Nat) (r : Rl), g[k]? = some r → rc r ((i : Int) + (k : Int) + 1) = 0
  | [], i, _, k, r, h => by simp at h
  | a :: g, i, h0, k, r, h => by
    have e : gcode i (a :: g) = if rc a (i + 1) = 0 then gcode (i + 1) g else rc a (i + 1) := rfl
    rw [e] at h0
    by_cases ha : rc a (i + 1) = 0
    · rw [if_pos ha] at h0
      match k with
      | 0 => simp at h; subst h; simpa using ha
      | k + 1 =>
        have := gcode_at g (i + 1) h0 k r (by simpa using h)
        rw [show ((i : Int) + ((k + 1 : Nat) : Int) + 1) = (((i + 1 : Nat) : Int) + (k : Int) + 1) by omega]
        exact this
    · rw [if_neg ha] at h0; exact absurd h0 ha
/-- rule number i of a valid grammar -/
theorem rule_way {g : List Rl} (h : gcode 0 g = 0) {i : Nat} {r : Rl} (hr : g[i]? = some r) :
    (r.kd = 1 ∧ r.lf = 0 ∧ r.rg = 0 ∧ r.tm = 0) ∨ (r.kd = 2 ∧ r.lt = 0 ∧ r.tm = 0 ∧ 1 ≤ r.lf ∧ r.lf ≤ i ∧ 1 ≤ r.rg ∧ r.rg ≤ i) ∨ (r.kd = 3 ∧ r.lt = 0 ∧ r.rg = 0 ∧ 2 ≤ r.tm ∧ 1 ≤ r.lf ∧ r.lf ≤ i) := by
  have h1 := gcode_at g 0 h i r hr
  rw [show ((0 : Nat) : Int) + (i : Int) + 1 = (i : Int) + 1 by omega] at h1
  obtain ⟨_, h2 | ⟨a, b, c, d, e, f, g⟩ | ⟨a, b, c, d, e, f⟩⟩ := valid_way h1
  · exact .inl h2
  · exact .inr (.inl ⟨a, b, c, d, by omega, f, by omega⟩)
  · exact .inr (.inr ⟨a, b, c, d, e, by omega⟩)
/-- the length of a rule's text (and an error's code), those before it known -/
def len1 (acc : List Int) (r : Rl) : Int × Int :=
  if r.kd = 2 then lenAdd (acc.getD (r.lf - 1).toNat 0) (acc.getD (r.rg - 1).toNat 0) else if r.kd = 3 then lenMul (acc.getD (r.lf - 1).toNat 0) r.tm else (1, 0)
def lensFrom : List Int → List Rl → List Int × Int
  | acc, [] => (acc, 0)
  | acc, r :: g => if (len1 acc r).2 = 0 then lensFrom (acc ++ [(len1 acc r).1]) g else ([], (len1 acc r).2)
def lens (g : List Rl) : List Int × Int := if gcode 0 g = 0 then lensFrom [] g else ([], gcode 0 g)
theorem lens_ok {g : List Rl} (h : gcode 0 g = 0) : lens g = lensFrom [] g := if_pos h
theorem lens_bad {g : List Rl} (h : gcode 0 g ≠ 0) : lens g = ([], gcode 0 g) := if_neg h
theorem lf_ok {acc : List Int} {g : List Rl} {i : Nat} {r : Rl} (h : g[i]? = some r) (h0 : (len1 acc r).2 = 0) : lensFrom acc (g.drop i) = lensFrom (acc ++ [(len1 acc r).1]) (g.drop (i + 1)) := by
  rw [drop_of h]; show (if _ then _ else _) = _; rw [if_pos h0]
theorem lf_bad {acc : List Int} {g : List Rl} {i : Nat} {r : Rl} (h : g[i]? = some r) (h0 : (len1 acc r).2 ≠ 0) : lensFrom acc (g.drop i) = ([], (len1 acc r).2) := by
  rw [drop_of h]; show (if _ then _ else _) = _; rw [if_neg h0]
theorem lf_end {acc : List Int} {g : List Rl} {i : Nat} (h : g.length ≤ i) : lensFrom acc (g.drop i) = (acc, 0) := by rw [List.drop_eq_nil_of_le h]; rfl
theorem len1_letter (acc : List Int) {r : Rl} (h : r.kd = 1) : len1 acc r = (1, 0) := by unfold len1; rw [if_neg (by omega), if_neg (by omega)]
theorem len1_pair (acc : List Int) {r : Rl} (h : r.kd = 2) : len1 acc r = lenAdd (acc.getD (r.lf - 1).toNat 0) (acc.getD (r.rg - 1).toNat 0) := by unfold len1; rw [if_pos h]
theorem len1_power (acc : List Int) {r : Rl} (h : r.kd = 3) : len1 acc r = lenMul (acc.getD (r.lf - 1).toNat 0) r.tm := by unfold len1; rw [if_neg (by omega), if_pos h]

/-- a block of n numbers: the first are acc, the others 0 -/
def arr (acc : List Int) (n : Nat) : Array Value := (vi (acc ++ List.replicate (n - acc.length) 0)).toArray
theorem arr_get {acc : List Int} {n k : Nat} (h : k < acc.length) : (arr acc n)[k]? = some (.int .i64 (acc.getD k 0)) := by
  unfold arr vi
  rw [List.getElem?_toArray, List.getElem?_map, List.getElem?_append_left h, List.getElem?_eq_getElem h, List.getD_eq_getElem?_getD, List.getElem?_eq_getElem h]
  rfl
theorem arr_zero {acc : List Int} {n k : Nat} (h : acc.length ≤ k) (hn : k < n) : (arr acc n)[k]? = some (.int .i64 0) := by
  unfold arr vi
  rw [List.getElem?_toArray, List.getElem?_map, List.getElem?_append_right h, List.getElem?_replicate, if_pos (by omega)]
  rfl
theorem arr_set {acc : List Int} {n : Nat} (v : Int) (h : acc.length < n) : (arr acc n).setIfInBounds acc.length (.int .i64 v) = arr (acc ++ [v]) n := by
  unfold arr vi
  rw [List.setIfInBounds_toArray]
  congr 1
  have e : n - acc.length = (n - (acc ++ [v]).length) + 1 := by simp; omega
  rw [e, List.replicate_succ, List.map_append, List.map_append, List.set_append_right _ _ (by simp)]
  simp
theorem arr_start (n : Nat) : Array.replicate n (.int .i64 0) = arr [] n := by
  unfold arr vi
  simp
theorem arr_end {acc : List Int} {n : Nat} (h : acc.length = n) : arr acc n = (vi acc).toArray := by
  unfold arr
  rw [h, Nat.sub_self]; simp
theorem info_int : (Try.prog.info? 3).map (fun i => (i.zero, i.size, i.bytes)) = some (some (.int .i64 0), 1, 8) := by kernel_rfl
theorem mk_ints (n : Nat) (hn : n ≤ 140737488355328 / 8) (w : World) :
    (Instr.makeSlice 23 (.int .i64 (n : Int)) (.int .i64 (n : Int))).run Try.prog w = .ok (.slice (some ⟨w.heap.size, 0, none⟩) n n) (w.alloc (.cells (arr [] n) 3)) := by
  rw [← arr_start]
  have h := run_make_row' (P := Try.prog) 23 3 (.int .i64 0) 8 Try.underlying23 info_int rfl .i64 .i64 n (by omega) (by omega) w
  rw [h]
  have e : madeCells #[.int .i64 0] n = Array.replicate n (.int .i64 0) := by
    apply Array.ext_getElem?
    intro i
    by_cases hi : i < n <;> simp [madeCells, hi, Nat.mod_one]
  rw [e]
end Go.Proofs.Ytcbahojefglakaa
