/- A list of weights as cells; the weights of a grammar's texts. -/
import Derived.Test.YtcbahojefglakaaWgtRep
import Derived.Test.YtcbahojefglakaaGrText
import Derived.Test.YtcbahojefglakaaRegSm
import Derived.Laws.MakeOwn
namespace Go.Proofs.Ytcbahojefglakaa
set_option linter.unusedVariables false
set_option linter.unusedSimpArgs false
open Go.RowKit Go.Lib
def Wt.cells (x : Wt) : List Value := [.int .i64 x.n, .int .i64 x.l, .int .i64 x.h, .int .i64 x.t, .int .u64 x.v, .int .u64 x.s]
def wcs (ws : List Wt) : List Value := ws.flatMap Wt.cells
theorem wcs_len (ws : List Wt) : (wcs ws).length = ws.length * 6 := by
  induction ws with
  | nil => rfl
  | cons r g ih => simp [wcs, Wt.cells] at ih ⊢; omega
theorem wcs_cons (r : Wt) (g : List Wt) : wcs (r :: g) = r.cells ++ wcs g := rfl
theorem wcs_app (a b : List Wt) : wcs (a ++ b) = wcs a ++ wcs b := by simp [wcs]
theorem wcs_get {g : List Wt} {i j : Nat} {r : Wt} {u : Value} (h : g[i]? = some r) (hu : r.cells[j]? = some u) : (wcs g)[i * 6 + j]? = some u := by
  induction g generalizing i with
  | nil => simp at h
  | cons a g ih =>
    have hj : j < 6 := (List.getElem?_eq_some_iff.1 hu).1
    rw [wcs_cons]
    match i with
    | 0 =>
      simp at h; subst h
      rw [List.getElem?_append_left (by simp [Wt.cells]; omega), Nat.zero_mul, Nat.zero_add]; exact hu
    | i + 1 =>
      simp at h
      rw [List.getElem?_append_right (by simp [Wt.cells]; omega)]
      have e : (i + 1) * 6 + j - a.cells.length = i * 6 + j := by simp [Wt.cells]; omega
      rw [e]; exact ih h
theorem wcs_one (g : List Wt) : ∀ u ∈ wcs g, u.oneCell' = true := by
  intro u hu
  simp only [wcs, List.mem_flatMap, Wt.cells] at hu
  obtain ⟨r, _, hr⟩ := hu
  simp at hr
  rcases hr with rfl | rfl | rfl | rfl | rfl | rfl <;> rfl
/-- n weights, of which the first are known -/
def arrW (ws : List Wt) (n : Nat) : Array Value := (wcs (ws ++ List.replicate (n - ws.length) zW)).toArray
theorem arrW_at {ws : List Wt} {n k j : Nat} {x : Wt} {u : Value} (h : ws[k]? = some x) (hu : x.cells[j]? = some u) : (arrW ws n)[k * 6 + j]? = some u := by
  have hk := (List.getElem?_eq_some_iff.1 h).1
  show (wcs _).toArray[_]? = _
  rw [List.getElem?_toArray]
  exact wcs_get (by rw [List.getElem?_append_left hk]; exact h) hu
theorem arrW_zero {ws : List Wt} {n k j : Nat} {u : Value} (h : ws.length ≤ k) (hn : k < n) (hu : zW.cells[j]? = some u) : (arrW ws n)[k * 6 + j]? = some u := by
  show (wcs _).toArray[_]? = _
  rw [List.getElem?_toArray]
  refine wcs_get (r := zW) ?_ hu
  rw [List.getElem?_append_right h, List.getElem?_replicate, if_pos (by omega)]
theorem arrW_set {ws : List Wt} {n : Nat} (x : Wt) (h : ws.length < n) : setLA (arrW ws n) (ws.length * 6) x.cells = arrW (ws ++ [x]) n := by
  have e1 : wcs (ws ++ List.replicate (n - ws.length) zW) = wcs ws ++ zW.cells ++ wcs (List.replicate (n - ws.length - 1) zW) := by
    rw [wcs_app, show n - ws.length = (n - ws.length - 1) + 1 by omega, List.replicate_succ, wcs_cons, List.append_assoc]
    simp
  have e2 : wcs (ws ++ [x] ++ List.replicate (n - (ws ++ [x]).length) zW) = wcs ws ++ x.cells ++ wcs (List.replicate (n - ws.length - 1) zW) := by
    rw [wcs_app, wcs_app, show n - (ws ++ [x]).length = n - ws.length - 1 by simp; omega]
    simp [wcs]
  unfold arrW
  rw [e1, e2, ← wcs_len]
  exact setLA_mid x.cells zW.cells (wcs ws) _ rfl
theorem arrW_end {ws : List Wt} {n : Nat} (h : ws.length = n) : arrW ws n = (wcs ws).toArray := by unfold arrW; rw [h]; simp
theorem zW_cell (j : Nat) (h : j < 6) : ∃ u, zW.cells[j]? = some u ∧ (Value.agg #[.int .i64 0, .int .i64 0, .int .i64 0, .int .i64 0, .int .u64 0, .int .u64 0]).cells[j]! = u := by
  match j, h with
  | 0, _ => exact ⟨_, rfl, rfl⟩
  | 1, _ => exact ⟨_, rfl, rfl⟩
  | 2, _ => exact ⟨_, rfl, rfl⟩
  | 3, _ => exact ⟨_, rfl, rfl⟩
  | 4, _ => exact ⟨_, rfl, rfl⟩
  | 5, _ => exact ⟨_, rfl, rfl⟩
theorem arrW_start (n : Nat) : madeCells (Value.agg #[.int .i64 0, .int .i64 0, .int .i64 0, .int .i64 0, .int .u64 0, .int .u64 0]).cells (n * 6) = arrW [] n := by
  refine Array.ext_getElem? fun i => ?_
  by_cases hi : i < n * 6
  · obtain ⟨u, h1, h2⟩ := zW_cell (i % 6) (by omega)
    have h3 := arrW_zero (ws := []) (n := n) (k := i / 6) (Nat.zero_le _) (by omega) h1
    rw [Nat.div_add_mod'] at h3
    rw [h3]
    have hs : (Value.agg #[.int .i64 0, .int .i64 0, .int .i64 0, .int .i64 0, .int .u64 0, .int .u64 0]).cells.size = 6 := rfl
    simp only [madeCells, Array.getElem?_map, hs]
    rw [Array.getElem?_eq_getElem (by simpa using hi)]
    simp [h2]
  · rw [Array.getElem?_eq_none (by simp [madeCells]; omega), Array.getElem?_eq_none (by simp [arrW, wcs_len]; omega)]
theorem info_weight : (Try.prog.info? 70).map (fun i => (i.zero, i.size, i.bytes)) = some (some (.agg #[.int .i64 0, .int .i64 0, .int .i64 0, .int .i64 0, .int .u64 0, .int .u64 0]), 6, 48) := by kernel_rfl
theorem mk_weights (n : Nat) (hn : n ≤ 100000) (w : World) : (Instr.makeSlice 63 (.int .i64 (n : Int)) (.int .i64 (n : Int))).run Try.prog w = .ok (.slice (some ⟨w.heap.size, 0, none⟩) n n) (w.alloc (.cells (arrW [] n) 70)) := by
  obtain ⟨i0_, hi, hz0, hz1, hz2⟩ := info_parts5 info_weight
  have h := run_makeSlice (P := Try.prog) w 63 70 i0_ _ Try.underlying63 hi hz0 .i64 .i64 n n (by omega) (by omega) (by rw [hz1]; omega) (by rw [hz2]; omega) (by omega)
  rw [h, hz1, ← arrW_start]
  rfl
/-- the weights of the texts of the first i rules -/
def wls (g : List Rl) (i : Nat) : List Wt := (List.range i).map fun j => wOf (tx g j)
def tls (g : List Rl) (i : Nat) : List Int := (List.range i).map fun j => ((tx g j).length : Int)
theorem wls_len (g : List Rl) (i : Nat) : (wls g i).length = i := by simp [wls]
theorem tls_len (g : List Rl) (i : Nat) : (tls g i).length = i := by simp [tls]
theorem wls_succ (g : List Rl) (i : Nat) : wls g (i + 1) = wls g i ++ [wOf (tx g i)] := by simp [wls, List.range_succ]
theorem tls_succ (g : List Rl) (i : Nat) : tls g (i + 1) = tls g i ++ [((tx g i).length : Int)] := by simp [tls, List.range_succ]
theorem wls_get (g : List Rl) {i j : Nat} (h : j < i) : (wls g i)[j]? = some (wOf (tx g j)) := by simp [wls, h]
theorem tls_get (g : List Rl) {i j : Nat} (h : j < i) : (tls g i).getD j 0 = ((tx g j).length : Int) := by simp [tls, h]
theorem rep_flat (l : List Int) (k : Nat) : rep l k = (List.replicate k l).flatten := by
  induction k with
  | zero => rfl
  | succ k ih => rw [List.replicate_succ', List.flatten_append, ← ih]; simp [rep]
theorem vW_of' {l : List Int} (h : (l.length : Int) ≤ 1152921504606846976) : vW (wOf l) = true := wOf_vB l h
theorem join_of_text {p q : List Int} (hp : (p.length : Int) ≤ 1152921504606846976) (hq : (q.length : Int) ≤ 1152921504606846976) :
    joinW (wOf p) (wOf q) = if (p.length : Int) + q.length ≤ 1152921504606846976 then (wOf (p ++ q), 0) else (zW, 2) := by
  by_cases h : (p.length : Int) + q.length ≤ 1152921504606846976
  · rw [if_pos h]
    exact joinW_of p q (by rw [List.length_append]; omega)
  · rw [if_neg h]
    unfold joinW
    rw [vW_of' hp, vW_of' hq]
    exact if_neg h
theorem rep_of_text {p : List Int} (hp : (p.length : Int) ≤ 1152921504606846976) {k : Int} (hk : 0 ≤ k) :
    repW (wOf p) k = if (p.length : Int) * k ≤ 1152921504606846976 then (wOf (List.replicate k.toNat p).flatten, 0) else (zW, 2) := by
  unfold repW
  rw [vW_of' hp, if_pos rfl, if_pos hk, rep_of, rep_flat]
  rfl
theorem lenAdd_text {a b : Int} (ha0 : 0 ≤ a) (ha : a ≤ 1152921504606846976) (hb0 : 0 ≤ b) (hb : b ≤ 1152921504606846976) : lenAdd a b = if a + b ≤ 1152921504606846976 then (a + b, 0) else (0, 2) := by
  unfold lenAdd
  rw [vld_yes a ha0 ha, vld_yes b hb0 hb]; rfl
theorem lenMul_text {a k : Int} (ha0 : 0 ≤ a) (ha : a ≤ 1152921504606846976) (hk : 0 ≤ k) : lenMul a k = if a * k ≤ 1152921504606846976 then (a * k, 0) else (0, 2) := by
  unfold lenMul
  rw [vld_yes a ha0 ha]; simp [hk]
end Go.Proofs.Ytcbahojefglakaa
