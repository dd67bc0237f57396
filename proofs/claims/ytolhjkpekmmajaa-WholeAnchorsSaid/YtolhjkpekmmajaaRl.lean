/- A rule as five numbers; a list of rules as cells. -/
import Derived.Test.YtolhjkpekmmajaaWords
namespace Go.Proofs.Ytolhjkpekmmajaa
set_option linter.unusedVariables false
set_option linter.unusedSimpArgs false
open Go.RowKit Go.Lib
/-- a rule -/
structure Rl where
  kd : Int
  lt : Int
  lf : Int
  rg : Int
  tm : Int
deriving DecidableEq
abbrev Rl.val (r : Rl) : Value := .agg #[.int .i64 r.kd, .int .u8 r.lt, .int .i64 r.lf, .int .i64 r.rg, .int .i64 r.tm]
def Rl.cells (r : Rl) : List Value := [.int .i64 r.kd, .int .u8 r.lt, .int .i64 r.lf, .int .i64 r.rg, .int .i64 r.tm]
/-- the cells of a list of rules -/
def gc (g : List Rl) : List Value := g.flatMap Rl.cells
theorem gc_len (g : List Rl) : (gc g).length = g.length * 5 := by
  induction g with
  | nil => rfl
  | cons r g ih => simp [gc, Rl.cells] at ih ⊢; omega
theorem gc_cons (r : Rl) (g : List Rl) : gc (r :: g) = r.cells ++ gc g := rfl
theorem gc_app (a b : List Rl) : gc (a ++ b) = gc a ++ gc b := by simp [gc]
theorem gc_get {g : List Rl} {i j : Nat} {r : Rl} {u : Value} (h : g[i]? = some r) (hu : r.cells[j]? = some u) : (gc g)[i * 5 + j]? = some u := by
  induction g generalizing i with
  | nil => simp at h
  | cons a g ih =>
    have hj : j < 5 := (List.getElem?_eq_some_iff.1 hu).1
    rw [gc_cons]
    match i with
    | 0 =>
      simp at h; subst h
      rw [List.getElem?_append_left (by simp [Rl.cells]; omega), Nat.zero_mul, Nat.zero_add]; exact hu
    | i + 1 =>
      simp at h
      rw [List.getElem?_append_right (by simp [Rl.cells]; omega)]
      have e : (i + 1) * 5 + j - a.cells.length = i * 5 + j := by simp [Rl.cells]; omega
      rw [e]; exact ih h
theorem gc_one (g : List Rl) : ∀ u ∈ gc g, u.oneCell' = true := by
  intro u hu
  simp only [gc, List.mem_flatMap, Rl.cells] at hu
  obtain ⟨r, _, hr⟩ := hu
  simp at hr
  rcases hr with rfl | rfl | rfl | rfl | rfl <;> rfl
theorem add_succ_ (a : Addr) (j : Nat) : a.add (j + 1) = ⟨a.block, a.off + (j + 1), none⟩ := by unfold Addr.add; rw [if_neg (by omega)]
/-- rule number i of a list that a slice leads to: its five cells, as the walk spells them -/
theorem row_rl {w : World} {A : Option Addr} {g : List Rl} {i : Nat} {r : Rl} (h : RowAt w A (gc g)) (hr : g[i]? = some r) :
    ∃ ad, A = some ad ∧ ad.block < w.heap.size ∧ w.cell? (ad.add (i * 5)) = some (.int .i64 r.kd) ∧ w.cell? ⟨(ad.add (i * 5)).block, (ad.add (i * 5)).off + 1, none⟩ = some (.int .u8 r.lt) ∧
      w.cell? ⟨(ad.add (i * 5)).block, (ad.add (i * 5)).off + 2, none⟩ = some (.int .i64 r.lf) ∧ w.cell? ⟨(ad.add (i * 5)).block, (ad.add (i * 5)).off + 3, none⟩ = some (.int .i64 r.rg) ∧
      w.cell? ⟨(ad.add (i * 5)).block, (ad.add (i * 5)).off + 4, none⟩ = some (.int .i64 r.tm) := by
  obtain ⟨ad, e, hl, c0⟩ := h.get (gc_get (j := 0) hr rfl)
  have key : ∀ j u, r.cells[j + 1]? = some u → w.cell? ⟨(ad.add (i * 5)).block, (ad.add (i * 5)).off + (j + 1), none⟩ = some u := by
    intro j u hu
    obtain ⟨a2, e2, _, c⟩ := h.get (gc_get (j := j + 1) hr hu)
    rw [e] at e2; cases e2
    rw [← add_add_, add_succ_] at c
    exact c
  exact ⟨ad, e, hl, c0, key 0 _ rfl, key 1 _ rfl, key 2 _ rfl, key 3 _ rfl⟩
end Go.Proofs.Ytolhjkpekmmajaa
