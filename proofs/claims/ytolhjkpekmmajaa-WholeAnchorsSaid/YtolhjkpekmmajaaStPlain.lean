/- The store of rules: what its memory holds. -/
import Derived.Test.YtolhjkpekmmajaaGrMap
import Derived.Test.YtolhjkpekmmajaaRulesOut
import Derived.Test.YtolhjkpekmmajaaWgtOf
namespace Go.Proofs.Ytolhjkpekmmajaa
set_option linter.unusedVariables false
set_option linter.unusedSimpArgs false
open Go.RowKit Go.Lib
/-- an entry: a rule, its text's weight, its depth, and whether it is balanced -/
structure En where
  r : Rl
  w : Wt
  dp : Int
  ev : Bool
def En.cells (e : En) : List Value := [.int .i64 e.r.kd, .int .u8 e.r.lt, .int .i64 e.r.lf, .int .i64 e.r.rg, .int .i64 e.r.tm, .int .i64 e.w.n, .int .i64 e.w.l, .int .i64 e.w.h, .int .i64 e.w.t, .int .u64 e.w.v, .int .u64 e.w.s, .int .i64 e.dp, .bool e.ev]
/-- what is known of the ID 0 -/
def en0 : En := ⟨⟨0, 0, 0, 0, 0⟩, ⟨0, 0, 0, 0, 0, 1⟩, 0, true⟩
def ec (L : List En) : List Value := L.flatMap En.cells
theorem en_len (e : En) : e.cells.length = 13 := rfl
theorem ec_len (L : List En) : (ec L).length = L.length * 13 := by
  induction L with
  | nil => rfl
  | cons r L ih => simp [ec, En.cells] at ih ⊢; omega
theorem ec_get {L : List En} {i j : Nat} {r : En} {u : Value} (h : L[i]? = some r) (hu : r.cells[j]? = some u) : (ec L)[i * 13 + j]? = some u := by
  induction L generalizing i with
  | nil => simp at h
  | cons a L ih =>
    have hj : j < 13 := (List.getElem?_eq_some_iff.1 hu).1
    show (a.cells ++ ec L)[i * 13 + j]? = some u
    match i with
    | 0 =>
      simp at h; subst h
      rw [List.getElem?_append_left (by rw [en_len]; omega), Nat.zero_mul, Nat.zero_add]; exact hu
    | i + 1 =>
      simp at h
      rw [List.getElem?_append_right (by rw [en_len]; omega), en_len, show (i + 1) * 13 + j - 13 = i * 13 + j by omega]
      exact ih h
theorem ec_snoc (L : List En) (e : En) : ec L ++ e.cells = ec (L ++ [e]) := by simp [ec]
theorem en_one (e : En) : ∀ u ∈ e.cells, u.oneCell' = true := by
  intro u hu
  simp only [En.cells, List.mem_cons, List.not_mem_nil, or_false] at hu
  rcases hu with rfl | rfl | rfl | rfl | rfl | rfl | rfl | rfl | rfl | rfl | rfl | rfl | rfl <;> rfl
def most : Int := 1048576
/-- the store that lies in block S, its map in block G, its entries in blocks from B on -/
structure St (w : World) (B S G : Nat) (L : List En) : Prop where
  bo : ∃ A c, Box w S 119 #[.int .i64 1048576, .slice A L.length c, .map (some G)] ∧ w.ownsRow B 149 13 (.slice A L.length c) L.length (ec L)
  fm : FirstMap w G L.length (L.map En.r)
  lt : S < B ∧ G < B ∧ B ≤ w.heap.size
  ne : S ≠ G
/-- what else is there stays -/
structure SFr (w w' : World) (B S G : Nat) : Prop where
  os : w'.os = w.os
  tape : w'.tape = w.tape
  output : w'.output = w.output
  size : w.heap.size ≤ w'.heap.size
  keep : ∀ k, k < w.heap.size → k ≠ S → k ≠ G → (∀ cs fr, w.heap[k]? = some (.cells cs 149 fr) → k < B) → w'.heap[k]? = w.heap[k]?
theorem SFr.refl (w : World) (B S G : Nat) : SFr w w B S G := ⟨rfl, rfl, rfl, Nat.le_refl _, fun _ _ _ _ _ => rfl⟩
theorem SFr.of_below {w w' : World} (h : Below w.heap.size w w') (B S G : Nat) : SFr w w' B S G := ⟨h.os, h.tape, h.output, h.size, fun k hk _ _ _ => h.block k hk⟩
theorem SFr.trans {a w w' : World} {B S G : Nat} (h1 : SFr a w B S G) (h2 : SFr w w' B S G) : SFr a w' B S G :=
  ⟨h2.os.trans h1.os, h2.tape.trans h1.tape, h2.output.trans h1.output, Nat.le_trans h1.size h2.size, fun k hk n1 n2 n3 => by
    have e1 := h1.keep k hk n1 n2 n3
    exact (h2.keep k (Nat.lt_of_lt_of_le hk h1.size) n1 n2 (fun cs fr e => n3 cs fr (by rw [← e1]; exact e))).trans e1⟩
theorem St.below {w w' : World} {B S G : Nat} {L : List En} (h : St w B S G L) (hb : Below w.heap.size w w') : St w' B S G L := by
  obtain ⟨⟨A, c, bo, ow⟩, fm, lt, ne⟩ := h
  refine ⟨⟨A, c, bo.below hb bo.lt, ow.1, ?_⟩, fm.below hb fm.lt, ⟨lt.1, lt.2.1, Nat.le_trans lt.2.2 hb.size⟩, ne⟩
  rcases ow.2 with h | ⟨g, cap, cur, hv, hg, hc, hr⟩
  · exact .inl h
  · exact .inr ⟨g, cap, cur, hv, hg, (hb.block g (Box.lt (cs := cur) (t := 149) hc)).trans hc, hr⟩
/-- what is known of an ID -/
def ent (L : List En) (x : Int) : En := if x = 0 then en0 else (L[(x - 1).toNat]?).getD en0
theorem ent_zero (L : List En) : ent L 0 = en0 := if_pos rfl
theorem ent_at {L : List En} {x : Int} (h1 : 1 ≤ x) (h2 : x ≤ L.length) : L[(x - 1).toNat]? = some (ent L x) := by
  unfold ent
  rw [if_neg (by omega), List.getElem?_eq_getElem (show (x - 1).toNat < L.length by omega)]; rfl
theorem ent_app {L : List En} {x : Int} (h1 : 0 ≤ x) (h2 : x ≤ L.length) (M : List En) : ent (L ++ M) x = ent L x := by
  unfold ent
  by_cases h : x = 0
  · rw [if_pos h, if_pos h]
  · rw [if_neg h, if_neg h, List.getElem?_append_left (by omega)]
end Go.Proofs.Ytolhjkpekmmajaa
