/- Words of mine for memory: a row of cells that a slice leads to; what a call that makes memory leaves. -/
import Derived.Test.YtolhjkpekmmajaaBase
import Derived.Below
import Derived.Laws.OwnMore
import Derived.Deep.Draws
import Derived.OwnWalk
import Derived.Laws.Rows
import Derived.Deep.QuietTactic
namespace Go.Proofs.Ytolhjkpekmmajaa
set_option linter.unusedVariables false
set_option linter.unusedSimpArgs false
open Go.RowKit

theorem block_add (a : Addr) (n : Nat) : (a.add n).block = a.block := by unfold Addr.add; split <;> rfl
theorem add_add_ (a : Addr) (i j : Nat) : (a.add i).add j = a.add (i + j) := by
  unfold Addr.add
  by_cases hi : i = 0 <;> by_cases hj : j = 0 <;> simp [hi, hj, Nat.add_assoc]
theorem cell_lt {w : World} {p : Addr} {v : Value} (h : w.cell? p = some v) : p.block < w.heap.size := World.block_lt_of_cell? w _ h

/-- The slice's address A leads to the cells xs. (Nothing is said of A where xs is empty.) -/
def RowAt (w : World) (A : Option Addr) (xs : List Value) : Prop := ∀ k u, xs[k]? = some u → ∃ ad, A = some ad ∧ w.cell? (ad.add k) = some u
theorem RowAt.nil (w : World) (A : Option Addr) : RowAt w A [] := fun k u h => by simp at h
theorem RowAt.get {w : World} {A : Option Addr} {xs : List Value} (h : RowAt w A xs) {k : Nat} {u : Value} (hk : xs[k]? = some u) : ∃ ad, A = some ad ∧ ad.block < w.heap.size ∧ w.cell? (ad.add k) = some u := by
  obtain ⟨ad, e, hc⟩ := h k u hk
  exact ⟨ad, e, by have := cell_lt hc; rwa [block_add] at this, hc⟩
theorem RowAt.below {w w' : World} {A : Option Addr} {xs : List Value} {B : Nat} (h : RowAt w A xs) (hb : Below B w w') (hB : w.heap.size ≤ B) : RowAt w' A xs := fun k u hk => by
  obtain ⟨ad, e, hlt, hc⟩ := h.get hk
  exact ⟨ad, e, (hb.cell (by rw [block_add]; omega)).trans hc⟩
theorem RowAt.of_block {w : World} {g : Nat} {t : TypeId} {cs : Array Value} {fr : Nat × Nat} (h : w.heap[g]? = some (.cells cs t fr)) : RowAt w (some ⟨g, 0, none⟩) cs.toList := fun k u hk => by
  refine ⟨_, rfl, ?_⟩
  have e : (⟨g, 0, none⟩ : Addr).add k = ⟨g, k, none⟩ := by unfold Addr.add; split <;> simp_all
  rw [e, cell_of_row w g k cs t fr h]
  simpa using hk

theorem RowAt.new (w : World) (t : TypeId) (cs : Array Value) {g : Nat} {xs : List Value} (hg : g = w.heap.size) (hx : cs.toList = xs) : RowAt (w.alloc (.cells cs t)) (some ⟨g, 0, none⟩) xs := by
  subst hg; subst hx; exact RowAt.of_block (heap_alloc_new w _)
theorem RowAt.drew {w : World} {A : Option Addr} {xs : List Value} (h : RowAt w A xs) : RowAt w.drew A xs := h
theorem RowAt.drewN {w : World} {A : Option Addr} {xs : List Value} (h : RowAt w A xs) (n : Nat) : RowAt (w.drewN n) A xs := h
/-- what a call leaves that hands back a slice in memory that leads to the cells xs (n elements), and turns nothing that was there. -/
def SliceOut (w : World) (n : Nat) (xs : List Value) (e : Ending) (w' : World) : Prop := ∃ A c, e = .returned (.slice A n c) ∧ RowAt w' A xs ∧ Below w.heap.size w w'
theorem same_below {w w' : World} (h : w = w') : Below w.heap.size w w' := h ▸ Below.refl _ _
theorem below_drewN {B : Nat} {a w : World} (h : Below B a w) (n : Nat) : Below B a (w.drewN n) := ⟨h.os, h.tape, h.output, h.size, h.block⟩
/-- a call further on: what lay below a's size is still as it was. -/
theorem bkeep {a w w' : World} (h : Below a.heap.size a w) (hb : Below w.heap.size w w') : Below a.heap.size a w' := h.trans (hb.mono h.size)
theorem balloc {a w : World} (h : Below a.heap.size a w) (o : Obj) : Below a.heap.size a (w.alloc o) := h.alloc h.size o
/-- all old cells read as before. -/
theorem bcell {W w1 : World} (hb : Below W.heap.size W w1) : (∀ b o, b < W.heap.size → w1.cell? ⟨b, o, none⟩ = W.cell? ⟨b, o, none⟩) ∧ (∀ b o, b < W.heap.size → w1.frozen? ⟨b, o, none⟩ = W.frozen? ⟨b, o, none⟩) :=
  ⟨fun b o h => hb.cell (p := ⟨b, o, none⟩) h, fun b o h => hb.frozen (p := ⟨b, o, none⟩) h⟩
/-- the same, below a block's number of my own choice. -/
theorem cells_below {B : Nat} {W w1 : World} (hb : Below B W w1) : (∀ b o, b < B → w1.cell? ⟨b, o, none⟩ = W.cell? ⟨b, o, none⟩) ∧ (∀ b o, b < B → w1.frozen? ⟨b, o, none⟩ = W.frozen? ⟨b, o, none⟩) :=
  ⟨fun b o h => hb.cell (p := ⟨b, o, none⟩) h, fun b o h => hb.frozen (p := ⟨b, o, none⟩) h⟩

/-- a contract that leaves the world alone, inside a quiet region. -/
theorem quiet_left2 {P : Program} {f : FuncId} {args : Array Value} {w : World} {a n : Nat} {v : Value} (h : Calls P f args (w.drewN (a + n)) fun e w' => e = .returned v ∧ w.drewN (a + n) = w') :
    Calls P f args (w.drewN (a + n)) fun e w'' => e = .returned v ∧ ∃ m, w'' = w.drewN (a + m) := h.mono fun _ _ ⟨he, hm⟩ => ⟨he, n, hm.symm⟩
theorem quiet_left1 {P : Program} {f : FuncId} {args : Array Value} {w : World} {n : Nat} {v : Value} (h : Calls P f args (w.drewN n) fun e w' => e = .returned v ∧ w.drewN n = w') :
    Calls P f args (w.drewN n) fun e w'' => e = .returned v ∧ ∃ m, w'' = w.drewN m := h.mono fun _ _ ⟨he, hm⟩ => ⟨he, n, hm.symm⟩

theorem Below.via {B C : Nat} {a w wx w' : World} (h : Below B a w) (hb : Below C wx w') (h1 : wx.os = w.os) (h2 : wx.tape = w.tape) (h3 : wx.output = w.output) (he : wx.heap = w.heap) (hC : B ≤ C) : Below B a w' :=
  ⟨hb.os.trans (h1.trans h.os), hb.tape.trans (h2.trans h.tape), hb.output.trans (h3.trans h.output), Nat.le_trans h.size (by have := hb.size; rw [he] at this; exact this), fun k hk => (hb.block k (Nat.lt_of_lt_of_le hk hC)).trans ((congrArg (fun (H : Array Obj) => H[k]?) he).trans (h.block k hk))⟩

/-- block g is known whole: the cells cs of element type t, none frozen. -/
def Box (w : World) (g : Nat) (t : TypeId) (cs : Array Value) : Prop := w.heap[g]? = some (.cells cs t (0, 0))
section
variable {w w' : World} {g : Nat} {t : TypeId} {cs : Array Value}
theorem Box.lt (h : Box w g t cs) : g < w.heap.size := by
  rcases Nat.lt_or_ge g w.heap.size with hlt | hge
  · exact hlt
  · unfold Box at h; rw [Array.getElem?_eq_none hge] at h; cases h
theorem Box.cell (h : Box w g t cs) (i : Nat) : w.cell? ⟨g, i, none⟩ = cs[i]? := cell_of_row w g i cs t (0, 0) h
theorem Box.free (h : Box w g t cs) (i : Nat) : w.frozen? ⟨g, i, none⟩ = false := by
  unfold Box at h
  simp [World.frozen?, h]
theorem Box.new (w : World) (t : TypeId) (cs : Array Value) : Box (w.alloc (.cells cs t)) w.heap.size t cs := heap_alloc_new w _
theorem Box.drewN (h : Box w g t cs) (n : Nat) : Box (w.drewN n) g t cs := h
theorem Box.drew (h : Box w g t cs) : Box w.drew g t cs := h
theorem Box.alloc (h : Box w g t cs) (o : Obj) : Box (w.alloc o) g t cs := (Below.heap_alloc w o g h.lt).trans h
theorem Box.below {B : Nat} (h : Box w g t cs) (hb : Below B w w') (hg : g < B) : Box w' g t cs := (hb.block g hg).trans h
/-- through a call, whatever draws stand between. -/
theorem Box.via {wx : World} {B : Nat} (h : Box w g t cs) (hb : Below B wx w') (he : wx.heap = w.heap) (hg : g < B) : Box w' g t cs := (hb.block g hg).trans (by rw [he]; exact h)
theorem Box.set_ (h : Box w g t cs) (i : Nat) (u : Value) : Box (w.setCell ⟨g, i, none⟩ u) g t (cs.setIfInBounds i u) := by
  unfold Box at h ⊢
  simp [World.setCell, Array.getElem?_modify, h]
theorem Box.far (h : Box w g t cs) {p : Addr} (hp : g ≠ p.block) (u : Value) : Box (w.setCell p u) g t cs := (Below.heap_setCell w p u g hp).trans h
end
end Go.Proofs.Ytolhjkpekmmajaa
