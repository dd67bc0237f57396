/- Slices that the call itself made, inside regions: a value that leads to a row of cells in a block of element type e; '[]byte(s)'. -/
import Derived.Test.YtebjdlimboifaaaRegLin
import Derived.Lib.ConvBytes
namespace Go.Proofs.Ytebjdlimboifaaa
set_option linter.unusedVariables false
set_option linter.unusedSimpArgs false
open Go.RowKit

def Sl (e : TypeId) (xs : List Value) (n : Nat) (v : Value) (w : World) : Prop :=
  ∃ A c, v = .slice A n c ∧ ∀ k u, xs[k]? = some u → ∃ ad, A = some ad ∧ w.cell? (ad.add k) = some u ∧ ∃ cs fr, w.heap[ad.block]? = some (.cells cs e fr)
theorem cell_same {w w' : World} {p : Addr} (h : w'.heap[p.block]? = w.heap[p.block]?) : w'.cell? p = w.cell? p := World.cell?_of_block (w := w) h
theorem heap_lt {w : World} {k : Nat} {o : Obj} (h : w.heap[k]? = some o) : k < w.heap.size := (Array.getElem?_eq_some_iff.1 h).1
theorem Sl.stab {h0 : Nat} {tys : List TypeId} {e : TypeId} {xs : List Value} {n : Nat} (h : e ∉ tys) : Stab h0 tys (Sl e xs n) := by
  rintro v w w' hg ⟨A, c, rfl, hc⟩
  refine ⟨A, c, rfl, fun k u hk => ?_⟩
  obtain ⟨ad, e1, h1, cs, fr, h2⟩ := hc k u hk
  have hs := hg.block ad.block (heap_lt h2) (.inr fun cs' ty fr' h3 => by rw [h2] at h3; cases h3; exact h)
  exact ⟨ad, e1, (cell_same (by rw [block_add]; exact hs)).trans h1, cs, fr, hs.trans h2⟩
theorem Sl.row {e : TypeId} {xs : List Value} {n : Nat} {v : Value} {w : World} (h : Sl e xs n v w) : ∃ A c, v = .slice A n c ∧ RowAt w A xs := by
  obtain ⟨A, c, rfl, hc⟩ := h
  exact ⟨A, c, rfl, fun k u hk => by obtain ⟨ad, e1, h1, _⟩ := hc k u hk; exact ⟨ad, e1, h1⟩⟩
/-- the bytes of a string, as numbers -/
def bi (s : ByteArray) : List Int := s.data.toList.map fun b => (b.toNat : Int)
theorem bi_len (s : ByteArray) : (bi s).length = s.size := by simp [bi]
theorem bi_u8 (s : ByteArray) : ∀ x ∈ bi s, 0 ≤ x ∧ x ≤ 255 := by
  intro x hx
  unfold bi at hx
  obtain ⟨b, _, rfl⟩ := List.mem_map.1 hx
  have := b.toNat_lt
  omega
theorem below_bytes (w : World) (e : TypeId) (s : ByteArray) : Below w.heap.size w (Lib.bytesWorld w e s) :=
  ⟨by simp [Lib.bytesWorld, World.freeze, World.alloc, World.drew, -World.alloc_eq, -World.drew_eq], by simp [Lib.bytesWorld, World.freeze, World.alloc, World.drew, -World.alloc_eq, -World.drew_eq],
   by simp [Lib.bytesWorld, World.freeze, World.alloc, World.drew, -World.alloc_eq, -World.drew_eq], by rw [Lib.bytesWorld_size]; omega, fun k hk => Lib.bytesWorld_at_old w e s k hk⟩
theorem Sl.conv (w : World) (e : TypeId) (s : ByteArray) (c : Nat) : Sl e ((bi s).map (.int .u8)) s.size (.slice (some ⟨w.heap.size, 0, none⟩) s.size c) (Lib.bytesWorld w e s) := by
  refine ⟨_, _, rfl, fun k u hk => ⟨_, rfl, ?_, _, _, Lib.bytesWorld_at_new w e s⟩⟩
  have hk' : k < s.size := by
    have := (List.getElem?_eq_some_iff.1 hk).1
    simpa [bi] using this
  have e1 : (⟨w.heap.size, 0, none⟩ : Addr).add k = ⟨w.heap.size, k, none⟩ := by unfold Addr.add; split <;> simp_all
  rw [e1, Lib.bytesWorld_cell w e s k hk']
  simp [bi, List.getElem?_map] at hk
  have h2 : s.data.toList[k]? = some (s.data.toList.getD k 0) := by
    rw [List.getD_eq_getElem?_getD, List.getElem?_eq_getElem (by simpa using hk')]
    rfl
  obtain ⟨b, hb, rfl⟩ := hk
  have h3 : s.data.toList[k]? = some b := by simpa using hb
  rw [h3] at h2
  injection h2 with h2
  rw [← h2]
end Go.Proofs.Ytebjdlimboifaaa
