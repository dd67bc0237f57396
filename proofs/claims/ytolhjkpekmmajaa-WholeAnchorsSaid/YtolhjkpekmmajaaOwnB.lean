/- Small words for rows of bytes of the call's own. -/
import Derived.Test.YtolhjkpekmmajaaAppend
namespace Go.Proofs.Ytolhjkpekmmajaa
set_option linter.unusedVariables false
set_option linter.unusedSimpArgs false
open Go.RowKit Go.Lib
def vb (l : List Int) : List Value := l.map (.int .u8)
theorem info_u8 : (Try.prog.info? 5).map (fun i => (i.zero, i.size, i.bytes)) = some (some (.int .u8 0), 1, 1) := by kernel_rfl
theorem info_parts5 {o : Option TypeInfo} {z : Value} {s b : Nat} (h : o.map (fun i => (i.zero, i.size, i.bytes)) = some (some z, s, b)) : ∃ i, o = some i ∧ i.zero = some z ∧ i.size = s ∧ i.bytes = b := by
  cases o with
  | none => cases h
  | some i =>
    simp only [Option.map_some, Option.some.injEq, Prod.mk.injEq] at h
    exact ⟨i, rfl, h.1, h.2.1, h.2.2⟩
theorem vb_one (l : List Int) : ∀ u ∈ vb l, u.oneCell' = true := by
  intro u hu
  simp only [vb, List.mem_map] at hu
  obtain ⟨x, _, rfl⟩ := hu
  rfl
theorem vb_len (l : List Int) : (vb l).length = l.length := by simp [vb]
theorem vb_app (a b : List Int) : vb (a ++ b) = vb a ++ vb b := by simp [vb]
theorem vb_at {l : List Int} {i : Nat} (h : i < l.length) : (vb l)[i]? = some (.int .u8 l[i]) := by simp [vb, h]
theorem own_ge {w : World} {base : Nat} {e : TypeId} {size n : Nat} {v : Value} {xs : List Value} (h : w.ownsRow base e size v n xs) : ∀ k, v.ownBlock = some k → base ≤ k := by
  rcases h.2 with ⟨rfl, _⟩ | ⟨g, cap, cur, rfl, hg, _⟩
  · intro k hk; simp [Value.ownBlock] at hk
  · intro k hk; simp [Value.ownBlock] at hk; omega
theorem own_alloc {w : World} {base : Nat} {e : TypeId} {size n : Nat} {v : Value} {xs : List Value} (h : w.ownsRow base e size v n xs) (o : Obj) : (w.alloc o).ownsRow base e size v n xs := by
  refine ⟨h.1, ?_⟩
  rcases h.2 with h | ⟨g, cap, cur, hv, hg, hc, hr⟩
  · exact .inl h
  · exact .inr ⟨g, cap, cur, hv, hg, (Below.heap_alloc w o g (Box.lt (cs := cur) (t := e) hc)).trans hc, hr⟩
theorem own_below {w w' : World} {base : Nat} {e : TypeId} {size n : Nat} {v : Value} {xs : List Value} (h : w.ownsRow base e size v n xs) (hb : Below w.heap.size w w') : w'.ownsRow base e size v n xs := by
  refine ⟨h.1, ?_⟩
  rcases h.2 with h | ⟨g, cap, cur, hv, hg, hc, hr⟩
  · exact .inl h
  · exact .inr ⟨g, cap, cur, hv, hg, (hb.block g (Box.lt (cs := cur) (t := e) hc)).trans hc, hr⟩
/-- what hands back bytes of the call's own -/
def OwnBytes (w : World) (l : List Int) (e : Ending) (w' : World) : Prop := ∃ A c, e = .returned (.slice A l.length c) ∧ w'.ownsRow w.heap.size 5 1 (.slice A l.length c) l.length (vb l) ∧ Below w.heap.size w w'
theorem OwnBytes.out {w w' : World} {l : List Int} {e : Ending} (h : OwnBytes w l e w') : SliceOut w l.length (vb l) e w' := by
  obtain ⟨A, c, he, ho, hb⟩ := h
  exact ⟨A, c, he, own_row _ ho, hb⟩
end Go.Proofs.Ytolhjkpekmmajaa
