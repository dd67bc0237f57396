/- The store of rules, plainly: its entries' texts, weights, depths. -/
import Derived.Test.YtolhjkpekmmajaaStDepth
import Derived.Test.YtolhjkpekmmajaaWgtPlain
namespace Go.Proofs.Ytolhjkpekmmajaa
set_option linter.unusedVariables false
set_option linter.unusedSimpArgs false
open Go.RowKit Go.Lib
/-- the text of an ID -/
def tx (T : List (List Int)) (x : Int) : List Int := if x = 0 then [] else (T[(x - 1).toNat]?).getD []
theorem tx_zero (T : List (List Int)) : tx T 0 = [] := if_pos rfl
theorem tx_app {T : List (List Int)} {x : Int} (h1 : 0 ≤ x) (h2 : x ≤ T.length) (M : List (List Int)) : tx (T ++ M) x = tx T x := by
  unfold tx
  by_cases h : x = 0
  · rw [if_pos h, if_pos h]
  · rw [if_neg h, if_neg h, List.getElem?_append_left (by omega)]
theorem tx_new (T : List (List Int)) (t : List Int) (x : Int) (hx : x = (T.length : Int) + 1) : tx (T ++ [t]) x = t := by
  unfold tx
  rw [if_neg (by omega), show (x - 1).toNat = T.length by omega]
  simp
theorem ent_new (L : List En) (e : En) (x : Int) (hx : x = (L.length : Int) + 1) : ent (L ++ [e]) x = e := by
  unfold ent
  rw [if_neg (by omega), show (x - 1).toNat = L.length by omega]
  simp
/-- what is known of the entry with the ID x -/
structure EOk (L : List En) (T : List (List Int)) (x : Int) (e : En) : Prop where
  w : e.w = wOf (tx T x)
  n1 : 1 ≤ (tx T x).length
  n2 : (tx T x).length ≤ 1152921504606846976
  d0 : 0 ≤ e.dp
  dk : e.dp < (tx T x).length
  dx : e.dp < x
  ev : e.ev = true
  r : (e.r.kd = 1 ∧ e.r.tm = 0 ∧ e.r.lf = 0 ∧ e.r.rg = 0 ∧ 0 ≤ e.r.lt ∧ e.r.lt ≤ 255 ∧ tx T x = [e.r.lt] ∧ e.dp = 0) ∨
      (e.r.kd = 2 ∧ e.r.tm = 0 ∧ e.r.lt = 0 ∧ 1 ≤ e.r.lf ∧ e.r.lf < x ∧ 1 ≤ e.r.rg ∧ e.r.rg < x ∧ tx T x = tx T e.r.lf ++ tx T e.r.rg ∧ e.dp = 1 + max (ent L e.r.lf).dp (ent L e.r.rg).dp ∧
        -1 ≤ (ent L e.r.lf).dp - (ent L e.r.rg).dp ∧ (ent L e.r.lf).dp - (ent L e.r.rg).dp ≤ 1)
/-- a store of letters and pairs, and its rules' texts -/
structure Good (L : List En) (T : List (List Int)) : Prop where
  len : T.length = L.length
  cap : L.length ≤ 1048576
  ok : ∀ x : Int, 1 ≤ x → x ≤ L.length → EOk L T x (ent L x)
theorem good_nil : Good [] [] := ⟨rfl, by simp, fun x h1 h2 => by simp at h2; omega⟩
theorem EOk.app {L : List En} {T : List (List Int)} {x : Int} {e : En} (h : EOk L T x e) (h0 : 0 ≤ x) (hT : T.length = L.length) (hx : x ≤ L.length) (M : List En) (U : List (List Int)) : EOk (L ++ M) (T ++ U) x e := by
  have et := tx_app (T := T) (x := x) h0 (by omega) U
  obtain ⟨h1, h2, h3, h4, h5, h6, h7, h8⟩ := h
  refine ⟨by rw [et]; exact h1, by rw [et]; exact h2, by rw [et]; exact h3, h4, by rw [et]; exact h5, h6, h7, ?_⟩
  rcases h8 with h | ⟨k1, k2, k3, k4, k5, k6, k7, k8, k9, k10, k11⟩
  · rw [et]; exact .inl h
  · refine .inr ⟨k1, k2, k3, k4, k5, k6, k7, ?_, ?_, ?_, ?_⟩
    · rw [et, tx_app (by omega) (by omega), tx_app (by omega) (by omega)]; exact k8
    · rw [ent_app (by omega) (by omega), ent_app (by omega) (by omega)]; exact k9
    · rw [ent_app (by omega) (by omega), ent_app (by omega) (by omega)]; exact k10
    · rw [ent_app (by omega) (by omega), ent_app (by omega) (by omega)]; exact k11
theorem Good.snoc {L : List En} {T : List (List Int)} (h : Good L T) (e : En) (t : List Int) (hc : L.length < 1048576) (he : EOk (L ++ [e]) (T ++ [t]) ((L.length : Int) + 1) e) : Good (L ++ [e]) (T ++ [t]) := by
  refine ⟨by simp [h.len], by simp; omega, fun x h1 h2 => ?_⟩
  simp only [List.length_append, List.length_cons, List.length_nil, Int.natCast_add] at h2
  by_cases hx : x ≤ L.length
  · rw [ent_app (by omega) hx]; exact (h.ok x h1 hx).app (by omega) h.len hx _ _
  · have ex : x = (L.length : Int) + 1 := by omega
    rw [ent_new L e x ex, ex]; exact he
/-- any known ID -/
structure Any (L : List En) (T : List (List Int)) (x : Int) : Prop where
  w : (ent L x).w = wOf (tx T x)
  n2 : (tx T x).length ≤ 1152921504606846976
  d0 : 0 ≤ (ent L x).dp
  dk : (ent L x).dp ≤ (tx T x).length
  dx : (ent L x).dp ≤ x
  ev : (ent L x).ev = true
  z : x ≠ 0 ↔ tx T x ≠ []
theorem wOf_nil : wOf [] = ⟨0, 0, 0, 0, 0, 1⟩ := rfl
theorem Good.any {L : List En} {T : List (List Int)} (h : Good L T) {x : Int} (h0 : 0 ≤ x) (h1 : x ≤ L.length) : Any L T x := by
  by_cases hx : x = 0
  · subst hx
    rw [show Any L T 0 ↔ Any L T 0 from Iff.rfl]
    refine ⟨?_, ?_, ?_, ?_, ?_, ?_, ?_⟩ <;> simp [ent_zero, tx_zero, en0, wOf_nil]
  · have k := h.ok x (by omega) h1
    have hne : tx T x ≠ [] := fun e => by have := k.n1; rw [e] at this; simp at this
    exact ⟨k.w, k.n2, k.d0, by have := k.dk; omega, by have := k.dx; omega, k.ev, ⟨fun _ => hne, fun _ => hx⟩⟩
theorem wOf_n (l : List Int) : (wOf l).n = l.length := rfl
/-- one store grew out of another one -/
structure Ext (L : List En) (T : List (List Int)) (L' : List En) (T' : List (List Int)) : Prop where
  l : ∃ M, L' = L ++ M
  t : ∃ U, T' = T ++ U
theorem Ext.refl (L : List En) (T : List (List Int)) : Ext L T L T := ⟨⟨[], by simp⟩, ⟨[], by simp⟩⟩
theorem Ext.trans {L L1 L2 : List En} {T T1 T2 : List (List Int)} (h : Ext L T L1 T1) (k : Ext L1 T1 L2 T2) : Ext L T L2 T2 := by
  obtain ⟨⟨M, rfl⟩, ⟨U, rfl⟩⟩ := h
  obtain ⟨⟨M2, rfl⟩, ⟨U2, rfl⟩⟩ := k
  exact ⟨⟨M ++ M2, by simp⟩, ⟨U ++ U2, by simp⟩⟩
theorem Ext.len {L L' : List En} {T T' : List (List Int)} (h : Ext L T L' T') : L.length ≤ L'.length := by
  obtain ⟨⟨M, rfl⟩, _⟩ := h; simp
theorem Ext.ent {L L' : List En} {T T' : List (List Int)} (h : Ext L T L' T') {x : Int} (h0 : 0 ≤ x) (h1 : x ≤ L.length) : ent L' x = ent L x := by
  obtain ⟨⟨M, rfl⟩, _⟩ := h; exact ent_app h0 h1 M
theorem Ext.tx {L L' : List En} {T T' : List (List Int)} (h : Ext L T L' T') (hT : T.length = L.length) {x : Int} (h0 : 0 ≤ x) (h1 : x ≤ L.length) : tx T' x = tx T x := by
  obtain ⟨_, ⟨M, rfl⟩⟩ := h; exact tx_app h0 (by omega) M
theorem good_letter {L : List En} {T : List (List Int)} (h : Good L T) (b : Int) (b0 : 0 ≤ b) (b1 : b ≤ 255) (hc : L.length < 1048576) : Good (L ++ [letE b]) (T ++ [[b]]) := by
  refine h.snoc _ _ hc ?_
  have e := tx_new T [b] ((L.length : Int) + 1) (by rw [h.len])
  refine ⟨by rw [e]; rfl, by rw [e]; simp, by rw [e]; simp, by show (0 : Int) ≤ 0; omega, by rw [e]; show (0 : Int) < 1; omega, by show (0 : Int) < _; omega, rfl, .inl ⟨rfl, rfl, rfl, rfl, b0, b1, e, rfl⟩⟩
theorem good_pair {L : List En} {T : List (List Int)} (h : Good L T) (a b : Nat) (ha : a < L.length) (hb : b < L.length)
    (d1 : -1 ≤ (ent L (a + 1)).dp - (ent L (b + 1)).dp) (d2 : (ent L (a + 1)).dp - (ent L (b + 1)).dp ≤ 1) (hn : ((tx T (a + 1) ++ tx T (b + 1)).length) ≤ 1152921504606846976) (hc : L.length < 1048576) :
    Good (L ++ [pairE a b (ent L (a + 1)) (ent L (b + 1)) (wOf (tx T (a + 1) ++ tx T (b + 1)))]) (T ++ [tx T (a + 1) ++ tx T (b + 1)]) := by
  refine h.snoc _ _ hc ?_
  have e := tx_new T (tx T (a + 1) ++ tx T (b + 1)) ((L.length : Int) + 1) (by rw [h.len])
  have ka := h.ok (a + 1) (by omega) (by omega)
  have kb := h.ok (b + 1) (by omega) (by omega)
  have a1 := ka.n1; have a3 := ka.d0; have a4 := ka.dk; have a5 := ka.dx; have b4 := kb.dk; have b5 := kb.dx; have b3 := kb.d0; have b1 := kb.n1
  have hl := h.len
  have hs : (tx T (a + 1) ++ tx T (b + 1)).length = (tx T (a + 1)).length + (tx T (b + 1)).length := List.length_append
  refine ⟨by rw [e]; rfl, by rw [e, hs]; omega, by rw [e]; exact hn, ?_, ?_, ?_, ?_, .inr ⟨rfl, rfl, rfl, ?_, ?_, ?_, ?_, ?_, ?_, ?_, ?_⟩⟩
  · show 0 ≤ 1 + max _ _; omega
  · rw [e, hs]; show 1 + max _ _ < _; omega
  · show 1 + max _ _ < _; omega
  · show (_ && _ && _ && _) = true; rw [ka.ev, kb.ev]; simp [d1, d2]
  · show 1 ≤ (a : Int) + 1; omega
  · show (a : Int) + 1 < _; omega
  · show 1 ≤ (b : Int) + 1; omega
  · show (b : Int) + 1 < _; omega
  · rw [e]
    show _ = tx _ ((a : Int) + 1) ++ tx _ ((b : Int) + 1)
    rw [tx_app (by omega) (by omega), tx_app (by omega) (by omega)]
  · show _ = 1 + max (ent _ ((a : Int) + 1)).dp (ent _ ((b : Int) + 1)).dp
    rw [ent_app (by omega) (by omega), ent_app (by omega) (by omega)]; rfl
  · show -1 ≤ (ent _ ((a : Int) + 1)).dp - (ent _ ((b : Int) + 1)).dp
    rw [ent_app (by omega) (by omega), ent_app (by omega) (by omega)]; exact d1
  · show (ent _ ((a : Int) + 1)).dp - (ent _ ((b : Int) + 1)).dp ≤ 1
    rw [ent_app (by omega) (by omega), ent_app (by omega) (by omega)]; exact d2
end Go.Proofs.Ytolhjkpekmmajaa
