/- The store's Letter and Pair, by texts. -/
import Derived.Test.YtolhjkpekmmajaaStMore
import Derived.Test.YtolhjkpekmmajaaStPairOld
namespace Go.Proofs.Ytolhjkpekmmajaa
set_option linter.unusedVariables false
set_option linter.unusedSimpArgs false
open Go.RowKit Go.Lib Go.Maps
/-- the ID x of the text t, of a depth between lo and hi; at most c rules were made -/
structure IdO (B S G : Nat) (L : List En) (T : List (List Int)) (t : List Int) (lo hi : Int) (c : Nat) (w w' : World) (x : Int) (L' : List En) (T' : List (List Int)) : Prop where
  st : St w' B S G L'
  fr : SFr w w' B S G
  good : Good L' T'
  ext : Ext L T L' T'
  cnt : L'.length ≤ L.length + c
  x0 : 0 ≤ x
  x1 : x ≤ L'.length
  tx : tx T' x = t
  lo : lo ≤ (ent L' x).dp
  hi : (ent L' x).dp ≤ hi
def IdOut (B S G : Nat) (L : List En) (T : List (List Int)) (t : List Int) (lo hi : Int) (c : Nat) (w : World) (e : Ending) (w' : World) : Prop :=
  ∃ x L' T', e = .returned (.tuple #[.int .i64 x, .nilIface]) ∧ IdO B S G L T t lo hi c w w' x L' T'
theorem pos_ent {L : List En} {r : Rl} {p : Nat} (h : pos (L.map En.r) r = p) (hp : p ≠ 0) : p ≤ L.length ∧ (ent L p).r = r := by
  have h1 := pos_le (L.map En.r) r
  rw [h, List.length_map] at h1
  have h2 := pos_get (L.map En.r) r (by omega)
  rw [h, List.getElem?_map] at h2
  have h3 := ent_at (L := L) (x := (p : Int)) (by omega) (by omega)
  rw [show ((p : Int) - 1).toNat = p - 1 by omega] at h3
  rw [h3] at h2
  exact ⟨h1, Option.some.inj h2⟩
theorem sletter_any (L : List En) (T : List (List Int)) (hg : Good L T) (b : Int) (b0 : 0 ≤ b) (b1 : b ≤ 255) (hc : L.length < 1048576) (B S G : Nat) (w : World) (st : St w B S G L) :
    Calls Try.prog 62 #[.pointer (some ⟨S, 0, none⟩), .int .u8 b] w (IdOut B S G L T [b] 0 0 1 w) := by
  by_cases hp : pos (L.map En.r) ⟨1, b, 0, 0, 0⟩ = 0
  · refine (letter_new L b b0 b1 hp L.length rfl hc B S G w st).mono ?_
    rintro e w' ⟨rfl, st', fr⟩
    have e1 := ent_new L (letE b) ((L.length : Int) + 1) rfl
    exact ⟨_, _, _, rfl, st', fr, good_letter hg b b0 b1 hc, ⟨⟨_, rfl⟩, ⟨_, rfl⟩⟩, by simp, by omega, by simp, tx_new T [b] _ (by rw [hg.len]), by rw [e1]; show (0 : Int) ≤ 0; omega, by rw [e1]; show (0 : Int) ≤ 0; omega⟩
  · obtain ⟨p, hpp⟩ : ∃ p, pos (L.map En.r) ⟨1, b, 0, 0, 0⟩ = p := ⟨_, rfl⟩
    rw [hpp] at hp
    obtain ⟨p1, pe⟩ := pos_ent hpp hp
    refine (letter_old L b b0 b1 p hpp hp B S G w st).mono ?_
    rintro e w' ⟨rfl, st', fr⟩
    have k := (hg.ok p (by omega) (by omega)).r
    rw [pe] at k
    rcases k with ⟨_, _, _, _, _, _, k1, k2⟩ | ⟨k, _⟩
    · exact ⟨_, _, _, rfl, st', fr, hg, Ext.refl _ _, by omega, by omega, by omega, k1, by omega, by omega⟩
    · simp at k
theorem spair_any (L : List En) (T : List (List Int)) (hg : Good L T) (a b : Int) (a0 : 1 ≤ a) (a1 : a ≤ L.length) (b0 : 1 ≤ b) (b1 : b ≤ L.length) (d1 : -1 ≤ (ent L a).dp - (ent L b).dp) (d2 : (ent L a).dp - (ent L b).dp ≤ 1)
    (hn : (tx T a ++ tx T b).length ≤ 1152921504606846976) (hc : L.length < 1048576) (B S G : Nat) (w : World) (st : St w B S G L) :
    Calls Try.prog 63 #[.pointer (some ⟨S, 0, none⟩), .int .i64 a, .int .i64 b] w (IdOut B S G L T (tx T a ++ tx T b) (1 + max (ent L a).dp (ent L b).dp) (1 + max (ent L a).dp (ent L b).dp) 1 w) := by
  obtain ⟨i, rfl⟩ : ∃ k : Nat, a = (k : Int) + 1 := ⟨(a - 1).toNat, by omega⟩
  obtain ⟨j, rfl⟩ : ∃ k : Nat, b = (k : Int) + 1 := ⟨(b - 1).toNat, by omega⟩
  have ka := hg.any (x := (i : Int) + 1) (by omega) a1
  have kb := hg.any (x := (j : Int) + 1) (by omega) b1
  have ea := ent_at (L := L) (x := (i : Int) + 1) (by omega) a1
  have eb := ent_at (L := L) (x := (j : Int) + 1) (by omega) b1
  rw [show ((i : Int) + 1 - 1).toNat = i by omega] at ea
  rw [show ((j : Int) + 1 - 1).toNat = j by omega] at eb
  have wa := ka.w; have wb := kb.w
  have hn' := hn
  rw [List.length_append] at hn'
  have hs : lenAdd (ent L ((i : Int) + 1)).w.n (ent L ((j : Int) + 1)).w.n = (((tx T ((i : Int) + 1)).length : Int) + (tx T ((j : Int) + 1)).length, 0) := by
    rw [wa, wb, wOf_n, wOf_n]; unfold lenAdd
    rw [show vld ((tx T ((i : Int) + 1)).length : Int) = true by unfold vld; simp; omega, show vld ((tx T ((j : Int) + 1)).length : Int) = true by unfold vld; simp; omega]
    rw [if_pos (by rfl), if_pos (by omega)]
  have hj : joinW (ent L ((i : Int) + 1)).w (ent L ((j : Int) + 1)).w = (wOf (tx T ((i : Int) + 1) ++ tx T ((j : Int) + 1)), 0) := by
    rw [wa, wb]; exact joinW_of _ _ (by omega)
  have hka := ka.dk; have hkb := kb.dk; have hkx := ka.dx; have hkbx := kb.dx; have ka0 := ka.d0; have kb0 := kb.d0
  have hcap := hg.cap
  by_cases hp : pos (L.map En.r) ⟨2, 0, (i : Int) + 1, (j : Int) + 1, 0⟩ = 0
  · refine (pair_new L i j _ _ ea eb ka.d0 (by omega) kb.d0 (by omega) (by rw [wa]; exact wOf_ok _ (by omega)) (by rw [wb]; exact wOf_ok _ (by omega)) _ hs _ hj hp L.length rfl hc B S G w st).mono ?_
    rintro e w' ⟨rfl, st', fr⟩
    have e1 := ent_new L (pairE i j (ent L ((i : Int) + 1)) (ent L ((j : Int) + 1)) (wOf (tx T ((i : Int) + 1) ++ tx T ((j : Int) + 1)))) ((L.length : Int) + 1) rfl
    exact ⟨_, _, _, rfl, st', fr, good_pair hg i j (by omega) (by omega) d1 d2 hn hc, ⟨⟨_, rfl⟩, ⟨_, rfl⟩⟩, by simp, by omega, by simp, tx_new T _ _ (by rw [hg.len]), by rw [e1]; exact Int.le_refl _, by rw [e1]; exact Int.le_refl _⟩
  · obtain ⟨p, hpp⟩ : ∃ p, pos (L.map En.r) ⟨2, 0, (i : Int) + 1, (j : Int) + 1, 0⟩ = p := ⟨_, rfl⟩
    rw [hpp] at hp
    obtain ⟨p1, pe⟩ := pos_ent hpp hp
    refine (pair_old L i j _ _ ea eb ka.d0 (by omega) kb.d0 (by omega) _ hs p hpp hp (by omega) B S G w st).mono ?_
    rintro e w' ⟨rfl, st', fr⟩
    have k := (hg.ok p (by omega) (by omega)).r
    rw [pe] at k
    rcases k with ⟨k, _⟩ | ⟨_, _, _, _, _, _, _, k1, k2, _⟩
    · simp at k
    · exact ⟨_, _, _, rfl, st', fr, hg, Ext.refl _ _, by omega, by omega, by omega, k1, Int.le_of_eq k2.symm, Int.le_of_eq k2⟩
end Go.Proofs.Ytolhjkpekmmajaa
