/- Plain laws: the tree of rules that Text builds. -/
import Derived.Test.YtcbahojefglakaaGrIntern
import Derived.Test.YtcbahojefglakaaGrGood
namespace Go.Proofs.Ytcbahojefglakaa
set_option linter.unusedVariables false
set_option linter.unusedSimpArgs false
def tAt (T : List (List Int)) (i : Int) : List Int := T.getD (i - 1).toNat []
/-- rules put out, and their texts -/
structure Tg (out : List Rl) (T : List (List Int)) : Prop where
  ok : ∀ r ∈ out, r.Ok
  code : gcode 0 out = 0
  tx : texts out = T
  ln : lensFrom [] out = (T.map fun Z => (Z.length : Int), 0)
  sm : ∀ Z ∈ T, Z.length ≤ 65536
theorem Tg.len {out : List Rl} {T : List (List Int)} (h : Tg out T) : T.length = out.length := by rw [← h.tx, texts_len]
theorem tg_nil : Tg [] [] := ⟨by simp, rfl, rfl, rfl, by simp⟩
theorem gcode_one (r : Rl) (n : Nat) (h : rc r (n + 1) = 0) : gcode n [r] = 0 := by
  show (if rc r (n + 1) = 0 then gcode (n + 1) [] else rc r (n + 1)) = 0
  rw [if_pos h]; rfl
theorem Tg.snoc {out : List Rl} {T : List (List Int)} (h : Tg out T) {r : Rl} {Z : List Int} (ho : r.Ok) (hc : rc r ((out.length : Int) + 1) = 0) (hl : len1 (T.map fun Z => (Z.length : Int)) r = ((Z.length : Int), 0)) (hx : tx1 T r = Z) (hz : Z.length ≤ 65536) : Tg (out ++ [r]) (T ++ [Z]) := by
  refine ⟨?_, ?_, ?_, ?_, ?_⟩
  · intro q hq
    rcases List.mem_append.1 hq with hq | hq
    · exact h.ok q hq
    · rw [List.mem_singleton.1 hq]; exact ho
  · rw [gcode_app out [r] 0 h.code, Nat.zero_add]; exact gcode_one r _ hc
  · unfold texts; rw [fwd_app]
    show fwd tx1 (texts out) [r] = _
    rw [h.tx]; show T ++ [tx1 T r] = _; rw [hx]
  · rw [lensFrom_app out [r] [] _ h.ln]
    show (if (len1 _ r).2 = 0 then lensFrom (_ ++ [(len1 _ r).1]) [] else ([], (len1 _ r).2)) = _
    rw [hl, if_pos rfl, List.map_append]; rfl
  · intro Y hY
    rcases List.mem_append.1 hY with hY | hY
    · exact h.sm Y hY
    · rw [List.mem_singleton.1 hY]; exact hz
theorem tAt_app (T S : List (List Int)) {i : Int} (h1 : 1 ≤ i) (h2 : i ≤ T.length) : tAt (T ++ S) i = tAt T i := by
  unfold tAt; exact getD_app T S _ _ (by omega)
theorem tAt_last (T : List (List Int)) (Z : List Int) : tAt (T ++ [Z]) ((T.length : Int) + 1) = Z := by
  unfold tAt
  rw [show ((T.length : Int) + 1 - 1).toNat = T.length + 0 by omega, getD_add]; rfl
theorem tAt_mem {T : List (List Int)} {i : Int} (h1 : 1 ≤ i) (h2 : i ≤ T.length) : tAt T i ∈ T := by
  unfold tAt
  rw [List.getD_eq_getElem?_getD, List.getElem?_eq_getElem (show (i - 1).toNat < T.length by omega)]
  exact List.getElem_mem _
/-- a rule interned -/
theorem tg_in {out : List Rl} {T : List (List Int)} (h : Tg out T) {r : Rl} {Z : List Int} (ho : r.Ok) (hc : rc r ((out.length : Int) + 1) = 0) (hl : len1 (T.map fun Z => (Z.length : Int)) r = ((Z.length : Int), 0)) (hx : tx1 T r = Z) (hz : Z.length ≤ 65536) :
    ∃ S, Tg (inOut out r) (T ++ S) ∧ (∀ Y ∈ S, Y = Z) ∧ 1 ≤ inId out r ∧ inId out r ≤ ((T ++ S).length : Int) ∧ tAt (T ++ S) (inId out r) = Z ∧ (inId out r = ((T ++ S).length : Int) ∨ Z ∈ T) ∧ (inOut out r).length ≤ out.length + 1 := by
  unfold inOut inId
  by_cases hp : pos out r = 0
  · rw [if_pos hp, if_pos hp]
    refine ⟨[Z], h.snoc ho hc hl hx hz, fun Y hY => List.mem_singleton.1 hY, by omega, by rw [List.length_append, h.len]; simp, ?_, .inl (by rw [List.length_append, h.len]; simp), by simp⟩
    rw [← h.len]; exact tAt_last T Z
  · rw [if_neg hp, if_neg hp]
    have hg := pos_get out r hp
    have hle := pos_le out r
    have ht : tAt T (pos out r) = Z := by
      obtain ⟨k, hk⟩ : ∃ k, pos out r = k + 1 := ⟨pos out r - 1, by omega⟩
      rw [hk, Nat.add_sub_cancel] at hg
      rw [hk] at hle ⊢
      have e : tAt T ((k + 1 : Nat) : Int) = tx out k := by unfold tAt; rw [← h.tx, show (((k + 1 : Nat) : Int) - 1).toNat = k by omega]; rfl
      rw [e, tx_eq hg, h.tx, ← hx]
      rcases rule_way' h.code hg with ⟨lt, rfl⟩ | ⟨a, b, rfl, ha, hb⟩ | ⟨a, tm, rfl, ha, htm⟩
      · rfl
      · unfold tx1
        simp only [if_true]
        rw [one_sub, one_sub]
        rw [getD_take ha, getD_take hb]
      · unfold tx1
        rw [if_neg (by simp), if_pos rfl, if_neg (by simp), if_pos rfl]
        simp only []
        rw [one_sub, getD_take ha]
    refine ⟨[], by rw [List.append_nil]; exact h, by simp, by omega, by rw [List.append_nil, h.len]; omega, by rw [List.append_nil]; exact ht, .inr ?_, by omega⟩
    rw [← ht]; exact tAt_mem (by omega) (by rw [h.len]; omega)
/-- a row of rules' numbers, and the text they make -/
def Rw (T : List (List Int)) (ids : List Int) (b : List Int) : Prop := (∀ i ∈ ids, 1 ≤ i ∧ i ≤ T.length ∧ tAt T i ≠ []) ∧ ids.flatMap (tAt T) = b
theorem flat_app {T : List (List Int)} : ∀ {ids : List Int} (S : List (List Int)), (∀ i ∈ ids, 1 ≤ i ∧ i ≤ (T.length : Int)) → ids.flatMap (tAt (T ++ S)) = ids.flatMap (tAt T)
  | [], _, _ => rfl
  | i :: ids, S, h => by
    have h1 := h i (by simp)
    rw [List.flatMap_cons, List.flatMap_cons, tAt_app T S h1.1 h1.2, flat_app S fun j hj => h j (by simp [hj])]
theorem Rw.app {T : List (List Int)} {ids b : List Int} (h : Rw T ids b) (S : List (List Int)) : Rw (T ++ S) ids b := by
  refine ⟨fun i hi => ?_, ?_⟩
  · have := h.1 i hi
    exact ⟨this.1, by rw [List.length_append]; omega, by rw [tAt_app T S this.1 this.2.1]; exact this.2.2⟩
  · rw [flat_app S fun j hj => ⟨(h.1 j hj).1, (h.1 j hj).2.1⟩]; exact h.2
theorem Rw.snoc {T : List (List Int)} {ids b : List Int} (h : Rw T ids b) {i : Int} (h1 : 1 ≤ i) (h2 : i ≤ T.length) (h3 : tAt T i ≠ []) : Rw T (ids ++ [i]) (b ++ tAt T i) := by
  refine ⟨fun j hj => ?_, ?_⟩
  · rcases List.mem_append.1 hj with hj | hj
    · exact h.1 j hj
    · rw [List.mem_singleton.1 hj]; exact ⟨h1, h2, h3⟩
  · rw [List.flatMap_append, h.2]; simp
/-- behind i letters -/
structure Lts (b : List Int) (out : List Rl) (T : List (List Int)) (ids : List Int) (i : Nat) : Prop where
  tg : Tg out T
  rw_ : Rw T ids (b.take i)
  nl : ids.length = i
  ln : out.length ≤ i
  sm : ∀ Z ∈ T, Z.length = 1
  fin : i = 1 → ids = [(T.length : Int)]
/-- at the head of the loop over the rows -/
structure Hd (b : List Int) (out : List Rl) (T : List (List Int)) (ids : List Int) : Prop where
  tg : Tg out T
  rw_ : Rw T ids b
  ln : out.length + ids.length ≤ 2 * b.length
  sm : 2 ≤ ids.length → ∀ Z ∈ T, Z.length < b.length
  fin : ids.length = 1 → ids = [(T.length : Int)]
/-- behind j pairs of a row -/
structure Prs (b : List Int) (ids : List Int) (out : List Rl) (T : List (List Int)) (nxt : List Int) (j : Nat) : Prop where
  tg : Tg out T
  rw_ : Rw T ids b
  rw1 : Rw T nxt ((ids.take (2 * j)).flatMap (tAt T))
  nl : nxt.length = j
  ln : out.length + ids.length ≤ 2 * b.length + j
  sm : (3 ≤ ids.length ∨ j = 0) → ∀ Z ∈ T, Z.length < b.length
  fin : ids.length = 2 → j = 1 → nxt = [(T.length : Int)]
theorem lts_start (b : List Int) : Lts b [] [] [] 0 := ⟨tg_nil, ⟨by simp, by simp⟩, rfl, by simp, by simp, by simp⟩
theorem lts_step {b : List Int} {out : List Rl} {T : List (List Int)} {ids : List Int} {i : Nat} {x : Int} (h : Lts b out T ids i) (hx : b[i]? = some x) (x0 : 0 ≤ x) (x1 : x ≤ 255) :
    (⟨1, x, 0, 0, 0⟩ : Rl).Ok ∧ ∃ T', Lts b (inOut out ⟨1, x, 0, 0, 0⟩) T' (ids ++ [inId out ⟨1, x, 0, 0, 0⟩]) (i + 1) := by
  have ho : (⟨1, x, 0, 0, 0⟩ : Rl).Ok := by show RuleOk 1 x 0 0 0; constructor <;> omega
  refine ⟨ho, ?_⟩
  obtain ⟨S, h1, h2, h3, h4, h5, h6, h7⟩ := tg_in h.tg (Z := [x]) ho (rc_letter _ _ (by omega)) (len1_letter _ rfl) rfl (by simp)
  refine ⟨T ++ S, h1, ?_, by rw [List.length_append, h.nl]; rfl, by have := h.ln; omega, ?_, ?_⟩
  · have := (h.rw_.app S).snoc h3 h4 (by rw [h5]; simp)
    rw [h5] at this
    have e : b.take (i + 1) = b.take i ++ [x] := by rw [List.take_add_one, hx]; rfl
    rw [e]; exact this
  · intro Z hZ
    rcases List.mem_append.1 hZ with hZ | hZ
    · exact h.sm Z hZ
    · rw [h2 Z hZ]; rfl
  · intro e
    obtain rfl : i = 0 := by omega
    have hi : ids = [] := List.eq_nil_of_length_eq_zero h.nl
    have hT : T = [] := List.eq_nil_of_length_eq_zero (by rw [h.tg.len]; have := h.ln; omega)
    rw [hi, List.nil_append]
    rcases h6 with h6 | h6
    · rw [h6]
    · rw [hT] at h6; simp at h6
theorem lts_end {b : List Int} {out : List Rl} {T : List (List Int)} {ids : List Int} {n : Nat} (hn : b.length = n) (h : Lts b out T ids n) : Hd b out T ids := by
  refine ⟨h.tg, ?_, by have := h.ln; have := h.nl; omega, fun h2 Z hZ => by rw [h.sm Z hZ]; have := h.nl; omega, fun h1 => h.fin (by have := h.nl; omega)⟩
  have := h.rw_
  rw [List.take_of_length_le (by omega)] at this
  exact this
theorem prs_start {b : List Int} {out : List Rl} {T : List (List Int)} {ids : List Int} (h : Hd b out T ids) (h2 : 2 ≤ ids.length) : Prs b ids out T [] 0 :=
  ⟨h.tg, h.rw_, ⟨by simp, by simp⟩, rfl, by have := h.ln; omega, fun _ => h.sm h2, by simp⟩
theorem take_two {l : List Int} {k : Nat} {x y : Int} (hx : l[k]? = some x) (hy : l[k + 1]? = some y) : l.take (k + 2) = l.take k ++ [x, y] := by
  rw [show k + 2 = k + 1 + 1 by omega, List.take_add_one, hy, List.take_add_one, hx]
  simp
theorem flat_split {T : List (List Int)} {l : List Int} {k : Nat} {x y : Int} (hx : l[k]? = some x) (hy : l[k + 1]? = some y) : l.flatMap (tAt T) = (l.take k).flatMap (tAt T) ++ (tAt T x ++ tAt T y) ++ (l.drop (k + 2)).flatMap (tAt T) := by
  have e : l = l.take k ++ [x, y] ++ l.drop (k + 2) := by rw [← take_two hx hy, List.take_append_drop]
  conv => lhs; rw [e]
  rw [List.flatMap_append, List.flatMap_append]
  simp
theorem flat_pos {T : List (List Int)} : ∀ {l : List Int}, (∀ i ∈ l, tAt T i ≠ []) → l ≠ [] → 1 ≤ (l.flatMap (tAt T)).length
  | [], _, h => absurd rfl h
  | i :: l, h, _ => by
    have := h i (by simp)
    rw [List.flatMap_cons, List.length_append]
    have : 1 ≤ (tAt T i).length := by
      cases e : tAt T i with
      | nil => exact absurd e this
      | cons a l => simp
    omega
theorem map_len_at (T : List (List Int)) (i : Int) : (T.map fun Z => (Z.length : Int)).getD (i - 1).toNat 0 = (tAt T i).length := by
  unfold tAt
  rw [List.getD_eq_getElem?_getD, List.getD_eq_getElem?_getD, List.getElem?_map]
  cases T[(i - 1).toNat]? <;> rfl
theorem prs_step {b : List Int} {ids : List Int} {out : List Rl} {T : List (List Int)} {nxt : List Int} {j : Nat} {x y : Int} (h : Prs b ids out T nxt j) (hb : b.length ≤ 65536) (hx : ids[2 * j]? = some x) (hy : ids[2 * j + 1]? = some y) :
    (⟨2, 0, x, y, 0⟩ : Rl).Ok ∧ ∃ T', Prs b ids (inOut out ⟨2, 0, x, y, 0⟩) T' (nxt ++ [inId out ⟨2, 0, x, y, 0⟩]) (j + 1) := by
  have hxm := h.rw_.1 x (List.mem_of_getElem? hx)
  have hym := h.rw_.1 y (List.mem_of_getElem? hy)
  have hle := (List.getElem?_eq_some_iff.1 hy).1
  have hlen := h.tg.len
  have hln := h.ln
  have hn := h.nl
  have ho : (⟨2, 0, x, y, 0⟩ : Rl).Ok := by show RuleOk 2 0 x y 0; constructor <;> omega
  refine ⟨ho, ?_⟩
  have hsplit := flat_split (T := T) hx hy
  rw [h.rw_.2] at hsplit
  have hbl : b.length = ((ids.take (2 * j)).flatMap (tAt T)).length + ((tAt T x).length + (tAt T y).length) + ((ids.drop (2 * j + 2)).flatMap (tAt T)).length := by
    rw [hsplit]; simp only [List.length_append]
  obtain ⟨S, h1, h2, h3, h4, h5, h6, h7⟩ := tg_in h.tg (r := ⟨2, 0, x, y, 0⟩) (Z := tAt T x ++ tAt T y) ho (rc_pair _ _ _ (by omega) (by omega) (by omega) (by omega)) (by
      rw [len1_pair _ rfl]
      show lenAdd ((T.map fun Z => (Z.length : Int)).getD (x - 1).toNat 0) ((T.map fun Z => (Z.length : Int)).getD (y - 1).toNat 0) = _
      rw [map_len_at, map_len_at, lenAdd_small (by omega) (by omega) (by omega) (by omega), List.length_append]; simp) (by unfold tx1; rw [if_pos rfl]; rfl) (by rw [List.length_append]; omega)
  refine ⟨T ++ S, h1, h.rw_.app S, ?_, by rw [List.length_append, hn]; rfl, by omega, ?_, ?_⟩
  · have := (h.rw1.app S).snoc h3 h4 (by rw [h5]; simp [hxm.2.2])
    rw [h5] at this
    have e : (ids.take (2 * (j + 1))).flatMap (tAt (T ++ S)) = (ids.take (2 * j)).flatMap (tAt T) ++ (tAt T x ++ tAt T y) := by
      rw [flat_app S fun i hi => by have := h.rw_.1 i (List.mem_of_mem_take hi); exact ⟨this.1, this.2.1⟩]
      rw [show 2 * (j + 1) = 2 * j + 2 by omega, take_two hx hy, List.flatMap_append]; simp
    rw [e]; exact this
  · intro h3'
    have h3l : 3 ≤ ids.length := by rcases h3' with h3' | h3' <;> omega
    intro Z hZ
    rcases List.mem_append.1 hZ with hZ | hZ
    · exact h.sm (.inl h3l) Z hZ
    · rw [h2 Z hZ, List.length_append]
      by_cases hj : j = 0
      · have := flat_pos (T := T) (l := ids.drop (2 * j + 2)) (fun i hi => (h.rw_.1 i (List.mem_of_mem_drop hi)).2.2) (fun e => by have := congrArg List.length e; rw [List.length_drop, List.length_nil] at this; omega)
        omega
      · have := flat_pos (T := T) (l := ids.take (2 * j)) (fun i hi => (h.rw_.1 i (List.mem_of_mem_take hi)).2.2) (fun e => by have := congrArg List.length e; rw [List.length_take, List.length_nil] at this; omega)
        omega
  · intro e2 ej
    obtain rfl : j = 0 := by omega
    have hi : nxt = [] := List.eq_nil_of_length_eq_zero hn
    rw [hi, List.nil_append]
    rcases h6 with h6 | h6
    · rw [h6]
    · have := h.sm (.inr rfl) _ h6
      rw [List.length_append] at this
      have e : ids.drop (2 * 0 + 2) = [] := List.drop_eq_nil_of_le (by omega)
      rw [e] at hbl
      simp at hbl
      omega
theorem prs_even {b : List Int} {ids : List Int} {out : List Rl} {T : List (List Int)} {nxt : List Int} {j : Nat} (h : Prs b ids out T nxt j) (he : ids.length = 2 * j) : Hd b out T nxt := by
  have hn := h.nl
  have hl := h.ln
  refine ⟨h.tg, ?_, by omega, fun h2 => h.sm (.inl (by omega)), fun h1 => h.fin (by omega) (by omega)⟩
  have := h.rw1
  rw [List.take_of_length_le (by omega), h.rw_.2] at this
  exact this
theorem prs_odd {b : List Int} {ids : List Int} {out : List Rl} {T : List (List Int)} {nxt : List Int} {j : Nat} {x : Int} (h : Prs b ids out T nxt j) (he : ids.length = 2 * j + 1) (h1 : 1 ≤ j) (hx : ids[2 * j]? = some x) : Hd b out T (nxt ++ [x]) := by
  have hn := h.nl
  have hl := h.ln
  have hxm := h.rw_.1 x (List.mem_of_getElem? hx)
  refine ⟨h.tg, ?_, by rw [List.length_append, List.length_singleton]; omega, fun h2 => h.sm (.inl (by omega)), fun h1 => by rw [List.length_append, List.length_singleton] at h1; omega⟩
  have := h.rw1.snoc hxm.1 hxm.2.1 hxm.2.2
  have e : (ids.take (2 * j)).flatMap (tAt T) ++ tAt T x = b := by
    rw [← h.rw_.2]
    have e2 : ids = ids.take (2 * j) ++ [x] := by
      have := List.take_add_one (l := ids) (i := 2 * j)
      rw [hx, List.take_of_length_le (by omega)] at this
      exact this
    conv => rhs; rw [e2]
    rw [List.flatMap_append]; simp
  rw [e] at this; exact this
theorem hd_end {b : List Int} {out : List Rl} {T : List (List Int)} {ids : List Int} (h : Hd b out T ids) (h1 : ids.length ≤ 1) : Good out b ∧ (b = [] → out = []) ∧ out.length ≤ 2 * b.length ∧ ∀ r ∈ out, r.Ok := by
  have hl := h.ln
  refine ⟨⟨h.tg.code, by rw [lens_ok h.tg.code, h.tg.ln], ?_, ?_⟩, fun e => ?_, by omega, h.tg.ok⟩
  · intro e
    have hT : T.length = 0 := by rw [h.tg.len]; exact e
    have hi : ids = [] := by
      cases ids with
      | nil => rfl
      | cons i ids => have := h.rw_.1 i (by simp); omega
    have := h.rw_.2
    rw [hi] at this; exact this.symm
  · intro e
    have h0 : ids.length = 1 := by
      by_cases h0 : ids.length = 1
      · exact h0
      · have hi : ids = [] := List.eq_nil_of_length_eq_zero (by omega)
        have := h.rw_.2
        rw [hi] at this
        rw [← this] at hl; simp at hl
        rw [hl.1] at e; simp at e
    have hf := h.fin h0
    have := h.rw_.2
    rw [hf] at this
    rw [← this]
    show tAt T T.length ++ [] = _
    rw [List.append_nil]
    unfold tAt tx
    rw [h.tg.tx, h.tg.len, show ((out.length : Int) - 1).toNat = out.length - 1 by omega]
  · rw [e] at hl
    exact List.eq_nil_of_length_eq_zero (by rw [List.length_nil] at hl; omega)
end Go.Proofs.Ytcbahojefglakaa
