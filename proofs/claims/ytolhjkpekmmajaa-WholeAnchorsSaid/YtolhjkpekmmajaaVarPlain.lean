/- Plain laws of the encoding of numbers: seven bits a byte, the lowest first; nothing of the program. -/
namespace Go.Proofs.Ytolhjkpekmmajaa
def U8s (l : List Int) : Prop := ∀ x ∈ l, 0 ≤ x ∧ x ≤ 255
theorem U8s.nil : U8s [] := fun x h => by simp at h
theorem U8s.app {a b : List Int} (ha : U8s a) (hb : U8s b) : U8s (a ++ b) := fun x h => (List.mem_append.1 h).elim (ha x) (hb x)
theorem U8s.drop {a : List Int} (ha : U8s a) (k : Nat) : U8s (a.drop k) := fun x h => ha x (List.mem_of_mem_drop h)
theorem U8s.take {a : List Int} (ha : U8s a) (k : Nat) : U8s (a.take k) := fun x h => ha x (List.mem_of_mem_take h)
theorem U8s.one {x : Int} (h0 : 0 ≤ x) (h1 : x ≤ 255) : U8s [x] := fun y h => by simp at h; omega
/-- the bytes of a number -/
def vput (n : Nat) : List Int := if n < 128 then [(n : Int)] else ((n % 128 + 128 : Nat) : Int) :: vput (n / 128)
termination_by n
decreasing_by omega
theorem vput_lt {n : Nat} (h : n < 128) : vput n = [(n : Int)] := by rw [vput, if_pos h]
theorem vput_ge {n : Nat} (h : ¬ n < 128) : vput n = ((n % 128 + 128 : Nat) : Int) :: vput (n / 128) := by rw [vput, if_neg h]
theorem vput_len (k : Nat) : ∀ n, n < 128 ^ (k + 1) → 1 ≤ (vput n).length ∧ (vput n).length ≤ k + 1 := by
  induction k with
  | zero => intro n h; rw [vput_lt (by simpa using h)]; simp
  | succ k ih =>
    intro n h
    by_cases hn : n < 128
    · rw [vput_lt hn]; simp
    · rw [vput_ge hn]
      have hd : n / 128 < 128 ^ (k + 1) := by
        rw [Nat.div_lt_iff_lt_mul (by omega)]
        rw [Nat.pow_succ] at h; exact h
      have := ih _ hd
      simp only [List.length_cons]; omega
theorem vput_u8 (n : Nat) : U8s (vput n) := by
  induction n using Nat.strongRecOn with
  | _ n ih =>
    by_cases hn : n < 128
    · rw [vput_lt hn]; intro x hx; simp at hx; omega
    · rw [vput_ge hn]
      intro x hx
      rcases List.mem_cons.1 hx with h | h
      · omega
      · exact ih _ (by omega) x h
/-- the number that a list of bytes begins with, in at most f bytes, and how many it has; 'first': no byte stands before -/
def vt : Nat → Bool → List Int → Option (Nat × Nat)
  | 0, _, _ => none
  | _ + 1, _, [] => none
  | f + 1, first, x :: xs => if x < 128 then (if x = 0 ∧ first = false then none else some (x.toNat, 1)) else (vt f false xs).map fun p => (x.toNat % 128 + 128 * p.1, p.2 + 1)
theorem vt_back (f : Nat) : ∀ (first : Bool) (n : Nat) (rest : List Int), n < 128 ^ f → ((0 < f ∧ first = true) ∨ n ≠ 0) → vt f first (vput n ++ rest) = some (n, (vput n).length) := by
  induction f with
  | zero => intro first n rest h h1; simp at h; omega
  | succ f ih =>
    intro first n rest h h1
    by_cases hn : n < 128
    · rw [vput_lt hn]
      show (if (n : Int) < 128 then _ else _) = _
      have h2 : ¬ ((n : Int) = 0 ∧ first = false) := by
        rintro ⟨a, b⟩
        rcases h1 with h1 | h1
        · have h5 := h1.2; rw [b] at h5; cases h5
        · omega
      have h3 : (n : Int) < 128 := by omega
      rw [if_pos h3, if_neg h2]
      simp
    · rw [vput_ge hn]
      show (if ((n % 128 + 128 : Nat) : Int) < 128 then _ else (vt f false (vput (n / 128) ++ rest)).map _) = _
      have hd : n / 128 < 128 ^ f := by
        rw [Nat.div_lt_iff_lt_mul (by omega)]
        rw [Nat.pow_succ] at h; exact h
      rw [if_neg (by omega), ih false (n / 128) rest hd (.inr (by omega))]
      simp only [Option.map_some, Int.toNat_natCast, List.length_cons, Option.some.injEq, Prod.mk.injEq, and_true]
      omega
theorem vt_only (f : Nat) : ∀ (first : Bool) (l : List Int) (n k : Nat), U8s l → vt f first l = some (n, k) →
    l.take k = vput n ∧ 0 < k ∧ k ≤ l.length ∧ k ≤ f ∧ n < 128 ^ f ∧ (first = true ∨ n ≠ 0) ∧ ∀ j, j < k → vt f first (l.take j) = none := by
  induction f with
  | zero => intro first l n k _ h; cases h
  | succ f ih =>
    intro first l n k hu h
    match l with
    | [] => cases h
    | x :: xs =>
      have hx := hu x (by simp)
      have hus : U8s xs := fun y hy => hu y (List.mem_cons_of_mem _ hy)
      have h' : (if x < 128 then (if x = 0 ∧ first = false then none else some (x.toNat, 1)) else (vt f false xs).map fun p => (x.toNat % 128 + 128 * p.1, p.2 + 1)) = some (n, k) := h
      have pp : 1 ≤ 128 ^ f := Nat.le_trans (Nat.one_le_two_pow (n := f)) (Nat.pow_le_pow_left (by omega) f)
      by_cases hlt : x < 128
      · rw [if_pos hlt] at h'
        by_cases hz : x = 0 ∧ first = false
        · rw [if_pos hz] at h'; cases h'
        · rw [if_neg hz] at h'
          simp only [Option.some.injEq, Prod.mk.injEq] at h'
          obtain ⟨rfl, rfl⟩ := h'
          have e : ((x.toNat : Nat) : Int) = x := by omega
          refine ⟨by rw [vput_lt (by omega), e]; rfl, by omega, by simp, by omega, by rw [Nat.pow_succ]; omega, ?_, fun j hj => ?_⟩
          · by_cases hf : first = true
            · exact .inl hf
            · exact .inr fun h0 => hz ⟨by omega, by simpa using hf⟩
          · obtain rfl : j = 0 := by omega
            rfl
      · rw [if_neg hlt] at h'
        match hv : vt f false xs with
        | none => rw [hv] at h'; cases h'
        | some (m, i) =>
          rw [hv] at h'
          simp only [Option.map_some, Option.some.injEq, Prod.mk.injEq] at h'
          obtain ⟨rfl, rfl⟩ := h'
          obtain ⟨h1, h2, h3, h4, h5, h6, h7⟩ := ih false xs m i hus hv
          have hm : m ≠ 0 := h6.resolve_left (by simp)
          have em : (x.toNat % 128 + 128 * m) / 128 = m := by omega
          have er : (x.toNat % 128 + 128 * m) % 128 = x.toNat % 128 := by omega
          refine ⟨?_, by omega, by simp; omega, by omega, by rw [Nat.pow_succ]; omega, .inr (by omega), fun j hj => ?_⟩
          · rw [vput_ge (by omega), em, er, List.take_succ_cons, h1]
            congr 1
            omega
          · match j with
            | 0 => rfl
            | j + 1 =>
              show (if x < 128 then _ else (vt f false (xs.take j)).map _) = none
              rw [if_neg hlt, h7 j (by omega)]; rfl
/-- one byte further: a byte of 128 and more -/
theorem vt_more (f : Nat) (first : Bool) (l : List Int) (i : Nat) (x : Int) (h : l[i]? = some x) (hx : ¬ x < 128) :
    vt (f + 1) first (l.drop i) = (vt f false (l.drop (i + 1))).map fun p => (x.toNat % 128 + 128 * p.1, p.2 + 1) := by
  obtain ⟨hi, e⟩ := List.getElem?_eq_some_iff.1 h
  rw [List.drop_eq_getElem_cons hi, e]
  show (if x < 128 then _ else _) = _
  rw [if_neg hx]
theorem vt_last (f : Nat) (first : Bool) (l : List Int) (i : Nat) (x : Int) (h : l[i]? = some x) (hx : x < 128) :
    vt (f + 1) first (l.drop i) = if x = 0 ∧ first = false then none else some (x.toNat, 1) := by
  obtain ⟨hi, e⟩ := List.getElem?_eq_some_iff.1 h
  rw [List.drop_eq_getElem_cons hi, e]
  show (if x < 128 then _ else _) = _
  rw [if_pos hx]
theorem vt_end (f : Nat) (first : Bool) (l : List Int) (i : Nat) (h : l.length ≤ i) : vt f first (l.drop i) = none := by
  rw [List.drop_eq_nil_of_le h]
  cases f <;> rfl
/-- the state of a loop that reads: n comes of the first i bytes -/
def VtAt (l : List Int) (i n : Nat) : Prop := n < 128 ^ i ∧ vt 9 true l = (vt (9 - i) (i == 0) (l.drop i)).map fun p => (n + 128 ^ i * p.1, p.2 + i)
theorem VtAt.start (l : List Int) : VtAt l 0 0 := by
  refine ⟨by simp, ?_⟩
  simp only [Nat.sub_zero, beq_self_eq_true, List.drop_zero, Nat.pow_zero, Nat.one_mul, Nat.zero_add, Nat.add_zero]
  cases vt 9 true l <;> rfl
theorem VtAt.more {l : List Int} {i n : Nat} (h : VtAt l i n) (hi : i < 9) {x : Int} (hx : l[i]? = some x) (h1 : ¬ x < 128) : VtAt l (i + 1) (n + x.toNat % 128 * 128 ^ i) := by
  obtain ⟨h2, h3⟩ := h
  have e : 9 - i = (9 - (i + 1)) + 1 := by omega
  refine ⟨?_, ?_⟩
  · rw [Nat.pow_succ]
    have : x.toNat % 128 * 128 ^ i ≤ 127 * 128 ^ i := Nat.mul_le_mul_right _ (by omega)
    omega
  · rw [h3, e, vt_more _ _ l i x hx h1, Option.map_map]
    have eb : (i + 1 == 0) = false := rfl
    rw [eb]
    congr 1
    funext p
    simp only [Function.comp, Prod.mk.injEq]
    refine ⟨?_, by omega⟩
    rw [Nat.pow_succ, Nat.mul_add, Nat.mul_assoc, Nat.mul_comm (128 ^ i) (x.toNat % 128)]
    omega
theorem VtAt.last {l : List Int} {i n : Nat} (h : VtAt l i n) (hi : i < 9) {x : Int} (hx : l[i]? = some x) (h1 : x < 128) :
    vt 9 true l = if x = 0 ∧ 0 < i then none else some (n + x.toNat * 128 ^ i, i + 1) := by
  obtain ⟨h2, h3⟩ := h
  have e : 9 - i = (9 - (i + 1)) + 1 := by omega
  rw [h3, e, vt_last _ _ l i x hx h1]
  by_cases hc : x = 0 ∧ 0 < i
  · rw [if_pos hc, if_pos ⟨hc.1, by simp; omega⟩]; rfl
  · rw [if_neg hc, if_neg (fun hd => hc ⟨hd.1, by have := hd.2; simp at this; omega⟩)]
    simp only [Option.map_some, Option.some.injEq, Prod.mk.injEq]
    exact ⟨by rw [Nat.mul_comm], by omega⟩
theorem VtAt.none {l : List Int} {i n : Nat} (h : VtAt l i n) (hi : 9 ≤ i ∨ l.length ≤ i) : vt 9 true l = none := by
  obtain ⟨h2, h3⟩ := h
  rw [h3]
  rcases hi with hi | hi
  · rw [show 9 - i = 0 by omega]; rfl
  · rw [vt_end _ _ _ _ hi]; rfl
end Go.Proofs.Ytolhjkpekmmajaa
