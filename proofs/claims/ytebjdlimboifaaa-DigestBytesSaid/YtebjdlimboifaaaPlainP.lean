/- Plain arithmetic modulo P = 2^61 - 1: 37 generates the units, so every a with a % P /= 0 has a^(P-1) % P = 1. No program in sight. -/
namespace Go.Proofs.Ytebjdlimboifaaa.PlainP
def P : Nat := 2305843009213693951

/-- a^n % P by squaring, with fuel. -/
def pw : Nat → Nat → Nat → Nat
  | 0, _, _ => 1
  | f + 1, a, n => if n = 0 then 1 else if n % 2 = 1 then a * pw f (a * a % P) (n / 2) % P else pw f (a * a % P) (n / 2)

theorem pw_eq : ∀ f a n, n < 2 ^ f → pw f a n % P = a ^ n % P := by
  intro f
  induction f with
  | zero => intro a n h; have : n = 0 := by simpa using h
            subst this; rfl
  | succ f ih =>
    intro a n h
    have h2 : n / 2 < 2 ^ f := by rw [Nat.pow_succ] at h; omega
    have e := ih (a * a % P) (n / 2) h2
    have e2 : (a * a % P) ^ (n / 2) % P = a ^ (2 * (n / 2)) % P := by
      rw [← Nat.pow_mod, ← Nat.pow_two, ← Nat.pow_mul]
    unfold pw
    by_cases h0 : n = 0
    · subst h0; rfl
    · rw [if_neg h0]
      by_cases h1 : n % 2 = 1
      · rw [if_pos h1, Nat.mod_mod, Nat.mul_mod, e, e2]
        have hn : n = 2 * (n / 2) + 1 := by omega
        have : a ^ n % P = (a * a ^ (2 * (n / 2))) % P := by
          conv => lhs; rw [hn, Nat.pow_succ, Nat.mul_comm]
        rw [this, Nat.mul_mod a (a ^ (2 * (n / 2)))]
      · rw [if_neg h1, e, e2]
        have hn : n = 2 * (n / 2) := by omega
        rw [← hn]

def qs : List Nat := [2, 3, 3, 5, 5, 7, 11, 13, 31, 41, 61, 151, 331, 1321]
theorem qs_prod : qs.foldr (· * ·) 1 = P - 1 := by decide +kernel
theorem qs_prime : ∀ q ∈ qs, 1 < q ∧ ∀ k, k < q → 1 < k → q % k ≠ 0 := by decide +kernel
theorem qs_pow : ∀ q ∈ qs, pw 61 37 ((P - 1) / q) % P ≠ 1 ∧ (P - 1) % q = 0 ∧ (P - 1) / q < 2 ^ 61 := by decide +kernel
theorem pow_all : pw 61 37 (P - 1) % P = 1 ∧ P - 1 < 2 ^ 61 := by decide +kernel

theorem g_pow : 37 ^ (P - 1) % P = 1 := by rw [← pw_eq 61 37 (P - 1) pow_all.2]; exact pow_all.1
theorem g_pow_q (q : Nat) (h : q ∈ qs) : 37 ^ ((P - 1) / q) % P ≠ 1 := by
  rw [← pw_eq 61 37 _ (qs_pow q h).2.2]; exact (qs_pow q h).1

/-- a number above 1 that divides a product of the primes is met by one of them. -/
theorem some_q (m : Nat) (hm : 1 < m) : ∀ l : List Nat, (∀ q ∈ l, q ∈ qs) → m ∣ l.foldr (· * ·) 1 → ∃ q ∈ l, q ∣ m := by
  intro l
  induction l with
  | nil => intro _ h
           have : m = 1 := by simpa using h
           omega
  | cons q l ih =>
    intro hq h
    by_cases hg : Nat.gcd m q = 1
    · have : m ∣ l.foldr (· * ·) 1 := Nat.Coprime.dvd_of_dvd_mul_left (n := l.foldr (· * ·) 1) (m := q) hg h
      obtain ⟨x, hx, hd⟩ := ih (fun y hy => hq y (List.mem_cons_of_mem _ hy)) this
      exact ⟨x, List.mem_cons_of_mem _ hx, hd⟩
    · refine ⟨q, List.mem_cons_self, ?_⟩
      have hp := qs_prime q (hq q List.mem_cons_self)
      have d1 : Nat.gcd m q ∣ q := Nat.gcd_dvd_right m q
      have d2 : Nat.gcd m q ∣ m := Nat.gcd_dvd_left m q
      have hpos : 0 < Nat.gcd m q := Nat.gcd_pos_of_pos_left _ (by omega)
      have hle : Nat.gcd m q ≤ q := Nat.le_of_dvd (by omega) d1
      have : Nat.gcd m q = q := by
        rcases Nat.lt_or_ge (Nat.gcd m q) q with hl | hl
        · exact absurd (Nat.mod_eq_zero_of_dvd d1) (hp.2 _ hl (by omega))
        · omega
      rwa [this] at d2

theorem P_big : 1 < P := by decide

theorem pow_add_mod (a m n : Nat) : a ^ (m + n) % P = (a ^ m % P) * (a ^ n % P) % P := by rw [Nat.pow_add, Nat.mul_mod]
theorem pow_mul_one (d k : Nat) (h : 37 ^ d % P = 1) : 37 ^ (d * k) % P = 1 := by
  rw [Nat.pow_mul, Nat.pow_mod, h, Nat.one_pow]; rfl

/-- 37 can be cancelled. -/
theorem cancel (i j : Nat) (h : i ≤ j) (hj : j ≤ P - 1) (e : 37 ^ i % P = 37 ^ j % P) : 37 ^ (j - i) % P = 1 := by
  have h1 : 37 ^ (P - 1 - i + i) % P = 37 ^ (P - 1 - i + j) % P := by rw [pow_add_mod, e, ← pow_add_mod]
  rw [show P - 1 - i + i = P - 1 from by omega, show P - 1 - i + j = (P - 1) + (j - i) from by omega, g_pow, pow_add_mod, g_pow] at h1
  have : 37 ^ (j - i) % P < P := Nat.mod_lt _ (by decide)
  rw [Nat.one_mul, Nat.mod_eq_of_lt this] at h1
  exact h1.symm

/-- the order of 37: from 37^d = 1 comes 37^gcd = 1. -/
theorem gcd_one (a b : Nat) : (37 ^ a % P = 1) → (37 ^ b % P = 1) → 37 ^ (Nat.gcd a b) % P = 1 := by
  induction a, b using Nat.gcd.induction with
  | H0 n => intro _ h; rwa [Nat.gcd_zero_left]
  | H1 m n hm ih =>
    intro hma hnb
    rw [Nat.gcd_rec]
    refine ih ?_ hma
    have h := hnb
    rw [← Nat.div_add_mod n m, pow_add_mod, pow_mul_one m _ hma, Nat.one_mul, Nat.mod_mod] at h
    exact h

theorem order (d : Nat) (h0 : 0 < d) (hd : d < P - 1) : 37 ^ d % P ≠ 1 := by
  intro h
  have hg := gcd_one d (P - 1) h g_pow
  have hd1 : Nat.gcd d (P - 1) ∣ P - 1 := Nat.gcd_dvd_right _ _
  have hle : Nat.gcd d (P - 1) ≤ d := Nat.le_of_dvd h0 (Nat.gcd_dvd_left _ _)
  have hpos : 0 < Nat.gcd d (P - 1) := Nat.gcd_pos_of_pos_left _ h0
  obtain ⟨m, hm⟩ := hd1
  have hm1 : 1 < m := by
    rcases Nat.lt_or_ge 1 m with h1 | h1
    · exact h1
    · have := Nat.mul_le_mul_left (Nat.gcd d (P - 1)) h1
      omega
  obtain ⟨q, hq, k, hk⟩ := some_q m hm1 qs (fun _ h => h) (by rw [qs_prod]; exact ⟨_, by rw [Nat.mul_comm]; exact hm⟩)
  have hqp := (qs_prime q hq).1
  have e : (P - 1) / q = Nat.gcd d (P - 1) * k := by
    apply Nat.div_eq_of_eq_mul_left (by omega)
    conv => lhs; rw [hm, hk]
    rw [Nat.mul_comm q k, Nat.mul_assoc]
  exact g_pow_q q hq (by rw [e]; exact pow_mul_one _ _ hg)

/-- an injection of the numbers below n into themselves meets each of them. -/
theorem surj : ∀ (n : Nat) (f : Nat → Nat), (∀ i, i < n → f i < n) → (∀ i j, i < n → j < n → f i = f j → i = j) → ∀ y, y < n → ∃ i, i < n ∧ f i = y := by
  intro n
  induction n with
  | zero => intro f _ _ y hy; omega
  | succ n ih =>
    intro f hf hi y hy
    by_cases hn : f n = n
    · by_cases hyn : y = n
      · exact ⟨n, by omega, by omega⟩
      · obtain ⟨i, h1, h2⟩ := ih f (fun i h => by
            have a := hf i (by omega)
            have b : f i ≠ n := fun e => by have := hi i n (by omega) (by omega) (by omega); omega
            omega) (fun i j a b => hi i j (by omega) (by omega)) y (by omega)
        exact ⟨i, by omega, h2⟩
    · have hc : f n < n := by have := hf n (by omega); omega
      have hg := ih (fun i => if f i = n then f n else f i) (fun i h => by
          have a := hf i (by omega)
          show (if f i = n then f n else f i) < n
          split <;> omega) (fun i j a b e => by
          have e' : (if f i = n then f n else f i) = (if f j = n then f n else f j) := e
          have inj := hi i j (by omega) (by omega)
          have i1 := hi i n (by omega) (by omega)
          have j1 := hi j n (by omega) (by omega)
          split at e' <;> split at e'
          · exact inj (by omega)
          · exact absurd (j1 e'.symm) (by omega)
          · exact absurd (i1 e') (by omega)
          · exact inj e')
      by_cases hyc : y = f n
      · exact ⟨n, by omega, hyc.symm⟩
      · by_cases hyn : y = n
        · obtain ⟨i, h1, h2⟩ := hg (f n) hc
          have h2' : (if f i = n then f n else f i) = f n := h2
          split at h2'
          · exact ⟨i, by omega, by omega⟩
          · have := hi i n (by omega) (by omega) h2'; omega
        · obtain ⟨i, h1, h2⟩ := hg y (by omega)
          have h2' : (if f i = n then f n else f i) = y := h2
          split at h2'
          · omega
          · exact ⟨i, by omega, h2'⟩

theorem g_pos (k : Nat) (hk : k ≤ P - 1) : 37 ^ k % P ≠ 0 := by
  intro h
  have h1 := g_pow
  rw [show P - 1 = k + (P - 1 - k) from by omega, pow_add_mod, h, Nat.zero_mul] at h1
  exact absurd h1 (by decide)

/-- every unit is a power of 37. -/
theorem is_pow (a : Nat) (ha : a % P ≠ 0) : ∃ k, a % P = 37 ^ k % P := by
  have hlt : a % P < P := Nat.mod_lt _ (by decide)
  have key : ∀ i j, i < P - 1 → j < P - 1 → i ≤ j → 37 ^ i % P = 37 ^ j % P → i = j := by
    intro i j hi hj hle e
    have := cancel i j hle (by omega) e
    rcases Nat.eq_zero_or_pos (j - i) with h0 | h0
    · omega
    · exact absurd this (order _ h0 (by omega))
  obtain ⟨i, _, h⟩ := surj (P - 1) (fun k => 37 ^ k % P - 1) (fun i hi => by
      have a := g_pos i (by omega)
      have b : 37 ^ i % P < P := Nat.mod_lt _ (by decide)
      show 37 ^ i % P - 1 < P - 1
      omega) (fun i j hi hj e => by
      have e' : 37 ^ i % P - 1 = 37 ^ j % P - 1 := e
      have a := g_pos i (by omega)
      have b := g_pos j (by omega)
      have e2 : 37 ^ i % P = 37 ^ j % P := by omega
      rcases Nat.le_total i j with h | h
      · exact key i j hi hj h e2
      · exact (key j i hj hi h e2.symm).symm) (a % P - 1) (by omega)
  have a1 := g_pos i (by omega)
  have h' : 37 ^ i % P - 1 = a % P - 1 := h
  exact ⟨i, by omega⟩

/-- a^(P-1) is 1 for every unit. -/
theorem unit_pow (a : Nat) (ha : a % P ≠ 0) : a ^ (P - 1) % P = 1 := by
  obtain ⟨k, hk⟩ := is_pow a ha
  rw [Nat.pow_mod, hk, ← Nat.pow_mod, ← Nat.pow_mul, Nat.mul_comm]
  exact pow_mul_one _ _ g_pow

/-- a^P is a. -/
theorem fermat (a : Nat) : a ^ P % P = a % P := by
  rw [show P = (P - 1) + 1 from by decide, Nat.pow_succ, show (P - 1) + 1 = P from by decide, Nat.mul_mod]
  by_cases h : a % P = 0
  · rw [h, Nat.mul_zero, Nat.zero_mod]
  · rw [unit_pow a h, Nat.one_mul, Nat.mod_mod]

/-- the inverse. -/
theorem inverse (a : Nat) (ha : a % P ≠ 0) : a ^ (P - 2) * a % P = 1 := by
  have h := unit_pow a ha
  rw [show P - 1 = (P - 2) + 1 from by decide, Nat.pow_succ] at h
  exact h

/-- the seventeenth power tells its base. -/
theorem pow17_of (d k : Nat) (hd : 17 * d = (P - 1) * k + 1) (a b : Nat) (h : a ^ 17 % P = b ^ 17 % P) : a % P = b % P := by
  have e : ∀ x : Nat, (x ^ 17) ^ d % P = x % P := by
    intro x
    rw [← Nat.pow_mul, hd, Nat.pow_succ, Nat.mul_mod]
    by_cases hx : x % P = 0
    · rw [hx, Nat.mul_zero, Nat.zero_mod]
    · have h1 : (x ^ ((P - 1) * k)) % P = 1 := by
        rw [Nat.pow_mul, Nat.pow_mod, unit_pow x hx, Nat.one_pow]; rfl
      rw [h1, Nat.one_mul, Nat.mod_mod]
  rw [← e a, ← e b, Nat.pow_mod, h, ← Nat.pow_mod]
theorem pow17 (a b : Nat) (h : a ^ 17 % P = b ^ 17 % P) : a % P = b % P := pow17_of 1763291712928118903 13 (by decide) a b h
end Go.Proofs.Ytebjdlimboifaaa.PlainP
