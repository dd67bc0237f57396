/- Plain laws: what was written is read; what is read was written so. -/
import Derived.Test.YtcbahojefglakaaRuleTk
import Derived.Test.YtcbahojefglakaaRulePutPlain
namespace Go.Proofs.Ytcbahojefglakaa
set_option linter.unusedVariables false
set_option linter.unusedSimpArgs false
theorem p9 : (128 : Nat) ^ 9 = 9223372036854775808 := by decide
theorem vt_ext {l : List Int} (hb : U8s l) {n k j : Nat} (h : vt 9 true l = some (n, k)) (hj : k ≤ j) : vt 9 true (l.take j) = some (n, k) := by
  obtain ⟨h1, h2, h3, h4, h5, h6, _⟩ := vt_only 9 true l n k hb h
  have e : l.take j = vput n ++ (l.take j).drop k := by
    rw [← h1]
    have : l.take k = (l.take j).take k := by rw [List.take_take, Nat.min_eq_left hj]
    rw [this, List.take_append_drop]
  have hk : (vput n).length = k := by rw [← h1, List.length_take]; omega
  rw [e, vt_back 9 true n _ h5 (.inl ⟨by omega, rfl⟩), hk]
theorem two_back (a b : Nat) (x : Int) (rest : List Int) (ha : a < 9223372036854775808) (hb : b < 9223372036854775808) :
    twoOf (([x] ++ vput a) ++ vput b ++ rest) = some (a, b, 1 + (vput a).length + (vput b).length) := by
  have e1 : (([x] ++ vput a) ++ vput b ++ rest).drop 1 = vput a ++ (vput b ++ rest) := by simp
  have e2 : (([x] ++ vput a) ++ vput b ++ rest).drop (1 + (vput a).length) = vput b ++ rest := by
    rw [Nat.add_comm 1, show (([x] ++ vput a) ++ vput b ++ rest) = x :: (vput a ++ (vput b ++ rest)) by simp, List.drop_succ_cons, List.drop_left']
    rfl
  unfold twoOf
  rw [e1, vt_back 9 true a _ (by rw [p9]; exact ha) (.inl ⟨by omega, rfl⟩)]
  simp only [Option.bind_some]
  rw [e2, vt_back 9 true b _ (by rw [p9]; exact hb) (.inl ⟨by omega, rfl⟩)]
  rfl
theorem tkR_pair {l : List Int} {n : Int} {x y q : Nat} (h : l[0]? = some 2) (t : twoOf l = some (x, y, q)) : tkR l n = if n < 1 then rzero 1 else tfin ⟨2, 0, n - x, n - y, 0⟩ q n := by
  match l, h with
  | k :: m, h =>
    simp at h
    subst h
    simp [tkR, t]
theorem tkR_power {l : List Int} {n : Int} {x y q : Nat} (h : l[0]? = some 3) (t : twoOf l = some (x, y, q)) (hy : (y : Int) ≤ 9223372036854775805) : tkR l n = if n < 1 then rzero 1 else tfin ⟨3, 0, n - x, 0, y + 2⟩ q n := by
  match l, h with
  | k :: m, h =>
    simp at h
    subst h
    have : ¬ 9223372036854775805 < y := by omega
    simp [tkR, t, this]
theorem tkR_none {l : List Int} {n : Int} (h : l[0]? = some 2 ∨ l[0]? = some 3) (t : twoOf l = none) : tkR l n = rzero 4 := by
  match l, h with
  | k :: m, h =>
    simp at h
    rcases h with h | h <;> (subst h; simp [tkR, t])
theorem tk_back (kd lt lf rg tm n : Int) (rest : List Int) (n1 : n ≤ 9223372036854775807) (t1 : tm ≤ 9223372036854775807) (h : checkCode kd lt lf rg tm n = 0) :
    tkR (encR kd lt lf rg tm n ++ rest) n = ((⟨kd, lt, lf, rg, tm⟩ : Rl), ((encR kd lt lf rg tm n).length : Int), (0 : Int)) := by
  obtain ⟨m1, ⟨rfl, rfl, rfl, rfl⟩ | ⟨rfl, rfl, rfl, a0, a1, b0, b1⟩ | ⟨rfl, rfl, rfl, b0, a0, a1⟩⟩ := valid_way h
  · show tfin ⟨1, lt, 0, 0, 0⟩ 2 n = _
    rw [tfin_yes (check_zero h).2]; rfl
  · have e : encR 2 0 lf rg 0 n = ([2] ++ vput (n - lf).toNat) ++ vput (n - rg).toNat := rfl
    have t := two_back (n - lf).toNat (n - rg).toNat 2 rest (by omega) (by omega)
    rw [e]
    rw [tkR_pair rfl t, if_neg (by omega), show n - ((n - lf).toNat : Int) = lf by omega, show n - ((n - rg).toNat : Int) = rg by omega, tfin_yes (check_zero h).2]
    simp; omega
  · have e : encR 3 0 lf 0 tm n = ([3] ++ vput (n - lf).toNat) ++ vput (tm - 2).toNat := rfl
    have t := two_back (n - lf).toNat (tm - 2).toNat 3 rest (by omega) (by omega)
    rw [e]
    rw [tkR_power rfl t (by omega), if_neg (by omega), show n - ((n - lf).toNat : Int) = lf by omega, show ((tm - 2).toNat : Int) + 2 = tm by omega, tfin_yes (check_zero h).2]
    simp; omega
theorem enc_len (kd lt lf rg tm n : Int) (n1 : n ≤ 9223372036854775807) (t1 : tm ≤ 9223372036854775807) (h : checkCode kd lt lf rg tm n = 0) : (encR kd lt lf rg tm n).length ≤ 21 := by
  obtain ⟨m1, ⟨rfl, rfl, rfl, rfl⟩ | ⟨rfl, rfl, rfl, a0, a1, b0, b1⟩ | ⟨rfl, rfl, rfl, b0, a0, a1⟩⟩ := valid_way h
  · show 2 ≤ 21; omega
  · have e : encR 2 0 lf rg 0 n = ([2] ++ vput (n - lf).toNat) ++ vput (n - rg).toNat := rfl
    have l0 := (vput_len 9 (n - lf).toNat (by omega)).2
    have l1 := (vput_len 9 (n - rg).toNat (by omega)).2
    rw [e]; simp; omega
  · have e : encR 3 0 lf 0 tm n = ([3] ++ vput (n - lf).toNat) ++ vput (tm - 2).toNat := rfl
    have l0 := (vput_len 9 (n - lf).toNat (by omega)).2
    have l1 := (vput_len 9 (tm - 2).toNat (by omega)).2
    rw [e]; simp; omega
theorem enc_u8 (kd lt lf rg tm n : Int) (l0 : 0 ≤ lt) (l1 : lt ≤ 255) : U8s (encR kd lt lf rg tm n) := by
  unfold encR
  split
  · intro x hx; simp at hx; omega
  · split
    · exact ((U8s.one (by omega) (by omega)).app (vput_u8 _)).app (vput_u8 _)
    · exact ((U8s.one (by omega) (by omega)).app (vput_u8 _)).app (vput_u8 _)
end Go.Proofs.Ytcbahojefglakaa
