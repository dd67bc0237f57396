/- The walks of rule.two and evergreenref09.take. -/
import Derived.Test.YtcbahojefglakaaVarTake
import Derived.Test.YtcbahojefglakaaCut
namespace Go.Proofs.Ytcbahojefglakaa
set_option linter.unusedVariables false
set_option linter.unusedSimpArgs false
open Go.RowKit Go.Lib
def twoOf (l : List Int) : Option (Nat × Nat × Nat) := (vt 9 true (l.drop 1)).bind fun p => (vt 9 true (l.drop (1 + p.2))).map fun q => (p.1, q.1, 1 + p.2 + q.2)
theorem vb_drop (l : List Int) (k : Nat) : (vb l).drop k = vb (l.drop k) := by simp [vb]
theorem vt_lt {l : List Int} (hb : U8s l) {n k : Nat} (h : vt 9 true l = some (n, k)) : n < 9223372036854775808 ∧ 0 < k ∧ k ≤ l.length := by
  obtain ⟨_, h2, h3, _, h5, _⟩ := vt_only 9 true l n k hb h
  have h4 : (128 : Nat) ^ 9 = 9223372036854775808 := by decide
  exact ⟨by omega, h2, h3⟩
theorem vtake_yes (l : List Int) (n c m k : Nat) (A : Option Addr) (hl : l.length = n) (hn : n ≤ 140737488355328) (hb : U8s l) (h : vt 9 true l = some (m, k)) (w : World) (ha : RowAt w A (vb l)) :
    Calls Try.prog 57 #[.slice A n c] w fun e w' => e = .returned (.tuple #[.int .u64 (m : Int), .int .i64 (k : Int), .nilIface]) ∧ w = w' :=
  (vtake_any l n c A hl hn hb w ha).mono fun e w' ⟨⟨v, u, r, he, hv⟩, hw⟩ => by
    rcases hv with ⟨m2, k2, h1, rfl, rfl, rfl⟩ | ⟨h1, _⟩ | ⟨h1, _⟩
    · rw [h] at h1; cases h1; exact ⟨he, hw⟩
    · rw [h] at h1; cases h1
    · rw [h] at h1; cases h1
/-- nothing readable below 2^63 -/
def VNo (v : Int) (r : Value) : Prop := r = .iface 50 (.int .i64 4) ∨ (r = .nilIface ∧ 9223372036854775808 ≤ v)
theorem vtake_no (l : List Int) (n c : Nat) (A : Option Addr) (hl : l.length = n) (hn : n ≤ 140737488355328) (hb : U8s l) (h : vt 9 true l = none) (w : World) (ha : RowAt w A (vb l)) :
    Calls Try.prog 57 #[.slice A n c] w fun e w' => ∃ v u r, e = .returned (.tuple #[.int .u64 v, .int .i64 u, r]) ∧ VNo v r ∧ w = w' :=
  (vtake_any l n c A hl hn hb w ha).mono fun e w' ⟨⟨v, u, r, he, hv⟩, hw⟩ => by
    rcases hv with ⟨m2, k2, h1, rfl, rfl, rfl⟩ | ⟨h1, h2, h3, h4⟩ | ⟨h1, h2, h3, h4, h5, h6⟩
    · rw [h] at h1; cases h1
    · exact ⟨v, u, r, he, .inl h4, hw⟩
    · exact ⟨v, u, r, he, .inr ⟨h6, h2⟩, hw⟩
set_option maxHeartbeats 1000000 in
theorem two_no1 (l : List Int) (n c : Nat) (A : Option Addr) (hl : l.length = n) (hn : n ≤ 140737488355328) (h1 : 1 ≤ n) (hc : n ≤ c) (hb : U8s l) (h : vt 9 true (l.drop 1) = none) (w : World) (ha : RowAt w A (vb l)) :
    Calls Try.prog 69 #[.slice A n c] w fun e w' => e = .returned (.tuple #[.int .i64 0, .int .i64 0, .int .i64 0, .bool false]) ∧ w = w' := by
  obtain ⟨A1, hs, hr⟩ := cut_ex (vb l) A n c 1 1 rfl h1 hc (by rw [vb_len, hl])
  have HT := Lib.hid (vtake_no (l.drop 1) (n - 1) (c - 1) A1 (by rw [List.length_drop, hl]) (by omega) (hb.drop 1) h w (by rw [← vb_drop]; exact hr w ha))
  clear hr ha hl h
  go_enter Try.func69, Try.ntmps69
  go_wp2_with fail
  (with_reducible refine HT.out.mono ?_)
  rintro e w' ⟨v, u, r, rfl, hv, rfl⟩
  rcases hv with rfl | ⟨rfl, hv⟩
  · go_wp2_with fail
    refine bodyPost_ret (v := .tuple #[.int .i64 0, .int .i64 0, .int .i64 0, .bool false]) ?_ rfl ⟨rfl, rfl⟩
    simp [results, Try.results69, go_sem]
  · have hv2 : 9223372036854775807 < v := by omega
    go_wp2_with fail
    refine bodyPost_ret (v := .tuple #[.int .i64 0, .int .i64 0, .int .i64 0, .bool false]) ?_ rfl ⟨rfl, rfl⟩
    simp [results, Try.results69, go_sem]
set_option maxHeartbeats 1000000 in
theorem two_no2 (l : List Int) (n c m k : Nat) (A : Option Addr) (hl : l.length = n) (hn : n ≤ 140737488355328) (h1 : 1 ≤ n) (hc : n ≤ c) (hb : U8s l) (hm : vt 9 true (l.drop 1) = some (m, k)) (h : vt 9 true (l.drop (1 + k)) = none) (w : World) (ha : RowAt w A (vb l)) :
    Calls Try.prog 69 #[.slice A n c] w fun e w' => e = .returned (.tuple #[.int .i64 0, .int .i64 0, .int .i64 0, .bool false]) ∧ w = w' := by
  obtain ⟨v1, v2, v3⟩ := vt_lt (hb.drop 1) hm
  rw [List.length_drop, hl] at v3
  obtain ⟨A1, hs, hr⟩ := cut_ex (vb l) A n c 1 1 rfl h1 hc (by rw [vb_len, hl])
  obtain ⟨A2, hs2, hr2⟩ := cut_ex (vb l) A n c (1 + k) (1 + (k : Int)) (by omega) (by omega) hc (by rw [vb_len, hl])
  have HT := Lib.hid (vtake_yes (l.drop 1) (n - 1) (c - 1) m k A1 (by rw [List.length_drop, hl]) (by omega) (hb.drop 1) hm w (by rw [← vb_drop]; exact hr w ha))
  have HT2 := Lib.hid (vtake_no (l.drop (1 + k)) (n - (1 + k)) (c - (1 + k)) A2 (by rw [List.length_drop, hl]) (by omega) (hb.drop _) h w (by rw [← vb_drop]; exact hr2 w ha))
  have vm : (m : Int) ≤ 9223372036854775807 := by omega
  have kl : (k : Int) ≤ 140737488355328 := by omega
  clear hr ha hl h hr2 hm
  go_enter Try.func69, Try.ntmps69
  go_wp2_with fail
  (with_reducible refine (HT.out).mono ?_)
  rintro e w' ⟨rfl, rfl⟩
  go_wp2_with fail
  (with_reducible refine HT2.out.mono ?_)
  rintro e w' ⟨v, u, r, rfl, hv, rfl⟩
  rcases hv with rfl | ⟨rfl, hv⟩
  · go_wp2_with fail
    refine bodyPost_ret (v := .tuple #[.int .i64 0, .int .i64 0, .int .i64 0, .bool false]) ?_ rfl ⟨rfl, rfl⟩
    simp [results, Try.results69, go_sem]
  · have hv2 : 9223372036854775807 < v := by omega
    go_wp2_with fail
    refine bodyPost_ret (v := .tuple #[.int .i64 0, .int .i64 0, .int .i64 0, .bool false]) ?_ rfl ⟨rfl, rfl⟩
    simp [results, Try.results69, go_sem]
set_option maxHeartbeats 1000000 in
theorem two_yes (l : List Int) (n c m k m2 k2 : Nat) (A : Option Addr) (hl : l.length = n) (hn : n ≤ 140737488355328) (h1 : 1 ≤ n) (hc : n ≤ c) (hb : U8s l) (hm : vt 9 true (l.drop 1) = some (m, k)) (h : vt 9 true (l.drop (1 + k)) = some (m2, k2)) (w : World) (ha : RowAt w A (vb l)) :
    Calls Try.prog 69 #[.slice A n c] w fun e w' => e = .returned (.tuple #[.int .i64 (m : Int), .int .i64 (m2 : Int), .int .i64 ((1 + k + k2 : Nat) : Int), .bool true]) ∧ w = w' := by
  obtain ⟨v1, v2, v3⟩ := vt_lt (hb.drop 1) hm
  obtain ⟨v4, v5, v6⟩ := vt_lt (hb.drop (1 + k)) h
  rw [List.length_drop, hl] at v3
  rw [List.length_drop, hl] at v6
  obtain ⟨A1, hs, hr⟩ := cut_ex (vb l) A n c 1 1 rfl h1 hc (by rw [vb_len, hl])
  obtain ⟨A2, hs2, hr2⟩ := cut_ex (vb l) A n c (1 + k) (1 + (k : Int)) (by omega) (by omega) hc (by rw [vb_len, hl])
  have HT := Lib.hid (vtake_yes (l.drop 1) (n - 1) (c - 1) m k A1 (by rw [List.length_drop, hl]) (by omega) (hb.drop 1) hm w (by rw [← vb_drop]; exact hr w ha))
  have HT2 := Lib.hid (vtake_yes (l.drop (1 + k)) (n - (1 + k)) (c - (1 + k)) m2 k2 A2 (by rw [List.length_drop, hl]) (by omega) (hb.drop _) h w (by rw [← vb_drop]; exact hr2 w ha))
  have vm : (m : Int) ≤ 9223372036854775807 := by omega
  have vm2 : (m2 : Int) ≤ 9223372036854775807 := by omega
  have nm1 : ¬ 9223372036854775807 < (m : Int) := by omega
  have nm2 : ¬ 9223372036854775807 < (m2 : Int) := by omega
  have kl : (k : Int) ≤ 140737488355328 := by omega
  have kl2 : (k2 : Int) ≤ 140737488355328 := by omega
  clear hr ha hl h hr2 hm
  go_enter Try.func69, Try.ntmps69
  go_wp2_with fail
  (with_reducible refine (HT.out).mono ?_)
  rintro e w' ⟨rfl, rfl⟩
  go_wp2_with fail
  (with_reducible refine (HT2.out).mono ?_)
  rintro e w' ⟨rfl, rfl⟩
  go_wp2_with fail
  refine bodyPost_ret (v := .tuple #[.int .i64 (m : Int), .int .i64 (m2 : Int), .int .i64 (1 + (k : Int) + (k2 : Int)), .bool true]) ?_ rfl ⟨by simp, rfl⟩
  simp [results, Try.results69, go_sem]
theorem two_none {l : List Int} (h : twoOf l = none) : vt 9 true (l.drop 1) = none ∨ ∃ m k, vt 9 true (l.drop 1) = some (m, k) ∧ vt 9 true (l.drop (1 + k)) = none := by
  unfold twoOf at h
  cases h1 : vt 9 true (l.drop 1) with
  | none => exact .inl rfl
  | some p =>
    rw [h1] at h
    refine .inr ⟨p.1, p.2, rfl, ?_⟩
    cases h2 : vt 9 true (l.drop (1 + p.2)) with
    | none => rfl
    | some q => simp [h2] at h
theorem two_some {l : List Int} {x y e : Nat} (h : twoOf l = some (x, y, e)) : ∃ k k2, vt 9 true (l.drop 1) = some (x, k) ∧ vt 9 true (l.drop (1 + k)) = some (y, k2) ∧ e = 1 + k + k2 := by
  unfold twoOf at h
  cases h1 : vt 9 true (l.drop 1) with
  | none => rw [h1] at h; cases h
  | some p =>
    rw [h1, Option.bind_some] at h
    cases h2 : vt 9 true (l.drop (1 + p.2)) with
    | none => rw [h2] at h; cases h
    | some q =>
      rw [h2] at h
      simp only [Option.map_some, Option.some.injEq, Prod.mk.injEq] at h
      obtain ⟨rfl, rfl, rfl⟩ := h
      exact ⟨p.2, q.2, rfl, h2, rfl⟩
theorem two_n (l : List Int) (n c : Nat) (A : Option Addr) (hl : l.length = n) (hn : n ≤ 140737488355328) (h1 : 1 ≤ n) (hc : n ≤ c) (hb : U8s l) (h : twoOf l = none) (w : World) (ha : RowAt w A (vb l)) :
    Calls Try.prog 69 #[.slice A n c] w fun e w' => e = .returned (.tuple #[.int .i64 0, .int .i64 0, .int .i64 0, .bool false]) ∧ w = w' := by
  rcases two_none h with h2 | ⟨m, k, h2, h3⟩
  · exact two_no1 l n c A hl hn h1 hc hb h2 w ha
  · exact two_no2 l n c m k A hl hn h1 hc hb h2 h3 w ha
theorem two_y (l : List Int) (n c x y q : Nat) (A : Option Addr) (hl : l.length = n) (hn : n ≤ 140737488355328) (h1 : 1 ≤ n) (hc : n ≤ c) (hb : U8s l) (h : twoOf l = some (x, y, q)) (w : World) (ha : RowAt w A (vb l)) :
    Calls Try.prog 69 #[.slice A n c] w fun e w' => e = .returned (.tuple #[.int .i64 (x : Int), .int .i64 (y : Int), .int .i64 (q : Int), .bool true]) ∧ w = w' := by
  obtain ⟨k, k2, h2, h3, rfl⟩ := two_some h
  exact two_yes l n c x k y k2 A hl hn h1 hc hb h2 h3 w ha
theorem two_bd {l : List Int} (hb : U8s l) {x y q : Nat} (h : twoOf l = some (x, y, q)) : x < 9223372036854775808 ∧ y < 9223372036854775808 ∧ 3 ≤ q ∧ q ≤ l.length := by
  obtain ⟨k, k2, h2, h3, rfl⟩ := two_some h
  obtain ⟨v1, v2, v3⟩ := vt_lt (hb.drop 1) h2
  obtain ⟨v4, v5, v6⟩ := vt_lt (hb.drop (1 + k)) h3
  rw [List.length_drop] at v3 v6
  omega
end Go.Proofs.Ytcbahojefglakaa
