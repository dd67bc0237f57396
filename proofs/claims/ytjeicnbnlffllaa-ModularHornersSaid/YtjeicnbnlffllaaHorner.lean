/- The walks of modular.Horner, evergreenref04.Horner and the law ModularHorners. -/
import Derived.Test.YtjeicnbnlffllaaModLaw
import Derived.Test.YtjeicnbnlffllaaAppend
import Derived.Test.YtjeicnbnlffllaaRowFrame
import Derived.Deep.QuietTactic
import Derived.BigQuiet
import Derived.OpenShut
namespace Go.Proofs.Ytjeicnbnlffllaa
set_option linter.unusedVariables false
set_option linter.unusedSimpArgs false
open Go.RowKit Go.Lib

def vu (l : List Int) : List Value := l.map (.int .u64)
theorem vu_get {l : List Int} {k : Nat} (hk : k < l.length) : (vu l)[k]? = some (.int .u64 (l[k]'hk)) := by simp [vu, hk]
def horner (x : Int) (l : List Int) : Int := l.foldl (fun r c => red (red (r * x) + c)) 0
theorem horner_step (x : Int) (l : List Int) (k : Nat) (hk : k < l.length) : horner x (l.take (k + 1)) = red (red (horner x (l.take k) * x) + l[k]) := by
  unfold horner
  rw [List.take_succ_eq_append_getElem hk, List.foldl_append]
  rfl
def U64s (l : List Int) : Prop := ∀ x ∈ l, 0 ≤ x ∧ x < 18446744073709551616

set_option maxHeartbeats 400000 in
theorem horner_any (x : Int) (x0 : 0 ≤ x) (x1 : x < 18446744073709551616) (l : List Int) (n c : Nat) (A : Option Addr) (hl : l.length = n) (hn : n ≤ 9223372036854775807) (hb : U64s l) (w : World) (ha : RowAt w A (vu l)) :
    Calls Try.prog 22 #[.int .u64 x, .slice A n c] w fun e w' => e = .returned (.int .u64 (horner x l)) ∧ w = w' := by
  have HA := Lib.hid ha; have HL := Lib.hid hl; have HB := Lib.hid hb
  clear ha hl hb
  go_enter Try.func22, Try.ntmps22
  go_wp2_with fail
  go_loop [5, 10] (fun sr si => ∃ (k : Nat) (r : Int), si = .int .i64 k ∧ k ≤ n ∧ sr = .int .u64 r ∧ 0 ≤ r ∧ r < 2305843009213693951 ∧ Hid (r = horner x (l.take k))) (fun _ si => n - (intOf si).toNat)
  case atStart => exact ⟨0, 0, rfl, by omega, rfl, by omega, by omega, Lib.hid rfl⟩
  case round =>
    obtain ⟨k, r, rfl, hk, rfl, r0, r1, H⟩ := hrel
    by_cases hlt : k < n
    · have hkl : k < l.length := by rw [HL.out]; exact hlt
      obtain ⟨ad, rfl, _, c1⟩ := HA.out.get (vu_get hkl)
      obtain ⟨b0, b1⟩ := HB.out _ (List.getElem_mem hkl)
      obtain ⟨z, hz⟩ : ∃ z, z = l[k] := ⟨_, rfl⟩
      rw [← hz] at c1 b0 b1
      have H2 : Hid (red (red (r * x) + z) = horner x (l.take (k + 1))) := Lib.hid (by rw [horner_step x l k hkl, ← H.out, hz])
      have q0 := red_lo (red (r * x) + z); have q1 := red_hi (red (r * x) + z)
      clear hz H
      go_wp2_with fail
      (with_reducible refine (mul_any r x (by omega) (by omega) x0 x1 _).mono ?_)
      rintro e w' ⟨rfl, rfl⟩
      go_wp2_with fail
      (with_reducible refine (add_any (red (r * x)) z (rl _) (rh _) b0 b1 _).mono ?_)
      rintro e w' ⟨rfl, rfl⟩
      go_wp2_with fail
      go_round
      case rel => exact ⟨k + 1, red (red (r * x) + z), by go_num, by omega, rfl, q0, q1, H2⟩
      case measure => simp [intOf]; omega
    · obtain rfl : k = n := by omega
      have E : Hid (r = horner x l) := Lib.hid (by have := H.out; rwa [List.take_of_length_le (by rw [HL.out]; exact Nat.le_refl _)] at this)
      clear H
      go_wp2_with fail
      go_ret
      exact ⟨by rw [← E.out]; rfl, rfl⟩

set_option maxHeartbeats 400000 in
theorem rhorner_any (x : Int) (x0 : 0 ≤ x) (x1 : x < 18446744073709551616) (l : List Int) (n c : Nat) (A : Option Addr) (hl : l.length = n) (hn : n ≤ 9223372036854775807) (hb : U64s l) (w : World) (ha : RowAt w A (vu l)) :
    Calls Try.prog 23 #[.int .u64 x, .slice A n c] w fun e w' => e = .returned (.int .u64 (horner x l)) ∧ ∃ q, w' = w.drewN q := by
  have HA := Lib.hid ha; have HL := Lib.hid hl; have HB := Lib.hid hb
  clear ha hl hb
  go_enter Try.func23, Try.ntmps23
  go_wp2_with fail
  go_loopw [5, 6] (fun sr si wr => ∃ (k q : Nat) (r : Int), si = .int .i64 k ∧ k ≤ n ∧ sr = .int .u64 r ∧ 0 ≤ r ∧ r < 2305843009213693951 ∧ Hid (r = horner x (l.take k)) ∧ wr = w.drewN q) (fun _ si _ => n - (intOf si).toNat)
  case atStart => exact ⟨0, 0, 0, rfl, by omega, rfl, by omega, by omega, Lib.hid rfl, rfl⟩
  case round =>
    obtain ⟨k, q, r, rfl, hk, rfl, r0, r1, H, rfl⟩ := hrel
    by_cases hlt : k < n
    · have hkl : k < l.length := by rw [HL.out]; exact hlt
      obtain ⟨ad, rfl, _, c1⟩ := HA.out.get (vu_get hkl)
      obtain ⟨b0, b1⟩ := HB.out _ (List.getElem_mem hkl)
      obtain ⟨z, hz⟩ : ∃ z, z = l[k] := ⟨_, rfl⟩
      rw [← hz] at c1 b0 b1
      have H2 : Hid (red (red (r * x) + z) = horner x (l.take (k + 1))) := Lib.hid (by rw [horner_step x l k hkl, ← H.out, hz])
      have q0 := red_lo (red (r * x) + z); have q1 := red_hi (red (r * x) + z)
      have i0 : (0 : Int) ≤ (k : Int) := by omega
      have i1 : (k : Int) < (n : Int) := by omega
      clear hz H
      go_wp2_with fail
      go_quiet (first | (go_at_call 16; exact quiet_left2 (refmul_any r x (by omega) (by omega) x0 x1 _)) | (go_at_call 18; exact quiet_left2 (refadd_any (red (r * x)) z (rl _) (rh _) b0 b1 _)))
      go_wp2_with fail
      go_roundw
      case rel => exact ⟨k + 1, _, red (red (r * x) + z), by go_num, by omega, rfl, q0, q1, H2, rfl⟩
      case measure => simp [intOf]; omega
    · obtain rfl : k = n := by omega
      have E : Hid (r = horner x l) := Lib.hid (by have := H.out; rwa [List.take_of_length_le (by rw [HL.out]; exact Nat.le_refl _)] at this)
      clear H
      go_wp2_with fail
      go_ret
      exact ⟨by rw [← E.out]; rfl, _, rfl⟩

theorem info_u64 : (Try.prog.info? 22).map (fun i => (i.zero, i.size, i.bytes)) = some (some (.int .u64 0), 1, 8) := by kernel_rfl
theorem vu_one (l : List Int) : ∀ u ∈ vu l, u.oneCell' = true := by
  intro u hu
  simp only [vu, List.mem_map] at hu
  obtain ⟨x, _, rfl⟩ := hu
  rfl
set_option maxHeartbeats 400000 in
theorem law_horners (x : Int) (x0 : 0 ≤ x) (x1 : x < 18446744073709551616) (l : List Int) (n c : Nat) (A : Option Addr) (hl : l.length = n) (hn : n * 8 ≤ 140737488351232) (hb : U64s l) (w : World) (ha : RowAt w A (vu l)) :
    Calls Try.prog 7 #[.int .u64 x, .slice A n c] w fun e w' => e = .returned (.bool true) ∧ Below w.heap.size w w' := by
  obtain ⟨i0, hi, hz0, hz1, hz2⟩ := info_parts info_u64
  have HL := Lib.hid hl
  have hvl : (vu l).length = n * 1 := by rw [Nat.mul_one]; simp [vu, HL.out]
  have HV := Lib.hid hvl
  clear hl hvl
  go_enter Try.func7, Try.ntmps7
  go_wp2_with fail
  (with_reducible refine (awake_any _).mono ?_)
  rintro e w' ⟨rfl, rfl⟩
  go_wp2_with (refine wpList_app _ (by rfl) (.tmp 8) (.tmp 9) _ rfl w.heap.size 22 i0 _ 1 8 Try.underlying29 hi hz0 hz1 hz2 rfl (by omega) (.slice (some ⟨w.heap.size, 0, none⟩) 0 0) 0 [] rfl ?own A n c (vu l) rfl HV.out ?row (vu_one l) (by simp only [maxLen]; omega) (by omega) (by simp) ?_)
  case own => exact own_made w _ _
  case row => exact ha.below ((Below.refl _ _).alloc (Nat.le_refl _) _) (Nat.le_refl _)
  intro A1 c1 w1 own1 gr1 at1
  have B1 : Below w.heap.size w w1 := ((Below.refl _ _).alloc (Nat.le_refl _) _).grown gr1 (by simp) (by simp [Value.ownBlock])
  have R1 := own_row w1 own1
  have ha1 := ha.below B1 (Nat.le_refl _)
  have HB := Lib.hid B1; have HR := Lib.hid R1; have HA := Lib.hid ha1; have HU := Lib.hid hb
  clear own1 gr1 at1 B1 R1 ha1 ha hb
  go_wp2_with fail
  (with_reducible refine (horner_any x x0 x1 l n c1 A1 HL.out (by omega) HU.out _ HR.out).mono ?_)
  rintro e w' ⟨rfl, rfl⟩
  go_wp2_with fail
  (with_reducible refine (rhorner_any x x0 x1 l n c A HL.out (by omega) HU.out _ HA.out).mono ?_)
  rintro e w2 ⟨rfl, q, rfl⟩
  go_wp2_with fail
  go_ret
  exact ⟨rfl, below_drewN HB.out _⟩
theorem u64s_of {zs : List Int} (h : ∀ n ∈ zs, (Lit.int .u64 n).wf = true) : U64s zs := fun x hx => by have := bounds_u64 (h x hx); omega
end Go.Proofs.Ytjeicnbnlffllaa
