/- The walks of length.Sum, evergreenref01.Sum and the law LengthSums. -/
import Derived.Test.YtdpnlhjdekepbaaLenLaw2
import Derived.Test.YtdpnlhjdekepbaaAppend
namespace Go.Proofs.Ytdpnlhjdekepbaa
set_option linter.unusedVariables false
set_option linter.unusedSimpArgs false
open Go.RowKit Go.Lib

def vi (l : List Int) : List Value := l.map (.int .i64)
theorem vi_get {l : List Int} {k : Nat} (hk : k < l.length) : (vi l)[k]? = some (.int .i64 (l[k]'hk)) := by simp [vi, hk]
def sumFrom : Int → List Int → Int × Int
  | t, [] => (t, 0)
  | t, x :: r => if (lenAdd t x).2 = 0 then sumFrom (lenAdd t x).1 r else (0, (lenAdd t x).2)
theorem sum_go (t : Int) (l : List Int) (k : Nat) (hk : k < l.length) (h : (lenAdd t l[k]).2 = 0) : sumFrom t (l.drop k) = sumFrom (lenAdd t l[k]).1 (l.drop (k + 1)) := by
  rw [List.drop_eq_getElem_cons hk, sumFrom, if_pos h]
theorem sum_stop (t : Int) (l : List Int) (k : Nat) (hk : k < l.length) (h : (lenAdd t l[k]).2 ≠ 0) : sumFrom t (l.drop k) = (0, (lenAdd t l[k]).2) := by
  rw [List.drop_eq_getElem_cons hk, sumFrom, if_neg h]
theorem add_fst {a b : Int} (h : (lenAdd a b).2 = 0) : lenAdd a b = (a + b, 0) := by
  obtain ⟨a0, a1, b0, b1, hs⟩ := add_nil h
  exact add_ok a b a0 a1 b0 b1 hs

set_option maxHeartbeats 400000 in
theorem lensum_any (l : List Int) (n c : Nat) (A : Option Addr) (hl : l.length = n) (hn : n ≤ 9223372036854775807) (w : World) (ha : RowAt w A (vi l)) :
    Calls Try.prog 24 #[.slice A n c] w fun e w' => e = .returned (.tuple #[.int .i64 (sumFrom 0 l).1, errv (sumFrom 0 l).2]) ∧ w = w' := by
  have HA := Lib.hid ha; have HL := Lib.hid hl
  clear ha hl
  go_enter Try.func24, Try.ntmps24
  go_wp2_with fail
  go_loop [4, 11] (fun st si => ∃ (k : Nat) (t : Int), si = .int .i64 k ∧ k ≤ n ∧ st = .int .i64 t ∧ Hid (sumFrom t (l.drop k) = sumFrom 0 l)) (fun _ si => n - (RowKit.intOf si).toNat)
  case atStart => exact ⟨0, 0, rfl, by omega, rfl, Lib.hid rfl⟩
  case round =>
    obtain ⟨k, t, rfl, hk, rfl, H⟩ := hrel
    by_cases hlt : k < n
    · have hkl : k < l.length := by rw [HL.out]; exact hlt
      obtain ⟨ad, rfl, _, c1⟩ := HA.out.get (vi_get hkl)
      obtain ⟨z, hz⟩ : ∃ z, z = l[k] := ⟨_, rfl⟩
      by_cases he : (lenAdd t z).2 = 0
      · have H2 := Lib.hid ((sum_go t l k hkl (by rw [← hz]; exact he)).symm.trans H.out)
        rw [← hz] at c1 H2
        have C := Lib.hid (lenadd_nil t z _ (add_fst he))
        have e2 : (lenAdd t z).1 = t + z := by rw [add_fst he]
        rw [e2] at H2
        clear he hz e2 H
        go_wp2_with fail
        (with_reducible refine (C.out _).mono ?_)
        rintro e w' ⟨rfl, rfl⟩
        go_wp2_with fail
        go_round
        case rel => exact ⟨k + 1, t + z, by go_num, by omega, rfl, H2⟩
        case measure => simp [RowKit.intOf]; omega
      · have H2 := Lib.hid ((sum_stop t l k hkl (by rw [← hz]; exact he)).symm.trans H.out)
        rw [← hz] at c1 H2
        have C := Lib.hid (lenadd_bad t z he)
        have HE := Lib.hid he
        clear he hz H
        go_wp2_with fail
        (with_reducible refine (C.out _).mono ?_)
        rintro e w' ⟨rfl, rfl⟩
        go_wp2_with fail
        go_ret2
        exact ⟨by rw [← H2.out, errv_pos _ HE.out]; rfl, rfl⟩
    · obtain rfl : k = n := by omega
      have E : Hid (sumFrom 0 l = (t, 0)) := Lib.hid (by rw [← H.out, List.drop_eq_nil_of_le (by rw [HL.out]; exact Nat.le_refl _)]; rfl)
      clear H
      go_wp2_with fail
      go_ret2
      exact ⟨by rw [E.out]; rfl, rfl⟩

set_option maxHeartbeats 400000 in
theorem rsum_any (l : List Int) (n c : Nat) (A : Option Addr) (hl : l.length = n) (hn : n ≤ 9223372036854775807) (w : World) (ha : RowAt w A (vi l)) :
    Calls Try.prog 25 #[.slice A n c] w fun e w' => e = .returned (.tuple #[.int .i64 (sumFrom 0 l).1, .int .i64 (sumFrom 0 l).2]) ∧ w = w' := by
  have HA := Lib.hid ha; have HL := Lib.hid hl
  clear ha hl
  go_enter Try.func25, Try.ntmps25
  go_wp2_with fail
  go_loop [4, 5] (fun st si => ∃ (k : Nat) (t : Int), si = .int .i64 k ∧ k ≤ n ∧ st = .int .i64 t ∧ Hid (sumFrom t (l.drop k) = sumFrom 0 l)) (fun _ si => n - (RowKit.intOf si).toNat)
  case atStart => exact ⟨0, 0, rfl, by omega, rfl, Lib.hid rfl⟩
  case round =>
    obtain ⟨k, t, rfl, hk, rfl, H⟩ := hrel
    by_cases hlt : k < n
    · have hkl : k < l.length := by rw [HL.out]; exact hlt
      obtain ⟨ad, rfl, _, c1⟩ := HA.out.get (vi_get hkl)
      obtain ⟨z, hz⟩ : ∃ z, z = l[k] := ⟨_, rfl⟩
      by_cases he : (lenAdd t z).2 = 0
      · have H2 := Lib.hid ((sum_go t l k hkl (by rw [← hz]; exact he)).symm.trans H.out)
        rw [← hz] at c1 H2
        have C := refadd1_any t z
        rw [add_fst he] at C
        have CC := Lib.hid C
        have e2 : (lenAdd t z).1 = t + z := by rw [add_fst he]
        rw [e2] at H2
        clear he hz e2 H C
        go_wp2_with fail
        (with_reducible refine (CC.out _).mono ?_)
        rintro e w' ⟨rfl, rfl⟩
        go_wp2_with fail
        go_round
        case rel => exact ⟨k + 1, t + z, by go_num, by omega, rfl, H2⟩
        case measure => simp [RowKit.intOf]; omega
      · have H2 := Lib.hid ((sum_stop t l k hkl (by rw [← hz]; exact he)).symm.trans H.out)
        rw [← hz] at c1 H2
        have he' : ((lenAdd t z).2 != 0) = true := by rw [bne_iff_ne]; exact he
        clear he hz H
        go_wp2_with fail
        (with_reducible refine (refadd1_any t z _).mono ?_)
        rintro e w' ⟨rfl, rfl⟩
        go_wp2_with fail
        go_ret2
        exact ⟨by rw [← H2.out]; rfl, rfl⟩
    · obtain rfl : k = n := by omega
      have E : Hid (sumFrom 0 l = (t, 0)) := Lib.hid (by rw [← H.out, List.drop_eq_nil_of_le (by rw [HL.out]; exact Nat.le_refl _)]; rfl)
      clear H
      go_wp2_with fail
      go_ret2
      exact ⟨by rw [E.out]; rfl, rfl⟩

theorem info_i64 : (Try.prog.info? 3).map (fun i => (i.zero, i.size, i.bytes)) = some (some (.int .i64 0), 1, 8) := by kernel_rfl
theorem vi_one (l : List Int) : ∀ u ∈ vi l, u.oneCell' = true := by
  intro u hu
  simp only [vi, List.mem_map] at hu
  obtain ⟨x, _, rfl⟩ := hu
  rfl
set_option maxHeartbeats 400000 in
theorem law_sums (l : List Int) (n c : Nat) (A : Option Addr) (hl : l.length = n) (hn : n * 8 ≤ 140737488351232) (w : World) (ha : RowAt w A (vi l)) :
    Calls Try.prog 9 #[.slice A n c] w fun e w' => e = .returned (.bool true) ∧ Below w.heap.size w w' := by
  obtain ⟨i0, hi, hz0, hz1, hz2⟩ := info_parts info_i64
  have HL := Lib.hid hl
  have hvl : (vi l).length = n * 1 := by rw [Nat.mul_one]; simp [vi, HL.out]
  have HV := Lib.hid hvl
  clear hl hvl
  go_enter Try.func9, Try.ntmps9
  go_wp2_with (refine wpList_app _ (by rfl) _ _ _ rfl w.heap.size 3 i0 _ 1 8 Try.underlying36 hi hz0 hz1 hz2 rfl (by omega) (.slice (some ⟨w.heap.size, 0, none⟩) 0 0) 0 [] rfl ?own A n c (vi l) rfl HV.out ?row (vi_one l) (by simp only [maxLen]; omega) (by omega) (by simp) ?_)
  case own => exact own_made w _ _
  case row => exact ha.below ((Below.refl _ _).alloc (Nat.le_refl _) _) (Nat.le_refl _)
  intro A1 c1 w1 own1 gr1 at1
  have B1 : Below w.heap.size w w1 := ((Below.refl _ _).alloc (Nat.le_refl _) _).grown gr1 (by simp) (by simp [Value.ownBlock])
  have R1 := own_row w1 own1
  have ha1 := ha.below B1 (Nat.le_refl _)
  have HB := Lib.hid B1; have HR := Lib.hid R1; have HA := Lib.hid ha1
  clear own1 gr1 at1 B1 R1 ha1 ha
  go_wp2_with fail
  (with_reducible refine (lensum_any l n c1 A1 HL.out (by omega) _ HR.out).mono ?_)
  rintro e w' ⟨rfl, rfl⟩
  go_wp2_with fail
  (with_reducible refine (rsum_any l n c A HL.out (by omega) _ HA.out).mono ?_)
  rintro e w' ⟨rfl, rfl⟩
  go_wp2_with fail
  (with_reducible refine (awake_any _).mono ?_)
  rintro e w' ⟨rfl, rfl⟩
  go_wp2_with fail
  (with_reducible refine (num_any _ _).mono ?_)
  rintro e w' ⟨rfl, rfl⟩
  go_wp2_with fail
  go_ret
  exact ⟨rfl, HB.out⟩
end Go.Proofs.Ytdpnlhjdekepbaa
