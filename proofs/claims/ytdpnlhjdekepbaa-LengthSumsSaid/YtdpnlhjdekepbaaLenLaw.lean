/- The walks of the laws of chapter 1 (but Logs, Sums). -/
import Derived.Test.YtdpnlhjdekepbaaLenRef
import Derived.Lib.Strings
import Derived.Lib.Slices
import Derived.Lib.Small
import Derived.Lib.Walk
import Derived.Lib.BitFns
import Derived.Lib.ItoaNum
namespace Go.Proofs.Ytdpnlhjdekepbaa
set_option linter.unusedVariables false
set_option linter.unusedSimpArgs false
open Go.RowKit Go.Lib

theorem idx8 (i : Int) (h0 : 0 ≤ i) (h1 : i ≤ 255) (w : World) : (Instr.index 9 (.string len8tab) (.int .u8 i)).run Try.prog w = .ok (.int .u8 (Lib.bitLen i.toNat)) w := by
  rw [run_index_len8tab w 9 .u8 i Try.underlying9 h0 h1, Lib.len8_of i h0 h1]

theorem len64_any (x : Int) (w : World) (h0 : 0 ≤ x) (h1 : x ≤ 18446744073709551615) :
    Calls Try.prog 30 #[.int .u64 x] w fun e w' => e = .returned (.int .i64 (Lib.bitLen x.toNat)) ∧ w = w' := by
  by_cases c0 : 4294967296 ≤ x
  · by_cases c1 : 65536 ≤ x / 4294967296
    · by_cases c2 : 256 ≤ x / 4294967296 / 65536
      · have hi := idx8 (x / 4294967296 / 65536 / 256) (by omega) (by omega)
        have l := Lib.bitLen_le8' (x / 4294967296 / 65536 / 256) (by omega) (by omega)
        have q : (x / 4294967296 / 65536 / 256).toNat = x.toNat / 72057594037927936 := by omega
        have s := Lib.bitLen_shift56 x.toNat (by omega) (by omega)
        rw [← q] at s
        have Q := Lib.hid q; have S := Lib.hid s; clear q s
        go_enter Try.func30, Try.ntmps30
        go_wp2
        go_ret
        exact ⟨reti (by have := S.out; omega), rfl⟩
      · replace c2 : x / 4294967296 / 65536 < 256 := by omega
        have hi := idx8 (x / 4294967296 / 65536) (by omega) (by omega)
        have l := Lib.bitLen_le8' (x / 4294967296 / 65536) (by omega) (by omega)
        have q : (x / 4294967296 / 65536).toNat = x.toNat / 281474976710656 := by omega
        have s := Lib.bitLen_shift48 x.toNat (by omega) (by omega)
        rw [← q] at s
        have Q := Lib.hid q; have S := Lib.hid s; clear q s
        go_enter Try.func30, Try.ntmps30
        go_wp2
        go_ret
        exact ⟨reti (by have := S.out; omega), rfl⟩
    · replace c1 : x / 4294967296 < 65536 := by omega
      by_cases c2 : 256 ≤ x / 4294967296
      · have hi := idx8 (x / 4294967296 / 256) (by omega) (by omega)
        have l := Lib.bitLen_le8' (x / 4294967296 / 256) (by omega) (by omega)
        have q : (x / 4294967296 / 256).toNat = x.toNat / 1099511627776 := by omega
        have s := Lib.bitLen_shift40 x.toNat (by omega) (by omega)
        rw [← q] at s
        have Q := Lib.hid q; have S := Lib.hid s; clear q s
        go_enter Try.func30, Try.ntmps30
        go_wp2
        go_ret
        exact ⟨reti (by have := S.out; omega), rfl⟩
      · replace c2 : x / 4294967296 < 256 := by omega
        have hi := idx8 (x / 4294967296) (by omega) (by omega)
        have l := Lib.bitLen_le8' (x / 4294967296) (by omega) (by omega)
        have q : (x / 4294967296).toNat = x.toNat / 4294967296 := by omega
        have s := Lib.bitLen_shift32 x.toNat (by omega) (by omega)
        rw [← q] at s
        have Q := Lib.hid q; have S := Lib.hid s; clear q s
        go_enter Try.func30, Try.ntmps30
        go_wp2
        go_ret
        exact ⟨reti (by have := S.out; omega), rfl⟩
  · replace c0 : x < 4294967296 := by omega
    by_cases c1 : 65536 ≤ x
    · by_cases c2 : 256 ≤ x / 65536
      · have hi := idx8 (x / 65536 / 256) (by omega) (by omega)
        have l := Lib.bitLen_le8' (x / 65536 / 256) (by omega) (by omega)
        have q : (x / 65536 / 256).toNat = x.toNat / 16777216 := by omega
        have s := Lib.bitLen_shift24 x.toNat (by omega) (by omega)
        rw [← q] at s
        have Q := Lib.hid q; have S := Lib.hid s; clear q s
        go_enter Try.func30, Try.ntmps30
        go_wp2
        go_ret
        exact ⟨reti (by have := S.out; omega), rfl⟩
      · replace c2 : x / 65536 < 256 := by omega
        have hi := idx8 (x / 65536) (by omega) (by omega)
        have l := Lib.bitLen_le8' (x / 65536) (by omega) (by omega)
        have q : (x / 65536).toNat = x.toNat / 65536 := by omega
        have s := Lib.bitLen_shift16 x.toNat (by omega) (by omega)
        rw [← q] at s
        have Q := Lib.hid q; have S := Lib.hid s; clear q s
        go_enter Try.func30, Try.ntmps30
        go_wp2
        go_ret
        exact ⟨reti (by have := S.out; omega), rfl⟩
    · replace c1 : x < 65536 := by omega
      by_cases c2 : 256 ≤ x
      · have hi := idx8 (x / 256) (by omega) (by omega)
        have l := Lib.bitLen_le8' (x / 256) (by omega) (by omega)
        have q : (x / 256).toNat = x.toNat / 256 := by omega
        have s := Lib.bitLen_shift8 x.toNat (by omega) (by omega)
        rw [← q] at s
        have Q := Lib.hid q; have S := Lib.hid s; clear q s
        go_enter Try.func30, Try.ntmps30
        go_wp2
        go_ret
        exact ⟨reti (by have := S.out; omega), rfl⟩
      · replace c2 : x < 256 := by omega
        have hi := idx8 (x) (by omega) (by omega)
        have l := Lib.bitLen_le8' (x) (by omega) (by omega)
        go_enter Try.func30, Try.ntmps30
        go_wp2
        go_ret
        exact ⟨rfl, rfl⟩

theorem log_some (n : Int) (h0 : 1 ≤ n) (h1 : n ≤ 9223372036854775807) (w : World) :
    Calls Try.prog 16 #[.int .i64 n] w fun e w' => e = .returned (.int .i64 ((Lib.bitLen n.toNat : Int) - 1)) ∧ w = w' := by
  have hb : Lib.bitLen n.toNat ≤ 64 := Lib.bitLen_le n.toNat 64 (by omega) (by omega)
  go_enter Try.func16, Try.ntmps16
  go_wp2_with fail
  (with_reducible refine (len64_any n _ (by omega) (by omega)).mono ?_)
  rintro e w' ⟨rfl, rfl⟩
  go_wp2_with fail
  go_ret
  exact ⟨rfl, rfl⟩
theorem log_none (n : Int) (h0 : n < 1) (w : World) : Calls Try.prog 16 #[.int .i64 n] w fun e w' => e = .returned (.int .i64 (-1)) ∧ w = w' := by
  go_enter Try.func16, Try.ntmps16
  go_wp2_with fail
  go_ret
  exact ⟨rfl, rfl⟩

theorem awake_any (w : World) : Calls Try.prog 14 #[] w fun e w' => e = .returned (.bool true) ∧ w = w' := by
  have h1 : lenAdd 3 4 = (7, 0) := by decide
  have h2 : lenAdd 1152921504606846976 1 = (0, 2) := by decide
  have h3 : Lib.bitLen (5 : Int).toNat = 3 := by decide
  have L1 := lenadd_any 3 4; have L2 := lenadd_any 1152921504606846976 1
  rw [h1] at L1
  rw [h2] at L2
  have H1 : Hid (∀ w, Calls Try.prog 12 #[.int .i64 3, .int .i64 4] w fun e w' => e = .returned (.tuple #[.int .i64 7, .nilIface]) ∧ w = w') := L1
  have H2 : Hid (∀ w, Calls Try.prog 12 #[.int .i64 1152921504606846976, .int .i64 1] w fun e w' => e = .returned (.tuple #[.int .i64 0, .iface 40 (.int .i64 2)]) ∧ w = w') := L2
  have L := log_some 5 (by omega) (by omega)
  rw [h3] at L
  have H3 : Hid (∀ w, Calls Try.prog 16 #[.int .i64 5] w fun e w' => e = .returned (.int .i64 2) ∧ w = w') := L
  clear h1 h2 h3 L L1 L2
  go_enter Try.func14, Try.ntmps14
  go_wp2_with fail
  (with_reducible refine (H1.out _).mono ?_)
  rintro e w' ⟨rfl, rfl⟩
  go_wp2_with fail
  (with_reducible refine (H2.out _).mono ?_)
  rintro e w' ⟨rfl, rfl⟩
  go_wp2_with fail
  (with_reducible refine (is_yes 2 (by decide) _).mono ?_)
  rintro e w' ⟨rfl, rfl⟩
  go_wp2_with fail
  (with_reducible refine (H3.out _).mono ?_)
  rintro e w' ⟨rfl, rfl⟩
  go_wp2_with fail
  go_ret
  exact ⟨rfl, rfl⟩
end Go.Proofs.Ytdpnlhjdekepbaa
