/- Plain laws of a word's eight bytes, big end first. -/
import Derived.Test.YtebjdlimboifaaaDigOf
namespace Go.Proofs.Ytebjdlimboifaaa
set_option linter.unusedVariables false
set_option linter.unusedSimpArgs false
/-- the first k of the eight bytes of x -/
def up (x : Int) : Nat → List Int
  | 0 => []
  | k + 1 => up x k ++ [x / 2 ^ (8 * (7 - k)) % 256]
def wd (l : List Int) : Int := l.foldl (fun w b => (w * 256 + b) % 18446744073709551616) 0
theorem up_len (x : Int) (k : Nat) : (up x k).length = k := by
  induction k with
  | zero => rfl
  | succ k ih => simp [up, ih]
theorem up_u8 (x : Int) (k : Nat) : U8s (up x k) := by
  induction k with
  | zero => intro z hz; simp [up] at hz
  | succ k ih =>
    intro z hz
    simp only [up, List.mem_append, List.mem_singleton] at hz
    rcases hz with hz | hz
    · exact ih z hz
    · omega
theorem wd_app (l : List Int) (b : Int) : wd (l ++ [b]) = (wd l * 256 + b) % 18446744073709551616 := by simp [wd]
theorem wd_lo (l : List Int) (h : U8s l) : 0 ≤ wd l ∧ wd l < 18446744073709551616 := by
  rcases List.eq_nil_or_concat l with rfl | ⟨m, b, rfl⟩
  · exact ⟨by decide, by decide⟩
  · rw [List.concat_eq_append, wd_app]; omega
theorem wd_up (x : Int) (x0 : 0 ≤ x) (x1 : x < 18446744073709551616) : wd (up x 8) = x := by
  have e : up x 8 = [x / 72057594037927936 % 256, x / 281474976710656 % 256, x / 1099511627776 % 256, x / 4294967296 % 256, x / 16777216 % 256, x / 65536 % 256, x / 256 % 256, x / 1 % 256] := rfl
  rw [e]
  simp only [wd, List.foldl_cons, List.foldl_nil]
  omega
theorem up_wd (b0 b1 b2 b3 b4 b5 b6 b7 : Int) (h : U8s [b0, b1, b2, b3, b4, b5, b6, b7]) : up (wd [b0, b1, b2, b3, b4, b5, b6, b7]) 8 = [b0, b1, b2, b3, b4, b5, b6, b7] := by
  have h0 := h b0 (by simp); have h1 := h b1 (by simp); have h2 := h b2 (by simp); have h3 := h b3 (by simp)
  have h4 := h b4 (by simp); have h5 := h b5 (by simp); have h6 := h b6 (by simp); have h7 := h b7 (by simp)
  obtain ⟨x, hx⟩ : ∃ x, x = wd [b0, b1, b2, b3, b4, b5, b6, b7] := ⟨_, rfl⟩
  have e : x = ((((((b0 * 256 + b1) * 256 + b2) * 256 + b3) * 256 + b4) * 256 + b5) * 256 + b6) * 256 + b7 := by
    rw [hx]; simp only [wd, List.foldl_cons, List.foldl_nil]; omega
  rw [← hx]
  have e2 : up x 8 = [x / 72057594037927936 % 256, x / 281474976710656 % 256, x / 1099511627776 % 256, x / 4294967296 % 256, x / 16777216 % 256, x / 65536 % 256, x / 256 % 256, x / 1 % 256] := rfl
  rw [e2]
  have f0 : x / 72057594037927936 % 256 = b0 := by omega
  have f1 : x / 281474976710656 % 256 = b1 := by omega
  have f2 : x / 1099511627776 % 256 = b2 := by omega
  have f3 : x / 4294967296 % 256 = b3 := by omega
  have f4 : x / 16777216 % 256 = b4 := by omega
  have f5 : x / 65536 % 256 = b5 := by omega
  have f6 : x / 256 % 256 = b6 := by omega
  have f7 : x / 1 % 256 = b7 := by omega
  rw [f0, f1, f2, f3, f4, f5, f6, f7]
theorem up_wd_any (l : List Int) (hl : l.length = 8) (h : U8s l) : up (wd l) 8 = l := by
  match l, hl with
  | [b0, b1, b2, b3, b4, b5, b6, b7], _ => exact up_wd b0 b1 b2 b3 b4 b5 b6 b7 h
end Go.Proofs.Ytebjdlimboifaaa
