/- The walks of varint.Put and Take. -/
import Derived.Test.YtcbahojefglakaaOwnB
import Derived.Test.YtcbahojefglakaaVarPlain
import Derived.Laws.BitsAllLaws
import Derived.Deep.DeepCutAuto
import Derived.Deep.RegionHeld3
namespace Go.Proofs.Ytcbahojefglakaa
set_option linter.unusedVariables false
set_option linter.unusedSimpArgs false
open Go.RowKit Go.Lib
set_option maxRecDepth 10000 in
theorem or128 (y : Int) (h0 : 0 ≤ y) (h1 : y < 256) : bits .or .u8 y 128 = y % 128 + 128 := by
  rw [u8_or y 128 h0 h1 (by omega) (by omega)]
  have key : ∀ z : Fin 256, (z.val ||| 128) = z.val % 128 + 128 := by decide
  have := key ⟨y.toNat, by omega⟩
  show ((y.toNat ||| 128 : Nat) : Int) = _
  have e : (y.toNat ||| 128) = y.toNat % 128 + 128 := this
  omega
set_option maxHeartbeats 1000000 in
theorem vput_own (N : Nat) (hN : N < 18446744073709551616) (w : World) : Calls Try.prog 53 #[.int .u64 (N : Int)] w (OwnBytes w (vput N)) := by
  have hlen := (vput_len 9 N (Nat.lt_of_lt_of_le hN (by decide))).2
  obtain ⟨L, hL⟩ : ∃ L, L = vput N := ⟨_, rfl⟩
  obtain ⟨i0_, hi, hz0, hz1, hz2⟩ := info_parts5 info_u8
  have HI := Lib.hid hi; have HZ := Lib.hid hz0; have HZ1 := Lib.hid hz1; have HZ2 := Lib.hid hz2
  have HL := Lib.hid hL
  rw [← hL] at hlen ⊢
  have HN := Lib.hid hlen
  clear hi hz0 hz1 hz2 hL hlen
  go_enter Try.func53, Try.ntmps53
  have mk : ∀ w : World, (Instr.makeSlice 27 (.int .i64 0) (.int .i64 10)).run Try.prog w = .ok (.slice (some ⟨w.heap.size, 0, none⟩) 0 10) (w.alloc (.cells (Array.replicate 10 (.int .u8 0)) 5)) := fun w => by kernel_rfl
  have ow : (w.alloc (.cells (Array.replicate 10 (.int .u8 0)) 5)).ownsRow w.heap.size 5 1 (.slice (some ⟨w.heap.size, 0, none⟩) 0 10) 0 (vb []) :=
    ⟨by simp [vb], .inr ⟨w.heap.size, 10, Array.replicate 10 (.int .u8 0), rfl, by omega, heap_alloc_new w _, by omega, by simp [maxLen], by simp, by simp [vb]⟩⟩
  have HO := Lib.hid ow
  have HB := Lib.hid (balloc (Below.refl w.heap.size w) (.cells (Array.replicate 10 (.int .u8 0)) 5))
  clear ow
  go_wp2_with fail
  go_loopw [0, 3] (fun s0 s3 wr => ∃ (x m : Nat) (pre : List Int) (A : Option Addr) (c : Nat), s0 = .int .u64 (x : Int) ∧ x < 18446744073709551616 ∧ s3 = .slice A m c ∧ Hid (pre ++ vput x = L ∧ pre.length = m) ∧ Hid (wr.ownsRow w.heap.size 5 1 (.slice A m c) m (vb pre)) ∧ Hid (Below w.heap.size w wr)) (fun s0 _ _ => (intOf s0).toNat)
  case atStart => exact ⟨N, 0, [], some ⟨w.heap.size, 0, none⟩, 10, rfl, hN, rfl, Lib.hid ⟨HL.out.symm, rfl⟩, HO, HB⟩
  case round =>
    obtain ⟨x, m, pre, A, c, rfl, hx, rfl, HP, HO, BW⟩ := hrel
    by_cases h128 : 128 ≤ (x : Int)
    · have ev := vput_ge (n := x) (by omega)
      have HP2 : Hid ((pre ++ [((x % 128 + 128 : Nat) : Int)]) ++ vput (x / 128) = L ∧ (pre ++ [((x % 128 + 128 : Nat) : Int)]).length = m + 1) := Lib.hid (by
        obtain ⟨h1, h2⟩ := HP.out
        rw [ev] at h1
        exact ⟨by rw [← h1]; simp, by simp [h2]⟩)
      have hm : m + 1 ≤ 10 := by
        have h1 := HP2.out.2; have h2 := congrArg List.length HP2.out.1; have h3 := HN.out
        rw [List.length_append] at h2; omega
      clear ev
      have eo : bits BinOp.or .u8 ((x : Int) % 256) 128 = (x : Int) % 128 + 128 := by rw [or128 _ (by omega) (by omega)]; omega
      have HA := Lib.hid (own_alloc HO.out (.cells #[.int .u8 ((x : Int) % 128 + 128)] 5))
      go_wp2_with (refine wpList_app _ (by rfl) (.tmp 9) (.tmp 13) _ rfl w.heap.size 5 i0_ _ 1 1 Try.underlying27 HI.out HZ.out HZ1.out HZ2.out rfl (by omega) (.slice A m c) m (vb pre) rfl HA.out (some ⟨wr.heap.size, 0, none⟩) 1 1 (vb [(x : Int) % 128 + 128]) rfl rfl ?row (vb_one _) (by simp only [maxLen]; omega) (by omega) ?size ?_)
      case row => exact RowAt.of_block (heap_alloc_new wr _)
      case size => have := BW.out.size; simp; omega
      intro A3 c3 w3 own3 gr3 at3
      have B3 := Lib.hid ((balloc BW.out _).grown gr3 (by have := BW.out.size; simp; omega) (own_ge HO.out))
      have HO3 : Hid (w3.ownsRow w.heap.size 5 1 (.slice A3 (m + 1) c3) (m + 1) (vb (pre ++ [((x % 128 + 128 : Nat) : Int)]))) := Lib.hid (by
        rw [vb_app]; exact own3)
      clear own3 gr3 at3 eo
      go_wp2_with fail
      go_roundw
      case rel => exact ⟨x / 128, m + 1, _, A3, c3, by go_num, by omega, rfl, HP2, HO3, B3⟩
      case measure => simp [intOf]; omega
    · have ev := vput_lt (n := x) (by omega)
      have HP2 : Hid ((pre ++ [(x : Int)]) = L ∧ L.length = m + 1) := Lib.hid (by
        obtain ⟨h1, h2⟩ := HP.out
        rw [ev] at h1
        exact ⟨h1, by rw [← h1]; simp [h2]⟩)
      have hm : m + 1 ≤ 10 := by
        have h1 := HP2.out.2; have h3 := HN.out; omega
      clear ev
      have HA := Lib.hid (own_alloc HO.out (.cells #[.int .u8 (x : Int)] 5))
      go_wp2_with (refine wpList_app _ (by rfl) (.tmp 15) (.tmp 18) _ rfl w.heap.size 5 i0_ _ 1 1 Try.underlying27 HI.out HZ.out HZ1.out HZ2.out rfl (by omega) (.slice A m c) m (vb pre) rfl HA.out (some ⟨wr.heap.size, 0, none⟩) 1 1 (vb [(x : Int)]) rfl rfl ?row (vb_one _) (by simp only [maxLen]; omega) (by omega) ?size ?_)
      case row => exact RowAt.of_block (heap_alloc_new wr _)
      case size => have := BW.out.size; simp; omega
      intro A3 c3 w3 own3 gr3 at3
      have B3 := Lib.hid ((balloc BW.out _).grown gr3 (by have := BW.out.size; simp; omega) (own_ge HO.out))
      have HO3 := Lib.hid own3
      clear own3 gr3 at3
      go_wp2_with fail
      go_ret
      have hR := HO3.out
      rw [← vb_app, HP2.out.1] at hR
      exact ⟨A3, c3, by rw [HP2.out.2]; rfl, by rw [HP2.out.2]; exact hR, B3.out⟩
theorem vput_any (N : Nat) (hN : N < 18446744073709551616) (w : World) : Calls Try.prog 53 #[.int .u64 (N : Int)] w (SliceOut w (vput N).length (vb (vput N))) := (vput_own N hN w).mono fun _ _ h => h.out
end Go.Proofs.Ytcbahojefglakaa
