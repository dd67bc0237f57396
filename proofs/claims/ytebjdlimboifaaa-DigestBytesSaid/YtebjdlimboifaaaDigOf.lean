/- The walk of digest.Of. -/
import Derived.Test.YtebjdlimboifaaaDig
namespace Go.Proofs.Ytebjdlimboifaaa
set_option linter.unusedVariables false
set_option linter.unusedSimpArgs false
open Go.RowKit Go.Lib

def vb (l : List Int) : List Value := l.map (.int .u8)
theorem vb_get {l : List Int} {k : Nat} (hk : k < l.length) : (vb l)[k]? = some (.int .u8 (l[k]'hk)) := by simp [vb, hk]
def U8s (l : List Int) : Prop := ∀ x ∈ l, 0 ≤ x ∧ x ≤ 255
def dStep (d : Int × Int) (b : Int) : Int × Int := (red (d.1 * 1103515245 + (b + 1)), red (d.2 * 1103515245))
def dOf (l : List Int) : Int × Int := l.foldl dStep (0, 1)
theorem dOf_step (l : List Int) (k : Nat) (hk : k < l.length) : dOf (l.take (k + 1)) = dStep (dOf (l.take k)) l[k] := by
  unfold dOf
  rw [List.take_succ_eq_append_getElem hk, List.foldl_append]
  rfl

attribute [local go_sem ↓] Go.wp_at_zero Go.wp_at_succ
set_option maxHeartbeats 2000000 in
theorem of_any (l : List Int) (n c : Nat) (A : Option Addr) (hl : l.length = n) (hn : n ≤ 9223372036854775807) (hb : U8s l) (w : World) (ha : RowAt w A (vb l)) :
    Calls Try.prog 15 #[.slice A n c] w fun e w' => e = .returned (.agg #[.int .u64 (dOf l).1, .int .u64 (dOf l).2]) ∧ Below w.heap.size w w' := by
  have HA := Lib.hid ha; have HL := Lib.hid hl; have HB := Lib.hid hb
  clear ha hl hb
  go_enter Try.func15, Try.ntmps15
  go_wp2_with fail
  (with_reducible refine (unit_any _).mono ?_)
  rintro e w1 ⟨rfl, B1⟩
  have z1 : w.heap.size < w1.heap.size := by have hz := B1.size; simp at hz; omega
  have X1 := Lib.hid ((Box.new w _ _).below B1 (by simp))
  have bw := Lib.hid (((Below.refl w.heap.size w).alloc (Nat.le_refl _) _).trans (B1.mono (by simp)))
  clear B1
  go_wp2_with fail
  go_loopw [9] (fun si wr => ∃ (k : Nat) (V S : Int), si = .int .i64 k ∧ k ≤ n ∧ Hid ((V, S) = dOf (l.take k)) ∧ U V ∧ U S ∧ Hid (Box wr w.heap.size 26 #[.int .u64 0, .int .u64 0]) ∧ Hid (Box wr w1.heap.size 26 #[.int .u64 V, .int .u64 S]) ∧ Hid (Below w.heap.size w wr)) (fun si _ => n - (intOf si).toNat)
  case atStart => exact ⟨0, 0, 1, rfl, by omega, Lib.hid rfl, ⟨by omega, by omega⟩, ⟨by omega, by omega⟩, Lib.hid (X1.out.alloc _), Lib.hid (Box.new w1 _ _), Lib.hid (bw.out.alloc (by omega) _)⟩
  case round =>
    obtain ⟨k, V, S, rfl, hk, H, hV, hS, BX, DX, BW⟩ := hrel
    have d0 : wr.cell? ⟨w1.heap.size, 0, none⟩ = some (.int .u64 V) := DX.out.cell 0
    have d1 : wr.cell? ⟨w1.heap.size, 1, none⟩ = some (.int .u64 S) := DX.out.cell 1
    have f0 := DX.out.free 0; have f1 := DX.out.free 1
    have glt := DX.out.lt
    by_cases hlt : k < n
    · have hkl : k < l.length := by rw [HL.out]; exact hlt
      obtain ⟨ad, rfl, g1, c1⟩ := HA.out.get (vb_get hkl)
      obtain ⟨b0, b1⟩ := HB.out _ (List.getElem_mem hkl)
      obtain ⟨z, hz⟩ : ∃ z, z = l[k] := ⟨_, rfl⟩
      rw [← hz] at c1 b0 b1
      have c2 := (BW.out.cell (p := ad.add k) (by rw [block_add]; exact g1)).trans c1
      have H2 : Hid ((red (V * 1103515245 + (z + 1)), red (S * 1103515245)) = dOf (l.take (k + 1))) := Lib.hid (by rw [dOf_step l k hkl, ← H.out, ← hz]; rfl)
      clear hz H c1
      go_wp2_with fail
      go_region_with (first
        | (go_at_call 13; ((with_reducible refine (letter_any z b0 b1 _).mono ?_)); rintro e wa ⟨rfl, Ba⟩; have Da := DX.out.via Ba rfl (by first | omega | (simp; done) | (simp; omega)); have Xa := BX.out.via Ba rfl (by first | omega | (simp; done) | (simp; omega)); have Wa := Below.via BW.out Ba rfl rfl rfl rfl (by first | omega | (simp; done) | (simp; omega)); have a0 : wa.cell? ⟨w1.heap.size, 0, none⟩ = some (.int .u64 V) := Da.cell 0; have a1 : wa.cell? ⟨w1.heap.size, 1, none⟩ = some (.int .u64 S) := Da.cell 1; have za := Da.lt)
        | (go_at_call 16; ((with_reducible refine (join_any V S (z + 1) 1103515245 hV hS ⟨by omega, by omega⟩ ⟨by omega, by omega⟩ _).mono ?_)); rintro e wb ⟨rfl, Bb⟩; have Db := Da.via Bb rfl (by first | omega | (simp; done) | (simp; omega)); have Xb := Xa.via Bb rfl (by first | omega | (simp; done) | (simp; omega)); have Wb := Below.via Wa Bb rfl rfl rfl rfl (by first | omega | (simp; done) | (simp; omega)); have b0 : wb.cell? ⟨w1.heap.size, 0, none⟩ = some (.int .u64 V) := Db.cell 0; have b1 : wb.cell? ⟨w1.heap.size, 1, none⟩ = some (.int .u64 S) := Db.cell 1; have f0 := Db.free 0; have f1 := Db.free 1))
      all_goals
        go_wp2_with fail
        go_roundw
        case rel =>
          refine ⟨k + 1, _, _, by go_num, by omega, H2, u_red _, u_red _, Lib.hid ?_, Lib.hid ?_, Lib.hid ?_⟩
          · first | exact (Xb.far (by simp; omega) _).far (by simp; omega) _ | exact ((Xb.far (by simp; omega) _).far (by simp; omega) _).drew
          · first | exact (Db.set_ 0 _).set_ 1 _ | exact ((Db.set_ 0 _).set_ 1 _).drew
          · first | exact (Wb.setCell (by simp; omega) _).setCell (by simp; omega) _ | exact ((Wb.setCell (by simp; omega) _).setCell (by simp; omega) _).drew
        case measure => simp [intOf]; omega
    · obtain rfl : k = n := by omega
      have E : Hid ((V, S) = dOf l) := Lib.hid (by have := H.out; rwa [List.take_of_length_le (by rw [HL.out]; exact Nat.le_refl _)] at this)
      have x0 : wr.cell? ⟨w.heap.size, 0, none⟩ = some (.int .u64 0) := BX.out.cell 0
      have x1 : wr.cell? ⟨w.heap.size, 1, none⟩ = some (.int .u64 0) := BX.out.cell 1
      have g0 := BX.out.free 0; have g1 := BX.out.free 1
      clear H
      go_wp2_with fail
      refine bodyPost_ret (v := .agg #[.int .u64 V, .int .u64 S]) ?_ rfl ⟨by rw [← E.out], ?_⟩
      · simp only [results, Try.results15]
        simp [go_sem, x0, x1]
      · exact (BW.out.setCell (by simp) _).setCell (by simp) _
end Go.Proofs.Ytebjdlimboifaaa
