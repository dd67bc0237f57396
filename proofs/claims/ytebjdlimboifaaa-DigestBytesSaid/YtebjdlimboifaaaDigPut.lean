/- The walk of evergreenref05.Put: begun. -/
import Derived.Test.YtebjdlimboifaaaDigRef
import Derived.Test.YtebjdlimboifaaaDigBytesPlain
import Derived.Test.YtebjdlimboifaaaAppend
namespace Go.Proofs.Ytebjdlimboifaaa
set_option linter.unusedVariables false
set_option linter.unusedSimpArgs false
open Go.RowKit Go.Lib
attribute [local go_sem ↓] Go.wp_at_zero Go.wp_at_succ
theorem info_u8 : (Try.prog.info? 5).map (fun i => (i.zero, i.size, i.bytes)) = some (some (.int .u8 0), 1, 1) := by kernel_rfl
theorem info_parts5 {o : Option TypeInfo} {z : Value} {s b : Nat} (h : o.map (fun i => (i.zero, i.size, i.bytes)) = some (some z, s, b)) : ∃ i, o = some i ∧ i.zero = some z ∧ i.size = s ∧ i.bytes = b := by
  cases o with
  | none => cases h
  | some i =>
    simp only [Option.map_some, Option.some.injEq, Prod.mk.injEq] at h
    exact ⟨i, rfl, h.1, h.2.1, h.2.2⟩
theorem vb_one (l : List Int) : ∀ u ∈ vb l, u.oneCell' = true := by
  intro u hu
  simp only [vb, List.mem_map] at hu
  obtain ⟨x, _, rfl⟩ := hu
  rfl
theorem own_ge {w : World} {base : Nat} {e : TypeId} {size n : Nat} {v : Value} {xs : List Value} (h : w.ownsRow base e size v n xs) : ∀ k, v.ownBlock = some k → base ≤ k := by
  rcases h.2 with ⟨rfl, _⟩ | ⟨g, cap, cur, rfl, hg, _⟩
  · intro k hk; simp [Value.ownBlock] at hk
  · intro k hk; simp [Value.ownBlock] at hk; omega
theorem own_alloc {w : World} {base : Nat} {e : TypeId} {size n : Nat} {v : Value} {xs : List Value} (h : w.ownsRow base e size v n xs) (o : Obj) : (w.alloc o).ownsRow base e size v n xs := by
  refine ⟨h.1, ?_⟩
  rcases h.2 with h | ⟨g, cap, cur, hv, hg, hc, hr⟩
  · exact .inl h
  · exact .inr ⟨g, cap, cur, hv, hg, (Below.heap_alloc w o g (Box.lt (cs := cur) (t := e) hc)).trans hc, hr⟩
def sel2 (x y : Int) (i : Nat) : Int := if i = 0 then x else y
def acc2 (x y : Int) : Nat → List Int
  | 0 => []
  | i + 1 => acc2 x y i ++ up (sel2 x y i) 8
set_option maxHeartbeats 2000000 in
theorem rput_any (a b : Int) (ha : U a) (hb : U b) (w : World) :
    Calls Try.prog 28 #[.agg #[.int .u64 a, .int .u64 b]] w fun e w' => ∃ A c, e = .returned (.slice A 16 c) ∧ RowAt w' A (vb (acc2 (red a) (red b) 2)) ∧ Below w.heap.size w w' := by
  obtain ⟨i0_, hi, hz0, hz1, hz2⟩ := info_parts5 info_u8
  have HP := Lib.hid (Box.new w 26 #[.int .u64 a, .int .u64 b])
  have HI := Lib.hid hi; have HZ := Lib.hid hz0; have HZ1 := Lib.hid hz1; have HZ2 := Lib.hid hz2
  obtain ⟨x, hx⟩ : ∃ x, x = red a := ⟨_, rfl⟩
  obtain ⟨y, hy⟩ : ∃ y, y = red b := ⟨_, rfl⟩
  have HR := Lib.hid (fun w => rred_any a b ha hb w)
  rw [← hx, ← hy] at HR
  have x0 : 0 ≤ x := hx ▸ red_lo _; have x1 : x < 18446744073709551616 := by have := red_hi a; omega
  have y0 : 0 ≤ y := hy ▸ red_lo _; have y1 : y < 18446744073709551616 := by have := red_hi b; omega
  rw [← hx, ← hy]
  clear hx hy ha hb hi hz0 hz1 hz2
  go_enter Try.func28, Try.ntmps28
  go_wp2_with fail
  (with_reducible refine (HR.out _).mono ?_)
  rintro e w1 ⟨rfl, B1⟩
  have HP1 := HP.out.below B1 HP.out.lt
  have HB1 := Lib.hid B1
  have f0 := HP1.free 0; have f1 := HP1.free 1
  have d0 : w1.cell? ⟨w.heap.size, 0, none⟩ = some (.int .u64 a) := HP1.cell 0
  have d1 : w1.cell? ⟨w.heap.size, 1, none⟩ = some (.int .u64 b) := HP1.cell 1
  clear B1
  go_wp2_with fail
  go_loopw [3, 5, 6, 14] (fun s3 s5 s6 si wr => ∃ (i m : Nat) (A1 : Option Addr) (cc : Nat), si = .int .i64 (i : Int) ∧ i ≤ 2 ∧ s3 = .slice A1 m cc ∧ Hid (m = i * 8) ∧ Hid (wr.ownsRow w.heap.size 5 1 (.slice A1 m cc) m (vb (acc2 x y i))) ∧ Hid (Below w.heap.size w wr)) (fun _ _ _ si _ => 2 - (intOf si).toNat)
  case atStart => exact ⟨0, 0, none, 0, rfl, by omega, rfl, Lib.hid (by simp), Lib.hid ⟨by simp [acc2, vb], .inl ⟨rfl, rfl⟩⟩, Lib.hid (((bkeep (balloc (Below.refl w.heap.size w) _) HB1.out).setCell (by simp) _).setCell (by simp) _)⟩
  case round =>
    obtain ⟨i, m, A1, cc, rfl, hi, rfl, HM, HO, BW⟩ := hrel
    by_cases hlt : i < 2
    · have hix : ∀ w, (Instr.index 61 (.agg #[.int .u64 x, .int .u64 y]) (.int .i64 (i : Int))).run Try.prog w = .ok (.int .u64 (sel2 x y i)) w := by
        match i, hlt with
        | 0, _ => intro _; kernel_rfl
        | 1, _ => intro _; kernel_rfl
      have z0 : 0 ≤ sel2 x y i := by unfold sel2; split <;> assumption
      have z1 : sel2 x y i < 18446744073709551616 := by unfold sel2; split <;> assumption
      obtain ⟨z, hz⟩ : ∃ z, z = sel2 x y i := ⟨_, rfl⟩
      rw [← hz] at hix z0 z1
      have HZZ := Lib.hid hz
      clear hz f0 f1 d0 d1
      have i0 : (0 : Int) ≤ i := by omega
      have i1 : (i : Int) < 2 := by omega
      go_wp2_with fail
      go_loopw [3, 6] (fun s3 s6 wr => ∃ (j m2 : Nat) (A2 : Option Addr) (c2 : Nat), s6 = .int .i64 (7 - (j : Int)) ∧ j ≤ 8 ∧ s3 = .slice A2 m2 c2 ∧ Hid (m2 = i * 8 + j) ∧ Hid (wr.ownsRow w.heap.size 5 1 (.slice A2 m2 c2) m2 (vb (acc2 x y i ++ up z j))) ∧ Hid (Below w.heap.size w wr)) (fun _ s6 _ => (intOf s6 + 1).toNat)
      case atStart => exact ⟨0, m, A1, cc, rfl, by omega, rfl, Lib.hid (by rw [HM.out]; rfl), Lib.hid (by have := HO.out; simpa [up] using this), BW⟩
      case round =>
        obtain ⟨j, m2, A2, c2, rfl, hj, rfl, HM2, HO2, BW2⟩ := hrel
        by_cases hjt : j < 8
        · have q0 : (7 - (j : Int)) ≥ 0 := by omega
          have HA2 := Lib.hid (own_alloc HO2.out (.cells #[.int .u8 (z / 2 ^ (8 * (7 - j)) % 256)] 5))
          have hm2 : m2 + 1 ≤ 17 := by have := HM2.out; omega
          go_wp2_with (refine wpList_app _ (by rfl) (.tmp 21) (.tmp 27) _ rfl w.heap.size 5 i0_ _ 1 1 Try.underlying29 HI.out HZ.out HZ1.out HZ2.out rfl (by omega) (.slice A2 m2 c2) m2 (vb (acc2 x y i ++ up z j)) rfl HA2.out (some ⟨wr.heap.size, 0, none⟩) 1 1 (vb [z / 2 ^ (8 * (7 - j)) % 256]) rfl rfl ?row (vb_one _) (by simp only [maxLen]; omega) (by omega) ?size ?_)
          case row => exact RowAt.of_block (heap_alloc_new wr _)
          case size => have := BW2.out.size; simp; omega
          intro A3 c3 w3 own3 gr3 at3
          have B3 := Lib.hid ((balloc BW2.out _).grown gr3 (by have := BW2.out.size; simp; omega) (own_ge HO2.out))
          have HO3 : Hid (w3.ownsRow w.heap.size 5 1 (.slice A3 (m2 + 1) c3) (m2 + 1) (vb (acc2 x y i ++ up z (j + 1)))) := Lib.hid (by
            have e : vb (acc2 x y i ++ up z (j + 1)) = vb (acc2 x y i ++ up z j) ++ vb [z / 2 ^ (8 * (7 - j)) % 256] := by simp [up, vb]
            rw [e]; exact own3)
          clear own3 gr3 at3
          go_wp2_with fail
          go_roundw
          case rel => exact ⟨j + 1, m2 + 1, A3, c3, by go_num, by omega, rfl, Lib.hid (by have := HM2.out; omega), HO3, B3⟩
          case measure => simp [intOf]; omega
        · obtain rfl : j = 8 := by omega
          have HM3 : Hid (m2 = (i + 1) * 8) := Lib.hid (by have := HM2.out; omega)
          have HO3 : Hid (wr.ownsRow w.heap.size 5 1 (.slice A2 m2 c2) m2 (vb (acc2 x y (i + 1)))) := Lib.hid (by
            have := HO2.out; rw [HZZ.out] at this; exact this)
          clear HO2 HO HM HM2
          go_wp2_with fail
          go_roundw
          case rel => exact ⟨i + 1, m2, A2, c2, by go_num, by omega, rfl, HM3, HO3, BW2⟩
          case measure => simp [intOf]; omega
    · obtain rfl : i = 2 := by omega
      obtain rfl : m = 16 := HM.out
      go_wp2_with fail
      go_ret
      exact ⟨A1, ⟨cc, rfl⟩, own_row _ HO.out, BW.out⟩
end Go.Proofs.Ytebjdlimboifaaa
