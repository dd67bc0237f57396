/- The walk of the store's Letter. -/
import Derived.Test.YtolhjkpekmmajaaStAdd
import Derived.Test.YtolhjkpekmmajaaWgtROf
namespace Go.Proofs.Ytolhjkpekmmajaa
set_option linter.unusedVariables false
set_option linter.unusedSimpArgs false
open Go.RowKit Go.Lib Go.Maps
attribute [local go_sem ↓] Go.wp_at_zero Go.wp_at_succ
def letE (b : Int) : En := ⟨⟨1, b, 0, 0, 0⟩, wL b, 0, true⟩
theorem SFr.drew {w w' : World} {B S G : Nat} (h : SFr w w' B S G) : SFr w w'.drew B S G := ⟨h.os, h.tape, h.output, h.size, h.keep⟩
set_option maxRecDepth 100000 in
set_option maxHeartbeats 4000000 in
theorem letter_old (L : List En) (b : Int) (b0 : 0 ≤ b) (b1 : b ≤ 255) (p : Nat) (hp : pos (L.map En.r) ⟨1, b, 0, 0, 0⟩ = p) (hp0 : p ≠ 0) (B S G : Nat) (w : World) (st : St w B S G L) :
    Calls Try.prog 62 #[.pointer (some ⟨S, 0, none⟩), .int .u8 b] w fun r w' => r = .returned (.tuple #[.int .i64 p, .nilIface]) ∧ St w' B S G L ∧ SFr w w' B S G := by
  have hr : (⟨1, b, 0, 0, 0⟩ : Rl).Ok := by show RuleOk 1 b 0 0 0; constructor <;> omega
  have HFi : Hid (∀ w, St w B S G L → Calls Try.prog 75 #[.pointer (some ⟨S, 0, none⟩), .agg #[.int .i64 1, .int .u8 b, .int .i64 0, .int .i64 0, .int .i64 0]] w fun e w' => e = .returned (.tuple #[.int .i64 p, .nilIface]) ∧ Below w.heap.size w w') := Lib.hid fun w st => find_old L ⟨1, b, 0, 0, 0⟩ hr p hp hp0 B S G w st
  have HST := Lib.hid st
  have pz : ((p : Int) != 0) = true := by rw [bne_iff_ne]; omega
  have BA := Lib.hid (balloc (Below.refl w.heap.size w) (.cells #[.int .i64 1, .int .u8 b, .int .i64 0, .int .i64 0, .int .i64 0] 147))
  have HSA := Lib.hid (st.below BA.out)
  clear hp hp0 st
  go_enter Try.func62, Try.ntmps62
  go_wp2_with fail
  (with_reducible refine (HFi.out _ HSA.out).mono ?_)
  rintro e w1 ⟨rfl, B1⟩
  have BW1 := Lib.hid (bkeep BA.out B1)
  clear B1
  go_wp2_with fail
  go_ret2
  exact ⟨rfl, HST.out.below BW1.out, SFr.of_below BW1.out _ _ _⟩
set_option maxRecDepth 100000 in
set_option maxHeartbeats 4000000 in
theorem letter_new (L : List En) (b : Int) (b0 : 0 ≤ b) (b1 : b ≤ 255) (hp : pos (L.map En.r) ⟨1, b, 0, 0, 0⟩ = 0) (n : Nat) (hn : n = L.length) (hn1 : n < 1048576) (B S G : Nat) (w : World) (st : St w B S G L) :
    Calls Try.prog 62 #[.pointer (some ⟨S, 0, none⟩), .int .u8 b] w fun r w' => r = .returned (.tuple #[.int .i64 ((n : Int) + 1), .nilIface]) ∧ St w' B S G (L ++ [letE b]) ∧ SFr w w' B S G := by
  have hr : (⟨1, b, 0, 0, 0⟩ : Rl).Ok := by show RuleOk 1 b 0 0 0; constructor <;> omega
  have HFi : Hid (∀ w, St w B S G L → Calls Try.prog 75 #[.pointer (some ⟨S, 0, none⟩), .agg #[.int .i64 1, .int .u8 b, .int .i64 0, .int .i64 0, .int .i64 0]] w fun e w' => e = .returned (.tuple #[.int .i64 0, .nilIface]) ∧ Below w.heap.size w w') := Lib.hid fun w st => find_new L ⟨1, b, 0, 0, 0⟩ hr hp n hn hn1 B S G w st
  obtain ⟨q, hq⟩ : ∃ q, q = wL b := ⟨_, rfl⟩
  have HAd : Hid (∀ w, St w B S G L → Calls Try.prog 76 #[.pointer (some ⟨S, 0, none⟩), .agg #[.int .i64 1, .int .u8 b, .int .i64 0, .int .i64 0, .int .i64 0, .int .i64 q.n, .int .i64 q.l, .int .i64 q.h, .int .i64 q.t, .int .u64 q.v, .int .u64 q.s, .int .i64 0, .bool true]] w fun r w' => r = .returned (.int .i64 ((n : Int) + 1)) ∧ St w' B S G (L ++ [letE b]) ∧ SFr w w' B S G) := Lib.hid fun w st => by rw [hq]; exact sadd_any L (letE b) hr hp n hn hn1 B S G w st
  have HLe := Lib.hid (fun w => wletter_any b b0 b1 w)
  rw [← hq] at HLe
  have BA := Lib.hid (balloc (Below.refl w.heap.size w) (.cells #[.int .i64 1, .int .u8 b, .int .i64 0, .int .i64 0, .int .i64 0] 147))
  have HSA := Lib.hid (st.below BA.out)
  have HX := Lib.hid (Box.new w 147 #[.int .i64 1, .int .u8 b, .int .i64 0, .int .i64 0, .int .i64 0])
  clear hp hn st hq
  go_enter Try.func62, Try.ntmps62
  go_wp2_with fail
  (with_reducible refine (HFi.out _ HSA.out).mono ?_)
  rintro e w1 ⟨rfl, B1⟩
  have BW1 := Lib.hid (bkeep BA.out B1)
  have HS1 := Lib.hid (HSA.out.below B1)
  have HX1 := HX.out.below B1 (by simp)
  have x0 := HX1.cell 0; have x1 := HX1.cell 1; have x2 := HX1.cell 2; have x3 := HX1.cell 3; have x4 := HX1.cell 4
  simp only [List.getElem?_toArray, List.getElem?_cons_zero, List.getElem?_cons_succ] at x0 x1 x2 x3 x4
  have xl := HX1.lt
  clear B1
  go_upto_region 7 with fail
  have HSd := Lib.hid (HS1.out.below (w' := w1.drew) ⟨rfl, rfl, rfl, Nat.le_refl _, fun _ _ => rfl⟩)
  have BWd : Hid (Below w.heap.size w w1.drew) := Lib.hid ⟨BW1.out.os, BW1.out.tape, BW1.out.output, BW1.out.size, BW1.out.block⟩
  go_region_with (first
    | (go_at_call 77; refine (HLe.out _).mono ?_; rintro e w3 ⟨rfl, B3⟩; have HS3 := Lib.hid (HSd.out.below B3); have BW3 := Lib.hid (bkeep BWd.out B3); have HX3 := HX1.drew.below B3 xl; have y0 := HX3.cell 0; have y1 := HX3.cell 1; have y2 := HX3.cell 2; have y3 := HX3.cell 3; have y4 := HX3.cell 4; simp only [List.getElem?_toArray, List.getElem?_cons_zero, List.getElem?_cons_succ] at y0 y1 y2 y3 y4)
    | (go_at_call 76; refine (HAd.out _ ?_).mono ?_; exact HS3.out; rintro e w4 ⟨rfl, st4, fr4⟩))
  all_goals
    go_wp2_with fail
    go_ret2
    exact ⟨rfl, st4, (SFr.of_below BW3.out _ _ _).trans fr4⟩
end Go.Proofs.Ytolhjkpekmmajaa
