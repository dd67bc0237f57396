/- The walks of the store's known, at, Weight. Written by wip/gen/stget.py. -/
import Derived.Test.YtolhjkpekmmajaaStPlain
import Derived.IntWalk
namespace Go.Proofs.Ytolhjkpekmmajaa
set_option linter.unusedVariables false
set_option linter.unusedSimpArgs false
open Go.RowKit Go.Lib
attribute [local go_sem ↓] Go.wp_at_zero Go.wp_at_succ
theorem en_row {w : World} {A : Option Addr} {L : List En} {i : Nat} {e : En} (h : RowAt w A (ec L)) (hx : L[i]? = some e) :
    ∃ ad, A = some ad ∧ (ad.add (i * 13)).block < w.heap.size ∧ w.cell? (ad.add (i * 13)) = some (.int .i64 e.r.kd) ∧ w.cell? ⟨(ad.add (i * 13)).block, (ad.add (i * 13)).off + 1, none⟩ = some (.int .u8 e.r.lt) ∧ w.cell? ⟨(ad.add (i * 13)).block, (ad.add (i * 13)).off + 2, none⟩ = some (.int .i64 e.r.lf) ∧ w.cell? ⟨(ad.add (i * 13)).block, (ad.add (i * 13)).off + 3, none⟩ = some (.int .i64 e.r.rg) ∧ w.cell? ⟨(ad.add (i * 13)).block, (ad.add (i * 13)).off + 4, none⟩ = some (.int .i64 e.r.tm) ∧ w.cell? ⟨(ad.add (i * 13)).block, (ad.add (i * 13)).off + 5, none⟩ = some (.int .i64 e.w.n) ∧ w.cell? ⟨(ad.add (i * 13)).block, (ad.add (i * 13)).off + 6, none⟩ = some (.int .i64 e.w.l) ∧ w.cell? ⟨(ad.add (i * 13)).block, (ad.add (i * 13)).off + 7, none⟩ = some (.int .i64 e.w.h) ∧ w.cell? ⟨(ad.add (i * 13)).block, (ad.add (i * 13)).off + 8, none⟩ = some (.int .i64 e.w.t) ∧ w.cell? ⟨(ad.add (i * 13)).block, (ad.add (i * 13)).off + 9, none⟩ = some (.int .u64 e.w.v) ∧ w.cell? ⟨(ad.add (i * 13)).block, (ad.add (i * 13)).off + 10, none⟩ = some (.int .u64 e.w.s) ∧ w.cell? ⟨(ad.add (i * 13)).block, (ad.add (i * 13)).off + 11, none⟩ = some (.int .i64 e.dp) ∧ w.cell? ⟨(ad.add (i * 13)).block, (ad.add (i * 13)).off + 12, none⟩ = some (.bool e.ev) := by
  obtain ⟨ad, rfl, hal, d0⟩ := h.get (ec_get (j := 0) hx rfl)
  have key : ∀ j u, e.cells[j + 1]? = some u → w.cell? ⟨(ad.add (i * 13)).block, (ad.add (i * 13)).off + (j + 1), none⟩ = some u := by
    intro j u hu
    obtain ⟨a9, e9, _, c9⟩ := h.get (ec_get (j := j + 1) hx hu)
    cases e9
    rw [← add_add_, add_succ_] at c9
    exact c9
  exact ⟨ad, rfl, by rw [block_add]; exact hal, d0, key 0 _ rfl, key 1 _ rfl, key 2 _ rfl, key 3 _ rfl, key 4 _ rfl, key 5 _ rfl, key 6 _ rfl, key 7 _ rfl, key 8 _ rfl, key 9 _ rfl, key 10 _ rfl, key 11 _ rfl⟩
set_option maxRecDepth 100000 in
theorem known_yes (L : List En) (x : Int) (h0 : 0 ≤ x) (h1 : x ≤ L.length) (B S G : Nat) (w : World) (st : St w B S G L) :
    Calls Try.prog 53 #[.pointer (some ⟨S, 0, none⟩), .int .i64 x] w fun e w' => e = .returned (.bool true) ∧ w = w' := by
  obtain ⟨⟨A, c, bo, ow⟩, fm, lt, ne⟩ := st
  have c0 : w.cell? ⟨S, 0, none⟩ = some (.int .i64 1048576) := bo.cell 0
  have c1 : w.cell? ⟨S, 1, none⟩ = some (.slice A L.length c) := bo.cell 1
  obtain ⟨n, hn⟩ : ∃ n, n = L.length := ⟨_, rfl⟩
  rw [← hn] at c1 h1
  clear bo ow fm lt ne hn
  go_enter Try.func53, Try.ntmps53
  go_wp2_with fail
  go_ret
  exact ⟨rfl, rfl⟩
set_option maxRecDepth 100000 in
set_option maxHeartbeats 4000000 in
theorem at_zero (L : List En) (S : Nat) (w : World) :
    Calls Try.prog 54 #[.pointer (some ⟨S, 0, none⟩), .int .i64 0] w fun e w' => e = .returned (.agg en0.cells.toArray) ∧ Below w.heap.size w w' := by
  go_enter Try.func54, Try.ntmps54
  go_wp2_with fail
  (with_reducible refine (wunit_any _).mono ?_)
  rintro e w1 ⟨rfl, B1⟩
  have PR : Box w1 w.heap.size 149 #[.int .i64 0, .int .u8 0, .int .i64 0, .int .i64 0, .int .i64 0, .int .i64 0, .int .i64 0, .int .i64 0, .int .i64 0, .int .u64 0, .int .u64 0, .int .i64 0, .bool false] := (Box.new w _ _).below B1 (by simp)
  have BW := bkeep (balloc (Below.refl _ _) _) B1
  have y0 := PR.cell 0; have y1 := PR.cell 1; have y2 := PR.cell 2; have y3 := PR.cell 3; have y4 := PR.cell 4; have y5 := PR.cell 5; have y6 := PR.cell 6; have y7 := PR.cell 7; have y8 := PR.cell 8; have y9 := PR.cell 9; have y10 := PR.cell 10; have y11 := PR.cell 11; have y12 := PR.cell 12
  simp only [List.getElem?_toArray, List.getElem?_cons_zero, List.getElem?_cons_succ] at y0 y1 y2 y3 y4 y5 y6 y7 y8 y9 y10 y11 y12
  have f0 := PR.free 0; have f1 := PR.free 1; have f2 := PR.free 2; have f3 := PR.free 3; have f4 := PR.free 4; have f5 := PR.free 5; have f6 := PR.free 6; have f7 := PR.free 7; have f8 := PR.free 8; have f9 := PR.free 9; have f10 := PR.free 10; have f11 := PR.free 11; have f12 := PR.free 12
  have HBW := Lib.hid BW
  have HPR : Hid (Box ((((((((((((((w1.setCell ⟨w.heap.size, 0, none⟩ (.int .i64 0)).setCell ⟨w.heap.size, 1, none⟩ (.int .u8 0)).setCell ⟨w.heap.size, 2, none⟩ (.int .i64 0)).setCell ⟨w.heap.size, 3, none⟩ (.int .i64 0)).setCell ⟨w.heap.size, 4, none⟩ (.int .i64 0)).setCell ⟨w.heap.size, 5, none⟩ (.int .i64 0)).setCell ⟨w.heap.size, 6, none⟩ (.int .i64 0)).setCell ⟨w.heap.size, 7, none⟩ (.int .i64 0)).setCell ⟨w.heap.size, 8, none⟩ (.int .i64 0)).setCell ⟨w.heap.size, 9, none⟩ (.int .u64 0)).setCell ⟨w.heap.size, 10, none⟩ (.int .u64 1)).setCell ⟨w.heap.size, 11, none⟩ (.int .i64 0)).setCell ⟨w.heap.size, 12, none⟩ (.bool true))) w.heap.size 149 en0.cells.toArray) := Lib.hid (by
    have hq : ((((((((((((((#[.int .i64 0, .int .u8 0, .int .i64 0, .int .i64 0, .int .i64 0, .int .i64 0, .int .i64 0, .int .i64 0, .int .i64 0, .int .u64 0, .int .u64 0, .int .i64 0, .bool false] : Array Value).setIfInBounds 0 (.int .i64 0)).setIfInBounds 1 (.int .u8 0)).setIfInBounds 2 (.int .i64 0)).setIfInBounds 3 (.int .i64 0)).setIfInBounds 4 (.int .i64 0)).setIfInBounds 5 (.int .i64 0)).setIfInBounds 6 (.int .i64 0)).setIfInBounds 7 (.int .i64 0)).setIfInBounds 8 (.int .i64 0)).setIfInBounds 9 (.int .u64 0)).setIfInBounds 10 (.int .u64 1)).setIfInBounds 11 (.int .i64 0)).setIfInBounds 12 (.bool true)) = en0.cells.toArray := by kernel_rfl
    rw [← hq]
    with_reducible exact (((((((((((((PR.set_ 0 (.int .i64 0)).set_ 1 (.int .u8 0)).set_ 2 (.int .i64 0)).set_ 3 (.int .i64 0)).set_ 4 (.int .i64 0)).set_ 5 (.int .i64 0)).set_ 6 (.int .i64 0)).set_ 7 (.int .i64 0)).set_ 8 (.int .i64 0)).set_ 9 (.int .u64 0)).set_ 10 (.int .u64 1)).set_ 11 (.int .i64 0)).set_ 12 (.bool true)))
  clear B1 PR BW
  go_wp2_with fail
  refine bodyPost_ret (v := .agg en0.cells.toArray) (results_cell_row Try.results54 _ _ w.heap.size 149 en0.cells.toArray (0, 0) _ rfl HPR.out Try.underlying149 rfl (by kernel_rfl)) rfl ⟨rfl, ?_⟩
  repeat (first | (with_reducible exact HBW.out) | (with_reducible refine Below.setCell ?_ (by simp) _))
set_option maxRecDepth 100000 in
set_option maxHeartbeats 4000000 in
theorem at_rule (L : List En) (k : Nat) (e : En) (he : L[k]? = some e) (hL : L.length ≤ 1048576) (B S G : Nat) (w : World) (st : St w B S G L) :
    Calls Try.prog 54 #[.pointer (some ⟨S, 0, none⟩), .int .i64 ((k : Int) + 1)] w fun r w' => r = .returned (.agg e.cells.toArray) ∧ Below w.heap.size w w' := by
  obtain ⟨⟨A, c, bo, ow⟩, fm, lt, ne⟩ := st
  have c1 : w.cell? ⟨S, 1, none⟩ = some (.slice A L.length c) := bo.cell 1
  have slt := bo.lt
  have hk := (List.getElem?_eq_some_iff.1 he).1
  obtain ⟨ad, hA, hb, d0, d1, d2, d3, d4, d5, d6, d7, d8, d9, d10, d11, d12⟩ := en_row (own_row w ow) he
  subst hA
  obtain ⟨n, hn⟩ : ∃ n, n = L.length := ⟨_, rfl⟩
  rw [← hn] at c1 hk hL
  have k0 : (0 : Int) ≤ (k : Int) := by omega
  have k1 : (k : Int) < (n : Int) := by omega
  have kz : ((k : Int) + 1 == 0) = false := by rw [beq_eq_false_iff_ne]; omega
  have BW0 := Lib.hid (balloc (Below.refl w.heap.size w) (.cells #[.int .i64 0, .int .u8 0, .int .i64 0, .int .i64 0, .int .i64 0, .int .i64 0, .int .i64 0, .int .i64 0, .int .i64 0, .int .u64 0, .int .u64 0, .int .i64 0, .bool false] 149))
  clear bo ow fm lt ne hn he
  go_enter Try.func54, Try.ntmps54
  go_wp2_with fail
  refine bodyPost_ret (v := .agg e.cells.toArray) (results_cell_row Try.results54 _ _ w.heap.size 149 e.cells.toArray (0, 0) _ rfl (Box.new w _ _) Try.underlying149 rfl (by kernel_rfl)) rfl ⟨rfl, balloc (Below.refl _ _) _⟩
end Go.Proofs.Ytolhjkpekmmajaa
