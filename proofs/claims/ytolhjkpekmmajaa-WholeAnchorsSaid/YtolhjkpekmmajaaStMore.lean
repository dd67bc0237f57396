/- The walks of the store's Weight at any known ID, Rule, Len. -/
import Derived.Test.YtolhjkpekmmajaaStGood
namespace Go.Proofs.Ytolhjkpekmmajaa
set_option linter.unusedVariables false
set_option linter.unusedSimpArgs false
open Go.RowKit Go.Lib Go.Maps
attribute [local go_sem ↓] Go.wp_at_zero Go.wp_at_succ
set_option maxRecDepth 100000 in
set_option maxHeartbeats 4000000 in
theorem weight_any (L : List En) (x : Int) (h0 : 0 ≤ x) (h1 : x ≤ L.length) (hL : L.length ≤ 1048576) (B S G : Nat) (w : World) (st : St w B S G L) :
    Calls Try.prog 34 #[.pointer (some ⟨S, 0, none⟩), .int .i64 x] w fun r w' => r = .returned (.tuple #[.agg #[.int .i64 (ent L x).w.n, .int .i64 (ent L x).w.l, .int .i64 (ent L x).w.h, .int .i64 (ent L x).w.t, .int .u64 (ent L x).w.v, .int .u64 (ent L x).w.s], .nilIface]) ∧ Below w.heap.size w w' := by
  have HK := Lib.hid (fun w st => known_yes L x h0 h1 B S G w st)
  have HA := Lib.hid (fun w st => at_any L x h0 h1 hL B S G w st)
  obtain ⟨e, he⟩ : ∃ e, e = ent L x := ⟨_, rfl⟩
  rw [← he] at HA ⊢
  obtain ⟨⟨kd, lt_, lf, rg, tm⟩, ⟨n, l, h, t, v, s⟩, dp, ev⟩ := e
  have HA' : Hid (∀ w, St w B S G L → Calls Try.prog 54 #[.pointer (some ⟨S, 0, none⟩), .int .i64 x] w fun r w' => r = .returned (.agg #[.int .i64 kd, .int .u8 lt_, .int .i64 lf, .int .i64 rg, .int .i64 tm, .int .i64 n, .int .i64 l, .int .i64 h, .int .i64 t, .int .u64 v, .int .u64 s, .int .i64 dp, .bool ev]) ∧ Below w.heap.size w w') := HA
  have hf := field_weight kd lt_ lf rg tm n l h t v s dp ev
  have BA := balloc (Below.refl w.heap.size w) (.cells #[.int .i64 0, .int .i64 0, .int .i64 0, .int .i64 0, .int .u64 0, .int .u64 0] 110)
  have HSA := Lib.hid (st.below BA); have HBA := Lib.hid BA
  clear he h0 h1 hL HA st BA
  go_enter Try.func34, Try.ntmps34
  go_wp2_with fail
  (with_reducible refine (HK.out _ HSA.out).mono ?_)
  rintro e w' ⟨rfl, rfl⟩
  go_wp2_with fail
  (with_reducible refine (HA'.out _ HSA.out).mono ?_)
  rintro e w1 ⟨rfl, B1⟩
  have PR : Box w1 w.heap.size 110 #[.int .i64 0, .int .i64 0, .int .i64 0, .int .i64 0, .int .u64 0, .int .u64 0] := (Box.new w _ _).below B1 (by simp)
  have BW := bkeep HBA.out B1
  have y0 := PR.cell 0; have y1 := PR.cell 1; have y2 := PR.cell 2; have y3 := PR.cell 3; have y4 := PR.cell 4; have y5 := PR.cell 5
  simp only [List.getElem?_toArray, List.getElem?_cons_zero, List.getElem?_cons_succ] at y0 y1 y2 y3 y4 y5
  have f0 := PR.free 0; have f1 := PR.free 1; have f2 := PR.free 2; have f3 := PR.free 3; have f4 := PR.free 4; have f5 := PR.free 5
  have HBW := Lib.hid BW
  clear B1 PR BW
  go_wp2_with fail
  refine bodyPost_ret (v := .tuple #[.agg #[.int .i64 n, .int .i64 l, .int .i64 h, .int .i64 t, .int .u64 v, .int .u64 s], .nilIface]) ?_ rfl ⟨rfl, ?_⟩
  · simp only [results, Try.results34]
    simp [go_sem, y0, y1, y2, y3, y4, y5]
  · repeat (first | (with_reducible exact HBW.out) | (with_reducible refine Below.setCell ?_ (by simp) _))
set_option maxRecDepth 100000 in
theorem len_any (L : List En) (B S G : Nat) (w : World) (st : St w B S G L) :
    Calls Try.prog 74 #[.pointer (some ⟨S, 0, none⟩)] w fun r w' => r = .returned (.int .i64 L.length) ∧ w = w' := by
  obtain ⟨⟨A, c, bo, ow⟩, fm, lt, ne⟩ := st
  have c1 : w.cell? ⟨S, 1, none⟩ = some (.slice A L.length c) := bo.cell 1
  obtain ⟨n, hn⟩ : ∃ n, n = L.length := ⟨_, rfl⟩
  rw [← hn] at c1 ⊢
  clear bo ow fm lt ne hn
  go_enter Try.func74, Try.ntmps74
  go_wp2_with fail
  go_ret
  exact ⟨rfl, rfl⟩
set_option maxRecDepth 100000 in
set_option maxHeartbeats 4000000 in
theorem rule_any (L : List En) (x : Int) (h0 : 1 ≤ x) (h1 : x ≤ L.length) (hL : L.length ≤ 1048576) (B S G : Nat) (w : World) (st : St w B S G L) :
    Calls Try.prog 65 #[.pointer (some ⟨S, 0, none⟩), .int .i64 x] w fun r w' => r = .returned (.tuple #[(ent L x).r.val, .nilIface]) ∧ Below w.heap.size w w' := by
  have HK := Lib.hid (fun w st => known_yes L x (by omega) h1 B S G w st)
  have he := ent_at h0 h1
  obtain ⟨k, rfl⟩ : ∃ k : Nat, x = (k : Int) + 1 := ⟨(x - 1).toNat, by omega⟩
  rw [show ((k : Int) + 1 - 1).toNat = k by omega] at he
  obtain ⟨e, hE⟩ : ∃ e, e = ent L ((k : Int) + 1) := ⟨_, rfl⟩
  rw [← hE] at he ⊢
  have slt := st.bo.elim fun _ h => h.elim fun _ h => h.1.lt
  have BA := balloc (Below.refl w.heap.size w) (.cells #[.int .i64 0, .int .u8 0, .int .i64 0, .int .i64 0, .int .i64 0] 147)
  have HSA := Lib.hid (st.below BA); have HBA := Lib.hid BA
  obtain ⟨⟨A, c, bo, ow⟩, fm, lt, ne⟩ := st.below BA
  obtain ⟨wa, hwa⟩ : ∃ wa, wa = w.alloc (.cells #[.int .i64 0, .int .u8 0, .int .i64 0, .int .i64 0, .int .i64 0] 147) := ⟨_, rfl⟩
  have PR : Box wa w.heap.size 147 #[.int .i64 0, .int .u8 0, .int .i64 0, .int .i64 0, .int .i64 0] := by rw [hwa]; exact Box.new w _ _
  rw [← hwa] at bo ow
  have c1 : wa.cell? ⟨S, 1, none⟩ = some (.slice A L.length c) := bo.cell 1
  have hk := (List.getElem?_eq_some_iff.1 he).1
  obtain ⟨ad, hA, hb, d0, d1, d2, d3, d4, d5, d6, d7, d8, d9, d10, d11, d12⟩ := en_row (own_row wa ow) he
  subst hA
  obtain ⟨n, hn⟩ : ∃ n, n = L.length := ⟨_, rfl⟩
  rw [← hn] at c1 hk hL
  have k0 : (0 : Int) ≤ (k : Int) := by omega
  have k1 : (k : Int) < (n : Int) := by omega
  have kz : ((k : Int) + 1 == 0) = false := by rw [beq_eq_false_iff_ne]; omega
  have f0 := PR.free 0; have f1 := PR.free 1; have f2 := PR.free 2; have f3 := PR.free 3; have f4 := PR.free 4
  have HB : Hid (Below w.heap.size w wa) := Lib.hid (by rw [hwa]; exact HBA.out)
  rw [← hwa] at HSA
  obtain ⟨⟨kd, lt_, lf, rg, tm⟩, ⟨en, el, eh, et, evl, es⟩, dp, ev⟩ := e
  simp only at d0 d1 d2 d3 d4 d5 d6 d7 d8 d9 d10 d11 d12
  have HPR := Lib.hid PR
  have y0 := PR.cell 0; have y1 := PR.cell 1; have y2 := PR.cell 2; have y3 := PR.cell 3; have y4 := PR.cell 4
  simp only [List.getElem?_toArray, List.getElem?_cons_zero, List.getElem?_cons_succ] at y0 y1 y2 y3 y4
  have HWA := Lib.hid hwa
  clear bo ow fm lt ne hn he hE HBA BA h0 h1 hwa
  go_enter Try.func65, Try.ntmps65
  go_wp2_with fail
  rw [← HWA.out]
  (with_reducible refine (HK.out _ HSA.out).mono ?_)
  rintro e w' ⟨rfl, rfl⟩
  go_wp2_with fail
  refine bodyPost_ret (v := .tuple #[.agg #[.int .i64 kd, .int .u8 lt_, .int .i64 lf, .int .i64 rg, .int .i64 tm], .nilIface]) ?_ rfl ⟨rfl, ?_⟩
  · simp only [results, Try.results65]
    simp [go_sem, y0, y1, y2, y3, y4]
  · repeat (first | (with_reducible exact HB.out) | (with_reducible refine Below.setCell ?_ (by simp) _))
end Go.Proofs.Ytolhjkpekmmajaa
