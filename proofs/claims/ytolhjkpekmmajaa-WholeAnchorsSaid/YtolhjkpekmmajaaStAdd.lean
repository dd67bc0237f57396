/- The walk of the store's add. Written by wip/gen/stadd.py. -/
import Derived.Test.YtolhjkpekmmajaaStFind
import Derived.Deep.RegionLaw
namespace Go.Proofs.Ytolhjkpekmmajaa
set_option linter.unusedVariables false
set_option linter.unusedSimpArgs false
open Go.RowKit Go.Lib Go.Maps
attribute [local go_sem ↓] Go.wp_at_zero Go.wp_at_succ
theorem info_entry : (Try.prog.info? 149).map (fun i => (i.zero, i.size, i.bytes)) = some (some (.agg #[.int .i64 0, .int .u8 0, .int .i64 0, .int .i64 0, .int .i64 0, .int .i64 0, .int .i64 0, .int .i64 0, .int .i64 0, .int .u64 0, .int .u64 0, .int .i64 0, .bool false]), 13, 104) := by kernel_rfl
theorem step_app {P : Program} {ops : Array Oper} {o : Oper} {a : Act} {w : World} {K : Act → World → Prop} {Q : Exit → Act → World → Prop} {E : Prop} (hg : o.guard = none) (s x : Operand) (t : TypeId)
    (ho : o.op = .call { callee := .builtin .append, args := #[s, x], argTypes := #[t, t] })
    (base : Nat) (e : TypeId) (i : TypeInfo) (z : Value) (size bytes : Nat) (ht : P.underlying t = some (.slice e)) (hi : P.info? e = some i) (hz : i.zero = some z)
    (hsize : i.size = size) (hby : i.bytes = bytes) (hzs : z.cells.size = size) (hsz : 0 < size)
    (v : Value) (n : Nat) (xs : List Value) (hs : a.eval s = v) (hown : w.ownsRow base e size v n xs)
    (A : Option Addr) (m c : Nat) (news : List Value) (hx : a.eval x = .slice A m c) (hl : news.length = m * size) (hr : RowAt w A news) (h1 : ∀ u ∈ news, u.oneCell' = true)
    (h63 : n + m ≤ maxLen) (hbytes : (n + m) * bytes ≤ 140737488355328) (hbase : base ≤ w.heap.size)
    (h : ∀ A' c' w', w'.ownsRow base e size (.slice A' (n + m) c') (n + m) (xs ++ news) → w.grownBy w' v.ownBlock → ((Value.slice A' (n + m) c').ownBlock = v.ownBlock ∨ (Value.slice A' (n + m) c').ownBlock = some w.heap.size) → K (a.put o.dst (.slice A' (n + m) c')) w') :
    if Region.wanted o (yielded ops a.tmps) = true then Oper.wp P o a w K Q else E := by
  have hw : Region.wanted o (yielded ops a.tmps) = true := by simp [Region.wanted, hg]
  rw [if_pos hw]
  exact wp_app w s x t ho base e i z size bytes ht hi hz hsize hby hzs hsz v n xs hs hown A m c news hx hl hr h1 h63 hbytes hbase h
theorem wp_first_store {o : Oper} {a : Act} {w : World} {K : Act → World → Prop} {Q : Exit → Act → World → Prop} (m x v : Operand) (hop : o.op = Op.mapUpdate 116 m x v) (b n : Nat) (out : List Rl) (hm : a.eval m = .map (some b)) (hF : FirstMap w b n out) (hn : n < maxLen) (r : Rl) (hr : r.Ok) (hx : a.eval x = r.val)
    (hnew : pos out r = 0) (k : Int) (hk : k = ((out.length + 1 : Nat) : Int)) (hk1 : k ≤ 9223372036854775807) (hv : a.eval v = .int .i64 k)
    (hK : ∀ w', FirstMap w' b (n + 1) (out ++ [r]) → w.grownBy w' (some b) → K (a.put o.dst undef) w') : o.wp Try.prog a w K Q := by
  obtain ⟨D, hown, hD⟩ := hF
  obtain ⟨l, hl⟩ := rule_key r hr
  obtain ⟨w', hrun, h1, h2⟩ := hown.update key_law Try.underlying116 hn hl (plainElem_int Try.underlying56 (WalkArith.wf_i64 ⟨by omega, hk1⟩) : plainElem Try.prog 56 (.int .i64 k) = some (.lit (.int .i64 k), []))
  unfold Oper.wp
  simp [execOp, hop, hm, hx, hv, hrun, Result.andThen]
  refine hK w' ⟨_, h1, fun y hy ly hly => ?_⟩ h2
  by_cases e : y = r
  · subst e
    rw [hl] at hly
    cases hly
    rw [atKey_put_same hown.isMap (key_law.key hl), has_put_same hown.isMap (key_law.key hl), pos_new out y hnew, hk]
    exact ⟨rfl, by simp⟩
  · have hne : ly ≠ l := fun h => e (rule_inj (key_law.inj hly (h ▸ hl)))
    rw [atKey_put_other hne, has_put_other hne, pos_old out r y e]
    exact hD y hy ly hly
theorem own_kept2 {w w' : World} {base : Nat} {e : TypeId} {size n : Nat} {v : Value} {xs : List Value} (h : w.ownsRow base e size v n xs) (hk : ∀ k, v.ownBlock = some k → w'.heap[k]? = w.heap[k]?) : w'.ownsRow base e size v n xs := by
  refine ⟨h.1, ?_⟩
  rcases h.2 with h | ⟨g, cap, cur, hv, hg, hc, hr⟩
  · exact .inl h
  · exact .inr ⟨g, cap, cur, hv, hg, (hk g (by rw [hv]; simp [Value.ownBlock])).trans hc, hr⟩
theorem wp_nm {Pr : Program} {code : Code} {Q : Exit → Act → World → Prop} {a : Act} {w : World} (F : World → Prop) (h : F w) (k : ∀ w5, F w5 → Code.wp Pr code Q a w5) : Code.wp Pr code Q a w := k w h
theorem Box.grown {w w' : World} {g : Nat} {t : TypeId} {cs : Array Value} (h : Box w g t cs) {row : Option Nat} (gr : w.grownBy w' row) (hr : row ≠ some g) : Box w' g t cs := (gr.block g h.lt (fun e => hr e.symm)).trans h
theorem own_lt {w : World} {base : Nat} {e : TypeId} {size n : Nat} {v : Value} {xs : List Value} (h : w.ownsRow base e size v n xs) : ∀ k, v.ownBlock = some k → k < w.heap.size := by
  rcases h.2 with ⟨rfl, _⟩ | ⟨g, cap, cur, rfl, hg, hc, _⟩
  · intro k hk; simp [Value.ownBlock] at hk
  · intro k hk
    simp [Value.ownBlock] at hk
    subst hk
    exact Box.lt (cs := cur) (t := e) hc
set_option maxRecDepth 100000 in
set_option maxHeartbeats 8000000 in
theorem sadd_any (L : List En) (e : En) (hr : e.r.Ok) (hp : pos (L.map En.r) e.r = 0) (n : Nat) (hn : n = L.length) (hn1 : n < 1048576) (B S G : Nat) (w : World) (st : St w B S G L) :
    Calls Try.prog 76 #[.pointer (some ⟨S, 0, none⟩), .agg e.cells.toArray] w fun r w' => r = .returned (.int .i64 ((n : Int) + 1)) ∧ St w' B S G (L ++ [e]) ∧ SFr w w' B S G := by
  obtain ⟨i0_, hi, hz0, hz1, hz2⟩ := info_parts5 info_entry
  have HI := Lib.hid hi; have HZ := Lib.hid hz0; have HZ1 := Lib.hid hz1; have HZ2 := Lib.hid hz2
  obtain ⟨⟨A, c, bo, ow⟩, fm, lt, ne⟩ := st
  obtain ⟨l1, l2, l3⟩ := lt
  rw [← hn] at bo ow fm
  have hob := Lib.hid (own_ge ow); have hol := Lib.hid (own_lt ow)
  have HP := Lib.hid hp; have HR := Lib.hid hr; have HN := Lib.hid hn; have HOw := Lib.hid ow
  have HE : Hid (e.cells = e.cells) := Lib.hid rfl
  obtain ⟨⟨kd, lt_, lf, rg, tm⟩, ⟨wn, wl, wh, wt_, wv, ws⟩, dp, ev⟩ := e
  show Calls Try.prog 76 #[.pointer (some ⟨S, 0, none⟩), .agg #[.int .i64 kd, .int .u8 lt_, .int .i64 lf, .int .i64 rg, .int .i64 tm, .int .i64 wn, .int .i64 wl, .int .i64 wh, .int .i64 wt_, .int .u64 wv, .int .u64 ws, .int .i64 dp, .bool ev]] w _
  obtain ⟨w1, hw1⟩ : ∃ w1, w1 = w.alloc (.cells #[.int .i64 kd, .int .u8 lt_, .int .i64 lf, .int .i64 rg, .int .i64 tm, .int .i64 wn, .int .i64 wl, .int .i64 wh, .int .i64 wt_, .int .u64 wv, .int .u64 ws, .int .i64 dp, .bool ev] 149) := ⟨_, rfl⟩
  obtain ⟨GE, hGE⟩ : ∃ GE, GE = w.heap.size := ⟨_, rfl⟩
  have HX : Box w1 GE 149 #[.int .i64 kd, .int .u8 lt_, .int .i64 lf, .int .i64 rg, .int .i64 tm, .int .i64 wn, .int .i64 wl, .int .i64 wh, .int .i64 wt_, .int .u64 wv, .int .u64 ws, .int .i64 dp, .bool ev] := by rw [hw1, hGE]; exact Box.new w _ _
  have HB1 : Box w1 S 119 #[.int .i64 1048576, .slice A n c, .map (some G)] := by rw [hw1]; exact bo.alloc _
  have HO1 := Lib.hid (show w1.ownsRow B 149 13 (.slice A n c) n (ec L) by rw [hw1]; exact own_alloc ow _)
  have HF1 := Lib.hid (show FirstMap w1 G n (L.map En.r) by rw [hw1]; exact fm.alloc _)
  have BW1 := Lib.hid (show Below w.heap.size w w1 by rw [hw1]; exact balloc (Below.refl _ _) _)
  have c1 : w1.cell? ⟨S, 1, none⟩ = some (.slice A n c) := HB1.cell 1
  have z1 : w1.heap.size = GE + 1 := by rw [hw1, hGE]; simp
  have gS : S < GE := by rw [hGE]; exact bo.lt
  have gG : G < GE := by rw [hGE]; exact fm.lt
  have gB : B ≤ GE := by rw [hGE]; exact l3
  have E0 := HX.cell 0; have E1 := HX.cell 1; have E2 := HX.cell 2; have E3 := HX.cell 3; have E4 := HX.cell 4; have E5 := HX.cell 5; have E6 := HX.cell 6; have E7 := HX.cell 7; have E8 := HX.cell 8; have E9 := HX.cell 9; have E10 := HX.cell 10; have E11 := HX.cell 11; have E12 := HX.cell 12
  simp only [List.getElem?_toArray, List.getElem?_cons_zero, List.getElem?_cons_succ] at E0 E1 E2 E3 E4 E5 E6 E7 E8 E9 E10 E11 E12
  have HHX := Lib.hid HX; have HHB := Lib.hid HB1; have HW1 := Lib.hid hw1; have HGE := Lib.hid hGE; have Z1 := Lib.hid z1
  clear hi hz0 hz1 hz2 bo ow fm hp hr hn HX HB1 z1
  go_enter Try.func76, Try.ntmps76
  go_upto_region 1 with fail
  rw [← hw1, ← hGE]
  clear hw1 hGE
  have X6 := Lib.hid (RowAt.of_block (Box.new w1.drew 149 #[.int .i64 kd, .int .u8 lt_, .int .i64 lf, .int .i64 rg, .int .i64 tm, .int .i64 wn, .int .i64 wl, .int .i64 wh, .int .i64 wt_, .int .u64 wv, .int .u64 ws, .int .i64 dp, .bool ev]))
  have HO6 := Lib.hid (own_alloc (show w1.drew.ownsRow B 149 13 (.slice A n c) n (ec L) from HO1.out) (.cells #[.int .i64 kd, .int .u8 lt_, .int .i64 lf, .int .i64 rg, .int .i64 tm, .int .i64 wn, .int .i64 wl, .int .i64 wh, .int .i64 wt_, .int .u64 wv, .int .u64 ws, .int .i64 dp, .bool ev] 149))
  have sS : S < w1.heap.size := HHB.out.lt
  have c1d : (w1.drew.alloc (.cells #[.int .i64 kd, .int .u8 lt_, .int .i64 lf, .int .i64 rg, .int .i64 tm, .int .i64 wn, .int .i64 wl, .int .i64 wh, .int .i64 wt_, .int .u64 wv, .int .u64 ws, .int .i64 dp, .bool ev] 149)).cell? ⟨S, 1, none⟩ = some (.slice A n c) := ((HHB.out.drew).alloc _).cell 1
  go_region_law (refine step_app rfl (.tmp 10) (.tmp 12) _ rfl B 149 i0_ _ 13 104 Try.underlying117 HI.out HZ.out HZ1.out HZ2.out rfl (by omega) (.slice A n c) n (ec L) rfl HO6.out (some ⟨w1.heap.size, 0, none⟩) 1 1 (En.cells ⟨⟨kd, lt_, lf, rg, tm⟩, ⟨wn, wl, wh, wt_, wv, ws⟩, dp, ev⟩) rfl rfl X6.out (en_one _) (by simp only [maxLen]; omega) (by omega) (by have := Z1.out; simp; omega) ?_; intro A7 d7 w7 own7 gr7 at7; have HB7 := ((HHB.out.drew).alloc (.cells #[.int .i64 kd, .int .u8 lt_, .int .i64 lf, .int .i64 rg, .int .i64 tm, .int .i64 wn, .int .i64 wl, .int .i64 wh, .int .i64 wt_, .int .u64 wv, .int .u64 ws, .int .i64 dp, .bool ev] 149)).grown gr7 (fun q => by have := hob.out _ q; omega); have c7 : w7.cell? ⟨S, 1, none⟩ = some (.slice A n c) := HB7.cell 1; have f7 := HB7.free 1)
  all_goals
    have hq := own_ge own7
    have hql := own_lt own7
    have HB8 := Lib.hid (HB7.set_ 1 (.slice A7 (n + 1) d7))
    have HX8 := Lib.hid ((((HHX.out.drew).alloc (.cells #[.int .i64 kd, .int .u8 lt_, .int .i64 lf, .int .i64 rg, .int .i64 tm, .int .i64 wn, .int .i64 wl, .int .i64 wh, .int .i64 wt_, .int .u64 wv, .int .u64 ws, .int .i64 dp, .bool ev] 149)).grown gr7 (fun q => by have := hol.out _ q; have := HGE.out; omega)).far (p := ⟨S, 1, none⟩) (by simp; omega) (.slice A7 (n + 1) d7))
    have HF8 := Lib.hid ((((HF1.out.below (w' := w1.drew) ⟨rfl, rfl, rfl, Nat.le_refl _, fun _ _ => rfl⟩ HF1.out.lt).alloc (.cells #[.int .i64 kd, .int .u8 lt_, .int .i64 lf, .int .i64 rg, .int .i64 tm, .int .i64 wn, .int .i64 wl, .int .i64 wh, .int .i64 wt_, .int .u64 wv, .int .u64 ws, .int .i64 dp, .bool ev] 149)).grown gr7 (fun q => by have := hob.out _ q; omega)).set (p := ⟨S, 1, none⟩) (fun q => ne q.symm) (.slice A7 (n + 1) d7))
    have HO8 := Lib.hid (own_kept2 (w' := w7.setCell ⟨S, 1, none⟩ (.slice A7 (n + 1) d7)) own7 fun k hk => Below.heap_setCell w7 ⟨S, 1, none⟩ (.slice A7 (n + 1) d7) k (by have := hq k hk; simp; omega))
    have GR7 := Lib.hid gr7; have HQ := Lib.hid hq
    have b1 : (w7.setCell ⟨S, 1, none⟩ (.slice A7 (n + 1) d7)).cell? ⟨S, 1, none⟩ = some (.slice A7 (n + 1) d7) := HB8.out.cell 1
    go_upto_region 3 with fail
    refine wp_nm (fun w8 => Hid (Box w8 S 119 #[.int .i64 1048576, .slice A7 (n + 1) d7, .map (some G)]) ∧ Hid (Box w8 GE 149 #[.int .i64 kd, .int .u8 lt_, .int .i64 lf, .int .i64 rg, .int .i64 tm, .int .i64 wn, .int .i64 wl, .int .i64 wh, .int .i64 wt_, .int .u64 wv, .int .u64 ws, .int .i64 dp, .bool ev]) ∧ Hid (FirstMap w8 G n (L.map En.r)) ∧ Hid (w8.ownsRow B 149 13 (.slice A7 (n + 1) d7) (n + 1) (ec L ++ En.cells ⟨⟨kd, lt_, lf, rg, tm⟩, ⟨wn, wl, wh, wt_, wv, ws⟩, dp, ev⟩)) ∧ Hid (w8 = w7.setCell ⟨S, 1, none⟩ (.slice A7 (n + 1) d7))) ⟨HB8, HX8, HF8, HO8, Lib.hid rfl⟩ ?_
    clear b1 c7 f7 HB7 own7 gr7 at7 hq hql HB8 HX8 HF8 HO8
    rintro w8 ⟨HB8, HX8, HF8, HO8, HW8⟩
    have m2 : w8.cell? ⟨S, 2, none⟩ = some (.map (some G)) := HB8.out.cell 2
    have r0 := HX8.out.cell 0; have r1 := HX8.out.cell 1; have r2 := HX8.out.cell 2; have r3 := HX8.out.cell 3; have r4 := HX8.out.cell 4
    simp only [List.getElem?_toArray, List.getElem?_cons_zero, List.getElem?_cons_succ] at r0 r1 r2 r3 r4
    have HFd := Lib.hid (HF8.out.below (w' := w8.drew) ⟨rfl, rfl, rfl, Nat.le_refl _, fun _ _ => rfl⟩ HF8.out.lt)
    refine wp_region_any (by kernel_rfl) ?_
    (try (change wpAny _ _ _ _ _ _ _ (World.drew _)))
    refine wpAny_take (i := 0) (v := ?_) rfl (by kernel_rfl) (by kernel_rfl) (by kernel_rfl) (fun _ _ _ h => h) (Or.inl ⟨by rfl, ?_⟩) ?_
    rotate_left
    · intro w; go_simp; (first | done | with_reducible rfl)
    refine wpAny_take (i := 1) (v := ?_) rfl (by kernel_rfl) (by kernel_rfl) (by kernel_rfl) (fun _ _ _ h => h) (Or.inl ⟨by rfl, ?_⟩) ?_
    rotate_left
    · intro w; go_simp; (first | done | with_reducible rfl)
    refine wpAny_take (i := 2) (v := ?_) rfl (by kernel_rfl) (by kernel_rfl) (by kernel_rfl) (fun _ _ _ h => h) (Or.inl ⟨by rfl, ?_⟩) ?_
    rotate_left
    · intro w; go_simp; (first | done | with_reducible rfl)
    refine wpAny_take (i := 4) (v := ?_) rfl (by kernel_rfl) (by kernel_rfl) (by kernel_rfl) (fun _ _ _ h => h) (Or.inl ⟨by rfl, ?_⟩) ?_
    rotate_left
    · intro w; go_simp; (first | done | with_reducible rfl)
    refine wpAny_take (i := 6) (v := ?_) rfl (by kernel_rfl) (by kernel_rfl) (by kernel_rfl) (fun _ _ _ h => h) (Or.inl ⟨by rfl, ?_⟩) ?_
    rotate_left
    · intro w; go_simp; (first | done | with_reducible rfl)
    refine wpAny_ready (rs := [3, 5]) (by kernel_rfl) (by simp) ?_
    refine AllReady.cons rfl (fun K hK => ?_) (AllReady.cons rfl (fun K hK => ?_) AllReady.nil)
    · go_simp
      refine hK _ _ ?_
      clear hK K
      refine wpAny_ready (rs := [5]) (by kernel_rfl) (by simp) ?_
      refine AllReady.cons rfl (fun K hK => ?_) AllReady.nil
      go_simp
      refine hK _ _ ?_
      clear hK K
      refine wpAny_ready (rs := [7]) (by kernel_rfl) (by simp) ?_
      refine AllReady.cons rfl (fun K hK => ?_) AllReady.nil
      rw [if_pos (by rfl)]
      refine wp_first_store (.tmp 24) (.tmp 26) (.tmp 27) rfl G n (L.map En.r) rfl HFd.out (by simp only [maxLen]; omega) ⟨kd, lt_, lf, rg, tm⟩ HR.out rfl HP.out ((n : Int) + 1) (by rw [List.length_map, ← HN.out]; rfl) (by omega) rfl ?_
      intro w9 hF9 gr9
      refine hK _ _ ?_
      clear hK K
      refine wpAny_done (by kernel_rfl) ?_ _
      have s8 : w8.heap.size = w7.heap.size := by rw [HW8.out]; simp [World.setCell]
      have s7 : GE + 1 ≤ w7.heap.size := by have := GR7.out.size; have := Z1.out; simp at *; omega
      have HB9 := Lib.hid (Box.grown (w := w8.drew) HB8.out.drew gr9 (fun q => ne (by injection q with q; exact q.symm)))
      have HO9 := Lib.hid (own_kept2 (w := w8.drew) (w' := w9) (show w8.drew.ownsRow B 149 13 (.slice A7 (n + 1) d7) (n + 1) (ec L ++ En.cells ⟨⟨kd, lt_, lf, rg, tm⟩, ⟨wn, wl, wh, wt_, wv, ws⟩, dp, ev⟩) from HO8.out) fun k hk => gr9.block k (own_lt HO8.out k hk) (fun q => by have := HQ.out k hk; injection q with q; omega))
      have s9 : w7.heap.size ≤ w9.heap.size := by have h : w8.heap.size ≤ w9.heap.size := gr9.size; omega
      have HF9 := Lib.hid hF9
      have HS9 : Hid (SFr w w9 B S G) := Lib.hid ⟨by
          rw [gr9.os]; show w8.os = _; rw [HW8.out]; show w7.os = _; rw [GR7.out.os]; show w1.os = _; rw [HW1.out]; rfl, by
          rw [gr9.tape]; show w8.tape = _; rw [HW8.out]; show w7.tape = _; rw [GR7.out.tape]; show w1.tape = _; rw [HW1.out]; rfl, by
          rw [gr9.output]; show w8.output = _; rw [HW8.out]; show w7.output = _; rw [GR7.out.output]; show w1.output = _; rw [HW1.out]; rfl, by have := HGE.out; omega, fun k hk h1 h2 h3 => by
          have hg := HGE.out
          have hz1 := Z1.out
          rw [gr9.block k (show k < w8.heap.size by omega) (fun q => h2 (by injection q))]
          show w8.heap[k]? = _
          rw [HW8.out, Below.heap_setCell _ _ _ _ h1, GR7.out.block k (by simp; omega) (fun q => by
            rcases HOw.out.2 with ⟨hv, _⟩ | ⟨g, cap, cur, hv, hg2, hc, _⟩
            · rw [hv] at q; simp [Value.ownBlock] at q
            · rw [hv] at q
              simp [Value.ownBlock] at q
              subst q
              have := h3 cur (0, 0) hc
              omega)]
          show (w1.alloc (.cells #[.int .i64 kd, .int .u8 lt_, .int .i64 lf, .int .i64 rg, .int .i64 tm, .int .i64 wn, .int .i64 wl, .int .i64 wh, .int .i64 wt_, .int .u64 wv, .int .u64 ws, .int .i64 dp, .bool ev] 149)).heap[k]? = _
          rw [Below.heap_alloc w1 _ k (by omega)]
          show w1.heap[k]? = _
          rw [HW1.out, Below.heap_alloc _ _ _ hk]⟩
      clear gr9 hF9 r0 r1 r2 r3 r4 m2
      go_wp2_with fail
      go_ret
      have e9 : (L ++ [(⟨⟨kd, lt_, lf, rg, tm⟩, ⟨wn, wl, wh, wt_, wv, ws⟩, dp, ev⟩ : En)]).length = n + 1 := by rw [List.length_append, ← HN.out]; rfl
      exact ⟨rfl, ⟨⟨A7, d7, by rw [e9]; exact HB9.out, by rw [e9, ← ec_snoc]; exact HO9.out⟩, by rw [e9, List.map_append]; exact HF9.out, ⟨l1, l2, by omega⟩, ne⟩, HS9.out⟩
    · go_simp
      refine hK _ _ ?_
      clear hK K
      refine wpAny_ready (rs := [3]) (by kernel_rfl) (by simp) ?_
      refine AllReady.cons rfl (fun K hK => ?_) AllReady.nil
      go_simp
      refine hK _ _ ?_
      clear hK K
      refine wpAny_ready (rs := [7]) (by kernel_rfl) (by simp) ?_
      refine AllReady.cons rfl (fun K hK => ?_) AllReady.nil
      rw [if_pos (by rfl)]
      refine wp_first_store (.tmp 24) (.tmp 26) (.tmp 27) rfl G n (L.map En.r) rfl HFd.out (by simp only [maxLen]; omega) ⟨kd, lt_, lf, rg, tm⟩ HR.out rfl HP.out ((n : Int) + 1) (by rw [List.length_map, ← HN.out]; rfl) (by omega) rfl ?_
      intro w9 hF9 gr9
      refine hK _ _ ?_
      clear hK K
      refine wpAny_done (by kernel_rfl) ?_ _
      have s8 : w8.heap.size = w7.heap.size := by rw [HW8.out]; simp [World.setCell]
      have s7 : GE + 1 ≤ w7.heap.size := by have := GR7.out.size; have := Z1.out; simp at *; omega
      have HB9 := Lib.hid (Box.grown (w := w8.drew) HB8.out.drew gr9 (fun q => ne (by injection q with q; exact q.symm)))
      have HO9 := Lib.hid (own_kept2 (w := w8.drew) (w' := w9) (show w8.drew.ownsRow B 149 13 (.slice A7 (n + 1) d7) (n + 1) (ec L ++ En.cells ⟨⟨kd, lt_, lf, rg, tm⟩, ⟨wn, wl, wh, wt_, wv, ws⟩, dp, ev⟩) from HO8.out) fun k hk => gr9.block k (own_lt HO8.out k hk) (fun q => by have := HQ.out k hk; injection q with q; omega))
      have s9 : w7.heap.size ≤ w9.heap.size := by have h : w8.heap.size ≤ w9.heap.size := gr9.size; omega
      have HF9 := Lib.hid hF9
      have HS9 : Hid (SFr w w9 B S G) := Lib.hid ⟨by
          rw [gr9.os]; show w8.os = _; rw [HW8.out]; show w7.os = _; rw [GR7.out.os]; show w1.os = _; rw [HW1.out]; rfl, by
          rw [gr9.tape]; show w8.tape = _; rw [HW8.out]; show w7.tape = _; rw [GR7.out.tape]; show w1.tape = _; rw [HW1.out]; rfl, by
          rw [gr9.output]; show w8.output = _; rw [HW8.out]; show w7.output = _; rw [GR7.out.output]; show w1.output = _; rw [HW1.out]; rfl, by have := HGE.out; omega, fun k hk h1 h2 h3 => by
          have hg := HGE.out
          have hz1 := Z1.out
          rw [gr9.block k (show k < w8.heap.size by omega) (fun q => h2 (by injection q))]
          show w8.heap[k]? = _
          rw [HW8.out, Below.heap_setCell _ _ _ _ h1, GR7.out.block k (by simp; omega) (fun q => by
            rcases HOw.out.2 with ⟨hv, _⟩ | ⟨g, cap, cur, hv, hg2, hc, _⟩
            · rw [hv] at q; simp [Value.ownBlock] at q
            · rw [hv] at q
              simp [Value.ownBlock] at q
              subst q
              have := h3 cur (0, 0) hc
              omega)]
          show (w1.alloc (.cells #[.int .i64 kd, .int .u8 lt_, .int .i64 lf, .int .i64 rg, .int .i64 tm, .int .i64 wn, .int .i64 wl, .int .i64 wh, .int .i64 wt_, .int .u64 wv, .int .u64 ws, .int .i64 dp, .bool ev] 149)).heap[k]? = _
          rw [Below.heap_alloc w1 _ k (by omega)]
          show w1.heap[k]? = _
          rw [HW1.out, Below.heap_alloc _ _ _ hk]⟩
      clear gr9 hF9 r0 r1 r2 r3 r4 m2
      go_wp2_with fail
      go_ret
      have e9 : (L ++ [(⟨⟨kd, lt_, lf, rg, tm⟩, ⟨wn, wl, wh, wt_, wv, ws⟩, dp, ev⟩ : En)]).length = n + 1 := by rw [List.length_append, ← HN.out]; rfl
      exact ⟨rfl, ⟨⟨A7, d7, by rw [e9]; exact HB9.out, by rw [e9, ← ec_snoc]; exact HO9.out⟩, by rw [e9, List.map_append]; exact HF9.out, ⟨l1, l2, by omega⟩, ne⟩, HS9.out⟩
end Go.Proofs.Ytolhjkpekmmajaa
