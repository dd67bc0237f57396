/- The walk of grammar.Text. -/
import Derived.Test.YtcbahojefglakaaGrTextPlain
import Derived.Test.YtcbahojefglakaaRegLin
import Derived.Deep.RegionLaw
namespace Go.Proofs.Ytcbahojefglakaa
set_option linter.unusedVariables false
set_option linter.unusedSimpArgs false
open Go.RowKit Go.Lib
attribute [local go_sem ↓] Go.wp_at_zero Go.wp_at_succ
theorem TSt.below {w w' : World} {base Bo Bm G : Nat} {out : List Rl} (h : TSt w base Bo Bm G out) (hb : Below w.heap.size w w') : TSt w' base Bo Bm G out :=
  let ⟨⟨A, c, bo, ow⟩, bm, fm, lt, ne⟩ := h
  ⟨⟨A, c, bo.below hb bo.lt, own_below ow hb⟩, bm.below hb bm.lt, fm.below hb fm.lt, ⟨lt.1, lt.2.1, lt.2.2.1, Nat.le_trans lt.2.2.2 hb.size⟩, ne⟩
theorem TSt.set_row {w : World} {base Bo Bm G R : Nat} {cs : Array Value} {out : List Rl} (h : TSt w base Bo Bm G out) (hR : Box w R 44 cs) (hb : base ≤ R) (i : Nat) (u : Value) : TSt (w.setCell ⟨R, i, none⟩ u) base Bo Bm G out := by
  obtain ⟨⟨A, c, bo, ow⟩, bm, fm, lt, ne⟩ := h
  obtain ⟨l1, l2, l3, l4⟩ := lt
  refine ⟨⟨A, c, bo.far (by simp; omega) u, own_block ow fun k hk => Below.heap_setCell w ⟨R, i, none⟩ u k ?_⟩, bm.far (by simp; omega) u, fm.set (by simp; omega) u, ⟨l1, l2, l3, by simpa [World.setCell] using l4⟩, ne⟩
  intro e
  rcases ow.2 with ⟨hv, _⟩ | ⟨g, cap, cur, hv, _, hc, _⟩
  · rw [hv] at hk; simp [Value.ownBlock] at hk
  · rw [hv] at hk
    simp [Value.ownBlock] at hk
    subst hk; subst e
    unfold Box at hR
    rw [hc] at hR
    injection hR with e1; injection e1 with _ e2 _
    exact absurd e2 (by decide)
theorem TSt.grown {w w' : World} {base Bo Bm G N n : Nat} {v : Value} {xs : List Value} {out : List Rl} (h : TSt w base Bo Bm G out) (hR : w.ownsRow N 44 1 v n xs) (hb : base ≤ N) (hg : w.grownBy w' v.ownBlock) : TSt w' base Bo Bm G out := by
  obtain ⟨⟨A, c, bo, ow⟩, bm, fm, lt, ne⟩ := h
  obtain ⟨l1, l2, l3, l4⟩ := lt
  have hge := own_ge hR
  have hne := own_ne ow hR (by decide)
  exact ⟨⟨A, c, bo.grown hg (fun e => by have := hge _ e; omega), own_kept ow hg fun k hk e => by rcases hne with h | h <;> rw [hk] at h <;> simp [e] at h⟩, bm.grown hg (fun e => by have := hge _ e; omega), fm.grown hg (fun e => by have := hge _ e; omega), ⟨l1, l2, l3, Nat.le_trans l4 hg.size⟩, ne⟩
theorem own_fr {w w' : World} {base Bo G N n : Nat} {v : Value} {xs : List Value} (h : TFr w w' base Bo G) (hR : w.ownsRow N 44 1 v n xs) (hb : base ≤ N) (h1 : Bo < base) (h2 : G < base) : w'.ownsRow N 44 1 v n xs := by
  have hge := own_ge hR; have hlt := own_lt hR
  refine own_block hR fun k hk => h.keep k (hlt k hk) (by have := hge k hk; omega) (by have := hge k hk; omega) fun cs fr e => ?_
  rcases hR.2 with ⟨hv, _⟩ | ⟨g, cap, cur, hv, _, hc, _⟩
  · rw [hv] at hk; simp [Value.ownBlock] at hk
  · rw [hv] at hk
    simp [Value.ownBlock] at hk
    subst hk
    rw [hc] at e
    injection e with e1; injection e1 with _ e2 _
    exact absurd e2 (by decide)
def lenOf : Value → Nat
  | .slice _ n _ => n
  | _ => 0
theorem wpOp_of {P : Program} {ops : Array Oper} {Q : Exit → Act → World → Prop} {i : Nat} {o : Oper} {K : Act → World → Prop} {a : Act} {w : World} (hi : ops[i]? = some o) (hw : Region.wanted o (yielded ops a.tmps) = true) (h : o.wp P a w K Q) : wpOp P ops Q i K a w := by
  unfold wpOp
  simp only [hi, hw, if_true]
  exact Or.inl h
theorem step_app {P : Program} {ops : Array Oper} {o : Oper} {a : Act} {w : World} {K : Act → World → Prop} {Q : Exit → Act → World → Prop} {E : Prop} (hg : o.guard = none) (s x : Operand) (t : TypeId)
    (ho : o.op = .call { callee := .builtin .append, args := #[s, x], argTypes := #[t, t] })
    (base : Nat) (e : TypeId) (i : TypeInfo) (z : Value) (size bytes : Nat) (ht : P.underlying t = some (.slice e)) (hi : P.info? e = some i) (hz : i.zero = some z)
    (hsize : i.size = size) (hby : i.bytes = bytes) (hzs : z.cells.size = size) (hsz : 0 < size)
    (v : Value) (n : Nat) (xs : List Value) (hs : a.eval s = v) (hown : w.ownsRow base e size v n xs)
    (A : Option Addr) (m c : Nat) (news : List Value) (hx : a.eval x = .slice A m c) (hl : news.length = m * size) (hr : RowAt w A news) (h1 : ∀ u ∈ news, u.oneCell' = true)
    (h63 : n + m ≤ maxLen) (hbytes : (n + m) * bytes ≤ 140737488355328) (hbase : base ≤ w.heap.size)
    (h : ∀ A' c' w', w'.ownsRow base e size (.slice A' (n + m) c') (n + m) (xs ++ news) → w.grownBy w' v.ownBlock → ((Value.slice A' (n + m) c').ownBlock = v.ownBlock ∨ (Value.slice A' (n + m) c').ownBlock = some w.heap.size) → K (a.put o.dst (.slice A' (n + m) c')) w') :
    if Region.wanted o (yielded ops a.tmps) = true then Oper.wp P o a w K Q else E := by
  have hw : Region.wanted o (yielded ops a.tmps) = true := by simp [Region.wanted, hg]
  rw [if_pos hw]
  exact wp_app w s x t ho base e i z size bytes ht hi hz hsize hby hzs hsz v n xs hs hown A m c news hx hl hr h1 h63 hbytes hbase h
theorem own_at {w : World} {base : Nat} {e : TypeId} {n c k : Nat} {A : Option Addr} {xs : List Value} {u : Value} (h : w.ownsRow base e 1 (.slice A n c) n xs) (hk : xs[k]? = some u) : ∃ g, A = some ⟨g, 0, none⟩ ∧ w.cell? ⟨g, k, none⟩ = some u := by
  obtain ⟨ad, hA, _, h1⟩ := (own_row _ h).get hk
  rcases h.2 with ⟨hv, _⟩ | ⟨g, cap, cur, hv, _⟩
  · injection hv with h2; rw [hA] at h2; cases h2
  · injection hv with h2
    rw [hA] at h2
    injection h2 with h2
    subst h2
    refine ⟨g, hA, ?_⟩
    cases k <;> simpa [Addr.add] using h1
theorem mk_ids0 (h : Nat) (hn : h ≤ 1000000) (c : Int) (hc : c = (h : Int)) (w : World) : (Instr.makeSlice 84 (.int .i64 0) (.int .i64 c)).run Try.prog w = .ok (.slice (some ⟨w.heap.size, 0, none⟩) 0 h) (w.alloc (.cells (vi (List.replicate h 0)).toArray 44)) := by
  obtain ⟨i0_, hi, hz0, hz1, hz2⟩ := info_parts5 info_id
  subst hc
  have h' := run_makeSlice (P := Try.prog) w 84 44 i0_ _ Try.underlying84 hi hz0 .i64 .i64 0 h (by omega) (by omega) (by rw [hz1]; omega) (by rw [hz2]; omega) (by omega)
  rw [h', hz1]
  have e := made_one (.int .i64 0) rfl h
  simp only [Int.toNat_natCast]
  rw [e]
  simp [vi]
theorem own_ids0 (w : World) (h : Nat) (hn : h ≤ 1000000) : (w.alloc (.cells (vi (List.replicate h 0)).toArray 44)).ownsRow w.heap.size 44 1 (.slice (some ⟨w.heap.size, 0, none⟩) 0 h) 0 (vi []) :=
  ⟨by simp [vi], .inr ⟨w.heap.size, h, _, rfl, Nat.le_refl _, heap_alloc_new w _, Nat.zero_le _, by simp only [maxLen]; omega, by simp [vi], by simp [vi]⟩⟩
theorem wp_nm {Pr : Program} {code : Code} {Q : Exit → Act → World → Prop} {a : Act} {w : World} (F : World → Prop) (h : F w) (k : ∀ w5, F w5 → Code.wp Pr code Q a w5) : Code.wp Pr code Q a w := k w h
theorem own_box {w : World} {R n : Nat} {ids : List Int} (h : Box w R 44 (vi ids).toArray) (hl : ids.length = n) (hn : n ≤ 1000000) : w.ownsRow R 44 1 (.slice (some ⟨R, 0, none⟩) n n) n (vi ids) :=
  ⟨by simp [vi, hl], .inr ⟨R, n, _, rfl, Nat.le_refl _, h, Nat.le_refl _, by simp only [maxLen]; omega, by simp [vi, hl], by simp [vi, hl]; rw [List.take_of_length_le]; simp; omega⟩⟩
theorem own_grown {w w' : World} {N n : Nat} {v : Value} {xs : List Value} {row : Option Nat} (h : w.ownsRow N 44 1 v n xs) (hg : w.grownBy w' row) (hk : ∀ k, v.ownBlock = some k → row ≠ some k) : w'.ownsRow N 44 1 v n xs := own_kept h hg hk
set_option maxRecDepth 100000 in
set_option maxHeartbeats 8000000 in
theorem text_large (n c : Nat) (A : Option Addr) (hn : 65536 < n) (w : World) :
    Calls Try.prog 28 #[.slice A n c] w (RulesOut [] (.iface 50 (.int .i64 9)) w) := by
  have h1 : (65536 : Int) < n := by omega
  go_enter Try.func28, Try.ntmps28
  go_wp2_with fail
  go_ret2
  exact ⟨none, 0, rfl, RowAt.nil _ _, Below.refl _ _⟩
set_option maxRecDepth 100000 in
set_option maxHeartbeats 32000000 in
theorem text_any (b : List Int) (n c : Nat) (A : Option Addr) (hl : b.length = n) (hn : n ≤ 65536) (hb : ∀ x ∈ b, 0 ≤ x ∧ x ≤ 255) (w : World) (ha : RowAt w A (vb b)) :
    Calls Try.prog 28 #[.slice A n c] w fun e w' => ∃ g, (Good g b ∧ (b = [] → g = []) ∧ g.length ≤ 2 * b.length ∧ ∀ r ∈ g, r.Ok) ∧ RulesOut g .nilIface w e w' := by
  obtain ⟨i0_, hi, hz0, hz1, hz2⟩ := info_parts5 info_id
  have HI := Lib.hid hi; have HZ := Lib.hid hz0; have HZ1 := Lib.hid hz1; have HZ2 := Lib.hid hz2
  have HA := Lib.hid ha; have HL := Lib.hid hl; have HBB := Lib.hid hb
  have h65 : (n : Int) ≤ 65536 := by omega
  have hmf : ∀ fn first cap w, (Instr.makeFunc fn first cap).run Try.prog w = .ok (.func fn first cap) w := fun _ _ _ _ => rfl
  have mk : ∀ w : World, (Instr.makeSlice 84 (.int .i64 (n : Int)) (.int .i64 (n : Int))).run Try.prog w = .ok (.slice (some ⟨w.heap.size, 0, none⟩) n n) (w.alloc (.cells (vi (List.replicate n 0)).toArray 44)) := fun w => mk_ids n (by omega) w
  have MK := Lib.hid mk
  have hmm := @run_makeMap Try.prog
  clear ha hl hb hi hz0 hz1 hz2 mk
  go_enter Try.func28, Try.ntmps28
  go_upto_region 6 with fail
  obtain ⟨Bo, hBo⟩ : ∃ Bo, Bo = w.heap.size := ⟨_, rfl⟩
  obtain ⟨G, hG⟩ : ∃ G, G = w.heap.size + 1 := ⟨_, rfl⟩
  obtain ⟨Bm, hBm⟩ : ∃ Bm, Bm = w.heap.size + 1 + 1 := ⟨_, rfl⟩
  obtain ⟨B, hB⟩ : ∃ B, B = w.heap.size + 1 + 1 + 1 := ⟨_, rfl⟩
  refine wp_nm (fun w3 => Hid (TSt w3 B Bo Bm G []) ∧ Hid (Below w.heap.size w w3) ∧ w3.heap.size = B) ?f ?_
  case f =>
    clear hmm hmf
    have x0 := ((Box.new w 22 #[.slice none 0 0]).alloc (.map #[] 0)).alloc (.cells #[.map (some (w.heap.size + 1))] 81)
    have x1 := (first_made (w.alloc (.cells #[.slice none 0 0] 22))).alloc (.cells #[.map (some (w.heap.size + 1))] 81)
    have x2 := Box.new ((w.alloc (.cells #[.slice none 0 0] 22)).alloc (.map #[] 0)) 81 #[.map (some (w.heap.size + 1))]
    have x3 := balloc (balloc (balloc (Below.refl w.heap.size w) (.cells #[.slice none 0 0] 22)) (.map #[] 0)) (.cells #[.map (some (w.heap.size + 1))] 81)
    have e1 : (w.alloc (.cells #[.slice none 0 0] 22)).heap.size = w.heap.size + 1 := by simp
    have e2 : ((w.alloc (.cells #[.slice none 0 0] 22)).alloc (.map #[] 0)).heap.size = w.heap.size + 1 + 1 := by simp
    rw [e1] at x1
    rw [e2] at x2
    subst hBo hG hBm hB
    exact ⟨Lib.hid ⟨⟨none, 0, x0, ⟨by simp [gc], .inl ⟨rfl, rfl⟩⟩⟩, x2, x1, ⟨by omega, by omega, by omega, by simp⟩, ⟨by omega, by omega, by omega⟩⟩, Lib.hid x3, by simp⟩
  rw [← hBm, ← hBo]
  rintro w3 ⟨HT3, BW3, z3⟩
  clear hmm hmf
  have mk := MK.out
  have HBo := Lib.hid hBo
  have l1 : Bo < B := by omega
  have l2 : Bm < B := by omega
  have l3 : G < B := by omega
  have l4 : Bo ≤ G := by omega
  have n1 : Bo ≠ B := by omega
  have n2 : G ≠ B := by omega
  have n3 : Bm ≠ B := by omega
  clear hBo hG hBm hB
  go_upto_region 7 with fail
  clear mk
  refine wp_nm (fun w4 => Hid (TSt w4 B Bo Bm G []) ∧ Hid (Box w4 B 44 (arr [] n)) ∧ Hid (Below Bo w w4)) ⟨Lib.hid (HT3.out.below (balloc (Below.refl _ _) _)), Lib.hid ?bx, Lib.hid (BW3.out.alloc (by rw [z3]; omega) _)⟩ ?_
  case bx =>
    have := Box.new w3 44 (vi (List.replicate n 0)).toArray
    rw [z3] at this
    simpa [arr] using this
  rintro w4 ⟨HT4, HX4, BW4⟩
  clear HT3 BW3 z3
  go_wp2_with fail
  go_loopw [8, 9, 23] (fun _ _ si wr => ∃ (i : Nat) (out : List Rl) (ids : List Int), si = .int .i64 (i : Int) ∧ i ≤ n ∧ Hid ((∃ T, Lts b out T ids i) ∧ out.length ≤ i ∧ ids.length = i) ∧ Hid (TSt wr B Bo Bm G out) ∧ Hid (Box wr B 44 (arr ids n)) ∧ Hid (Below Bo w wr)) (fun _ _ si _ => n - (intOf si).toNat)
  case atStart => exact ⟨0, [], [], rfl, by omega, Lib.hid ⟨⟨[], lts_start b⟩, by simp, rfl⟩, HT4, HX4, BW4⟩
  case round =>
    clear HT4 HX4 BW4
    obtain ⟨i, out, ids, rfl, hi, HG, HT, HX, BW⟩ := hrel
    by_cases hlt : i < n
    · have hil : i < b.length := by rw [HL.out]; exact hlt
      obtain ⟨ad, rfl, g1, c1⟩ := HA.out.get (show (vb b)[i]? = some (.int .u8 b[i]) by simp [vb, hil])
      obtain ⟨b0, b1⟩ := HBB.out _ (List.getElem_mem hil)
      obtain ⟨x, hx⟩ : ∃ x, x = b[i] := ⟨_, rfl⟩
      rw [← hx] at c1 b0 b1
      have c2 := (BW.out.cell (p := ad.add i) (by rw [block_add, HBo.out]; exact g1)).trans c1
      obtain ⟨T, hT⟩ := HG.out.1
      obtain ⟨rok, T', hT'⟩ := lts_step hT (by rw [hx]; exact List.getElem?_eq_getElem hil : b[i]? = some x) b0 b1
      have HIN : Hid (∀ w, TSt w B Bo Bm G out → Calls Try.prog 48 #[.agg #[.int .i64 1, .int .u8 x, .int .i64 0, .int .i64 0, .int .i64 0], .pointer (some ⟨Bm, 0, none⟩), .pointer (some ⟨Bo, 0, none⟩)] w fun e w' => e = .returned (.int .i64 (inId out ⟨1, x, 0, 0, 0⟩)) ∧ TSt w' B Bo Bm G (inOut out ⟨1, x, 0, 0, 0⟩) ∧ TFr w w' B Bo G) := Lib.hid fun w st => intern_any out ⟨1, x, 0, 0, 0⟩ rok (by have := HG.out.2.1; omega) B Bo Bm G w st
      obtain ⟨id, hid⟩ : ∃ id, id = inId out ⟨1, x, 0, 0, 0⟩ := ⟨_, rfl⟩
      obtain ⟨out', hout⟩ : ∃ out', out' = inOut out ⟨1, x, 0, 0, 0⟩ := ⟨_, rfl⟩
      rw [← hid, ← hout] at HIN hT'
      have HG2 : Hid ((∃ T, Lts b out' T (ids ++ [id]) (i + 1)) ∧ out'.length ≤ i + 1 ∧ (ids ++ [id]).length = i + 1) := Lib.hid ⟨⟨T', hT'⟩, hT'.ln, hT'.nl⟩
      have HIL := Lib.hid HG.out.2.2
      have i0 : (0 : Int) ≤ i := by omega
      have i1 : (i : Int) < (n : Int) := by omega
      clear hx hT hT' hid hout rok c1 HG
      go_wp2_with fail
      (with_reducible refine (HIN.out _ HT.out).mono ?_)
      rintro e w5 ⟨rfl, st5, fr5⟩
      have HT5 := Lib.hid st5
      have HX5 := fr5.box HX.out n1.symm n2.symm (.inl (by decide))
      have BW5 := Lib.hid (fr5.below BW.out (Nat.le_refl _) (by have := st5.lt; have := HBo.out; omega) (by omega) (by have := st5.lt; have := HT.out.lt; omega))
      have v0 : w5.cell? ⟨B, i, none⟩ = some (.int .i64 0) := (HX5.cell i).trans (arr_zero (by rw [HIL.out]; exact Nat.le_refl _) hlt)
      have f0 := HX5.free i
      have HX6 : Hid (Box (w5.setCell ⟨B, i, none⟩ (.int .i64 id)) B 44 (arr (ids ++ [id]) n)) := Lib.hid (by
        have h1 := HX5.set_ i (.int .i64 id)
        have h2 := arr_set (acc := ids) (n := n) id (by rw [HIL.out]; exact hlt)
        rw [HIL.out] at h2
        rw [h2] at h1
        exact h1)
      have HT6 := Lib.hid (HT5.out.set_row HX5 (Nat.le_refl _) i (.int .i64 id))
      have BW6 := Lib.hid (BW5.out.setCell (p := ⟨B, i, none⟩) (by simp; omega) (.int .i64 id))
      clear fr5 st5 HX5 HT5 BW5
      go_wp2_with fail
      go_roundw
      case rel => exact ⟨i + 1, out', ids ++ [id], by go_num, by omega, HG2, HT6, HX6, BW6⟩
      case measure => simp [intOf] <;> omega
    · obtain rfl : i = n := by omega
      have hrow := own_box (by have := HX.out; rw [arr_end HG.out.2.2] at this; exact this) HG.out.2.2 (by omega)
      obtain ⟨T, hT⟩ := HG.out.1
      have HR : Hid (wr.ownsRow B 44 1 (.slice (some ⟨B, 0, none⟩) i i) i (vi ids)) := Lib.hid hrow
      have HD : Hid ((∃ T, Hd b out T ids) ∧ ids.length = i) := Lib.hid ⟨⟨T, lts_end HL.out hT⟩, HG.out.2.2⟩
      clear hrow hT HG HX
      go_wp2_with fail
      go_loopw [7, 10, 11] (fun s7 _ _ wr => ∃ (m : Nat) (A2 : Option Addr) (c2 : Nat) (out : List Rl) (ids : List Int), s7 = .slice A2 m c2 ∧ m ≤ i ∧ Hid ((∃ T, Hd b out T ids) ∧ ids.length = m) ∧ Hid (TSt wr B Bo Bm G out) ∧ Hid (wr.ownsRow B 44 1 (.slice A2 m c2) m (vi ids)) ∧ Hid (Below Bo w wr)) (fun s7 _ _ _ => lenOf s7)
      case atStart => exact ⟨i, _, i, out, ids, rfl, Nat.le_refl _, HD, HT, HR, BW⟩
      case round =>
        clear HD HT HR BW
        obtain ⟨m, A2, c2, out, ids, rfl, hm, HD, HT, HR, BW⟩ := hrel
        by_cases hlt : 1 < m
        · have m1 : (1 : Int) < (m : Int) := by omega
          obtain ⟨h, hh⟩ : ∃ h, h = (m + 1) / 2 := ⟨_, rfl⟩
          have mk2 : ∀ w : World, (Instr.makeSlice 84 (.int .i64 0) (.int .i64 (((m : Int) + 1) / 2))).run Try.prog w = .ok (.slice (some ⟨w.heap.size, 0, none⟩) 0 h) (w.alloc (.cells (vi (List.replicate h 0)).toArray 44)) := fun w => mk_ids0 h (by omega) _ (by omega) w
          have HH := Lib.hid hh
          clear hh
          go_upto_region 14 with fail
          clear mk2
          obtain ⟨N0, hN0⟩ : ∃ N0, N0 = wr.heap.size := ⟨_, rfl⟩
          have hBN : B ≤ N0 := by rw [hN0]; exact HT.out.lt.2.2.2
          have l5 : Bo ≤ wr.heap.size := by have := HT.out.lt; omega
          have l6 : Bo ≤ N0 := by omega
          have HNL : Hid (∀ k, (Value.slice A2 m c2).ownBlock = some k → k < N0) := Lib.hid (by rw [hN0]; exact own_lt HR.out)
          refine wp_nm (fun w5 => Hid (TSt w5 B Bo Bm G out) ∧ Hid (w5.ownsRow B 44 1 (.slice A2 m c2) m (vi ids)) ∧ Hid (w5.ownsRow N0 44 1 (.slice (some ⟨N0, 0, none⟩) 0 h) 0 (vi [])) ∧ Hid (Below Bo w w5) ∧ N0 ≤ w5.heap.size) ?f ?_
          case f =>
            subst hN0
            exact ⟨Lib.hid (HT.out.below (balloc (Below.refl _ _) _)), Lib.hid (own_alloc HR.out _), Lib.hid (own_ids0 wr h (by have := HH.out; omega)), Lib.hid (BW.out.alloc (by have := HT.out.lt; omega) _), by simp⟩
          rw [← hN0]
          clear HT HR BW hN0
          rintro w5 ⟨HT5, HR5, HN5, BW5, zN⟩
          go_wp2_with fail
          go_loopw [10, 11] (fun s10 s11 wr => ∃ (j k : Nat) (A3 : Option Addr) (c3 : Nat) (out2 : List Rl) (nxt : List Int), s10 = .slice A3 j c3 ∧ s11 = .int .i64 (k : Int) ∧ k ≤ m ∧ N0 ≤ wr.heap.size ∧ Hid (k = 2 * j ∧ (∃ T, Prs b ids out2 T nxt j) ∧ nxt.length = j) ∧ Hid (TSt wr B Bo Bm G out2) ∧ Hid (wr.ownsRow B 44 1 (.slice A2 m c2) m (vi ids)) ∧ Hid (wr.ownsRow N0 44 1 (.slice A3 j c3) j (vi nxt)) ∧ Hid (Below Bo w wr)) (fun _ s11 _ => m + 1 - (intOf s11).toNat)
          case atStart =>
            obtain ⟨T, hT⟩ := HD.out.1
            exact ⟨0, 0, _, h, out, [], rfl, rfl, by omega, zN, Lib.hid ⟨rfl, ⟨T, prs_start hT (by rw [HD.out.2]; omega)⟩, rfl⟩, HT5, HR5, HN5, BW5⟩
          case round =>
            clear HT5 HR5 HN5 BW5 zN
            obtain ⟨j, k, A3, c3, out2, nxt, rfl, rfl, hk, zN, HP, HT, HR, HN, BW⟩ := hrel
            have HIL := Lib.hid HD.out.2
            by_cases hlt2 : k + 1 < m
            · have hkl : k + 1 < ids.length := by rw [HIL.out]; exact hlt2
              obtain ⟨x, hx⟩ : ∃ x, ids[k]? = some x := ⟨_, List.getElem?_eq_getElem (by omega)⟩
              obtain ⟨y, hy⟩ : ∃ y, ids[k + 1]? = some y := ⟨_, List.getElem?_eq_getElem hkl⟩
              obtain ⟨gr, hA2, x1⟩ := own_at HR.out (show (vi ids)[k]? = some (.int .i64 x) by simp [vi, hx])
              obtain ⟨gr2, hA3, y1⟩ := own_at HR.out (show (vi ids)[k + 1]? = some (.int .i64 y) by simp [vi, hy])
              rw [hA2] at hA3
              injection hA3 with hA3
              injection hA3 with hA3
              subst hA3
              obtain ⟨T, hT⟩ := HP.out.2.1
              have hke := HP.out.1
              have hle := hT.ln
              obtain ⟨rok, T', hT'⟩ := prs_step hT (by rw [HL.out]; omega) (by rw [← hke]; exact hx) (by rw [← hke]; exact hy)
              have HIN : Hid (∀ w, TSt w B Bo Bm G out2 → Calls Try.prog 48 #[.agg #[.int .i64 2, .int .u8 0, .int .i64 x, .int .i64 y, .int .i64 0], .pointer (some ⟨Bm, 0, none⟩), .pointer (some ⟨Bo, 0, none⟩)] w fun e w' => e = .returned (.int .i64 (inId out2 ⟨2, 0, x, y, 0⟩)) ∧ TSt w' B Bo Bm G (inOut out2 ⟨2, 0, x, y, 0⟩) ∧ TFr w w' B Bo G) := Lib.hid fun w st => intern_any out2 ⟨2, 0, x, y, 0⟩ rok (by rw [HL.out] at hle; omega) B Bo Bm G w st
              obtain ⟨id, hid⟩ : ∃ id, id = inId out2 ⟨2, 0, x, y, 0⟩ := ⟨_, rfl⟩
              obtain ⟨out', hout⟩ : ∃ out', out' = inOut out2 ⟨2, 0, x, y, 0⟩ := ⟨_, rfl⟩
              rw [← hid, ← hout] at HIN hT'
              have HP2 : Hid (k + 2 = 2 * (j + 1) ∧ (∃ T, Prs b ids out' T (nxt ++ [id]) (j + 1)) ∧ (nxt ++ [id]).length = j + 1) := Lib.hid ⟨by omega, ⟨T', hT'⟩, hT'.nl⟩
              have hjm : j ≤ 100000 := by omega
              have k0 : (0 : Int) ≤ k := by omega
              have k1 : (k : Int) < (m : Int) := by omega
              have k2 : (0 : Int) ≤ (k : Int) + 1 := by omega
              have k3 : (k : Int) + 1 < (m : Int) := by omega
              have kw : IntKind.i64.wrap ((k : Int) + 1) = (k : Int) + 1 := IntWalk.i64_in _ ⟨by omega, by omega⟩
              have kt : ((k : Int) + 1).toNat = k + 1 := by omega
              clear hx hy hT hT' hid hout rok hke hle HP hkl HIL
              subst hA2
              go_wp2_with fail
              have HTD : Hid (TSt wr.drew B Bo Bm G out2) := Lib.hid (HT.out.below ⟨rfl, rfl, rfl, Nat.le_refl _, fun _ _ => rfl⟩)
              have BWD : Hid (Below Bo w wr.drew) := Lib.hid ⟨BW.out.os, BW.out.tape, BW.out.output, BW.out.size, BW.out.block⟩
              go_region_law (first
                | (refine step_app rfl (.tmp 51) (.tmp 64) _ rfl N0 44 i0_ _ 1 8 Try.underlying84 HI.out HZ.out HZ1.out HZ2.out rfl (by omega) (.slice A3 j c3) j (vi nxt) rfl HN6.out (some ⟨w5.heap.size, 0, none⟩) 1 1 (vi [id]) rfl rfl X6.out (vi_one _) (by simp only [maxLen]; omega) (by omega) zN6 ?_; intro A7 c7 w7 own7 gr7 at7)
                | (go_simp; go_at_call 48; refine (HIN.out _ ?_).mono ?_; exact HTD.out; rintro e w5 ⟨rfl, st5, fr5⟩; have HT6 := Lib.hid (st5.below (balloc (Below.refl _ _) (.cells #[.int .i64 id] 44))); have HR6 := Lib.hid (own_alloc (own_fr fr5 HR.out (Nat.le_refl B) l1 l3) (.cells #[.int .i64 id] 44)); have HN6 := Lib.hid (own_alloc (own_fr fr5 HN.out hBN l1 l3) (.cells #[.int .i64 id] 44)); have l5 : Bo ≤ wr.heap.size := Nat.le_trans l6 zN; have zN5 : N0 ≤ w5.heap.size := Nat.le_trans zN fr5.size; have BW6 := Lib.hid ((fr5.below BWD.out (Nat.le_refl _) l4 (Nat.le_of_lt l1) l5).alloc (Nat.le_trans l6 zN5) (.cells #[.int .i64 id] 44)); have X6 := Lib.hid (RowAt.of_block (Box.new w5 44 #[.int .i64 id])); have zN6 : N0 ≤ (w5.alloc (.cells #[.int .i64 id] 44)).heap.size := Nat.le_trans zN5 (by simp); go_simp))
              all_goals
                rw [← vi_app] at own7
                have HT7 := Lib.hid (HT6.out.grown HN6.out hBN gr7)
                have HR7 := Lib.hid (own_grown HR6.out gr7 fun q hq e => by have h1 := HNL.out q hq; have h2 := own_ge HN6.out q e; omega)
                have BW7 := Lib.hid (BW6.out.grown gr7 (Nat.le_trans l6 zN6) fun q hq => Nat.le_trans l6 (own_ge HN6.out q hq))
                have zN7 : N0 ≤ w7.heap.size := Nat.le_trans zN6 gr7.size
                have HN7 := Lib.hid own7
                clear own7 gr7 at7 HT6 HR6 HN6 BW6 X6 zN6 st5 fr5
                go_wp2_with fail
                go_roundw
                case rel => exact ⟨j + 1, k + 2, A7, c7, out', nxt ++ [id], rfl, by go_num, by omega, zN7, HP2, HT7, HR7, HN7, BW7⟩
                case measure => simp [intOf] <;> omega
            · obtain ⟨T, hT⟩ := HP.out.2.1
              have hke := HP.out.1
              by_cases hev : m = k
              · subst hev
                have HD2 : Hid ((∃ T, Hd b out2 T nxt) ∧ nxt.length = j) := Lib.hid ⟨⟨T, prs_even hT (by rw [HIL.out]; exact hke)⟩, HP.out.2.2⟩
                have HN2 := Lib.hid (own_mono HN.out hBN)
                have km : (m : Int) % 2 = 0 := by omega
                have kn : ¬ ((m : Int) + 1 < (m : Int)) := by omega
                have HKE := Lib.hid hke
                clear hT HP hke
                go_wp2_with fail
                go_roundw
                case rel => exact ⟨j, A3, c3, out2, nxt, rfl, by have := HKE.out; omega, HD2, HT, HN2, BW⟩
                case measure => have := HKE.out; simp [lenOf] <;> omega
              · obtain rfl : m = k + 1 := by omega
                obtain ⟨x, hx⟩ : ∃ x, ids[k]? = some x := ⟨_, List.getElem?_eq_getElem (by rw [HIL.out]; omega)⟩
                obtain ⟨gr, hA2, x1⟩ := own_at HR.out (show (vi ids)[k]? = some (.int .i64 x) by simp [vi, hx])
                subst hA2
                have HD2 : Hid ((∃ T, Hd b out2 T (nxt ++ [x])) ∧ (nxt ++ [x]).length = j + 1) := Lib.hid ⟨⟨T, prs_odd hT (by rw [HIL.out, hke]) (by omega) (by rw [← hke]; exact hx)⟩, by rw [List.length_append, HP.out.2.2]; rfl⟩
                have sj : ((k + 1 : Nat) : Int) = (k : Int) + 1 := by omega
                rw [sj]
                have km : ((k : Int) + 1) % 2 = 1 := by omega
                have hjm : j ≤ 100000 := by omega
                have k0 : (0 : Int) ≤ k := by omega
                have k1 : (k : Int) < (k : Int) + 1 := by omega
                have HKE := Lib.hid hke
                have HNa := Lib.hid (own_alloc HN.out (.cells #[.int .i64 x] 44))
                have HTa := Lib.hid (HT.out.below (balloc (Below.refl _ _) (.cells #[.int .i64 x] 44)))
                have BWa := Lib.hid (BW.out.alloc (Nat.le_trans l6 zN) (.cells #[.int .i64 x] 44))
                clear hT HP hx hke hev
                go_wp2_with (refine wpList_app _ (by rfl) (.tmp 70) (.tmp 77) _ rfl N0 44 i0_ _ 1 8 Try.underlying84 HI.out HZ.out HZ1.out HZ2.out rfl (by omega) (.slice A3 j c3) j (vi nxt) rfl HNa.out (some ⟨wr.heap.size, 0, none⟩) 1 1 (vi [x]) rfl rfl ?row (vi_one _) (by simp only [maxLen]; omega) (by omega) ?size ?_)
                case row => exact RowAt.of_block (heap_alloc_new wr _)
                case size => simp; omega
                intro A7 c7 w7 own7 gr7 at7
                rw [← vi_app] at own7
                have HT7 := Lib.hid (HTa.out.grown HNa.out hBN gr7)
                have BW7 := Lib.hid (BWa.out.grown gr7 (by simp; omega) fun q hq => Nat.le_trans l6 (own_ge HNa.out q hq))
                have HN7 := Lib.hid (own_mono own7 hBN)
                clear own7 gr7 at7 HTa HNa BWa
                go_wp2_with fail
                go_roundw
                case rel => exact ⟨j + 1, A7, c7, out2, nxt ++ [x], rfl, by have := HKE.out; omega, HD2, HT7, HN7, BW7⟩
                case measure => have := HKE.out; simp [lenOf] <;> omega
        · obtain ⟨T, hT⟩ := HD.out.1
          have hend := Lib.hid (hd_end hT (by rw [HD.out.2]; omega))
          obtain ⟨Ao, co, hbo, how⟩ := HT.out.bo
          have c0 : wr.cell? ⟨Bo, 0, none⟩ = some (.slice Ao out.length co) := hbo.cell 0
          have m1 : ¬ (1 : Int) < (m : Int) := by omega
          have HOw := Lib.hid how
          clear hT how hbo
          go_wp2_with fail
          go_ret2
          exact ⟨out, hend.out, Ao, co, rfl, own_row _ HOw.out, by rw [← HBo.out]; exact BW.out⟩
end Go.Proofs.Ytcbahojefglakaa
