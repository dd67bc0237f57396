import Derived.Test.YtolhjkpekmmajaaTbA
import Derived.Deep.RegionLaw
import Derived.IntWalk
import Derived.Deep.LoopGhost
import Derived.Test.YtolhjkpekmmajaaTbB
import Derived.Deep.RegionWith
import Derived.Test.YtolhjkpekmmajaaRegLin
import Derived.OpenShut
import Derived.Deep.Slices
/- The walk of blame's builder.add. -/
namespace Go.Proofs.Ytolhjkpekmmajaa
set_option linter.unusedVariables false
set_option linter.unusedSimpArgs false
open Go.RowKit Go.Lib Go.Maps
attribute [local go_sem ↓] Go.wp_at_zero Go.wp_at_succ
/-- a row of blame -/
structure Rw where
  fr : Int
  n : Int
  v : Int
  o : Int
def Rw.cells (c : Rw) : List Value := [.int .i64 c.fr, .int .i64 c.n, .int .i64 c.v, .int .i64 c.o]
def rwc (p : List Rw) : List Value := p.flatMap Rw.cells
theorem rwc_len (p : List Rw) : (rwc p).length = p.length * 4 := by
  induction p with
  | nil => rfl
  | cons c p ih => simp [rwc, Rw.cells] at ih ⊢; omega
theorem rwc_app (a b : List Rw) : rwc (a ++ b) = rwc a ++ rwc b := by simp [rwc]
theorem rwc_one (p : List Rw) : ∀ u ∈ rwc p, u.oneCell' = true := by
  intro u hu
  simp only [rwc, List.mem_flatMap, Rw.cells] at hu
  obtain ⟨c, _, hu⟩ := hu
  simp at hu
  rcases hu with rfl | rfl | rfl | rfl <;> rfl
theorem info_row : (Try.prog.info? 42).map (fun i => (i.zero, i.size, i.bytes)) = some (some (.agg #[.int .i64 0, .int .i64 0, .int .i64 0, .int .i64 0]), 4, 32) := by kernel_rfl
/-- the rows with letters added -/
def blAdd (st : List Rw × Int) (n v o : Int) : List Rw × Int :=
  if n = 0 then st else
  match st.1.getLast? with
  | none => ([⟨st.2, n, v, o⟩], st.2 + n)
  | some r => if r.v = v ∧ r.o + r.n = o then (st.1.dropLast ++ [⟨r.fr, r.n + n, r.v, r.o⟩], st.2 + n) else (st.1 ++ [⟨st.2, n, v, o⟩], st.2 + n)
/-- a builder in block b, its rows -/
structure Bld (w : World) (base b : Nat) (st : List Rw × Int) : Prop where
  ex : ∃ A c, Box w b 76 #[.slice A st.1.length c, .int .i64 st.2] ∧ w.ownsRow base 42 4 (.slice A st.1.length c) st.1.length (rwc st.1)
/-- blocks of other kinds than builders and rows stay -/
def Fr2 (w w' : World) : Prop := ∀ (k : Nat) (o : Obj), w.heap[k]? = some o → (∀ cs fr, o ≠ .cells cs 76 fr) → (∀ cs fr, o ≠ .cells cs 42 fr) → w'.heap[k]? = some o
theorem Fr2.refl (w : World) : Fr2 w w := fun _ _ h _ _ => h
theorem Fr2.trans {a b c : World} (h : Fr2 a b) (k : Fr2 b c) : Fr2 a c := fun i o h1 h2 h3 => k i o (h i o h1 h2 h3) h2 h3
theorem Fr2.of_below {w w' : World} (hb : Below w.heap.size w w') : Fr2 w w' := fun i o h1 _ _ => (hb.block i (Array.getElem?_eq_some_iff.1 h1).1).trans h1
theorem Fr2.setB {w : World} {b : Nat} {cs : Array Value} (h : Box w b 76 cs) (i : Nat) (u : Value) : Fr2 w (w.setCell ⟨b, i, none⟩ u) := fun k o h1 h2 _ => by
  refine (Below.heap_setCell w _ u k fun e => ?_).trans h1
  have e : k = b := e
  subst e
  unfold Box at h
  rw [h1] at h; injection h with h
  exact h2 _ _ h
theorem Fr2.setR {w : World} {base g n c : Nat} {xs : List Value} (h : w.ownsRow base 42 4 (.slice (some ⟨g, 0, none⟩) n c) n xs) (i : Nat) (u : Value) : Fr2 w (w.setCell ⟨g, i, none⟩ u) := fun k o h1 _ h3 => by
  refine (Below.heap_setCell w _ u k fun e => ?_).trans h1
  have e : k = g := e
  subst e
  rcases h.2 with ⟨hv, _⟩ | ⟨g2, cap2, cur, hv, hg, hc, _⟩
  · cases hv
  · injection hv with hv; injection hv with hv; injection hv with hv; subst hv
    rw [h1] at hc; injection hc with hc
    exact h3 _ _ hc
theorem Fr2.grown {w w' : World} {base n : Nat} {v : Value} {xs : List Value} (h : w.ownsRow base 42 4 v n xs) (gr : w.grownBy w' v.ownBlock) : Fr2 w w' := fun k o h1 _ h3 => by
  refine (gr.block k (Array.getElem?_eq_some_iff.1 h1).1 fun e => ?_).trans h1
  rcases h.2 with ⟨hv, _⟩ | ⟨g2, cap2, cur, hv, hg, hc, _⟩
  · rw [hv] at e; simp [Value.ownBlock] at e
  · rw [hv] at e; simp [Value.ownBlock] at e; subst e
    rw [h1] at hc; injection hc with hc
    exact h3 _ _ hc
theorem Fr2.box {w w' : World} (h : Fr2 w w') {g : Nat} {t : TypeId} {cs : Array Value} (hx : Box w g t cs) (h1 : t ≠ 76) (h2 : t ≠ 42) : Box w' g t cs :=
  h g _ hx (fun cs fr e => by injection e with _ e; exact h1 e) (fun cs fr e => by injection e with _ e; exact h2 e)
def BldOut (base b : Nat) (st : List Rw × Int) (w : World) (e : Ending) (w' : World) : Prop := e = .returned (.tuple #[]) ∧ Bld w' base b st ∧ Below base w w' ∧ Fr2 w w'
theorem bld_drewN {w : World} {base b : Nat} {st : List Rw × Int} (h : Bld w base b st) (j : Nat) : Bld (w.drewN j) base b st := by
  obtain ⟨A, c, h1, h2⟩ := h.ex
  exact ⟨A, c, h1, own_kept2 h2 fun _ _ => rfl⟩
def big : Int := 4611686018427387904
theorem wrap_ok (x : Int) (h0 : -4611686018427387904 ≤ x) (h1 : x ≤ 4611686018427387904) : IntKind.i64.wrap x = x := IntWalk.i64_in _ ⟨by omega, by omega⟩
set_option maxRecDepth 100000 in
theorem badd_zero (base b : Nat) (st : List Rw × Int) (v o : Int) (w : World) (h : Bld w base b st) : Calls Try.prog 21 #[.pointer (some ⟨b, 0, none⟩), .int .i64 0, .int .i64 v, .int .i64 o] w (BldOut base b (blAdd st 0 v o) w) := by
  have HR := Lib.hid (show Bld w base b (blAdd st 0 v o) from h)
  clear h
  go_enter Try.func21, Try.ntmps21
  go_wp2_with fail
  go_end0
  exact ⟨rfl, HR.out, Below.refl _ _, Fr2.refl _⟩
set_option maxRecDepth 100000 in
set_option maxHeartbeats 8000000 in
theorem badd_merge (base b : Nat) (hbb : base ≤ b) (R : List Rw) (r : Rw) (len n v o : Int) (hn0 : n ≠ 0) (hv : r.v = v) (ho : r.o + r.n = o) (hk : R.length ≤ 100000)
    (n0 : 0 ≤ n) (n1 : n ≤ 1000000000000) (r0 : 0 ≤ r.n) (r1 : r.n ≤ 1000000000000) (o0 : 0 ≤ r.o) (o1 : r.o ≤ 1000000000000) (l0 : 0 ≤ len) (l1 : len ≤ 1000000000000) (w : World) (h : Bld w base b (R ++ [r], len)) :
    Calls Try.prog 21 #[.pointer (some ⟨b, 0, none⟩), .int .i64 n, .int .i64 v, .int .i64 o] w (BldOut base b (blAdd (R ++ [r], len) n v o) w) := by
  obtain ⟨A, c, bx, ow⟩ := h.ex
  simp only [List.length_append, List.length_cons, List.length_nil, Nat.zero_add] at bx ow
  obtain ⟨k, hkk⟩ : ∃ k, k = R.length := ⟨_, rfl⟩
  rw [← hkk] at bx ow hk
  obtain ⟨g, rfl, gc, gl, gb⟩ := own_addr ow (by omega)
  have kl : (rwc R).length = k * 4 := by rw [rwc_len, hkk]
  have e : rwc (R ++ [r]) = rwc R ++ r.cells := by rw [rwc_app]; simp [rwc]
  have cell : ∀ j u, r.cells[j]? = some u → w.cell? ⟨g, k * 4 + j, none⟩ = some u := fun j u hu => own_cellN ow (by rw [e, List.getElem?_append_right (by omega), kl, show k * 4 + j - k * 4 = j by omega]; exact hu)
  have d1 := cell 1 _ rfl; have d2 := cell 2 _ rfl; have d3 := cell 3 _ rfl
  have fz := own_frozen ow (k * 4 + 1)
  have own2 := own_set ow (k * 4 + 1) (.int .i64 (r.n + n))
  have e2 : (rwc (R ++ [r])).set (k * 4 + 1) (.int .i64 (r.n + n)) = rwc (R ++ [⟨r.fr, r.n + n, r.v, r.o⟩]) := by
    rw [e, List.set_append_right _ _ (by omega), kl, show k * 4 + 1 - k * 4 = 1 by omega, rwc_app]; rfl
  rw [e2] at own2
  have bx2 := box_setOwn bx ow (by decide) (k * 4 + 1) (.int .i64 (r.n + n))
  have y0 := bx.cell 0; have y1 := bx.cell 1
  have z1 : ∀ j, ((w.drewN j).setCell ⟨g, k * 4 + 1, none⟩ (.int .i64 (r.n + n))).cell? ⟨b, 1, none⟩ = some (.int .i64 len) := fun j => bx2.cell 1
  have z2 : ∀ j, ((w.drewN j).setCell ⟨g, k * 4 + 1, none⟩ (.int .i64 (r.n + n))).frozen? ⟨b, 1, none⟩ = false := fun j => bx2.free 1
  simp only [List.getElem?_toArray, List.getElem?_cons_zero, List.getElem?_cons_succ] at y0 y1
  have HB3 : Hid (Bld ((w.setCell ⟨g, k * 4 + 1, none⟩ (.int .i64 (r.n + n))).setCell ⟨b, 1, none⟩ (.int .i64 (len + n))) base b (blAdd (R ++ [r], len) n v o)) := Lib.hid (by
    have e3 : blAdd (R ++ [r], len) n v o = (R ++ [⟨r.fr, r.n + n, r.v, r.o⟩], len + n) := by
      unfold blAdd
      rw [if_neg hn0]
      simp [hv, ho]
    rw [e3]
    refine ⟨some ⟨g, 0, none⟩, c, ?_, ?_⟩
    · have := bx2.set_ 1 (.int .i64 (len + n))
      simp only [List.length_append, List.length_cons, List.length_nil, Nat.zero_add, ← hkk]
      exact this
    · have := own_setBox own2 bx2 (by decide) 1 (.int .i64 (len + n))
      simp only [List.length_append, List.length_cons, List.length_nil, Nat.zero_add, ← hkk]
      exact this)
  have HFR : Hid (Fr2 w ((w.setCell ⟨g, k * 4 + 1, none⟩ (.int .i64 (r.n + n))).setCell ⟨b, 1, none⟩ (.int .i64 (len + n)))) := Lib.hid ((Fr2.setR ow _ _).trans (Fr2.setB bx2 _ _))
  have HBW := Lib.hid ((Below.refl base w).setCell (p := ⟨g, k * 4 + 1, none⟩) gb (.int .i64 (r.n + n)) |>.setCell (p := ⟨b, 1, none⟩) hbb (.int .i64 (len + n)))
  obtain ⟨rf, rn, rv, ro⟩ := r
  simp only at d1 d2 d3 hv ho r0 r1 o0 o1 z1 z2 HB3 HBW HFR
  subst hv
  have t0 : (n == 0) = false := by rw [beq_eq_false_iff_ne]; exact hn0
  have t1 : (rv == rv) = true := by simp
  have t2 : (ro + rn == o) = true := by rw [beq_iff_eq]; exact ho
  have wk := IntWalk.wrap64_in (k : Int) ⟨by omega, by omega⟩
  have w1 := wrap_ok (ro + rn) (by omega) (by omega)
  have w2 := wrap_ok (rn + n) (by omega) (by omega)
  have w3 := wrap_ok (len + n) (by omega) (by omega)
  have gb2 : b < w.heap.size := bx.lt
  have k0 : (0 : Int) ≤ (k : Int) := Int.natCast_nonneg k
  have hro : ro + rn ≤ 2000000000000 := by omega
  clear bx ow own2 bx2 e e2 kl cell h hkk ho hn0 gl gb hbb
  go_enter Try.func21, Try.ntmps21
  go_upto_region 2 with fail
  go_quiet (fail)
  go_wp2_with fail
  go_end0
  exact ⟨rfl, bld_drewN HB3.out nq, below_drewN HBW.out nq, fun k o h1 h2 h3 => HFR.out k o h1 h2 h3⟩
/-- what the append leaves -/
theorem bld_app {w w7 : World} {base b k c d7 : Nat} {A A7 : Option Addr} {R : List Rw} {len n v o : Int} (hk : R.length = k) (hbb : base ≤ b) (hbs : base ≤ w.heap.size)
    (bx : Box w b 76 #[.slice A k c, .int .i64 len]) (ow : w.ownsRow base 42 4 (.slice A k c) k (rwc R))
    (own7 : w7.ownsRow base 42 4 (.slice A7 (k + 1) d7) (k + 1) (rwc R ++ rwc [⟨len, n, v, o⟩])) (gr7 : (w.drew.alloc (.cells (rwc [⟨len, n, v, o⟩]).toArray 42)).grownBy w7 (Value.slice A k c).ownBlock) :
    Box w7 b 76 #[.slice A k c, .int .i64 len] ∧ Bld ((w7.setCell ⟨b, 0, none⟩ (.slice A7 (k + 1) d7)).setCell ⟨b, 1, none⟩ (.int .i64 (len + n))) base b (R ++ [⟨len, n, v, o⟩], len + n) ∧
      Below base w ((w7.setCell ⟨b, 0, none⟩ (.slice A7 (k + 1) d7)).setCell ⟨b, 1, none⟩ (.int .i64 (len + n))) ∧ Fr2 w ((w7.setCell ⟨b, 0, none⟩ (.slice A7 (k + 1) d7)).setCell ⟨b, 1, none⟩ (.int .i64 (len + n))) := by
  have ow6 := own_alloc (show w.drew.ownsRow base 42 4 (.slice A k c) k (rwc R) from own_kept2 ow fun _ _ => rfl) (.cells (rwc [⟨len, n, v, o⟩]).toArray 42)
  have bx7 := box_grown3 (bx.drew.alloc (.cells (rwc [⟨len, n, v, o⟩]).toArray 42)) ow6 (by decide) gr7
  have bx8 := bx7.set_ 0 (.slice A7 (k + 1) d7)
  have ow8 := own_setBox own7 bx7 (by decide) 0 (.slice A7 (k + 1) d7)
  have e : (R ++ [(⟨len, n, v, o⟩ : Rw)]).length = k + 1 := by simp [hk]
  refine ⟨bx7, ⟨A7, d7, ?_, ?_⟩, ?_, ?_⟩
  · show Box _ b _ #[.slice A7 (R ++ [(⟨len, n, v, o⟩ : Rw)]).length d7, .int .i64 (len + n)]
    rw [e]; exact bx8.set_ 1 _
  · show World.ownsRow _ _ _ _ (.slice A7 (R ++ [(⟨len, n, v, o⟩ : Rw)]).length d7) (R ++ [(⟨len, n, v, o⟩ : Rw)]).length _
    rw [e, rwc_app]; exact own_setBox ow8 bx8 (by decide) 1 _
  · exact ((below_grown ((below_drewN (Below.refl base w) 1).alloc hbs (.cells (rwc [⟨len, n, v, o⟩]).toArray 42)) ow6 (Nat.le_refl _) (by simp; omega) gr7).setCell (p := ⟨b, 0, none⟩) hbb _).setCell (p := ⟨b, 1, none⟩) hbb _
  · exact (((Fr2.of_below (w := w) (w' := w.drew.alloc (.cells (rwc [⟨len, n, v, o⟩]).toArray 42)) ((below_drewN (Below.refl _ w) 1).alloc (Nat.le_refl _) _)).trans (Fr2.grown ow6 gr7)).trans (Fr2.setB bx7 _ _)).trans (Fr2.setB bx8 _ _)
set_option maxRecDepth 100000 in
set_option maxHeartbeats 8000000 in
theorem badd_first (base b : Nat) (hbb : base ≤ b) (len n v o : Int) (hn0 : n ≠ 0) (n0 : 0 ≤ n) (n1 : n ≤ 1000000000000) (l0 : 0 ≤ len) (l1 : len ≤ 1000000000000) (w : World) (hbs : base ≤ w.heap.size) (h : Bld w base b ([], len)) :
    Calls Try.prog 21 #[.pointer (some ⟨b, 0, none⟩), .int .i64 n, .int .i64 v, .int .i64 o] w (BldOut base b (blAdd ([], len) n v o) w) := by
  obtain ⟨i0_, hi0, hz0, hz1, hz2⟩ := info_parts5 info_row
  have HI := Lib.hid hi0; have HZ := Lib.hid hz0; have HZ1 := Lib.hid hz1; have HZ2 := Lib.hid hz2
  obtain ⟨A, c, bx, ow⟩ := h.ex
  obtain ⟨R, hR⟩ : ∃ R : List Rw, R = [] := ⟨_, rfl⟩
  have HE : Hid (blAdd ([], len) n v o = (R ++ [⟨len, n, v, o⟩], len + n)) := Lib.hid (by unfold blAdd; rw [if_neg hn0, hR]; rfl)
  have bx : Box w b 76 #[.slice A 0 c, .int .i64 len] := bx
  have ow : w.ownsRow base 42 4 (.slice A 0 c) 0 (rwc R) := by rw [hR]; exact ow
  have hkl : R.length = 0 := by rw [hR]; rfl
  have HBX := Lib.hid bx; have HOW := Lib.hid ow; have HKL := Lib.hid hkl; have HBB := Lib.hid hbb; have HBS := Lib.hid hbs
  have y0 := bx.cell 0; have y1 := bx.cell 1
  simp only [List.getElem?_toArray, List.getElem?_cons_zero, List.getElem?_cons_succ] at y0 y1
  have t0 : (n == 0) = false := by rw [beq_eq_false_iff_ne]; exact hn0
  have w3 := wrap_ok (len + n) (by omega) (by omega)
  have gb2 : b < w.heap.size := bx.lt
  clear bx ow hi0 hz0 hz1 hz2 h hn0 hR
  go_enter Try.func21, Try.ntmps21
  go_upto_region 2 with fail
  go_quiet (fail)
  go_upto_region 4 with fail
  refine wp_nm (fun w5 => Hid (Fr2 w w5) ∧ Hid (Below base w w5) ∧ Hid (Box w5 b 76 #[.slice A 0 c, .int .i64 len]) ∧ Hid (w5.ownsRow base 42 4 (.slice A 0 c) 0 (rwc R)) ∧ Hid (base ≤ w5.heap.size)) ⟨Lib.hid (fun k o h1 h2 h3 => h1), Lib.hid (below_drewN (Below.refl base w) nq), Lib.hid (HBX.out.drewN nq), Lib.hid (own_kept2 HOW.out fun _ _ => rfl), Lib.hid HBS.out⟩ ?_
  clear HBX HOW y0 y1 gb2
  rintro w5 ⟨F5, BW5, BX5, OW5, HB5⟩
  have y0 := BX5.out.cell 0; have y1 := BX5.out.cell 1
  simp only [List.getElem?_toArray, List.getElem?_cons_zero, List.getElem?_cons_succ] at y0 y1
  have y0d : (w5.alloc (.cells #[.int .i64 len, .int .i64 n, .int .i64 v, .int .i64 o] 42)).cell? ⟨b, 0, none⟩ = some (.slice A 0 c) := (BX5.out.alloc _).cell 0
  have gb5 := BX5.out.lt
  have OW6 := Lib.hid (own_alloc (show w5.drew.ownsRow base 42 4 (.slice A 0 c) 0 (rwc R) from own_kept2 OW5.out fun _ _ => rfl) (.cells #[.int .i64 len, .int .i64 n, .int .i64 v, .int .i64 o] 42))
  have X6 := Lib.hid (RowAt.of_block (Box.new w5.drew 42 #[.int .i64 len, .int .i64 n, .int .i64 v, .int .i64 o]))
  go_region_law (refine step_app rfl (.tmp 68) (.tmp 77) _ rfl base 42 i0_ _ 4 32 Try.underlying36 HI.out HZ.out HZ1.out HZ2.out rfl (by omega) (.slice A 0 c) 0 (rwc R) rfl OW6.out (some ⟨w5.heap.size, 0, none⟩) 1 1 (rwc [⟨len, n, v, o⟩]) rfl rfl X6.out (rwc_one _) (by simp only [maxLen]; omega) (by omega) (by have := HB5.out; simp; omega) ?_; intro A7 d7 w7 own7 gr7 at7; obtain ⟨HB7, BL7, BW7, FR7⟩ := bld_app HKL.out HBB.out HB5.out BX5.out OW5.out own7 gr7; have c7 := HB7.cell 0; have f7 := HB7.free 0; simp only [List.getElem?_toArray, List.getElem?_cons_zero] at c7)
  all_goals
    have BLh := Lib.hid BL7; have BWh := Lib.hid BW7; have FRh := Lib.hid FR7
    have HB8 := HB7.set_ 0 (.slice A7 (0 + 1) d7)
    have c8 := HB8.cell 1; have f8 := HB8.free 1
    have e8 := HE.out
    clear own7 gr7 at7 BL7 BW7 FR7 HB7 c7 f7 HB8 y0 y1 y0d
    go_wp2_with fail
    go_end0
    refine ⟨rfl, ?_, ?_, ?_⟩
    · (try rw [e8]); exact BLh.out
    · exact BW5.out.trans BWh.out
    · exact F5.out.trans FRh.out

end Go.Proofs.Ytolhjkpekmmajaa
/- The walk of blame's builder.add, on. -/
namespace Go.Proofs.Ytolhjkpekmmajaa
set_option linter.unusedVariables false
set_option linter.unusedSimpArgs false
open Go.RowKit Go.Lib Go.Maps
attribute [local go_sem ↓] Go.wp_at_zero Go.wp_at_succ
set_option maxRecDepth 100000 in
set_option maxHeartbeats 8000000 in
theorem badd_ver (base b : Nat) (hbb : base ≤ b) (len n v o : Int) (R0 : List Rw) (r : Rw) (hv : r.v ≠ v) (hkk : R0.length ≤ 90000) (hn0 : n ≠ 0) (n0 : 0 ≤ n) (n1 : n ≤ 1000000000000) (l0 : 0 ≤ len) (l1 : len ≤ 1000000000000) (w : World) (hbs : base ≤ w.heap.size) (h : Bld w base b (R0 ++ [r], len)) :
    Calls Try.prog 21 #[.pointer (some ⟨b, 0, none⟩), .int .i64 n, .int .i64 v, .int .i64 o] w (BldOut base b (blAdd (R0 ++ [r], len) n v o) w) := by
  obtain ⟨i0_, hi0, hz0, hz1, hz2⟩ := info_parts5 info_row
  have HI := Lib.hid hi0; have HZ := Lib.hid hz0; have HZ1 := Lib.hid hz1; have HZ2 := Lib.hid hz2
  obtain ⟨A, c, bx, ow⟩ := h.ex
  obtain ⟨R, hR⟩ : ∃ R : List Rw, R = R0 ++ [r] := ⟨_, rfl⟩
  obtain ⟨k0, hk0⟩ : ∃ k0 : Nat, k0 = R0.length := ⟨_, rfl⟩
  have HE : Hid (blAdd (R0 ++ [r], len) n v o = (R ++ [⟨len, n, v, o⟩], len + n)) := Lib.hid (by have hl : (R0 ++ [r]).getLast? = some r := (by simp); unfold blAdd; rw [if_neg hn0, hR]; simp only [hl]; rw [if_neg fun h => hv h.1])
  have hkl : R.length = k0 + 1 := by rw [hR, hk0]; simp
  have bx : Box w b 76 #[.slice A (k0 + 1) c, .int .i64 len] := by rw [← hkl, hR]; exact bx
  have ow : w.ownsRow base 42 4 (.slice A (k0 + 1) c) (k0 + 1) (rwc R) := by rw [← hkl, hR]; exact ow
  obtain ⟨g, rfl, gc, gl, gb⟩ := own_addr ow (by omega)
  have kl : (rwc R0).length = k0 * 4 := by rw [rwc_len, hk0]
  have e : rwc R = rwc R0 ++ r.cells := by rw [hR, rwc_app]; simp [rwc]
  have cell : ∀ j u, r.cells[j]? = some u → w.cell? ⟨g, k0 * 4 + j, none⟩ = some u := fun j u hu => own_cellN ow (by rw [e, List.getElem?_append_right (by omega), kl, show k0 * 4 + j - k0 * 4 = j by omega]; exact hu)
  have d1 := cell 1 _ rfl; have d2 := cell 2 _ rfl; have d3 := cell 3 _ rfl
  have t1 : (r.v == v) = false := by rw [beq_eq_false_iff_ne]; exact hv
  have kk : k0 ≤ 90000 := by omega
  have k00 : (0 : Int) ≤ (k0 : Int) := Int.natCast_nonneg k0
  have gc0 : k0 + 1 ≤ c := gc
  have wk := IntWalk.wrap64_in (k0 : Int) ⟨by omega, by omega⟩
  have HBX := Lib.hid bx; have HOW := Lib.hid ow; have HKL := Lib.hid hkl; have HBB := Lib.hid hbb; have HBS := Lib.hid hbs
  have y0 := bx.cell 0; have y1 := bx.cell 1
  simp only [List.getElem?_toArray, List.getElem?_cons_zero, List.getElem?_cons_succ] at y0 y1
  have t0 : (n == 0) = false := by rw [beq_eq_false_iff_ne]; exact hn0
  have w3 := wrap_ok (len + n) (by omega) (by omega)
  have gb2 : b < w.heap.size := bx.lt
  clear bx ow hi0 hz0 hz1 hz2 h hn0 e kl cell hR hk0 gl gb hkk
  go_enter Try.func21, Try.ntmps21
  go_upto_region 2 with fail
  go_quiet (fail)
  go_upto_region 4 with fail
  clear wk t1
  refine wp_nm (fun w5 => Hid (Fr2 w w5) ∧ Hid (Below base w w5) ∧ Hid (Box w5 b 76 #[.slice (some ⟨g, 0, none⟩) (k0 + 1) c, .int .i64 len]) ∧ Hid (w5.ownsRow base 42 4 (.slice (some ⟨g, 0, none⟩) (k0 + 1) c) (k0 + 1) (rwc R)) ∧ Hid (base ≤ w5.heap.size)) ⟨Lib.hid (fun k o h1 h2 h3 => h1), Lib.hid (below_drewN (Below.refl base w) nq), Lib.hid (HBX.out.drewN nq), Lib.hid (own_kept2 HOW.out fun _ _ => rfl), Lib.hid HBS.out⟩ ?_
  clear HBX HOW y0 y1 gb2 d1 d2 d3
  rintro w5 ⟨F5, BW5, BX5, OW5, HB5⟩
  have y0 := BX5.out.cell 0; have y1 := BX5.out.cell 1
  simp only [List.getElem?_toArray, List.getElem?_cons_zero, List.getElem?_cons_succ] at y0 y1
  have y0d : (w5.alloc (.cells #[.int .i64 len, .int .i64 n, .int .i64 v, .int .i64 o] 42)).cell? ⟨b, 0, none⟩ = some (.slice (some ⟨g, 0, none⟩) (k0 + 1) c) := (BX5.out.alloc _).cell 0
  have gb5 := BX5.out.lt
  have OW6 := Lib.hid (own_alloc (show w5.drew.ownsRow base 42 4 (.slice (some ⟨g, 0, none⟩) (k0 + 1) c) (k0 + 1) (rwc R) from own_kept2 OW5.out fun _ _ => rfl) (.cells #[.int .i64 len, .int .i64 n, .int .i64 v, .int .i64 o] 42))
  have X6 := Lib.hid (RowAt.of_block (Box.new w5.drew 42 #[.int .i64 len, .int .i64 n, .int .i64 v, .int .i64 o]))
  go_region_law (refine step_app rfl (.tmp 68) (.tmp 77) _ rfl base 42 i0_ _ 4 32 Try.underlying36 HI.out HZ.out HZ1.out HZ2.out rfl (by omega) (.slice (some ⟨g, 0, none⟩) (k0 + 1) c) (k0 + 1) (rwc R) rfl OW6.out (some ⟨w5.heap.size, 0, none⟩) 1 1 (rwc [⟨len, n, v, o⟩]) rfl rfl X6.out (rwc_one _) (by simp only [maxLen]; omega) (by omega) (by have := HB5.out; simp; omega) ?_; intro A7 d7 w7 own7 gr7 at7; obtain ⟨HB7, BL7, BW7, FR7⟩ := bld_app HKL.out HBB.out HB5.out BX5.out OW5.out own7 gr7; have c7 := HB7.cell 0; have f7 := HB7.free 0; simp only [List.getElem?_toArray, List.getElem?_cons_zero] at c7)
  all_goals
    have BLh := Lib.hid BL7; have BWh := Lib.hid BW7; have FRh := Lib.hid FR7
    have HB8 := HB7.set_ 0 (.slice A7 (k0 + 1 + 1) d7)
    have c8 := HB8.cell 1; have f8 := HB8.free 1
    have e8 := HE.out
    clear own7 gr7 at7 BL7 BW7 FR7 HB7 c7 f7 HB8 y0 y1 y0d
    go_wp2_with fail
    go_end0
    refine ⟨rfl, ?_, ?_, ?_⟩
    · (try rw [e8]); exact BLh.out
    · exact BW5.out.trans BWh.out
    · exact F5.out.trans FRh.out

end Go.Proofs.Ytolhjkpekmmajaa
/- The walk of blame's builder.add, on. -/
namespace Go.Proofs.Ytolhjkpekmmajaa
set_option linter.unusedVariables false
set_option linter.unusedSimpArgs false
open Go.RowKit Go.Lib Go.Maps
attribute [local go_sem ↓] Go.wp_at_zero Go.wp_at_succ
set_option maxRecDepth 100000 in
set_option maxHeartbeats 8000000 in
theorem badd_org (base b : Nat) (hbb : base ≤ b) (len n v o : Int) (R0 : List Rw) (r : Rw) (hv : r.v = v) (ho : r.o + r.n ≠ o) (hkk : R0.length ≤ 90000) (r0 : 0 ≤ r.n) (r1 : r.n ≤ 1000000000000) (o0 : 0 ≤ r.o) (o1 : r.o ≤ 1000000000000) (hn0 : n ≠ 0) (n0 : 0 ≤ n) (n1 : n ≤ 1000000000000) (l0 : 0 ≤ len) (l1 : len ≤ 1000000000000) (w : World) (hbs : base ≤ w.heap.size) (h : Bld w base b (R0 ++ [r], len)) :
    Calls Try.prog 21 #[.pointer (some ⟨b, 0, none⟩), .int .i64 n, .int .i64 v, .int .i64 o] w (BldOut base b (blAdd (R0 ++ [r], len) n v o) w) := by
  obtain ⟨i0_, hi0, hz0, hz1, hz2⟩ := info_parts5 info_row
  have HI := Lib.hid hi0; have HZ := Lib.hid hz0; have HZ1 := Lib.hid hz1; have HZ2 := Lib.hid hz2
  obtain ⟨A, c, bx, ow⟩ := h.ex
  obtain ⟨R, hR⟩ : ∃ R : List Rw, R = R0 ++ [r] := ⟨_, rfl⟩
  obtain ⟨k0, hk0⟩ : ∃ k0 : Nat, k0 = R0.length := ⟨_, rfl⟩
  have HE : Hid (blAdd (R0 ++ [r], len) n v o = (R ++ [⟨len, n, v, o⟩], len + n)) := Lib.hid (by have hl : (R0 ++ [r]).getLast? = some r := (by simp); unfold blAdd; rw [if_neg hn0, hR]; simp only [hl]; rw [if_neg fun h => ho h.2])
  have hkl : R.length = k0 + 1 := by rw [hR, hk0]; simp
  have bx : Box w b 76 #[.slice A (k0 + 1) c, .int .i64 len] := by rw [← hkl, hR]; exact bx
  have ow : w.ownsRow base 42 4 (.slice A (k0 + 1) c) (k0 + 1) (rwc R) := by rw [← hkl, hR]; exact ow
  obtain ⟨g, rfl, gc, gl, gb⟩ := own_addr ow (by omega)
  have kl : (rwc R0).length = k0 * 4 := by rw [rwc_len, hk0]
  have e : rwc R = rwc R0 ++ r.cells := by rw [hR, rwc_app]; simp [rwc]
  have cell : ∀ j u, r.cells[j]? = some u → w.cell? ⟨g, k0 * 4 + j, none⟩ = some u := fun j u hu => own_cellN ow (by rw [e, List.getElem?_append_right (by omega), kl, show k0 * 4 + j - k0 * 4 = j by omega]; exact hu)
  have d1 := cell 1 _ rfl; have d2 := cell 2 _ rfl; have d3 := cell 3 _ rfl
  have t1 : True := trivial
  have t2 : (r.o + r.n == o) = false := by rw [beq_eq_false_iff_ne]; exact ho
  have hro : r.o + r.n ≤ 2000000000000 := by omega
  have kk : k0 ≤ 90000 := by omega
  have k00 : (0 : Int) ≤ (k0 : Int) := Int.natCast_nonneg k0
  have gc0 : k0 + 1 ≤ c := gc
  have w3 := wrap_ok (len + n) (by omega) (by omega)
  have w1 := wrap_ok (r.o + r.n) (by omega) (by omega)
  have wk := IntWalk.wrap64_in (k0 : Int) ⟨by omega, by omega⟩
  have HBX := Lib.hid bx; have HOW := Lib.hid ow; have HKL := Lib.hid hkl; have HBB := Lib.hid hbb; have HBS := Lib.hid hbs
  have y0 := bx.cell 0; have y1 := bx.cell 1
  simp only [List.getElem?_toArray, List.getElem?_cons_zero, List.getElem?_cons_succ] at y0 y1
  have t0 : (n == 0) = false := by rw [beq_eq_false_iff_ne]; exact hn0
  have gb2 : b < w.heap.size := bx.lt
  have Hho := Lib.hid ho
  clear ho
  obtain ⟨rf, rn, rv, ro⟩ := r
  simp only at d1 d2 d3 hv t1 t2 r0 r1 o0 o1 w1 hro HE
  subst hv
  clear bx ow hi0 hz0 hz1 hz2 h hn0 e kl cell hR hk0 gl gb hkk
  go_enter Try.func21, Try.ntmps21
  go_upto_region 2 with fail
  go_quiet (fail)
  go_upto_region 4 with fail
  clear wk w1 t1 t2
  refine wp_nm (fun w5 => Hid (Fr2 w w5) ∧ Hid (Below base w w5) ∧ Hid (Box w5 b 76 #[.slice (some ⟨g, 0, none⟩) (k0 + 1) c, .int .i64 len]) ∧ Hid (w5.ownsRow base 42 4 (.slice (some ⟨g, 0, none⟩) (k0 + 1) c) (k0 + 1) (rwc R)) ∧ Hid (base ≤ w5.heap.size)) ⟨Lib.hid (fun k o h1 h2 h3 => h1), Lib.hid (below_drewN (Below.refl base w) nq), Lib.hid (HBX.out.drewN nq), Lib.hid (own_kept2 HOW.out fun _ _ => rfl), Lib.hid HBS.out⟩ ?_
  clear HBX HOW y0 y1 gb2 d1 d2 d3
  rintro w5 ⟨F5, BW5, BX5, OW5, HB5⟩
  have y0 := BX5.out.cell 0; have y1 := BX5.out.cell 1
  simp only [List.getElem?_toArray, List.getElem?_cons_zero, List.getElem?_cons_succ] at y0 y1
  have y0d : (w5.alloc (.cells #[.int .i64 len, .int .i64 n, .int .i64 rv, .int .i64 o] 42)).cell? ⟨b, 0, none⟩ = some (.slice (some ⟨g, 0, none⟩) (k0 + 1) c) := (BX5.out.alloc _).cell 0
  have gb5 := BX5.out.lt
  have OW6 := Lib.hid (own_alloc (show w5.drew.ownsRow base 42 4 (.slice (some ⟨g, 0, none⟩) (k0 + 1) c) (k0 + 1) (rwc R) from own_kept2 OW5.out fun _ _ => rfl) (.cells #[.int .i64 len, .int .i64 n, .int .i64 rv, .int .i64 o] 42))
  have X6 := Lib.hid (RowAt.of_block (Box.new w5.drew 42 #[.int .i64 len, .int .i64 n, .int .i64 rv, .int .i64 o]))
  go_region_law (refine step_app rfl (.tmp 68) (.tmp 77) _ rfl base 42 i0_ _ 4 32 Try.underlying36 HI.out HZ.out HZ1.out HZ2.out rfl (by omega) (.slice (some ⟨g, 0, none⟩) (k0 + 1) c) (k0 + 1) (rwc R) rfl OW6.out (some ⟨w5.heap.size, 0, none⟩) 1 1 (rwc [⟨len, n, rv, o⟩]) rfl rfl X6.out (rwc_one _) (by simp only [maxLen]; omega) (by omega) (by have := HB5.out; simp; omega) ?_; intro A7 d7 w7 own7 gr7 at7; obtain ⟨HB7, BL7, BW7, FR7⟩ := bld_app HKL.out HBB.out HB5.out BX5.out OW5.out own7 gr7; have c7 := HB7.cell 0; have f7 := HB7.free 0; simp only [List.getElem?_toArray, List.getElem?_cons_zero] at c7)
  all_goals
    have BLh := Lib.hid BL7; have BWh := Lib.hid BW7; have FRh := Lib.hid FR7
    have HB8 := HB7.set_ 0 (.slice A7 (k0 + 1 + 1) d7)
    have c8 := HB8.cell 1; have f8 := HB8.free 1
    have e8 := HE.out
    clear own7 gr7 at7 BL7 BW7 FR7 HB7 c7 f7 HB8 y0 y1 y0d
    go_wp2_with fail
    go_end0
    refine ⟨rfl, ?_, ?_, ?_⟩
    · (try rw [e8]); exact BLh.out
    · exact BW5.out.trans BWh.out
    · exact F5.out.trans FRh.out

end Go.Proofs.Ytolhjkpekmmajaa
/- The walk of blame's builder.keep. -/
namespace Go.Proofs.Ytolhjkpekmmajaa
set_option linter.unusedVariables false
set_option linter.unusedSimpArgs false
open Go.RowKit Go.Lib Go.Maps
attribute [local go_sem ↓] Go.wp_at_zero Go.wp_at_succ
/-- what bounds a builder's rows -/
structure Bd (st : List Rw × Int) : Prop where
  l0 : 0 ≤ st.2
  k : (st.1.length : Int) ≤ st.2
  r : ∀ r ∈ st.1, 1 ≤ r.n ∧ r.n ≤ st.2 ∧ 0 ≤ r.o ∧ r.o + r.n ≤ 50000 ∧ 0 ≤ r.fr ∧ r.fr ≤ st.2
theorem bd_nil : Bd ([], 0) := ⟨Int.le_refl _, Int.le_refl _, fun r h => by simp at h⟩
theorem last_split {R : List Rw} {r : Rw} (h : R.getLast? = some r) : ∃ R0, R = R0 ++ [r] := by
  rcases List.eq_nil_or_concat R with rfl | ⟨l, b, e⟩
  · simp at h
  · rw [List.concat_eq_append] at e
    subst e
    simp at h; subst h
    exact ⟨l, rfl⟩
theorem Bd.add {st : List Rw × Int} (h : Bd st) {n o : Int} (v : Int) (n0 : 0 ≤ n) (o0 : 0 ≤ o) (o1 : o + n ≤ 50000) : Bd (blAdd st n v o) ∧ (blAdd st n v o).2 = st.2 + n := by
  obtain ⟨R, len⟩ := st
  obtain ⟨l0, hk, hr⟩ := h
  simp only at l0 hk hr
  unfold blAdd
  by_cases hn : n = 0
  · rw [if_pos hn]; exact ⟨⟨l0, hk, hr⟩, by simp only; omega⟩
  · rw [if_neg hn]
    cases e : R.getLast? with
    | none =>
      have : R = [] := by simpa using e
      subst this
      refine ⟨⟨by simp only; omega, by simp; omega, fun r hr2 => ?_⟩, rfl⟩
      simp at hr2; subst hr2
      exact ⟨by simp only; omega, by simp only; omega, o0, o1, l0, by simp only; omega⟩
    | some r =>
      obtain ⟨R0, rfl⟩ := last_split e
      have hl := hr r (by simp)
      simp only
      split
      · rename_i hvo
        have hvo2 := hvo.2
        refine ⟨⟨by simp only; omega, by simp at hk ⊢; omega, fun s hs => ?_⟩, rfl⟩
        simp at hs
        rcases hs with hs | rfl
        · have := hr s (by simp [hs]); simp only; omega
        · simp only; omega
      · refine ⟨⟨by simp only; omega, by simp at hk ⊢; omega, fun s hs => ?_⟩, rfl⟩
        simp only [List.mem_append, List.mem_singleton] at hs
        rcases hs with hs | rfl
        · have := hr s (by simpa using hs); simp only; omega
        · simp only; omega
theorem badd_any (base b : Nat) (hbb : base ≤ b) (st : List Rw × Int) (hd : Bd st) (n v o : Int) (n0 : 0 ≤ n) (n1 : st.2 + n ≤ 50000) (w : World) (hbs : base ≤ w.heap.size) (h : Bld w base b st) :
    Calls Try.prog 21 #[.pointer (some ⟨b, 0, none⟩), .int .i64 n, .int .i64 v, .int .i64 o] w (BldOut base b (blAdd st n v o) w) := by
  obtain ⟨R, len⟩ := st
  have l0 := hd.l0; have hk := hd.k; have hr := hd.r
  simp only at l0 hk hr n1
  by_cases hn : n = 0
  · subst hn; exact badd_zero base b (R, len) v o w h
  · cases e : R.getLast? with
    | none =>
      have : R = [] := by simpa using e
      subst this
      exact badd_first base b hbb len n v o hn n0 (by omega) l0 (by omega) w hbs h
    | some r =>
      obtain ⟨R0, rfl⟩ := last_split e
      have hl := hr r (by simp)
      simp at hk
      by_cases hv : r.v = v
      · by_cases ho : r.o + r.n = o
        · exact badd_merge base b hbb R0 r len n v o hn hv ho (by omega) n0 (by omega) (by omega) (by omega) (by omega) (by omega) l0 (by omega) w h
        · exact badd_org base b hbb len n v o R0 r hv ho (by omega) (by omega) (by omega) (by omega) (by omega) hn n0 (by omega) l0 (by omega) w hbs h
      · exact badd_ver base b hbb len n v o R0 r hv (by omega) hn n0 (by omega) l0 (by omega) w hbs h
/-- a row that stays while blocks from base on turn -/
def RowB (w : World) (base : Nat) (A : Option Addr) (xs : List Value) : Prop := RowAt w A xs ∧ (xs ≠ [] → ∀ ad, A = some ad → ad.block < base)
theorem RowB.below {w w' : World} {base : Nat} {A : Option Addr} {xs : List Value} (h : RowB w base A xs) (hb : Below base w w') : RowB w' base A xs := by
  by_cases hx : xs = []
  · subst hx; exact ⟨RowAt.nil _ _, fun h => absurd rfl h⟩
  · obtain ⟨x, ys, rfl⟩ := List.exists_cons_of_ne_nil hx
    obtain ⟨ad, hA, hl, _⟩ := h.1.get (k := 0) (u := x) rfl
    subst hA
    have k := h.2 hx ad rfl
    refine ⟨fun j u hu => ⟨ad, rfl, ?_⟩, h.2⟩
    obtain ⟨ad2, e, hc⟩ := h.1 j u hu
    injection e with e; subst e
    exact (hb.cell (by rw [block_add]; exact k)).trans hc
theorem cut_rows (xs : List Value) (A : Option Addr) (n c : Nat) (hn : 1 ≤ n) (hc : n ≤ c) (hl : xs.length = n * 4) :
    ∃ A', (∀ w, (Instr.slice 36 (.slice A n c) (some (.int .i64 1)) none none).run Try.prog w = .ok (.slice A' (n - 1) (c - 1)) w) ∧ ∀ w base, RowB w base A xs → RowB w base A' (xs.drop 4) := by
  refine ⟨if c = 1 then A else A.map (·.add 4), fun w => ?_, fun w base h => ?_⟩
  · have := run_slice_l (P := Try.prog) (w := w) 36 A n c (by kernel_rfl) .i64 (1 : Int) (by omega) (by omega)
    rw [this]
    have hs : (sizeOf (Try.prog.elem 36)).run Try.prog w = .ok 4 w := by kernel_rfl
    rw [hs]
    simp [Result.andThen, sliced]
  · by_cases e : c = 1
    · have : xs.drop 4 = [] := List.drop_eq_nil_of_le (by omega)
      rw [this]; exact ⟨RowAt.nil _ _, fun h => absurd rfl h⟩
    · rw [if_neg e]
      refine ⟨row_drop h.1 4, fun hne ad hA => ?_⟩
      cases A with
      | none => cases hA
      | some a =>
        simp at hA; subst hA
        rw [block_add]
        exact h.2 (fun e => by rw [e] at hne; simp at hne) a rfl
theorem rwc_get0 {p : List Rw} {r : Rw} {j : Nat} {u : Value} (hu : r.cells[j]? = some u) : (rwc (r :: p))[j]? = some u := by
  have hj : j < 4 := (List.getElem?_eq_some_iff.1 hu).1
  show (r.cells ++ rwc p)[j]? = some u
  rw [List.getElem?_append_left (by simp [Rw.cells]; omega)]; exact hu
theorem row_rw0 {w : World} {A : Option Addr} {p : List Rw} {r : Rw} (h : RowAt w A (rwc (r :: p))) :
    ∃ ad, A = some ad ∧ ad.block < w.heap.size ∧ w.cell? ad = some (.int .i64 r.fr) ∧ w.cell? ⟨ad.block, ad.off + 1, none⟩ = some (.int .i64 r.n) ∧ w.cell? ⟨ad.block, ad.off + 2, none⟩ = some (.int .i64 r.v) ∧ w.cell? ⟨ad.block, ad.off + 3, none⟩ = some (.int .i64 r.o) := by
  obtain ⟨ad, e, hl, c0⟩ := h.get (rwc_get0 (j := 0) rfl)
  have key : ∀ j u, r.cells[j + 1]? = some u → w.cell? ⟨ad.block, ad.off + (j + 1), none⟩ = some u := by
    intro j u hu
    obtain ⟨a2, e2, _, k⟩ := h.get (rwc_get0 (p := p) (j := j + 1) hu)
    rw [e] at e2; cases e2
    rw [add_succ_] at k
    exact k
  exact ⟨ad, e, hl, c0, key 0 _ rfl, key 1 _ rfl, key 2 _ rfl⟩
/-- the letters of rows between two offsets added; the rows that reach beyond -/
def kp (f t : Int) : List Rw → List Rw × Int → (List Rw × Int) × List Rw
  | [], st => (st, [])
  | r :: rs, st =>
    if r.fr < t then
      let st' := if max r.fr f < min (r.fr + r.n) t then blAdd st (min (r.fr + r.n) t - max r.fr f) r.v (r.o + max r.fr f - r.fr) else st
      if r.fr + r.n > t then (st', r :: rs) else kp f t rs st'
    else (st, r :: rs)
/-- bounds on the rows that are read -/
def Rin (rs : List Rw) : Prop := ∀ r ∈ rs, 0 ≤ r.fr ∧ r.fr ≤ 50000 ∧ 1 ≤ r.n ∧ r.n ≤ 50000 ∧ 0 ≤ r.o ∧ r.o + r.n ≤ 50000
theorem Bd.rin {st : List Rw × Int} (h : Bd st) (hs : st.2 ≤ 50000) : Rin st.1 := fun r hr => by
  obtain ⟨h1, h2, h3, h4, h5, h6⟩ := h.r r hr
  exact ⟨h5, by omega, h1, by omega, h3, h4⟩
def rsum (rs : List Rw) : Int := sumL (rs.map Rw.n)
end Go.Proofs.Ytolhjkpekmmajaa
/- The walk of blame's builder.keep. Written by wip/gen/blkeep.py. -/
namespace Go.Proofs.Ytolhjkpekmmajaa
set_option linter.unusedVariables false
set_option linter.unusedSimpArgs false
open Go.RowKit Go.Lib Go.Maps Go.Deep
attribute [local go_sem ↓] Go.wp_at_zero Go.wp_at_succ
theorem bld_alloc {w : World} {base b : Nat} {st : List Rw × Int} (h : Bld w base b st) (x : Obj) : Bld (w.alloc x) base b st := by
  obtain ⟨A, c, h1, h2⟩ := h.ex
  exact ⟨A, c, h1.alloc x, own_alloc h2 x⟩
theorem bsz {B : Nat} {a w : World} (h : Below B a w) (hb : B ≤ a.heap.size) : B ≤ w.heap.size := Nat.le_trans hb h.size
def KpOut (base b : Nat) (K : (List Rw × Int) × List Rw) (w : World) (e : Ending) (w' : World) : Prop :=
  ∃ A c, e = .returned (.slice A K.2.length c) ∧ Bld w' base b K.1 ∧ Below base w w' ∧ RowB w' base A (rwc K.2) ∧ K.2.length ≤ c ∧ Fr2 w w'
theorem rsum_cons (r : Rw) (q : List Rw) : rsum (r :: q) = r.n + rsum q := by unfold rsum; rw [List.map_cons, sumL_cons]
theorem rsum_pos {q : List Rw} (h : Rin q) : 0 ≤ rsum q := sumL_pos fun x hx => by
  simp only [List.mem_map] at hx
  obtain ⟨r, hr, rfl⟩ := hx
  have := h r hr; omega
set_option maxRecDepth 100000 in
set_option maxHeartbeats 32000000 in
theorem bkp_any (base b : Nat) (hbb : base ≤ b) (f t : Int) (f0 : 0 ≤ f) (f1 : f ≤ 50000) (t0 : 0 ≤ t) (t1 : t ≤ 9223372036854775807) (rs : List Rw) (m c : Nat) (A : Option Addr) (hl : rs.length = m) (hmc : m ≤ c) (hm1 : m ≤ 60000) (st : List Rw × Int) (hd : Bd st) (hr : Rin rs) (hs : st.2 + rsum rs ≤ 50000)
    (w : World) (hbs : base ≤ w.heap.size) (h : Bld w base b st) (ha : RowB w base A (rwc rs)) :
    Calls Try.prog 41 #[.pointer (some ⟨b, 0, none⟩), .slice A m c, .int .i64 f, .int .i64 t] w (KpOut base b (kp f t rs st) w) := by
  obtain ⟨K, hK⟩ : ∃ K, K = kp f t rs st := ⟨_, rfl⟩
  rw [← hK]
  have H0 := Lib.hid (show rs.length = m ∧ m ≤ c ∧ kp f t rs st = K ∧ Bd st ∧ Rin rs ∧ st.2 + rsum rs ≤ 50000 from ⟨hl, hmc, hK.symm, hd, hr, hs⟩)
  have HB0 := Lib.hid h; have HA0 := Lib.hid ha; have HBB := Lib.hid hbb; have HBS := Lib.hid hbs; have HF := Lib.hid (show 0 ≤ f ∧ f ≤ 50000 from ⟨f0, f1⟩)
  clear hK hl hmc hd hr hs h ha hbb hbs f0 f1
  go_enter Try.func41, Try.ntmps41
  go_wp2_with fail
  go_loopg [1, 9, 10, 11] m (fun gk s1 _ _ _ wr => ∃ (q : List Rw) (m c : Nat) (A : Option Addr) (st : List Rw × Int), s1 = .slice A m c ∧ gk = m ∧ m ≤ 60000 ∧ Hid (q.length = m ∧ m ≤ c ∧ kp f t q st = K ∧ Bd st ∧ Rin q ∧ st.2 + rsum q ≤ 50000) ∧ Hid (Bld wr base b st) ∧ Hid (Below base w wr) ∧ Hid (RowB wr base A (rwc q)) ∧ Hid (Fr2 w wr))
  case atStart => exact ⟨rs, m, c, A, st, rfl, rfl, hm1, H0, HB0, Lib.hid (Below.refl _ _), HA0, Lib.hid (Fr2.refl _)⟩
  case round =>
    clear H0 HB0 HA0 hm1
    obtain ⟨q, m, c, A, st, rfl, hgk, hm1, H, HB, BW, HA, FR⟩ := hrel
    cases m with
    | zero =>
      have HE := Lib.hid (show KpOut base b K w (.returned (.slice A 0 c)) wr from by
        obtain ⟨h1, h2, h3, _⟩ := H.out
        have e := List.eq_nil_of_length_eq_zero h1
        subst e
        have h3 : (st, []) = K := h3
        rw [← h3]
        exact ⟨A, c, rfl, HB.out, BW.out, HA.out, h2, FR.out⟩)
      clear H HB BW HA
      go_wp2_with fail
      go_ret
      exact HE.out
    | succ m =>
      obtain ⟨r, q', hq⟩ : ∃ r q', q = r :: q' := by
        cases q with
        | nil => exact absurd H.out.1 (by simp)
        | cons r q' => exact ⟨r, q', rfl⟩
      subst hq
      obtain ⟨ad, rfl, adl, c0, c1, c2, c3⟩ := row_rw0 HA.out.1
      obtain ⟨rf, rn, rv, ro⟩ := r
      simp only at c0 c1 c2 c3
      obtain ⟨p1, p2, p3, p4, p5, p6⟩ := H.out.2.2.2.2.1 ⟨rf, rn, rv, ro⟩ (by simp)
      simp only at p1 p2 p3 p4 p5 p6
      have hff := HF.out
      by_cases ht : rf < t
      · by_cases hfx : rf < f
        · by_cases hte : t < rf + rn
          · by_cases hcc : f < t
            · have hF : max rf f = f := by omega
              have hM : min (rf + rn) t = t := by omega
              have hk : kp f t (⟨rf, rn, rv, ro⟩ :: q') st = (blAdd st (t - f) rv (ro + f - rf), ⟨rf, rn, rv, ro⟩ :: q') := by
                show (if rf < t then _ else _) = _
                rw [if_pos ht]
                simp only [hF, hM]
                rw [if_pos hcc, if_pos (show rf + rn > t by omega)]
              have hk2 := hk.symm.trans H.out.2.2.1
              have hbd := H.out.2.2.2.1
              have hsm := H.out.2.2.2.2.2
              have hrq : Rin q' := fun r h => H.out.2.2.2.2.1 r (by simp [h])
              have hsp := rsum_pos hrq
              rw [rsum_cons] at hsm
              simp only at hsm
              have hbd2 := hbd.add (n := t - f) (o := ro + f - rf) rv (by omega) (by omega) (by omega)
              have HAd : Hid (∀ w1, Bld w1 base b st → base ≤ w1.heap.size → Calls Try.prog 21 #[.pointer (some ⟨b, 0, none⟩), .int .i64 (t - f), .int .i64 rv, .int .i64 (ro + f - rf)] w1 (BldOut base b (blAdd st (t - f) rv (ro + f - rf)) w1)) := Lib.hid fun w1 hb h1 => badd_any base b HBB.out st hbd (t - f) rv (ro + f - rf) (by omega) (by omega) w1 h1 hb
              have HK : Hid (K = (blAdd st (t - f) rv (ro + f - rf), ⟨rf, rn, rv, ro⟩ :: q')) := Lib.hid hk2.symm
              have HML := Lib.hid H.out.1; have HMC := Lib.hid H.out.2.1
              have BW1 := Lib.hid (BW.out.alloc (by have := bsz BW.out HBS.out; exact this) (.cells #[.int .i64 rf, .int .i64 rn, .int .i64 rv, .int .i64 ro] 42))
              have HB1 := Lib.hid (bld_alloc HB.out (.cells #[.int .i64 rf, .int .i64 rn, .int .i64 rv, .int .i64 ro] 42))
              have HA1 := Lib.hid (HA.out.below ((Below.refl base wr).alloc (bsz BW.out HBS.out) (.cells #[.int .i64 rf, .int .i64 rn, .int .i64 rv, .int .i64 ro] 42)))
              have FR1 := Lib.hid (FR.out.trans (Fr2.of_below (balloc (Below.refl _ wr) (.cells #[.int .i64 rf, .int .i64 rn, .int .i64 rv, .int .i64 ro] 42))))
              have X1 := Lib.hid (Box.new wr 42 #[.int .i64 rf, .int .i64 rn, .int .i64 rv, .int .i64 ro])
              have bs1 : base ≤ (wr.alloc (.cells #[.int .i64 rf, .int .i64 rn, .int .i64 rv, .int .i64 ro] 42)).heap.size := bsz BW1.out HBS.out
              have HBS1 := Lib.hid bs1
              have s1 : rf + rn ≤ 100000 := by omega
              have s2 : 0 ≤ rf + rn := by omega
              have f0 := hff.1; have f1 := hff.2
              have s3 : 0 ≤ t - f := by omega
              have s4 : t - f ≤ 100000 := by omega
              have s5 : 0 ≤ ro + f - rf := by omega
              have s6 : ro + f ≤ 200000 := by omega
              have s7 : 0 ≤ ro + f := by omega
              have t5 : decide (t < rf + rn) = true := by simp; omega
              have t6 : decide (f < t) = true := by simp; omega
              have t4 : decide (rf < t) = true := by simp; exact ht
              clear hF hM hk hk2 hbd hsm hrq hsp H HB BW HA hff bs1 hbd2
              go_wp2_with fail
              (with_reducible refine (HAd.out _ HB1.out HBS1.out).mono ?_)
              rintro e w3 ⟨rfl, BL3, B3, F3⟩
              have BW3 := Lib.hid (BW1.out.trans B3)
              have HB3 := Lib.hid BL3
              have HA3 := Lib.hid (HA1.out.below B3)
              have FR3 := Lib.hid (FR1.out.trans F3)
              clear B3 BL3 F3
              go_wp2_with fail
              go_ret
              have e := HK.out
              rw [e]
              refine ⟨some ad, c, ?_, HB3.out, BW3.out, HA3.out, ?_, FR3.out⟩
              · have := HML.out; rw [this]; rfl
              · show ((⟨rf, rn, rv, ro⟩ : Rw) :: q').length ≤ c; have := HML.out; have := HMC.out; omega
            · have hF : max rf f = f := by omega
              have hM : min (rf + rn) t = t := by omega
              have hk : kp f t (⟨rf, rn, rv, ro⟩ :: q') st = (st, ⟨rf, rn, rv, ro⟩ :: q') := by
                show (if rf < t then _ else _) = _
                rw [if_pos ht]
                simp only [hF, hM]
                rw [if_neg hcc, if_pos (show rf + rn > t by omega)]
              have hk2 := hk.symm.trans H.out.2.2.1
              have hbd := H.out.2.2.2.1
              have hsm := H.out.2.2.2.2.2
              have hrq : Rin q' := fun r h => H.out.2.2.2.2.1 r (by simp [h])
              have hsp := rsum_pos hrq
              rw [rsum_cons] at hsm
              simp only at hsm
              have HK : Hid (K = (st, ⟨rf, rn, rv, ro⟩ :: q')) := Lib.hid hk2.symm
              have HML := Lib.hid H.out.1; have HMC := Lib.hid H.out.2.1
              have BW1 := Lib.hid (BW.out.alloc (by have := bsz BW.out HBS.out; exact this) (.cells #[.int .i64 rf, .int .i64 rn, .int .i64 rv, .int .i64 ro] 42))
              have HB1 := Lib.hid (bld_alloc HB.out (.cells #[.int .i64 rf, .int .i64 rn, .int .i64 rv, .int .i64 ro] 42))
              have HA1 := Lib.hid (HA.out.below ((Below.refl base wr).alloc (bsz BW.out HBS.out) (.cells #[.int .i64 rf, .int .i64 rn, .int .i64 rv, .int .i64 ro] 42)))
              have FR1 := Lib.hid (FR.out.trans (Fr2.of_below (balloc (Below.refl _ wr) (.cells #[.int .i64 rf, .int .i64 rn, .int .i64 rv, .int .i64 ro] 42))))
              have X1 := Lib.hid (Box.new wr 42 #[.int .i64 rf, .int .i64 rn, .int .i64 rv, .int .i64 ro])
              have bs1 : base ≤ (wr.alloc (.cells #[.int .i64 rf, .int .i64 rn, .int .i64 rv, .int .i64 ro] 42)).heap.size := bsz BW1.out HBS.out
              have HBS1 := Lib.hid bs1
              have s1 : rf + rn ≤ 100000 := by omega
              have s2 : 0 ≤ rf + rn := by omega
              have f0 := hff.1; have f1 := hff.2
              have t5 : decide (t < rf + rn) = true := by simp; omega
              have t6 : decide (f < t) = false := by simp; omega
              have t4 : decide (rf < t) = true := by simp; exact ht
              clear hF hM hk hk2 hbd hsm hrq hsp H HB BW HA hff bs1
              go_wp2_with fail
              have BW3 := BW1; have HB3 := HB1; have HA3 := HA1; have FR3 := FR1
              go_ret
              have e := HK.out
              rw [e]
              refine ⟨some ad, c, ?_, HB3.out, BW3.out, HA3.out, ?_, FR3.out⟩
              · have := HML.out; rw [this]; rfl
              · show ((⟨rf, rn, rv, ro⟩ : Rw) :: q').length ≤ c; have := HML.out; have := HMC.out; omega
          · by_cases hcc : f < (rf + rn)
            · have hF : max rf f = f := by omega
              have hM : min (rf + rn) t = (rf + rn) := by omega
              have hk : kp f t (⟨rf, rn, rv, ro⟩ :: q') st = kp f t q' (blAdd st ((rf + rn) - f) rv (ro + f - rf)) := by
                show (if rf < t then _ else _) = _
                rw [if_pos ht]
                simp only [hF, hM]
                rw [if_pos hcc, if_neg (show ¬ rf + rn > t by omega)]
              have hk2 := hk.symm.trans H.out.2.2.1
              have hbd := H.out.2.2.2.1
              have hsm := H.out.2.2.2.2.2
              have hrq : Rin q' := fun r h => H.out.2.2.2.2.1 r (by simp [h])
              have hsp := rsum_pos hrq
              rw [rsum_cons] at hsm
              simp only at hsm
              have hbd2 := hbd.add (n := (rf + rn) - f) (o := ro + f - rf) rv (by omega) (by omega) (by omega)
              have HAd : Hid (∀ w1, Bld w1 base b st → base ≤ w1.heap.size → Calls Try.prog 21 #[.pointer (some ⟨b, 0, none⟩), .int .i64 ((rf + rn) - f), .int .i64 rv, .int .i64 (ro + f - rf)] w1 (BldOut base b (blAdd st ((rf + rn) - f) rv (ro + f - rf)) w1)) := Lib.hid fun w1 hb h1 => badd_any base b HBB.out st hbd ((rf + rn) - f) rv (ro + f - rf) (by omega) (by omega) w1 h1 hb
              have HN : Hid (q'.length = m ∧ m ≤ c - 1 ∧ kp f t q' (blAdd st ((rf + rn) - f) rv (ro + f - rf)) = K ∧ Bd (blAdd st ((rf + rn) - f) rv (ro + f - rf)) ∧ Rin q' ∧ (blAdd st ((rf + rn) - f) rv (ro + f - rf)).2 + rsum q' ≤ 50000) := Lib.hid ⟨by have := H.out.1; simp at this; exact this, by have := H.out.2.1; omega, hk2, hbd2.1, hrq, by rw [hbd2.2]; omega⟩
              obtain ⟨A9, cut9, row9⟩ := cut_rows (rwc (⟨rf, rn, rv, ro⟩ :: q')) (some ad) (m + 1) c (by omega) H.out.2.1 (by rw [rwc_len]; have := H.out.1; simp at this ⊢; omega)
              have HR9 := Lib.hid row9
              have HML := Lib.hid H.out.1; have HMC := Lib.hid H.out.2.1
              have BW1 := Lib.hid (BW.out.alloc (by have := bsz BW.out HBS.out; exact this) (.cells #[.int .i64 rf, .int .i64 rn, .int .i64 rv, .int .i64 ro] 42))
              have HB1 := Lib.hid (bld_alloc HB.out (.cells #[.int .i64 rf, .int .i64 rn, .int .i64 rv, .int .i64 ro] 42))
              have HA1 := Lib.hid (HA.out.below ((Below.refl base wr).alloc (bsz BW.out HBS.out) (.cells #[.int .i64 rf, .int .i64 rn, .int .i64 rv, .int .i64 ro] 42)))
              have FR1 := Lib.hid (FR.out.trans (Fr2.of_below (balloc (Below.refl _ wr) (.cells #[.int .i64 rf, .int .i64 rn, .int .i64 rv, .int .i64 ro] 42))))
              have X1 := Lib.hid (Box.new wr 42 #[.int .i64 rf, .int .i64 rn, .int .i64 rv, .int .i64 ro])
              have bs1 : base ≤ (wr.alloc (.cells #[.int .i64 rf, .int .i64 rn, .int .i64 rv, .int .i64 ro] 42)).heap.size := bsz BW1.out HBS.out
              have HBS1 := Lib.hid bs1
              have s1 : rf + rn ≤ 100000 := by omega
              have s2 : 0 ≤ rf + rn := by omega
              have f0 := hff.1; have f1 := hff.2
              have s3 : 0 ≤ (rf + rn) - f := by omega
              have s4 : (rf + rn) - f ≤ 100000 := by omega
              have s5 : 0 ≤ ro + f - rf := by omega
              have s6 : ro + f ≤ 200000 := by omega
              have s7 : 0 ≤ ro + f := by omega
              have t5 : decide (t < rf + rn) = false := by simp; omega
              have t6 : decide (f < (rf + rn)) = true := by simp; omega
              have t4 : decide (rf < t) = true := by simp; exact ht
              clear hF hM hk hk2 hbd hsm hrq hsp H HB BW HA hff bs1 hbd2 row9
              go_wp2_with fail
              (with_reducible refine (HAd.out _ HB1.out HBS1.out).mono ?_)
              rintro e w3 ⟨rfl, BL3, B3, F3⟩
              have BW3 := Lib.hid (BW1.out.trans B3)
              have HB3 := Lib.hid BL3
              have HA3 := Lib.hid (HA1.out.below B3)
              have FR3 := Lib.hid (FR1.out.trans F3)
              clear B3 BL3 F3
              go_wp2_with fail
              go_roundg m
              case measure => omega
              case rel => exact ⟨q', m, c - 1, A9, _, rfl, rfl, by omega, HN, HB3, BW3, Lib.hid (HR9.out _ _ HA3.out), FR3⟩
            · have hF : max rf f = f := by omega
              have hM : min (rf + rn) t = (rf + rn) := by omega
              have hk : kp f t (⟨rf, rn, rv, ro⟩ :: q') st = kp f t q' (st) := by
                show (if rf < t then _ else _) = _
                rw [if_pos ht]
                simp only [hF, hM]
                rw [if_neg hcc, if_neg (show ¬ rf + rn > t by omega)]
              have hk2 := hk.symm.trans H.out.2.2.1
              have hbd := H.out.2.2.2.1
              have hsm := H.out.2.2.2.2.2
              have hrq : Rin q' := fun r h => H.out.2.2.2.2.1 r (by simp [h])
              have hsp := rsum_pos hrq
              rw [rsum_cons] at hsm
              simp only at hsm
              have HN : Hid (q'.length = m ∧ m ≤ c - 1 ∧ kp f t q' (st) = K ∧ Bd (st) ∧ Rin q' ∧ (st).2 + rsum q' ≤ 50000) := Lib.hid ⟨by have := H.out.1; simp at this; exact this, by have := H.out.2.1; omega, hk2, hbd, hrq, by omega⟩
              obtain ⟨A9, cut9, row9⟩ := cut_rows (rwc (⟨rf, rn, rv, ro⟩ :: q')) (some ad) (m + 1) c (by omega) H.out.2.1 (by rw [rwc_len]; have := H.out.1; simp at this ⊢; omega)
              have HR9 := Lib.hid row9
              have HML := Lib.hid H.out.1; have HMC := Lib.hid H.out.2.1
              have BW1 := Lib.hid (BW.out.alloc (by have := bsz BW.out HBS.out; exact this) (.cells #[.int .i64 rf, .int .i64 rn, .int .i64 rv, .int .i64 ro] 42))
              have HB1 := Lib.hid (bld_alloc HB.out (.cells #[.int .i64 rf, .int .i64 rn, .int .i64 rv, .int .i64 ro] 42))
              have HA1 := Lib.hid (HA.out.below ((Below.refl base wr).alloc (bsz BW.out HBS.out) (.cells #[.int .i64 rf, .int .i64 rn, .int .i64 rv, .int .i64 ro] 42)))
              have FR1 := Lib.hid (FR.out.trans (Fr2.of_below (balloc (Below.refl _ wr) (.cells #[.int .i64 rf, .int .i64 rn, .int .i64 rv, .int .i64 ro] 42))))
              have X1 := Lib.hid (Box.new wr 42 #[.int .i64 rf, .int .i64 rn, .int .i64 rv, .int .i64 ro])
              have bs1 : base ≤ (wr.alloc (.cells #[.int .i64 rf, .int .i64 rn, .int .i64 rv, .int .i64 ro] 42)).heap.size := bsz BW1.out HBS.out
              have HBS1 := Lib.hid bs1
              have s1 : rf + rn ≤ 100000 := by omega
              have s2 : 0 ≤ rf + rn := by omega
              have f0 := hff.1; have f1 := hff.2
              have t5 : decide (t < rf + rn) = false := by simp; omega
              have t6 : decide (f < (rf + rn)) = false := by simp; omega
              have t4 : decide (rf < t) = true := by simp; exact ht
              clear hF hM hk hk2 hbd hsm hrq hsp H HB BW HA hff bs1 row9
              go_wp2_with fail
              have BW3 := BW1; have HB3 := HB1; have HA3 := HA1; have FR3 := FR1
              go_roundg m
              case measure => omega
              case rel => exact ⟨q', m, c - 1, A9, _, rfl, rfl, by omega, HN, HB3, BW3, Lib.hid (HR9.out _ _ HA3.out), FR3⟩
        · by_cases hte : t < rf + rn
          · by_cases hcc : rf < t
            · have hF : max rf f = rf := by omega
              have hM : min (rf + rn) t = t := by omega
              have hk : kp f t (⟨rf, rn, rv, ro⟩ :: q') st = (blAdd st (t - rf) rv (ro), ⟨rf, rn, rv, ro⟩ :: q') := by
                show (if rf < t then _ else _) = _
                rw [if_pos ht]
                simp only [hF, hM]
                rw [show ro + rf - rf = ro by omega]
                rw [if_pos hcc, if_pos (show rf + rn > t by omega)]
              have hk2 := hk.symm.trans H.out.2.2.1
              have hbd := H.out.2.2.2.1
              have hsm := H.out.2.2.2.2.2
              have hrq : Rin q' := fun r h => H.out.2.2.2.2.1 r (by simp [h])
              have hsp := rsum_pos hrq
              rw [rsum_cons] at hsm
              simp only at hsm
              have hbd2 := hbd.add (n := t - rf) (o := ro) rv (by omega) (by omega) (by omega)
              have HAd : Hid (∀ w1, Bld w1 base b st → base ≤ w1.heap.size → Calls Try.prog 21 #[.pointer (some ⟨b, 0, none⟩), .int .i64 (t - rf), .int .i64 rv, .int .i64 (ro)] w1 (BldOut base b (blAdd st (t - rf) rv (ro)) w1)) := Lib.hid fun w1 hb h1 => badd_any base b HBB.out st hbd (t - rf) rv (ro) (by omega) (by omega) w1 h1 hb
              have HK : Hid (K = (blAdd st (t - rf) rv (ro), ⟨rf, rn, rv, ro⟩ :: q')) := Lib.hid hk2.symm
              have HML := Lib.hid H.out.1; have HMC := Lib.hid H.out.2.1
              have BW1 := Lib.hid (BW.out.alloc (by have := bsz BW.out HBS.out; exact this) (.cells #[.int .i64 rf, .int .i64 rn, .int .i64 rv, .int .i64 ro] 42))
              have HB1 := Lib.hid (bld_alloc HB.out (.cells #[.int .i64 rf, .int .i64 rn, .int .i64 rv, .int .i64 ro] 42))
              have HA1 := Lib.hid (HA.out.below ((Below.refl base wr).alloc (bsz BW.out HBS.out) (.cells #[.int .i64 rf, .int .i64 rn, .int .i64 rv, .int .i64 ro] 42)))
              have FR1 := Lib.hid (FR.out.trans (Fr2.of_below (balloc (Below.refl _ wr) (.cells #[.int .i64 rf, .int .i64 rn, .int .i64 rv, .int .i64 ro] 42))))
              have X1 := Lib.hid (Box.new wr 42 #[.int .i64 rf, .int .i64 rn, .int .i64 rv, .int .i64 ro])
              have bs1 : base ≤ (wr.alloc (.cells #[.int .i64 rf, .int .i64 rn, .int .i64 rv, .int .i64 ro] 42)).heap.size := bsz BW1.out HBS.out
              have HBS1 := Lib.hid bs1
              have s1 : rf + rn ≤ 100000 := by omega
              have s2 : 0 ≤ rf + rn := by omega
              have f0 := hff.1; have f1 := hff.2
              have s3 : 0 ≤ t - rf := by omega
              have s4 : t - rf ≤ 100000 := by omega
              have s5 : 0 ≤ ro + rf - rf := by omega
              have s6 : ro + rf ≤ 200000 := by omega
              have s7 : 0 ≤ ro + rf := by omega
              have t5 : decide (t < rf + rn) = true := by simp; omega
              have t6 : decide (rf < t) = true := by simp; omega
              have t4 : decide (rf < t) = true := by simp; exact ht
              clear hF hM hk hk2 hbd hsm hrq hsp H HB BW HA hff bs1 hbd2
              go_wp2_with fail
              (with_reducible refine (HAd.out _ HB1.out HBS1.out).mono ?_)
              rintro e w3 ⟨rfl, BL3, B3, F3⟩
              have BW3 := Lib.hid (BW1.out.trans B3)
              have HB3 := Lib.hid BL3
              have HA3 := Lib.hid (HA1.out.below B3)
              have FR3 := Lib.hid (FR1.out.trans F3)
              clear B3 BL3 F3
              go_wp2_with fail
              go_ret
              have e := HK.out
              rw [e]
              refine ⟨some ad, c, ?_, HB3.out, BW3.out, HA3.out, ?_, FR3.out⟩
              · have := HML.out; rw [this]; rfl
              · show ((⟨rf, rn, rv, ro⟩ : Rw) :: q').length ≤ c; have := HML.out; have := HMC.out; omega
            · exact absurd (show rf < t by omega) hcc
          · by_cases hcc : rf < (rf + rn)
            · have hF : max rf f = rf := by omega
              have hM : min (rf + rn) t = (rf + rn) := by omega
              have hk : kp f t (⟨rf, rn, rv, ro⟩ :: q') st = kp f t q' (blAdd st ((rf + rn) - rf) rv (ro)) := by
                show (if rf < t then _ else _) = _
                rw [if_pos ht]
                simp only [hF, hM]
                rw [show ro + rf - rf = ro by omega]
                rw [if_pos hcc, if_neg (show ¬ rf + rn > t by omega)]
              have hk2 := hk.symm.trans H.out.2.2.1
              have hbd := H.out.2.2.2.1
              have hsm := H.out.2.2.2.2.2
              have hrq : Rin q' := fun r h => H.out.2.2.2.2.1 r (by simp [h])
              have hsp := rsum_pos hrq
              rw [rsum_cons] at hsm
              simp only at hsm
              have hbd2 := hbd.add (n := (rf + rn) - rf) (o := ro) rv (by omega) (by omega) (by omega)
              have HAd : Hid (∀ w1, Bld w1 base b st → base ≤ w1.heap.size → Calls Try.prog 21 #[.pointer (some ⟨b, 0, none⟩), .int .i64 ((rf + rn) - rf), .int .i64 rv, .int .i64 (ro)] w1 (BldOut base b (blAdd st ((rf + rn) - rf) rv (ro)) w1)) := Lib.hid fun w1 hb h1 => badd_any base b HBB.out st hbd ((rf + rn) - rf) rv (ro) (by omega) (by omega) w1 h1 hb
              have HN : Hid (q'.length = m ∧ m ≤ c - 1 ∧ kp f t q' (blAdd st ((rf + rn) - rf) rv (ro)) = K ∧ Bd (blAdd st ((rf + rn) - rf) rv (ro)) ∧ Rin q' ∧ (blAdd st ((rf + rn) - rf) rv (ro)).2 + rsum q' ≤ 50000) := Lib.hid ⟨by have := H.out.1; simp at this; exact this, by have := H.out.2.1; omega, hk2, hbd2.1, hrq, by rw [hbd2.2]; omega⟩
              obtain ⟨A9, cut9, row9⟩ := cut_rows (rwc (⟨rf, rn, rv, ro⟩ :: q')) (some ad) (m + 1) c (by omega) H.out.2.1 (by rw [rwc_len]; have := H.out.1; simp at this ⊢; omega)
              have HR9 := Lib.hid row9
              have HML := Lib.hid H.out.1; have HMC := Lib.hid H.out.2.1
              have BW1 := Lib.hid (BW.out.alloc (by have := bsz BW.out HBS.out; exact this) (.cells #[.int .i64 rf, .int .i64 rn, .int .i64 rv, .int .i64 ro] 42))
              have HB1 := Lib.hid (bld_alloc HB.out (.cells #[.int .i64 rf, .int .i64 rn, .int .i64 rv, .int .i64 ro] 42))
              have HA1 := Lib.hid (HA.out.below ((Below.refl base wr).alloc (bsz BW.out HBS.out) (.cells #[.int .i64 rf, .int .i64 rn, .int .i64 rv, .int .i64 ro] 42)))
              have FR1 := Lib.hid (FR.out.trans (Fr2.of_below (balloc (Below.refl _ wr) (.cells #[.int .i64 rf, .int .i64 rn, .int .i64 rv, .int .i64 ro] 42))))
              have X1 := Lib.hid (Box.new wr 42 #[.int .i64 rf, .int .i64 rn, .int .i64 rv, .int .i64 ro])
              have bs1 : base ≤ (wr.alloc (.cells #[.int .i64 rf, .int .i64 rn, .int .i64 rv, .int .i64 ro] 42)).heap.size := bsz BW1.out HBS.out
              have HBS1 := Lib.hid bs1
              have s1 : rf + rn ≤ 100000 := by omega
              have s2 : 0 ≤ rf + rn := by omega
              have f0 := hff.1; have f1 := hff.2
              have s3 : 0 ≤ (rf + rn) - rf := by omega
              have s4 : (rf + rn) - rf ≤ 100000 := by omega
              have s5 : 0 ≤ ro + rf - rf := by omega
              have s6 : ro + rf ≤ 200000 := by omega
              have s7 : 0 ≤ ro + rf := by omega
              have t5 : decide (t < rf + rn) = false := by simp; omega
              have t6 : decide (rf < (rf + rn)) = true := by simp; omega
              have t4 : decide (rf < t) = true := by simp; exact ht
              clear hF hM hk hk2 hbd hsm hrq hsp H HB BW HA hff bs1 hbd2 row9
              go_wp2_with fail
              (with_reducible refine (HAd.out _ HB1.out HBS1.out).mono ?_)
              rintro e w3 ⟨rfl, BL3, B3, F3⟩
              have BW3 := Lib.hid (BW1.out.trans B3)
              have HB3 := Lib.hid BL3
              have HA3 := Lib.hid (HA1.out.below B3)
              have FR3 := Lib.hid (FR1.out.trans F3)
              clear B3 BL3 F3
              go_wp2_with fail
              go_roundg m
              case measure => omega
              case rel => exact ⟨q', m, c - 1, A9, _, rfl, rfl, by omega, HN, HB3, BW3, Lib.hid (HR9.out _ _ HA3.out), FR3⟩
            · exact absurd (show rf < (rf + rn) by omega) hcc
      · have HE := Lib.hid (show KpOut base b K w (.returned (.slice (some ad) (m + 1) c)) wr from by
          obtain ⟨h1, h2, h3, _⟩ := H.out
          have h4 : kp f t (⟨rf, rn, rv, ro⟩ :: q') st = (st, ⟨rf, rn, rv, ro⟩ :: q') := by
            show (if rf < t then _ else _) = _
            rw [if_neg ht]
          rw [← h3, h4]
          exact ⟨some ad, c, by rw [h1], HB.out, BW.out, HA.out, by show ((⟨rf, rn, rv, ro⟩ : Rw) :: q').length ≤ c; rw [h1]; exact h2, FR.out⟩)
        have t4 : decide (rf < t) = false := by simp; omega
        clear H HB BW HA
        go_wp2_with fail
        go_ret
        exact HE.out
end Go.Proofs.Ytolhjkpekmmajaa
/- Blame's rows, plainly: the letters that they stand for. -/
namespace Go.Proofs.Ytolhjkpekmmajaa
set_option linter.unusedVariables false
set_option linter.unusedSimpArgs false
open Go.RowKit Go.Lib
/-- letters of a version, from an offset on -/
def seg (n : Nat) (v o : Int) : List (Int × Int) := (List.range n).map fun (j : Nat) => (v, o + (j : Int))
/-- the letters that rows stand for -/
def ltr (R : List Rw) : List (Int × Int) := R.flatMap fun r => seg r.n.toNat r.v r.o
theorem seg_len (n : Nat) (v o : Int) : (seg n v o).length = n := by simp [seg]
theorem seg_get {n : Nat} {v o : Int} {k : Nat} (h : k < n) : (seg n v o)[k]? = some (v, o + k) := by simp [seg, h]
theorem seg_app (n m : Nat) (v o : Int) : seg n v o ++ seg m v (o + n) = seg (n + m) v o := by
  refine List.ext_getElem? fun k => ?_
  by_cases h : k < n
  · rw [List.getElem?_append_left (by rw [seg_len]; exact h), seg_get h, seg_get (by omega)]
  · rw [List.getElem?_append_right (by rw [seg_len]; omega), seg_len]
    by_cases h2 : k < n + m
    · rw [seg_get (show k - n < m by omega), seg_get h2]
      congr 2; omega
    · rw [List.getElem?_eq_none (by rw [seg_len]; omega), List.getElem?_eq_none (by rw [seg_len]; omega)]
theorem seg_drop (n k : Nat) (v o : Int) : (seg n v o).drop k = seg (n - k) v (o + k) := by
  refine List.ext_getElem? fun j => ?_
  rw [List.getElem?_drop]
  by_cases h : k + j < n
  · rw [seg_get h, seg_get (by omega)]; congr 2; omega
  · rw [List.getElem?_eq_none (by rw [seg_len]; omega), List.getElem?_eq_none (by rw [seg_len]; omega)]
theorem seg_take (n k : Nat) (v o : Int) : (seg n v o).take k = seg (min k n) v o := by
  refine List.ext_getElem? fun j => ?_
  rw [List.getElem?_take]
  by_cases h : j < k
  · rw [if_pos h]
    by_cases h2 : j < n
    · rw [seg_get h2, seg_get (by omega)]
    · rw [List.getElem?_eq_none (by rw [seg_len]; omega), List.getElem?_eq_none (by rw [seg_len]; omega)]
  · rw [if_neg h, List.getElem?_eq_none (by rw [seg_len]; omega)]
theorem ltr_app (a b : List Rw) : ltr (a ++ b) = ltr a ++ ltr b := by simp [ltr]
theorem ltr_one (r : Rw) : ltr [r] = seg r.n.toNat r.v r.o := by simp [ltr]
theorem ltr_cons (r : Rw) (R : List Rw) : ltr (r :: R) = seg r.n.toNat r.v r.o ++ ltr R := by simp [ltr]
/-- rows that lie one behind the other, from an offset on to another one -/
def Cont : Nat → List Rw → Nat → Prop
  | a, [], N => a = N
  | a, r :: rs, N => r.fr = (a : Int) ∧ 1 ≤ r.n ∧ Cont (a + r.n.toNat) rs N
theorem cont_len : ∀ {a N : Nat} {R : List Rw}, Cont a R N → a + (ltr R).length = N
  | a, N, [], h => by have : a = N := h; simp [ltr]; exact this
  | a, N, r :: rs, h => by
    have := cont_len h.2.2
    rw [ltr_cons, List.length_append, seg_len]; omega
theorem cont_snoc {N : Nat} {r : Rw} : ∀ {a : Nat} {R : List Rw}, Cont a R N → r.fr = (N : Int) → 1 ≤ r.n → Cont a (R ++ [r]) (N + r.n.toNat)
  | a, [], h, h1, h2 => by have e : a = N := h; subst e; exact ⟨h1, h2, rfl⟩
  | a, s :: rs, h, h1, h2 => ⟨h.1, h.2.1, cont_snoc h.2.2 h1 h2⟩
theorem cont_grow {r : Rw} {n : Int} (hn : 0 ≤ n) : ∀ {a N : Nat} {R : List Rw}, Cont a (R ++ [r]) N → Cont a (R ++ [⟨r.fr, r.n + n, r.v, r.o⟩]) (N + n.toNat)
  | a, N, [], h => by
    obtain ⟨h1, h2, h3⟩ := h
    have h3 : a + r.n.toNat = N := h3
    exact ⟨h1, by show 1 ≤ r.n + n; omega, by show a + (r.n + n).toNat = N + n.toNat; omega⟩
  | a, N, s :: rs, h => ⟨h.1, h.2.1, cont_grow hn h.2.2⟩
/-- the rows of a builder: they make up its length -/
def Whole (st : List Rw × Int) : Prop := Cont 0 st.1 st.2.toNat ∧ 0 ≤ st.2
theorem Whole.len {st : List Rw × Int} (h : Whole st) : ((ltr st.1).length : Int) = st.2 := by have := cont_len h.1; have := h.2; omega
theorem whole_add {st : List Rw × Int} (h : Whole st) {n : Nat} (v o : Int) : Whole (blAdd st n v o) ∧ ltr (blAdd st n v o).1 = ltr st.1 ++ seg n v o := by
  obtain ⟨R, len⟩ := st
  obtain ⟨hc, h0⟩ := h
  simp only at hc h0
  unfold blAdd
  by_cases hn : (n : Int) = 0
  · rw [if_pos hn]
    have : n = 0 := by omega
    subst this
    exact ⟨⟨hc, h0⟩, by simp [seg]⟩
  · rw [if_neg hn]
    cases e : R.getLast? with
    | none =>
      have : R = [] := by simpa using e
      subst this
      have hz : 0 = len.toNat := hc
      refine ⟨⟨⟨?_, ?_, ?_⟩, ?_⟩, ?_⟩
      · show len = ((0 : Nat) : Int); omega
      · show 1 ≤ (n : Int); omega
      · show 0 + (n : Int).toNat = (len + n).toNat; omega
      · show 0 ≤ len + n; omega
      · simp [ltr]
    | some r =>
      obtain ⟨R0, rfl⟩ := last_split e
      simp only
      split
      · rename_i hvo
        have := cont_grow (n := (n : Int)) (by omega) hc
        refine ⟨⟨?_, ?_⟩, ?_⟩
        · show Cont 0 ((R0 ++ [r]).dropLast ++ [⟨r.fr, r.n + n, r.v, r.o⟩]) (len + n).toNat
          rw [List.dropLast_concat, show (len + n).toNat = len.toNat + (n : Int).toNat by omega]
          exact this
        · show 0 ≤ len + n; omega
        · show ltr ((R0 ++ [r]).dropLast ++ [⟨r.fr, r.n + n, r.v, r.o⟩]) = _
          have hr : 1 ≤ r.n := by
            have h2 : ∀ {a N : Nat} {R : List Rw}, Cont a (R ++ [r]) N → 1 ≤ r.n := by
              intro a N R
              induction R generalizing a with
              | nil => exact fun h => h.2.1
              | cons s R ih => exact fun h => ih h.2.2
            exact h2 hc
          rw [List.dropLast_concat, ltr_app, ltr_app, ltr_one, ltr_one, List.append_assoc, ← hvo.1, ← hvo.2]
          show _ ++ seg (r.n + n).toNat r.v r.o = _
          rw [show (r.n + (n : Int)).toNat = r.n.toNat + n by omega, ← seg_app, show ((r.n.toNat : Nat) : Int) = r.n by omega]
      · refine ⟨⟨?_, ?_⟩, ?_⟩
        · show Cont 0 ((R0 ++ [r]) ++ [⟨len, n, v, o⟩]) (len + n).toNat
          rw [show (len + n).toNat = len.toNat + (n : Int).toNat by omega]
          exact cont_snoc hc (by show len = _; omega) (by show 1 ≤ (n : Int); omega)
        · show 0 ≤ len + n; omega
        · rw [ltr_app, ltr_one]; rfl
/-- keep, plainly -/
theorem kp_ltr (f t N : Nat) (hft : f ≤ t) : ∀ (rs : List Rw) (a : Nat) (st : List Rw × Int), Cont a rs N → a ≤ t → Whole st →
    Whole (kp f t rs st).1 ∧ ltr (kp f t rs st).1.1 = ltr st.1 ++ ((ltr rs).drop (f - a)).take (t - max f a) ∧ ∃ a', Cont a' (kp f t rs st).2 N ∧ a' ≤ t ∧ ∀ g, t ≤ g → (ltr (kp f t rs st).2).drop (g - a') = (ltr rs).drop (g - a)
  | [], a, st, hc, ha, hw => ⟨hw, by simp [kp, ltr], a, hc, ha, fun g _ => rfl⟩
  | r :: rs, a, st, hc, ha, hw => by
    obtain ⟨h1, h2, h3⟩ := hc
    obtain ⟨n, hn⟩ : ∃ n : Nat, r.n = n := ⟨r.n.toNat, by omega⟩
    have hnn : r.n.toNat = n := by omega
    rw [hnn] at h3
    unfold kp
    rw [h1, hn]
    by_cases hlt : (a : Int) < (t : Int)
    · rw [if_pos hlt]
      simp only
      have hst : ∃ st', st' = (if max (a : Int) f < min ((a : Int) + n) t then blAdd st (min ((a : Int) + n) t - max (a : Int) f) r.v (r.o + max (a : Int) f - a) else st) ∧ Whole st' ∧ ltr st'.1 = ltr st.1 ++ seg (min (a + n) t - max a f) r.v (r.o + (max a f - a : Nat)) := by
        refine ⟨_, rfl, ?_⟩
        split
        · rename_i hx
          have := whole_add hw (n := min (a + n) t - max a f) r.v (r.o + (max a f - a : Nat))
          rw [show (min ((a : Int) + n) t - max (a : Int) f) = ((min (a + n) t - max a f : Nat) : Int) by omega, show r.o + max (a : Int) f - a = r.o + ((max a f - a : Nat) : Int) by omega]
          exact this
        · rename_i hx
          rw [show min (a + n) t - max a f = 0 by omega]
          exact ⟨hw, by simp [seg]⟩
      obtain ⟨st', hst', hw', hl'⟩ := hst
      rw [← hst', ltr_cons, hnn]
      by_cases he : (a : Int) + n > t
      · rw [if_pos he]
        refine ⟨hw', ?_, a, ⟨h1, h2, by rw [hnn]; exact h3⟩, by omega, fun g _ => by rw [ltr_cons, hnn]⟩
        rw [hl']
        congr 1
        rw [List.drop_append_of_le_length (by rw [seg_len]; omega), List.take_append_of_le_length (by rw [List.length_drop, seg_len]; omega), seg_drop, seg_take]
        congr 1 <;> omega
      · rw [if_neg he]
        obtain ⟨k1, k2, a', k3, k4, k5⟩ := kp_ltr f t N hft rs (a + n) st' h3 (by omega) hw'
        refine ⟨k1, ?_, a', k3, k4, fun g hg => ?_⟩
        · rw [k2, hl', List.append_assoc]
          congr 1
          by_cases hf : f ≤ a + n
          · rw [List.drop_append_of_le_length (l₁ := seg n r.v r.o) (by rw [seg_len]; omega), seg_drop, List.take_append, seg_take, seg_len, show f - (a + n) = 0 by omega, List.drop_zero]
            congr 1
            · congr 1 <;> omega
            · congr 1; omega
          · rw [List.drop_append (l₁ := seg n r.v r.o), show List.drop (f - a) (seg n r.v r.o) = [] from List.drop_eq_nil_of_le (by rw [seg_len]; omega), List.nil_append, seg_len, show min (a + n) t - max a f = 0 by omega]
            simp only [seg, List.range_zero, List.map_nil, List.nil_append]
            congr 1
            · omega
            · congr 1; omega
        · rw [k5 g hg, List.drop_append (l₁ := seg n r.v r.o), show List.drop (g - a) (seg n r.v r.o) = [] from List.drop_eq_nil_of_le (by rw [seg_len]; omega), List.nil_append, seg_len]
          congr 1; omega
    · rw [if_neg hlt]
      have e : a = t := by omega
      refine ⟨hw, ?_, a, ⟨h1, h2, by rw [hnn]; exact h3⟩, ha, fun g _ => rfl⟩
      rw [show t - max f a = 0 by omega, List.take_zero, List.append_nil]
end Go.Proofs.Ytolhjkpekmmajaa
/- The walk of blame's builder.patched. -/
namespace Go.Proofs.Ytolhjkpekmmajaa
set_option linter.unusedVariables false
set_option linter.unusedSimpArgs false
open Go.RowKit Go.Lib Go.Maps
attribute [local go_sem ↓] Go.wp_at_zero Go.wp_at_succ
/-- the rows of the next version -/
def pt (T : List (List Int)) (ver : Int) : List Cg → Int → (List Rw × Int) → List Rw → List Rw × Int
  | [], f, st, rs => (kp f 9223372036854775807 rs st).1
  | c :: p, f, st, rs => pt T ver p (c.ad + c.n) (blAdd (kp f c.ad rs st).1 (tx T c.x).length ver (kp f c.ad rs st).1.2) (kp f c.ad rs st).2
theorem kp_keeps (f t : Int) : ∀ (rs : List Rw) (st : List Rw × Int), Bd st → Rin rs → Bd (kp f t rs st).1 ∧ Rin (kp f t rs st).2 ∧ (kp f t rs st).2.length ≤ rs.length
  | [], st, h, hr => ⟨h, hr, Nat.le_refl _⟩
  | r :: rs, st, h, hr => by
    have hr2 : Rin rs := fun x hx => hr x (by simp [hx])
    obtain ⟨p1, p2, p3, p4, p5, p6⟩ := hr r (by simp)
    unfold kp
    by_cases ht : r.fr < t
    · rw [if_pos ht]
      simp only
      obtain ⟨st', hst', hb'⟩ : ∃ st', st' = (if max r.fr f < min (r.fr + r.n) t then blAdd st (min (r.fr + r.n) t - max r.fr f) r.v (r.o + max r.fr f - r.fr) else st) ∧ Bd st' := by
        refine ⟨_, rfl, ?_⟩
        split
        · exact (h.add (n := min (r.fr + r.n) t - max r.fr f) (o := r.o + max r.fr f - r.fr) r.v (by omega) (by omega) (by omega)).1
        · exact h
      rw [← hst']
      by_cases he : r.fr + r.n > t
      · rw [if_pos he]; exact ⟨hb', hr, Nat.le_refl _⟩
      · rw [if_neg he]
        obtain ⟨h1, h2, h3⟩ := kp_keeps f t rs st' hb' hr2
        exact ⟨h1, h2, by simp; omega⟩
    · rw [if_neg ht]; exact ⟨h, hr, Nat.le_refl _⟩
theorem cont_rsum : ∀ {a N : Nat} {R : List Rw}, Cont a R N → (a : Int) + rsum R = N
  | a, N, [], h => by have e : a = N := h; subst e; simp [rsum, sumL]
  | a, N, r :: rs, h => by
    have := cont_rsum h.2.2
    have := h.2.1
    rw [rsum_cons]; omega
/-- where the making of the next rows stands -/
structure Pst (T : List (List Int)) (ver : Int) (p : List Cg) (N : Nat) (K : List Rw × Int) (i : Nat) (f : Nat) (st : List Rw × Int) (rs : List Rw) : Prop where
  k : pt T ver (p.drop i) f st rs = K
  w : Whole st
  b : Bd st
  r : Rin rs
  c : ∃ a, Cont a rs N ∧ a ≤ f
  fN : f ≤ N
  fi : (f : Int) = if i = 0 then 0 else lst p i
  s : st.2 ≤ f + up T p i
theorem pst_step {T : List (List Int)} {ver : Int} {p : List Cg} {N : Nat} {K : List Rw × Int} {i f : Nat} {st : List Rw × Int} {rs : List Rw} (h : Pst T ver p N K i f st rs) {M : Int} (hp : POk N M p) {c : Cg} (hc : p[i]? = some c) (hv : (N : Int) + up T p p.length ≤ 20000) :
    (f : Int) ≤ c.ad ∧ 0 ≤ c.n ∧ c.ad + c.n ≤ N ∧ st.2 + rsum rs ≤ 50000 ∧ Bd (kp f c.ad rs st).1 ∧ (kp f c.ad rs st).1.2 + (tx T c.x).length ≤ 50000 ∧ 0 ≤ (kp f c.ad rs st).1.2 ∧ (kp f c.ad rs st).2.length ≤ rs.length ∧
      ∃ g : Nat, c.ad + c.n = (g : Int) ∧ Pst T ver p N K (i + 1) g (blAdd (kp f c.ad rs st).1 (tx T c.x).length ver (kp f c.ad rs st).1.2) (kp f c.ad rs st).2 := by
  obtain ⟨hk, hw, hb, hr, ⟨a, hca, haf⟩, hfN, hfi, hs⟩ := h
  obtain ⟨q1, q2, q3, q4, q5, q6, q7⟩ := hp i c hc
  have hil := (List.getElem?_eq_some_iff.1 hc).1
  have hf : (f : Int) ≤ c.ad := by
    rw [hfi]; split
    · exact q2
    · omega
  obtain ⟨t, ht⟩ : ∃ t : Nat, c.ad = (t : Int) := ⟨c.ad.toNat, by omega⟩
  obtain ⟨g, hg⟩ : ∃ g : Nat, c.ad + c.n = (g : Int) := ⟨(c.ad + c.n).toNat, by omega⟩
  have hu := up_succ T hc
  have hu2 := up_mono T p (show i + 1 ≤ p.length by omega)
  have hu0 := up_pos T p i
  have hrs := cont_rsum hca
  obtain ⟨k1, k2, a', k3, k4, k5⟩ := kp_ltr f t N (by omega) rs a st hca (by omega) hw
  obtain ⟨b1, b2, b3⟩ := kp_keeps f t rs st hb hr
  rw [← ht] at k1 k2 k3 b1 b2 b3
  have hl := k1.len
  rw [k2, List.length_append] at hl
  have hl2 := hw.len
  have hlt : (((ltr rs).drop (f - a)).take (t - max f a)).length ≤ t - max f a := List.length_take_le _ _
  have hst : (kp f c.ad rs st).1.2 ≤ c.ad + up T p i := by omega
  refine ⟨hf, q3, q4, by omega, b1, by omega, k1.2, b3, g, hg, ?_, (whole_add k1 _ _).1, (b1.add ver (by omega) k1.2 (by omega)).1, b2, ⟨a', k3, by omega⟩, by omega, ?_, ?_⟩
  · rw [← hk, List.drop_eq_getElem_cons hil, (List.getElem?_eq_some_iff.1 hc).2]
    show _ = pt T ver (p.drop (i + 1)) (c.ad + c.n) _ _
    rw [hg]
  · rw [if_neg (by omega), lst_succ hc]; omega
  · rw [(b1.add ver (by omega) k1.2 (by omega)).2]; omega
theorem bld_below {w w' : World} {base b : Nat} {st : List Rw × Int} (h : Bld w base b st) (hb : Below w.heap.size w w') : Bld w' base b st := by
  obtain ⟨A, c, h1, h2⟩ := h.ex
  exact ⟨A, c, h1.below hb h1.lt, own_below h2 hb⟩
def PatOut (base : Nat) (K : List Rw × Int) (w : World) (e : Ending) (w' : World) : Prop := e = .returned (.tuple #[.pointer (some ⟨base, 0, none⟩), .nilIface]) ∧ Bld w' base base K ∧ Below base w w'
set_option maxRecDepth 100000 in
set_option maxHeartbeats 16000000 in
theorem bpat_any (L : List En) (T : List (List Int)) (hg : Good L T) (ver : Int) (N : Nat) (p : List Cg) (n c : Nat) (A : Option Addr) (hl : p.length = n) (hn : n ≤ 100000) (hp : POk N L.length p) (hv : (N : Int) + up T p p.length ≤ 20000)
    (R : List Rw × Int) (hR : Whole R) (hRb : Bd R) (hRn : R.2 = (N : Int)) (B S G b base0 : Nat) (w : World) (st : St w B S G L) (ha : RowAt w A (cgc p)) (hb : Bld w base0 b R) :
    Calls Try.prog 23 #[.pointer (some ⟨b, 0, none⟩), .pointer (some ⟨S, 0, none⟩), .slice A n c, .int .i64 ver] w (PatOut w.heap.size (pt T ver p 0 ([], 0) R.1) w) := by
  obtain ⟨K, hK⟩ : ∃ K, K = pt T ver p 0 ([], 0) R.1 := ⟨_, rfl⟩
  rw [← hK]
  obtain ⟨A0, c0, bx, ow⟩ := hb.ex
  have rl : R.1.length ≤ 20000 := by have h1 := hRb.k; have h2 := up_pos T p p.length; omega
  have rc : R.1.length ≤ c0 := by
    rcases ow.2 with ⟨hv, h0⟩ | ⟨g2, cap2, cur, hv, hg, hc, hn2, _⟩
    · omega
    · injection hv with _ _ hcap; omega
  have HRB : Hid (RowB w w.heap.size A0 (rwc R.1)) := Lib.hid ⟨own_row _ ow, fun hne ad e => by
    subst e
    obtain ⟨x, xs, hx⟩ := List.exists_cons_of_ne_nil hne
    obtain ⟨a2, e2, hlt, _⟩ := (own_row _ ow).get (k := 0) (u := x) (by rw [hx]; rfl)
    injection e2 with e2; subst e2; exact hlt⟩
  have P0 := Lib.hid (show Pst T ver p N K 0 0 ([], 0) R.1 from ⟨by rw [hK]; rfl, ⟨rfl, Int.le_refl _⟩, bd_nil, hRb.rin (by have := up_pos T p p.length; omega), ⟨0, by have h := hR.1; rw [hRn] at h; simpa using h, Nat.le_refl _⟩, Nat.zero_le _, rfl, by rw [up_zero]; simp⟩)
  have y0 := bx.cell 0; have y1 := bx.cell 1
  simp only [List.getElem?_toArray, List.getElem?_cons_zero, List.getElem?_cons_succ] at y0 y1
  obtain ⟨m0, hm0⟩ : ∃ m0, m0 = R.1.length := ⟨_, rfl⟩
  have RL := Lib.hid (show R.1.length = m0 ∧ m0 ≤ c0 ∧ m0 ≤ 60000 by omega)
  rw [← hm0] at y0
  have HG := Lib.hid hg; have HST := Lib.hid st; have HA := Lib.hid ha; have HL := Lib.hid hl; have HP := Lib.hid hp; have HV := Lib.hid hv
  have bl := bx.lt
  have BL0 : Hid (Bld (w.alloc (.cells #[.slice none 0 0, .int .i64 0] 76)) w.heap.size w.heap.size ([], 0)) := Lib.hid ⟨none, 0, Box.new w _ _, rfl, .inl ⟨rfl, rfl⟩⟩
  have BW0 := Lib.hid (balloc (Below.refl w.heap.size w) (.cells #[.slice none 0 0, .int .i64 0] 76))
  obtain ⟨Nb, hNb⟩ : ∃ Nb, Nb = w.heap.size := ⟨_, rfl⟩
  rw [← hNb] at BL0 HRB ⊢
  have HNB := Lib.hid hNb.symm
  clear hK hl hp hv hR hRb hRn hb bx ow rl rc hg st ha hm0 hNb
  go_enter Try.func23, Try.ntmps23
  go_wp2_with fail
  rw [HNB.out]
  go_loopw [11, 12, 14, 15, 16, 25] (fun s11 s12 _ _ _ si wr => ∃ (i f m c1 : Nat) (A1 : Option Addr) (st : List Rw × Int) (rs : List Rw), si = .int .i64 (i : Int) ∧ i ≤ n ∧ s12 = .int .i64 (f : Int) ∧ s11 = .slice A1 m c1 ∧ Hid (Pst T ver p N K i f st rs) ∧ Hid (rs.length = m ∧ m ≤ c1 ∧ m ≤ 60000) ∧ Hid (Bld wr Nb Nb st) ∧ Hid (Below w.heap.size w wr) ∧ Hid (RowB wr Nb A1 (rwc rs))) (fun _ _ _ _ _ si _ => n - (intOf si).toNat)
  case atStart => exact ⟨0, 0, m0, c0, A0, ([], 0), R.1, rfl, by omega, rfl, rfl, P0, RL, BL0, BW0, Lib.hid (HRB.out.below (by rw [← HNB.out]; exact BW0.out))⟩
  case round =>
    clear P0 RL BL0 BW0 HRB y0 y1
    obtain ⟨i, f, m, c1, A1, st, rs, rfl, hi, rfl, rfl, P, RL, BL, BW, HRB⟩ := hrel
    by_cases hlt : i < n
    · have hil : i < p.length := by rw [HL.out]; exact hlt
      have hc := List.getElem?_eq_getElem hil
      obtain ⟨_, _, _, _, x0, x1, _⟩ := HP.out i _ hc
      obtain ⟨cg, hcg⟩ : ∃ cg, cg = p[i] := ⟨_, rfl⟩
      rw [← hcg] at hc x0 x1
      obtain ⟨ad, rfl, adl, c0_, c1_, c2_⟩ := row_cg (HA.out.below BW.out (Nat.le_refl _)) hc
      obtain ⟨z1, z2, z3, z4, z5, z6, z7, z8, g, hgg, z9⟩ := pst_step P.out HP.out hc HV.out
      obtain ⟨ca, cn, cx⟩ := cg
      simp only at c0_ c1_ c2_ x0 x1 z1 z2 z3 z4 z5 z6 z7 z8 hgg z9
      have HW := Lib.hid (fun w st => weight_any L cx x0 x1 HG.out.cap B S G w st)
      have e : (ent L cx).w.n = (tx T cx).length := by rw [(HG.out.any x0 x1).w]; rfl
      obtain ⟨u, hu⟩ : ∃ u, u = (ent L cx).w := ⟨_, rfl⟩
      rw [← hu] at HW e
      obtain ⟨u0, u1, u2, u3, u4, u5⟩ := u
      simp only at e
      rw [← e] at z6 z9
      have u00 : 0 ≤ u0 := by omega
      have HW' : Hid (∀ w, St w B S G L → Calls Try.prog 34 #[.pointer (some ⟨S, 0, none⟩), .int .i64 cx] w fun r w' => r = .returned (.tuple #[.agg #[.int .i64 u0, .int .i64 u1, .int .i64 u2, .int .i64 u3, .int .u64 u4, .int .u64 u5], .nilIface]) ∧ Below w.heap.size w w') := HW
      have hbb : Nb ≤ Nb := Nat.le_refl _
      have wsz := BW.out.size
      have HNB2 := Lib.hid (show Nb ≤ wr.heap.size by rw [← HNB.out]; exact wsz)
      obtain ⟨r1, r2, r3⟩ := RL.out
      have fn := P.out.fN; have up0 := up_pos T p p.length; have hvv := HV.out
      have HKp : Hid (∀ w1, Nb ≤ w1.heap.size → Bld w1 Nb Nb st → RowB w1 Nb A1 (rwc rs) → Calls Try.prog 41 #[.pointer (some ⟨Nb, 0, none⟩), .slice A1 m c1, .int .i64 f, .int .i64 ca] w1 (KpOut Nb Nb (kp f ca rs st) w1)) := Lib.hid fun w1 h1 h2 h3 =>
        bkp_any Nb Nb hbb f ca (by omega) (by omega) (by omega) (by omega) rs m c1 A1 r1 r2 r3 st P.out.b P.out.r z4 w1 h1 h2 h3
      obtain ⟨k1, hk1⟩ : ∃ k1, k1 = kp f ca rs st := ⟨_, rfl⟩
      rw [← hk1] at HKp z5 z6 z7 z8 z9
      have HAd : Hid (∀ w1, Nb ≤ w1.heap.size → Bld w1 Nb Nb k1.1 → Calls Try.prog 21 #[.pointer (some ⟨Nb, 0, none⟩), .int .i64 u0, .int .i64 ver, .int .i64 k1.1.2] w1 (BldOut Nb Nb (blAdd k1.1 u0 ver k1.1.2) w1)) := Lib.hid fun w1 h1 h2 =>
        badd_any Nb Nb hbb k1.1 z5 u0 ver k1.1.2 u00 z6 w1 h1 h2
      have HZ9 := Lib.hid z9
      have HK2 := Lib.hid (show k1.2.length ≤ 60000 by omega)
      have HGG := Lib.hid hgg
      have gb : ca + cn ≤ 1000000 := by omega
      have gb0 : 0 ≤ ca + cn := by omega
      obtain ⟨R1, hR1⟩ : ∃ R1, R1 = k1.1 := ⟨_, rfl⟩
      obtain ⟨rs1, hrs1⟩ : ∃ rs1, rs1 = k1.2 := ⟨_, rfl⟩
      have HKp' : Hid (∀ w1, Nb ≤ w1.heap.size → Bld w1 Nb Nb st → RowB w1 Nb A1 (rwc rs) → Calls Try.prog 41 #[.pointer (some ⟨Nb, 0, none⟩), .slice A1 m c1, .int .i64 f, .int .i64 ca] w1 (fun e w' => ∃ A c, e = .returned (.slice A rs1.length c) ∧ Bld w' Nb Nb R1 ∧ Below Nb w1 w' ∧ RowB w' Nb A (rwc rs1) ∧ rs1.length ≤ c ∧ Fr2 w1 w')) := Lib.hid (by rw [hR1, hrs1]; exact HKp.out)
      rw [← hR1] at HAd HZ9
      rw [← hrs1] at HZ9 HK2
      obtain ⟨l1, hl1⟩ : ∃ l1, l1 = R1.2 := ⟨_, rfl⟩
      rw [← hl1] at HAd HZ9
      have HL1 := Lib.hid hl1.symm
      have BA := Lib.hid (balloc BW.out (.cells #[.int .i64 ca, .int .i64 cn, .int .i64 cx] 71))
      have BLA := Lib.hid (bld_alloc BL.out (.cells #[.int .i64 ca, .int .i64 cn, .int .i64 cx] 71))
      have HRA := Lib.hid (HRB.out.below ((Below.refl Nb wr).alloc HNB2.out (.cells #[.int .i64 ca, .int .i64 cn, .int .i64 cx] 71)))
      have X1 := Lib.hid (Box.new wr 71 #[.int .i64 ca, .int .i64 cn, .int .i64 cx])
      have HSA := Lib.hid (HST.out.below BA.out)
      clear hc hcg x0 x1 z1 z2 z3 z4 z5 z6 z7 z8 z9 hgg HW e hu hk1 hR1 hrs1 hl1 r1 r2 r3 HKp RL BL BW HRB P wsz hbb fn up0 hvv
      go_wp2_with fail
      (with_reducible refine (HW'.out _ HSA.out).mono ?_)
      rintro e w2 ⟨rfl, B2⟩
      have B2' := Lib.hid (balloc B2 (.cells #[.int .i64 u0, .int .i64 u1, .int .i64 u2, .int .i64 u3, .int .u64 u4, .int .u64 u5] 110))
      have HBB2 := Lib.hid (Nat.le_trans HNB2.out (by have := B2.size; simp at this; omega : wr.heap.size ≤ w2.heap.size))
      have X2 := Lib.hid ((X1.out.below B2 X1.out.lt).alloc (.cells #[.int .i64 u0, .int .i64 u1, .int .i64 u2, .int .i64 u3, .int .u64 u4, .int .u64 u5] 110))
      have Y2 := Lib.hid (Box.new w2 110 #[.int .i64 u0, .int .i64 u1, .int .i64 u2, .int .i64 u3, .int .u64 u4, .int .u64 u5])
      have BW2 := Lib.hid (bkeep BA.out B2'.out)
      have BL2 := Lib.hid (bld_below BLA.out B2'.out)
      have HR2 := Lib.hid (HRA.out.below (B2'.out.mono (by simp; have := HNB2.out; omega)))
      have X2b := X1.out.below B2 X1.out.lt
      have x0 := X2b.cell 0; have x1 := X2b.cell 1; have x2 := X2b.cell 2
      simp only [List.getElem?_toArray, List.getElem?_cons_zero, List.getElem?_cons_succ] at x0 x1 x2
      have xl := X2b.lt
      have HS2 := Lib.hid (show Nb ≤ (w2.alloc (.cells #[.int .i64 u0, .int .i64 u1, .int .i64 u2, .int .i64 u3, .int .u64 u4, .int .u64 u5] 110)).heap.size by simp; have := HBB2.out; omega)
      clear B2 X2b
      go_wp2_with fail
      (with_reducible refine (HKp'.out _ HS2.out BL2.out HR2.out).mono ?_)
      rintro e w3 ⟨A3, c3, rfl, BL3, B3, HR3, hc3, F3⟩
      have X3 := Lib.hid (F3.box X2.out (by decide) (by decide))
      have Y3 := Lib.hid (F3.box Y2.out (by decide) (by decide))
      have BW3 := Lib.hid (BW2.out.trans (by rw [HNB.out]; exact B3))
      have HB3 := Lib.hid BL3
      have HR3' := Lib.hid HR3; have HC3 := Lib.hid hc3
      obtain ⟨A8, c8, bx8, ow8⟩ := BL3.ex
      have e0 := Y3.out.cell 0; have e1 := bx8.cell 1
      simp only [List.getElem?_toArray, List.getElem?_cons_zero, List.getElem?_cons_succ] at e0 e1
      rw [HL1.out] at e1
      have HS3 := Lib.hid (show Nb ≤ w3.heap.size by have := HS2.out; have := B3.size; omega)
      have HBd := Lib.hid (bld_drewN BL3 1)
      clear BL3 B3 HR3 hc3 F3 bx8 ow8 x0 x1 x2
      go_upto_region 11 with fail
      go_region_with (first
        | (go_at_call 21; refine (HAd.out _ ?_ ?_).mono ?_; exact HS3.out; exact HBd.out; rintro e w4 ⟨rfl, BL4, B4, F4⟩; have X4 := F4.box (show Box w3.drew wr.heap.size 71 #[.int .i64 ca, .int .i64 cn, .int .i64 cx] from X3.out) (by decide) (by decide)))
      all_goals
        have q0 := X4.cell 0; have q1 := X4.cell 1
        simp only [List.getElem?_toArray, List.getElem?_cons_zero, List.getElem?_cons_succ] at q0 q1
        have BW4 := Lib.hid ((below_drewN BW3.out 1).trans (show Below w.heap.size (w3.drewN 1) w4 by rw [HNB.out]; exact B4))
        have HB4 := Lib.hid BL4
        have HR4 := Lib.hid (RowB.below (w := w3.drew) (show RowB w3.drew Nb A3 (rwc rs1) from ⟨HR3'.out.1.drew, HR3'.out.2⟩) B4)
        clear X4 B4 F4 BL4 e0 e1
        go_wp2_with fail
        go_roundw
        case rel => exact ⟨i + 1, g, rs1.length, c3, A3, _, rs1, by go_num, by omega, by rw [HGG.out], rfl, HZ9, Lib.hid ⟨rfl, HC3.out, HK2.out⟩, HB4, BW4, HR4⟩
        case measure => simp [intOf]; omega
    · obtain rfl : i = n := by omega
      have hP := P.out
      have hend : p.drop i = [] := List.drop_eq_nil_of_le (by rw [HL.out]; exact Nat.le_refl _)
      have hk := hP.k
      rw [hend] at hk
      have hk : (kp f 9223372036854775807 rs st).1 = K := hk
      have hbb : Nb ≤ Nb := Nat.le_refl _
      have wsz := BW.out.size
      have HNB2 : Nb ≤ wr.heap.size := by rw [← HNB.out]; exact wsz
      obtain ⟨r1, r2, r3⟩ := RL.out
      have fn := hP.fN; have up0 := up_pos T p p.length; have hvv := HV.out
      have upm := up_mono T p (show i ≤ p.length by rw [HL.out]; exact Nat.le_refl _)
      obtain ⟨a, hca, haf⟩ := hP.c
      have hrs := cont_rsum hca
      have hss := hP.s
      have HKp := Lib.hid (bkp_any Nb Nb hbb f 9223372036854775807 (by omega) (by omega) (by omega) (by omega) rs m c1 A1 r1 r2 r3 st hP.b hP.r (by omega) wr HNB2 BL.out HRB.out)
      obtain ⟨kk, hkk⟩ : ∃ kk, kk = kp f 9223372036854775807 rs st := ⟨_, rfl⟩
      rw [← hkk] at HKp hk
      have HKK := Lib.hid hk
      clear hP hend hkk hk hbb wsz HNB2 r1 r2 r3 fn up0 hvv upm hca haf hrs hss RL BL HRB P
      go_wp2_with fail
      (with_reducible refine HKp.out.mono ?_)
      rintro e w3 ⟨A3, c3, rfl, BL3, B3, _⟩
      have HB3 := Lib.hid BL3
      have BW3 := Lib.hid (BW.out.trans (by rw [HNB.out]; exact B3))
      clear BL3 B3
      go_wp2_with fail
      go_ret2
      exact ⟨rfl, by rw [← HKK.out]; exact HB3.out, by have := BW3.out; rw [HNB.out] at this; exact this⟩
end Go.Proofs.Ytolhjkpekmmajaa
/- The walk of sort.Search, and of anchor.Back's closure. -/
namespace Go.Proofs.Ytolhjkpekmmajaa
set_option linter.unusedVariables false
set_option linter.unusedSimpArgs false
open Go.RowKit Go.Lib Go.Maps
attribute [local go_sem ↓] Go.wp_at_zero Go.wp_at_succ
/-- what leaves the world as it was but for draws -/
def Quiet (v : Value) (w : World) (e : Ending) (w' : World) : Prop := e = .returned v ∧ ∃ m, w' = w.drewN m
set_option maxRecDepth 100000 in
set_option maxHeartbeats 4000000 in
theorem search_any (P1 P2 : Option Addr) (n k : Nat) (hn : n ≤ 100000) (hk : k ≤ n) (f : Nat → Bool) (f0 : ∀ i, i < k → f i = false) (f1 : ∀ i, k ≤ i → i < n → f i = true) (w : World)
    (HF : ∀ i, i < n → ∀ j, Calls Try.prog 26 #[.int .i64 (i : Int), .pointer P1, .pointer P2] (w.drewN j) (Quiet (.bool (f i)) (w.drewN j))) :
    Calls Try.prog 25 #[.int .i64 (n : Int), .func (.func 26) #[] #[.pointer P1, .pointer P2]] w (Quiet (.int .i64 (k : Int)) w) := by
  have H := Lib.hid HF; have H0 := Lib.hid f0; have H1 := Lib.hid f1
  clear HF f0 f1
  go_enter Try.func25, Try.ntmps25
  go_wp2_with fail
  go_loopw [5, 6, 7] (fun s5 s6 _ wr => ∃ (i j : Nat), s5 = .int .i64 (i : Int) ∧ s6 = .int .i64 (j : Int) ∧ i ≤ k ∧ k ≤ j ∧ j ≤ n ∧ Hid (∃ m, wr = w.drewN m)) (fun s5 s6 _ _ => (intOf s6).toNat - (intOf s5).toNat)
  case atStart => exact ⟨0, n, rfl, rfl, by omega, by omega, by omega, Lib.hid ⟨0, rfl⟩⟩
  case round =>
    obtain ⟨i, j, rfl, rfl, hi, hj, hjn, HM⟩ := hrel
    by_cases hlt : i < j
    · have t1 : decide ((i : Int) < (j : Int)) = true := by simp; exact hlt
      obtain ⟨m, hm⟩ := HM.out
      subst hm
      obtain ⟨h, hh⟩ : ∃ h, h = (i + j) / 2 := ⟨_, rfl⟩
      have he : ((i : Int) + (j : Int)) / 2 = (h : Int) := by omega
      have HE := Lib.hid he
      have HC := Lib.hid (H.out h (by omega) m)
      obtain ⟨q, hq⟩ : ∃ q, q = f h := ⟨_, rfl⟩
      rw [← hq] at HC
      have HQ := Lib.hid hq
      have HB := Lib.hid (show i ≤ h ∧ h < j by omega)
      have HT : Hid (q = true → k ≤ h) := Lib.hid fun e => by
        by_cases hkh : k ≤ h
        · exact hkh
        · have := H0.out h (by omega); rw [← hq, e] at this; cases this
      have HFa : Hid (q = false → h + 1 ≤ k) := Lib.hid fun e => by
        by_cases hkh : h + 1 ≤ k
        · exact hkh
        · have := H1.out h (by omega) (by omega); rw [← hq, e] at this; cases this
      have hb : (h : Int) ≤ 100000 := by omega
      have hb0 : (0 : Int) ≤ (h : Int) := by omega
      clear he hh hq
      go_upto_region 4 with fail
      rw [HE.out]
      go_wp2_with fail
      (with_reducible refine HC.out.mono ?_)
      rintro e w2 ⟨rfl, m2, rfl⟩
      have HM2 : Hid (∃ m3, w.drewN (m + m2) = w.drewN m3) := Lib.hid ⟨m + m2, rfl⟩
      cases q with
      | true =>
        go_wp2_with fail
        go_roundw
        case rel => exact ⟨i, h, rfl, rfl, hi, HT.out trivial, by have := HB.out; omega, HM2⟩
        case measure => simp [intOf]; have := HB.out; omega
      | false =>
        go_wp2_with fail
        go_roundw
        case rel => exact ⟨h + 1, j, by go_num, rfl, HFa.out trivial, hj, hjn, HM2⟩
        case measure => simp [intOf]; have := HB.out; omega
    · obtain rfl : i = j := by omega
      obtain rfl : k = i := by omega
      go_wp2_with fail
      go_ret
      exact ⟨rfl, HM.out⟩
/-- a move: a change's range, and that of its text -/
structure Mv where
  f : Int
  t : Int
  nf : Int
  nt : Int
def Mv.cells (c : Mv) : List Value := [.int .i64 c.f, .int .i64 c.t, .int .i64 c.nf, .int .i64 c.nt]
def mvc (p : List Mv) : List Value := p.flatMap Mv.cells
theorem mvc_len (p : List Mv) : (mvc p).length = p.length * 4 := by
  induction p with
  | nil => rfl
  | cons c p ih => simp [mvc, Mv.cells] at ih ⊢; omega
theorem mvc_app (a b : List Mv) : mvc (a ++ b) = mvc a ++ mvc b := by simp [mvc]
theorem mvc_one (p : List Mv) : ∀ u ∈ mvc p, u.oneCell' = true := by
  intro u hu
  simp only [mvc, List.mem_flatMap, Mv.cells] at hu
  obtain ⟨c, _, hu⟩ := hu
  simp at hu
  rcases hu with rfl | rfl | rfl | rfl <;> rfl
theorem mvc_get {p : List Mv} {i j : Nat} {c : Mv} {u : Value} (h : p[i]? = some c) (hu : c.cells[j]? = some u) : (mvc p)[i * 4 + j]? = some u := by
  induction p generalizing i with
  | nil => simp at h
  | cons a p ih =>
    have hj : j < 4 := (List.getElem?_eq_some_iff.1 hu).1
    show (a.cells ++ mvc p)[i * 4 + j]? = some u
    match i with
    | 0 =>
      simp at h; subst h
      rw [List.getElem?_append_left (by simp [Mv.cells]; omega), Nat.zero_mul, Nat.zero_add]; exact hu
    | i + 1 =>
      simp at h
      rw [List.getElem?_append_right (by simp [Mv.cells]; omega), show a.cells.length = 4 from rfl, show (i + 1) * 4 + j - 4 = i * 4 + j by omega]
      exact ih h
theorem row_mv {w : World} {A : Option Addr} {p : List Mv} {i : Nat} {c : Mv} (h : RowAt w A (mvc p)) (hc : p[i]? = some c) :
    ∃ ad, A = some ad ∧ (ad.add (i * 4)).block < w.heap.size ∧ w.cell? (ad.add (i * 4)) = some (.int .i64 c.f) ∧ w.cell? ⟨(ad.add (i * 4)).block, (ad.add (i * 4)).off + 1, none⟩ = some (.int .i64 c.t) ∧ w.cell? ⟨(ad.add (i * 4)).block, (ad.add (i * 4)).off + 2, none⟩ = some (.int .i64 c.nf) ∧ w.cell? ⟨(ad.add (i * 4)).block, (ad.add (i * 4)).off + 3, none⟩ = some (.int .i64 c.nt) := by
  obtain ⟨ad, e, hl, c0⟩ := h.get (mvc_get (j := 0) hc rfl)
  have key : ∀ j u, c.cells[j + 1]? = some u → w.cell? ⟨(ad.add (i * 4)).block, (ad.add (i * 4)).off + (j + 1), none⟩ = some u := by
    intro j u hu
    obtain ⟨a2, e2, _, k⟩ := h.get (mvc_get (j := j + 1) hc hu)
    rw [e] at e2; cases e2
    rw [← add_add_, add_succ_] at k
    exact k
  exact ⟨ad, e, by rw [block_add]; exact hl, c0, key 0 _ rfl, key 1 _ rfl, key 2 _ rfl⟩
set_option maxRecDepth 100000 in
theorem back1_any (P Q n c i : Nat) (A : Option Addr) (L : List Mv) (hl : L.length = n) (hn : n ≤ 100000) (hi : i < n) (len at_ : Int) (m : Mv) (hm : L[i]? = some m) (w : World) (hP : Box w P 84 #[.slice A n c, .int .i64 len]) (hR : RowAt w A (mvc L)) (hQ : Box w Q 3 #[.int .i64 at_]) :
    Calls Try.prog 26 #[.int .i64 (i : Int), .pointer (some ⟨P, 0, none⟩), .pointer (some ⟨Q, 0, none⟩)] w (Quiet (.bool (decide (at_ < m.nf))) w) := by
  obtain ⟨ad, rfl, adl, c0, c1, c2, c3⟩ := row_mv hR hm
  have p0 := hP.cell 0; have q0 := hQ.cell 0
  simp only [List.getElem?_toArray, List.getElem?_cons_zero] at p0 q0
  have i0 : (0 : Int) ≤ (i : Int) := Int.natCast_nonneg i
  have i1 : (i : Int) < (n : Int) := by omega
  obtain ⟨nf, hnf⟩ : ∃ nf, nf = m.nf := ⟨_, rfl⟩
  rw [← hnf] at c2 ⊢
  clear hP hQ hR hm hl hnf c0 c1 c3
  go_enter Try.func26, Try.ntmps26
  go_wp2_with fail
  go_quiet (fail)
  go_wp2_with fail
  go_ret
  exact ⟨rfl, nq, rfl⟩
end Go.Proofs.Ytolhjkpekmmajaa
/- The walk of anchor.prepare, with no anchors. -/
namespace Go.Proofs.Ytolhjkpekmmajaa
set_option linter.unusedVariables false
set_option linter.unusedSimpArgs false
open Go.RowKit Go.Lib Go.Maps
attribute [local go_sem ↓] Go.wp_at_zero Go.wp_at_succ
theorem info_move : (Try.prog.info? 89).map (fun i => (i.zero, i.size, i.bytes)) = some (some (.agg #[.int .i64 0, .int .i64 0, .int .i64 0, .int .i64 0]), 4, 32) := by kernel_rfl
/-- the moves of a patch, behind a shift -/
def mvs (T : List (List Int)) : Int → List Cg → List Mv
  | _, [] => []
  | s, c :: p => ⟨c.ad, c.ad + c.n, c.ad + s, c.ad + s + (tx T c.x).length⟩ :: mvs T (s + ((tx T c.x).length - c.n)) p
theorem mvs_len (T : List (List Int)) : ∀ (p : List Cg) (s : Int), (mvs T s p).length = p.length
  | [], _ => rfl
  | c :: p, s => by simp [mvs, mvs_len T p]
theorem mvs_step (T : List (List Int)) {p : List Cg} {i : Nat} {c : Cg} (s : Int) (h : p[i]? = some c) :
    mvs T s (p.drop i) = ⟨c.ad, c.ad + c.n, c.ad + s, c.ad + s + (tx T c.x).length⟩ :: mvs T (s + ((tx T c.x).length - c.n)) (p.drop (i + 1)) := by
  obtain ⟨hl, e⟩ := List.getElem?_eq_some_iff.1 h
  rw [List.drop_eq_getElem_cons hl, e]; rfl
def PrepOut (T : List (List Int)) (N : Nat) (p : List Cg) (w : World) (e : Ending) (w' : World) : Prop :=
  ∃ A c, e = .returned (.tuple #[.agg #[.slice A p.length c, .int .i64 (newLen T N p)], .nilIface]) ∧ Below w.heap.size w w' ∧ RowAt w' A (mvc (mvs T 0 p))
set_option maxRecDepth 100000 in
set_option maxHeartbeats 16000000 in
theorem prep_any (L : List En) (T : List (List Int)) (hg : Good L T) (N : Nat) (p : List Cg) (n c : Nat) (A : Option Addr) (hl : p.length = n) (hn : n ≤ 100000) (hp : POk N L.length p) (hv : (N : Int) + up T p p.length ≤ 20000)
    (B S G : Nat) (w : World) (st : St w B S G L) (ha : RowAt w A (cgc p)) :
    Calls Try.prog 24 #[.pointer (some ⟨S, 0, none⟩), .int .i64 (N : Int), .slice A n c, .slice none 0 0] w (PrepOut T N p w) := by
  obtain ⟨i0_, hi0, hz0, hz1, hz2⟩ := info_parts5 info_move
  have HI := Lib.hid hi0; have HZ := Lib.hid hz0; have HZ1 := Lib.hid hz1; have HZ2 := Lib.hid hz2
  have up0 := up_pos T p p.length
  have dnb := dn_bound hp (by omega)
  have HV := Lib.hid (fun w => valid_any (N : Int) w)
  rw [vld_yes N (by omega) (by omega)] at HV
  have HPL := Lib.hid (fun w st ha => plength_any L T hg N (by omega) (by omega) p n c A hl hn hp (by rw [← hl]; omega) B S G w st ha)
  obtain ⟨nl, hnl⟩ : ∃ nl, nl = newLen T N p := ⟨_, rfl⟩
  have nl0 : 0 ≤ nl ∧ nl ≤ 20000 := by have := dnb p.length (Nat.le_refl _); rw [hnl]; unfold newLen; omega
  rw [← hnl] at HPL
  have HNL := Lib.hid hnl.symm
  have BW0 := Lib.hid (balloc (Below.refl w.heap.size w) (.cells #[.slice none 0 0, .int .i64 0] 84))
  have BX0 := Lib.hid (Box.new w 84 #[.slice none 0 0, .int .i64 0])
  obtain ⟨w0, hw0⟩ : ∃ w0, w0 = w.alloc (.cells #[.slice none 0 0, .int .i64 0] 84) := ⟨_, rfl⟩
  obtain ⟨Q, hQ⟩ : ∃ Q, Q = w.heap.size := ⟨_, rfl⟩
  rw [← hw0] at BW0 BX0
  rw [← hQ] at BX0
  have HW0 := Lib.hid hw0.symm
  have HQ := Lib.hid hQ.symm
  have HG := Lib.hid hg; have HST := Lib.hid st; have HA := Lib.hid ha; have HL := Lib.hid hl; have HP := Lib.hid hp; have HVV := Lib.hid hv
  have HDN := Lib.hid dnb
  have N0 : (0 : Int) ≤ (N : Int) := Int.natCast_nonneg N
  have N1 : (N : Int) ≤ 20000 := by omega
  clear hi0 hz0 hz1 hz2 up0 dnb hnl hw0 hQ hg st ha hl hp hv
  go_enter Try.func24, Try.ntmps24
  go_wp2_with fail
  (with_reducible refine (HV.out _).mono ?_)
  rintro e w' ⟨rfl, rfl⟩
  go_wp2_with fail
  rw [HW0.out, HQ.out]
  go_loopw [11, 32] (fun _ si wr => si = .int .i64 0 ∧ Hid (wr = w0)) (fun _ _ _ => 0)
  case atStart => exact ⟨rfl, Lib.hid rfl⟩
  case round =>
    obtain ⟨rfl, HW⟩ := hrel
    have hwr := HW.out
    subst hwr
    have HS0 := Lib.hid (HST.out.below BW0.out)
    have HA0 := Lib.hid (HA.out.below BW0.out (Nat.le_refl _))
    clear HW HW0
    go_wp2_with fail
    (with_reducible refine (HPL.out _ HS0.out HA0.out).mono ?_)
    rintro e w2 ⟨rfl, B2⟩
    have BW2 := Lib.hid (balloc (bkeep BW0.out B2) (.cells #[.slice none 0 0, .int .i64 nl] 84))
    have BX2 := Lib.hid ((BX0.out.below B2 BX0.out.lt).alloc (.cells #[.slice none 0 0, .int .i64 nl] 84))
    have BD2 := Lib.hid (Box.new w2 84 #[.slice none 0 0, .int .i64 nl])
    obtain ⟨D, hD⟩ : ∃ D, D = w2.heap.size := ⟨_, rfl⟩
    rw [← hD] at BD2
    have HD := Lib.hid hD.symm
    have HQD : Hid (Q < D) := Lib.hid (by rw [hD]; exact (BX0.out.below B2 BX0.out.lt).lt)
    clear B2 BW0 BX0 hD HS0 HA0
    go_wp2_with fail
    rw [HD.out]
    go_loopw [15, 17, 18, 19, 20, 63] (fun s15 _ _ _ _ si wr => ∃ (i c1 : Nat) (sh : Int) (A1 : Option Addr) (M : List Mv), si = .int .i64 (i : Int) ∧ i ≤ n ∧ s15 = .int .i64 sh ∧ Hid (M ++ mvs T sh (p.drop i) = mvs T 0 p ∧ M.length = i ∧ sh = up T p i - dn p i) ∧ Hid (Below w.heap.size w wr) ∧ Hid (Box wr Q 84 #[.slice none 0 0, .int .i64 0]) ∧ Hid (Box wr D 84 #[.slice A1 i c1, .int .i64 nl]) ∧ Hid (wr.ownsRow Q 89 4 (.slice A1 i c1) i (mvc M))) (fun _ _ _ _ _ si _ => n - (intOf si).toNat)
    case atStart => exact ⟨0, 0, 0, none, [], rfl, by omega, rfl, Lib.hid ⟨rfl, rfl, by rw [up_zero, dn_zero]; rfl⟩, BW2, BX2, BD2, Lib.hid ⟨rfl, .inl ⟨rfl, rfl⟩⟩⟩
    case round =>
      clear BW2 BX2 BD2
      obtain ⟨i, c1, sh, A1, M, rfl, hi, rfl, HM, BW, BX, BD, OW⟩ := hrel
      by_cases hlt : i < n
      · have hil : i < p.length := by rw [HL.out]; exact hlt
        have hc := List.getElem?_eq_getElem hil
        obtain ⟨k1, k2, k3, k4, x0, x1, k7⟩ := HP.out i _ hc
        obtain ⟨hm1, hm2, hm3⟩ := HM.out
        have us := up_succ T hc
        have ds := dn_succ hc
        have d1 := HDN.out i (by omega); have d2 := HDN.out (i + 1) (by omega)
        have u0 := up_pos T p i; have u1 := up_mono T p (show i + 1 ≤ p.length by omega)
        have hvv := HVV.out
        have ms := mvs_step T sh hc
        obtain ⟨cg, hcg⟩ : ∃ cg, cg = p[i] := ⟨_, rfl⟩
        rw [← hcg] at hc x0 x1 k2 k3 k4 us ds ms
        obtain ⟨ad, rfl, adl, c0_, c1_, c2_⟩ := row_cg (HA.out.below BW.out (Nat.le_refl _)) hc
        obtain ⟨ca, cn, cx⟩ := cg
        simp only at c0_ c1_ c2_ x0 x1 k2 k3 k4 us ds ms
        have HW := Lib.hid (fun w st => weight_any L cx x0 x1 HG.out.cap B S G w st)
        have e : (ent L cx).w.n = (tx T cx).length := by rw [(HG.out.any x0 x1).w]; rfl
        obtain ⟨u, hu⟩ : ∃ u, u = (ent L cx).w := ⟨_, rfl⟩
        rw [← hu] at HW e
        obtain ⟨y0, y1, y2, y3, y4, y5⟩ := u
        simp only at e
        rw [← e] at us ms
        have HW' : Hid (∀ w, St w B S G L → Calls Try.prog 34 #[.pointer (some ⟨S, 0, none⟩), .int .i64 cx] w fun r w' => r = .returned (.tuple #[.agg #[.int .i64 y0, .int .i64 y1, .int .i64 y2, .int .i64 y3, .int .u64 y4, .int .u64 y5], .nilIface]) ∧ Below w.heap.size w w') := HW
        have yb : 0 ≤ y0 ∧ y0 ≤ 20000 := by omega
        have cab : 0 ≤ ca ∧ ca ≤ 20000 := by
          constructor
          · by_cases hi0 : i = 0
            · subst hi0; omega
            · omega
          · omega
        have cnb : 0 ≤ cn ∧ cn ≤ 20000 := by omega
        have shb : -20000 ≤ sh ∧ sh ≤ 20000 := by omega
        have HMS : Hid ((M ++ [(⟨ca, ca + cn, ca + sh, ca + sh + y0⟩ : Mv)]) ++ mvs T (sh + (y0 - cn)) (p.drop (i + 1)) = mvs T 0 p ∧ (M ++ [(⟨ca, ca + cn, ca + sh, ca + sh + y0⟩ : Mv)]).length = i + 1 ∧ sh + (y0 - cn) = up T p (i + 1) - dn p (i + 1)) := Lib.hid ⟨by rw [← hm1, ms]; simp, by simp [hm2], by omega⟩
        have BA := Lib.hid (balloc BW.out (.cells #[.int .i64 ca, .int .i64 cn, .int .i64 cx] 71))
        have X1 := Lib.hid (Box.new wr 71 #[.int .i64 ca, .int .i64 cn, .int .i64 cx])
        have HSA := Lib.hid (HST.out.below BA.out)
        have ib : i ≤ 100000 := by omega
        have HDL := Lib.hid BD.out.lt
        obtain ⟨yb0, yb1⟩ := yb; obtain ⟨ca0, ca1⟩ := cab; obtain ⟨cn0, cn1⟩ := cnb; obtain ⟨sh0, sh1⟩ := shb
        clear hc hcg x0 x1 k1 k2 k3 k4 k7 hm1 hm2 hm3 us ds d1 d2 u0 u1 hvv ms HW e hu HM
        go_wp2_with fail
        (with_reducible refine (HW'.out _ HSA.out).mono ?_)
        rintro e w2 ⟨rfl, B2⟩
        have wq : Hid (wr.heap.size < w2.heap.size) := Lib.hid (by have := B2.size; simp at this; omega)
        have X2 := (X1.out.below B2 X1.out.lt).alloc (.cells #[.int .i64 y0, .int .i64 y1, .int .i64 y2, .int .i64 y3, .int .u64 y4, .int .u64 y5] 110)
        have Y2 := Box.new w2 110 #[.int .i64 y0, .int .i64 y1, .int .i64 y2, .int .i64 y3, .int .u64 y4, .int .u64 y5]
        have D2 := ((BD.out.alloc (.cells #[.int .i64 ca, .int .i64 cn, .int .i64 cx] 71)).below B2 (by have := BD.out.lt; simp; omega)).alloc (.cells #[.int .i64 y0, .int .i64 y1, .int .i64 y2, .int .i64 y3, .int .u64 y4, .int .u64 y5] 110)
        have Q2 := ((BX.out.alloc (.cells #[.int .i64 ca, .int .i64 cn, .int .i64 cx] 71)).below B2 (by have := BX.out.lt; simp; omega)).alloc (.cells #[.int .i64 y0, .int .i64 y1, .int .i64 y2, .int .i64 y3, .int .u64 y4, .int .u64 y5] 110)
        have BW2 := balloc (bkeep BA.out B2) (.cells #[.int .i64 y0, .int .i64 y1, .int .i64 y2, .int .i64 y3, .int .u64 y4, .int .u64 y5] 110)
        have OW2 := own_alloc (own_below (own_alloc OW.out (.cells #[.int .i64 ca, .int .i64 cn, .int .i64 cx] 71)) B2) (.cells #[.int .i64 y0, .int .i64 y1, .int .i64 y2, .int .i64 y3, .int .u64 y4, .int .u64 y5] 110)
        have X3 := Lib.hid (X2.alloc (.cells #[.int .i64 ca, .int .i64 (ca + cn), .int .i64 (ca + sh), .int .i64 (ca + sh + y0)] 89))
        have Y3 := Lib.hid (Y2.alloc (.cells #[.int .i64 ca, .int .i64 (ca + cn), .int .i64 (ca + sh), .int .i64 (ca + sh + y0)] 89))
        have D3 := Lib.hid (D2.alloc (.cells #[.int .i64 ca, .int .i64 (ca + cn), .int .i64 (ca + sh), .int .i64 (ca + sh + y0)] 89))
        have Q3 := Lib.hid (Q2.alloc (.cells #[.int .i64 ca, .int .i64 (ca + cn), .int .i64 (ca + sh), .int .i64 (ca + sh + y0)] 89))
        have BW3 := Lib.hid (balloc BW2 (.cells #[.int .i64 ca, .int .i64 (ca + cn), .int .i64 (ca + sh), .int .i64 (ca + sh + y0)] 89))
        have OW3 := Lib.hid (own_alloc OW2 (.cells #[.int .i64 ca, .int .i64 (ca + cn), .int .i64 (ca + sh), .int .i64 (ca + sh + y0)] 89))
        have BW2' := Lib.hid BW2
        have x0 := X2.cell 0; have x1 := X2.cell 1; have x2 := X2.cell 2
        simp only [List.getElem?_toArray, List.getElem?_cons_zero, List.getElem?_cons_succ] at x0 x1 x2
        have z0 := Y2.cell 0; have z1 := Y2.cell 1; have z2 := Y2.cell 2; have z3 := Y2.cell 3; have z4 := Y2.cell 4; have z5 := Y2.cell 5
        simp only [List.getElem?_toArray, List.getElem?_cons_zero, List.getElem?_cons_succ] at z0 z1 z2 z3 z4 z5
        have d0 := D2.cell 0; have d1 := D2.cell 1
        simp only [List.getElem?_toArray, List.getElem?_cons_zero, List.getElem?_cons_succ] at d0 d1
        have xl := X2.lt; have yl := Y2.lt; have dl := D2.lt
        clear B2 X2 Y2 D2 Q2 BW2 OW2 X1 BA BX BD OW BW
        go_wp2_with (refine wpList_app _ (by rfl) (.tmp 83) (.tmp 97) _ rfl Q 89 i0_ _ 4 32 Try.underlying82 HI.out HZ.out HZ1.out HZ2.out rfl (by omega) (.slice A1 i c1) i (mvc M) rfl OW3.out (some ⟨w2.heap.size + 1, 0, none⟩) 1 1 (mvc [⟨ca, ca + cn, ca + sh, ca + sh + y0⟩]) rfl rfl ?row (mvc_one _) (by simp only [maxLen]; omega) (by omega) ?size ?_)
        case row => exact RowAt.of_block (Box.new_ (by simp))
        case size => have := BW3.out.size; have := HQ.out; omega
        intro A5 c5 w5 own5 gr5 at5
        have BW5 := Lib.hid (below_grown BW3.out OW3.out (by rw [HQ.out]; exact Nat.le_refl _) BW3.out.size gr5)
        have X5 := box_grown3 X3.out OW3.out (by decide) gr5
        have Y5 := box_grown3 Y3.out OW3.out (by decide) gr5
        have D5 := box_grown3 D3.out OW3.out (by decide) gr5
        have Q5 := box_grown3 Q3.out OW3.out (by decide) gr5
        rw [← mvc_app] at own5
        have ne1 : ∀ k, wr.heap.size ≤ k → D ≠ k := fun k hk => by have := HDL.out; omega
        have ne2 : D ≠ Q := by have := HQD.out; omega
        have D6 := D5.set_ 0 (.slice A5 (i + 1) c5)
        have X6 := X5.far (p := ⟨D, 0, none⟩) (ne1 _ (Nat.le_refl _)).symm (.slice A5 (i + 1) c5)
        have Y6 := Y5.far (p := ⟨D, 0, none⟩) (ne1 _ (Nat.le_of_lt wq.out)).symm (.slice A5 (i + 1) c5)
        have Q6 := Lib.hid (Q5.far (p := ⟨D, 0, none⟩) ne2.symm (.slice A5 (i + 1) c5))
        have OW6 := Lib.hid (own_setBox own5 D5 (by decide) 0 (.slice A5 (i + 1) c5))
        have BW6 := Lib.hid (BW5.out.setCell (p := ⟨D, 0, none⟩) (by show w.heap.size ≤ D; have := HQD.out; have := HQ.out; omega) (.slice A5 (i + 1) c5))
        have D6' := Lib.hid D6
        have f5 := D5.free 0; have dl5 := D5.lt
        have g0 := D5.cell 0; have g1 := D5.cell 1
        simp only [List.getElem?_toArray, List.getElem?_cons_zero, List.getElem?_cons_succ] at g0 g1
        have h0 := X6.cell 0; have h1 := X6.cell 1; have h2 := X6.cell 2
        simp only [List.getElem?_toArray, List.getElem?_cons_zero, List.getElem?_cons_succ] at h0 h1 h2
        have k0 := Y6.cell 0; have k1 := Y6.cell 1; have k2 := Y6.cell 2; have k3 := Y6.cell 3; have k4 := Y6.cell 4; have k5 := Y6.cell 5
        simp only [List.getElem?_toArray, List.getElem?_cons_zero, List.getElem?_cons_succ] at k0 k1 k2 k3 k4 k5
        clear own5 gr5 at5 X5 Y5 D5 Q5 ne1 ne2 D6 X6 Y6 X3 Y3 D3 Q3 OW3 BW3 x0 x1 x2 z0 z1 z2 z3 z4 z5 d0 d1
        go_wp2_with fail
        go_roundw
        case rel => exact ⟨i + 1, c5, _, A5, _, by go_num, by omega, rfl, HMS, BW6, Q6, D6', OW6⟩
        case measure => simp [intOf]; omega
      · obtain rfl : i = n := by omega
        have b0 := BD.out.cell 0; have b1 := BD.out.cell 1; have q0 := BX.out.cell 0; have q1 := BX.out.cell 1; have f0 := BX.out.free 0; have f1 := BX.out.free 1
        have ql := BX.out.lt; have dl := BD.out.lt
        simp only [List.getElem?_toArray, List.getElem?_cons_zero, List.getElem?_cons_succ] at b0 b1 q0 q1
        have ro := own_row _ OW.out
        go_wp2_with fail
        refine bodyPost_ret (v := .tuple #[.agg #[.slice A1 i c1, .int .i64 nl], .nilIface]) ?_ rfl ⟨A1, c1, ?_, ?_, ?_⟩
        · simp only [results, Try.results24]
          simp [go_sem, q0, q1]
        · rw [HL.out, HNL.out]
        · exact (BW.out.setCell (p := ⟨Q, 0, none⟩) (by show w.heap.size ≤ Q; rw [HQ.out]; exact Nat.le_refl _) _).setCell (p := ⟨Q, 1, none⟩) (by show w.heap.size ≤ Q; rw [HQ.out]; exact Nat.le_refl _) _
        · have hm := HM.out.1
          have hend : p.drop i = [] := List.drop_eq_nil_of_le (by rw [HL.out]; exact Nat.le_refl _)
          rw [hend] at hm
          have hm : M ++ [] = mvs T 0 p := hm
          rw [← hm, List.append_nil]
          exact own_row _ (own_setBox (own_setBox OW.out BX.out (by decide) 0 _) (BX.out.set_ 0 _) (by decide) 1 _)
end Go.Proofs.Ytolhjkpekmmajaa
/- The walk of anchor.Back. -/
namespace Go.Proofs.Ytolhjkpekmmajaa
set_option linter.unusedVariables false
set_option linter.unusedSimpArgs false
open Go.RowKit Go.Lib Go.Maps
attribute [local go_sem ↓] Go.wp_at_zero Go.wp_at_succ
theorem mvs_pre (T : List (List Int)) (p : List Cg) : ∀ i, i ≤ p.length → ∃ M, M ++ mvs T (up T p i - dn p i) (p.drop i) = mvs T 0 p ∧ M.length = i
  | 0, _ => ⟨[], by rw [up_zero, dn_zero]; rfl, rfl⟩
  | i + 1, h => by
    obtain ⟨M, h1, h2⟩ := mvs_pre T p i (by omega)
    have hc := List.getElem?_eq_getElem (show i < p.length by omega)
    rw [mvs_step T _ hc] at h1
    have us := up_succ T hc
    have ds := dn_succ hc
    refine ⟨M ++ [⟨p[i].ad, p[i].ad + p[i].n, p[i].ad + (up T p i - dn p i), p[i].ad + (up T p i - dn p i) + (tx T p[i].x).length⟩], ?_, by simp [h2]⟩
    rw [← h1, List.append_assoc, show up T p (i + 1) - dn p (i + 1) = up T p i - dn p i + ((tx T p[i].x).length - p[i].n) by omega]
    rfl
theorem mvs_get (T : List (List Int)) {p : List Cg} {i : Nat} {c : Cg} (hc : p[i]? = some c) :
    (mvs T 0 p)[i]? = some ⟨c.ad, c.ad + c.n, c.ad + (up T p i - dn p i), c.ad + (up T p i - dn p i) + (tx T c.x).length⟩ := by
  have hl := (List.getElem?_eq_some_iff.1 hc).1
  obtain ⟨M, h1, h2⟩ := mvs_pre T p i (by omega)
  rw [← h1, mvs_step T _ hc, List.getElem?_append_right (by omega), h2, Nat.sub_self]; rfl
/-- a place's place ahead of the moves, k of which begin at or ahead of it -/
def bkv (M : List Mv) (at_ : Int) : Nat → Int × Bool
  | 0 => (at_, true)
  | k + 1 => match M[k]? with
    | none => (0, false)
    | some m => if at_ < m.nt then (0, false) else (at_ - m.nt + m.t, true)
def BackOut (v : Int × Bool) (w : World) (e : Ending) (w' : World) : Prop := e = .returned (.tuple #[.int .i64 v.1, .bool v.2, .nilIface]) ∧ Below w.heap.size w w'
set_option maxRecDepth 100000 in
set_option maxHeartbeats 16000000 in
theorem back_any (L : List En) (T : List (List Int)) (hg : Good L T) (N : Nat) (p : List Cg) (n c : Nat) (A : Option Addr) (hl : p.length = n) (hn : n ≤ 100000) (hp : POk N L.length p) (hv : (N : Int) + up T p p.length ≤ 20000)
    (at_ : Int) (a0 : 0 ≤ at_) (a1 : at_ < newLen T N p) (k : Nat) (hk : k ≤ n) (f0 : ∀ (i : Nat) (m : Mv), (mvs T 0 p)[i]? = some m → i < k → m.nf ≤ at_) (f1 : ∀ (i : Nat) (m : Mv), (mvs T 0 p)[i]? = some m → k ≤ i → at_ < m.nf)
    (B S G : Nat) (w : World) (st : St w B S G L) (ha : RowAt w A (cgc p)) :
    Calls Try.prog 9 #[.pointer (some ⟨S, 0, none⟩), .int .i64 (N : Int), .slice A n c, .int .i64 at_] w (BackOut (bkv (mvs T 0 p) at_ k) w) := by
  have hmf : ∀ fn first cap w, (Instr.makeFunc fn first cap).run Try.prog w = .ok (.func fn first cap) w := fun _ _ _ _ => rfl
  have HPr := Lib.hid (fun w st ha => prep_any L T hg N p n c A hl hn hp hv B S G w st ha)
  have BA := Lib.hid (balloc (Below.refl w.heap.size w) (.cells #[.int .i64 at_] 3))
  have QX := Lib.hid (Box.new w 3 #[.int .i64 at_])
  have HS1 := Lib.hid (st.below BA.out)
  have HA1 := Lib.hid (ha.below BA.out (Nat.le_refl _))
  have up0 := up_pos T p p.length
  have dnb := dn_bound hp (show (0 : Int) ≤ (N : Int) by omega)
  have nlb : newLen T N p ≤ 20000 := by have := dnb p.length (Nat.le_refl _); unfold newLen; omega
  obtain ⟨nl, hnl⟩ : ∃ nl, nl = newLen T N p := ⟨_, rfl⟩
  obtain ⟨M, hM⟩ : ∃ M, M = mvs T 0 p := ⟨_, rfl⟩
  have hml : M.length = n := by rw [hM, mvs_len, hl]
  have hmb : ∀ (i : Nat) (m : Mv), M[i]? = some m → 0 ≤ m.t ∧ m.t ≤ 100000 ∧ 0 ≤ m.nt ∧ m.nt ≤ 100000 := by
    intro i m hm
    have hil : i < p.length := by have := (List.getElem?_eq_some_iff.1 hm).1; omega
    have hc := List.getElem?_eq_getElem hil
    obtain ⟨k1, k2, k3, k4, x0, x1, k7⟩ := hp i _ hc
    rw [hM, mvs_get T hc] at hm
    injection hm with hm
    subst hm
    have us := up_succ T hc
    have d1 := dnb i (by omega); have u0 := up_pos T p i; have u1 := up_mono T p (show i + 1 ≤ p.length by omega)
    by_cases hi0 : i = 0
    · subst hi0; have z1 := dn_zero p; have z2 := up_zero T p; simp only; omega
    · have := d1.2.1 hi0; simp only; omega
  have HL := Lib.hid hl; have HML := Lib.hid hml; have HMB := Lib.hid hmb
  rw [← hnl] at a1 nlb
  rw [← hM] at f0 f1 ⊢
  have HN := Lib.hid hnl.symm; have HMM := Lib.hid hM.symm
  have F0 := Lib.hid f0; have F1 := Lib.hid f1
  obtain ⟨Q, hQ⟩ : ∃ Q, Q = w.heap.size := ⟨_, rfl⟩
  rw [← hQ] at QX
  have HQ := Lib.hid hQ.symm
  clear hg st ha hp hv up0 dnb hml hmb hnl hM f0 f1 hl hQ
  go_enter Try.func9, Try.ntmps9
  go_wp2_with fail
  rw [HQ.out]
  (with_reducible refine (HPr.out _ HS1.out HA1.out).mono ?_)
  rintro e w1 ⟨A1, c1, rfl, B1, R1⟩
  rw [HL.out, HN.out]
  rw [HMM.out] at R1
  have BW := Lib.hid (balloc (bkeep BA.out B1) (.cells #[.slice A1 n c1, .int .i64 nl] 84))
  have P2 := Box.new w1 84 #[.slice A1 n c1, .int .i64 nl]
  have Q2 := (QX.out.below B1 QX.out.lt).alloc (.cells #[.slice A1 n c1, .int .i64 nl] 84)
  have R2 := R1.below (balloc (Below.refl w1.heap.size w1) (.cells #[.slice A1 n c1, .int .i64 nl] 84)) (Nat.le_refl _)
  obtain ⟨w2, hw2⟩ : ∃ w2, w2 = w1.alloc (.cells #[.slice A1 n c1, .int .i64 nl] 84) := ⟨_, rfl⟩
  obtain ⟨P, hP⟩ : ∃ P, P = w1.heap.size := ⟨_, rfl⟩
  rw [← hw2] at BW P2 Q2 R2
  rw [← hP] at P2
  have HW2 := Lib.hid hw2.symm; have HPP := Lib.hid hP.symm
  have HP2 := Lib.hid P2; have HQ2 := Lib.hid Q2; have HR2 := Lib.hid R2
  have HSr := Lib.hid (search_any (some ⟨P, 0, none⟩) (some ⟨Q, 0, none⟩) n k hn hk (fun i => match M[i]? with | some m => decide (at_ < m.nf) | none => false)
    (fun i hi => by
      have hil : i < M.length := by rw [HML.out]; omega
      have hm := List.getElem?_eq_getElem hil
      simp only [hm]
      have := F0.out i _ hm hi
      simp; omega)
    (fun i h1 h2 => by
      have hil : i < M.length := by rw [HML.out]; omega
      have hm := List.getElem?_eq_getElem hil
      simp only [hm]
      have := F1.out i _ hm h1
      simp; omega) w2
    (fun i hi j => by
      have hil : i < M.length := by rw [HML.out]; omega
      have hm := List.getElem?_eq_getElem hil
      simp only [hm]
      exact back1_any P Q n c1 i A1 M HML.out hn hi nl at_ _ hm (w2.drewN j) (HP2.out.drewN j) (HR2.out.drewN j) (HQ2.out.drewN j)))
  have p0 := P2.cell 0; have p1 := P2.cell 1; have q0 := Q2.cell 0
  simp only [List.getElem?_toArray, List.getElem?_cons_zero, List.getElem?_cons_succ] at p0 p1 q0
  have pl := P2.lt; have ql := Q2.lt
  have t0 : decide (at_ < 0) = false := by simp; omega
  have t1 : decide (at_ < nl) = true := by simp; omega
  have t2 : decide (nl ≤ at_) = false := by simp; omega
  clear hw2 hP P2 Q2 R2 R1 B1 BA QX HS1 HA1 HPr F0 F1
  go_upto_region 4 with fail
  rw [HW2.out, HPP.out]
  cases k with
  | zero =>
    go_wp2_with fail
    (with_reducible refine HSr.out.mono ?_)
    rintro e w3 ⟨rfl, m3, rfl⟩
    go_wp2_with fail
    go_ret3
    exact ⟨rfl, below_drewN BW.out m3⟩
  | succ k =>
    have hkl : k < M.length := by rw [HML.out]; omega
    have hm := List.getElem?_eq_getElem hkl
    obtain ⟨m, hmm⟩ : ∃ m, m = M[k] := ⟨_, rfl⟩
    rw [← hmm] at hm
    obtain ⟨b1, b2, b3, b4⟩ := HMB.out k m hm
    have eb : bkv M at_ (k + 1) = if at_ < m.nt then (0, false) else (at_ - m.nt + m.t, true) := by unfold bkv; simp only [hm]
    have EB := Lib.hid eb
    have kn : k < n := by omega
    have HMK := Lib.hid hm
    have t3 : (((k + 1 : Nat) : Int) == 0) = false := by rw [beq_eq_false_iff_ne]; omega
    have t4 : ((k + 1 : Nat) : Int) - 1 = (k : Int) := by omega
    have T4 := Lib.hid t4
    clear hmm eb hm hkl t4
    go_wp2_with fail
    (with_reducible refine HSr.out.mono ?_)
    rintro e w3 ⟨rfl, m3, hw3⟩
    have R3 : RowAt w3 A1 (mvc M) := by rw [hw3]; exact HR2.out.drewN m3
    have BWd : Below w.heap.size w w3 := by rw [hw3]; exact below_drewN BW.out m3
    replace p0 : w3.cell? ⟨P, 0, none⟩ = some (.slice A1 n c1) := by rw [hw3]; exact p0
    replace q0 : w3.cell? ⟨Q, 0, none⟩ = some (.int .i64 at_) := by rw [hw3]; exact q0
    replace pl : P < w3.heap.size := by rw [hw3]; exact pl
    replace ql : Q < w3.heap.size := by rw [hw3]; exact ql
    obtain ⟨ad, rfl, adl, c0, c1, c2, c3⟩ := row_mv R3 HMK.out
    obtain ⟨mf, mt, mnf, mnt⟩ := m
    simp only at c0 c1 c2 c3 b1 b2 b3 b4 EB
    have BW3 := Lib.hid (balloc BWd (.cells #[.int .i64 mf, .int .i64 mt, .int .i64 mnf, .int .i64 mnt] 89))
    clear hw3 R3 BWd p1
    by_cases hat : at_ < mnt
    · have t5 : decide (at_ < mnt) = true := by simp; omega
      have EB' : Hid (bkv M at_ (k + 1) = (0, false)) := Lib.hid (by rw [EB.out, if_pos hat])
      go_wp2_with fail
      go_ret3
      rw [EB'.out]
      exact ⟨rfl, BW3.out⟩
    · have t5 : decide (at_ < mnt) = false := by simp; omega
      have EB' : Hid (bkv M at_ (k + 1) = (at_ - mnt + mt, true)) := Lib.hid (by rw [EB.out, if_neg hat])
      go_wp2_with fail
      go_ret3
      rw [EB'.out]
      exact ⟨rfl, BW3.out⟩
end Go.Proofs.Ytolhjkpekmmajaa
/- The walk of blame.At. -/
namespace Go.Proofs.Ytolhjkpekmmajaa
set_option linter.unusedVariables false
set_option linter.unusedSimpArgs false
open Go.RowKit Go.Lib Go.Maps
attribute [local go_sem ↓] Go.wp_at_zero Go.wp_at_succ
theorem rwc_get {p : List Rw} {i j : Nat} {c : Rw} {u : Value} (h : p[i]? = some c) (hu : c.cells[j]? = some u) : (rwc p)[i * 4 + j]? = some u := by
  induction p generalizing i with
  | nil => simp at h
  | cons a p ih =>
    have hj : j < 4 := (List.getElem?_eq_some_iff.1 hu).1
    show (a.cells ++ rwc p)[i * 4 + j]? = some u
    match i with
    | 0 =>
      simp at h; subst h
      rw [List.getElem?_append_left (by simp [Rw.cells]; omega), Nat.zero_mul, Nat.zero_add]; exact hu
    | i + 1 =>
      simp at h
      rw [List.getElem?_append_right (by simp [Rw.cells]; omega), show a.cells.length = 4 from rfl, show (i + 1) * 4 + j - 4 = i * 4 + j by omega]
      exact ih h
theorem row_rw {w : World} {A : Option Addr} {p : List Rw} {i : Nat} {c : Rw} (h : RowAt w A (rwc p)) (hc : p[i]? = some c) :
    ∃ ad, A = some ad ∧ (ad.add (i * 4)).block < w.heap.size ∧ w.cell? (ad.add (i * 4)) = some (.int .i64 c.fr) ∧ w.cell? ⟨(ad.add (i * 4)).block, (ad.add (i * 4)).off + 1, none⟩ = some (.int .i64 c.n) ∧ w.cell? ⟨(ad.add (i * 4)).block, (ad.add (i * 4)).off + 2, none⟩ = some (.int .i64 c.v) ∧ w.cell? ⟨(ad.add (i * 4)).block, (ad.add (i * 4)).off + 3, none⟩ = some (.int .i64 c.o) := by
  obtain ⟨ad, e, hl, c0⟩ := h.get (rwc_get (j := 0) hc rfl)
  have key : ∀ j u, c.cells[j + 1]? = some u → w.cell? ⟨(ad.add (i * 4)).block, (ad.add (i * 4)).off + (j + 1), none⟩ = some u := by
    intro j u hu
    obtain ⟨a2, e2, _, k⟩ := h.get (rwc_get (j := j + 1) hc hu)
    rw [e] at e2; cases e2
    rw [← add_add_, add_succ_] at k
    exact k
  exact ⟨ad, e, by rw [block_add]; exact hl, c0, key 0 _ rfl, key 1 _ rfl, key 2 _ rfl⟩
def AtOut (r : Rw) (w : World) (e : Ending) (w' : World) : Prop := e = .returned (.tuple #[.agg #[.int .i64 r.fr, .int .i64 r.n, .int .i64 r.v, .int .i64 r.o], .bool true]) ∧ Below w.heap.size w w'
set_option maxRecDepth 100000 in
set_option maxHeartbeats 16000000 in
theorem bat_any (R : List Rw) (n c : Nat) (A : Option Addr) (hl : R.length = n) (hn : n ≤ 100000) (at_ : Int) (a0 : 0 ≤ at_) (a1 : at_ ≤ 100000) (k : Nat) (r : Rw) (hr : R[k]? = some r) (h1 : r.fr ≤ at_) (h2 : at_ < r.fr + r.n)
    (hb : ∀ (i : Nat) (x : Rw), R[i]? = some x → 0 ≤ x.fr ∧ 1 ≤ x.n ∧ x.n ≤ 100000) (hlo : ∀ (i : Nat) (x : Rw), i < k → R[i]? = some x → x.fr + x.n ≤ at_) (w : World) (ha : RowAt w A (rwc R)) :
    Calls Try.prog 10 #[.slice A n c, .int .i64 at_] w (AtOut r w) := by
  have HL := Lib.hid hl; have HR := Lib.hid hr; have HB := Lib.hid hb; have HLO := Lib.hid hlo; have HA := Lib.hid ha
  have H12 := Lib.hid (And.intro h1 h2)
  have BA := Lib.hid (balloc (Below.refl w.heap.size w) (.cells #[.int .i64 0, .int .i64 0, .int .i64 0, .int .i64 0] 42))
  have BX := Lib.hid (Box.new w 42 #[.int .i64 0, .int .i64 0, .int .i64 0, .int .i64 0])
  have hk : k < n := by have := (List.getElem?_eq_some_iff.1 hr).1; omega
  obtain ⟨Q, hQ⟩ : ∃ Q, Q = w.heap.size := ⟨_, rfl⟩
  rw [← hQ] at BX
  have HQ := Lib.hid hQ.symm
  clear hl hr hb hlo ha h1 h2 hQ
  go_enter Try.func10, Try.ntmps10
  go_wp2_with fail
  rw [HQ.out]
  go_loopw [7, 10] (fun _ si wr => ∃ (i : Nat), si = .int .i64 (i : Int) ∧ i ≤ k ∧ Hid (Below w.heap.size w wr) ∧ Hid (Box wr Q 42 #[.int .i64 0, .int .i64 0, .int .i64 0, .int .i64 0])) (fun _ si _ => n - (intOf si).toNat)
  case atStart => exact ⟨0, rfl, by omega, BA, BX⟩
  case round =>
    clear BA BX
    obtain ⟨i, rfl, hi, BW, BX⟩ := hrel
    have hlt : i < n := by omega
    have hil : i < R.length := by rw [HL.out]; exact hlt
    have hc := List.getElem?_eq_getElem hil
    obtain ⟨x, hx⟩ : ∃ x, x = R[i] := ⟨_, rfl⟩
    rw [← hx] at hc
    obtain ⟨b1, b2, b3⟩ := HB.out i x hc
    obtain ⟨ad, rfl, adl, c0, c1, c2, c3⟩ := row_rw (HA.out.below BW.out (Nat.le_refl _)) hc
    by_cases hik : i < k
    · have hlo := HLO.out i x hik hc
      obtain ⟨xf, xn, xv, xo⟩ := x
      simp only at b1 b2 b3 c0 c1 c2 c3 hlo
      have t1 : decide (0 < xn) = true := by simp; omega
      have t2 : decide (xf ≤ at_) = true := by simp; omega
      have t3 : decide (at_ - xf < xn) = false := by simp; omega
      have BW2 := Lib.hid (balloc BW.out (.cells #[.int .i64 xf, .int .i64 xn, .int .i64 xv, .int .i64 xo] 42))
      have BX2 := Lib.hid (BX.out.alloc (.cells #[.int .i64 xf, .int .i64 xn, .int .i64 xv, .int .i64 xo] 42))
      have u1 : IntKind.u64.wrap at_ = at_ := IntWalk.u64_in _ ⟨by omega, by omega⟩
      have u2 : IntKind.u64.wrap xf = xf := IntWalk.u64_in _ ⟨by omega, by omega⟩
      have u3 : IntKind.u64.wrap xn = xn := IntWalk.u64_in _ ⟨by omega, by omega⟩
      have u4 : IntKind.u64.wrap (at_ - xf) = at_ - xf := IntWalk.u64_in _ ⟨by omega, by omega⟩
      clear hlo hc hx
      go_wp2_with fail
      go_roundw
      case rel => exact ⟨i + 1, by go_num, by omega, BW2, BX2⟩
      case measure => simp [intOf]; omega
    · obtain rfl : i = k := by omega
      have e := hc.symm.trans HR.out
      injection e with e
      have h12 := H12.out
      rw [← e] at h12
      have HE := Lib.hid e
      have q0 := BX.out.cell 0; have q1 := BX.out.cell 1; have q2 := BX.out.cell 2; have q3 := BX.out.cell 3
      have f0 := BX.out.free 0; have f1 := BX.out.free 1; have f2 := BX.out.free 2; have f3 := BX.out.free 3
      have ql := BX.out.lt
      simp only [List.getElem?_toArray, List.getElem?_cons_zero, List.getElem?_cons_succ] at q0 q1 q2 q3
      clear e hx hc
      obtain ⟨xf, xn, xv, xo⟩ := x
      simp only at b1 b2 b3 c0 c1 c2 c3 h12
      obtain ⟨h1, h2⟩ := h12
      have t1 : decide (0 < xn) = true := by simp; omega
      have t2 : decide (xf ≤ at_) = true := by simp; omega
      have t3 : decide (at_ - xf < xn) = true := by simp; omega
      have u1 : IntKind.u64.wrap at_ = at_ := IntWalk.u64_in _ ⟨by omega, by omega⟩
      have u2 : IntKind.u64.wrap xf = xf := IntWalk.u64_in _ ⟨by omega, by omega⟩
      have u3 : IntKind.u64.wrap xn = xn := IntWalk.u64_in _ ⟨by omega, by omega⟩
      have u4 : IntKind.u64.wrap (at_ - xf) = at_ - xf := IntWalk.u64_in _ ⟨by omega, by omega⟩
      go_wp2_with fail
      refine bodyPost_ret (v := .tuple #[.agg #[.int .i64 xf, .int .i64 xn, .int .i64 xv, .int .i64 xo], .bool true]) ?_ rfl ⟨?_, ?_⟩
      · have E := ((((BX.out.set_ 0 (.int .i64 xf)).set_ 1 (.int .i64 xn)).set_ 2 (.int .i64 xv)).set_ 3 (.int .i64 xo)).alloc (.cells #[.int .i64 xf, .int .i64 xn, .int .i64 xv, .int .i64 xo] 42)
        have e0 := E.cell 0; have e1 := E.cell 1; have e2 := E.cell 2; have e3 := E.cell 3
        simp only [Array.getElem?_setIfInBounds] at e0 e1 e2 e3
        simp at e0 e1 e2 e3
        simp only [results, Try.results10]
        simp [go_sem, e0, e1, e2, e3]
      · rw [← HE.out]
      · have g : w.heap.size ≤ Q := by rw [HQ.out]; exact Nat.le_refl _
        refine Below.alloc ?_ ?_ _
        · exact (((BW.out.setCell (p := ⟨Q, 0, none⟩) g _).setCell (p := ⟨Q, 1, none⟩) g _).setCell (p := ⟨Q, 2, none⟩) g _).setCell (p := ⟨Q, 3, none⟩) g _
        · have := BW.out.size; simp; exact this
end Go.Proofs.Ytolhjkpekmmajaa
/- Blame, plainly: what stands at a place of a new text, and where it stood before. -/
namespace Go.Proofs.Ytolhjkpekmmajaa
set_option linter.unusedVariables false
set_option linter.unusedSimpArgs false
open Go.RowKit Go.Lib
/-- changes in order, from an offset on -/
def Ordd (N : Nat) : Nat → List Cg → Prop
  | f, [] => f ≤ N
  | f, c :: p => f ≤ N ∧ (f : Int) ≤ c.ad ∧ 0 ≤ c.n ∧ c.ad + c.n ≤ N ∧ Ordd N (c.ad + c.n).toNat p
theorem Ordd.le {N f : Nat} {p : List Cg} (h : Ordd N f p) : f ≤ N := by
  cases p with
  | nil => exact h
  | cons c p => exact h.1
theorem pok_ordd_at {N : Nat} {M : Int} {p : List Cg} (h : POk N M p) : ∀ m i, p.length - i = m → ∀ f : Nat, (f : Int) = (if i = 0 then 0 else lst p i) → f ≤ N → Ordd N f (p.drop i)
  | 0, i, hm, f, hf, hN => by rw [List.drop_eq_nil_of_le (by omega)]; exact hN
  | m + 1, i, hm, f, hf, hN => by
    have hil : i < p.length := by omega
    have hc := List.getElem?_eq_getElem hil
    obtain ⟨k1, k2, k3, k4, _⟩ := h i _ hc
    have hl := lst_succ hc
    rw [List.drop_eq_getElem_cons hil]
    refine ⟨hN, ?_, k3, k4, pok_ordd_at h m (i + 1) (by omega) _ ?_ (by omega)⟩
    · rw [hf]; split
      · exact k2
      · omega
    · rw [if_neg (by omega), hl]; omega
theorem pok_ordd {N : Nat} {M : Int} {p : List Cg} (h : POk N M p) : Ordd N 0 p := pok_ordd_at h p.length 0 rfl 0 rfl (Nat.zero_le _)
/-- what changes make of a row of letters -/
def gsp {α : Type} (X : List α) (il : Cg → Nat) (ins : Cg → Nat → List α) : List Cg → Nat → Nat → List α
  | [], f, _ => X.drop f
  | c :: p, f, q => (X.drop f).take (c.ad.toNat - f) ++ (ins c (q + (c.ad.toNat - f)) ++ gsp X il ins p (c.ad + c.n).toNat (q + (c.ad.toNat - f) + il c))
theorem gsp_cons {α : Type} (X : List α) (il : Cg → Nat) (ins : Cg → Nat → List α) (c : Cg) (p : List Cg) (f q : Nat) : gsp X il ins (c :: p) f q = (X.drop f).take (c.ad.toNat - f) ++ (ins c (q + (c.ad.toNat - f)) ++ gsp X il ins p (c.ad + c.n).toNat (q + (c.ad.toNat - f) + il c)) := rfl
/-- where a letter stood before -/
def bkr (il : Cg → Nat) : List Cg → Int → Int → Option Int
  | [], s, a => some (a - s)
  | c :: p, s, a => if a < c.ad + s then some (a - s) else if a < c.ad + s + il c then none else bkr il p (s + (il c - c.n)) a
theorem gsp_get {α : Type} {X : List α} {il : Cg → Nat} {ins : Cg → Nat → List α} (hil : ∀ c q, (ins c q).length = il c) (Pn : Nat → Option α → Prop) (hPn : ∀ c q j, j < il c → Pn (q + j) ((ins c q)[j]?)) {N : Nat} (hX : X.length = N) :
    ∀ (p : List Cg) (f q : Nat) (s : Int), Ordd N f p → (q : Int) = f + s → ∀ a : Nat, q ≤ a →
      (∀ b, bkr il p s a = some b → (f : Int) ≤ b ∧ (gsp X il ins p f q)[a - q]? = X[b.toNat]?) ∧ (bkr il p s a = none → Pn a ((gsp X il ins p f q)[a - q]?))
  | [], f, q, s, ho, hq, a, ha => by
    refine ⟨fun b hb => ?_, fun h => nomatch h⟩
    have hb : some ((a : Int) - s) = some b := hb
    injection hb with hb
    subst hb
    refine ⟨by omega, ?_⟩
    show (X.drop f)[a - q]? = _
    rw [List.getElem?_drop]; congr 1; omega
  | c :: p, f, q, s, ho, hq, a, ha => by
    obtain ⟨h0, h1, h2, h3, h4⟩ := ho
    obtain ⟨t, ht⟩ : ∃ t : Nat, c.ad = (t : Int) := ⟨c.ad.toNat, by omega⟩
    have htn : c.ad.toNat = t := by omega
    have lt1 : ((X.drop f).take (t - f)).length = t - f := by rw [List.length_take, List.length_drop, hX]; omega
    have li := hil c (q + (t - f))
    unfold bkr gsp
    rw [htn]
    by_cases c1 : (a : Int) < c.ad + s
    · rw [if_pos c1]
      refine ⟨fun b hb => ?_, fun h => nomatch h⟩
      injection hb with hb
      subst hb
      refine ⟨by omega, ?_⟩
      rw [List.getElem?_append_left (by rw [lt1]; omega), List.getElem?_take, if_pos (by omega), List.getElem?_drop]
      congr 1; omega
    · rw [if_neg c1]
      by_cases c2 : (a : Int) < c.ad + s + il c
      · rw [if_pos c2]
        refine ⟨fun b hb => (nomatch hb), fun _ => ?_⟩
        rw [List.getElem?_append_right (by rw [lt1]; omega), lt1, List.getElem?_append_left (by rw [li]; omega)]
        have := hPn c (q + (t - f)) (a - q - (t - f)) (by omega)
        rw [show q + (t - f) + (a - q - (t - f)) = a by omega] at this
        exact this
      · rw [if_neg c2]
        have ih := gsp_get hil Pn hPn hX p (c.ad + c.n).toNat (q + (t - f) + il c) (s + (il c - c.n)) h4 (by omega) a (by omega)
        rw [List.getElem?_append_right (by rw [lt1]; omega), lt1, List.getElem?_append_right (by rw [li]; omega), li, show a - q - (t - f) - il c = a - (q + (t - f) + il c) by omega]
        exact ⟨fun b hb => ⟨by have := (ih.1 b hb).1; omega, (ih.1 b hb).2⟩, ih.2⟩
/-- the letters that a change puts in -/
def ilT (T : List (List Int)) (c : Cg) : Nat := (tx T c.x).length
theorem splice_gsp (T : List (List Int)) (t : List Int) : ∀ (p : List Cg) (f q : Nat), (∀ c ∈ p, 0 ≤ c.ad ∧ 0 ≤ c.n) → sp0 t f (qs T p) ++ t.drop (endQ f (qs T p)) = gsp t (ilT T) (fun c _ => tx T c.x) p f q
  | [], f, q, _ => by simp [qs, sp0, endQ, gsp]
  | c :: p, f, q, h => by
    have h1 := h c (by simp)
    have ih := splice_gsp T t p (c.ad + c.n).toNat (q + (c.ad.toNat - f) + ilT T c) (fun d hd => h d (by simp [hd]))
    show ((t.drop f).take (c.ad.toNat - f) ++ (tx T c.x ++ sp0 t (c.ad.toNat + c.n.toNat) (qs T p))) ++ t.drop (endQ (c.ad.toNat + c.n.toNat) (qs T p)) = _ ++ (_ ++ _)
    rw [← ih, show (c.ad + c.n).toNat = c.ad.toNat + c.n.toNat by omega]
    simp
theorem pt_ltr {T : List (List Int)} {ver : Int} {N : Nat} (hN : N ≤ 1000000) {X : List (Int × Int)} (hX : X.length = N) : ∀ (p : List Cg) (f a : Nat) (st : List Rw × Int) (rs : List Rw), Ordd N f p → Whole st → Cont a rs N → a ≤ f → (ltr rs).drop (f - a) = X.drop f →
    Whole (pt T ver p f st rs) ∧ ltr (pt T ver p f st rs).1 = ltr st.1 ++ gsp X (ilT T) (fun c q => seg (ilT T c) ver q) p f st.2.toNat
  | [], f, a, st, rs, ho, hw, hc, haf, hx => by
    have hf := ho.le
    obtain ⟨k1, k2, _⟩ := kp_ltr f 9223372036854775807 N (by omega) rs a st hc (by omega) hw
    refine ⟨k1, k2.trans ?_⟩
    show _ = ltr st.1 ++ X.drop f
    rw [hx, List.take_of_length_le (by rw [List.length_drop, hX]; omega)]
  | c :: p, f, a, st, rs, ho, hw, hc, haf, hx => by
    obtain ⟨h0, h1, h2, h3, h4⟩ := ho
    obtain ⟨t, ht⟩ : ∃ t : Nat, c.ad = (t : Int) := ⟨c.ad.toNat, by omega⟩
    obtain ⟨g, hg⟩ : ∃ g : Nat, c.ad + c.n = (g : Int) := ⟨(c.ad + c.n).toNat, by omega⟩
    have htn : c.ad.toNat = t := by omega
    have hgn : (c.ad + c.n).toNat = g := by omega
    rw [hgn] at h4
    obtain ⟨k1, k2, a', k3, k4, k5⟩ := kp_ltr f t N (by omega) rs a st hc (by omega) hw
    rw [← ht] at k1 k2 k3 k5
    rw [show max f a = f by omega, hx] at k2
    obtain ⟨m1, m2⟩ := whole_add k1 (n := (tx T c.x).length) ver (kp f c.ad rs st).1.2
    have lt1 : ((X.drop f).take (t - f)).length = t - f := by rw [List.length_take, List.length_drop, hX]; omega
    have e1 := k1.len
    have e0 := hw.len
    rw [k2, List.length_append, lt1] at e1
    have hw2 := hw.2
    have e2 := m1.len
    rw [m2, k2, List.length_append, List.length_append, lt1, seg_len] at e2
    have ih := pt_ltr (T := T) (ver := ver) hN hX p g a' (blAdd (kp f c.ad rs st).1 (tx T c.x).length ver (kp f c.ad rs st).1.2) (kp f c.ad rs st).2 h4 m1 k3 (by omega) (by
      rw [k5 g (by omega)]
      have := congrArg (List.drop (g - f)) hx
      rw [List.drop_drop, List.drop_drop] at this
      rw [show g - a = f - a + (g - f) by omega, this]; congr 1; omega)
    have hpt : pt T ver (c :: p) f st rs = pt T ver p (c.ad + c.n) (blAdd (kp f c.ad rs st).1 (tx T c.x).length ver (kp f c.ad rs st).1.2) (kp f c.ad rs st).2 := rfl
    rw [hpt, hg]
    refine ⟨ih.1, ih.2.trans ?_⟩
    rw [m2, k2, gsp_cons, htn, hgn]
    simp only [List.append_assoc]
    have q1 : st.2.toNat + (t - f) = (kp f c.ad rs st).1.2.toNat := by omega
    have q2 : (blAdd (kp f c.ad rs st).1 (tx T c.x).length ver (kp f c.ad rs st).1.2).2.toNat = st.2.toNat + (t - f) + ilT T c := by unfold ilT; omega
    rw [q2]
    have q3 : ((st.2.toNat + (t - f) : Nat) : Int) = (kp f c.ad rs st).1.2 := by omega
    rw [q3]; rfl
theorem mvs_lo (T : List (List Int)) {N : Nat} : ∀ (p : List Cg) (f : Nat) (s : Int), Ordd N f p → ∀ (i : Nat) (m : Mv), (mvs T s p)[i]? = some m → (f : Int) + s ≤ m.nf
  | [], f, s, _, i, m, h => by simp [mvs] at h
  | c :: p, f, s, ho, i, m, h => by
    obtain ⟨h0, h1, h2, h3, h4⟩ := ho
    match i with
    | 0 => simp [mvs] at h; subst h; simp only; omega
    | i + 1 =>
      have := mvs_lo T p _ (s + ((tx T c.x).length - c.n)) h4 i m (by simpa [mvs] using h)
      omega
theorem bk_ex (T : List (List Int)) {N : Nat} (a : Int) : ∀ (p : List Cg) (f : Nat) (s : Int), Ordd N f p → ∃ k, k ≤ p.length ∧ (∀ (i : Nat) (m : Mv), (mvs T s p)[i]? = some m → i < k → m.nf ≤ a) ∧ (∀ (i : Nat) (m : Mv), (mvs T s p)[i]? = some m → k ≤ i → a < m.nf) ∧
      ((k = 0 ∧ bkr (ilT T) p s a = some (a - s)) ∨ ∃ j m, k = j + 1 ∧ (mvs T s p)[j]? = some m ∧ bkr (ilT T) p s a = if a < m.nt then none else some (a - m.nt + m.t))
  | [], f, s, _ => ⟨0, Nat.le_refl _, fun i m h => by simp [mvs] at h, fun i m h => by simp [mvs] at h, .inl ⟨rfl, rfl⟩⟩
  | c :: p, f, s, ho => by
    obtain ⟨h0, h1, h2, h3, h4⟩ := ho
    have lo := mvs_lo T p _ (s + ((tx T c.x).length - c.n)) h4
    have e : ((c.ad + c.n).toNat : Int) + (s + ((tx T c.x).length - c.n)) = c.ad + s + ilT T c := by unfold ilT; omega
    have m0 : (mvs T s (c :: p))[0]? = some ⟨c.ad, c.ad + c.n, c.ad + s, c.ad + s + (tx T c.x).length⟩ := rfl
    have ms : ∀ i, (mvs T s (c :: p))[i + 1]? = (mvs T (s + ((tx T c.x).length - c.n)) p)[i]? := fun i => rfl
    unfold bkr
    by_cases c1 : a < c.ad + s
    · refine ⟨0, Nat.zero_le _, fun i m _ h => by omega, fun i m h _ => ?_, .inl ⟨rfl, by rw [if_pos c1]⟩⟩
      match i with
      | 0 => rw [m0] at h; injection h with h; subst h; exact c1
      | i + 1 => rw [ms] at h; have := lo i m h; omega
    · rw [if_neg c1]
      by_cases c2 : a < c.ad + s + ilT T c
      · rw [if_pos c2]
        refine ⟨1, by simp, fun i m h hi => ?_, fun i m h hi => ?_, .inr ⟨0, _, rfl, m0, ?_⟩⟩
        · obtain rfl : i = 0 := by omega
          rw [m0] at h; injection h with h; subst h; simp only; omega
        · match i, hi with
          | i + 1, _ => rw [ms] at h; have := lo i m h; omega
        · rw [if_pos]; exact c2
      · rw [if_neg c2]
        obtain ⟨k, k1, k2, k3, k4⟩ := bk_ex T a p _ (s + ((tx T c.x).length - c.n)) h4
        refine ⟨k + 1, by simp; exact k1, fun i m h hi => ?_, fun i m h hi => ?_, .inr ?_⟩
        · match i with
          | 0 => rw [m0] at h; injection h with h; subst h; simp only; omega
          | i + 1 => rw [ms] at h; exact k2 i m h (by omega)
        · match i, hi with
          | i + 1, hi => rw [ms] at h; exact k3 i m h (by omega)
        · rcases k4 with ⟨rfl, k4⟩ | ⟨j, m, rfl, k4, k5⟩
          · refine ⟨0, _, rfl, m0, ?_⟩
            rw [if_neg (by exact c2)]
            refine k4.trans ?_
            congr 1; simp only; omega
          · exact ⟨j + 1, m, rfl, by rw [ms]; exact k4, k5⟩
theorem bkv_ex (T : List (List Int)) {N : Nat} {p : List Cg} (ho : Ordd N 0 p) (a : Int) : ∃ k, k ≤ p.length ∧ (∀ (i : Nat) (m : Mv), (mvs T 0 p)[i]? = some m → i < k → m.nf ≤ a) ∧ (∀ (i : Nat) (m : Mv), (mvs T 0 p)[i]? = some m → k ≤ i → a < m.nf) ∧
    bkv (mvs T 0 p) a k = (match bkr (ilT T) p 0 a with | some b => (b, true) | none => (0, false)) := by
  obtain ⟨k, k1, k2, k3, k4⟩ := bk_ex T a p 0 0 ho
  refine ⟨k, k1, k2, k3, ?_⟩
  rcases k4 with ⟨rfl, k4⟩ | ⟨j, m, rfl, k4, k5⟩
  · rw [k4]; simp [bkv]
  · unfold bkv; simp only [k4, k5]
    split <;> rfl
end Go.Proofs.Ytolhjkpekmmajaa
/- Blame over all versions, plainly. -/
namespace Go.Proofs.Ytolhjkpekmmajaa
set_option linter.unusedVariables false
set_option linter.unusedSimpArgs false
open Go.RowKit Go.Lib
theorem bi_inj {a b : ByteArray} (h : bi a = bi b) : a = b := by
  obtain ⟨a⟩ := a; obtain ⟨b⟩ := b
  congr 1
  apply Array.ext'
  refine (List.map_inj_right fun x y e => ?_).1 h
  exact UInt8.toNat_inj.1 (by have e : (x.toNat : Int) = (y.toNat : Int) := e; omega)
theorem dn_cons (c : Cg) (p : List Cg) : dn (c :: p) (c :: p).length = c.n + dn p p.length := by
  unfold dn; rw [List.take_length, List.take_length, List.map_cons, sumL_cons]
theorem up_cons (T : List (List Int)) (c : Cg) (p : List Cg) : up T (c :: p) (c :: p).length = (tx T c.x).length + up T p p.length := by
  unfold up; rw [List.take_length, List.take_length, List.map_cons, sumL_cons]
theorem gsp_len (T : List (List Int)) {α : Type} {X : List α} {ins : Cg → Nat → List α} (hil : ∀ c q, (ins c q).length = ilT T c) {N : Nat} (hX : X.length = N) :
    ∀ (p : List Cg) (f q : Nat), Ordd N f p → ((gsp X (ilT T) ins p f q).length : Int) = N - f - dn p p.length + up T p p.length
  | [], f, q, ho => by
    have := ho.le
    show ((X.drop f).length : Int) = _
    rw [List.length_drop, hX]
    have e1 : dn [] ([] : List Cg).length = 0 := rfl
    have e2 : up T [] ([] : List Cg).length = 0 := rfl
    rw [e1, e2]; omega
  | c :: p, f, q, ho => by
    obtain ⟨h0, h1, h2, h3, h4⟩ := ho
    have ih := gsp_len T hil hX p (c.ad + c.n).toNat (q + (c.ad.toNat - f) + ilT T c) h4
    rw [gsp_cons, List.length_append, List.length_append, hil, List.length_take, List.length_drop, hX, dn_cons, up_cons]
    have : ilT T c = (tx T c.x).length := rfl
    omega
/-- the versions and the patches between them -/
structure VOk (T : List (List Int)) (M : Int) (ps : List (List Cg)) (vs : Nat → List Int) : Prop where
  h0 : (vs 0).length ≤ 20000
  ok : ∀ v, v < ps.length → POk (vs v).length M (ps.getD v []) ∧ ((vs v).length : Int) + up T (ps.getD v []) (ps.getD v []).length ≤ 20000
  nx : ∀ v, v < ps.length → vs (v + 1) = splice (vs v) (qs T (ps.getD v []))
theorem POk.pos {N M : Int} {p : List Cg} (h : POk N M p) : ∀ c ∈ p, 0 ≤ c.ad ∧ 0 ≤ c.n := fun c hc => by
  obtain ⟨k, hk, rfl⟩ := List.mem_iff_getElem.1 hc
  obtain ⟨_, h2, h3, _⟩ := h k _ (List.getElem?_eq_getElem hk)
  exact ⟨h2, h3⟩
theorem VOk.gs {T : List (List Int)} {M : Int} {ps : List (List Cg)} {vs : Nat → List Int} (h : VOk T M ps vs) {v : Nat} (hv : v < ps.length) : vs (v + 1) = gsp (vs v) (ilT T) (fun c _ => tx T c.x) (ps.getD v []) 0 0 := by
  rw [h.nx v hv]; exact splice_gsp T (vs v) _ 0 0 (h.ok v hv).1.pos
theorem VOk.nl {T : List (List Int)} {M : Int} {ps : List (List Cg)} {vs : Nat → List Int} (h : VOk T M ps vs) {v : Nat} (hv : v < ps.length) : newLen T (vs v).length (ps.getD v []) = (vs (v + 1)).length := by
  rw [h.gs hv, gsp_len T (ins := fun c _ => tx T c.x) (fun _ _ => rfl) rfl _ 0 0 (pok_ordd (h.ok v hv).1)]
  unfold newLen; omega
theorem VOk.le {T : List (List Int)} {M : Int} {ps : List (List Cg)} {vs : Nat → List Int} (h : VOk T M ps vs) {v : Nat} (hv : v ≤ ps.length) : (vs v).length ≤ 20000 := by
  cases v with
  | zero => exact h.h0
  | succ v =>
    have h1 := h.nl (show v < ps.length by omega)
    have h2 := (h.ok v (by omega)).2
    have h3 := dn_bound (h.ok v (by omega)).1 (by omega) _ (Nat.le_refl _)
    unfold newLen at h1; omega
/-- the rows of version v -/
def ofk (T : List (List Int)) (N : Int) (ps : List (List Cg)) : Nat → List Rw × Int
  | 0 => blAdd ([], 0) N 0 0
  | v + 1 => pt T ((v + 1 : Nat) : Int) (ps.getD v []) 0 ([], 0) (ofk T N ps v).1
theorem pst_zero {T : List (List Int)} {ver : Int} {p : List Cg} {N : Nat} {R : List Rw × Int} (hR : Whole R) (hRb : Bd R) (hRn : R.2 = (N : Int)) (hN : N ≤ 50000) : Pst T ver p N (pt T ver p 0 ([], 0) R.1) 0 0 ([], 0) R.1 :=
  ⟨rfl, ⟨rfl, Int.le_refl _⟩, bd_nil, hRb.rin (by omega), ⟨0, by have h := hR.1; rw [hRn] at h; simpa using h, Nat.le_refl _⟩, Nat.zero_le _, rfl, by rw [up_zero]; simp⟩
theorem pst_at {T : List (List Int)} {ver : Int} {p : List Cg} {N : Nat} {K : List Rw × Int} {R : List Rw} (h0 : Pst T ver p N K 0 0 ([], 0) R) {M : Int} (hp : POk N M p) (hv : (N : Int) + up T p p.length ≤ 20000) : ∀ i, i ≤ p.length → ∃ f st rs, Pst T ver p N K i f st rs
  | 0, _ => ⟨_, _, _, h0⟩
  | i + 1, h => by
    obtain ⟨f, st, rs, h1⟩ := pst_at h0 hp hv i (by omega)
    obtain ⟨_, _, _, _, _, _, _, _, g, _, h2⟩ := pst_step h1 hp (List.getElem?_eq_getElem (show i < p.length by omega)) hv
    exact ⟨_, _, _, h2⟩
theorem pt_bd {T : List (List Int)} {ver : Int} {p : List Cg} {N : Nat} {R : List Rw × Int} (hR : Whole R) (hRb : Bd R) (hRn : R.2 = (N : Int)) (hN : N ≤ 50000) {M : Int} (hp : POk N M p) (hv : (N : Int) + up T p p.length ≤ 20000) : Bd (pt T ver p 0 ([], 0) R.1) := by
  obtain ⟨f, st, rs, h⟩ := pst_at (pst_zero (T := T) (ver := ver) (p := p) hR hRb hRn hN) hp hv p.length (Nat.le_refl _)
  have hk := h.k
  rw [List.drop_length] at hk
  rw [← hk]
  exact (kp_keeps _ _ rs st h.b h.r).1
theorem ofk_ok {T : List (List Int)} {M : Int} {ps : List (List Cg)} {vs : Nat → List Int} (h : VOk T M ps vs) : ∀ v, v ≤ ps.length → Whole (ofk T (vs 0).length ps v) ∧ Bd (ofk T (vs 0).length ps v) ∧ (ofk T (vs 0).length ps v).2 = (vs v).length
  | 0, _ => by
    have h0 := h.h0
    have b := bd_nil.add (n := ((vs 0).length : Int)) (o := 0) 0 (by omega) (by omega) (by omega)
    exact ⟨(whole_add (st := ([], 0)) ⟨rfl, Int.le_refl _⟩ (n := (vs 0).length) 0 0).1, b.1, by show (blAdd ([], 0) ((vs 0).length : Int) 0 0).2 = _; rw [b.2]; simp⟩
  | v + 1, hv => by
    obtain ⟨h1, h2, h3⟩ := ofk_ok h v (by omega)
    obtain ⟨p1, p2⟩ := h.ok v (by omega)
    have l := h.le (show v ≤ ps.length by omega)
    have hX : (ltr (ofk T (vs 0).length ps v).1).length = (vs v).length := by have := h1.len; omega
    obtain ⟨w1, w2⟩ := pt_ltr (T := T) (ver := ((v + 1 : Nat) : Int)) (N := (vs v).length) (by omega) hX (ps.getD v []) 0 0 ([], 0) (ofk T (vs 0).length ps v).1 (pok_ordd p1) ⟨rfl, Int.le_refl _⟩ (by have hh := h1.1; rw [h3] at hh; simpa using hh) (Nat.le_refl _) rfl
    have w2 : ltr (ofk T (vs 0).length ps (v + 1)).1 = gsp (ltr (ofk T (vs 0).length ps v).1) (ilT T) (fun c q => seg (ilT T c) ((v + 1 : Nat) : Int) q) (ps.getD v []) 0 0 := w2
    have w1 : Whole (ofk T (vs 0).length ps (v + 1)) := w1
    refine ⟨w1, pt_bd h1 h2 h3 (by omega) p1 p2, ?_⟩
    have e := w1.len
    rw [w2] at e
    have gl := gsp_len T (X := ltr (ofk T (vs 0).length ps v).1) (ins := fun c q => seg (ilT T c) ((v + 1 : Nat) : Int) q) (fun c q => seg_len _ _ _) hX (ps.getD v []) 0 0 (pok_ordd p1)
    have nl := h.nl (show v < ps.length by omega)
    unfold newLen at nl
    omega
/-- where a letter of version v comes from -/
def trc (T : List (List Int)) (ps : List (List Cg)) : Nat → Int → Nat × Int
  | 0, a => (0, a)
  | v + 1, a => match bkr (ilT T) (ps.getD v []) 0 a with
    | none => (v + 1, a)
    | some b => trc T ps v b
theorem trc_ok {T : List (List Int)} {M : Int} {ps : List (List Cg)} {vs : Nat → List Int} (h : VOk T M ps vs) : ∀ (v a : Nat), v ≤ ps.length → a < (vs v).length →
    (ltr (ofk T (vs 0).length ps v).1)[a]? = some (((trc T ps v a).1 : Int), (trc T ps v a).2) ∧ (trc T ps v a).1 ≤ v ∧ 0 ≤ (trc T ps v a).2 ∧ (vs (trc T ps v a).1)[(trc T ps v a).2.toNat]? = (vs v)[a]?
  | 0, a, _, ha => by
    refine ⟨?_, Nat.le_refl _, Int.natCast_nonneg _, by simp [trc]⟩
    have := (whole_add (st := ([], 0)) ⟨rfl, Int.le_refl _⟩ (n := (vs 0).length) 0 0).2
    show (ltr (blAdd ([], 0) ((vs 0).length : Int) 0 0).1)[a]? = _
    rw [this]
    show (seg (vs 0).length 0 0)[a]? = _
    rw [seg_get ha]; simp [trc]
  | v + 1, a, hv, ha => by
    obtain ⟨h1, h2, h3⟩ := ofk_ok h v (by omega)
    obtain ⟨p1, p2⟩ := h.ok v (by omega)
    have l := h.le (show v ≤ ps.length by omega)
    have hX : (ltr (ofk T (vs 0).length ps v).1).length = (vs v).length := by have := h1.len; omega
    obtain ⟨w1, w2⟩ := pt_ltr (T := T) (ver := ((v + 1 : Nat) : Int)) (N := (vs v).length) (by omega) hX (ps.getD v []) 0 0 ([], 0) (ofk T (vs 0).length ps v).1 (pok_ordd p1) ⟨rfl, Int.le_refl _⟩ (by have hh := h1.1; rw [h3] at hh; simpa using hh) (Nat.le_refl _) rfl
    have w2 : ltr (ofk T (vs 0).length ps (v + 1)).1 = gsp (ltr (ofk T (vs 0).length ps v).1) (ilT T) (fun c q => seg (ilT T c) ((v + 1 : Nat) : Int) q) (ps.getD v []) 0 0 := w2
    have g1 := gsp_get (X := ltr (ofk T (vs 0).length ps v).1) (il := ilT T) (ins := fun c q => seg (ilT T c) ((v + 1 : Nat) : Int) q) (fun c q => seg_len _ _ _) (fun x u => u = some (((v + 1 : Nat) : Int), (x : Int))) (fun c q j hj => by show (seg _ _ _)[_]? = _; rw [seg_get hj]; congr 2) hX (ps.getD v []) 0 0 0 (pok_ordd p1) rfl a (Nat.zero_le _)
    have g2 := gsp_get (X := vs v) (il := ilT T) (ins := fun c _ => tx T c.x) (fun c q => rfl) (fun _ _ => True) (fun _ _ _ _ => trivial) rfl (ps.getD v []) 0 0 0 (pok_ordd p1) rfl a (Nat.zero_le _)
    rw [Nat.sub_zero] at g1 g2
    rw [← w2] at g1
    rw [← h.gs (show v < ps.length by omega)] at g2
    cases hb : bkr (ilT T) (ps.getD v []) 0 a with
    | none =>
      have e : trc T ps (v + 1) a = (v + 1, (a : Int)) := by unfold trc; rw [hb]
      rw [e]
      exact ⟨g1.2 hb, Nat.le_refl _, Int.natCast_nonneg _, by simp⟩
    | some b =>
      have e : trc T ps (v + 1) a = trc T ps v b := by conv => lhs; unfold trc; rw [hb]
      obtain ⟨b0, gb1⟩ := g1.1 b hb
      obtain ⟨_, gb2⟩ := g2.1 b hb
      have b0 : 0 ≤ b := by simpa using b0
      obtain ⟨m, rfl⟩ : ∃ m : Nat, b = m := ⟨b.toNat, by omega⟩
      rw [Int.toNat_natCast] at gb1 gb2
      have hm : m < (vs v).length := by
        rw [List.getElem?_eq_getElem ha] at gb2
        exact (List.getElem?_eq_some_iff.1 gb2.symm).1
      obtain ⟨i1, i2, i3, i4⟩ := trc_ok h v m (by omega) hm
      rw [e]
      exact ⟨gb1.trans i1, by omega, i3, i4.trans gb2.symm⟩
/-- the letters of one row -/
theorem row_ltr : ∀ {R : List Rw} {a N : Nat}, Cont a R N → ∀ (k : Nat) (r : Rw), R[k]? = some r → (a : Int) ≤ r.fr ∧ 1 ≤ r.n ∧ r.fr + r.n ≤ N ∧ (∀ j : Nat, (j : Int) < r.n → (ltr R)[r.fr.toNat - a + j]? = some (r.v, r.o + j)) ∧ Cont r.fr.toNat (R.drop k) N ∧ (∀ (i : Nat) (x : Rw), i < k → R[i]? = some x → x.fr + x.n ≤ r.fr)
  | [], a, N, h, k, r, hk => by simp at hk
  | s :: R, a, N, h, k, r, hk => by
    obtain ⟨h1, h2, h3⟩ := h
    have hl := cont_len h3
    match k with
    | 0 =>
      simp at hk; subst hk
      refine ⟨by omega, h2, by omega, fun j hj => ?_, by rw [h1]; exact ⟨h1, h2, by simpa using h3⟩, fun i x hi _ => by omega⟩
      rw [ltr_cons, List.getElem?_append_left (by rw [seg_len]; omega), seg_get (by omega)]
      congr 2; omega
    | k + 1 =>
      obtain ⟨i1, i2, i3, i4, i5, i6⟩ := row_ltr h3 k r (by simpa using hk)
      refine ⟨by omega, i2, i3, fun j hj => ?_, i5, fun i x hi hx => ?_⟩
      · rw [ltr_cons, List.getElem?_append_right (by rw [seg_len]; omega), seg_len, show r.fr.toNat - a + j - s.n.toNat = r.fr.toNat - (a + s.n.toNat) + j by omega]
        exact i4 j hj
      · match i with
        | 0 => simp at hx; subst hx; omega
        | i + 1 => exact i6 i x (by omega) (by simpa using hx)
theorem row_find : ∀ {R : List Rw} {a N : Nat}, Cont a R N → ∀ x : Nat, a ≤ x → x < N → ∃ (k : Nat) (r : Rw), R[k]? = some r ∧ r.fr ≤ x ∧ (x : Int) < r.fr + r.n
  | [], a, N, h, x, h1, h2 => by have h : a = N := h; omega
  | s :: R, a, N, h, x, h1, h2 => by
    obtain ⟨c1, c2, c3⟩ := h
    by_cases hx : x < a + s.n.toNat
    · exact ⟨0, s, rfl, by omega, by omega⟩
    · obtain ⟨k, r, k1, k2, k3⟩ := row_find c3 x (by omega) h2
      exact ⟨k + 1, r, k1, k2, k3⟩
end Go.Proofs.Ytolhjkpekmmajaa
/- The walk of blame.Of. -/
namespace Go.Proofs.Ytolhjkpekmmajaa
set_option linter.unusedVariables false
set_option linter.unusedSimpArgs false
open Go.RowKit Go.Lib Go.Maps
attribute [local go_sem ↓] Go.wp_at_zero Go.wp_at_succ
/-- a patch and where it lies -/
structure Pg where
  A : Option Addr
  c : Nat
  p : List Cg
def Pg.v (g : Pg) : Value := .slice g.A g.p.length g.c
structure PsAt (w : World) (AA : Option Addr) (gs : List Pg) : Prop where
  r : RowAt w AA (gs.map Pg.v)
  p : ∀ g ∈ gs, RowAt w g.A (cgc g.p)
theorem PsAt.below {w w' : World} {AA : Option Addr} {gs : List Pg} (h : PsAt w AA gs) (hb : Below w.heap.size w w') : PsAt w' AA gs := ⟨h.r.below hb (Nat.le_refl _), fun g hg => (h.p g hg).below hb (Nat.le_refl _)⟩
def OfOut (K : List Rw) (w : World) (e : Ending) (w' : World) : Prop := ∃ A c, e = .returned (.tuple #[.slice A K.length c, .nilIface]) ∧ Below w.heap.size w w' ∧ RowAt w' A (rwc K)
set_option maxRecDepth 100000 in
set_option maxHeartbeats 16000000 in
theorem bof_any (L : List En) (T : List (List Int)) (hg : Good L T) (gs : List Pg) (vs : Nat → List Int) (n c : Nat) (AA : Option Addr) (hl : gs.length = n) (hn : n ≤ 1000) (hv : VOk T L.length (gs.map Pg.p) vs) (hp : ∀ g ∈ gs, g.p.length ≤ 1000)
    (B S G : Nat) (w : World) (st : St w B S G L) (ha : PsAt w AA gs) :
    Calls Try.prog 8 #[.pointer (some ⟨S, 0, none⟩), .int .i64 ((vs 0).length : Int), .slice AA n c] w (OfOut (ofk T (vs 0).length (gs.map Pg.p) n).1 w) := by
  have HG := Lib.hid hg; have HST := Lib.hid st; have HA := Lib.hid ha; have HL := Lib.hid hl; have HV := Lib.hid hv; have HP := Lib.hid hp
  have h0 := hv.h0
  have HVa := Lib.hid (fun w => valid_any ((vs 0).length : Int) w)
  rw [vld_yes ((vs 0).length : Int) (by omega) (by omega)] at HVa
  have BW0 := Lib.hid (balloc (Below.refl w.heap.size w) (.cells #[.slice none 0 0, .int .i64 0] 76))
  have BL0 : Hid (Bld (w.alloc (.cells #[.slice none 0 0, .int .i64 0] 76)) w.heap.size w.heap.size ([], 0)) := Lib.hid ⟨none, 0, Box.new w _ _, rfl, .inl ⟨rfl, rfl⟩⟩
  obtain ⟨N, hN⟩ : ∃ N, N = (vs 0).length := ⟨_, rfl⟩
  rw [← hN] at HVa h0 ⊢
  have HAd := Lib.hid (badd_any w.heap.size w.heap.size (Nat.le_refl _) ([], 0) bd_nil (N : Int) 0 0 (by omega) (by simp; omega) (w.alloc (.cells #[.slice none 0 0, .int .i64 0] 76)) BW0.out.size BL0.out)
  have HN := Lib.hid hN.symm
  have HN0 := Lib.hid hN.symm
  clear hg st ha hl hv hp hN
  go_enter Try.func8, Try.ntmps8
  go_wp2_with fail
  (with_reducible refine (HVa.out _).mono ?_)
  rintro e w' ⟨rfl, rfl⟩
  go_wp2_with fail
  (with_reducible refine HAd.out.mono ?_)
  rintro e w1 ⟨rfl, BL1, B1, _⟩
  have BW1 := Lib.hid (BW0.out.trans B1)
  have HB1 : Hid (Bld w1 w.heap.size w.heap.size (ofk T N (gs.map Pg.p) 0)) := Lib.hid BL1
  obtain ⟨Q, hQ⟩ : ∃ Q, Q = w.heap.size := ⟨_, rfl⟩
  have HQ := Lib.hid hQ.symm
  rw [← hQ] at HB1
  clear BL1 B1 hQ BL0 BW0 HAd
  go_wp2_with fail
  rw [HQ.out]
  go_loopw [1, 8, 9, 10, 11, 12, 27] (fun s1 s8 _ _ _ _ si wr => ∃ (i b base m : Nat), si = .int .i64 (i : Int) ∧ i ≤ n ∧ s1 = .int .i64 (m : Int) ∧ m ≤ 20000 ∧ s8 = .pointer (some ⟨b, 0, none⟩) ∧ Hid ((vs i).length = m) ∧ Hid (Below w.heap.size w wr) ∧ Hid (Bld wr base b (ofk T N (gs.map Pg.p) i))) (fun _ _ _ _ _ _ si _ => n - (intOf si).toNat)
  case atStart => exact ⟨0, Q, Q, N, rfl, by omega, rfl, h0, rfl, HN, BW1, HB1⟩
  case round =>
    clear BW1 HB1 HN
    obtain ⟨i, b, base, m, rfl, hi, rfl, hm, rfl, HM, BW, HB⟩ := hrel
    by_cases hlt : i < n
    · have hil : i < gs.length := by rw [HL.out]; exact hlt
      have hc := List.getElem?_eq_getElem hil
      obtain ⟨g, hgg⟩ : ∃ g, g = gs[i] := ⟨_, rfl⟩
      rw [← hgg] at hc
      have hgm : g ∈ gs := by rw [hgg]; exact List.getElem_mem hil
      have PA := HA.out.below BW.out
      have hcm : (gs.map Pg.v)[i]? = some g.v := by rw [List.getElem?_map, hc]; rfl
      obtain ⟨ad, rfl, adl, c0⟩ := PA.r.get hcm
      have hpd : (gs.map Pg.p).getD i [] = g.p := by rw [List.getD_eq_getElem?_getD, List.getElem?_map, hc]; rfl
      have him : i < (gs.map Pg.p).length := by simp; exact hil
      obtain ⟨po, pu⟩ := HV.out.ok i him
      have nl := HV.out.nl him
      have hm2 := HV.out.le (v := i + 1) (by omega)
      rw [hpd] at po pu nl
      rw [HM.out] at po pu nl
      obtain ⟨m2, hm2e⟩ : ∃ m2, m2 = (vs (i + 1)).length := ⟨_, rfl⟩
      rw [← hm2e] at nl hm2
      have HM2 := Lib.hid hm2e.symm
      obtain ⟨o1, o2, o3⟩ := ofk_ok HV.out i (by omega)
      have HNN : (vs 0).length = N := by have := HN0.out; exact this
      rw [HNN] at o1 o2 o3
      rw [HM.out] at o3
      have eK : ofk T N (gs.map Pg.p) (i + 1) = pt T ((i : Int) + 1) g.p 0 ([], 0) (ofk T N (gs.map Pg.p) i).1 := by
        show pt T ((i + 1 : Nat) : Int) ((gs.map Pg.p).getD i []) 0 ([], 0) _ = _
        rw [hpd]; rfl
      have gl := HP.out g hgm
      have HPl := Lib.hid (fun w st ha => plength_any L T HG.out (m : Int) (by omega) (by omega) g.p g.p.length g.c g.A rfl (by omega) po (by omega) B S G w st ha)
      rw [nl] at HPl
      have HPt := Lib.hid (fun w st ha (hb : Bld w base b (ofk T N (gs.map Pg.p) i)) => bpat_any L T HG.out ((i : Int) + 1) m g.p g.p.length g.c g.A rfl (by omega) po pu (ofk T N (gs.map Pg.p) i) o1 o2 o3 B S G b base w st ha hb)
      rw [← eK] at HPt
      have HGA := Lib.hid (PA.p g hgm)
      have HSW := Lib.hid (HST.out.below BW.out)
      obtain ⟨gA, gc, gp⟩ := g
      replace c0 : wr.cell? (ad.add i) = some (.slice gA gp.length gc) := c0
      obtain ⟨gn, hgn⟩ : ∃ gn, gn = gp.length := ⟨_, rfl⟩
      have HPl' : Hid (∀ w, St w B S G L → RowAt w gA (cgc gp) → Calls Try.prog 22 #[.pointer (some ⟨S, 0, none⟩), .int .i64 (m : Int), .slice gA gn gc] w fun r w' => r = .returned (.tuple #[.int .i64 (m2 : Int), .nilIface]) ∧ Below w.heap.size w w') := by rw [hgn]; exact HPl
      have HPt' : Hid (∀ w, St w B S G L → RowAt w gA (cgc gp) → Bld w base b (ofk T N (gs.map Pg.p) i) → Calls Try.prog 23 #[.pointer (some ⟨b, 0, none⟩), .pointer (some ⟨S, 0, none⟩), .slice gA gn gc, .int .i64 ((i : Int) + 1)] w (PatOut w.heap.size (ofk T N (gs.map Pg.p) (i + 1)) w)) := by rw [hgn]; exact HPt
      rw [← hgn] at c0
      have HGA' : Hid (RowAt wr gA (cgc gp)) := HGA
      clear hil hc hgg hgm PA hcm hpd him po pu nl hm2e o1 o2 o3 eK gl HPl HPt HGA HNN hgn
      go_wp2_with fail
      (with_reducible refine (HPl'.out _ HSW.out HGA'.out).mono ?_)
      rintro e w2 ⟨rfl, B2⟩
      have HS2 := Lib.hid (HSW.out.below B2)
      have HA2 := Lib.hid (HGA'.out.below B2 (Nat.le_refl _))
      have HB2 := Lib.hid (bld_below HB.out B2)
      have BW2 := Lib.hid (bkeep BW.out B2)
      clear B2
      go_wp2_with fail
      (with_reducible refine (HPt'.out _ HS2.out HA2.out HB2.out).mono ?_)
      rintro e w3 ⟨rfl, BL3, B3⟩
      have HB3 := Lib.hid BL3
      have BW3 := Lib.hid (bkeep BW2.out B3)
      clear BL3 B3
      go_wp2_with fail
      go_roundw
      case rel => exact ⟨i + 1, _, _, m2, by go_num, by omega, rfl, hm2, rfl, HM2, BW3, HB3⟩
      case measure => simp [intOf]; omega
    · obtain rfl : i = n := by omega
      obtain ⟨A, c1, bx, ow⟩ := HB.out.ex
      have y0 := bx.cell 0
      simp only [List.getElem?_toArray, List.getElem?_cons_zero] at y0
      have ro := own_row _ ow
      have bl := bx.lt
      clear bx ow
      go_wp2_with fail
      go_ret2
      exact ⟨A, c1, rfl, BW.out, ro⟩
end Go.Proofs.Ytolhjkpekmmajaa
/- The versions of the statement, plainly. -/
namespace Go.Proofs.Ytolhjkpekmmajaa
set_option linter.unusedVariables false
set_option linter.unusedSimpArgs false
open Go.RowKit Go.Lib
/-- a step's changes and where they lie -/
structure Sg where
  A : Option Addr
  c : Nat
  l : List Ch
def Sg.v (g : Sg) : Value := .slice g.A g.l.length g.c
structure SsAt (w : World) (AA : Option Addr) (gs : List Sg) : Prop where
  r : RowAt w AA (gs.map Sg.v)
  p : ∀ g ∈ gs, RowAt w g.A (chc g.l)
  i : ∀ g ∈ gs, ∀ c ∈ g.l, -9223372036854775808 ≤ c.sk ∧ c.sk ≤ 9223372036854775807 ∧ -9223372036854775808 ≤ c.n ∧ c.n ≤ 9223372036854775807
  n : ∀ g ∈ gs, g.l.length ≤ 9223372036854775807
/-- a step's changes -/
def stp (ss : List Sg) (v : Nat) : List Ch := (ss[v]?.map Sg.l).getD []
/-- version v -/
def vrs (s : ByteArray) (ss : List Sg) : Nat → ByteArray
  | 0 => s
  | v + 1 => mkTxt (vrs s ss v) (stp ss v)
theorem mkTxt_size (s : ByteArray) (l : List Ch) : (mkTxt s l).size ≤ s.size + 240 := by
  obtain ⟨j, hj, h⟩ := mok_run l 0 mk0 (mok_start s) (by omega)
  have h1 := h.mz; have h2 := h.fs
  unfold mkTxt
  rw [ByteArray.size_append, ByteArray.size_extract]
  omega
theorem vrs_size (s : ByteArray) (ss : List Sg) : ∀ v, (vrs s ss v).size ≤ s.size + 240 * v
  | 0 => Nat.le_refl _
  | v + 1 => by have := vrs_size s ss v; have := mkTxt_size (vrs s ss v) (stp ss v); show (mkTxt (vrs s ss v) (stp ss v)).size ≤ _; omega
theorem qs_get {T : List (List Int)} {p : List Cg} {i : Nat} {c : Cg} (h : p[i]? = some c) : (qs T p)[i]? = some (c.ad.toNat, c.n.toNat, tx T c.x) := by unfold qs; rw [List.getElem?_map, h]; rfl
theorem pr_pok {L : List En} {T : List (List Int)} (hg : Good L T) {p : List Cg} {out : List (Nat × Nat × List Int)} (h : PR L T p out) {N : Nat} (q : QOk N out) : POk N L.length p := by
  intro i c hc
  obtain ⟨k1, k2, k3, k4⟩ := h.ok c (List.mem_of_getElem? hc)
  have hq := qs_get (T := T) hc
  rw [h.q] at hq
  obtain ⟨q1, q2, q3, q4⟩ := q i _ hq
  simp only at q1 q2 q3 q4
  refine ⟨?_, k1, k2, by omega, k3, k4, ?_⟩
  · cases i with
    | zero => show (-1 : Int) < c.ad; omega
    | succ i =>
      have hil := (List.getElem?_eq_some_iff.1 hc).1
      have hci := List.getElem?_eq_getElem (show i < p.length by omega)
      rw [lst_succ hci]
      have e := endQ_take (qs_get (T := T) hci) 0
      rw [h.q] at e
      have := q1 (by omega)
      rw [e] at this
      obtain ⟨j1, j2, _, _⟩ := h.ok p[i] (List.getElem_mem _)
      simp only at this
      omega
  · rcases q3 with q3 | q3
    · left; omega
    · right; intro hx
      rw [hx] at q3
      exact q3 rfl
theorem pr_up {L : List En} {T : List (List Int)} {p : List Cg} {out : List (Nat × Nat × List Int)} (h : PR L T p out) {N : Nat} (q : QOk N out) : ∀ i, i ≤ p.length → up T p i ≤ 20 * i
  | 0, _ => by rw [up_zero]; omega
  | i + 1, hi => by
    have hc := List.getElem?_eq_getElem (show i < p.length by omega)
    have hq := qs_get (T := T) hc
    rw [h.q] at hq
    obtain ⟨_, _, _, q4⟩ := q i _ hq
    simp only at q4
    rw [up_succ T hc]
    have := pr_up h q i (by omega)
    omega
/-- the patches that the statement has made -/
structure PsOk (L : List En) (T : List (List Int)) (s : ByteArray) (ss : List Sg) (gs : List Pg) : Prop where
  ok : ∀ (v : Nat) (g : Pg), gs[v]? = some g → PR L T g.p (mkOut (vrs s ss v) (stp ss v))
theorem PsOk.nil (L : List En) (T : List (List Int)) (s : ByteArray) (ss : List Sg) : PsOk L T s ss [] := ⟨fun v g h => by simp at h⟩
theorem PsOk.ext {L L' : List En} {T T' : List (List Int)} {s : ByteArray} {ss : List Sg} {gs : List Pg} (h : PsOk L T s ss gs) (hT : T.length = L.length) (k : Ext L T L' T') : PsOk L' T' s ss gs := ⟨fun v g hv => (h.ok v g hv).ext hT k⟩
theorem PsOk.snoc {L : List En} {T : List (List Int)} {s : ByteArray} {ss : List Sg} {gs : List Pg} (h : PsOk L T s ss gs) {g : Pg} {i : Nat} (hi : gs.length = i) (hp : PR L T g.p (mkOut (vrs s ss i) (stp ss i))) : PsOk L T s ss (gs ++ [g]) := ⟨fun v x hv => by
  by_cases hlt : v < gs.length
  · rw [List.getElem?_append_left hlt] at hv; exact h.ok v x hv
  · have hl := (List.getElem?_eq_some_iff.1 hv).1
    simp at hl
    obtain rfl : v = gs.length := by omega
    rw [List.getElem?_append_right (Nat.le_refl _), Nat.sub_self] at hv
    simp at hv; subst hv
    rw [hi]; exact hp⟩
theorem PsOk.vok {L : List En} {T : List (List Int)} (hg : Good L T) {s : ByteArray} {ss : List Sg} {gs : List Pg} (h : PsOk L T s ss gs) (hs : s.size ≤ 80) (hn : gs.length ≤ 5) : VOk T L.length (gs.map Pg.p) (fun v => bi (vrs s ss v)) := by
  have key : ∀ v, v < (gs.map Pg.p).length → ∃ g, gs[v]? = some g ∧ (gs.map Pg.p).getD v [] = g.p := fun v hv => by
    have hv : v < gs.length := by simpa using hv
    refine ⟨gs[v], List.getElem?_eq_getElem hv, ?_⟩
    rw [List.getD_eq_getElem?_getD, List.getElem?_map, List.getElem?_eq_getElem hv]; rfl
  refine ⟨by show (bi s).length ≤ _; rw [bi_len]; omega, fun v hv => ?_, fun v hv => ?_⟩
  · obtain ⟨g, g1, g2⟩ := key v hv
    have hv : v < gs.length := by simpa using hv
    have hp := h.ok v g g1
    have hz := vrs_size s ss v
    obtain ⟨m1, m2, _⟩ := mk_ok (vrs s ss v) (stp ss v)
    rw [g2]
    simp only [bi_len]
    refine ⟨pr_pok hg hp m1, ?_⟩
    have := pr_up hp m1 _ (Nat.le_refl _)
    have := hp.len
    omega
  · obtain ⟨g, g1, g2⟩ := key v hv
    have hp := h.ok v g g1
    obtain ⟨_, _, m3⟩ := mk_ok (vrs s ss v) (stp ss v)
    rw [g2, hp.q]
    exact m3
end Go.Proofs.Ytolhjkpekmmajaa
/- The law of XRegTr for the head of a region; the tail, each of whose operations waits for the whole head, is walked from there in whatever order. Printed by wip/gen/mkreghd.py. -/
namespace Go.Proofs.Ytolhjkpekmmajaa.Rh
set_option linter.unusedVariables false
set_option linter.unusedSimpArgs false
open Go.RowKit Go.Proofs.Ytolhjkpekmmajaa

/-- What an operation of the region does: it yields a value of which p holds (memory may be made); it makes a variable (cells z, of type ty), which operation number si fills with cs; it fills the variable in slot t. -/
inductive RK
  | val (p : Value → World → Prop)
  | new (ty : TypeId) (z cs : Array Value) (si : Nat)
  | put (ty : TypeId) (z cs : Array Value) (t : Tmp)

def readT (a : Act) : Option Tmp → Value
  | some d => a.tmps.getD d undef
  | none => undef
def rvT (d : Option Tmp) (v : Value) : Value := match d with
  | some _ => v
  | none => undef
def NoQ : Exit → Act → World → Prop := fun _ _ _ => False

def RK.post (g : Nat) (w : World) : RK → Value → World → Prop
  | .val p, v, w' => p v w' ∧ Below w.heap.size w w'
  | .new ty z _ _, v, w' => v = .pointer (some ⟨w.heap.size, 0, none⟩) ∧ w' = w.alloc (.cells z ty)
  | .put ty _ cs _, _, w' => Stored w g ty cs w'

def Run (P : Program) (o : Oper) (k : RK) (D : List Deferred) (g : Nat) (w : World) (A' : Act) : Prop :=
  ∀ K : Act → World → Prop, (∀ a' w', a'.defers = D → k.post g w (readT a' o.dst) w' → K a' w') → o.wp P A' w K NoQ

def Run' (P : Program) (ops : Array Oper) (o : Oper) (k : RK) (D : List Deferred) (g : Nat) (w : World) (A' : Act) : Prop :=
  match o.guard with
  | none => Run P o k D g w A'
  | some _ => (Region.wanted o (yielded ops A'.tmps) = true → Run P o k D g w A') ∧ (Region.wanted o (yielded ops A'.tmps) = false → k.post g w undef w)

def Reads (sp : List RK) (w : World) (G : Act → Prop) : List (Tmp × Nat) → Act → Prop
  | [], A => G A
  | (t, j) :: r, A => match sp[j]? with
    | some (.val p) => ∀ v, p v w → Reads sp w G r (A.put (some t) v)
    | _ => False

def Ob1 (P : Program) (ops : Array Oper) (sp : List RK) (A : Act) (w0 : World) (o : Oper) (k : RK) (rd : List (Tmp × Nat)) : Prop :=
  ∀ w, Below w0.heap.size w0 w → match k with
    | .put ty z _ t => ∀ g, w0.heap.size ≤ g → Box w g ty z → Reads sp w (Run P o k A.defers g w) rd (A.put (some t) (.pointer (some ⟨g, 0, none⟩)))
    | _ => Reads sp w (Run' P ops o k A.defers 0 w) rd A

def Obs (P : Program) (ops : Array Oper) (sp : List RK) (A : Act) (w0 : World) : List Oper → List RK → List (List (Tmp × Nat)) → Prop
  | o :: os, k :: ks, r :: rs => Ob1 P ops sp A w0 o k r ∧ Obs P ops sp A w0 os ks rs
  | _, _, _ => True

def Fin (h0 : Nat) (w : World) (G : Act → Prop) : List Oper → List RK → Act → Prop
  | o :: os, k :: ks, A => match o.dst, k with
    | some t, .val p => ∀ v, p v w → Fin h0 w G os ks (A.put (some t) v)
    | some t, .new ty _ cs _ => ∀ g, h0 ≤ g → Box w g ty cs → Fin h0 w G os ks (A.put (some t) (.pointer (some ⟨g, 0, none⟩)))
    | _, _ => Fin h0 w G os ks A
  | _, _, A => G A

/-- The predicates are stable; a variable and its filling agree. -/
def Stabs (h0 : Nat) (tys : List TypeId) (sp : List RK) : List RK → Prop
  | .val p :: ks => Stab h0 tys p ∧ Stabs h0 tys sp ks
  | .new ty z cs si :: ks => (match sp[si]? with | some (.put ty' z' cs' _) => ty = ty' ∧ z = z' ∧ cs = cs' | _ => False) ∧ Stabs h0 tys sp ks
  | .put _ _ _ _ :: ks => Stabs h0 tys sp ks
  | [] => True
def tysOf : List RK → List TypeId
  | .new ty _ _ _ :: ks => ty :: tysOf ks
  | _ :: ks => tysOf ks
  | [] => []

def bindsTo (o : Oper) (j : Nat) : Bool := o.after.any fun e => Region.binds .any e && e.on == j
/-- The kind of an operation without its predicates: 0 a value, 1 a new variable (filled by the second number), 2 a filling (of the slot that the second number names). -/
def RK.code : RK → Nat × Nat
  | .val _ => (0, 0)
  | .new _ _ _ si => (1, si)
  | .put _ _ _ t => (2, t)
def okAt (ops : Array Oper) (m : Nat) (codes : List (Nat × Nat)) (i : Nat) (o : Oper) (c : Nat × Nat) (r : List (Tmp × Nat)) : Bool :=
  (o.after.all fun e => !Region.binds .any e || decide (e.on < i)) && (match o.op with | .select .. => false | _ => true) &&
  (match o.dst with | some d => decide (d < m) && (List.range ops.size).all (fun j => j == i || (ops[j]?.bind (·.dst)) != some d) | none => true) &&
  ((o.looksAt ops).all fun t => r.any (fun q => q.1 == t) || (c.1 == 2 && c.2 == t) || (List.range ops.size).all fun j => match ops[j]? with | some oj => oj.dst != some t || (bindsTo oj i && j != i) | none => true) &&
  (r.all fun q => ((ops[q.2]?.bind (·.dst)) == some q.1) && bindsTo o q.2) &&
  (match c with
   | (0, _) => true
   | (1, si) => o.guard.isNone && o.dst.isSome && (match ops[si]? with | some s => bindsTo s i | none => false) && codes[si]? == o.dst.map (fun d => (2, d))
   | (_, t) => o.guard.isNone && o.dst.isNone && (List.range ops.size).any fun j => (ops[j]?.bind (·.dst)) == some t && bindsTo o j && codes[j]? == some (1, i))
/-- operation i waits for operation j, by a chain of f + 1 edges at most -/
def reachB (ops : Array Oper) : Nat → Nat → Nat → Bool
  | 0, i, j => match ops[i]? with | some o => bindsTo o j | none => false
  | f + 1, i, j => (match ops[i]? with | some o => bindsTo o j | none => false) || (List.range i).any fun k => (match ops[i]? with | some o => bindsTo o k | none => false) && reachB ops f k j
/-- The operations from number 'codes.length' on are the tail: each of them waits for all before it. -/
def okB (ops : Array Oper) (m : Nat) (codes : List (Nat × Nat)) (rd : List (List (Tmp × Nat))) : Bool :=
  decide (codes.length ≤ ops.size) && rd.length == codes.length &&
  ((List.range codes.length).all fun i => match ops[i]?, codes[i]?, rd[i]? with
    | some o, some c, some r => okAt ops m codes i o c r
    | _, _, _ => false) &&
  (List.range ops.size).all fun i => decide (i < codes.length) || match ops[i]? with
    | some o => (o.after.all fun e => !Region.binds .any e || decide (e.on < i)) && (List.range codes.length).all fun j => reachB ops 12 i j
    | none => false
section
variable {P : Program} {ops : Array Oper} {sp : List RK} {A : Act} {w0 : World} {h0 : Nat} {tys : List TypeId} {rd : List (List (Tmp × Nat))} {m : Nat}

theorem put_getD_ne (a : Act) {d t : Tmp} (v : Value) (h : d ≠ t) : (a.put (some d) v).tmps.getD t undef = a.tmps.getD t undef := by
  simp [Act.put, Array.getElem?_setIfInBounds_ne h]
theorem put_getD_eq (a : Act) {d : Tmp} (v : Value) (h : d < a.tmps.size) : (a.put (some d) v).tmps.getD d undef = v := by
  simp [Act.put, h]
theorem put_size (a : Act) (d : Option Tmp) (v : Value) : (a.put d v).tmps.size = a.tmps.size := by
  cases d <;> simp [Act.put]
theorem put_def (a : Act) (d : Option Tmp) (v : Value) : (a.put d v).defers = a.defers := by
  cases d <;> simp [Act.put]
theorem eval_tmp (a : Act) (t : Tmp) : a.eval (.tmp t) = a.tmps.getD t undef := rfl

theorem Obs.get : ∀ {os : List Oper} {ks : List RK} {rs : List (List (Tmp × Nat))} {i : Nat} {o : Oper} {k : RK} {r : List (Tmp × Nat)},
    Obs P ops sp A w0 os ks rs → os[i]? = some o → ks[i]? = some k → rs[i]? = some r → Ob1 P ops sp A w0 o k r
  | o' :: os, k' :: ks, r' :: rs, 0, o, k, r, h, h1, h2, h3 => by
    simp at h1 h2 h3; subst h1 h2 h3; exact h.1
  | o' :: os, k' :: ks, r' :: rs, i + 1, o, k, r, h, h1, h2, h3 => Obs.get (i := i) h.2 (by simpa using h1) (by simpa using h2) (by simpa using h3)
  | [], _, _, i, o, k, r, h, h1, h2, h3 => by simp at h1
  | _ :: _, [], _, i, o, k, r, h, h1, h2, h3 => by simp at h2
  | _ :: _, _ :: _, [], i, o, k, r, h, h1, h2, h3 => by simp at h3

theorem Stabs.val_at : ∀ {ks : List RK} {i : Nat} {p : Value → World → Prop}, Stabs h0 tys sp ks → ks[i]? = some (.val p) → Stab h0 tys p
  | .val q :: ks, 0, p, h, e => by simp at e; subst e; exact h.1
  | .new .. :: ks, 0, p, h, e => by simp at e
  | .put .. :: ks, 0, p, h, e => by simp at e
  | .val q :: ks, i + 1, p, h, e => Stabs.val_at (i := i) h.2 (by simpa using e)
  | .new .. :: ks, i + 1, p, h, e => Stabs.val_at (i := i) h.2 (by simpa using e)
  | .put .. :: ks, i + 1, p, h, e => Stabs.val_at (ks := ks) (i := i) h (by simpa using e)
  | [], i, p, h, e => by simp at e
theorem Stabs.new_at : ∀ {ks : List RK} {i : Nat} {ty : TypeId} {z cs : Array Value} {si : Nat}, Stabs h0 tys sp ks → ks[i]? = some (.new ty z cs si) →
    ∀ {ty' z' cs' t}, sp[si]? = some (.put ty' z' cs' t) → ty = ty' ∧ z = z' ∧ cs = cs'
  | .val q :: ks, 0, _, _, _, _, h, e => by simp at e
  | .put .. :: ks, 0, _, _, _, _, h, e => by simp at e
  | .new .. :: ks, 0, _, _, _, _, h, e => by
    simp at e
    obtain ⟨rfl, rfl, rfl, rfl⟩ := e
    intro hs
    have h1 := h.1
    rw [hs] at h1
    exact h1
  | .val q :: ks, i + 1, _, _, _, _, h, e => Stabs.new_at (i := i) h.2 (by simpa using e)
  | .new .. :: ks, i + 1, _, _, _, _, h, e => Stabs.new_at (i := i) h.2 (by simpa using e)
  | .put .. :: ks, i + 1, _, _, _, _, h, e => Stabs.new_at (ks := ks) (i := i) h (by simpa using e)
  | [], i, _, _, _, _, h, e => by simp at e
theorem mem_tysOf : ∀ {ks : List RK} {i : Nat} {ty : TypeId} {z cs : Array Value} {si : Nat}, ks[i]? = some (.new ty z cs si) → ty ∈ tysOf ks
  | .val q :: ks, 0, _, _, _, _, e => by simp at e
  | .put .. :: ks, 0, _, _, _, _, e => by simp at e
  | .new .. :: ks, 0, _, _, _, _, e => by simp at e; simp [tysOf, e.1]
  | .val q :: ks, i + 1, _, _, _, _, e => mem_tysOf (ks := ks) (i := i) (by simpa using e)
  | .new .. :: ks, i + 1, _, _, _, _, e => List.mem_cons_of_mem _ (mem_tysOf (ks := ks) (i := i) (by simpa using e))
  | .put .. :: ks, i + 1, _, _, _, _, e => mem_tysOf (ks := ks) (i := i) (by simpa using e)
  | [], i, _, _, _, _, e => by simp at e

/-- What an operation does at a state that agrees with the one of its obligation on all that it looks at. -/
theorem Run.use {o : Oper} {k : RK} {D : List Deferred} {g : Nat} {w : World} {A' a : Act} {K : Act → World → Prop} {Q : Exit → Act → World → Prop}
    (h : Run P o k D g w A') (hs : ∀ cs b, o.op ≠ .select cs b) (he : ∀ x ∈ o.op.operands, a.eval x = A'.eval x) (hd : ∀ d, o.dst = some d → d < A'.tmps.size) (hA : A'.defers = D)
    (hK : ∀ v w', k.post g w (rvT o.dst v) w' → K (a.put o.dst v) w') : o.wp P a w K Q := by
  have h1 := h (fun a' w' => a'.defers = D ∧ k.post g w (readT a' o.dst) w') (fun _ _ x y => ⟨x, y⟩)
  have hr : ∀ v, readT (A'.put o.dst v) o.dst = rvT o.dst v := by
    intro v
    cases hdst : o.dst with
    | none => rfl
    | some d => exact put_getD_eq A' v (hd d hdst)
  unfold Oper.wp at *
  rw [execOp_congr o hs he]
  generalize (execOp A'.eval o).run P w = r at *
  cases r with
  | ok n w' =>
    cases n <;> simp only [Oper.upon] at h1 ⊢
    case value v => exact hK v w' (by rw [← hr v]; exact h1.2)
    case skip => exact hK _ w' (by rw [← hr]; exact h1.2)
    case defer d =>
      have := h1.1
      rw [put_def] at this
      simp only [hA] at this
      exact absurd (congrArg List.length this) (by simp)
    case enter f args =>
      refine Calls.mono h1 fun e w'' he => ?_
      cases e with
      | returned v => exact hK v w'' (by rw [← hr v]; exact he.2)
      | panicked c => exact he.elim
      | outgrown => obtain ⟨_, _, hf⟩ := he; exact hf.elim
    case row row args => exact Rows.mono h1 fun v w'' he => hK v w'' (by rw [← hr v]; exact he.2)
  | halt x w' =>
    cases x <;> simp only [Oper.upon] at h1
    case panic u => exact h1.elim

/-- The state of an obligation, its slots filled from a's. -/
def over (a : Act) : List (Tmp × Nat) → Act → Act
  | [], A => A
  | (t, _) :: r, A => over a r (A.put (some t) (a.tmps.getD t undef))
theorem over_size (a : Act) : ∀ (r : List (Tmp × Nat)) (A : Act), (over a r A).tmps.size = A.tmps.size
  | [], A => rfl
  | (t, j) :: r, A => (over_size a r _).trans (put_size _ _ _)
theorem over_defers (a : Act) : ∀ (r : List (Tmp × Nat)) (A : Act), (over a r A).defers = A.defers
  | [], A => rfl
  | (t, j) :: r, A => (over_defers a r _).trans (put_def _ _ _)
theorem over_keep (a : Act) : ∀ (r : List (Tmp × Nat)) (A : Act) (t : Tmp), A.tmps.size = a.tmps.size → A.tmps.getD t undef = a.tmps.getD t undef → (over a r A).tmps.getD t undef = a.tmps.getD t undef
  | [], A, t, _, h => h
  | (s, j) :: r, A, t, hs, h => by
    refine over_keep a r _ t ((put_size _ _ _).trans hs) ?_
    by_cases e : s = t
    · subst e
      rcases Nat.lt_or_ge s A.tmps.size with hl | hl
      · exact put_getD_eq _ _ hl
      · rw [← h]; simp [Act.put, Array.getElem?_eq_none (Nat.le_trans (by simp) hl : (A.tmps.setIfInBounds s _).size ≤ s), Array.getElem?_eq_none hl]
    · rw [put_getD_ne _ _ e]; exact h
theorem over_hit (a : Act) : ∀ (r : List (Tmp × Nat)) (A : Act) (t : Tmp), A.tmps.size = a.tmps.size → (r.any fun q => q.1 == t) = true → (over a r A).tmps.getD t undef = a.tmps.getD t undef
  | [], A, t, _, h => by simp at h
  | (s, j) :: r, A, t, hs, h => by
    by_cases e : s = t
    · subst e
      refine over_keep a r _ s ((put_size _ _ _).trans hs) ?_
      rcases Nat.lt_or_ge s A.tmps.size with hl | hl
      · exact put_getD_eq _ _ hl
      · have hl' : a.tmps.size ≤ s := hs ▸ hl
        simp [Act.put, Array.getElem?_eq_none (Nat.le_trans (by simp) hl : (A.tmps.setIfInBounds s _).size ≤ s), Array.getElem?_eq_none hl']
    · refine over_hit a r _ t ((put_size _ _ _).trans hs) ?_
      simpa [e] using h

theorem Reads.use {w : World} {G : Act → Prop} {a : Act} : ∀ {r : List (Tmp × Nat)} {A : Act}, Reads sp w G r A →
    (∀ q ∈ r, ∀ p, sp[q.2]? = some (.val p) → p (a.tmps.getD q.1 undef) w) → G (over a r A)
  | [], A, h, _ => h
  | (t, j) :: r, A, h, hp => by
    unfold Reads at h
    split at h
    · rename_i p hj
      exact Reads.use (r := r) (h _ (hp (t, j) List.mem_cons_self p hj)) fun q hq => hp q (List.mem_cons_of_mem _ hq)
    · exact h.elim

theorem yields_eq {a b : Act} {g : Nat} (hs : a.tmps.size = b.tmps.size) (h : ∀ t, (ops[g]?).bind (·.dst) = some t → a.tmps.getD t undef = b.tmps.getD t undef) : yielded ops a.tmps g = yielded ops b.tmps g := by
  unfold yielded
  cases ht : (ops[g]?).bind (·.dst) with
  | none => rfl
  | some t =>
    have h1 := h t ht
    have e : a.tmps[t]? = b.tmps[t]? := by
      rcases Nat.lt_or_ge t a.tmps.size with hl | hl
      · have hl' : t < b.tmps.size := hs ▸ hl
        simp [hl, hl'] at h1 ⊢
        exact h1
      · rw [Array.getElem?_eq_none hl, Array.getElem?_eq_none (hs ▸ hl)]
    simp only [Option.bind_some, e]

structure OkAt (ops : Array Oper) (m : Nat) (codes : List (Nat × Nat)) (i : Nat) (o : Oper) (c : Nat × Nat) (r : List (Tmp × Nat)) : Prop where
  fwd : ∀ e ∈ o.after, Region.binds .any e = true → e.on < i
  sel : ∀ cs b, o.op ≠ .select cs b
  dst : ∀ d, o.dst = some d → d < m ∧ ∀ (j : Nat) (oj : Oper), ops[j]? = some oj → oj.dst = some d → j = i
  looks : ∀ t ∈ o.looksAt ops, (r.any (fun q => q.1 == t) = true) ∨ (c = (2, t)) ∨ ∀ (j : Nat) (oj : Oper), ops[j]? = some oj → oj.dst = some t → bindsTo oj i = true
  reads : ∀ q ∈ r, (ops[q.2]?.bind (·.dst)) = some q.1 ∧ bindsTo o q.2 = true
  new : ∀ si, c = (1, si) → o.guard = none ∧ (∃ s, ops[si]? = some s ∧ bindsTo s i = true) ∧ ∃ d, o.dst = some d ∧ codes[si]? = some (2, d)
  put : ∀ t, c = (2, t) → o.guard = none ∧ o.dst = none ∧ ∃ (j : Nat) (oj : Oper), ops[j]? = some oj ∧ oj.dst = some t ∧ bindsTo o j = true ∧ codes[j]? = some (1, i)

theorem lt_of_some {α : Type} {xs : Array α} {i : Nat} {x : α} (h : xs[i]? = some x) : i < xs.size := (Array.getElem?_eq_some_iff.1 h).1
theorem ok_at {codes : List (Nat × Nat)} (h : okB ops m codes rd = true) {i : Nat} {o : Oper} (ho : ops[i]? = some o) {c : Nat × Nat} (hck : codes[i]? = some c) : ∃ r, rd[i]? = some r ∧ OkAt ops m codes i o c r := by
  unfold okB at h
  simp only [Bool.and_eq_true, beq_iff_eq, List.all_eq_true, List.mem_range, decide_eq_true_eq] at h
  obtain ⟨⟨⟨hc, hr⟩, h⟩, _⟩ := h
  have hci : i < codes.length := (List.getElem?_eq_some_iff.1 hck).1
  have h1 := h i hci
  have hri : i < rd.length := by omega
  rw [ho, hck, List.getElem?_eq_getElem hri] at h1
  refine ⟨_, List.getElem?_eq_getElem hri, ?_⟩
  generalize rd[i] = r at *
  simp only [okAt, Bool.and_eq_true] at h1
  obtain ⟨⟨⟨⟨⟨k1, k2⟩, k3⟩, k4⟩, k5⟩, k6⟩ := h1
  refine ⟨?_, ?_, ?_, ?_, ?_, ?_, ?_⟩
  · intro e he hb
    have := Array.all_eq_true_iff_forall_mem.1 k1 e he
    simpa [hb] using this
  · intro cs b e
    rw [e] at k2
    cases k2
  · intro d hd
    rw [hd] at k3
    simp only [Bool.and_eq_true, decide_eq_true_eq, List.all_eq_true, List.mem_range, Bool.or_eq_true, beq_iff_eq, bne_iff_ne, ne_eq] at k3
    refine ⟨k3.1, fun j oj hj hdj => ?_⟩
    rcases k3.2 j (lt_of_some hj) with e | e
    · exact e
    · exact absurd (by rw [hj]; exact hdj) e
  · intro t ht
    simp only [List.all_eq_true, Bool.or_eq_true] at k4
    rcases k4 t ht with (e | e) | e
    · exact .inl e
    · simp only [Bool.and_eq_true, beq_iff_eq] at e
      exact .inr (.inl (Prod.ext e.1 e.2))
    · refine .inr (.inr fun j oj hj hdj => ?_)
      have := e j (List.mem_range.2 (lt_of_some hj))
      simp only [hj, hdj, bne_self_eq_false, Bool.false_or, Bool.and_eq_true] at this
      exact this.1
  · intro q hq
    have := List.all_eq_true.1 k5 q hq
    simp only [Bool.and_eq_true, beq_iff_eq] at this
    exact this
  · rintro si rfl
    simp only [Bool.and_eq_true, Option.isNone_iff_eq_none, Option.isSome_iff_exists, beq_iff_eq] at k6
    obtain ⟨⟨⟨a1, d, a2⟩, a3⟩, a4⟩ := k6
    refine ⟨a1, ?_, d, a2, by rw [a4, a2]; rfl⟩
    split at a3
    · rename_i s hs; exact ⟨s, hs, a3⟩
    · cases a3
  · rintro t rfl
    simp only [Bool.and_eq_true, Option.isNone_iff_eq_none, List.any_eq_true, List.mem_range, beq_iff_eq] at k6
    obtain ⟨⟨a1, a2⟩, j, hj, ⟨a3, a4⟩, a5⟩ := k6
    cases hoj : ops[j]? with
    | none => rw [hoj] at a3; cases a3
    | some oj => rw [hoj] at a3; exact ⟨a1, a2, j, oj, hoj, a3, a4, a5⟩

theorem ok_fwd {codes : List (Nat × Nat)} (h : okB ops m codes rd = true) {i : Nat} {o : Oper} (ho : ops[i]? = some o) : ∀ e ∈ o.after, Region.binds .any e = true → e.on < i := by
  by_cases hi : i < codes.length
  · obtain ⟨_, _, ok⟩ := ok_at h ho (List.getElem?_eq_getElem hi)
    exact ok.fwd
  · unfold okB at h
    simp only [Bool.and_eq_true, List.all_eq_true, List.mem_range] at h
    have h1 := h.2 i (lt_of_some ho)
    rw [ho] at h1
    simp only [hi, decide_false, Bool.false_or, Bool.and_eq_true] at h1
    intro e he hb
    have := Array.all_eq_true_iff_forall_mem.1 h1.1 e he
    simpa [hb] using this
theorem ok_tail {codes : List (Nat × Nat)} (h : okB ops m codes rd = true) {i : Nat} {o : Oper} (ho : ops[i]? = some o) (hi : codes.length ≤ i) : ∀ j, j < codes.length → reachB ops 12 i j = true := by
  unfold okB at h
  simp only [Bool.and_eq_true, List.all_eq_true, List.mem_range] at h
  have h1 := h.2 i (lt_of_some ho)
  rw [ho] at h1
  have hn : ¬ i < codes.length := by omega
  simp only [hn, decide_false, Bool.false_or, Bool.and_eq_true] at h1
  intro j hj
  exact List.all_eq_true.1 h1.2 j (List.mem_range.2 hj)
/-- what is closed under waiting holds of all that a chain leads to -/
theorem reach_of {S : Nat → Prop} (hS : ∀ (i : Nat) (o : Oper) j, ops[i]? = some o → bindsTo o j = true → S i → S j) : ∀ (f i j : Nat), reachB ops f i j = true → S i → S j
  | 0, i, j, h, hi => by
    unfold reachB at h
    cases ho : ops[i]? with
    | none => rw [ho] at h; cases h
    | some o => rw [ho] at h; exact hS i o j ho h hi
  | f + 1, i, j, h, hi => by
    unfold reachB at h
    simp only [Bool.or_eq_true, List.any_eq_true, Bool.and_eq_true] at h
    rcases h with h | ⟨k, _, h1, h2⟩
    · cases ho : ops[i]? with
      | none => rw [ho] at h; cases h
      | some o => rw [ho] at h; exact hS i o j ho h hi
    · cases ho : ops[i]? with
      | none => rw [ho] at h1; cases h1
      | some o => rw [ho] at h1; exact reach_of hS f k j h2 (hS i o k ho h1 hi)
/-- the same, the first operation itself not known to hold -/
theorem reach_from {S : Nat → Prop} (hS : ∀ (i : Nat) (o : Oper) j, ops[i]? = some o → bindsTo o j = true → S i → S j) {i : Nat} {o : Oper} (ho : ops[i]? = some o) (h0 : ∀ j, bindsTo o j = true → S j) : ∀ (f j : Nat), reachB ops f i j = true → S j
  | 0, j, h => by unfold reachB at h; rw [ho] at h; exact h0 j h
  | f + 1, j, h => by
    unfold reachB at h
    simp only [Bool.or_eq_true, List.any_eq_true, Bool.and_eq_true] at h
    rcases h with h | ⟨k, _, h1, h2⟩
    · rw [ho] at h; exact h0 j h
    · rw [ho] at h1; exact reach_of hS f k j h2 (h0 k h1)
theorem ok_sp {codes : List (Nat × Nat)} (hc : sp.map RK.code = codes) (h : okB ops m codes rd = true) {i : Nat} {o : Oper} (ho : ops[i]? = some o) {k : RK} (hk : sp[i]? = some k) : ∃ r, rd[i]? = some r ∧ OkAt ops m codes i o k.code r :=
  ok_at h ho (by rw [← hc, List.getElem?_map, hk]; rfl)

/-- What holds of a state in which the listed operations are done. -/
structure Inv (ops : Array Oper) (sp : List RK) (A : Act) (w0 : World) (listed : Array Bool) (a : Act) (w : World) : Prop where
  len : listed.size = ops.size
  defers : a.defers = A.defers
  size : a.tmps.size = A.tmps.size
  below : Below w0.heap.size w0 w
  vals : ∀ (i : Nat) (o : Oper) t p, ops[i]? = some o → o.dst = some t → sp[i]? = some (.val p) → listed.getD i false = true → p (a.tmps.getD t undef) w
  olds : ∀ t, (∀ (i : Nat) (o : Oper), ops[i]? = some o → o.dst = some t → listed.getD i false = false) → a.tmps.getD t undef = A.tmps.getD t undef
  news : ∀ (i : Nat) (o : Oper) t ty z cs si, ops[i]? = some o → o.dst = some t → sp[i]? = some (.new ty z cs si) → listed.getD i false = true →
    ∃ g, a.tmps.getD t undef = .pointer (some ⟨g, 0, none⟩) ∧ w0.heap.size ≤ g ∧ Box w g ty (if listed.getD si false = true then cs else z)
  apart : ∀ (i j : Nat) (o o' : Oper) t t' ty z cs si ty' z' cs' si', ops[i]? = some o → o.dst = some t → sp[i]? = some (.new ty z cs si) → listed.getD i false = true →
    ops[j]? = some o' → o'.dst = some t' → sp[j]? = some (.new ty' z' cs' si') → listed.getD j false = true → i ≠ j → a.tmps.getD t undef ≠ a.tmps.getD t' undef
  down : ∀ (i : Nat) (o : Oper), ops[i]? = some o → listed.getD i false = true → ∀ e ∈ o.after, Region.binds .any e = true → listed.getD e.on false = true

theorem set_getD {listed : Array Bool} {i : Nat} (hi : i < listed.size) (j : Nat) : (listed.setIfInBounds i true).getD j false = true ↔ j = i ∨ listed.getD j false = true := by
  by_cases h : i = j
  · subst h; simp [hi]
  · simp [Array.getElem?_setIfInBounds_ne h, Ne.symm h]
theorem set_getD_ne {listed : Array Bool} {i j : Nat} (h : j ≠ i) : (listed.setIfInBounds i true).getD j false = listed.getD j false := by
  simp [Array.getElem?_setIfInBounds_ne (Ne.symm h)]
theorem getD_false {listed : Array Bool} {i : Nat} (h : listed.getD i true = false) : listed.getD i false = false := by
  rcases Nat.lt_or_ge i listed.size with hl | hl
  · simp [hl] at h ⊢; exact h
  · simp [Array.getElem?_eq_none hl]

theorem bindsTo_spec {o : Oper} {j : Nat} (h : bindsTo o j = true) : ∃ e ∈ o.after, Region.binds .any e = true ∧ e.on = j := by
  obtain ⟨e, he, hb⟩ := Array.any_eq_true'.1 h
  simp only [Bool.and_eq_true, beq_iff_eq] at hb
  exact ⟨e, he, hb.1, hb.2⟩

theorem inv_step {codes : List (Nat × Nat)} (hc : sp.map RK.code = codes) (hm : A.tmps.size = m) (hok : okB ops m codes rd = true) (hst : Stabs w0.heap.size (tysOf sp) sp sp)
    (hob : Obs P ops sp A w0 ops.toList sp rd) {Q : Exit → Act → World → Prop} {listed : Array Bool} {a : Act} {w : World} (I : Inv ops sp A w0 listed a w) {i : Nat} (hi : i ∈ Region.ready .any ops listed) (hlin : i < codes.length) :
    wpOp P ops Q i (Inv ops sp A w0 (listed.setIfInBounds i true)) a w := by
  obtain ⟨hl0, o, ho, hall⟩ := mem_ready.1 hi
  have hl := getD_false hl0
  have hci : codes[i]? = some codes[i] := List.getElem?_eq_getElem hlin
  obtain ⟨r, hri, ok⟩ := ok_at hok ho hci
  generalize codes[i] = c at *
  have hil : i < listed.size := by rw [I.len]; exact lt_of_some ho
  obtain ⟨k, hk, hkc⟩ : ∃ k, sp[i]? = some k ∧ k.code = c := by
    rw [← hc, List.getElem?_map] at hci
    cases hs : sp[i]? with
    | none => rw [hs] at hci; cases hci
    | some k => rw [hs] at hci; exact ⟨k, rfl, by simpa using hci⟩
  have hOb := hob.get (by simpa using ho) hk hri
  have hpred : ∀ j, bindsTo o j = true → listed.getD j false = true := fun j hj => by
    obtain ⟨e, he, hb, rfl⟩ := bindsTo_spec hj
    exact hall e he hb
  -- the values read are those of a
  have hrd : ∀ q ∈ r, ∀ p, sp[q.2]? = some (.val p) → p (a.tmps.getD q.1 undef) w := fun q hq p hp => by
    obtain ⟨e1, e2⟩ := ok.reads q hq
    cases hoq : ops[q.2]? with
    | none => rw [hoq] at e1; cases e1
    | some oq => rw [hoq] at e1; exact I.vals q.2 oq q.1 p hoq e1 hp (hpred _ e2)
  have hold : ∀ t, (∀ (j : Nat) (oj : Oper), ops[j]? = some oj → oj.dst = some t → bindsTo oj i = true) → a.tmps.getD t undef = A.tmps.getD t undef := fun t ht => by
    refine I.olds t fun j oj hj hdj => ?_
    cases hlj : listed.getD j false with
    | false => rfl
    | true =>
      obtain ⟨e, he, hb, rfl⟩ := bindsTo_spec (ht j oj hj hdj)
      rw [I.down j oj hj hlj e he hb] at hl
      cases hl
  -- how the invariant goes on
  have downs : ∀ (j : Nat) (oj : Oper), ops[j]? = some oj → (listed.setIfInBounds i true).getD j false = true → ∀ e ∈ oj.after, Region.binds .any e = true → (listed.setIfInBounds i true).getD e.on false = true := by
    intro j oj hj hlj e he hb
    rw [set_getD hil] at hlj ⊢
    rcases hlj with rfl | hlj
    · rw [ho] at hj; cases hj; exact .inr (hall e he hb)
    · exact .inr (I.down j oj hj hlj e he hb)
  have mdst : ∀ d, o.dst = some d → d < a.tmps.size := fun d hd => by rw [I.size, hm]; exact (ok.dst d hd).1
  have other : ∀ (j : Nat) (oj : Oper) t v, ops[j]? = some oj → oj.dst = some t → j ≠ i → (a.put o.dst v).tmps.getD t undef = a.tmps.getD t undef := by
    intro j oj t v hj hdj hne
    cases hd : o.dst with
    | none => rfl
    | some d => exact put_getD_ne a v fun e => hne ((ok.dst d hd).2 j oj hj (e ▸ hdj))
  have olds : ∀ v t, (∀ (j : Nat) (oj : Oper), ops[j]? = some oj → oj.dst = some t → (listed.setIfInBounds i true).getD j false = false) → (a.put o.dst v).tmps.getD t undef = A.tmps.getD t undef := by
    intro v t ht
    have hne : o.dst ≠ some t := fun e => by
      have := ht i o ho e
      rw [(set_getD hil i).2 (.inl rfl)] at this
      cases this
    have h1 : (a.put o.dst v).tmps.getD t undef = a.tmps.getD t undef := by
      cases hd : o.dst with
      | none => rfl
      | some d => exact put_getD_ne a v fun e => hne (by rw [hd, e])
    rw [h1]
    refine I.olds t fun j oj hj hdj => ?_
    cases hlj : listed.getD j false with
    | false => rfl
    | true => rw [← ht j oj hj hdj, (set_getD hil j).2 (.inr hlj)]
  -- the three kinds
  have valK : ∀ p, k = .val p → ∀ v w', k.post 0 w (rvT o.dst v) w' → Inv ops sp A w0 (listed.setIfInBounds i true) (a.put o.dst v) w' := by
    rintro p rfl v w' ⟨hp, hb⟩
    refine ⟨by simpa using I.len, (put_def _ _ _).trans I.defers, (put_size _ _ _).trans I.size, I.below.trans (hb.mono I.below.size), ?_, olds v, ?_, ?_, downs⟩
    · intro j oj t q hj hdj hq hlj
      by_cases hji : j = i
      · subst hji
        rw [ho] at hj; cases hj
        rw [hk] at hq; cases hq
        rw [hdj, put_getD_eq _ _ (mdst t hdj)]
        rw [hdj] at hp
        exact hp
      · rw [other j oj t v hj hdj hji]
        rw [set_getD_ne hji] at hlj
        exact hst.val_at hq _ _ _ (Gr.of_below hb) (I.vals j oj t q hj hdj hq hlj)
    · intro j oj t ty z cs si hj hdj hq hlj
      have hji : j ≠ i := fun e => by subst e; rw [hk] at hq; cases hq
      rw [set_getD_ne hji] at hlj
      obtain ⟨g, hg, hg0, hbx⟩ := I.news j oj t ty z cs si hj hdj hq hlj
      refine ⟨g, (other j oj t v hj hdj hji).trans hg, hg0, ?_⟩
      have hsi : si ≠ i := fun e => by
        obtain ⟨r2, _, ok2⟩ := ok_sp hc hok hj hq
        obtain ⟨_, _, d, _, hd2⟩ := ok2.new si rfl
        rw [← hc, List.getElem?_map, e, hk] at hd2
        simp [RK.code] at hd2
      rw [set_getD_ne hsi]
      exact hbx.below hb hbx.lt
    · intro j j' oj oj' t t' ty z cs si ty' z' cs' si' hj hdj hq hlj hj' hdj' hq' hlj' hne
      have hji : j ≠ i := fun e => by subst e; rw [hk] at hq; cases hq
      have hji' : j' ≠ i := fun e => by subst e; rw [hk] at hq'; cases hq'
      rw [other j oj t v hj hdj hji, other j' oj' t' v hj' hdj' hji']
      rw [set_getD_ne hji] at hlj
      rw [set_getD_ne hji'] at hlj'
      exact I.apart j j' oj oj' t t' ty z cs si ty' z' cs' si' hj hdj hq hlj hj' hdj' hq' hlj' hne
  have newK : ∀ ty z cs si, k = .new ty z cs si → ∀ v w', k.post 0 w (rvT o.dst v) w' → Inv ops sp A w0 (listed.setIfInBounds i true) (a.put o.dst v) w' := by
    rintro ty z cs si rfl v w' ⟨hv, rfl⟩
    obtain ⟨hgd, ⟨s, hs, hsb⟩, d, hd, hsd⟩ := ok.new si hkc.symm
    have hlsi : listed.getD si false = false := by
      cases e : listed.getD si false with
      | false => rfl
      | true =>
        obtain ⟨e1, he1, hb1, e2⟩ := bindsTo_spec hsb
        have := I.down si s hs e e1 he1 hb1
        rw [e2, hl] at this
        cases this
    have hsine : si ≠ i := fun e => by
      obtain ⟨e1, he1, hb1, e2⟩ := bindsTo_spec hsb
      have := ok_fwd hok hs e1 he1 hb1
      omega
    rw [hd] at hv
    have hv : v = .pointer (some ⟨w.heap.size, 0, none⟩) := hv
    have hb : Below w.heap.size w (w.alloc (.cells z ty)) := (Below.refl _ _).alloc (Nat.le_refl _) _
    refine ⟨by simpa using I.len, (put_def _ _ _).trans I.defers, (put_size _ _ _).trans I.size, I.below.trans (hb.mono I.below.size), ?_, olds v, ?_, ?_, downs⟩
    · intro j oj t q hj hdj hq hlj
      have hji : j ≠ i := fun e => by subst e; rw [hk] at hq; cases hq
      rw [other j oj t v hj hdj hji]
      rw [set_getD_ne hji] at hlj
      exact hst.val_at hq _ _ _ (Gr.of_below hb) (I.vals j oj t q hj hdj hq hlj)
    · intro j oj t ty' z' cs' si' hj hdj hq hlj
      by_cases hji : j = i
      · subst hji
        rw [ho] at hj; cases hj
        rw [hk] at hq; cases hq
        rw [hd] at hdj; cases hdj
        refine ⟨w.heap.size, ?_, I.below.size, ?_⟩
        · rw [hd, put_getD_eq _ _ (mdst _ hd)]; exact hv
        · rw [set_getD_ne hsine, hlsi]
          exact Box.new w ty z
      · rw [set_getD_ne hji] at hlj
        obtain ⟨g, hg, hg0, hbx⟩ := I.news j oj t ty' z' cs' si' hj hdj hq hlj
        refine ⟨g, (other j oj t v hj hdj hji).trans hg, hg0, ?_⟩
        have hsi : si' ≠ i := fun e => by
          obtain ⟨r2, _, ok2⟩ := ok_sp hc hok hj hq
          obtain ⟨_, _, d2, _, hd2⟩ := ok2.new si' rfl
          rw [← hc, List.getElem?_map, e, hk] at hd2
          simp [RK.code] at hd2
        rw [set_getD_ne hsi]
        exact hbx.below hb hbx.lt
    · have fresh : ∀ (j : Nat) (oj : Oper) t ty' z' cs' si', ops[j]? = some oj → oj.dst = some t → sp[j]? = some (.new ty' z' cs' si') → listed.getD j false = true → a.tmps.getD t undef ≠ v := by
        intro j oj t ty' z' cs' si' hj hdj hq hlj e
        obtain ⟨g, hg, _, hbx⟩ := I.news j oj t ty' z' cs' si' hj hdj hq hlj
        have := hbx.lt
        rw [hg, hv] at e
        injection e with e
        injection e with e
        injection e with e
        omega
      intro j j' oj oj' t t' ty1 z1 cs1 si1 ty2 z2 cs2 si2 hj hdj hq hlj hj' hdj' hq' hlj' hne
      by_cases hji : j = i
      · subst hji
        have hji' : j' ≠ j := Ne.symm hne
        rw [ho] at hj; cases hj
        rw [other j' oj' t' v hj' hdj' hji', hdj, put_getD_eq _ _ (mdst _ hdj)]
        rw [set_getD_ne hji'] at hlj'
        exact Ne.symm (fresh j' oj' t' _ _ _ _ hj' hdj' hq' hlj')
      · by_cases hji' : j' = i
        · subst hji'
          rw [ho] at hj'; cases hj'
          rw [other j oj t v hj hdj hji, hdj', put_getD_eq _ _ (mdst _ hdj')]
          rw [set_getD_ne hji] at hlj
          exact fresh j oj t _ _ _ _ hj hdj hq hlj
        · rw [other j oj t v hj hdj hji, other j' oj' t' v hj' hdj' hji']
          rw [set_getD_ne hji] at hlj
          rw [set_getD_ne hji'] at hlj'
          exact I.apart j j' oj oj' t t' _ _ _ _ _ _ _ _ hj hdj hq hlj hj' hdj' hq' hlj' hne
  unfold wpOp
  simp only [ho]
  cases k with
  | val p =>
    have hG := Reads.use (a := a) (hOb w I.below) hrd
    have hlk : ∀ t ∈ o.looksAt ops, a.tmps.getD t undef = (over a r A).tmps.getD t undef := fun t ht => by
      rcases ok.looks t ht with h | h | h
      · exact (over_hit a r A t I.size.symm h).symm
      · rw [← hkc] at h; simp [RK.code] at h
      · exact (over_keep a r A t I.size.symm (hold t h).symm).symm
    have hev : ∀ x ∈ o.op.operands, a.eval x = (over a r A).eval x := fun x hx => by
      cases x with
      | tmp t => exact hlk t (List.mem_append_left _ (List.mem_filterMap.2 ⟨.tmp t, by simpa using hx, rfl⟩))
      | _ => rfl
    have hsz : a.tmps.size = (over a r A).tmps.size := by rw [over_size, I.size]
    have run : Run P o (.val p) A.defers 0 w (over a r A) → o.wp P a w (Inv ops sp A w0 (listed.setIfInBounds i true)) Q := fun h =>
      h.use ok.sel hev (fun d hd => by rw [← hsz]; exact mdst d hd) (over_defers _ _ _) fun v w' hp => valK p rfl v w' hp
    unfold Run' at hG
    cases hgd : o.guard with
    | none =>
      rw [hgd] at hG
      have : Region.wanted o (yielded ops a.tmps) = true := by unfold Region.wanted; rw [hgd]
      simp only [this, if_true]
      exact .inl (run hG)
    | some gw =>
      rw [hgd] at hG
      have hwa : Region.wanted o (yielded ops a.tmps) = Region.wanted o (yielded ops (over a r A).tmps) := by
        obtain ⟨gi, want⟩ := gw
        unfold Region.wanted
        simp only [hgd]
        rw [yields_eq hsz fun t ht => hlk t (List.mem_append_right _ (by rw [hgd]; simp [ht]))]
      split
      · rename_i hw
        exact .inl (run (hG.1 (by rw [← hwa]; exact hw)))
      · rename_i hw
        have := hG.2 (by rw [← hwa]; simpa using hw)
        refine valK p rfl undef w ?_
        cases hd : o.dst with
        | none => exact this
        | some d => exact this
  | new ty z cs si =>
    obtain ⟨hgd, _, d, hd, _⟩ := ok.new si hkc.symm
    have hG := Reads.use (a := a) (hOb w I.below) hrd
    have hlk : ∀ t ∈ o.looksAt ops, a.tmps.getD t undef = (over a r A).tmps.getD t undef := fun t ht => by
      rcases ok.looks t ht with h | h | h
      · exact (over_hit a r A t I.size.symm h).symm
      · rw [← hkc] at h; simp [RK.code] at h
      · exact (over_keep a r A t I.size.symm (hold t h).symm).symm
    have hev : ∀ x ∈ o.op.operands, a.eval x = (over a r A).eval x := fun x hx => by
      cases x with
      | tmp t => exact hlk t (List.mem_append_left _ (List.mem_filterMap.2 ⟨.tmp t, by simpa using hx, rfl⟩))
      | _ => rfl
    have hsz : a.tmps.size = (over a r A).tmps.size := by rw [over_size, I.size]
    unfold Run' at hG
    rw [hgd] at hG
    have : Region.wanted o (yielded ops a.tmps) = true := by unfold Region.wanted; rw [hgd]
    simp only [this, if_true]
    exact .inl (Run.use hG ok.sel hev (fun d hd => by rw [← hsz]; exact mdst d hd) (over_defers _ _ _) fun v w' hp => newK ty z cs si rfl v w' hp)
  | put ty z cs t =>
    obtain ⟨hgd, hdn, j, oj, hj, hdj, hbj, hcj⟩ := ok.put t hkc.symm
    obtain ⟨kj, hkj, hkjc⟩ : ∃ kj, sp[j]? = some kj ∧ kj.code = (1, i) := by
      rw [← hc, List.getElem?_map] at hcj
      cases hs : sp[j]? with
      | none => rw [hs] at hcj; cases hcj
      | some kj => rw [hs] at hcj; exact ⟨kj, rfl, by simpa using hcj⟩
    cases kj with
    | val _ => simp [RK.code] at hkjc
    | put _ _ _ _ => simp [RK.code] at hkjc
    | new ty' z' cs' si =>
      obtain rfl : si = i := by simpa [RK.code] using hkjc
      obtain ⟨rfl, rfl, rfl⟩ := hst.new_at hkj hk
      obtain ⟨g, hg, hg0, hbx⟩ := I.news j oj t _ _ _ _ hj hdj hkj (hpred j hbj)
      rw [hl] at hbx
      simp only [Bool.false_eq_true, if_false] at hbx
      have hG := Reads.use (a := a) (hOb w I.below g hg0 hbx) hrd
      generalize hA' : A.put (some t) (.pointer (some ⟨g, 0, none⟩)) = A' at hG
      have hsA : A'.tmps.size = a.tmps.size := by rw [← hA', put_size, I.size]
      have htA : A'.tmps.getD t undef = a.tmps.getD t undef := by
        rw [hg, ← hA']
        exact put_getD_eq _ _ (by
          obtain ⟨_, _, ok2⟩ := ok_sp hc hok hj hkj
          rw [hm]; exact (ok2.dst t hdj).1)
      have hnA : ∀ u, u ≠ t → A'.tmps.getD u undef = A.tmps.getD u undef := fun u hu => by rw [← hA']; exact put_getD_ne _ _ (Ne.symm hu)
      have hlk : ∀ u ∈ o.looksAt ops, a.tmps.getD u undef = (over a r A').tmps.getD u undef := fun u hu => by
        rcases ok.looks u hu with h | h | h
        · exact (over_hit a r A' u hsA h).symm
        · rw [← hkc] at h
          obtain rfl : t = u := by simpa [RK.code] using h
          exact (over_keep a r A' t hsA htA).symm
        · refine (over_keep a r A' u hsA ?_).symm
          by_cases hu' : u = t
          · subst hu'; exact htA
          · rw [hnA u hu', hold u h]
      have hev : ∀ x ∈ o.op.operands, a.eval x = (over a r A').eval x := fun x hx => by
        cases x with
        | tmp u => exact hlk u (List.mem_append_left _ (List.mem_filterMap.2 ⟨.tmp u, by simpa using hx, rfl⟩))
        | _ => rfl
      have : Region.wanted o (yielded ops a.tmps) = true := by unfold Region.wanted; rw [hgd]
      simp only [this, if_true]
      refine .inl (Run.use hG ok.sel hev (fun d hd => by rw [hdn] at hd; cases hd) (by rw [over_defers, ← hA', put_def]) fun v w' hp => ?_)
      have hS : Stored w g _ _ w' := hp
      refine ⟨by simpa using I.len, (put_def _ _ _).trans I.defers, (put_size _ _ _).trans I.size, hS.below I.below hg0, ?_, olds v, ?_, ?_, downs⟩
      · intro j' oj' t' q hj' hdj' hq hlj'
        have hji : j' ≠ si := fun e => by subst e; rw [hk] at hq; cases hq
        rw [other j' oj' t' v hj' hdj' hji]
        rw [set_getD_ne hji] at hlj'
        exact hst.val_at hq _ _ _ (Gr.of_stored hS hbx hg0 (mem_tysOf hkj)) (I.vals j' oj' t' q hj' hdj' hq hlj')
      · intro j' oj' t' ty' z' cs' si' hj' hdj' hq hlj'
        have hji : j' ≠ si := fun e => by subst e; rw [hk] at hq; cases hq
        rw [set_getD_ne hji] at hlj'
        by_cases hjj : j' = j
        · subst hjj
          rw [hj] at hj'; cases hj'
          rw [hkj] at hq; cases hq
          rw [hdj] at hdj'; cases hdj'
          refine ⟨g, (other j' oj t v hj hdj hji).trans hg, hg0, ?_⟩
          rw [(set_getD hil si).2 (.inl rfl)]
          exact hS.box
        · obtain ⟨g', hg', hg0', hbx'⟩ := I.news j' oj' t' ty' z' cs' si' hj' hdj' hq hlj'
          have hsi : si' ≠ si := fun e => by
            obtain ⟨r2, _, ok2⟩ := ok_sp hc hok hj' hq
            obtain ⟨_, _, d2, hd3, hd2⟩ := ok2.new si' rfl
            rw [← hc, List.getElem?_map, e, hk] at hd2
            have e2 : t = d2 := by simpa [RK.code] using hd2
            obtain ⟨_, _, ok3⟩ := ok_sp hc hok hj hkj
            exact hjj ((ok3.dst t hdj).2 j' oj' hj' (e2 ▸ hd3))
          refine ⟨g', (other j' oj' t' v hj' hdj' hji).trans hg', hg0', ?_⟩
          rw [set_getD_ne hsi]
          have hgg : g' ≠ g := fun e => by
            have := I.apart j' j oj' oj t' t _ _ _ _ _ _ _ _ hj' hdj' hq hlj' hj hdj hkj (hpred j hbj) hjj
            rw [hg', hg, e] at this
            exact this rfl
          exact (hS.rest g' hgg).trans hbx'
      · intro j1 j2 o1 o2 t1 t2 ty1 z1 cs1 si1 ty2 z2 cs2 si2 h1 hd1 hq1 hl1 h2 hd2 hq2 hl2 hne
        have n1 : j1 ≠ si := fun e => by subst e; rw [hk] at hq1; cases hq1
        have n2 : j2 ≠ si := fun e => by subst e; rw [hk] at hq2; cases hq2
        rw [other j1 o1 t1 v h1 hd1 n1, other j2 o2 t2 v h2 hd2 n2]
        rw [set_getD_ne n1] at hl1
        rw [set_getD_ne n2] at hl2
        exact I.apart j1 j2 o1 o2 t1 t2 _ _ _ _ _ _ _ _ h1 hd1 hq1 hl1 h2 hd2 hq2 hl2 hne

def unl (listed : Array Bool) : Nat := listed.toList.countP (· == false)
theorem countP_set_true : ∀ (l : List Bool) (i : Nat), l[i]? = some false → (l.set i true).countP (· == false) + 1 = l.countP (· == false)
  | [], i, h => by simp at h
  | x :: l, 0, h => by simp at h; subst h; simp
  | x :: l, i + 1, h => by
    have := countP_set_true l i (by simpa using h)
    simp only [List.set_cons_succ, List.countP_cons]
    omega
theorem unl_set {listed : Array Bool} {i : Nat} (h : listed.getD i true = false) : unl (listed.setIfInBounds i true) + 1 = unl listed := by
  unfold unl
  have hi : i < listed.size := by
    rcases Nat.lt_or_ge i listed.size with hl | hl
    · exact hl
    · simp [Array.getElem?_eq_none hl] at h
  rw [Array.toList_setIfInBounds]
  exact countP_set_true _ _ (by simpa [hi] using h)
theorem rep_false (n i : Nat) : ¬ (Array.replicate n false).getD i false = true := by
  rcases Nat.lt_or_ge i n with h | h
  · simp [h]
  · simp [Array.getElem?_eq_none (show (Array.replicate n false).size ≤ i by simpa using h)]
theorem ready_nil {listed : Array Bool} (hlen : listed.size = ops.size) (hf : ∀ (i : Nat) (o : Oper), ops[i]? = some o → ∀ e ∈ o.after, Region.binds .any e = true → e.on < i) (h : Region.ready .any ops listed = []) :
    ∀ (i : Nat) (o : Oper), ops[i]? = some o → listed.getD i false = true := by
  intro i
  induction i using Nat.strongRecOn with
  | ind i ih =>
    intro o ho
    cases hl : listed.getD i false with
    | true => rfl
    | false =>
      have hi : i < listed.size := by rw [hlen]; exact lt_of_some ho
      have : i ∈ Region.ready .any ops listed := mem_ready.2 ⟨by simp [hi] at hl ⊢; exact hl, o, ho, fun e he hb => by
        have hlt := hf i o ho e he hb
        obtain ⟨o2, ho2⟩ : ∃ o2, ops[e.on]? = some o2 := ⟨_, Array.getElem?_eq_getElem (by have := lt_of_some ho; omega)⟩
        exact ih e.on hlt o2 ho2⟩
      rw [h] at this
      cases this

theorem any_of_inv {I : Array Bool → Act → World → Prop} {Q : Exit → Act → World → Prop} (hlen : ∀ l a w, I l a w → l.size = ops.size)
    (hstep : ∀ l a w i, I l a w → i ∈ Region.ready .any ops l → wpOp P ops Q i (I (l.setIfInBounds i true)) a w)
    (hend : ∀ l a w, I l a w → Region.ready .any ops l = [] → Q .normal a w) :
    ∀ fuel l a w, unl l ≤ fuel → I l a w → wpAny P .any ops Q fuel l a w := by
  intro fuel
  induction fuel with
  | zero =>
    intro l a w hu h
    have hr : Region.ready .any ops l = [] := by
      cases hr : Region.ready .any ops l with
      | nil => rfl
      | cons i r =>
        have hi : i ∈ Region.ready .any ops l := by rw [hr]; exact List.mem_cons_self
        have := unl_set (mem_ready.1 hi).1
        omega
    exact ⟨hr, hend l a w h hr⟩
  | succ fuel ih =>
    intro l a w hu h
    refine ⟨hend l a w h, fun i hi => ?_⟩
    have := unl_set (mem_ready.1 hi).1
    exact wpOp_mono (fun a' w' h' => ih _ a' w' (by omega) h') (hstep l a w i h hi)

/-- The state behind the region, its slots filled from a's. -/
def overO (a : Act) : List Oper → Act → Act
  | [], A => A
  | o :: os, A => overO a os (match o.dst with | some t => A.put (some t) (a.tmps.getD t undef) | none => A)
theorem overO_size (a : Act) : ∀ (os : List Oper) (A : Act), (overO a os A).tmps.size = A.tmps.size
  | [], A => rfl
  | o :: os, A => by
    unfold overO
    rw [overO_size a os]
    cases o.dst <;> simp [put_size]
theorem overO_defers (a : Act) : ∀ (os : List Oper) (A : Act), (overO a os A).defers = A.defers
  | [], A => rfl
  | o :: os, A => by
    unfold overO
    rw [overO_defers a os]
    cases o.dst <;> simp [put_def]
theorem overO_keep (a : Act) : ∀ (os : List Oper) (A : Act) (t : Tmp), A.tmps.size = a.tmps.size → A.tmps.getD t undef = a.tmps.getD t undef → (overO a os A).tmps.getD t undef = a.tmps.getD t undef
  | [], A, t, _, h => h
  | o :: os, A, t, hs, h => by
    unfold overO
    cases hd : o.dst with
    | none => exact overO_keep a os _ t hs h
    | some s =>
      have := over_keep a [(s, 0)] A t hs h
      exact overO_keep a os _ t ((put_size _ _ _).trans hs) this
theorem overO_hit (a : Act) : ∀ (os : List Oper) (A : Act) (t : Tmp), A.tmps.size = a.tmps.size → (∃ o ∈ os, o.dst = some t) → (overO a os A).tmps.getD t undef = a.tmps.getD t undef
  | [], A, t, _, h => by obtain ⟨_, h, _⟩ := h; cases h
  | o :: os, A, t, hs, h => by
    unfold overO
    by_cases e : o.dst = some t
    · rw [e]
      exact overO_keep a os _ t ((put_size _ _ _).trans hs) (over_hit a [(t, 0)] A t hs (by simp))
    · have h' : ∃ o ∈ os, o.dst = some t := by
        obtain ⟨o', ho', hd'⟩ := h
        rcases List.mem_cons.1 ho' with rfl | ho'
        · exact absurd hd' e
        · exact ⟨o', ho', hd'⟩
      cases hd : o.dst with
      | none => exact overO_hit a os _ t hs h'
      | some s => exact overO_hit a os _ t ((put_size _ _ _).trans hs) h'
theorem Act.same {a b : Act} (hd : a.defers = b.defers) (hs : a.tmps.size = b.tmps.size) (h : ∀ t, a.tmps.getD t undef = b.tmps.getD t undef) : a = b := by
  obtain ⟨at_, ad⟩ := a
  obtain ⟨bt, bd⟩ := b
  simp only at hd hs h
  subst hd
  have : at_ = bt := by
    refine Array.ext hs fun i h1 h2 => ?_
    have := h i
    simpa [h1, h2] using this
  rw [this]
theorem Fin.use {w : World} {G : Act → Prop} {a : Act} : ∀ {os : List Oper} {ks : List RK} {A : Act}, os.length = ks.length → Fin h0 w G os ks A →
    (∀ (i : Nat) (o : Oper) t p, os[i]? = some o → o.dst = some t → ks[i]? = some (.val p) → p (a.tmps.getD t undef) w) →
    (∀ (i : Nat) (o : Oper) t ty z cs si, os[i]? = some o → o.dst = some t → ks[i]? = some (.new ty z cs si) → ∃ g, a.tmps.getD t undef = .pointer (some ⟨g, 0, none⟩) ∧ h0 ≤ g ∧ Box w g ty cs) →
    (∀ (i : Nat) (o : Oper) t ty z cs t', os[i]? = some o → o.dst = some t → ks[i]? = some (.put ty z cs t') → False) → G (overO a os A)
  | [], [], A, _, h, _, _, _ => h
  | o :: os, k :: ks, A, hl, h, hv, hn, hp => by
    have hl' : os.length = ks.length := by simpa using hl
    have hv' := fun i o' t p h1 h2 h3 => hv (i + 1) o' t p (by simpa using h1) h2 (by simpa using h3)
    have hn' := fun i o' t ty z cs si h1 h2 h3 => hn (i + 1) o' t ty z cs si (by simpa using h1) h2 (by simpa using h3)
    have hp' := fun i o' t ty z cs t' h1 h2 h3 => hp (i + 1) o' t ty z cs t' (by simpa using h1) h2 (by simpa using h3)
    unfold Fin at h
    unfold overO
    cases hd : o.dst with
    | none =>
      rw [hd] at h
      exact Fin.use (os := os) (ks := ks) hl' (by cases k <;> exact h) hv' hn' hp'
    | some t =>
      rw [hd] at h
      cases k with
      | val p => exact Fin.use (os := os) (ks := ks) hl' (h _ (hv 0 o t p rfl hd rfl)) hv' hn' hp'
      | new ty z cs si =>
        obtain ⟨g, hg, hg0, hb⟩ := hn 0 o t ty z cs si rfl hd rfl
        have h2 := h g hg0 hb
        rw [← hg] at h2
        exact Fin.use (os := os) (ks := ks) hl' h2 hv' hn' hp'
      | put ty z cs t' => exact (hp 0 o t ty z cs t' rfl hd rfl).elim
  | [], _ :: _, _, hl, _, _, _, _ => by simp at hl
  | _ :: _, [], _, hl, _, _, _, _ => by simp at hl

/-- Two variables that the region makes are two. -/
def Twos (ops : Array Oper) (codes : List (Nat × Nat)) (a : Act) : Prop := ∀ (i j : Nat) (o o' : Oper) t t' s s', ops[i]? = some o → o.dst = some t → codes[i]? = some (1, s) → ops[j]? = some o' → o'.dst = some t' → codes[j]? = some (1, s') → i ≠ j → a.tmps.getD t undef ≠ a.tmps.getD t' undef

def firsts (n k : Nat) : Array Bool := Array.ofFn (n := n) fun i => decide (i.1 < k)
theorem firsts_getD (n k i : Nat) : (firsts n k).getD i false = true ↔ i < n ∧ i < k := by
  unfold firsts
  rcases Nat.lt_or_ge i n with h | h
  · simp [h]
  · have : ¬ i < n := by omega
    simp [this]
theorem firsts_at (n k i : Nat) (h : i < n) : (firsts n k)[i]? = some (decide (i < k)) := by simp [firsts, h]
theorem firsts_size (n k : Nat) : (firsts n k).size = n := by simp [firsts]
theorem firsts_set {n k : Nat} (h : k < n) : (firsts n k).setIfInBounds k true = firsts n (k + 1) := by
  refine Array.ext_getElem? fun i => ?_
  rcases Nat.lt_or_ge i n with hi | hi
  · by_cases e : k = i
    · subst e
      rw [firsts_at _ _ _ hi, Array.getElem?_setIfInBounds_self_of_lt (by rw [firsts_size]; exact hi)]
      simp
    · rw [Array.getElem?_setIfInBounds_ne e, firsts_at _ _ _ hi, firsts_at _ _ _ hi]
      congr 1
      rw [decide_eq_decide]
      omega
  · rw [Array.getElem?_eq_none (by simp [firsts_size, hi]), Array.getElem?_eq_none (by rw [firsts_size]; exact hi)]
theorem firsts_zero (n : Nat) : firsts n 0 = Array.replicate n false := by
  refine Array.ext (by simp [firsts]) fun i h1 h2 => ?_
  simp [firsts]
theorem unl_firsts (n : Nat) : ∀ k, k ≤ n → unl (firsts n k) = n - k
  | 0, _ => by rw [firsts_zero]; unfold unl; simp [List.countP_replicate]
  | k + 1, h => by
    have h1 := unl_firsts n k (by omega)
    have h2 := unl_set (listed := firsts n k) (i := k) (by
      have e := firsts_at n k k (by omega)
      simp [e])
    rw [firsts_set (by omega)] at h2
    omega
theorem firsts_ext {l : Array Bool} {n k : Nat} (hs : l.size = n) (h : ∀ i, i < n → (l.getD i false = true ↔ i < k)) : l = firsts n k := by
  refine Array.ext (by rw [hs, firsts_size]) fun i h1 h2 => ?_
  have hi : i < n := by omega
  have e := firsts_at n k i hi
  rw [Array.getElem?_eq_getElem h2] at e
  injection e with e
  rw [e]
  have := h i hi
  simp [h1] at this
  by_cases hk : i < k
  · simp [hk, this]
  · simp [hk] at this ⊢; exact this
theorem any_upto {I : Array Bool → Act → World → Prop} {Q : Exit → Act → World → Prop} {n : Nat} (hn : n ≤ ops.size) (hlen : ∀ l a w, I l a w → l.size = ops.size)
    (hf : ∀ (i : Nat) (o : Oper), ops[i]? = some o → ∀ e ∈ o.after, Region.binds .any e = true → e.on < i)
    (htl : ∀ l a w, I l a w → ∀ i, n ≤ i → l.getD i false = false)
    (hstep : ∀ l a w i, I l a w → i ∈ Region.ready .any ops l → i < n → wpOp P ops Q i (I (l.setIfInBounds i true)) a w)
    (hwait : ∀ l a w i, I l a w → i ∈ Region.ready .any ops l → n ≤ i → ∀ j, j < n → l.getD j false = true)
    (hend : ∀ a w, I (firsts ops.size n) a w → wpAny P .any ops Q (ops.size - n) (firsts ops.size n) a w) :
    ∀ fuel l a w, unl l = fuel → I l a w → wpAny P .any ops Q fuel l a w := by
  intro fuel
  induction fuel with
  | zero =>
    intro l a w hu h
    have hl : l = firsts ops.size n := by
      have hr : Region.ready .any ops l = [] := by
        cases hr : Region.ready .any ops l with
        | nil => rfl
        | cons i r =>
          have hi : i ∈ Region.ready .any ops l := by rw [hr]; exact List.mem_cons_self
          have := unl_set (mem_ready.1 hi).1
          omega
      have hall := ready_nil (hlen l a w h) hf hr
      refine firsts_ext (hlen l a w h) fun i hi => ⟨fun _ => ?_, fun _ => hall i _ (Array.getElem?_eq_getElem hi)⟩
      rcases Nat.lt_or_ge i n with h' | h'
      · exact h'
      · have := hall i _ (Array.getElem?_eq_getElem hi)
        rw [htl l a w h i h'] at this; cases this
    subst hl
    rw [unl_firsts _ _ hn] at hu
    have := hend a w h
    rwa [hu] at this
  | succ fuel ih =>
    intro l a w hu h
    by_cases hl : l = firsts ops.size n
    · subst hl
      rw [unl_firsts _ _ hn] at hu
      have := hend a w h
      rwa [hu] at this
    · have hnr : ∀ i, i ∈ Region.ready .any ops l → i < n := fun i hi => by
        rcases Nat.lt_or_ge i n with h' | h'
        · exact h'
        · have hw := hwait l a w i h hi h'
          refine absurd (firsts_ext (hlen l a w h) fun j hj => ⟨fun hj2 => ?_, fun hj2 => hw j hj2⟩) hl
          rcases Nat.lt_or_ge j n with h'' | h''
          · exact h''
          · rw [htl l a w h j h''] at hj2; cases hj2
      refine ⟨fun hr => ?_, fun i hi => ?_⟩
      · have hall := ready_nil (hlen l a w h) hf hr
        refine absurd (firsts_ext (hlen l a w h) fun i hi => ⟨fun _ => ?_, fun _ => hall i _ (Array.getElem?_eq_getElem hi)⟩) hl
        rcases Nat.lt_or_ge i n with h' | h'
        · exact h'
        · have := hall i _ (Array.getElem?_eq_getElem hi)
          rw [htl l a w h i h'] at this; cases this
      · have := unl_set (mem_ready.1 hi).1
        exact wpOp_mono (fun a' w' h' => ih _ a' w' (by omega) h') (hstep l a w i h hi (hnr i hi))
/-- THE LAW: the head of a region that draws its order; behind it 'wpAny' with the head listed. -/
theorem region_hd {id : Nat} {Q : Exit → Act → World → Prop} (sp : List RK) (rd : List (List (Tmp × Nat))) (codes : List (Nat × Nat)) (m : Nat) (f : Nat) (l0 : Array Bool) (hmx : P.follows .mixedOrders = true)
    (hc : sp.map RK.code = codes) (hm : A.tmps.size = m) (hok : okB ops m codes rd = true) (hf0 : ops.size - codes.length = f) (hl0 : firsts ops.size codes.length = l0) (hst : Stabs w0.heap.size (tysOf sp) sp sp)
    (hob : Obs P ops sp A w0 ops.toList sp rd)
    (hfin : ∀ w, Below w0.heap.size w0 w → Fin w0.heap.size w (fun A' => wpAny P .any ops Q f l0 A' w) ops.toList sp A) : (Code.region id ops true).wp P Q A w0 := by
  subst hf0; subst hl0
  have hlen : codes.length ≤ ops.size := by
    unfold okB at hok
    simp only [Bool.and_eq_true, decide_eq_true_eq] at hok
    exact hok.1.1.1
  have hspl : sp.length = codes.length := by rw [← hc]; simp
  -- what the operations ahead of the tail come to
  have fin : ∀ l a w, Inv ops sp A w0 l a w → (∀ (i : Nat) (o : Oper), ops[i]? = some o → (l.getD i false = true ↔ i < codes.length)) → wpAny P .any ops Q (ops.size - codes.length) (firsts ops.size codes.length) a w := by
    intro l a w I hall
    have hlt : ∀ (i : Nat) k, sp[i]? = some k → i < codes.length := fun i k hk => by rw [← hspl]; exact (List.getElem?_eq_some_iff.1 hk).1
    have htk : ∀ (i : Nat) (o : Oper), (ops.toList.take codes.length)[i]? = some o → ops[i]? = some o := fun i o h => by
      rw [List.getElem?_take] at h
      split at h
      · simpa using h
      · cases h
    have cutfin : ∀ {h0 : Nat} {w : World} {G : Act → Prop} {ks : List RK} {os : List Oper} {A : Act}, Fin h0 w G os ks A → Fin h0 w G (os.take ks.length) ks A := by
      intro h0 w G ks
      induction ks with
      | nil => intro os A h; cases os <;> exact h
      | cons k ks ih =>
        intro os A h
        cases os with
        | nil => exact h
        | cons o os =>
          simp only [List.length_cons, List.take_succ_cons]
          unfold Fin at h ⊢
          cases hd : o.dst with
          | none => rw [hd] at h; cases k <;> exact ih h
          | some t =>
            rw [hd] at h
            cases k with
            | val p => exact fun v hv => ih (h v hv)
            | new ty z cs si => exact fun g hg hb => ih (h g hg hb)
            | put ty z cs t' => exact ih h
    have hF := Fin.use (a := a) (h0 := w0.heap.size) (os := ops.toList.take codes.length) (by simp [hspl, hlen]) (hspl ▸ cutfin (hfin w I.below))
      (fun i o t p h1 h2 h3 => I.vals i o t p (htk i o h1) h2 h3 ((hall i o (htk i o h1)).2 (hlt i _ h3)))
      (fun i o t ty z cs si h1 h2 h3 => by
        have h1' := htk i o h1
        obtain ⟨g, hg, hg0, hb⟩ := I.news i o t ty z cs si h1' h2 h3 ((hall i o h1').2 (hlt i _ h3))
        refine ⟨g, hg, hg0, ?_⟩
        obtain ⟨r, _, ok⟩ := ok_sp hc hok h1' h3
        obtain ⟨_, ⟨s, hs, _⟩, d, _, hsd⟩ := ok.new si rfl
        have : si < codes.length := (List.getElem?_eq_some_iff.1 hsd).1
        rw [(hall si s hs).2 this] at hb
        simpa using hb)
      (fun i o t ty z cs t' h1 h2 h3 => by
        have h1' := htk i o h1
        obtain ⟨r, _, ok⟩ := ok_sp hc hok h1' h3
        obtain ⟨_, hn, _⟩ := ok.put t' rfl
        rw [hn] at h2
        cases h2)
    have e : overO a (ops.toList.take codes.length) A = a := by
      refine Act.same ((overO_defers _ _ _).trans I.defers.symm) ((overO_size _ _ _).trans I.size.symm) fun t => ?_
      by_cases h : ∃ o ∈ ops.toList.take codes.length, o.dst = some t
      · exact overO_hit a _ A t I.size.symm h
      · refine overO_keep a _ A t I.size.symm (I.olds t fun i o ho hd => ?_).symm
        cases hl : l.getD i false with
        | false => rfl
        | true =>
          have hi := (hall i o ho).1 hl
          exact absurd ⟨o, List.mem_of_getElem? (i := i) (by rw [List.getElem?_take_of_lt hi]; simpa using ho), hd⟩ h
    rw [e] at hF
    exact hF

  refine wp_region_any hmx (any_upto (I := fun l a w => l.size = ops.size ∧ Inv ops sp A w0 l a w ∧ ∀ i, codes.length ≤ i → l.getD i false = false) hlen (fun _ _ _ I => I.1) (fun i o ho => ok_fwd hok ho) (fun _ _ _ I => I.2.2) ?_ ?_ ?_ _ _ _ _ ?_ ?_)
  · rintro l a w i ⟨hsz, I, hn⟩ hi hlin
    refine wpOp_mono (fun a' w' h => ⟨by simpa using hsz, h, fun j hj => ?_⟩) (inv_step hc hm hok hst hob I hi hlin)
    rw [set_getD_ne (by omega)]
    exact hn j hj
  · rintro l a w i ⟨hsz, I, hn⟩ hi hlin j hj
    obtain ⟨hl0, o, ho, hall⟩ := mem_ready.1 hi
    have hpred : ∀ j, bindsTo o j = true → l.getD j false = true := fun j hj => by
      obtain ⟨e, he, hb, rfl⟩ := bindsTo_spec hj
      exact hall e he hb
    exact reach_from (ops := ops) (S := fun j => l.getD j false = true) (fun i' o' j' ho' hb' hi' => by
      obtain ⟨e', he', hbb', rfl⟩ := bindsTo_spec hb'
      exact I.down i' o' ho' hi' e' he' hbb') ho hpred 12 j (ok_tail hok ho hlin j hj)
  · rintro a w ⟨hsz, I, hn⟩
    exact fin _ a w I fun i o ho => by
      rw [firsts_getD]
      exact ⟨fun h => h.2, fun h => ⟨lt_of_some ho, h⟩⟩
  · unfold unl; simp [List.countP_replicate]
  · exact ⟨by simp, ⟨by simp, rfl, rfl, (Below.refl _ _).drew, fun _ _ _ _ _ _ _ h => absurd h (rep_false _ _), fun _ _ => rfl, fun _ _ _ _ _ _ _ _ _ _ h => absurd h (rep_false _ _), fun _ _ _ _ _ _ _ _ _ _ _ _ _ _ _ _ _ h => absurd h (rep_false _ _), fun _ _ _ h => absurd h (rep_false _ _)⟩, fun i _ => by
      cases h : (Array.replicate ops.size false).getD i false with
      | false => rfl
      | true => exact absurd h (rep_false _ _)⟩
end
end Go.Proofs.Ytolhjkpekmmajaa.Rh
/- Lists of changes that came in (one list, a list of lists, two lists, an anchor), opened. -/
namespace Go.Proofs.Ytolhjkpekmmajaa
set_option linter.unusedVariables false
set_option linter.unusedSimpArgs false
open Go.ChangeShapes Go.WideShapes Go.ChangeAt Go.RowKit Go.Deep
set_option maxRecDepth 100000
def Ch.Ok (c : Ch) : Prop := -9223372036854775808 ≤ c.sk ∧ c.sk ≤ 9223372036854775807 ∧ -9223372036854775808 ≤ c.n ∧ c.n ≤ 9223372036854775807
theorem chg_cells : Try.prog.cellsOf 60 = 3 := by kernel_rfl
theorem chs_cells : Try.prog.cellsOf 35 = 1 := by kernel_rfl
instance : Inhabited Ch := ⟨⟨0, 0, ⟨#[]⟩⟩⟩
instance : Inhabited Sg := ⟨⟨none, 0, []⟩⟩
theorem chc_at {g : List Ch} {k : Nat} {u : Value} (h : (chc g)[k]? = some u) : ∃ r, g[k / 3]? = some r ∧ r.cells[k % 3]? = some u := by
  have hk : k < g.length * 3 := by have := (List.getElem?_eq_some_iff.1 h).1; rwa [chc_len] at this
  have hr : g[k / 3]? = some (g[k / 3]'(by omega)) := List.getElem?_eq_getElem _
  have hj : k % 3 < (g[k / 3]'(by omega)).cells.length := by show k % 3 < 3; omega
  refine ⟨_, hr, ?_⟩
  have e := chc_get (j := k % 3) hr (List.getElem?_eq_getElem hj)
  rw [Nat.div_add_mod'] at e
  rw [e] at h
  rw [List.getElem?_eq_getElem hj, h]
section
variable {H : Type} {enc : TypeId × Value → H} {W : World}
theorem chg_of_trod {base : Nat} {spare : Nat → Bool} {held : Bool} {fuel : Nat} {cs : List Value} {x : DataW H × List MemPlace} (h : DataW.trod enc Try.prog W base spare held fuel 60 cs = some x) :
    ∃ c : Ch, cs = c.cells ∧ c.Ok := by
  obtain ⟨xs, n, _, _, hlen, hxl, hg⟩ := DataW.trod_struct Try.underlying60 h
  rw [chg_cells] at hlen
  match cs, hlen with
  | [c0, c1, c2], _ =>
    match xs, hxl with
    | [x0, x1, x2], _ =>
      have h0 : DataW.trod enc Try.prog W base spare held n 3 (([c0, c1, c2].drop 0).take (Try.prog.cellsOf 3)) = some x0 := hg 0 _ rfl
      have h1 : DataW.trod enc Try.prog W base spare held n 3 (([c0, c1, c2].drop 1).take (Try.prog.cellsOf 3)) = some x1 := hg 1 _ rfl
      have h2 : DataW.trod enc Try.prog W base spare held n 9 (([c0, c1, c2].drop 2).take (Try.prog.cellsOf 9)) = some x2 := hg 2 _ rfl
      have k3 : Try.prog.cellsOf 3 = 1 := by kernel_rfl
      have k9 : Try.prog.cellsOf 9 = 1 := by kernel_rfl
      rw [k3] at h0 h1; rw [k9] at h2
      obtain ⟨a, e0, _, w0⟩ := DataW.trod_int Try.underlying3 h0
      obtain ⟨b, e1, _, w1⟩ := DataW.trod_int Try.underlying3 h1
      obtain ⟨c, e2, _, w2⟩ := DataW.trod_string Try.underlying9 h2
      simp at e0 e1 e2
      subst e0; subst e1; subst e2
      obtain ⟨a0, a1⟩ := bounds_i64 w0; obtain ⟨b0, b1⟩ := bounds_i64 w1
      exact ⟨⟨a, b, c⟩, rfl, ⟨a0, a1, b0, b1⟩⟩
/-- a list of changes -/
structure ChsIn (W : World) (g : Sg) : Prop where
  row : RowAt W g.A (chc g.l)
  ok : ∀ c ∈ g.l, c.Ok
  len : g.l.length ≤ 9223372036854775807
theorem chs_of_trod {fuel : Nat} {cs : List Value} {x : DataW H × List MemPlace} (hf : DataW.trod enc Try.prog W 0 (fun _ => true) true fuel 35 cs = some x) :
    ∃ g : Sg, cs = [g.v] ∧ ChsIn W g := by
  rcases open_slice Try.underlying35 hf with ⟨rfl, _⟩ | ⟨a, len, cap, m, n, D, Pl, rfl, _, hl, hm, hmm, _, hx⟩
  · exact ⟨⟨none, 0, []⟩, rfl, ⟨RowAt.nil _ _, fun c hc => (by cases hc), by simp⟩⟩
  · simp only [if_true] at hmm
    subst hmm
    rw [chg_cells] at hx
    have key : ∀ i, i < len → ∃ r : Ch, r.Ok ∧ ∀ j u, r.cells[j]? = some u → W.cell? ((a.add (i * 3)).add j) = some u := by
      intro i hi
      obtain ⟨cs', h1, h2⟩ := hx i (by omega)
      obtain ⟨r, e, ok⟩ := chg_of_trod h2
      obtain ⟨_, hlen, hc⟩ := World.cells?_some h1
      refine ⟨r, ok, fun j u hu => ?_⟩
      have hj : j < 3 := (List.getElem?_eq_some_iff.1 hu).1
      have h5 := hc j hj
      rw [e] at h5
      exact h5.trans hu
    obtain ⟨R, hR⟩ := choose_lt (α := Ch) (n := len) key
    have hRl : ∀ i, i < len → ((List.range len).map R)[i]? = some (R i) := fun i hi => by rw [List.getElem?_map, List.getElem?_range hi]; rfl
    have e1 : maxLen = 9223372036854775807 := rfl
    refine ⟨⟨some a, m, (List.range len).map R⟩, by simp [Sg.v], ⟨?_, ?_, by simp; omega⟩⟩
    · intro k u hk
      obtain ⟨r, h1, h2⟩ := chc_at hk
      have hi : k / 3 < len := by have := (List.getElem?_eq_some_iff.1 h1).1; simpa using this
      rw [hRl _ hi] at h1
      cases h1
      refine ⟨a, rfl, ?_⟩
      have e := (hR _ hi).2 _ _ h2
      rw [add_add_, Nat.div_add_mod'] at e
      exact e
    · intro r hr
      simp only [List.mem_map, List.mem_range] at hr
      obtain ⟨i, hi, rfl⟩ := hr
      exact (hR i hi).1
theorem open_steps {d : DataW H} {p : List MemPlace} {v : Value} (ho : Value.okWide Try.prog W .any 0 22 v) (h : DataW.Trod enc Try.prog W 0 (fun _ => true) true 22 v d p) :
    ∃ (a : Option Addr) (len cap : Nat) (gs : List Sg), v = .slice a len cap ∧ gs.length = len ∧ len ≤ 9223372036854775807 ∧ SsAt W a gs := by
  obtain ⟨a0, len0, cap0, rfl⟩ := okWide_slice Try.underlying22 ho
  obtain ⟨fuel, hf⟩ := h
  change DataW.trod enc Try.prog W 0 (fun _ => true) true fuel 22 [.slice a0 len0 cap0] = some (d, p) at hf
  rcases open_slice Try.underlying22 hf with ⟨e, _⟩ | ⟨a, len, cap, m, n, D, Pl, e, _, hl, hm, hmm, _, hx⟩
  · simp only [List.cons.injEq, Value.slice.injEq, and_true] at e
    obtain ⟨rfl, rfl, rfl⟩ := e
    exact ⟨none, 0, 0, [], rfl, rfl, by omega, ⟨RowAt.nil _ _, fun g hg => (by cases hg), fun g hg => (by cases hg), fun g hg => (by cases hg)⟩⟩
  · simp only [List.cons.injEq, Value.slice.injEq, and_true] at e
    obtain ⟨rfl, rfl, rfl⟩ := e
    simp only [if_true] at hmm
    subst hmm
    rw [chs_cells] at hx
    have key : ∀ i, i < len0 → ∃ g : Sg, ChsIn W g ∧ W.cell? (a.add i) = some g.v := by
      intro i hi
      obtain ⟨cs', h1, h2⟩ := hx i (by omega)
      obtain ⟨g, e, ok⟩ := chs_of_trod h2
      subst e
      refine ⟨g, ok, ?_⟩
      rw [Nat.mul_one] at h1
      exact cell_of_cells?_one h1
    obtain ⟨R, hR⟩ := choose_lt (α := Sg) (n := len0) key
    have e1 : maxLen = 9223372036854775807 := rfl
    refine ⟨some a, len0, _, (List.range len0).map R, rfl, by simp, by omega, ⟨?_, ?_, ?_, ?_⟩⟩
    · intro k u hk
      have hi : k < len0 := by have := (List.getElem?_eq_some_iff.1 hk).1; simpa using this
      refine ⟨a, rfl, ?_⟩
      have e : (((List.range len0).map R).map Sg.v)[k]? = some (R k).v := by rw [List.getElem?_map, List.getElem?_map, List.getElem?_range hi]; rfl
      rw [e] at hk
      cases hk
      exact (hR k hi).2
    · intro g hg
      simp only [List.mem_map, List.mem_range] at hg
      obtain ⟨i, hi, rfl⟩ := hg
      exact (hR i hi).1.row
    · intro g hg
      simp only [List.mem_map, List.mem_range] at hg
      obtain ⟨i, hi, rfl⟩ := hg
      exact (hR i hi).1.ok
    · intro g hg
      simp only [List.mem_map, List.mem_range] at hg
      obtain ⟨i, hi, rfl⟩ := hg
      exact (hR i hi).1.len
theorem open_both {d : DataW H} {p : List MemPlace} {v : Value} (ho : Value.okWide Try.prog W .any 0 48 v) (h : DataW.Trod enc Try.prog W 0 (fun _ => true) true 48 v d p) :
    ∃ g0 g1 : Sg, v = .agg #[g0.v, g1.v] ∧ ChsIn W g0 ∧ ChsIn W g1 := by
  have ho' := ho
  simp only [Value.okWide, Try.underlying48] at ho'
  obtain ⟨cs, rfl, hsz, _⟩ := ho'
  obtain ⟨fuel, hf⟩ := h
  obtain ⟨xs, m, _, _, hlen, hxl, hg⟩ := DataW.trod_array Try.underlying48 hf
  have k2 : Try.prog.cellsOf 48 = 2 := by kernel_rfl
  rw [k2] at hlen
  rw [chs_cells] at hg
  match xs, hxl with
  | [x0, x1], _ =>
    obtain ⟨g0, e0, o0⟩ := chs_of_trod (hg 0 (by omega))
    obtain ⟨g1, e1, o1⟩ := chs_of_trod (hg 1 (by omega))
    refine ⟨g0, g1, ?_, o0, o1⟩
    simp only [Value.cells] at hlen e0 e1
    have hc : cs.toList = [g0.v, g1.v] := by
      match h : cs.toList, hlen with
      | [a, b], _ => rw [h] at e0 e1; simp at e0 e1; rw [e0, e1]
    rw [← Array.toList_inj.1 (show cs.toList = (#[g0.v, g1.v] : Array Value).toList from hc)]
theorem open_anchor {d : DataW H} {p : List MemPlace} {v : Value} (ho : Value.okWide Try.prog W .any 0 50 v) (h : DataW.Trod enc Try.prog W 0 (fun _ => true) true 50 v d p) :
    ∃ (a : Int) (r : Bool), v = .agg #[.int .i64 a, .bool r] ∧ -9223372036854775808 ≤ a ∧ a ≤ 9223372036854775807 := by
  obtain ⟨cs, rfl, hsz⟩ := okWide_struct Try.underlying50 ho
  obtain ⟨fuel, h⟩ := h
  obtain ⟨xs, n, _, _, hlen, hxl, hg⟩ := DataW.trod_struct Try.underlying50 h
  have k2 : Try.prog.cellsOf 50 = 2 := by kernel_rfl
  rw [k2] at hlen
  simp only [Value.cells] at hlen hg
  match hcs : cs.toList, hlen with
  | [c0, c1], _ =>
    rw [hcs] at hg
    match xs, hxl with
    | [x0, x1], _ =>
      have h0 : DataW.trod enc Try.prog W 0 (fun _ => true) true n 3 (([c0, c1].drop 0).take (Try.prog.cellsOf 3)) = some x0 := hg 0 _ rfl
      have h1 : DataW.trod enc Try.prog W 0 (fun _ => true) true n 4 (([c0, c1].drop 1).take (Try.prog.cellsOf 4)) = some x1 := hg 1 _ rfl
      have k3 : Try.prog.cellsOf 3 = 1 := by kernel_rfl
      have k4 : Try.prog.cellsOf 4 = 1 := by kernel_rfl
      rw [k3] at h0; rw [k4] at h1
      obtain ⟨a, e0, _, w0⟩ := DataW.trod_int Try.underlying3 h0
      obtain ⟨b, e1, _⟩ := DataW.trod_bool Try.underlying4 h1
      simp at e0 e1
      subst e0; subst e1
      obtain ⟨a0, a1⟩ := bounds_i64 w0
      refine ⟨a, b, ?_, a0, a1⟩
      rw [← Array.toList_inj.1 (show cs.toList = (#[.int .i64 a, .bool b] : Array Value).toList from hcs)]
end
end Go.Proofs.Ytolhjkpekmmajaa
