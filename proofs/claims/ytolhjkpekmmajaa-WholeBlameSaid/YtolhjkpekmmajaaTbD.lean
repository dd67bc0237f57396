import Derived.Test.YtolhjkpekmmajaaTbC
import Derived.Deep.DeepCutAuto
import Derived.StillTailTactics
import Derived.Laws.Concat
/- One row of the blame, plainly. -/
namespace Go.Proofs.Ytolhjkpekmmajaa
set_option linter.unusedVariables false
set_option linter.unusedSimpArgs false
open Go.RowKit Go.Lib
/-- what a row says: its letters stand in the version that it names -/
structure RowOf (vs : Nat → List Int) (n : Nat) (r : Rw) (f m v o : Nat) : Prop where
  e : r = ⟨(f : Int), (m : Int), (v : Int), (o : Int)⟩
  m1 : 1 ≤ m
  fm : f + m ≤ (vs n).length
  vn : v ≤ n
  om : o + m ≤ (vs v).length
  tx : ((vs v).drop o).take m = ((vs n).drop f).take m
theorem row_of {T : List (List Int)} {M : Int} {ps : List (List Cg)} {vs : Nat → List Int} (h : VOk T M ps vs) {n : Nat} (hn : n ≤ ps.length) {k : Nat} {r : Rw} (hr : (ofk T (vs 0).length ps n).1[k]? = some r) :
    ∃ f m v o, RowOf vs n r f m v o := by
  obtain ⟨w1, w2, w3⟩ := ofk_ok h n hn
  have hc := w1.1
  rw [w3] at hc
  rw [Int.toNat_natCast] at hc
  obtain ⟨i1, i2, i3, i4, i5, i6⟩ := row_ltr hc k r hr
  have key : ∀ j : Nat, (j : Int) < r.n → ∃ x y, (r.v = (x : Nat)) ∧ r.o + j = ((y : Nat) : Int) ∧ x ≤ n ∧ (vs x)[y]? = (vs n)[r.fr.toNat + j]? ∧ r.fr.toNat + j < (vs n).length := fun j hj => by
    have hl : r.fr.toNat + j < (vs n).length := by omega
    obtain ⟨t1, t2, t3, t4⟩ := trc_ok h n (r.fr.toNat + j) hn hl
    have e4 := i4 j hj
    rw [show r.fr.toNat - 0 + j = r.fr.toNat + j by omega, t1] at e4
    injection e4 with e4
    injection e4 with e5 e6
    exact ⟨_, (trc T ps n ((r.fr.toNat + j : Nat) : Int)).2.toNat, e5.symm, by rw [← e6]; omega, t2, t4, hl⟩
  obtain ⟨x0, y0, a1, a2, a3, a4, a5⟩ := key 0 (by omega)
  refine ⟨r.fr.toNat, r.n.toNat, x0, y0, ?_, by omega, by omega, a3, ?_, ?_⟩
  · obtain ⟨a, b, c, d⟩ := r
    simp only at i1 i2 a1 a2 ⊢
    congr 1 <;> omega
  · obtain ⟨x, y, b1, b2, b3, b4, b5⟩ := key (r.n.toNat - 1) (by omega)
    have ex : x = x0 := by omega
    subst ex
    rw [List.getElem?_eq_getElem b5] at b4
    have := (List.getElem?_eq_some_iff.1 b4).1
    omega
  · refine List.ext_getElem? fun j => ?_
    rw [List.getElem?_take, List.getElem?_take]
    by_cases hj : j < r.n.toNat
    · rw [if_pos hj, if_pos hj, List.getElem?_drop, List.getElem?_drop]
      obtain ⟨x, y, b1, b2, b3, b4, b5⟩ := key j (by omega)
      have ex : x = x0 := by omega
      subst ex
      rw [← b4]; congr 1; omega
    · rw [if_neg hj, if_neg hj]
/-- the rows lie one behind the other -/
theorem row_next {T : List (List Int)} {M : Int} {ps : List (List Cg)} {vs : Nat → List Int} (h : VOk T M ps vs) {n : Nat} (hn : n ≤ ps.length) {a k : Nat} (hc : Cont a ((ofk T (vs 0).length ps n).1.drop k) (vs n).length) :
    (∀ r f m v o, (ofk T (vs 0).length ps n).1[k]? = some r → RowOf vs n r f m v o → f = a ∧ Cont (a + m) ((ofk T (vs 0).length ps n).1.drop (k + 1)) (vs n).length) ∧ (k = (ofk T (vs 0).length ps n).1.length → a = (vs n).length) := by
  refine ⟨fun r f m v o hr ro => ?_, fun hk => ?_⟩
  · obtain ⟨hl, e⟩ := List.getElem?_eq_some_iff.1 hr
    rw [List.drop_eq_getElem_cons hl, e] at hc
    obtain ⟨c1, c2, c3⟩ := hc
    rw [ro.e] at c1 c3
    simp only at c1 c3
    exact ⟨by omega, by rw [Int.toNat_natCast] at c3; exact c3⟩
  · rw [List.drop_eq_nil_of_le (by omega)] at hc
    exact hc
/-- the row of a letter -/
structure RowFor (T : List (List Int)) (ps : List (List Cg)) (R : List Rw) (n x k : Nat) (r : Rw) : Prop where
  hr : R[k]? = some r
  h1 : r.fr ≤ (x : Int)
  h2 : (x : Int) < r.fr + r.n
  v : r.v = ((trc T ps n x).1 : Int)
  o : r.o + x - r.fr = (trc T ps n x).2
  hb : ∀ (i : Nat) (x : Rw), R[i]? = some x → 0 ≤ x.fr ∧ 1 ≤ x.n ∧ x.n ≤ 100000
  hlo : ∀ (i : Nat) (y : Rw), i < k → R[i]? = some y → y.fr + y.n ≤ (x : Int)
  b1 : 0 ≤ r.o ∧ r.o ≤ 100000 ∧ 0 ≤ r.fr
theorem row_for {T : List (List Int)} {M : Int} {ps : List (List Cg)} {vs : Nat → List Int} (h : VOk T M ps vs) {n : Nat} (hn : n ≤ ps.length) {x : Nat} (hx : x < (vs n).length) :
    ∃ k r, RowFor T ps (ofk T (vs 0).length ps n).1 n x k r := by
  obtain ⟨w1, w2, w3⟩ := ofk_ok h n hn
  have hle := h.le hn
  have hc := w1.1
  rw [w3] at hc
  rw [Int.toNat_natCast] at hc
  obtain ⟨k, r, k1, k2, k3⟩ := row_find hc x (Nat.zero_le _) hx
  obtain ⟨i1, i2, i3, i4, i5, i6⟩ := row_ltr hc k r k1
  obtain ⟨t1, t2, t3, t4⟩ := trc_ok h n x hn hx
  have e4 := i4 (x - r.fr.toNat) (by omega)
  rw [show r.fr.toNat - 0 + (x - r.fr.toNat) = x by omega, t1] at e4
  injection e4 with e4
  injection e4 with e5 e6
  have bd := fun i y hy => w2.r y (List.mem_of_getElem? (i := i) hy)
  rw [w3] at bd
  obtain ⟨q1, q2, q3, q4, q5, q6⟩ := bd k r k1
  refine ⟨k, r, k1, k2, k3, e5.symm, by omega, fun i y hy => ?_, fun i y hi hy => ?_, by omega, by omega, by omega⟩
  · obtain ⟨q1, q2, q3, q4, q5, q6⟩ := bd i y hy
    exact ⟨by omega, by omega, by omega⟩
  · have := i6 i y hi hy; omega
theorem ofk_rows {T : List (List Int)} {M : Int} {ps : List (List Cg)} {vs : Nat → List Int} (h : VOk T M ps vs) {n : Nat} (hn : n ≤ ps.length) : (ofk T (vs 0).length ps n).1.length ≤ 20000 := by
  obtain ⟨w1, w2, w3⟩ := ofk_ok h n hn
  have hle := h.le hn
  have := w2.k
  omega
/-- a step back along the patches -/
theorem trc_back {T : List (List Int)} {ps : List (List Cg)} {v : Nat} {a b : Int} (h : bkr (ilT T) (ps.getD v []) 0 a = some b) : trc T ps (v + 1) a = trc T ps v b := by conv => lhs; unfold trc; rw [h]
theorem trc_end {T : List (List Int)} {ps : List (List Cg)} {v : Nat} {a : Int} (h : bkr (ilT T) (ps.getD v []) 0 a = none) : trc T ps (v + 1) a = (v + 1, a) := by conv => lhs; unfold trc; rw [h]
/-- where a step back leads -/
theorem bkr_in {T : List (List Int)} {M : Int} {ps : List (List Cg)} {vs : Nat → List Int} (h : VOk T M ps vs) {v : Nat} (hv : v < ps.length) {a : Nat} (ha : a < (vs (v + 1)).length) {b : Int} (hb : bkr (ilT T) (ps.getD v []) 0 a = some b) : 0 ≤ b ∧ b < (vs v).length ∧ (vs v)[b.toNat]? = (vs (v + 1))[a]? := by
  obtain ⟨p1, p2⟩ := h.ok v hv
  have g2 := gsp_get (X := vs v) (il := ilT T) (ins := fun c _ => tx T c.x) (fun c q => rfl) (fun _ _ => True) (fun _ _ _ _ => trivial) rfl (ps.getD v []) 0 0 0 (pok_ordd p1) rfl a (Nat.zero_le _)
  rw [Nat.sub_zero, ← h.gs hv] at g2
  obtain ⟨b0, gb2⟩ := g2.1 b hb
  have b0 : 0 ≤ b := by simpa using b0
  rw [List.getElem?_eq_getElem ha] at gb2
  have := (List.getElem?_eq_some_iff.1 gb2.symm).1
  exact ⟨b0, by omega, by rw [List.getElem?_eq_getElem ha]; exact gb2.symm⟩
end Go.Proofs.Ytolhjkpekmmajaa
/- The walk of the law on blame. -/
namespace Go.Proofs.Ytolhjkpekmmajaa
set_option linter.unusedVariables false
set_option linter.unusedSimpArgs false
open Go.RowKit Go.Lib Go.Maps
attribute [local go_sem ↓] Go.wp_at_zero Go.wp_at_succ
theorem info_str : (Try.prog.info? 9).map (fun i => (i.zero, i.size, i.bytes)) = some (some (.string ⟨#[]⟩), 1, 16) := by kernel_rfl
theorem info_chs : (Try.prog.info? 32).map (fun i => (i.zero, i.size, i.bytes)) = some (some (.slice none 0 0), 1, 24) := by kernel_rfl
theorem RowK.old {W w : World} {B S G : Nat} {A : Option Addr} {xs : List Value} (h : RowAt W A xs) (hb : Below W.heap.size W w) (hS : W.heap.size ≤ S) (hG : W.heap.size ≤ G) (hB : W.heap.size ≤ B) : RowK w B S G A xs := by
  refine ⟨h.below hb (Nat.le_refl _), fun hne ad e => ?_⟩
  obtain ⟨x, xs, rfl⟩ := List.exists_cons_of_ne_nil hne
  obtain ⟨a2, e2, hl, _⟩ := h.get (k := 0) (u := x) rfl
  rw [e] at e2; cases e2
  exact ⟨by omega, by omega, fun _ _ _ => by omega⟩
theorem RowK.drewN {w : World} {B S G : Nat} {A : Option Addr} {xs : List Value} (h : RowK w B S G A xs) (j : Nat) : RowK (w.drewN j) B S G A xs := h
/-- the versions so far, as cells -/
def vsl (s : ByteArray) (ss : List Sg) (n : Nat) : List Value := (List.range n).map fun v => .string (vrs s ss v)
theorem vsl_get {s : ByteArray} {ss : List Sg} {n v : Nat} (h : v < n) : (vsl s ss n)[v]? = some (.string (vrs s ss v)) := by simp [vsl, h]
theorem vsl_succ (s : ByteArray) (ss : List Sg) (n : Nat) : vsl s ss n ++ [.string (vrs s ss n)] = vsl s ss (n + 1) := by simp [vsl, List.range_succ]
theorem vsl_one (s : ByteArray) : ∀ u ∈ [Value.string s], u.oneCell' = true := by intro u hu; simp at hu; subst hu; rfl
theorem slc_one (A : Option Addr) (n c : Nat) : ∀ u ∈ [Value.slice A n c], u.oneCell' = true := by intro u hu; simp at hu; subst hu; rfl
theorem own_box1 {w : World} {R : Nat} {t : TypeId} {x : Value} (h : Box w R t #[x]) : w.ownsRow R t 1 (.slice (some ⟨R, 0, none⟩) 1 1) 1 [x] :=
  ⟨rfl, .inr ⟨R, 1, _, rfl, Nat.le_refl _, h, Nat.le_refl _, by simp only [maxLen]; omega, by simp, by simp⟩⟩
theorem own_lo {w : World} {b b' : Nat} {e : TypeId} {size n : Nat} {v : Value} {xs : List Value} (h : w.ownsRow b e size v n xs) (hb : b' ≤ b) : w.ownsRow b' e size v n xs := by
  refine ⟨h.1, ?_⟩
  rcases h.2 with h | ⟨g, cap, cur, h1, h2, h3⟩
  · exact .inl h
  · exact .inr ⟨g, cap, cur, h1, by omega, h3⟩
/-- what Back says -/
def bko : Option Int → Int × Bool
  | some b => (b, true)
  | none => (0, false)
set_option maxRecDepth 100000 in
set_option maxHeartbeats 64000000 in
theorem law_blame (s : ByteArray) (ss : List Sg) (n c : Nat) (AA : Option Addr) (hl : ss.length = n) (w : World) (ha : SsAt w AA ss) (hs : s.size ≤ 80) (hn : n ≤ 5) :
    Calls Try.prog 3 #[.string s, .slice AA n c] w fun e w' => e = .returned (.bool true) ∧ Below w.heap.size w w' := by
  obtain ⟨i0_, hi0, hz0, hz1, hz2⟩ := info_parts5 info_str
  obtain ⟨j0_, hj0, hy0, hy1, hy2⟩ := info_parts5 info_chs
  have HI := Lib.hid hi0; have HZ := Lib.hid hz0; have HZ1 := Lib.hid hz1; have HZ2 := Lib.hid hz2
  have HJ := Lib.hid hj0; have HY := Lib.hid hy0; have HY1 := Lib.hid hy1; have HY2 := Lib.hid hy2
  have HL := Lib.hid hl; have HA := Lib.hid ha; have HS := Lib.hid hs
  obtain ⟨z, hz⟩ : ∃ z, z = s.size := ⟨_, rfl⟩
  have sz : s.size = z := hz.symm
  have z80 : z ≤ 80 := by omega
  clear hi0 hz0 hz1 hz2 hj0 hy0 hy1 hy2 hl ha hs hz
  go_enter Try.func3, Try.ntmps3
  go_wp2_with fail
  (with_reducible refine (patches_any _).mono ?_)
  rintro e w0 ⟨rfl, B0⟩
  have HB0 := Lib.hid B0
  clear B0
  go_wp2_with fail
  (with_reducible refine (topen_any _).mono ?_)
  rintro e w1 ⟨S, G, B, M, rfl, st, B1, hS, hG⟩
  have z0 := HB0.out.size
  have LS := Lib.hid (show w.heap.size ≤ S ∧ w.heap.size ≤ G ∧ w.heap.size ≤ B by have := st.lt; omega)
  have BW1 := Lib.hid (bkeep HB0.out B1)
  have NW1 := Lib.hid (((Now.start st good_nil).alloc (.cells #[.pointer (some ⟨S, 0, none⟩), .pointer (some M)] 27)).alloc (.cells #[.string s] 9))
  have BX1 := Lib.hid ((Box.new w1 27 #[.pointer (some ⟨S, 0, none⟩), .pointer (some M)]).alloc (.cells #[.string s] 9))
  have OV1 := Lib.hid (own_box1 (Box.new (w1.alloc (.cells #[.pointer (some ⟨S, 0, none⟩), .pointer (some M)] 27)) 9 #[.string s]))
  obtain ⟨D, hD⟩ : ∃ D, D = w1.heap.size := ⟨_, rfl⟩
  rw [show (w1.alloc (.cells #[.pointer (some ⟨S, 0, none⟩), .pointer (some M)] 27)).heap.size = D + 1 by simp [hD]] at OV1
  rw [← hD] at BX1
  have HBD : Hid (B ≤ D) := Lib.hid (by rw [hD]; exact st.lt.2.2)
  have HD := Lib.hid hD.symm
  have HTB : Hid (∀ w', SFr w1 w' B S G → Below w.heap.size w w') := Lib.hid fun w' f => f.to_below BW1.out LS.out.1 LS.out.2.1 LS.out.2.2
  clear st B1 hS hG hD z0 HB0
  have OV1' : Hid (((w1.alloc (.cells #[.pointer (some ⟨S, 0, none⟩), .pointer (some M)] 27)).alloc (.cells #[.string s] 9)).ownsRow D 9 1 (.slice (some ⟨D + 1, 0, none⟩) 1 1) 1 (vsl s ss 1)) := Lib.hid (own_lo OV1.out (by omega))
  clear OV1
  go_wp2_with fail
  rw [HD.out]
  go_loopw [7, 8, 9, 10, 11, 12] (fun s7 s8 s9 _ _ _ wr => ∃ (i c1 c2 : Nat) (A1 A2 : Option Addr) (gs : List Pg) (L1 : List En) (T1 : List (List Int)), s9 = .int .i64 (i : Int) ∧ i ≤ n ∧ s7 = .slice A1 (i + 1) c1 ∧ s8 = .slice A2 i c2 ∧ Hid (gs.length = i ∧ PsOk L1 T1 s ss gs) ∧
     Hid (Now B S G [] [] (i * 480) w1 wr L1 T1) ∧ Hid (wr.ownsRow D 9 1 (.slice A1 (i + 1) c1) (i + 1) (vsl s ss (i + 1))) ∧ Hid (wr.ownsRow D 32 1 (.slice A2 i c2) i (gs.map Pg.v)) ∧ Hid (∀ g ∈ gs, wr.ownsRow D 71 3 g.v g.p.length (cgc g.p)) ∧ Hid (Box wr D 27 #[.pointer (some ⟨S, 0, none⟩), .pointer (some M)])) (fun _ _ s9 _ _ _ _ => n - (intOf s9).toNat)
  case atStart => exact ⟨0, 1, 0, some ⟨D + 1, 0, none⟩, none, [], [], [], rfl, by omega, rfl, rfl, Lib.hid ⟨rfl, PsOk.nil _ _ _ _⟩, Lib.hid (NW1.out.mono (by omega)), OV1', Lib.hid ⟨rfl, .inl ⟨rfl, rfl⟩⟩, Lib.hid (fun g h => by simp at h), BX1⟩
  case round =>
    clear NW1 BX1 OV1'
    obtain ⟨i, c1, c2, A1, A2, gs, L1, T1, rfl, hi, rfl, rfl, HP, NW, OV, OP, PK, BX⟩ := hrel
    by_cases hlt : i < n
    · skip
-- {{6
      have hil : i < ss.length := by rw [HL.out]; exact hlt
      have hc := List.getElem?_eq_getElem hil
      obtain ⟨g, hgg⟩ : ∃ g, g = ss[i] := ⟨_, rfl⟩
      rw [← hgg] at hc
      have hgm : g ∈ ss := by rw [hgg]; exact List.getElem_mem hil
      have BW := HTB.out _ NW.out.fr
      have hcm : (ss.map Sg.v)[i]? = some g.v := by rw [List.getElem?_map, hc]; rfl
      obtain ⟨ad, rfl, adl, c0⟩ := (HA.out.r.below BW (Nat.le_refl _)).get hcm
      have HST : Hid (stp ss i = g.l) := Lib.hid (by unfold stp; rw [hc]; rfl)
      have HRK := RowK.old (HA.out.p g hgm) BW LS.out.1 LS.out.2.1 LS.out.2.2
      obtain ⟨ad1, rfl, ad1l, v0⟩ := (own_row _ OV.out).get (vsl_get (s := s) (ss := ss) (show i < i + 1 by omega))
      have d0 := BX.out.cell 0; have d1 := BX.out.cell 1
      simp only [List.getElem?_toArray, List.getElem?_cons_zero, List.getElem?_cons_succ] at d0 d1
      have dl := BX.out.lt
      have hz := vrs_size s ss i
      have g1 := NW.out.cnt
      have HTp := Lib.hid (fun w3 (b3 : Below wr.heap.size wr w3) => tpatch_any L1 T1 NW.out.good (vrs s ss i) (by omega) g.l (HA.out.i g hgm) g.l.length g.c g.A rfl (HA.out.n g hgm) (by simp at g1; omega) B S G M w3 (NW.out.st.below b3) (HRK.sfr (SFr.of_below b3 _ _ _)))
      obtain ⟨gA, gc, gl⟩ := g
      replace c0 : wr.cell? (ad.add i) = some (.slice gA gl.length gc) := c0
      obtain ⟨gn, hgn⟩ : ∃ gn, gn = gl.length := ⟨_, rfl⟩
      obtain ⟨tv, htv⟩ : ∃ tv, tv = vrs s ss i := ⟨_, rfl⟩
      have HTp' : Hid (∀ w3, Below wr.heap.size wr w3 → Calls Try.prog 7 #[deskV S M, .string tv, .slice gA gn gc] w3 (DpOut B S G L1 T1 tv gl w3)) := by rw [hgn, htv]; exact HTp
      rw [← hgn] at c0
      rw [← htv] at v0
      have HTV := Lib.hid htv
      have HST' : Hid (stp ss i = gl) := HST
      clear hil hc hgg hgm BW hcm HRK hz g1 HTp hgn HST htv
      have ib : i ≤ 5 := by omega
      have b0 := BX.out
      have ii : (i : Int) < (i : Int) + 1 := by omega
      go_upto_region 13 with fail
      refine Rh.region_hd (.val (fun v _ => v = deskV S M) :: .val (fun v _ => v = .slice (some ad1) (i + 1) c1) :: .val (fun v _ => v = .int .i64 (i : Int)) :: .val (fun v _ => v = .pointer (some (ad1.add i))) :: .val (fun v _ => v = .string tv) :: .val (fun v _ => v = .slice (some ad) n c) :: .val (fun v _ => v = .int .i64 (i : Int)) :: .val (fun v _ => v = .pointer (some (ad.add i))) :: .val (fun v _ => v = .slice gA gn gc) :: [])
        ([] :: [] :: [] :: [(53, 1), (54, 2)] :: [(55, 3)] :: [] :: [] :: [(57, 5), (58, 6)] :: [(59, 7)] :: []) ((0, 0) :: (0, 0) :: (0, 0) :: (0, 0) :: (0, 0) :: (0, 0) :: (0, 0) :: (0, 0) :: (0, 0) :: []) 223 8 #[true, true, true, true, true, true, true, true, true, false, false, false, false, false, false, false, false] (by kernel_rfl) rfl rfl (by kernel_rfl) (by kernel_rfl) (by kernel_rfl) ⟨Stab.pure _ _ _, Stab.pure _ _ _, Stab.pure _ _ _, Stab.pure _ _ _, Stab.pure _ _ _, Stab.pure _ _ _, Stab.pure _ _ _, Stab.pure _ _ _, Stab.pure _ _ _, trivial⟩ ⟨?_, ?_, ?_, ?_, ?_, ?_, ?_, ?_, ?_, trivial⟩ ?_
      · intro wx hb
        intro K hK
        exact wp_load_row 27 (.tmp 5) rfl D rfl 27 _ (0, 0) _ (Box.below (b0) hb (Box.lt (b0))) Try.underlying27 rfl (by kernel_rfl) (hK _ _ rfl ⟨rfl, Below.refl _ _⟩)
      · intro wx hb
        intro K hK
        go_simp
        exact hK _ _ rfl ⟨rfl, Below.refl _ _⟩
      · intro wx hb
        intro K hK
        go_simp
        exact hK _ _ rfl ⟨rfl, Below.refl _ _⟩
      · intro wx hb
        rintro _ rfl
        rintro _ rfl
        intro K hK
        go_simp
        exact hK _ _ rfl ⟨rfl, Below.refl _ _⟩
      · intro wx hb
        rintro _ rfl
        intro K hK
        have cc : wx.cell? (ad1.add i) = some (.string tv) := (hb.cell (by rw [block_add]; exact ad1l)).trans v0
        go_simp
        exact hK _ _ rfl ⟨rfl, Below.refl _ _⟩
      · intro wx hb
        intro K hK
        go_simp
        exact hK _ _ rfl ⟨rfl, Below.refl _ _⟩
      · intro wx hb
        intro K hK
        go_simp
        exact hK _ _ rfl ⟨rfl, Below.refl _ _⟩
      · intro wx hb
        rintro _ rfl
        rintro _ rfl
        intro K hK
        go_simp
        exact hK _ _ rfl ⟨rfl, Below.refl _ _⟩
      · intro wx hb
        rintro _ rfl
        intro K hK
        have cc : wx.cell? (ad.add i) = some (.slice gA gn gc) := (hb.cell (by rw [block_add]; exact adl)).trans c0
        go_simp
        exact hK _ _ rfl ⟨rfl, Below.refl _ _⟩
      intro w3 B3
      rintro _ rfl
      rintro _ rfl
      rintro _ rfl
      rintro _ rfl
      rintro _ rfl
      rintro _ rfl
      rintro _ rfl
      rintro _ rfl
      rintro _ rfl
      simp only [Act.put, List.setIfInBounds_toArray, List.set_cons_zero, List.set_cons_succ, List.toList_toArray, List.length_cons, List.length_nil, List.drop_succ_cons, List.drop_zero, List.drop_nil, Nat.zero_add]
      have NW3 := Lib.hid (NW.out.below B3)
      have OV3 := Lib.hid (own_below OV.out B3)
      have OP3 := Lib.hid (own_below OP.out B3)
      have PK3 : Hid (∀ g ∈ gs, w3.ownsRow D 71 3 g.v g.p.length (cgc g.p)) := Lib.hid fun g hg => own_below (PK.out g hg) B3
      have BX3 := Lib.hid (BX.out.below B3 BX.out.lt)
      have HT3 := Lib.hid (HTp'.out w3 B3)
      have D3 : Hid (D ≤ w3.heap.size) := Lib.hid (Nat.le_of_lt BX3.out.lt)
      clear B3 NW OV OP PK BX b0 HTp' v0 c0 d0 d1 dl adl ad1l
      refine wpAny_ready (rs := [9]) (by kernel_rfl) (by simp) ?_
      refine AllReady.cons rfl (fun K hK => ?_) AllReady.nil
      go_simp
      refine HT3.out.mono ?_
      rintro e w4 ⟨A3, c3, p, L3, T3, rfl, nw4, hp4, own4⟩
      have NW4 := NW3.out.after nw4 (show i * 480 + 480 ≤ (i + 1) * 480 by omega)
      have BX4 := BX3.out.sfr nw4.fr NW3.out.st HBD.out (by decide)
      have OV4 := own_sfr OV3.out nw4.fr NW3.out.st HBD.out (by decide)
      have OP4 := own_sfr OP3.out nw4.fr NW3.out.st HBD.out (by decide)
      have OW4 := own_lo own4 D3.out
      have PK4 : ∀ g ∈ gs ++ [(⟨A3, c3, p⟩ : Pg)], w4.ownsRow D 71 3 g.v g.p.length (cgc g.p) := fun g hg => by
        rcases List.mem_append.1 hg with hg | hg
        · exact own_sfr (PK3.out g hg) nw4.fr NW3.out.st HBD.out (by decide)
        · obtain rfl := List.mem_singleton.1 hg; exact OW4
      have HP4 : Hid ((gs ++ [(⟨A3, c3, p⟩ : Pg)]).length = i + 1 ∧ PsOk L3 T3 s ss (gs ++ [(⟨A3, c3, p⟩ : Pg)])) := Lib.hid ⟨by simp [HP.out.1], (HP.out.2.ext NW3.out.good.len nw4.ext).snoc HP.out.1 (by rw [← HTV.out, HST'.out]; exact hp4)⟩
      have ev : vrs s ss (i + 1) = mkTxt tv gl := by show mkTxt (vrs s ss i) (stp ss i) = _; rw [← HTV.out, HST'.out]
      have HV4 : Hid (vsl s ss (i + 1) ++ [.string (mkTxt tv gl)] = vsl s ss (i + 1 + 1)) := Lib.hid (by rw [← vsl_succ s ss (i + 1), ev])
      have HG4 : Hid (gs.map Pg.v ++ [.slice A3 p.length c3] = (gs ++ [(⟨A3, c3, p⟩ : Pg)]).map Pg.v) := Lib.hid (by simp [Pg.v])
      have lB := NW4.st.lt.2.2
      have sB : w1.heap.size ≤ D := by rw [HD.out]; exact Nat.le_refl _
      have NW5 := NW4.alloc (.cells #[.slice A3 p.length c3] 32)
      have BX5 := BX4.alloc (.cells #[.slice A3 p.length c3] 32)
      have OV5 := own_alloc OV4 (.cells #[.slice A3 p.length c3] 32)
      have OP5 := Lib.hid (own_alloc OP4 (.cells #[.slice A3 p.length c3] 32))
      have PK5 : ∀ g ∈ gs ++ [(⟨A3, c3, p⟩ : Pg)], (w4.alloc (.cells #[.slice A3 p.length c3] 32)).ownsRow D 71 3 g.v g.p.length (cgc g.p) := fun g hg => own_alloc (PK4 g hg) _
      have HNW5 := Lib.hid NW5; have HBX5 := Lib.hid BX5; have HOV5 := Lib.hid OV5; have HPK5 := Lib.hid PK5
      have S4 : Hid (D ≤ w4.heap.size) := Lib.hid (Nat.le_of_lt BX4.lt)
      clear NW4 BX4 OV4 OP4 OW4 PK4 NW5 BX5 OV5 PK5 nw4 hp4 own4 NW3 OV3 OP3 PK3 BX3 HT3 D3 lB HTV HST' HP ev
      refine hK _ _ ?_
      clear hK K
      refine wpAny_take (i := 10) (v := ?_) rfl (by kernel_rfl) (by kernel_rfl) (by kernel_rfl) (fun _ _ _ h => h) (Or.inl ⟨by rfl, ?_⟩) ?_
      rotate_left
      · intro w; go_simp
        all_goals (with_reducible rfl)
      refine wpAny_take (i := 11) (v := ?_) rfl (by kernel_rfl) (by kernel_rfl) (by kernel_rfl) (fun _ _ _ h => h) (Or.inl ⟨by rfl, ?_⟩) ?_
      rotate_left
      · intro w; go_simp
        all_goals (with_reducible rfl)
      refine wpAny_take (i := 12) (v := ?_) rfl (by kernel_rfl) (by kernel_rfl) (by kernel_rfl) (fun _ _ _ h => h) (Or.inl ⟨by rfl, ?_⟩) ?_
      rotate_left
      · intro w; go_simp
        all_goals (with_reducible rfl)
      refine wpAny_take (i := 13) (v := ?_) rfl (by kernel_rfl) (by kernel_rfl) (by kernel_rfl) (fun _ _ _ h => h) (Or.inl ⟨by rfl, ?_⟩) ?_
      rotate_left
      · intro w; go_simp
        all_goals (with_reducible rfl)
      refine wpAny_take (i := 14) (v := ?_) rfl (by kernel_rfl) (by kernel_rfl) (by kernel_rfl) (fun _ _ _ h => h) (Or.inl ⟨by rfl, ?_⟩) ?_
      rotate_left
      · intro w; go_simp
        all_goals (with_reducible rfl)
      refine wpAny_take (i := 15) (v := ?_) rfl (by kernel_rfl) (by kernel_rfl) (by kernel_rfl) (fun _ _ _ h => h) (Or.inl ⟨by rfl, ?_⟩) ?_
      rotate_left
      · intro w; go_simp
        all_goals (with_reducible rfl)
      refine wpAny_take (i := 16) (v := ?_) rfl (by kernel_rfl) (by kernel_rfl) (by kernel_rfl) (fun _ _ _ h => h) (Or.inl ⟨by rfl, ?_⟩) ?_
      rotate_left
      · intro w; go_simp
        all_goals (with_reducible rfl)
      refine wpAny_done (by kernel_rfl) ?_ _
      simp only [Act.put, List.setIfInBounds_toArray, List.set_cons_zero, List.set_cons_succ]
      go_wp2_with (refine wpList_app _ (by rfl) (.tmp 67) (.tmp 69) _ rfl D 32 j0_ _ 1 24 Try.underlying31 HJ.out HY.out HY1.out HY2.out rfl (by omega) (.slice A2 i c2) i (gs.map Pg.v) rfl OP5.out (some ⟨w4.heap.size, 0, none⟩) 1 1 [.slice A3 p.length c3] rfl rfl ?row (slc_one _ _ _) (by simp only [maxLen]; omega) (by omega) ?size ?_)
      case row => exact RowAt.new _ _ _ rfl rfl
      case size => have := S4.out; simp; omega
      intro A6 c6 w6 own6 gr6 at6
      have NW6 := (HNW5.out.grown OP5.out HBD.out sB (by decide) gr6).alloc (.cells #[.string (mkTxt tv gl)] 9)
      have BX6 := (box_grown3 HBX5.out OP5.out (by decide) gr6).alloc (.cells #[.string (mkTxt tv gl)] 9)
      have OV6 := own_alloc (own_grown3 HOV5.out OP5.out (by decide) gr6) (.cells #[.string (mkTxt tv gl)] 9)
      have OP6 := own_alloc own6 (.cells #[.string (mkTxt tv gl)] 9)
      have PK6 : ∀ g ∈ gs ++ [(⟨A3, c3, p⟩ : Pg)], (w6.alloc (.cells #[.string (mkTxt tv gl)] 9)).ownsRow D 71 3 g.v g.p.length (cgc g.p) := fun g hg => own_alloc (own_grown3 (HPK5.out g hg) OP5.out (by decide) gr6) _
      have S6 : Hid (D ≤ w6.heap.size) := Lib.hid (Nat.le_trans S4.out (by have := gr6.size; simp at this; omega))
      rw [HG4.out] at OP6
      have HNW6 := Lib.hid NW6; have HBX6 := Lib.hid BX6; have HOV6 := Lib.hid OV6; have HOP6 := Lib.hid OP6; have HPK6 := Lib.hid PK6
      clear NW6 BX6 OV6 OP6 PK6 own6 gr6 at6 HNW5 HBX5 HOV5 OP5 HPK5
      go_wp2_with (refine wpList_app _ (by rfl) (.tmp 71) (.tmp 73) _ rfl D 9 i0_ _ 1 16 Try.underlying30 HI.out HZ.out HZ1.out HZ2.out rfl (by omega) (.slice (some ad1) (i + 1) c1) (i + 1) (vsl s ss (i + 1)) rfl HOV6.out (some ⟨w6.heap.size, 0, none⟩) 1 1 [.string (mkTxt tv gl)] rfl rfl ?row (vsl_one _) (by simp only [maxLen]; omega) (by omega) ?size ?_)
      case row => exact RowAt.new _ _ _ rfl rfl
      case size => have := S6.out; simp; omega
      intro A8 c8 w8 own8 gr8 at8
      have NW8 := Lib.hid (HNW6.out.grown HOV6.out HBD.out sB (by decide) gr8)
      have BX8 := Lib.hid (box_grown3 HBX6.out HOV6.out (by decide) gr8)
      have OP8 := Lib.hid (own_grown3 HOP6.out HOV6.out (by decide) gr8)
      have PK8 : Hid (∀ g ∈ gs ++ [(⟨A3, c3, p⟩ : Pg)], w8.ownsRow D 71 3 g.v g.p.length (cgc g.p)) := Lib.hid fun g hg => own_grown3 (HPK6.out g hg) HOV6.out (by decide) gr8
      rw [HV4.out] at own8
      have OV8 := Lib.hid own8
      clear own8 gr8 at8 HNW6 HBX6 HOV6 HOP6 HPK6
      go_wp2_with fail
      go_roundw
      case rel => exact ⟨i + 1, c8, c6, A8, A6, gs ++ [(⟨A3, c3, p⟩ : Pg)], L3, T3, by go_num, by omega, rfl, rfl, HP4, NW8, OV8, OP8, PK8, BX8⟩
      case measure => simp [intOf]; omega
-- }}
    · obtain rfl : i = n := by omega
      obtain ⟨vs, hvs⟩ : ∃ vs : Nat → List Int, vs = fun v => bi (vrs s ss v) := ⟨_, rfl⟩
      have hgl := HP.out.1
      have vok : VOk T1 L1.length (gs.map Pg.p) vs := by rw [hvs]; exact HP.out.2.vok NW.out.good HS.out (by omega)
      have e0 : (vs 0).length = z := by rw [hvs]; show (bi s).length = z; rw [bi_len]; exact sz
      have HB := Lib.hid (fun w st ha => bof_any L1 T1 NW.out.good gs vs i c2 A2 hgl (by omega) vok (fun g hg => by
        obtain ⟨v, hv⟩ := List.mem_iff_getElem?.1 hg
        have := (HP.out.2.ok v g hv).len
        have := (mk_ok (vrs s ss v) (stp ss v)).2.1
        omega) B S G w st ha)
      rw [e0] at HB
      have hi2 : i ≤ (gs.map Pg.p).length := by simp [hgl]
      have HKl := ofk_rows vok hi2
      have HRow := Lib.hid (fun k r => row_of vok hi2 (k := k) (r := r))
      have HNext := Lib.hid (fun a k => row_next vok hi2 (a := a) (k := k))
      have HFor := Lib.hid (fun x => row_for vok hi2 (x := x))
      obtain ⟨hc1, hc2, hc3⟩ := ofk_ok vok i hi2
      have hc0 := hc1.1
      rw [hc3, Int.toNat_natCast] at hc0
      rw [e0] at HKl HRow HNext HFor hc0
      obtain ⟨K, hK⟩ : ∃ K, K = (ofk T1 (z : Int) (gs.map Pg.p) i).1 := ⟨_, rfl⟩
      rw [← hK] at HB HKl HRow HNext HFor hc0
      obtain ⟨N, hN⟩ : ∃ N, N = (vs i).length := ⟨_, rfl⟩
      rw [← hN] at HNext HFor hc0
      have hNs : (vrs s ss i).size = N := by rw [hN, hvs]; exact (bi_len _).symm
      have N80 : N ≤ 1280 := by have := vrs_size s ss i; omega
      have HVK := Lib.hid vok
      have HGL := Lib.hid hgl
      have HPO := Lib.hid HP.out.2
      have HGd := Lib.hid NW.out.good
      have HNN := Lib.hid hN.symm
      have HVS : Hid (∀ v, vs v = bi (vrs s ss v)) := Lib.hid fun v => by rw [hvs]
      have HC0 := Lib.hid hc0
      have HNs := Lib.hid hNs
      obtain ⟨lv, hlv⟩ : ∃ lv, lv = vrs s ss i := ⟨_, rfl⟩
      rw [← hlv] at hNs
      have HLV := Lib.hid hlv
      have HST := Lib.hid NW.out.st
      have HPA : Hid (PsAt wr A2 gs) := Lib.hid ⟨own_row _ OP.out, fun g hg => own_row _ (PK.out g hg)⟩
      have BW := Lib.hid (HTB.out _ NW.out.fr)
      have RV := Lib.hid (own_row _ OV.out)
      obtain ⟨ad1, rfl, ad1l, v0⟩ := RV.out.get (vsl_get (s := s) (ss := ss) (show i < i + 1 by omega))
      rw [← hlv] at v0
      have HBX := Lib.hid BX.out
      have d0 := BX.out.cell 0; have d1 := BX.out.cell 1
      simp only [List.getElem?_toArray, List.getElem?_cons_zero, List.getElem?_cons_succ] at d0 d1
      have dl := BX.out.lt
      obtain ⟨kn, hkn⟩ : ∃ kn, kn = K.length := ⟨_, rfl⟩
      rw [← hkn] at HKl
      have HKN := Lib.hid hkn.symm
      have hb1 := HB.out wr HST.out HPA.out
      have HB1 : Hid (Calls Try.prog 8 #[.pointer (some ⟨S, 0, none⟩), .int .i64 (z : Int), .slice A2 i c2] wr fun e w' => ∃ A c, e = .returned (.tuple #[.slice A kn c, .nilIface]) ∧ Below wr.heap.size wr w' ∧ RowAt w' A (rwc K)) := Lib.hid (by rw [hkn]; exact hb1)
      clear hvs hgl vok e0 HB hi2 hc1 hc2 hc3 hc0 hK hN hlv OP PK OV NW BX hkn hb1 HP
      go_wp2_with fail
      (with_reducible refine HB1.out.mono ?_)
      rintro e w5 ⟨A5, c5, rfl, B5, R5⟩
      have HR5 := Lib.hid R5
      have HA5 := Lib.hid (HPA.out.below B5)
      have HST5 := Lib.hid (HST.out.below B5)
      have BW5 := Lib.hid (bkeep BW.out B5)
      have RV5 := Lib.hid (RV.out.below B5 (Nat.le_refl _))
      have BX5 := Lib.hid (HBX.out.below B5 HBX.out.lt)
      have v5 : w5.cell? (ad1.add i) = some (.string lv) := (B5.cell (by rw [block_add]; exact ad1l)).trans v0
      have l5 : ad1.block < w5.heap.size := Nat.lt_of_lt_of_le ad1l B5.size
      clear R5 B5 HB1 HPA HST BW RV HBX v0 d0 d1 dl ad1l
      go_wp2_with fail
      go_loopw [16, 17, 18] (fun s16 s17 _ wr => ∃ (k a : Nat) (md : ByteArray), s17 = .int .i64 (k : Int) ∧ k ≤ kn ∧ s16 = .string md ∧ Hid (Cont a (K.drop k) N ∧ bi md = (bi lv).take a ∧ a ≤ N) ∧ Hid (Below w5.heap.size w5 wr)) (fun _ s17 _ _ => kn - (intOf s17).toNat)
      case atStart => exact ⟨0, 0, ⟨#[]⟩, rfl, by omega, rfl, Lib.hid ⟨HC0.out, by simp [bi], by omega⟩, Lib.hid (Below.refl _ _)⟩
      case round =>
        obtain ⟨k, a, md, rfl, hk, rfl, HK, BQ⟩ := hrel
        by_cases hlt : k < kn
        · skip
-- {{10
          have hkl : k < K.length := by rw [HKN.out]; exact hlt
          have hc := List.getElem?_eq_getElem hkl
          obtain ⟨f, m, u, o, RO⟩ := HRow.out k _ hc
          obtain ⟨hf, hnx⟩ := (HNext.out a k HK.out.1).1 _ f m u o hc RO
          subst hf
          obtain ⟨r0, hr0⟩ : ∃ r0, r0 = K[k] := ⟨_, rfl⟩
          rw [← hr0] at hc RO
          obtain ⟨ad, rfl, adl, y0, y1, y2, y3⟩ := row_rw (HR5.out.below BQ.out (Nat.le_refl _)) hc
          rw [RO.e] at y0 y1 y2 y3
          simp only at y0 y1 y2 y3
          have m1 := RO.m1; have fm := RO.fm; have vn := RO.vn; have om := RO.om
          rw [HNN.out] at fm
          have htx := RO.tx
          rw [HVS.out u] at om htx
          rw [HVS.out i, ← HLV.out] at htx
          obtain ⟨ad1', e1, l1, vc⟩ := RV5.out.get (vsl_get (s := s) (ss := ss) (show u < i + 1 by omega))
          cases e1
          obtain ⟨vv, hvv⟩ : ∃ vv, vv = vrs s ss u := ⟨_, rfl⟩
          rw [← hvv] at om htx vc
          rw [bi_len] at om
          obtain ⟨q, hq⟩ : ∃ q, q = vv.size := ⟨_, rfl⟩
          rw [← hq] at om
          have hqq : vv.size = q := hq.symm
          have q80 : q ≤ 1280 := by have := vrs_size s ss u; rw [← hvv, ← hq] at this; omega
          have vq : wr.cell? (ad1.add u) = some (.string vv) := (BQ.out.cell (by rw [block_add]; exact l1)).trans vc
          have lq : ad1.block < wr.heap.size := Nat.lt_of_lt_of_le l1 BQ.out.size
          have mdz : md.size = f := by
            have h := congrArg List.length HK.out.2.1
            rw [bi_len, List.length_take, bi_len, hNs] at h
            have := HK.out.2.2
            omega
          have HK2 : Hid (Cont (f + m) (K.drop (k + 1)) N ∧ bi (md ++ vv.extract o (o + m)) = (bi lv).take (f + m) ∧ f + m ≤ N) := Lib.hid ⟨hnx, by rw [bi_app, bi_extract, HK.out.2.1, Nat.add_sub_cancel_left, htx, List.take_add], fm⟩
          have BX2 := Lib.hid (Box.new wr 42 #[.int .i64 (f : Int), .int .i64 (m : Int), .int .i64 (u : Int), .int .i64 (o : Int)])
          have BQ2 := Lib.hid (balloc BQ.out (.cells #[.int .i64 (f : Int), .int .i64 (m : Int), .int .i64 (u : Int), .int .i64 (o : Int)] 42))
          have hsl := fun w => str_both vv o (o + m) q hqq (by omega) om w
          have iu : (u : Int) < (i : Int) + 1 := by omega
          have wa : IntKind.i64.wrap ((o : Int) + (m : Int)) = (o : Int) + (m : Int) := IntWalk.i64_in _ ⟨by omega, by omega⟩
          have t2 : decide ((m : Int) < 1) = false := by simp; omega
          have t4 : decide ((i : Int) + 1 ≤ (u : Int)) = false := by simp; omega
          have t6 : decide ((q : Int) < (o : Int) + (m : Int)) = false := by simp; omega
          clear hkl hc hr0 RO hnx htx hvv hq vc l1 HK fm
          have vq2 : (wr.alloc (.cells #[.int .i64 (f : Int), .int .i64 (m : Int), .int .i64 (u : Int), .int .i64 (o : Int)] 42)).cell? (ad1.add u) = some (.string vv) := ((balloc (Below.refl wr.heap.size wr) _).cell (by rw [block_add]; exact lq)).trans vq
          have BX3 := BX2.out
          go_upto_region 26 with fail
          refine region_lin (.val (fun v _ => v = .pointer (some ⟨wr.heap.size, 0, none⟩)) :: .val (fun v _ => v = .int .i64 (f : Int)) :: .val (fun v _ => v = .string md) :: .val (fun v _ => v = .int .i64 (f : Int)) :: .val (fun v _ => v = .bool false) :: .val (fun v _ => v = .bool false) :: .val (fun v _ => v = .pointer (some ⟨wr.heap.size, 1, none⟩)) :: .val (fun v _ => v = .int .i64 (m : Int)) :: .val (fun v _ => v = .bool false) :: .val (fun v _ => v = .bool false) :: .val (fun v _ => v = .bool false) :: .val (fun v _ => v = .pointer (some ⟨wr.heap.size, 2, none⟩)) :: .val (fun v _ => v = .int .i64 (u : Int)) :: .val (fun v _ => v = .bool false) :: .val (fun v _ => v = .bool false) :: .val (fun v _ => v = .bool false) :: .val (fun v _ => v = .pointer (some ⟨wr.heap.size, 2, none⟩)) :: .val (fun v _ => v = .int .i64 (u : Int)) :: .val (fun v _ => v = .slice (some ad1) (i + 1) c1) :: .val (fun v _ => v = .int .i64 ((i : Int) + 1)) :: .val (fun v _ => v = .bool false) :: .val (fun v _ => v = .bool false) :: .val (fun v _ => v = .bool false) :: .val (fun v _ => v = .pointer (some ⟨wr.heap.size, 3, none⟩)) :: .val (fun v _ => v = .int .i64 (o : Int)) :: .val (fun v _ => v = .bool false) :: .val (fun v _ => v = .bool false) :: .val (fun v _ => v = .bool false) :: .val (fun v _ => v = .pointer (some ⟨wr.heap.size, 3, none⟩)) :: .val (fun v _ => v = .int .i64 (o : Int)) :: .val (fun v _ => v = .pointer (some ⟨wr.heap.size, 1, none⟩)) :: .val (fun v _ => v = .int .i64 (m : Int)) :: .val (fun v _ => v = .int .i64 ((o : Int) + (m : Int))) :: .val (fun v _ => v = .slice (some ad1) (i + 1) c1) :: .val (fun v _ => v = .pointer (some ⟨wr.heap.size, 2, none⟩)) :: .val (fun v _ => v = .int .i64 (u : Int)) :: .val (fun v _ => v = .pointer (some (ad1.add u))) :: .val (fun v _ => v = .string vv) :: .val (fun v _ => v = .int .i64 (q : Int)) :: .val (fun v _ => v = .bool false) :: .val (fun v _ => v = .bool false) :: [])
            ([] :: [(102, 0)] :: [] :: [(104, 2)] :: [(103, 1), (105, 3)] :: [(106, 4)] :: [(107, 5)] :: [(108, 6), (107, 5)] :: [(109, 7), (107, 5)] :: [(107, 5), (110, 8)] :: [(111, 9)] :: [(112, 10)] :: [(113, 11), (112, 10)] :: [(114, 12), (112, 10)] :: [(112, 10), (115, 13)] :: [(116, 14)] :: [(117, 15)] :: [(118, 16), (117, 15)] :: [(117, 15)] :: [(120, 18), (117, 15)] :: [(119, 17), (121, 19), (117, 15)] :: [(117, 15), (122, 20)] :: [(123, 21)] :: [(124, 22)] :: [(125, 23), (124, 22)] :: [(126, 24), (124, 22)] :: [(124, 22), (127, 25)] :: [(128, 26)] :: [(129, 27)] :: [(130, 28), (129, 27)] :: [(129, 27)] :: [(132, 30), (129, 27)] :: [(131, 29), (133, 31), (129, 27)] :: [(129, 27)] :: [(129, 27)] :: [(136, 34), (129, 27)] :: [(135, 33), (137, 35), (129, 27)] :: [(138, 36), (129, 27)] :: [(139, 37), (129, 27)] :: [(134, 32), (140, 38), (129, 27)] :: [(129, 27), (141, 39)] :: []) ((0, 0) :: (0, 0) :: (0, 0) :: (0, 0) :: (0, 0) :: (0, 0) :: (0, 0) :: (0, 0) :: (0, 0) :: (0, 0) :: (0, 0) :: (0, 0) :: (0, 0) :: (0, 0) :: (0, 0) :: (0, 0) :: (0, 0) :: (0, 0) :: (0, 0) :: (0, 0) :: (0, 0) :: (0, 0) :: (0, 0) :: (0, 0) :: (0, 0) :: (0, 0) :: (0, 0) :: (0, 0) :: (0, 0) :: (0, 0) :: (0, 0) :: (0, 0) :: (0, 0) :: (0, 0) :: (0, 0) :: (0, 0) :: (0, 0) :: (0, 0) :: (0, 0) :: (0, 0) :: (0, 0) :: []) 223 (by kernel_rfl) rfl rfl (by kernel_rfl) ⟨Stab.pure _ _ _, Stab.pure _ _ _, Stab.pure _ _ _, Stab.pure _ _ _, Stab.pure _ _ _, Stab.pure _ _ _, Stab.pure _ _ _, Stab.pure _ _ _, Stab.pure _ _ _, Stab.pure _ _ _, Stab.pure _ _ _, Stab.pure _ _ _, Stab.pure _ _ _, Stab.pure _ _ _, Stab.pure _ _ _, Stab.pure _ _ _, Stab.pure _ _ _, Stab.pure _ _ _, Stab.pure _ _ _, Stab.pure _ _ _, Stab.pure _ _ _, Stab.pure _ _ _, Stab.pure _ _ _, Stab.pure _ _ _, Stab.pure _ _ _, Stab.pure _ _ _, Stab.pure _ _ _, Stab.pure _ _ _, Stab.pure _ _ _, Stab.pure _ _ _, Stab.pure _ _ _, Stab.pure _ _ _, Stab.pure _ _ _, Stab.pure _ _ _, Stab.pure _ _ _, Stab.pure _ _ _, Stab.pure _ _ _, Stab.pure _ _ _, Stab.pure _ _ _, Stab.pure _ _ _, Stab.pure _ _ _, trivial⟩ ⟨?_, ?_, ?_, ?_, ?_, ?_, ?_, ?_, ?_, ?_, ?_, ?_, ?_, ?_, ?_, ?_, ?_, ?_, ?_, ?_, ?_, ?_, ?_, ?_, ?_, ?_, ?_, ?_, ?_, ?_, ?_, ?_, ?_, ?_, ?_, ?_, ?_, ?_, ?_, ?_, ?_, trivial⟩ ?_
          · intro wx hb
            intro K hK
            go_simp
            exact hK _ _ rfl ⟨rfl, Below.refl _ _⟩
          · intro wx hb
            rintro _ rfl
            intro K hK
            have mm := Box.below (BX3) hb (Box.lt (BX3))
            have m0 : wx.cell? ⟨wr.heap.size, 0, none⟩ = some (.int .i64 (f : Int)) := mm.cell 0
            have m1 : wx.cell? ⟨wr.heap.size, 1, none⟩ = some (.int .i64 (m : Int)) := mm.cell 1
            have m2 : wx.cell? ⟨wr.heap.size, 2, none⟩ = some (.int .i64 (u : Int)) := mm.cell 2
            have m3 : wx.cell? ⟨wr.heap.size, 3, none⟩ = some (.int .i64 (o : Int)) := mm.cell 3
            clear mm
            go_simp
            exact hK _ _ rfl ⟨rfl, Below.refl _ _⟩
          · intro wx hb
            intro K hK
            go_simp
            exact hK _ _ rfl ⟨rfl, Below.refl _ _⟩
          · intro wx hb
            rintro _ rfl
            intro K hK
            go_simp
            exact hK _ _ rfl ⟨rfl, Below.refl _ _⟩
          · intro wx hb
            rintro _ rfl
            rintro _ rfl
            intro K hK
            go_simp
            exact hK _ _ rfl ⟨rfl, Below.refl _ _⟩
          · intro wx hb
            rintro _ rfl
            intro K hK
            go_simp
            exact hK _ _ rfl ⟨rfl, Below.refl _ _⟩
          · intro wx hb
            rintro _ rfl
            refine ⟨fun _ => ?_, fun h => absurd (show true = false from h) (by decide)⟩
            intro K hK
            go_simp
            exact hK _ _ rfl ⟨rfl, Below.refl _ _⟩
          · intro wx hb
            rintro _ rfl
            rintro _ rfl
            refine ⟨fun _ => ?_, fun h => absurd (show true = false from h) (by decide)⟩
            intro K hK
            have mm := Box.below (BX3) hb (Box.lt (BX3))
            have m0 : wx.cell? ⟨wr.heap.size, 0, none⟩ = some (.int .i64 (f : Int)) := mm.cell 0
            have m1 : wx.cell? ⟨wr.heap.size, 1, none⟩ = some (.int .i64 (m : Int)) := mm.cell 1
            have m2 : wx.cell? ⟨wr.heap.size, 2, none⟩ = some (.int .i64 (u : Int)) := mm.cell 2
            have m3 : wx.cell? ⟨wr.heap.size, 3, none⟩ = some (.int .i64 (o : Int)) := mm.cell 3
            clear mm
            go_simp
            exact hK _ _ rfl ⟨rfl, Below.refl _ _⟩
          · intro wx hb
            rintro _ rfl
            rintro _ rfl
            refine ⟨fun _ => ?_, fun h => absurd (show true = false from h) (by decide)⟩
            intro K hK
            go_simp
            exact hK _ _ rfl ⟨rfl, Below.refl _ _⟩
          · intro wx hb
            rintro _ rfl
            rintro _ rfl
            intro K hK
            go_simp
            exact hK _ _ rfl ⟨rfl, Below.refl _ _⟩
          · intro wx hb
            rintro _ rfl
            intro K hK
            go_simp
            exact hK _ _ rfl ⟨rfl, Below.refl _ _⟩
          · intro wx hb
            rintro _ rfl
            refine ⟨fun _ => ?_, fun h => absurd (show true = false from h) (by decide)⟩
            intro K hK
            go_simp
            exact hK _ _ rfl ⟨rfl, Below.refl _ _⟩
          · intro wx hb
            rintro _ rfl
            rintro _ rfl
            refine ⟨fun _ => ?_, fun h => absurd (show true = false from h) (by decide)⟩
            intro K hK
            have mm := Box.below (BX3) hb (Box.lt (BX3))
            have m0 : wx.cell? ⟨wr.heap.size, 0, none⟩ = some (.int .i64 (f : Int)) := mm.cell 0
            have m1 : wx.cell? ⟨wr.heap.size, 1, none⟩ = some (.int .i64 (m : Int)) := mm.cell 1
            have m2 : wx.cell? ⟨wr.heap.size, 2, none⟩ = some (.int .i64 (u : Int)) := mm.cell 2
            have m3 : wx.cell? ⟨wr.heap.size, 3, none⟩ = some (.int .i64 (o : Int)) := mm.cell 3
            clear mm
            go_simp
            exact hK _ _ rfl ⟨rfl, Below.refl _ _⟩
          · intro wx hb
            rintro _ rfl
            rintro _ rfl
            refine ⟨fun _ => ?_, fun h => absurd (show true = false from h) (by decide)⟩
            intro K hK
            go_simp
            exact hK _ _ rfl ⟨rfl, Below.refl _ _⟩
          · intro wx hb
            rintro _ rfl
            rintro _ rfl
            intro K hK
            go_simp
            exact hK _ _ rfl ⟨rfl, Below.refl _ _⟩
          · intro wx hb
            rintro _ rfl
            intro K hK
            go_simp
            exact hK _ _ rfl ⟨rfl, Below.refl _ _⟩
          · intro wx hb
            rintro _ rfl
            refine ⟨fun _ => ?_, fun h => absurd (show true = false from h) (by decide)⟩
            intro K hK
            go_simp
            exact hK _ _ rfl ⟨rfl, Below.refl _ _⟩
          · intro wx hb
            rintro _ rfl
            rintro _ rfl
            refine ⟨fun _ => ?_, fun h => absurd (show true = false from h) (by decide)⟩
            intro K hK
            have mm := Box.below (BX3) hb (Box.lt (BX3))
            have m0 : wx.cell? ⟨wr.heap.size, 0, none⟩ = some (.int .i64 (f : Int)) := mm.cell 0
            have m1 : wx.cell? ⟨wr.heap.size, 1, none⟩ = some (.int .i64 (m : Int)) := mm.cell 1
            have m2 : wx.cell? ⟨wr.heap.size, 2, none⟩ = some (.int .i64 (u : Int)) := mm.cell 2
            have m3 : wx.cell? ⟨wr.heap.size, 3, none⟩ = some (.int .i64 (o : Int)) := mm.cell 3
            clear mm
            go_simp
            exact hK _ _ rfl ⟨rfl, Below.refl _ _⟩
          · intro wx hb
            rintro _ rfl
            refine ⟨fun _ => ?_, fun h => absurd (show true = false from h) (by decide)⟩
            intro K hK
            go_simp
            exact hK _ _ rfl ⟨rfl, Below.refl _ _⟩
          · intro wx hb
            rintro _ rfl
            rintro _ rfl
            refine ⟨fun _ => ?_, fun h => absurd (show true = false from h) (by decide)⟩
            intro K hK
            go_simp
            exact hK _ _ rfl ⟨rfl, Below.refl _ _⟩
          · intro wx hb
            rintro _ rfl
            rintro _ rfl
            rintro _ rfl
            refine ⟨fun _ => ?_, fun h => absurd (show true = false from h) (by decide)⟩
            intro K hK
            go_simp
            exact hK _ _ rfl ⟨rfl, Below.refl _ _⟩
          · intro wx hb
            rintro _ rfl
            rintro _ rfl
            intro K hK
            go_simp
            exact hK _ _ rfl ⟨rfl, Below.refl _ _⟩
          · intro wx hb
            rintro _ rfl
            intro K hK
            go_simp
            exact hK _ _ rfl ⟨rfl, Below.refl _ _⟩
          · intro wx hb
            rintro _ rfl
            refine ⟨fun _ => ?_, fun h => absurd (show true = false from h) (by decide)⟩
            intro K hK
            go_simp
            exact hK _ _ rfl ⟨rfl, Below.refl _ _⟩
          · intro wx hb
            rintro _ rfl
            rintro _ rfl
            refine ⟨fun _ => ?_, fun h => absurd (show true = false from h) (by decide)⟩
            intro K hK
            have mm := Box.below (BX3) hb (Box.lt (BX3))
            have m0 : wx.cell? ⟨wr.heap.size, 0, none⟩ = some (.int .i64 (f : Int)) := mm.cell 0
            have m1 : wx.cell? ⟨wr.heap.size, 1, none⟩ = some (.int .i64 (m : Int)) := mm.cell 1
            have m2 : wx.cell? ⟨wr.heap.size, 2, none⟩ = some (.int .i64 (u : Int)) := mm.cell 2
            have m3 : wx.cell? ⟨wr.heap.size, 3, none⟩ = some (.int .i64 (o : Int)) := mm.cell 3
            clear mm
            go_simp
            exact hK _ _ rfl ⟨rfl, Below.refl _ _⟩
          · intro wx hb
            rintro _ rfl
            rintro _ rfl
            refine ⟨fun _ => ?_, fun h => absurd (show true = false from h) (by decide)⟩
            intro K hK
            go_simp
            exact hK _ _ rfl ⟨rfl, Below.refl _ _⟩
          · intro wx hb
            rintro _ rfl
            rintro _ rfl
            intro K hK
            go_simp
            exact hK _ _ rfl ⟨rfl, Below.refl _ _⟩
          · intro wx hb
            rintro _ rfl
            intro K hK
            go_simp
            exact hK _ _ rfl ⟨rfl, Below.refl _ _⟩
          · intro wx hb
            rintro _ rfl
            refine ⟨fun _ => ?_, fun h => absurd (show true = false from h) (by decide)⟩
            intro K hK
            go_simp
            exact hK _ _ rfl ⟨rfl, Below.refl _ _⟩
          · intro wx hb
            rintro _ rfl
            rintro _ rfl
            refine ⟨fun _ => ?_, fun h => absurd (show true = false from h) (by decide)⟩
            intro K hK
            have mm := Box.below (BX3) hb (Box.lt (BX3))
            have m0 : wx.cell? ⟨wr.heap.size, 0, none⟩ = some (.int .i64 (f : Int)) := mm.cell 0
            have m1 : wx.cell? ⟨wr.heap.size, 1, none⟩ = some (.int .i64 (m : Int)) := mm.cell 1
            have m2 : wx.cell? ⟨wr.heap.size, 2, none⟩ = some (.int .i64 (u : Int)) := mm.cell 2
            have m3 : wx.cell? ⟨wr.heap.size, 3, none⟩ = some (.int .i64 (o : Int)) := mm.cell 3
            clear mm
            go_simp
            exact hK _ _ rfl ⟨rfl, Below.refl _ _⟩
          · intro wx hb
            rintro _ rfl
            refine ⟨fun _ => ?_, fun h => absurd (show true = false from h) (by decide)⟩
            intro K hK
            go_simp
            exact hK _ _ rfl ⟨rfl, Below.refl _ _⟩
          · intro wx hb
            rintro _ rfl
            rintro _ rfl
            refine ⟨fun _ => ?_, fun h => absurd (show true = false from h) (by decide)⟩
            intro K hK
            have mm := Box.below (BX3) hb (Box.lt (BX3))
            have m0 : wx.cell? ⟨wr.heap.size, 0, none⟩ = some (.int .i64 (f : Int)) := mm.cell 0
            have m1 : wx.cell? ⟨wr.heap.size, 1, none⟩ = some (.int .i64 (m : Int)) := mm.cell 1
            have m2 : wx.cell? ⟨wr.heap.size, 2, none⟩ = some (.int .i64 (u : Int)) := mm.cell 2
            have m3 : wx.cell? ⟨wr.heap.size, 3, none⟩ = some (.int .i64 (o : Int)) := mm.cell 3
            clear mm
            go_simp
            exact hK _ _ rfl ⟨rfl, Below.refl _ _⟩
          · intro wx hb
            rintro _ rfl
            rintro _ rfl
            rintro _ rfl
            refine ⟨fun _ => ?_, fun h => absurd (show true = false from h) (by decide)⟩
            intro K hK
            go_simp
            exact hK _ _ rfl ⟨rfl, Below.refl _ _⟩
          · intro wx hb
            rintro _ rfl
            refine ⟨fun _ => ?_, fun h => absurd (show true = false from h) (by decide)⟩
            intro K hK
            go_simp
            exact hK _ _ rfl ⟨rfl, Below.refl _ _⟩
          · intro wx hb
            rintro _ rfl
            refine ⟨fun _ => ?_, fun h => absurd (show true = false from h) (by decide)⟩
            intro K hK
            go_simp
            exact hK _ _ rfl ⟨rfl, Below.refl _ _⟩
          · intro wx hb
            rintro _ rfl
            rintro _ rfl
            refine ⟨fun _ => ?_, fun h => absurd (show true = false from h) (by decide)⟩
            intro K hK
            have mm := Box.below (BX3) hb (Box.lt (BX3))
            have m0 : wx.cell? ⟨wr.heap.size, 0, none⟩ = some (.int .i64 (f : Int)) := mm.cell 0
            have m1 : wx.cell? ⟨wr.heap.size, 1, none⟩ = some (.int .i64 (m : Int)) := mm.cell 1
            have m2 : wx.cell? ⟨wr.heap.size, 2, none⟩ = some (.int .i64 (u : Int)) := mm.cell 2
            have m3 : wx.cell? ⟨wr.heap.size, 3, none⟩ = some (.int .i64 (o : Int)) := mm.cell 3
            clear mm
            go_simp
            exact hK _ _ rfl ⟨rfl, Below.refl _ _⟩
          · intro wx hb
            rintro _ rfl
            rintro _ rfl
            rintro _ rfl
            refine ⟨fun _ => ?_, fun h => absurd (show true = false from h) (by decide)⟩
            intro K hK
            go_simp
            exact hK _ _ rfl ⟨rfl, Below.refl _ _⟩
          · intro wx hb
            rintro _ rfl
            rintro _ rfl
            refine ⟨fun _ => ?_, fun h => absurd (show true = false from h) (by decide)⟩
            intro K hK
            have cc : wx.cell? (ad1.add u) = some (.string vv) := (hb.cell (by rw [block_add]; simp; omega)).trans vq2
            go_simp
            exact hK _ _ rfl ⟨rfl, Below.refl _ _⟩
          · intro wx hb
            rintro _ rfl
            rintro _ rfl
            refine ⟨fun _ => ?_, fun h => absurd (show true = false from h) (by decide)⟩
            intro K hK
            go_simp
            exact hK _ _ rfl ⟨rfl, Below.refl _ _⟩
          · intro wx hb
            rintro _ rfl
            rintro _ rfl
            rintro _ rfl
            refine ⟨fun _ => ?_, fun h => absurd (show true = false from h) (by decide)⟩
            intro K hK
            go_simp
            exact hK _ _ rfl ⟨rfl, Below.refl _ _⟩
          · intro wx hb
            rintro _ rfl
            rintro _ rfl
            intro K hK
            go_simp
            exact hK _ _ rfl ⟨rfl, Below.refl _ _⟩
          intro w6 B6
          rintro _ rfl
          rintro _ rfl
          rintro _ rfl
          rintro _ rfl
          rintro _ rfl
          rintro _ rfl
          rintro _ rfl
          rintro _ rfl
          rintro _ rfl
          rintro _ rfl
          rintro _ rfl
          rintro _ rfl
          rintro _ rfl
          rintro _ rfl
          rintro _ rfl
          rintro _ rfl
          rintro _ rfl
          rintro _ rfl
          rintro _ rfl
          rintro _ rfl
          rintro _ rfl
          rintro _ rfl
          rintro _ rfl
          rintro _ rfl
          rintro _ rfl
          rintro _ rfl
          rintro _ rfl
          rintro _ rfl
          rintro _ rfl
          rintro _ rfl
          rintro _ rfl
          rintro _ rfl
          rintro _ rfl
          rintro _ rfl
          rintro _ rfl
          rintro _ rfl
          rintro _ rfl
          rintro _ rfl
          rintro _ rfl
          rintro _ rfl
          rintro _ rfl
          rintro -
          simp only [Act.put, List.setIfInBounds_toArray, List.set_cons_zero, List.set_cons_succ, List.toList_toArray, List.length_cons, List.length_nil, List.drop_succ_cons, List.drop_zero, List.drop_nil, Nat.zero_add, wpList]
          have BX6 := BX3.below B6 BX3.lt
          have vq6 : w6.cell? (ad1.add u) = some (.string vv) := (B6.cell (by rw [block_add]; simp; omega)).trans vq2
          have BQ6 := Lib.hid (bkeep BQ2.out B6)
          have lq6 : ad1.block < w6.heap.size := by have := B6.size; simp at this; omega
          clear BX2 BX3 BQ2 B6 vq2 BQ vq lq y0 y1 y2 y3 adl
          have hsl2 : ∀ w, (Instr.slice 9 (.string vv) (some (.int .i64 (o : Int))) (some (.int .i64 ((o : Int) + (m : Int)))) none).run Try.prog w = .ok (.string (vv.extract o (o + m))) w := fun w => by have := hsl w; rwa [show ((o + m : Nat) : Int) = (o : Int) + (m : Int) by omega] at this
          have cat := fun w => run_string_add_sum (P := Try.prog) (w := w) md (vv.extract o (o + m)) (by have := HK2.out.2.2; rw [ByteArray.size_extract]; omega)
          clear hsl
          go_wp2_with fail
          go_upto_region 28 with fail
          refine region_lin (.val (fun v _ => v = .string md) :: .val (fun v _ => v = .slice (some ad1) (i + 1) c1) :: .val (fun v _ => v = .pointer (some ⟨wr.heap.size, 2, none⟩)) :: .val (fun v _ => v = .int .i64 (u : Int)) :: .val (fun v _ => v = .pointer (some (ad1.add u))) :: .val (fun v _ => v = .string vv) :: .val (fun v _ => v = .pointer (some ⟨wr.heap.size, 3, none⟩)) :: .val (fun v _ => v = .int .i64 (o : Int)) :: .val (fun v _ => v = .pointer (some ⟨wr.heap.size, 3, none⟩)) :: .val (fun v _ => v = .int .i64 (o : Int)) :: .val (fun v _ => v = .pointer (some ⟨wr.heap.size, 1, none⟩)) :: .val (fun v _ => v = .int .i64 (m : Int)) :: .val (fun v _ => v = .int .i64 ((o : Int) + (m : Int))) :: .val (fun v _ => v = .string (vv.extract o (o + m))) :: .val (fun v _ => v = .string (md ++ vv.extract o (o + m))) :: .val (fun v _ => v = .string (md ++ vv.extract o (o + m))) :: [])
            ([] :: [] :: [] :: [(145, 2)] :: [(144, 1), (146, 3)] :: [(147, 4)] :: [] :: [(149, 6)] :: [] :: [(151, 8)] :: [] :: [(153, 10)] :: [(152, 9), (154, 11)] :: [(148, 5), (150, 7), (155, 12)] :: [(143, 0), (156, 13)] :: [(157, 14)] :: []) ((0, 0) :: (0, 0) :: (0, 0) :: (0, 0) :: (0, 0) :: (0, 0) :: (0, 0) :: (0, 0) :: (0, 0) :: (0, 0) :: (0, 0) :: (0, 0) :: (0, 0) :: (0, 0) :: (0, 0) :: (0, 0) :: []) 223 (by kernel_rfl) rfl rfl (by kernel_rfl) ⟨Stab.pure _ _ _, Stab.pure _ _ _, Stab.pure _ _ _, Stab.pure _ _ _, Stab.pure _ _ _, Stab.pure _ _ _, Stab.pure _ _ _, Stab.pure _ _ _, Stab.pure _ _ _, Stab.pure _ _ _, Stab.pure _ _ _, Stab.pure _ _ _, Stab.pure _ _ _, Stab.pure _ _ _, Stab.pure _ _ _, Stab.pure _ _ _, trivial⟩ ⟨?_, ?_, ?_, ?_, ?_, ?_, ?_, ?_, ?_, ?_, ?_, ?_, ?_, ?_, ?_, ?_, trivial⟩ ?_
          · intro wx hb
            intro K hK
            go_simp
            exact hK _ _ rfl ⟨rfl, Below.refl _ _⟩
          · intro wx hb
            intro K hK
            go_simp
            exact hK _ _ rfl ⟨rfl, Below.refl _ _⟩
          · intro wx hb
            intro K hK
            go_simp
            exact hK _ _ rfl ⟨rfl, Below.refl _ _⟩
          · intro wx hb
            rintro _ rfl
            intro K hK
            have mm := Box.below (BX6) hb (Box.lt (BX6))
            have m0 : wx.cell? ⟨wr.heap.size, 0, none⟩ = some (.int .i64 (f : Int)) := mm.cell 0
            have m1 : wx.cell? ⟨wr.heap.size, 1, none⟩ = some (.int .i64 (m : Int)) := mm.cell 1
            have m2 : wx.cell? ⟨wr.heap.size, 2, none⟩ = some (.int .i64 (u : Int)) := mm.cell 2
            have m3 : wx.cell? ⟨wr.heap.size, 3, none⟩ = some (.int .i64 (o : Int)) := mm.cell 3
            clear mm
            go_simp
            exact hK _ _ rfl ⟨rfl, Below.refl _ _⟩
          · intro wx hb
            rintro _ rfl
            rintro _ rfl
            intro K hK
            go_simp
            exact hK _ _ rfl ⟨rfl, Below.refl _ _⟩
          · intro wx hb
            rintro _ rfl
            intro K hK
            have cc : wx.cell? (ad1.add u) = some (.string vv) := (hb.cell (by rw [block_add]; exact lq6)).trans vq6
            go_simp
            exact hK _ _ rfl ⟨rfl, Below.refl _ _⟩
          · intro wx hb
            intro K hK
            go_simp
            exact hK _ _ rfl ⟨rfl, Below.refl _ _⟩
          · intro wx hb
            rintro _ rfl
            intro K hK
            have mm := Box.below (BX6) hb (Box.lt (BX6))
            have m0 : wx.cell? ⟨wr.heap.size, 0, none⟩ = some (.int .i64 (f : Int)) := mm.cell 0
            have m1 : wx.cell? ⟨wr.heap.size, 1, none⟩ = some (.int .i64 (m : Int)) := mm.cell 1
            have m2 : wx.cell? ⟨wr.heap.size, 2, none⟩ = some (.int .i64 (u : Int)) := mm.cell 2
            have m3 : wx.cell? ⟨wr.heap.size, 3, none⟩ = some (.int .i64 (o : Int)) := mm.cell 3
            clear mm
            go_simp
            exact hK _ _ rfl ⟨rfl, Below.refl _ _⟩
          · intro wx hb
            intro K hK
            go_simp
            exact hK _ _ rfl ⟨rfl, Below.refl _ _⟩
          · intro wx hb
            rintro _ rfl
            intro K hK
            have mm := Box.below (BX6) hb (Box.lt (BX6))
            have m0 : wx.cell? ⟨wr.heap.size, 0, none⟩ = some (.int .i64 (f : Int)) := mm.cell 0
            have m1 : wx.cell? ⟨wr.heap.size, 1, none⟩ = some (.int .i64 (m : Int)) := mm.cell 1
            have m2 : wx.cell? ⟨wr.heap.size, 2, none⟩ = some (.int .i64 (u : Int)) := mm.cell 2
            have m3 : wx.cell? ⟨wr.heap.size, 3, none⟩ = some (.int .i64 (o : Int)) := mm.cell 3
            clear mm
            go_simp
            exact hK _ _ rfl ⟨rfl, Below.refl _ _⟩
          · intro wx hb
            intro K hK
            go_simp
            exact hK _ _ rfl ⟨rfl, Below.refl _ _⟩
          · intro wx hb
            rintro _ rfl
            intro K hK
            have mm := Box.below (BX6) hb (Box.lt (BX6))
            have m0 : wx.cell? ⟨wr.heap.size, 0, none⟩ = some (.int .i64 (f : Int)) := mm.cell 0
            have m1 : wx.cell? ⟨wr.heap.size, 1, none⟩ = some (.int .i64 (m : Int)) := mm.cell 1
            have m2 : wx.cell? ⟨wr.heap.size, 2, none⟩ = some (.int .i64 (u : Int)) := mm.cell 2
            have m3 : wx.cell? ⟨wr.heap.size, 3, none⟩ = some (.int .i64 (o : Int)) := mm.cell 3
            clear mm
            go_simp
            exact hK _ _ rfl ⟨rfl, Below.refl _ _⟩
          · intro wx hb
            rintro _ rfl
            rintro _ rfl
            intro K hK
            go_simp
            exact hK _ _ rfl ⟨rfl, Below.refl _ _⟩
          · intro wx hb
            rintro _ rfl
            rintro _ rfl
            rintro _ rfl
            intro K hK
            go_simp
            exact hK _ _ rfl ⟨rfl, Below.refl _ _⟩
          · intro wx hb
            rintro _ rfl
            rintro _ rfl
            intro K hK
            go_simp
            exact hK _ _ rfl ⟨rfl, Below.refl _ _⟩
          · intro wx hb
            rintro _ rfl
            intro K hK
            go_simp
            exact hK _ _ rfl ⟨rfl, Below.refl _ _⟩
          intro w7 B7
          rintro _ rfl
          rintro _ rfl
          rintro _ rfl
          rintro _ rfl
          rintro _ rfl
          rintro _ rfl
          rintro _ rfl
          rintro _ rfl
          rintro _ rfl
          rintro _ rfl
          rintro _ rfl
          rintro _ rfl
          rintro _ rfl
          rintro _ rfl
          rintro _ rfl
          rintro _ rfl
          rintro -
          simp only [Act.put, List.setIfInBounds_toArray, List.set_cons_zero, List.set_cons_succ, List.toList_toArray, List.length_cons, List.length_nil, List.drop_succ_cons, List.drop_zero, List.drop_nil, Nat.zero_add, wpList]
          have BQ7 := Lib.hid (bkeep BQ6.out B7)
          clear B7 BX6 vq6 BQ6 lq6
          go_wp2_with fail
          go_roundw
          case rel => exact ⟨k + 1, f + m, _, by go_num, by omega, rfl, HK2, BQ7⟩
          case measure => simp [intOf]; omega
-- }}
        · obtain rfl : k = kn := by omega
          have ha := (HNext.out a k HK.out.1).2 HKN.out.symm
          have hmd : lv = md := (bi_inj (by rw [HK.out.2.1, ha]; exact List.take_of_length_le (by rw [bi_len, hNs]; exact Nat.le_refl _))).symm
          subst hmd
          clear ha HK HRow HNext HC0
          go_wp2_with fail
          go_loopw [19, 20, 21, 22, 23, 24, 25, 26] (fun s19 _ _ _ _ _ _ _ wr => ∃ x : Nat, s19 = .int .i64 (x : Int) ∧ x ≤ N ∧ Hid (Below w5.heap.size w5 wr)) (fun s19 _ _ _ _ _ _ _ _ => N - (intOf s19).toNat)
          case atStart => exact ⟨0, rfl, by omega, BQ⟩
          case round =>
            clear BQ
            obtain ⟨x, rfl, hx, BQ⟩ := hrel
            by_cases hlt : x < N
            · obtain ⟨kk, r, RF⟩ := HFor.out x hlt
              have HRF := Lib.hid RF
              clear RF
              go_wp2_with fail
              go_loopw [20, 21, 22, 23, 24] (fun s20 s21 _ _ _ wr => ∃ (b u : Nat), s20 = .int .i64 (b : Int) ∧ s21 = .int .i64 (u : Int) ∧ u ≤ i ∧ b ≤ 20000 ∧ Hid (trc T1 (gs.map Pg.p) u b = trc T1 (gs.map Pg.p) i x ∧ b < (vs u).length) ∧ Hid (Below w5.heap.size w5 wr)) (fun _ s21 _ _ _ _ => (intOf s21).toNat)
              case atStart => exact ⟨x, i, rfl, rfl, by omega, by omega, Lib.hid ⟨rfl, by rw [HNN.out]; exact hlt⟩, BQ⟩
              case round =>
                clear BQ
                obtain ⟨b, u, rfl, rfl, hu, hb2, HT, BQ⟩ := hrel
                match u with
                | 0 =>
                  have rf := HRF.out
                  have tr : (0, (b : Int)) = trc T1 (gs.map Pg.p) i x := HT.out.1
                  have rv_ := rf.v; have ro_ := rf.o
                  rw [← tr] at rv_ ro_
                  have HAt := Lib.hid (fun w ha => bat_any K k c5 A5 HKN.out (by omega) (x : Int) (by omega) (by omega) kk r rf.hr rf.h1 rf.h2 rf.hb rf.hlo w ha)
                  obtain ⟨q1, q2, q3⟩ := rf.b1
                  have q4 := rf.h1; have q5 := rf.h2
                  obtain ⟨rfr, rn, rv, ro⟩ := r
                  simp only at rv_ ro_ q1 q2 q3 q4 q5
                  have HAt' : Hid (∀ w, RowAt w A5 (rwc K) → Calls Try.prog 10 #[.slice A5 k c5, .int .i64 (x : Int)] w fun e w' => e = .returned (.tuple #[.agg #[.int .i64 rfr, .int .i64 rn, .int .i64 0, .int .i64 ro], .bool true]) ∧ Below w.heap.size w w') := by rw [show (0 : Int) = rv by omega]; exact HAt
                  have wb : IntKind.i64.wrap (ro + (x : Int)) = ro + (x : Int) := IntWalk.i64_in _ ⟨by omega, by omega⟩
                  have wc : IntKind.i64.wrap (ro + (x : Int) - rfr) = (b : Int) := by rw [show ro + (x : Int) - rfr = (b : Int) by omega]; exact IntWalk.i64_in _ ⟨by omega, by omega⟩
                  have HRQ := Lib.hid (HR5.out.below BQ.out (Nat.le_refl _))
                  clear rf tr rv_ ro_ HAt
                  go_wp2_with fail
                  (with_reducible refine (HAt'.out _ HRQ.out).mono ?_)
                  rintro e w8 ⟨rfl, B8⟩
                  have BQ8 := Lib.hid (balloc (bkeep BQ.out B8) (.cells #[.int .i64 rfr, .int .i64 rn, .int .i64 0, .int .i64 ro] 42))
                  clear B8 HRQ HAt' BQ
                  go_wp2_with fail
                  go_roundw
                  case rel => exact ⟨x + 1, by go_num, by omega, BQ8⟩
                  case measure => simp [intOf] <;> omega
                | u + 1 =>
                  have hul : u < (gs.map Pg.p).length := by simp; have := HGL.out; omega
                  have hug : u < gs.length := by simpa using hul
                  have hg := List.getElem?_eq_getElem hug
                  obtain ⟨g, hgg⟩ : ∃ g, g = gs[u] := ⟨_, rfl⟩
                  rw [← hgg] at hg
                  have hgm : g ∈ gs := List.mem_of_getElem? hg
                  have hpd : (gs.map Pg.p).getD u [] = g.p := by rw [List.getD_eq_getElem?_getD, List.getElem?_map, hg]; rfl
                  obtain ⟨po, pu⟩ := HVK.out.ok u hul
                  have nl := HVK.out.nl hul
                  rw [hpd] at po pu nl
                  have bin := fun b' (hb' : bkr (ilT T1) ((gs.map Pg.p).getD u []) 0 b = some b') => bkr_in HVK.out hul HT.out.2 hb'
                  have tb := fun b' (hb' : bkr (ilT T1) ((gs.map Pg.p).getD u []) 0 b = some b') => (trc_back hb').symm.trans HT.out.1
                  have te := fun (hb' : bkr (ilT T1) ((gs.map Pg.p).getD u []) 0 b = none) => (trc_end hb').symm.trans HT.out.1
                  rw [hpd] at bin tb te
                  obtain ⟨kb, kb1, kb2, kb3, kb4⟩ := bkv_ex T1 (pok_ordd po) (b : Int)
                  have hpl : g.p.length ≤ 100000 := by have := (HPO.out.ok u g hg).len; have := (mk_ok (vrs s ss u) (stp ss u)).2.1; omega
                  have HBk := Lib.hid (fun w st ha => back_any L1 T1 HGd.out (vs u).length g.p g.p.length g.c g.A rfl hpl po pu (b : Int) (by omega) (by rw [nl]; have := HT.out.2; omega) kb kb1 kb2 kb3 B S G w st ha)
                  have kb5 : bkv (mvs T1 0 g.p) (b : Int) kb = bko (bkr (ilT T1) g.p 0 b) := kb4
                  rw [kb5] at HBk
                  have hq0 := HVS.out u
                  obtain ⟨vv, hvv⟩ : ∃ vv, vv = vrs s ss u := ⟨_, rfl⟩
                  rw [← hvv] at hq0
                  obtain ⟨q, hq⟩ : ∃ q, q = vv.size := ⟨_, rfl⟩
                  have hqq : vv.size = q := hq.symm
                  have hql : (vs u).length = q := by rw [hq0, bi_len]; exact hqq
                  rw [hql] at HBk
                  obtain ⟨ad2, rfl, l2, gc0⟩ := HA5.out.r.get (show (gs.map Pg.v)[u]? = some g.v by rw [List.getElem?_map, hg]; rfl)
                  have HGA := Lib.hid (HA5.out.p g hgm)
                  obtain ⟨ad1', e1, l1, vc⟩ := RV5.out.get (vsl_get (s := s) (ss := ss) (show u < i + 1 by omega))
                  cases e1
                  rw [← hvv] at vc
                  have vq : wr.cell? (ad1.add u) = some (.string vv) := (BQ.out.cell (by rw [block_add]; exact l1)).trans vc
                  have gq : wr.cell? (ad2.add u) = some g.v := (BQ.out.cell (by rw [block_add]; exact l2)).trans gc0
                  have lq : ad1.block < wr.heap.size := Nat.lt_of_lt_of_le l1 BQ.out.size
                  have lq2 : ad2.block < wr.heap.size := Nat.lt_of_lt_of_le l2 BQ.out.size
                  have BXq := BX5.out.below BQ.out BX5.out.lt
                  obtain ⟨gA, gc, gp⟩ := g
                  obtain ⟨gn, hgn⟩ : ∃ gn, gn = gp.length := ⟨_, rfl⟩
                  replace gq : wr.cell? (ad2.add u) = some (.slice gA gn gc) := by rw [hgn]; exact gq
                  obtain ⟨bk, hbk⟩ : ∃ bk, bk = bkr (ilT T1) gp 0 b := ⟨_, rfl⟩
                  have HBk' : Hid (∀ w, St w B S G L1 → RowAt w gA (cgc gp) → Calls Try.prog 9 #[.pointer (some ⟨S, 0, none⟩), .int .i64 (q : Int), .slice gA gn gc, .int .i64 (b : Int)] w (BackOut (bko bk) w)) := by rw [hgn, hbk]; exact HBk
                  have hux : (u : Int) < (i : Int) + 1 := by omega
                  have hu5 : (u : Int) ≤ 5 := by omega
                  have hu0 : (0 : Int) ≤ (u : Int) := by omega
                  have wu : IntKind.i64.wrap (u : Int) = (u : Int) := IntWalk.i64_in _ ⟨by omega, by omega⟩
                  have wu2 : IntKind.i64.wrap ((u : Int) + 1 - 1) = (u : Int) := by rw [show (u : Int) + 1 - 1 = (u : Int) by omega]; exact wu
                  have hui : (u : Int) < (i : Int) := by omega
                  have hu1 : ((u + 1 : Nat) : Int) - 1 = (u : Int) := by omega
                  simp only at bin tb te
                  rw [← hbk] at bin tb te
                  clear hul hug hg hgg hgm hpd po pu nl kb1 kb2 kb3 kb4 kb5 hpl HBk hq0 hvv hq hql gc0 vc l1 l2 hgn hbk
                  cases bk with
                  | none =>
                    have HBk2 : Hid (∀ w, St w B S G L1 → RowAt w gA (cgc gp) → Calls Try.prog 9 #[.pointer (some ⟨S, 0, none⟩), .int .i64 (q : Int), .slice gA gn gc, .int .i64 (b : Int)] w fun e w' => e = .returned (.tuple #[.int .i64 0, .bool false, .nilIface]) ∧ Below w.heap.size w w') := HBk'
                    clear HBk'
                    go_upto_region 36 with fail
                    refine region_lin (.val (fun v _ => v = .pointer (some ⟨D, 0, none⟩)) :: .val (fun v _ => v = .pointer (some ⟨S, 0, none⟩)) :: .val (fun v _ => v = .slice (some ad1) (i + 1) c1) :: .val (fun v _ => v = .int .i64 ((u : Int) + 1)) :: .val (fun v _ => v = .int .i64 (u : Int)) :: .val (fun v _ => v = .pointer (some (ad1.add u))) :: .val (fun v _ => v = .string vv) :: .val (fun v _ => v = .int .i64 (q : Int)) :: .val (fun v _ => v = .slice (some ad2) i c2) :: .val (fun v _ => v = .int .i64 ((u : Int) + 1)) :: .val (fun v _ => v = .int .i64 (u : Int)) :: .val (fun v _ => v = .pointer (some (ad2.add u))) :: .val (fun v _ => v = .slice gA gn gc) :: .val (fun v _ => v = .int .i64 (b : Int)) :: .val (fun v _ => v = .tuple #[.int .i64 0, .bool false, .nilIface]) :: .val (fun v _ => v = .tuple #[.int .i64 0, .bool false, .nilIface]) :: .val (fun v _ => v = .int .i64 0) :: .val (fun v _ => v = .bool false) :: .val (fun v _ => v = .nilIface) :: .val (fun v _ => v = .int .i64 0) :: .val (fun v _ => v = .bool false) :: .val (fun v _ => v = .nilIface) :: [])
                      ([] :: [(173, 0)] :: [] :: [] :: [(176, 3)] :: [(175, 2), (177, 4)] :: [(178, 5)] :: [(179, 6)] :: [] :: [] :: [(182, 9)] :: [(181, 8), (183, 10)] :: [(184, 11)] :: [] :: [(174, 1), (180, 7), (185, 12), (186, 13)] :: [(187, 14)] :: [(172, 15)] :: [(172, 15)] :: [(172, 15)] :: [(188, 16)] :: [(189, 17)] :: [(190, 18)] :: []) ((0, 0) :: (0, 0) :: (0, 0) :: (0, 0) :: (0, 0) :: (0, 0) :: (0, 0) :: (0, 0) :: (0, 0) :: (0, 0) :: (0, 0) :: (0, 0) :: (0, 0) :: (0, 0) :: (0, 0) :: (0, 0) :: (0, 0) :: (0, 0) :: (0, 0) :: (0, 0) :: (0, 0) :: (0, 0) :: []) 223 (by kernel_rfl) rfl rfl (by kernel_rfl) ⟨Stab.pure _ _ _, Stab.pure _ _ _, Stab.pure _ _ _, Stab.pure _ _ _, Stab.pure _ _ _, Stab.pure _ _ _, Stab.pure _ _ _, Stab.pure _ _ _, Stab.pure _ _ _, Stab.pure _ _ _, Stab.pure _ _ _, Stab.pure _ _ _, Stab.pure _ _ _, Stab.pure _ _ _, Stab.pure _ _ _, Stab.pure _ _ _, Stab.pure _ _ _, Stab.pure _ _ _, Stab.pure _ _ _, Stab.pure _ _ _, Stab.pure _ _ _, Stab.pure _ _ _, trivial⟩ ⟨?_, ?_, ?_, ?_, ?_, ?_, ?_, ?_, ?_, ?_, ?_, ?_, ?_, ?_, ?_, ?_, ?_, ?_, ?_, ?_, ?_, ?_, trivial⟩ ?_
                    · intro wx hb
                      intro K hK
                      go_simp
                      exact hK _ _ rfl ⟨rfl, Below.refl _ _⟩
                    · intro wx hb
                      rintro _ rfl
                      intro K hK
                      have mm := Box.below (BXq) hb (Box.lt (BXq))
                      have m0 : wx.cell? ⟨D, 0, none⟩ = some (.pointer (some ⟨S, 0, none⟩)) := mm.cell 0
                      have m1 : wx.cell? ⟨D, 1, none⟩ = some (.pointer (some M)) := mm.cell 1
                      clear mm
                      go_simp
                      exact hK _ _ rfl ⟨rfl, Below.refl _ _⟩
                    · intro wx hb
                      intro K hK
                      go_simp
                      exact hK _ _ rfl ⟨rfl, Below.refl _ _⟩
                    · intro wx hb
                      intro K hK
                      go_simp
                      exact hK _ _ rfl ⟨rfl, Below.refl _ _⟩
                    · intro wx hb
                      rintro _ rfl
                      intro K hK
                      go_simp
                      exact hK _ _ rfl ⟨rfl, Below.refl _ _⟩
                    · intro wx hb
                      rintro _ rfl
                      rintro _ rfl
                      intro K hK
                      go_simp
                      exact hK _ _ rfl ⟨rfl, Below.refl _ _⟩
                    · intro wx hb
                      rintro _ rfl
                      intro K hK
                      have cc : wx.cell? (ad1.add u) = some (.string vv) := (hb.cell (by rw [block_add]; exact lq)).trans vq
                      go_simp
                      exact hK _ _ rfl ⟨rfl, Below.refl _ _⟩
                    · intro wx hb
                      rintro _ rfl
                      intro K hK
                      go_simp
                      exact hK _ _ rfl ⟨rfl, Below.refl _ _⟩
                    · intro wx hb
                      intro K hK
                      go_simp
                      exact hK _ _ rfl ⟨rfl, Below.refl _ _⟩
                    · intro wx hb
                      intro K hK
                      go_simp
                      exact hK _ _ rfl ⟨rfl, Below.refl _ _⟩
                    · intro wx hb
                      rintro _ rfl
                      intro K hK
                      go_simp
                      exact hK _ _ rfl ⟨rfl, Below.refl _ _⟩
                    · intro wx hb
                      rintro _ rfl
                      rintro _ rfl
                      intro K hK
                      go_simp
                      exact hK _ _ rfl ⟨rfl, Below.refl _ _⟩
                    · intro wx hb
                      rintro _ rfl
                      intro K hK
                      have cc : wx.cell? (ad2.add u) = some (.slice gA gn gc) := (hb.cell (by rw [block_add]; exact lq2)).trans gq
                      go_simp
                      exact hK _ _ rfl ⟨rfl, Below.refl _ _⟩
                    · intro wx hb
                      intro K hK
                      go_simp
                      exact hK _ _ rfl ⟨rfl, Below.refl _ _⟩
                    · intro wx hb
                      rintro _ rfl
                      rintro _ rfl
                      rintro _ rfl
                      rintro _ rfl
                      intro K hK
                      go_simp
                      (with_reducible refine (HBk2.out _ (HST5.out.below (bkeep BQ.out hb)) (HGA.out.below (bkeep BQ.out hb) (Nat.le_refl _))).mono ?_)
                      rintro e wa ⟨rfl, Ba⟩
                      exact hK _ _ rfl ⟨rfl, Ba⟩
                    · intro wx hb
                      rintro _ rfl
                      intro K hK
                      go_simp
                      exact hK _ _ rfl ⟨rfl, Below.refl _ _⟩
                    · intro wx hb
                      rintro _ rfl
                      intro K hK
                      go_simp
                      exact hK _ _ rfl ⟨rfl, Below.refl _ _⟩
                    · intro wx hb
                      rintro _ rfl
                      intro K hK
                      go_simp
                      exact hK _ _ rfl ⟨rfl, Below.refl _ _⟩
                    · intro wx hb
                      rintro _ rfl
                      intro K hK
                      go_simp
                      exact hK _ _ rfl ⟨rfl, Below.refl _ _⟩
                    · intro wx hb
                      rintro _ rfl
                      intro K hK
                      go_simp
                      exact hK _ _ rfl ⟨rfl, Below.refl _ _⟩
                    · intro wx hb
                      rintro _ rfl
                      intro K hK
                      go_simp
                      exact hK _ _ rfl ⟨rfl, Below.refl _ _⟩
                    · intro wx hb
                      rintro _ rfl
                      intro K hK
                      go_simp
                      exact hK _ _ rfl ⟨rfl, Below.refl _ _⟩
                    intro w7 B7
                    rintro _ rfl
                    rintro _ rfl
                    rintro _ rfl
                    rintro _ rfl
                    rintro _ rfl
                    rintro _ rfl
                    rintro _ rfl
                    rintro _ rfl
                    rintro _ rfl
                    rintro _ rfl
                    rintro _ rfl
                    rintro _ rfl
                    rintro _ rfl
                    rintro _ rfl
                    rintro _ rfl
                    rintro _ rfl
                    rintro _ rfl
                    rintro _ rfl
                    rintro _ rfl
                    rintro _ rfl
                    rintro _ rfl
                    rintro _ rfl
                    rintro -
                    simp only [Act.put, List.setIfInBounds_toArray, List.set_cons_zero, List.set_cons_succ, List.toList_toArray, List.length_cons, List.length_nil, List.drop_succ_cons, List.drop_zero, List.drop_nil, Nat.zero_add, wpList]
                    have BQ7 := Lib.hid (bkeep BQ.out B7)
                    clear BQ B7 BXq vq gq lq lq2 HBk2
                    have rf := HRF.out
                    have tr : (u + 1, (b : Int)) = trc T1 (gs.map Pg.p) i x := te rfl
                    have rv_ := rf.v; have ro_ := rf.o
                    rw [← tr] at rv_ ro_
                    have HAt := Lib.hid (fun w ha => bat_any K k c5 A5 HKN.out (by omega) (x : Int) (by omega) (by omega) kk r rf.hr rf.h1 rf.h2 rf.hb rf.hlo w ha)
                    obtain ⟨q1, q2, q3⟩ := rf.b1
                    have q4 := rf.h1; have q5 := rf.h2
                    obtain ⟨rfr, rn, rv, ro⟩ := r
                    simp only at rv_ ro_ q1 q2 q3 q4 q5
                    have HAt' : Hid (∀ w, RowAt w A5 (rwc K) → Calls Try.prog 10 #[.slice A5 k c5, .int .i64 (x : Int)] w fun e w' => e = .returned (.tuple #[.agg #[.int .i64 rfr, .int .i64 rn, .int .i64 ((u : Int) + 1), .int .i64 ro], .bool true]) ∧ Below w.heap.size w w') := by rw [show (((u : Int) + 1) : Int) = rv by omega]; exact HAt
                    have wb : IntKind.i64.wrap (ro + (x : Int)) = ro + (x : Int) := IntWalk.i64_in _ ⟨by omega, by omega⟩
                    have wc : IntKind.i64.wrap (ro + (x : Int) - rfr) = (b : Int) := by rw [show ro + (x : Int) - rfr = (b : Int) by omega]; exact IntWalk.i64_in _ ⟨by omega, by omega⟩
                    have HRQ := Lib.hid (HR5.out.below BQ7.out (Nat.le_refl _))
                    clear rf tr rv_ ro_ HAt
                    go_wp2_with fail
                    (with_reducible refine (HAt'.out _ HRQ.out).mono ?_)
                    rintro e w8 ⟨rfl, B8⟩
                    have BQ8 := Lib.hid (balloc (bkeep BQ7.out B8) (.cells #[.int .i64 rfr, .int .i64 rn, .int .i64 ((u : Int) + 1), .int .i64 ro] 42))
                    clear B8 HRQ HAt' BQ7
                    go_wp2_with fail
                    go_roundw
                    case rel => exact ⟨x + 1, by go_num, by omega, BQ8⟩
                    case measure => simp [intOf] <;> omega
                  | some b' =>
                    obtain ⟨b0, b1, b2⟩ := bin b' rfl
                    obtain ⟨bn, rfl⟩ : ∃ bn : Nat, b' = (bn : Int) := ⟨b'.toNat, by omega⟩
                    have HT2 : Hid (trc T1 (gs.map Pg.p) u bn = trc T1 (gs.map Pg.p) i x ∧ bn < (vs u).length) := Lib.hid ⟨tb _ rfl, by omega⟩
                    have hbn : bn ≤ 20000 := by have := HVK.out.le (v := u) (by simp; have := HGL.out; omega); omega
                    clear bin tb te b0 b1 b2
                    have HBk2 : Hid (∀ w, St w B S G L1 → RowAt w gA (cgc gp) → Calls Try.prog 9 #[.pointer (some ⟨S, 0, none⟩), .int .i64 (q : Int), .slice gA gn gc, .int .i64 (b : Int)] w fun e w' => e = .returned (.tuple #[.int .i64 (bn : Int), .bool true, .nilIface]) ∧ Below w.heap.size w w') := HBk'
                    clear HBk'
                    go_upto_region 36 with fail
                    refine region_lin (.val (fun v _ => v = .pointer (some ⟨D, 0, none⟩)) :: .val (fun v _ => v = .pointer (some ⟨S, 0, none⟩)) :: .val (fun v _ => v = .slice (some ad1) (i + 1) c1) :: .val (fun v _ => v = .int .i64 ((u : Int) + 1)) :: .val (fun v _ => v = .int .i64 (u : Int)) :: .val (fun v _ => v = .pointer (some (ad1.add u))) :: .val (fun v _ => v = .string vv) :: .val (fun v _ => v = .int .i64 (q : Int)) :: .val (fun v _ => v = .slice (some ad2) i c2) :: .val (fun v _ => v = .int .i64 ((u : Int) + 1)) :: .val (fun v _ => v = .int .i64 (u : Int)) :: .val (fun v _ => v = .pointer (some (ad2.add u))) :: .val (fun v _ => v = .slice gA gn gc) :: .val (fun v _ => v = .int .i64 (b : Int)) :: .val (fun v _ => v = .tuple #[.int .i64 (bn : Int), .bool true, .nilIface]) :: .val (fun v _ => v = .tuple #[.int .i64 (bn : Int), .bool true, .nilIface]) :: .val (fun v _ => v = .int .i64 (bn : Int)) :: .val (fun v _ => v = .bool true) :: .val (fun v _ => v = .nilIface) :: .val (fun v _ => v = .int .i64 (bn : Int)) :: .val (fun v _ => v = .bool true) :: .val (fun v _ => v = .nilIface) :: [])
                      ([] :: [(173, 0)] :: [] :: [] :: [(176, 3)] :: [(175, 2), (177, 4)] :: [(178, 5)] :: [(179, 6)] :: [] :: [] :: [(182, 9)] :: [(181, 8), (183, 10)] :: [(184, 11)] :: [] :: [(174, 1), (180, 7), (185, 12), (186, 13)] :: [(187, 14)] :: [(172, 15)] :: [(172, 15)] :: [(172, 15)] :: [(188, 16)] :: [(189, 17)] :: [(190, 18)] :: []) ((0, 0) :: (0, 0) :: (0, 0) :: (0, 0) :: (0, 0) :: (0, 0) :: (0, 0) :: (0, 0) :: (0, 0) :: (0, 0) :: (0, 0) :: (0, 0) :: (0, 0) :: (0, 0) :: (0, 0) :: (0, 0) :: (0, 0) :: (0, 0) :: (0, 0) :: (0, 0) :: (0, 0) :: (0, 0) :: []) 223 (by kernel_rfl) rfl rfl (by kernel_rfl) ⟨Stab.pure _ _ _, Stab.pure _ _ _, Stab.pure _ _ _, Stab.pure _ _ _, Stab.pure _ _ _, Stab.pure _ _ _, Stab.pure _ _ _, Stab.pure _ _ _, Stab.pure _ _ _, Stab.pure _ _ _, Stab.pure _ _ _, Stab.pure _ _ _, Stab.pure _ _ _, Stab.pure _ _ _, Stab.pure _ _ _, Stab.pure _ _ _, Stab.pure _ _ _, Stab.pure _ _ _, Stab.pure _ _ _, Stab.pure _ _ _, Stab.pure _ _ _, Stab.pure _ _ _, trivial⟩ ⟨?_, ?_, ?_, ?_, ?_, ?_, ?_, ?_, ?_, ?_, ?_, ?_, ?_, ?_, ?_, ?_, ?_, ?_, ?_, ?_, ?_, ?_, trivial⟩ ?_
                    · intro wx hb
                      intro K hK
                      go_simp
                      exact hK _ _ rfl ⟨rfl, Below.refl _ _⟩
                    · intro wx hb
                      rintro _ rfl
                      intro K hK
                      have mm := Box.below (BXq) hb (Box.lt (BXq))
                      have m0 : wx.cell? ⟨D, 0, none⟩ = some (.pointer (some ⟨S, 0, none⟩)) := mm.cell 0
                      have m1 : wx.cell? ⟨D, 1, none⟩ = some (.pointer (some M)) := mm.cell 1
                      clear mm
                      go_simp
                      exact hK _ _ rfl ⟨rfl, Below.refl _ _⟩
                    · intro wx hb
                      intro K hK
                      go_simp
                      exact hK _ _ rfl ⟨rfl, Below.refl _ _⟩
                    · intro wx hb
                      intro K hK
                      go_simp
                      exact hK _ _ rfl ⟨rfl, Below.refl _ _⟩
                    · intro wx hb
                      rintro _ rfl
                      intro K hK
                      go_simp
                      exact hK _ _ rfl ⟨rfl, Below.refl _ _⟩
                    · intro wx hb
                      rintro _ rfl
                      rintro _ rfl
                      intro K hK
                      go_simp
                      exact hK _ _ rfl ⟨rfl, Below.refl _ _⟩
                    · intro wx hb
                      rintro _ rfl
                      intro K hK
                      have cc : wx.cell? (ad1.add u) = some (.string vv) := (hb.cell (by rw [block_add]; exact lq)).trans vq
                      go_simp
                      exact hK _ _ rfl ⟨rfl, Below.refl _ _⟩
                    · intro wx hb
                      rintro _ rfl
                      intro K hK
                      go_simp
                      exact hK _ _ rfl ⟨rfl, Below.refl _ _⟩
                    · intro wx hb
                      intro K hK
                      go_simp
                      exact hK _ _ rfl ⟨rfl, Below.refl _ _⟩
                    · intro wx hb
                      intro K hK
                      go_simp
                      exact hK _ _ rfl ⟨rfl, Below.refl _ _⟩
                    · intro wx hb
                      rintro _ rfl
                      intro K hK
                      go_simp
                      exact hK _ _ rfl ⟨rfl, Below.refl _ _⟩
                    · intro wx hb
                      rintro _ rfl
                      rintro _ rfl
                      intro K hK
                      go_simp
                      exact hK _ _ rfl ⟨rfl, Below.refl _ _⟩
                    · intro wx hb
                      rintro _ rfl
                      intro K hK
                      have cc : wx.cell? (ad2.add u) = some (.slice gA gn gc) := (hb.cell (by rw [block_add]; exact lq2)).trans gq
                      go_simp
                      exact hK _ _ rfl ⟨rfl, Below.refl _ _⟩
                    · intro wx hb
                      intro K hK
                      go_simp
                      exact hK _ _ rfl ⟨rfl, Below.refl _ _⟩
                    · intro wx hb
                      rintro _ rfl
                      rintro _ rfl
                      rintro _ rfl
                      rintro _ rfl
                      intro K hK
                      go_simp
                      (with_reducible refine (HBk2.out _ (HST5.out.below (bkeep BQ.out hb)) (HGA.out.below (bkeep BQ.out hb) (Nat.le_refl _))).mono ?_)
                      rintro e wa ⟨rfl, Ba⟩
                      exact hK _ _ rfl ⟨rfl, Ba⟩
                    · intro wx hb
                      rintro _ rfl
                      intro K hK
                      go_simp
                      exact hK _ _ rfl ⟨rfl, Below.refl _ _⟩
                    · intro wx hb
                      rintro _ rfl
                      intro K hK
                      go_simp
                      exact hK _ _ rfl ⟨rfl, Below.refl _ _⟩
                    · intro wx hb
                      rintro _ rfl
                      intro K hK
                      go_simp
                      exact hK _ _ rfl ⟨rfl, Below.refl _ _⟩
                    · intro wx hb
                      rintro _ rfl
                      intro K hK
                      go_simp
                      exact hK _ _ rfl ⟨rfl, Below.refl _ _⟩
                    · intro wx hb
                      rintro _ rfl
                      intro K hK
                      go_simp
                      exact hK _ _ rfl ⟨rfl, Below.refl _ _⟩
                    · intro wx hb
                      rintro _ rfl
                      intro K hK
                      go_simp
                      exact hK _ _ rfl ⟨rfl, Below.refl _ _⟩
                    · intro wx hb
                      rintro _ rfl
                      intro K hK
                      go_simp
                      exact hK _ _ rfl ⟨rfl, Below.refl _ _⟩
                    intro w7 B7
                    rintro _ rfl
                    rintro _ rfl
                    rintro _ rfl
                    rintro _ rfl
                    rintro _ rfl
                    rintro _ rfl
                    rintro _ rfl
                    rintro _ rfl
                    rintro _ rfl
                    rintro _ rfl
                    rintro _ rfl
                    rintro _ rfl
                    rintro _ rfl
                    rintro _ rfl
                    rintro _ rfl
                    rintro _ rfl
                    rintro _ rfl
                    rintro _ rfl
                    rintro _ rfl
                    rintro _ rfl
                    rintro _ rfl
                    rintro _ rfl
                    rintro -
                    simp only [Act.put, List.setIfInBounds_toArray, List.set_cons_zero, List.set_cons_succ, List.toList_toArray, List.length_cons, List.length_nil, List.drop_succ_cons, List.drop_zero, List.drop_nil, Nat.zero_add, wpList]
                    have BQ7 := Lib.hid (bkeep BQ.out B7)
                    clear BQ B7 BXq vq gq lq lq2 HBk2
                    go_wp2_with fail
                    go_roundw
                    case rel => exact ⟨bn, u, rfl, by go_num, by omega, hbn, HT2, BQ7⟩
                    case measure => simp [intOf] <;> omega
            · obtain rfl : x = N := by omega
              have BR := Lib.hid (bkeep BW5.out BQ.out)
              clear BQ
              go_wp2_with fail
              go_ret
              exact ⟨rfl, BR.out⟩
end Go.Proofs.Ytolhjkpekmmajaa
/- The law on blame, for every text and every list of steps. -/
namespace Go.Proofs.Ytolhjkpekmmajaa
set_option linter.unusedVariables false
set_option linter.unusedSimpArgs false
open Go.RowKit Go.Lib Go.Maps
attribute [local go_sem ↓] Go.wp_at_zero Go.wp_at_succ
set_option maxRecDepth 100000 in
set_option maxHeartbeats 4000000 in
theorem law_blame_long (s : ByteArray) (n c : Nat) (AA : Option Addr) (hn : n ≤ 9223372036854775807) (h : 80 < s.size) (w : World) :
    Calls Try.prog 3 #[.string s, .slice AA n c] w fun e w' => e = .returned (.bool true) ∧ Below w.heap.size w w' := by
  obtain ⟨z, hz⟩ : ∃ z, z = s.size := ⟨_, rfl⟩
  have sz : s.size = z := hz.symm
  have t1 : decide ((80 : Int) < (z : Int)) = true := by simp; omega
  have z80 : (80 : Int) < (z : Int) := by omega
  rw [← hz] at h
  clear hz
  go_enter Try.func3, Try.ntmps3
  go_wp2_with fail
  (with_reducible refine (patches_any _).mono ?_)
  rintro e w0 ⟨rfl, B0⟩
  have HB0 := Lib.hid B0
  clear B0
  go_wp2_with fail
  go_ret
  exact ⟨rfl, HB0.out⟩
set_option maxRecDepth 100000 in
set_option maxHeartbeats 4000000 in
theorem law_blame_many (s : ByteArray) (n c : Nat) (AA : Option Addr) (hn : n ≤ 9223372036854775807) (hs : s.size ≤ 80) (h : 5 < n) (w : World) :
    Calls Try.prog 3 #[.string s, .slice AA n c] w fun e w' => e = .returned (.bool true) ∧ Below w.heap.size w w' := by
  obtain ⟨z, hz⟩ : ∃ z, z = s.size := ⟨_, rfl⟩
  have sz : s.size = z := hz.symm
  have t1 : decide ((80 : Int) < (z : Int)) = false := by simp; omega
  have z80 : ¬ (80 : Int) < (z : Int) := by omega
  have t2 : decide ((5 : Int) < (n : Int)) = true := by simp; omega
  have n5 : (5 : Int) < (n : Int) := by omega
  rw [← hz] at hs
  clear hz
  go_enter Try.func3, Try.ntmps3
  go_wp2_with fail
  (with_reducible refine (patches_any _).mono ?_)
  rintro e w0 ⟨rfl, B0⟩
  have HB0 := Lib.hid B0
  clear B0
  go_wp2_with fail
  go_ret
  exact ⟨rfl, HB0.out⟩
theorem law_blame_any (s : ByteArray) (ss : List Sg) (n c : Nat) (AA : Option Addr) (hl : ss.length = n) (hn : n ≤ 9223372036854775807) (w : World) (ha : SsAt w AA ss) :
    Calls Try.prog 3 #[.string s, .slice AA n c] w fun e w' => e = .returned (.bool true) ∧ Below w.heap.size w w' := by
  by_cases h1 : 80 < s.size
  · exact law_blame_long s n c AA hn h1 w
  · by_cases h2 : 5 < n
    · exact law_blame_many s n c AA hn (by omega) h2 w
    · exact law_blame s ss n c AA hl w ha (by omega) (by omega)
end Go.Proofs.Ytolhjkpekmmajaa
