import Derived.Test.YtolhjkpekmmajaaTbA
import Derived.Deep.LoopGhost
import Derived.Test.YtolhjkpekmmajaaRegLin
import Derived.Lib.ConvBytes
import Derived.Laws.BytesArg
import Derived.Deep.RegionWith
import Derived.Laws.Concat
/- The walk of access.spell in a store of letters and pairs. -/
namespace Go.Proofs.Ytolhjkpekmmajaa
set_option linter.unusedVariables false
set_option linter.unusedSimpArgs false
open Go.RowKit Go.Lib Go.Maps Go.Deep
attribute [local go_sem ↓] Go.wp_at_zero Go.wp_at_succ
theorem info_copies : (Try.prog.info? 174).map (fun i => (i.zero, i.size, i.bytes)) = some (some (.agg #[.int .i64 0, .int .i64 0]), 2, 16) := by kernel_rfl
/-- the stack's cells -/
def stk (ks : List Int) : List Value := ks.flatMap fun k => [.int .i64 k, .int .i64 1]
theorem stk_app (a b : List Int) : stk (a ++ b) = stk a ++ stk b := by simp [stk]
theorem stk_len (ks : List Int) : (stk ks).length = ks.length * 2 := by
  induction ks with
  | nil => rfl
  | cons k ks ih => simp [stk] at ih ⊢; omega
theorem stk_one (ks : List Int) : ∀ u ∈ stk ks, u.oneCell' = true := by
  intro u hu
  simp only [stk, List.mem_flatMap] at hu
  obtain ⟨k, _, hu⟩ := hu
  simp at hu
  rcases hu with rfl | rfl <;> rfl
/-- what the stack still spells -/
def spl (T : List (List Int)) (ks : List Int) : List Int := (ks.reverse.map (tx T)).flatten
def spm (T : List (List Int)) : List Int → Nat
  | [] => 0
  | k :: ks => 2 * (tx T k).length - 1 + spm T ks
theorem spm_app (T : List (List Int)) (a b : List Int) : spm T (a ++ b) = spm T a + spm T b := by
  induction a with
  | nil => simp [spm]
  | cons x a ih => simp only [List.cons_append, spm, ih]; omega
theorem spl_snoc (T : List (List Int)) (a : List Int) (x : Int) : spl T (a ++ [x]) = tx T x ++ spl T a := by simp [spl]
def SpellOut (B S G base R : Nat) (L : List En) (t : List Int) (w : World) (e : Ending) (w' : World) : Prop :=
  ∃ A c, e = .returned .nilIface ∧ Box w' R 100 #[.slice A t.length c] ∧ w'.ownsRow base 5 1 (.slice A t.length c) t.length (vb t) ∧ Below base w w' ∧ St w' B S G L
theorem spl_len {L : List En} {T : List (List Int)} (hg : Good L T) {ks : List Int} (h : ∀ k ∈ ks, 1 ≤ k ∧ k ≤ L.length) : ks.length ≤ (spl T ks).length := by
  unfold spl
  rw [List.length_flatten, List.map_map]
  have : ∀ l : List Int, (∀ k ∈ l, 1 ≤ k ∧ k ≤ L.length) → l.length ≤ (l.map (List.length ∘ tx T)).sum := by
    intro l hl
    induction l with
    | nil => simp
    | cons x l ih =>
      have h1 := (hg.one (hl x (by simp)).1 (hl x (by simp)).2).1
      have h2 := ih fun k hk => hl k (by simp [hk])
      simp only [List.length_cons, List.map_cons, List.sum_cons, Function.comp_def] at h2 ⊢
      omega
  have h2 := this ks.reverse fun k hk => h k (by simpa using hk)
  simpa using h2
theorem bsize_ {B : Nat} {a w : World} (h : Below B a w) (hb : B ≤ a.heap.size) : B ≤ w.heap.size := Nat.le_trans hb h.size
theorem cut_hi' (A : Option Addr) (n c k : Nat) (x : Int) (hx : x = (k : Int)) (hk : k ≤ c) (w : World) :
    (Instr.slice 175 (.slice A n c) none (some (.int .i64 x)) none).run Try.prog w = .ok (.slice A k c) w := by
  subst hx
  have h2 : ¬ (c < k) := by omega
  simp [Instr.slice, sliced, h2, go_sem]
set_option maxRecDepth 100000 in
set_option maxHeartbeats 16000000 in
theorem spell_any (L : List En) (T : List (List Int)) (hg : Good L T) (x : Int) (x0 : 1 ≤ x) (x1 : x ≤ L.length) (acc : List Int) (n c : Nat) (A : Option Addr) (hl : acc.length = n) (B S G base R : Nat) (hB : B ≤ base) (hR : base ≤ R) (t : List Int) (ht : acc ++ tx T x = t) (hn : t.length ≤ 65536)
    (w : World) (hb : base ≤ w.heap.size) (st : St w B S G L) (bx : Box w R 100 #[.slice A n c]) (ow : w.ownsRow base 5 1 (.slice A n c) n (vb acc)) :
    Calls Try.prog 58 #[.pointer (some ⟨S, 0, none⟩), .int .i64 x, .pointer (some ⟨R, 0, none⟩)] w (SpellOut B S G base R L t w) := by
  obtain ⟨i0_, hi0, hz0, hz1, hz2⟩ := info_parts5 info_copies
  have HI := Lib.hid hi0; have HZ := Lib.hid hz0; have HZ1 := Lib.hid hz1; have HZ2 := Lib.hid hz2
  obtain ⟨i1_, ki0, kz0, kz1, kz2⟩ := info_parts5 info_u8
  have KI := Lib.hid ki0; have KZ := Lib.hid kz0; have KZ1 := Lib.hid kz1; have KZ2 := Lib.hid kz2
  have HG := Lib.hid hg; have HB := Lib.hid hB; have HRb := Lib.hid hR; have HN := Lib.hid hn
  have h0 := Lib.hid (show [x].length = 1 ∧ (2 * (tx T x).length - 1 = spm T [x]) ∧ (∀ k ∈ [x], 1 ≤ k ∧ k ≤ L.length) ∧ acc ++ spl T [x] = t ∧ acc.length = n from ⟨rfl, by simp [spm], fun k hk => by simp at hk; subst hk; exact ⟨x0, x1⟩, by simpa [spl] using ht, hl⟩)
  have hst0 := Lib.hid (st.below (balloc (Below.refl _ _) (.cells (stk [x]).toArray 174)))
  have hbx0 := Lib.hid (bx.alloc (.cells (stk [x]).toArray 174))
  have how0 := Lib.hid (own_alloc ow (.cells (stk [x]).toArray 174))
  have hbw0 := Lib.hid ((Below.refl base w).alloc hb (.cells (stk [x]).toArray 174))
  have hto0 : Hid ((w.alloc (.cells (stk [x]).toArray 174)).ownsRow w.heap.size 174 2 (.slice (some ⟨w.heap.size, 0, none⟩) 1 1) 1 (stk [x])) := Lib.hid ⟨rfl, .inr ⟨w.heap.size, 1, (stk [x]).toArray, rfl, Nat.le_refl _, heap_alloc_new w _, Nat.le_refl _, by simp only [maxLen]; omega, rfl, rfl⟩⟩
  have HBW := Lib.hid hb
  obtain ⟨w0, hw0⟩ : ∃ w0, w0 = w.alloc (.cells (stk [x]).toArray 174) := ⟨_, rfl⟩
  rw [← hw0] at hst0 hbx0 how0 hbw0 hto0
  have HW0 := Lib.hid (show w.alloc (.cells #[.int .i64 x, .int .i64 1] 174) = w0 from hw0.symm)
  clear hi0 hz0 hz1 hz2 ki0 kz0 kz1 kz2 hg hB hR hn x0 x1 hl ht st bx ow hb hw0
  go_enter Try.func58, Try.ntmps58
  go_wp2_with fail
  rw [HW0.out]
  go_loopg [7, 8, 9, 10, 11] (2 * (tx T x).length - 1) (fun gk s7 _ _ _ _ wr => ∃ (ks : List Int) (m c2 n c1 : Nat) (A2 A1 : Option Addr) (acc2 : List Int), s7 = .slice A2 m c2 ∧ Hid (ks.length = m ∧ gk = spm T ks ∧ (∀ k ∈ ks, 1 ≤ k ∧ k ≤ L.length) ∧ acc2 ++ spl T ks = t ∧ acc2.length = n) ∧ Hid (wr.ownsRow w.heap.size 174 2 (.slice A2 m c2) m (stk ks)) ∧ Hid (Box wr R 100 #[.slice A1 n c1]) ∧ Hid (wr.ownsRow base 5 1 (.slice A1 n c1) n (vb acc2)) ∧ Hid (Below base w wr) ∧ Hid (St wr B S G L))
  case atStart => exact ⟨[x], 1, 1, n, c, _, A, acc, rfl, h0, hto0, hbx0, how0, hbw0, hst0⟩
  case round =>
    clear h0 hto0 hbx0 how0 hbw0 hst0
    obtain ⟨ks, m, c2, n, c1, A2, A1, acc2, rfl, HK, OT, BX, OW, BW, HS⟩ := hrel
    by_cases hm : m = 0
    · subst hm
      have e : ks = [] := List.eq_nil_of_length_eq_zero HK.out.1
      have e2 : acc2 = t := by
        have h := HK.out.2.2.2.1
        rw [e] at h
        simpa [spl] using h
      have e3 : n = t.length := by rw [← e2]; exact HK.out.2.2.2.2.symm
      have HR2 := Lib.hid (show SpellOut B S G base R L t w (.returned .nilIface) wr from ⟨A1, c1, rfl, by rw [← e3]; exact BX.out, by have := OW.out; rw [e2] at this; rw [← e3]; exact this, BW.out, HS.out⟩)
      clear e e2 e3
      go_wp2_with fail
      go_ret
      exact HR2.out
    · obtain ⟨g2, rfl, mc, gl, gb⟩ := own_addr OT.out hm
      obtain ⟨m', rfl⟩ : ∃ m', m = m' + 1 := ⟨m - 1, by omega⟩
      obtain ⟨ks', y, rfl⟩ : ∃ ks' y, ks = ks' ++ [y] := by
        have := HK.out.1
        rcases List.eq_nil_or_concat ks with rfl | ⟨l, b, e⟩
        · simp at this
        · exact ⟨l, b, by simpa using e⟩
      have kl : ks'.length = m' := by have := HK.out.1; simp at this; exact this
      have d0 := own_cellN OT.out (k := m' * 2) (u := .int .i64 y) (by rw [stk_app, List.getElem?_append_right (by rw [stk_len, kl]; omega), stk_len, kl, Nat.sub_self]; rfl)
      have d1 := own_cellN OT.out (k := m' * 2 + 1) (u := .int .i64 1) (by rw [stk_app, List.getElem?_append_right (by rw [stk_len, kl]; omega), stk_len, kl, show m' * 2 + 1 - m' * 2 = 1 by omega]; rfl)
      have fz := own_frozen OT.out (m' * 2 + 1)
      have mb : m' + 1 ≤ 65536 := by
        have h1 := spl_len HG.out HK.out.2.2.1
        have h2 := congrArg List.length HK.out.2.2.2.1
        have h3 := HN.out
        rw [List.length_append] at h2
        simp at h1; omega
      have wm := IntWalk.wrap64_in (m' : Int) (by omega)
      have cut := fun w => cut_hi' (some ⟨g2, 0, none⟩) (m' + 1) c2 m' (m' : Int) rfl (by omega) w
      have y01 := HK.out.2.2.1 y (by simp)
      have HM := Lib.hid hm
      clear hm
      go_upto_region 8 with fail
      refine wp_nm (fun w1 => Hid (w1.ownsRow w.heap.size 174 2 (.slice (some ⟨g2, 0, none⟩) m' c2) m' (stk ks')) ∧ Hid (Box w1 R 100 #[.slice A1 n c1]) ∧ Hid (w1.ownsRow base 5 1 (.slice A1 n c1) n (vb acc2)) ∧ Hid (Below base w w1) ∧ Hid (St w1 B S G L)) ⟨Lib.hid ?own, Lib.hid (box_setOwn BX.out OT.out (by decide) _ _), Lib.hid (own_setOwn OW.out OT.out (by decide) _ _), Lib.hid (BW.out.setCell (by have := HBW.out; simp; omega) _), Lib.hid (HS.out.setOwn OT.out (by have := HB.out; have := HBW.out; omega) (by decide) _ _)⟩ ?_
      case own =>
        have h1 := own_set OT.out (m' * 2 + 1) (.int .i64 0)
        rw [show (stk (ks' ++ [y])).set (m' * 2 + 1) (.int .i64 0) = stk ks' ++ [.int .i64 y, .int .i64 0] by rw [stk_app, List.set_append_right _ _ (by rw [stk_len, kl]; omega), stk_len, kl, show m' * 2 + 1 - m' * 2 = 1 by omega]; rfl] at h1
        exact ownsRow_pop (by rw [stk_len, kl]) h1
      clear OT BX OW BW HS d0 d1 fz
      rintro w1 ⟨OT, BX, OW, BW, HS⟩
      clear cut wm
      have HRu := Lib.hid (fun w st => rule_any L y y01.1 y01.2 HG.out.cap B S G w st)
      have ek := (HG.out.ok y y01.1 y01.2).r
      obtain ⟨r, hr⟩ : ∃ r, r = (ent L y).r := ⟨_, rfl⟩
      rw [← hr] at HRu ek
      obtain ⟨kd, lt_, lf, rg, tm⟩ := r
      simp only at ek
      have HRu' : Hid (∀ w, St w B S G L → Calls Try.prog 65 #[.pointer (some ⟨S, 0, none⟩), .int .i64 y] w fun r w' => r = .returned (.tuple #[.agg #[.int .i64 kd, .int .u8 lt_, .int .i64 lf, .int .i64 rg, .int .i64 tm], .nilIface]) ∧ Below w.heap.size w w') := HRu
      clear HRu hr
      rcases ek with ⟨rfl, rfl, rfl, rfl, l0, l1, ty, _⟩ | ⟨rfl, rfl, rfl, p0, p1, q0, q1, ty, _⟩
      · clear y01
        have TY := Lib.hid ty
        clear ty
        go_wp2_with fail
        (with_reducible refine (HRu'.out _ HS.out).mono ?_)
        rintro e w2 ⟨rfl, B2⟩
        go_upto_region 14 with fail
        have wb1 : base ≤ w1.heap.size := bsize_ BW.out HBW.out
        refine wp_nm (fun w3 => Hid (w3.ownsRow w.heap.size 174 2 (.slice (some ⟨g2, 0, none⟩) m' c2) m' (stk ks')) ∧ Hid (Box w3 R 100 #[.slice A1 n c1]) ∧ Hid (w3.ownsRow base 5 1 (.slice A1 n c1) n (vb acc2)) ∧ Hid (Below base w w3) ∧ Hid (St w3 B S G L) ∧ Hid (Box w3 w2.heap.size 147 #[.int .i64 1, .int .u8 lt_, .int .i64 0, .int .i64 0, .int .i64 0])) ⟨Lib.hid (own_alloc (own_below OT.out B2) _), Lib.hid ((BX.out.below B2 BX.out.lt).alloc _), Lib.hid (own_alloc (own_below OW.out B2) _), Lib.hid ((BW.out.trans (B2.mono wb1)).alloc (Nat.le_trans wb1 B2.size) _), Lib.hid ((HS.out.below B2).below (balloc (Below.refl _ _) _)), Lib.hid (Box.new w2 _ _)⟩ ?_
        clear OT BX OW BW HS B2 wb1
        obtain ⟨gr_, hgr⟩ : ∃ g, g = w2.heap.size := ⟨_, rfl⟩
        rw [← hgr]
        clear hgr
        rintro w3 ⟨OT, BX, OW, BW, HS, XR⟩
        have r1 := XR.out.cell 1
        simp only [List.getElem?_toArray, List.getElem?_cons_zero, List.getElem?_cons_succ] at r1
        have cR := BX.out.cell 0
        simp only [List.getElem?_toArray, List.getElem?_cons_zero] at cR
        have cRd : (w3.alloc (.cells #[.int .u8 lt_] 5)).cell? ⟨R, 0, none⟩ = some (.slice A1 n c1) := (BX.out.alloc _).cell 0
        have OW6 := Lib.hid (own_alloc (show w3.drew.ownsRow base 5 1 (.slice A1 n c1) n (vb acc2) from OW.out) (.cells #[.int .u8 lt_] 5))
        have BX6 := Lib.hid ((BX.out.drew).alloc (.cells #[.int .u8 lt_] 5))
        have X6 := Lib.hid (RowAt.of_block (Box.new w3.drew 5 #[.int .u8 lt_]))
        have wb3 : base ≤ w3.heap.size := bsize_ BW.out HBW.out
        have nb : n ≤ 65536 := by
          have h2 := congrArg List.length HK.out.2.2.2.1
          have h3 := HN.out; have h4 := HK.out.2.2.2.2
          rw [List.length_append] at h2
          omega
        go_region_law (refine step_app rfl (.tmp 68) (.tmp 71) _ rfl base 5 i1_ _ 1 1 Try.underlying100 KI.out KZ.out KZ1.out KZ2.out rfl (by omega) (.slice A1 n c1) n (vb acc2) rfl OW6.out (some ⟨w3.heap.size, 0, none⟩) 1 1 (vb [lt_]) rfl rfl X6.out (vb_one _) (by simp only [maxLen]; omega) (by omega) (by simp; omega) ?_; intro A7 d7 w7 own7 gr7 at7; have HB7 := box_grown3 BX6.out OW6.out (by decide) gr7; have c7 := HB7.cell 0; have f7 := HB7.free 0; simp only [List.getElem?_toArray, List.getElem?_cons_zero] at c7)
        all_goals
          have OT8 := Lib.hid (own_setBox (own_grown3 (own_alloc (show w3.drew.ownsRow w.heap.size 174 2 (.slice (some ⟨g2, 0, none⟩) m' c2) m' (stk ks') from OT.out) (.cells #[.int .u8 lt_] 5)) OW6.out (by decide) gr7) HB7 (by decide) 0 (.slice A7 (n + 1) d7))
          have BX8 := Lib.hid (HB7.set_ 0 (.slice A7 (n + 1) d7))
          rw [← vb_app] at own7
          have OW8 := Lib.hid (own_setBox own7 HB7 (by decide) 0 (.slice A7 (n + 1) d7))
          have BW8 := Lib.hid ((below_grown ((below_drewN BW.out 1).alloc wb3 (.cells #[.int .u8 lt_] 5)) OW6.out (Nat.le_refl _) (by simp; omega) gr7).setCell (p := ⟨R, 0, none⟩) HRb.out (.slice A7 (n + 1) d7))
          have HS8 := Lib.hid ((((HS.out.below (w' := w3.drew) ⟨rfl, rfl, rfl, Nat.le_refl _, fun _ _ => rfl⟩).below (balloc (Below.refl _ _) (.cells #[.int .u8 lt_] 5))).grown OW6.out HB.out (by decide) gr7).set HB7 (by have := HB.out; have := HRb.out; omega) (by decide) 0 (.slice A7 (n + 1) d7))
          clear OT BX OW BW HS own7 gr7 at7 HB7 c7 f7 OW6 BX6 X6
          go_wp2_with fail
          go_roundg (spm T ks')
          case measure =>
            have h := HK.out.2.1
            rw [spm_app] at h
            simp only [spm, TY.out] at h
            simp at h; omega
          case rel =>
            have h := HK.out
            exact ⟨ks', m', c2, n + 1, d7, _, A7, acc2 ++ [lt_], rfl, Lib.hid ⟨kl, rfl, fun k hk => h.2.2.1 k (by simp [hk]), by rw [← h.2.2.2.1, spl_snoc, TY.out, List.append_assoc], by simp [h.2.2.2.2]⟩, OT8, BX8, OW8, BW8, HS8⟩
      · have TY := Lib.hid ty
        have PQ := Lib.hid (show 1 ≤ lf ∧ lf ≤ L.length ∧ 1 ≤ rg ∧ rg ≤ L.length from ⟨p0, by omega, q0, by omega⟩)
        clear ty p0 p1 q0 q1 y01
        go_wp2_with fail
        (with_reducible refine (HRu'.out _ HS.out).mono ?_)
        rintro e w2 ⟨rfl, B2⟩
        go_upto_region 16 with fail
        have wb1 : base ≤ w1.heap.size := bsize_ BW.out HBW.out
        refine wp_nm (fun w3 => Hid (w3.ownsRow w.heap.size 174 2 (.slice (some ⟨g2, 0, none⟩) m' c2) m' (stk ks')) ∧ Hid (Box w3 R 100 #[.slice A1 n c1]) ∧ Hid (w3.ownsRow base 5 1 (.slice A1 n c1) n (vb acc2)) ∧ Hid (Below base w w3) ∧ Hid (St w3 B S G L) ∧ Hid (Box w3 w2.heap.size 147 #[.int .i64 2, .int .u8 0, .int .i64 lf, .int .i64 rg, .int .i64 0])) ⟨Lib.hid (own_alloc (own_below OT.out B2) _), Lib.hid ((BX.out.below B2 BX.out.lt).alloc _), Lib.hid (own_alloc (own_below OW.out B2) _), Lib.hid ((BW.out.trans (B2.mono wb1)).alloc (Nat.le_trans wb1 B2.size) _), Lib.hid ((HS.out.below B2).below (balloc (Below.refl _ _) _)), Lib.hid (Box.new w2 _ _)⟩ ?_
        clear OT BX OW BW HS B2 wb1
        obtain ⟨gr_, hgr⟩ : ∃ g, g = w2.heap.size := ⟨_, rfl⟩
        rw [← hgr]
        clear hgr
        rintro w3 ⟨OT, BX, OW, BW, HS, XR⟩
        have r0 := XR.out.cell 0; have r1 := XR.out.cell 1; have r2 := XR.out.cell 2; have r3 := XR.out.cell 3; have r4 := XR.out.cell 4
        simp only [List.getElem?_toArray, List.getElem?_cons_zero, List.getElem?_cons_succ] at r0 r1 r2 r3 r4
        have OT6 := Lib.hid (own_alloc OT.out (.cells (stk [rg, lf]).toArray 174))
        have OW6 := Lib.hid (own_alloc OW.out (.cells (stk [rg, lf]).toArray 174))
        have BX6 := Lib.hid (BX.out.alloc (.cells (stk [rg, lf]).toArray 174))
        have HS6 := Lib.hid (HS.out.below (balloc (Below.refl _ _) (.cells (stk [rg, lf]).toArray 174)))
        have wb3 : base ≤ w3.heap.size := bsize_ BW.out HBW.out
        have wb4 : w.heap.size ≤ w3.heap.size := BW.out.size
        have BW6 := Lib.hid (BW.out.alloc wb3 (.cells (stk [rg, lf]).toArray 174))
        have X6 := Lib.hid (RowAt.of_block (Box.new w3 174 (stk [rg, lf]).toArray))
        go_wp2_with (refine wpList_app _ (by rfl) (.tmp 76) (.tmp 83) _ rfl w.heap.size 174 i0_ _ 2 16 Try.underlying175 HI.out HZ.out HZ1.out HZ2.out rfl (by omega) (.slice (some ⟨g2, 0, none⟩) m' c2) m' (stk ks') rfl OT6.out (some ⟨w3.heap.size, 0, none⟩) 2 2 (stk [rg, lf]) rfl rfl X6.out (stk_one _) (by simp only [maxLen]; omega) (by omega) ?size ?_)
        case size => (first | omega | (simp; omega))
        intro A7 d7 w7 own7 gr7 at7
        rw [← stk_app] at own7
        have OT7 := Lib.hid own7
        have OW7 := Lib.hid (own_grown3 OW6.out OT6.out (by decide) gr7)
        have BX7 := Lib.hid (box_grown3 BX6.out OT6.out (by decide) gr7)
        have HS7 := Lib.hid (HS6.out.grown OT6.out (by have := HB.out; have := HBW.out; omega) (by decide) gr7)
        have BW7 := Lib.hid (below_grown BW6.out OT6.out HBW.out (by simp; omega) gr7)
        clear own7 gr7 at7 OT6 OW6 BX6 HS6 BW6 X6 OT BX OW BW HS r0 r1 r2 r3 r4 XR
        go_wp2_with fail
        go_roundg (spm T (ks' ++ [rg, lf]))
        case measure =>
          have h := HK.out.2.1
          have e := congrArg List.length TY.out
          rw [List.length_append] at e
          have p := PQ.out
          have h1 := (HG.out.one p.1 p.2.1).1
          have h2 := (HG.out.one p.2.2.1 p.2.2.2).1
          rw [spm_app] at h ⊢
          simp only [spm] at h ⊢
          omega
        case rel =>
          have h := HK.out
          have p := PQ.out
          refine ⟨ks' ++ [rg, lf], m' + 2, d7, n, c1, A7, A1, acc2, rfl, Lib.hid ⟨by simp [kl], rfl, fun k hk => ?_, ?_, h.2.2.2.2⟩, OT7, BX7, OW7, BW7, HS7⟩
          · rcases List.mem_append.1 hk with hk | hk
            · exact h.2.2.1 k (by simp [hk])
            · simp at hk
              rcases hk with rfl | rfl
              · exact ⟨p.2.2.1, p.2.2.2⟩
              · exact ⟨p.1, p.2.1⟩
          · rw [← h.2.2.2.1, spl_snoc, TY.out, show ks' ++ [rg, lf] = (ks' ++ [rg]) ++ [lf] by simp, spl_snoc, spl_snoc, List.append_assoc]
end Go.Proofs.Ytolhjkpekmmajaa
/- The walks of access.Extract's closure, of parts and of Extract, at a whole text. -/
namespace Go.Proofs.Ytolhjkpekmmajaa
set_option linter.unusedVariables false
set_option linter.unusedSimpArgs false
open Go.RowKit Go.Lib Go.Maps Go.Deep
attribute [local go_sem ↓] Go.wp_at_zero Go.wp_at_succ
theorem mk_bytes0 (h : Nat) (hn : h ≤ 1000000) (w : World) : (Instr.makeSlice 100 (.int .i64 0) (.int .i64 (h : Int))).run Try.prog w = .ok (.slice (some ⟨w.heap.size, 0, none⟩) 0 h) (w.alloc (.cells (vb (List.replicate h 0)).toArray 5)) := by
  obtain ⟨i0_, hi, hz0, hz1, hz2⟩ := info_parts5 info_u8
  have h' := run_makeSlice (P := Try.prog) w 100 5 i0_ _ Try.underlying100 hi hz0 .i64 .i64 0 h (by omega) (by omega) (by rw [hz1]; omega) (by rw [hz2]; omega) (by omega)
  rw [h', hz1]
  have e := made_one (.int .u8 0) rfl h
  simp only [Int.toNat_natCast]
  rw [e]
  simp [vb]
theorem own_zb (w : World) (h : Nat) (hn : h ≤ 1000000) : (w.alloc (.cells (vb (List.replicate h 0)).toArray 5)).ownsRow w.heap.size 5 1 (.slice (some ⟨w.heap.size, 0, none⟩) 0 h) 0 (vb []) :=
  ⟨by simp [vb], .inr ⟨w.heap.size, h, _, rfl, Nat.le_refl _, heap_alloc_new w _, Nat.zero_le _, by simp only [maxLen]; omega, by simp [vb], by simp [vb]⟩⟩
set_option maxRecDepth 100000 in
set_option maxHeartbeats 4000000 in
theorem visit_any (L : List En) (T : List (List Int)) (hg : Good L T) (x : Int) (x0 : 1 ≤ x) (x1 : x ≤ L.length) (c : Nat) (A : Option Addr) (B S G base R Q : Nat) (hB : B ≤ base) (hR : base ≤ R) (t : List Int) (ht : tx T x = t) (hn : t.length ≤ 65536)
    (w : World) (hb : base ≤ w.heap.size) (st : St w B S G L) (bx : Box w R 100 #[.slice A 0 c]) (ow : w.ownsRow base 5 1 (.slice A 0 c) 0 (vb [])) (hq : Q < base) (bq : Box w Q 24 #[.pointer (some ⟨S, 0, none⟩)]) :
    Calls Try.prog 57 #[.int .i64 x, .int .i64 1, .pointer (some ⟨R, 0, none⟩), .pointer (some ⟨Q, 0, none⟩)] w (SpellOut B S G base R L t w) := by
  have HSp := Lib.hid (spell_any L T hg x x0 x1 [] 0 c A rfl B S G base R hB hR t (by simpa using ht) hn w hb st bx ow)
  have cR := bx.cell 0
  have cQ := bq.cell 0
  simp only [List.getElem?_toArray, List.getElem?_cons_zero] at cR cQ
  have HN := Lib.hid hn
  clear hg x0 x1 hB hR ht hn hb st bx ow hq bq
  go_enter Try.func57, Try.ntmps57
  go_wp2_with fail
  (with_reducible refine HSp.out.mono ?_)
  rintro e w1 ⟨A1, c1, rfl, BX, OW, BW, HS⟩
  obtain ⟨m, hm⟩ : ∃ m, m = t.length := ⟨_, rfl⟩
  rw [← hm] at BX OW
  have hmc : m ≤ c1 := by
    rcases OW.2 with ⟨hv, h0⟩ | ⟨g2, cap2, cur, hv, hg, hc, hn2, _⟩
    · omega
    · injection hv with _ _ hcap; omega
  obtain ⟨A2, k2, r2, a2⟩ := cut_k (vb t) A1 m c1 0 0 rfl (by omega) hmc (by rw [vb_len]; exact hm.symm)
  have cR1 := BX.cell 0
  simp only [List.getElem?_toArray, List.getElem?_cons_zero] at cR1
  have HOut := Lib.hid (show SpellOut B S G base R L t w (.returned .nilIface) w1 from ⟨A1, c1, rfl, by rw [← hm]; exact BX, by rw [← hm]; exact OW, BW, HS⟩)
  clear hm OW BX BW HS r2 a2 hmc
  go_wp2_with fail
  clear k2
  go_loop [23] (fun si => si = .int .i64 0) (fun _ => 0)
  case atStart => rfl
  case round =>
    subst hrel
    go_wp2_with fail
    go_ret
    exact HOut.out
set_option maxRecDepth 100000 in
set_option maxHeartbeats 8000000 in
theorem xparts_any (L : List En) (T : List (List Int)) (hg : Good L T) (x : Int) (x0 : 1 ≤ x) (x1 : x ≤ L.length) (c : Nat) (A : Option Addr) (B S G base R Q : Nat) (hB : B ≤ base) (hR : base ≤ R) (t : List Int) (ht : tx T x = t) (hn : t.length ≤ 65536)
    (w : World) (hb : base ≤ w.heap.size) (st : St w B S G L) (bx : Box w R 100 #[.slice A 0 c]) (ow : w.ownsRow base 5 1 (.slice A 0 c) 0 (vb [])) (hq : Q < base) (bq : Box w Q 24 #[.pointer (some ⟨S, 0, none⟩)]) :
    Calls Try.prog 56 #[.pointer (some ⟨S, 0, none⟩), .int .i64 x, .int .i64 0, .int .i64 t.length, .func (.func 57) #[] #[.pointer (some ⟨R, 0, none⟩), .pointer (some ⟨Q, 0, none⟩)]] w (SpellOut B S G base R L t w) := by
  have HG := Lib.hid hg
  have tl := (hg.one x0 x1).1
  have HW := Lib.hid (fun w st => weight_any L x (by omega) x1 hg.cap B S G w st)
  have en : (ent L x).w.n = (tx T x).length := by rw [(hg.any (by omega) x1).w]; rfl
  rw [ht] at en tl
  obtain ⟨u, hu⟩ : ∃ u, u = (ent L x).w := ⟨_, rfl⟩
  rw [← hu] at HW en
  obtain ⟨m, hm⟩ : ∃ m, m = t.length := ⟨_, rfl⟩
  rw [← hm] at en tl ⊢
  obtain ⟨u0, u1, u2, u3, u4, u5⟩ := u
  simp only at en
  subst en
  have HW' : Hid (∀ w, St w B S G L → Calls Try.prog 34 #[.pointer (some ⟨S, 0, none⟩), .int .i64 x] w fun r w' => r = .returned (.tuple #[.agg #[.int .i64 (m : Int), .int .i64 u1, .int .i64 u2, .int .i64 u3, .int .u64 u4, .int .u64 u5], .nilIface]) ∧ Below w.heap.size w w') := HW
  have HV : Hid (∀ w1, base ≤ w1.heap.size → Below w.heap.size w w1 → Calls Try.prog 57 #[.int .i64 x, .int .i64 1, .pointer (some ⟨R, 0, none⟩), .pointer (some ⟨Q, 0, none⟩)] w1 (SpellOut B S G base R L t w)) := Lib.hid fun w1 h1 hbw => by
    refine (visit_any L T HG.out x x0 x1 c A B S G base R Q hB hR t ht hn w1 h1 (st.below hbw) (bx.below hbw bx.lt) (own_below ow hbw) hq (bq.below hbw bq.lt)).mono ?_
    rintro e w2 ⟨A2, c2, rfl, BX, OW, BW, HS⟩
    exact ⟨A2, c2, rfl, BX, OW, (hbw.mono hb).trans BW, HS⟩
  have HB := Lib.hid hb; have HST := Lib.hid st
  have m1 : ((m : Int) == 0) = false := by rw [beq_eq_false_iff_ne]; omega
  have m2 : (m == 0) = false := by rw [beq_eq_false_iff_ne]; omega
  have bw0 := Lib.hid (balloc (Below.refl w.heap.size w) (.cells #[.int .i64 x, .int .i64 0, .int .i64 (m : Int), .int .i64 1] 170))
  have bx0 := Lib.hid (Box.new w 170 #[.int .i64 x, .int .i64 0, .int .i64 (m : Int), .int .i64 1])
  obtain ⟨w0, hw0⟩ : ∃ w0, w0 = w.alloc (.cells #[.int .i64 x, .int .i64 0, .int .i64 (m : Int), .int .i64 1] 170) := ⟨_, rfl⟩
  rw [← hw0] at bw0 bx0
  have HW0 := Lib.hid hw0
  obtain ⟨g0, hg0⟩ : ∃ g0, g0 = w.heap.size := ⟨_, rfl⟩
  rw [← hg0] at bx0
  have HG0 := Lib.hid hg0
  clear HW hu hm hg hb x0 x1 hB hR ht hn st bx ow hq bq hw0 hg0 tl
  go_enter Try.func56, Try.ntmps56
  go_wp2_with fail
  rw [← HW0.out, ← HG0.out]
  go_loopg [11, 12, 13, 14, 15] 1 (fun gk s11 _ _ _ _ wr => (gk = 1 ∧ s11 = .slice (some ⟨g0, 0, none⟩) 1 1 ∧ Hid (wr = w0)) ∨ (gk = 0 ∧ (∃ A c, s11 = .slice A 0 c) ∧ Hid (SpellOut B S G base R L t w (.returned .nilIface) wr)))
  case atStart => exact .inl ⟨rfl, rfl, Lib.hid rfl⟩
  case round =>
    rcases hrel with ⟨rfl, rfl, HE⟩ | ⟨rfl, ⟨A2, c2, rfl⟩, HE⟩
    · have e := HE.out
      subst e
      clear HE
      have z0 := bx0.out.cell 0; have z1 := bx0.out.cell 1; have z2 := bx0.out.cell 2; have z3 := bx0.out.cell 3
      simp only [List.getElem?_toArray, List.getElem?_cons_zero, List.getElem?_cons_succ] at z0 z1 z2 z3
      have B1 := Lib.hid (balloc bw0.out (.cells #[.int .i64 x, .int .i64 0, .int .i64 (m : Int), .int .i64 1] 170))
      have HS1 := Lib.hid (HST.out.below B1.out)
      have X1 := Lib.hid (Box.new wr 170 #[.int .i64 x, .int .i64 0, .int .i64 (m : Int), .int .i64 1])
      go_wp2_with fail
      (with_reducible refine (HW'.out _ HS1.out).mono ?_)
      rintro e w2 ⟨rfl, B2⟩
      have X2 := (X1.out.below B2 X1.out.lt).alloc (.cells #[.int .i64 (m : Int), .int .i64 u1, .int .i64 u2, .int .i64 u3, .int .u64 u4, .int .u64 u5] 110)
      have BW2 := Lib.hid (balloc (bkeep B1.out B2) (.cells #[.int .i64 (m : Int), .int .i64 u1, .int .i64 u2, .int .i64 u3, .int .u64 u4, .int .u64 u5] 110))
      have y0 := X2.cell 0; have y1 := X2.cell 1; have y2 := X2.cell 2; have y3 := X2.cell 3
      simp only [List.getElem?_toArray, List.getElem?_cons_zero, List.getElem?_cons_succ] at y0 y1 y2 y3
      have X2b := X1.out.below B2 X1.out.lt
      have q0 := X2b.cell 0; have q1 := X2b.cell 1; have q2 := X2b.cell 2; have q3 := X2b.cell 3
      simp only [List.getElem?_toArray, List.getElem?_cons_zero, List.getElem?_cons_succ] at q0 q1 q2 q3
      have x2l := X2b.lt
      clear B2 X2 X2b
      go_wp2_with fail
      (with_reducible refine (HV.out _ (Nat.le_trans HB.out BW2.out.size) BW2.out).mono ?_)
      rintro e w3 ⟨A3, c3, rfl, o⟩
      have HO := Lib.hid (show SpellOut B S G base R L t w (.returned .nilIface) w3 from ⟨A3, c3, rfl, o⟩)
      clear o
      go_wp2_with fail
      go_roundg 0
      case measure => omega
      case rel => exact .inr ⟨rfl, ⟨_, _, rfl⟩, HO⟩
    · go_wp2_with fail
      go_ret
      exact HE.out
def ExtractOut (t : List Int) (w : World) (e : Ending) (w' : World) : Prop := ∃ A c, e = .returned (.tuple #[.slice A t.length c, .nilIface]) ∧ RowAt w' A (vb t) ∧ t.length ≤ c ∧ Below w.heap.size w w'
set_option maxRecDepth 100000 in
set_option maxHeartbeats 8000000 in
theorem extract_any (L : List En) (T : List (List Int)) (hg : Good L T) (x : Int) (x0 : 1 ≤ x) (x1 : x ≤ L.length) (B S G : Nat) (t : List Int) (ht : tx T x = t) (hn : t.length ≤ 65536) (w : World) (st : St w B S G L) :
    Calls Try.prog 35 #[.pointer (some ⟨S, 0, none⟩), .int .i64 x, .int .i64 0, .int .i64 t.length] w (ExtractOut t w) := by
  have HG := Lib.hid hg
  have HW := Lib.hid (fun w st => weight_any L x (by omega) x1 hg.cap B S G w st)
  have en : (ent L x).w.n = (tx T x).length := by rw [(hg.any (by omega) x1).w]; rfl
  rw [ht] at en
  obtain ⟨u, hu⟩ : ∃ u, u = (ent L x).w := ⟨_, rfl⟩
  rw [← hu] at HW en
  have HPa : Hid (∀ (A : Option Addr) c base R Q, B ≤ base → base ≤ R → ∀ w, base ≤ w.heap.size → St w B S G L → Box w R 100 #[.slice A 0 c] → w.ownsRow base 5 1 (.slice A 0 c) 0 (vb []) → Q < base → Box w Q 24 #[.pointer (some ⟨S, 0, none⟩)] →
      Calls Try.prog 56 #[.pointer (some ⟨S, 0, none⟩), .int .i64 x, .int .i64 0, .int .i64 t.length, .func (.func 57) #[] #[.pointer (some ⟨R, 0, none⟩), .pointer (some ⟨Q, 0, none⟩)]] w (SpellOut B S G base R L t w)) := Lib.hid fun A c base R Q hB hR w hb st bx ow hq bq => xparts_any L T hg x x0 x1 c A B S G base R Q hB hR t ht hn w hb st bx ow hq bq
  obtain ⟨m, hm⟩ : ∃ m, m = t.length := ⟨_, rfl⟩
  have HM := Lib.hid hm
  rw [← hm] at en hn HPa ⊢
  have HRa := Lib.hid (fun w => range_yes 0 (m : Int) (m : Int) (by omega) (by omega) (by omega) (by omega) w)
  obtain ⟨u0, u1, u2, u3, u4, u5⟩ := u
  simp only at en
  subst en
  have HW' : Hid (∀ w, St w B S G L → Calls Try.prog 34 #[.pointer (some ⟨S, 0, none⟩), .int .i64 x] w fun r w' => r = .returned (.tuple #[.agg #[.int .i64 (m : Int), .int .i64 u1, .int .i64 u2, .int .i64 u3, .int .u64 u4, .int .u64 u5], .nilIface]) ∧ Below w.heap.size w w') := HW
  have B0 := Lib.hid (balloc (Below.refl w.heap.size w) (.cells #[.pointer (some ⟨S, 0, none⟩)] 24))
  have Q0 := Lib.hid (Box.new w 24 #[.pointer (some ⟨S, 0, none⟩)])
  have HST := Lib.hid st
  have bB := st.lt.2.2
  have t1 : decide ((65536 : Int) < (m : Int)) = false := by simp; omega
  have t1b : decide (65536 < m) = false := by simp; omega
  obtain ⟨q, hq⟩ : ∃ q, q = w.heap.size := ⟨_, rfl⟩
  have HQ := Lib.hid hq
  clear HW hu hm hg x0 x1 ht st hq
  go_enter Try.func35, Try.ntmps35
  go_wp2_with fail
  (with_reducible refine (HW'.out _ (HST.out.below B0.out)).mono ?_)
  rintro e w1 ⟨rfl, B1⟩
  have Q1 := Lib.hid (Q0.out.below B1 Q0.out.lt)
  have BW1 := Lib.hid (bkeep B0.out B1)
  clear B1
  have BW2 := Lib.hid (balloc BW1.out (.cells #[.int .i64 (m : Int), .int .i64 u1, .int .i64 u2, .int .i64 u3, .int .u64 u4, .int .u64 u5] 110))
  have Q2 := Lib.hid (Q1.out.alloc (.cells #[.int .i64 (m : Int), .int .i64 u1, .int .i64 u2, .int .i64 u3, .int .u64 u4, .int .u64 u5] 110))
  go_wp2_with fail
  (with_reducible refine (HRa.out _).mono ?_)
  rintro e w' ⟨rfl, rfl⟩
  have mk := fun w => mk_bytes0 m (by omega) w
  have hmf : ∀ fn first cap w, (Instr.makeFunc fn first cap).run Try.prog w = .ok (.func fn first cap) w := fun _ _ _ _ => rfl
  have cq := (((Q2.out.alloc (.cells (vb (List.replicate m 0)).toArray 5)).alloc (.cells #[.slice (some ⟨w1.heap.size + 1, 0, none⟩) 0 m] 100))).cell 0
  simp only [List.getElem?_toArray, List.getElem?_cons_zero] at cq
  obtain ⟨w2, hw2⟩ : ∃ w2, w2 = w1.alloc (.cells #[.int .i64 (m : Int), .int .i64 u1, .int .i64 u2, .int .i64 u3, .int .u64 u4, .int .u64 u5] 110) := ⟨_, rfl⟩
  go_wp2_with fail
  clear mk hmf cq
  have BW4 := Lib.hid (balloc (balloc BW2.out (.cells (vb (List.replicate m 0)).toArray 5)) (.cells #[.slice (some ⟨w1.heap.size + 1, 0, none⟩) 0 m] 100))
  have Q4 := Lib.hid ((Q2.out.alloc (.cells (vb (List.replicate m 0)).toArray 5)).alloc (.cells #[.slice (some ⟨w1.heap.size + 1, 0, none⟩) 0 m] 100))
  have R4 := Lib.hid (Box.new_ (w := w2.alloc (.cells (vb (List.replicate m 0)).toArray 5)) (g := w1.heap.size + 1 + 1) (t := 100) (cs := #[.slice (some ⟨w1.heap.size + 1, 0, none⟩) 0 m]) (by rw [hw2]; simp))
  have O4 := Lib.hid (own_alloc (own_zb w2 m (by omega)) (.cells #[.slice (some ⟨w1.heap.size + 1, 0, none⟩) 0 m] 100))
  rw [hw2] at R4 O4
  have ws := BW1.out.size
  have ql : w.heap.size < w1.heap.size + 1 := by omega
  (with_reducible refine (HPa.out (some ⟨w1.heap.size + 1, 0, none⟩) m (w1.heap.size + 1) (w1.heap.size + 1 + 1) w.heap.size (by omega) (by omega) _ ?b3 (HST.out.below BW4.out) R4.out ?b6 ql Q4.out).mono ?_)
  case b3 => simp
  case b6 => have := O4.out; simpa using this
  rintro e w5 ⟨A5, c5, rfl, BX, OW, BW, HS⟩
  have hm := HM.out
  have hmc : m ≤ c5 := by
    rcases OW.2 with ⟨hv, h0⟩ | ⟨g2, cap2, cur, hv, hg, hc, hn2, _⟩
    · omega
    · injection hv with _ _ hcap; omega
  have cR := BX.cell 0
  simp only [List.getElem?_toArray, List.getElem?_cons_zero] at cR
  rw [← hm] at cR OW
  have HOut := Lib.hid (show ExtractOut t w (.returned (.tuple #[.slice A5 m c5, .nilIface])) w5 from ⟨A5, c5, by rw [hm], own_row _ OW, by omega, BW4.out.trans (BW.mono (by omega))⟩)
  clear OW BX BW HS R4 O4 Q4 hw2 hm hmc ws ql
  go_wp2_with fail
  go_ret2
  exact HOut.out
end Go.Proofs.Ytolhjkpekmmajaa
/- Changes: their cells; what a patch of a text is; lengths. -/
namespace Go.Proofs.Ytolhjkpekmmajaa
set_option linter.unusedVariables false
set_option linter.unusedSimpArgs false
open Go.RowKit Go.Lib
/-- a change -/
structure Cg where
  ad : Int
  n : Int
  x : Int
def Cg.cells (c : Cg) : List Value := [.int .i64 c.ad, .int .i64 c.n, .int .i64 c.x]
def cgc (p : List Cg) : List Value := p.flatMap Cg.cells
theorem cgc_len (p : List Cg) : (cgc p).length = p.length * 3 := by
  induction p with
  | nil => rfl
  | cons c p ih => simp [cgc, Cg.cells] at ih ⊢; omega
theorem cgc_app (a b : List Cg) : cgc (a ++ b) = cgc a ++ cgc b := by simp [cgc]
theorem cgc_one (p : List Cg) : ∀ u ∈ cgc p, u.oneCell' = true := by
  intro u hu
  simp only [cgc, List.mem_flatMap, Cg.cells] at hu
  obtain ⟨c, _, hu⟩ := hu
  simp at hu
  rcases hu with rfl | rfl | rfl <;> rfl
theorem cgc_get {p : List Cg} {i j : Nat} {c : Cg} {u : Value} (h : p[i]? = some c) (hu : c.cells[j]? = some u) : (cgc p)[i * 3 + j]? = some u := by
  induction p generalizing i with
  | nil => simp at h
  | cons a p ih =>
    have hj : j < 3 := (List.getElem?_eq_some_iff.1 hu).1
    show (a.cells ++ cgc p)[i * 3 + j]? = some u
    match i with
    | 0 =>
      simp at h; subst h
      rw [List.getElem?_append_left (by simp [Cg.cells]; omega), Nat.zero_mul, Nat.zero_add]; exact hu
    | i + 1 =>
      simp at h
      rw [List.getElem?_append_right (by simp [Cg.cells]; omega), show a.cells.length = 3 from rfl, show (i + 1) * 3 + j - 3 = i * 3 + j by omega]
      exact ih h
/-- change i of a row: its cells, as the walk spells them -/
theorem row_cg {w : World} {A : Option Addr} {p : List Cg} {i : Nat} {c : Cg} (h : RowAt w A (cgc p)) (hc : p[i]? = some c) :
    ∃ ad, A = some ad ∧ (ad.add (i * 3)).block < w.heap.size ∧ w.cell? (ad.add (i * 3)) = some (.int .i64 c.ad) ∧ w.cell? ⟨(ad.add (i * 3)).block, (ad.add (i * 3)).off + 1, none⟩ = some (.int .i64 c.n) ∧ w.cell? ⟨(ad.add (i * 3)).block, (ad.add (i * 3)).off + 2, none⟩ = some (.int .i64 c.x) := by
  obtain ⟨ad, e, hl, c0⟩ := h.get (cgc_get (j := 0) hc rfl)
  have key : ∀ j u, c.cells[j + 1]? = some u → w.cell? ⟨(ad.add (i * 3)).block, (ad.add (i * 3)).off + (j + 1), none⟩ = some u := by
    intro j u hu
    obtain ⟨a2, e2, _, k⟩ := h.get (cgc_get (j := j + 1) hc hu)
    rw [e] at e2; cases e2
    rw [← add_add_, add_succ_] at k
    exact k
  exact ⟨ad, e, by rw [block_add]; exact hl, c0, key 0 _ rfl, key 1 _ rfl⟩
/-- the end of the change ahead of number i -/
def lst (p : List Cg) : Nat → Int
  | 0 => -1
  | i + 1 => (p[i]?.map fun c => c.ad + c.n).getD 0
/-- p is a patch of a text of length N, its texts among the IDs up to K -/
def POk (N K : Int) (p : List Cg) : Prop := ∀ i c, p[i]? = some c → lst p i < c.ad ∧ 0 ≤ c.ad ∧ 0 ≤ c.n ∧ c.ad + c.n ≤ N ∧ 0 ≤ c.x ∧ c.x ≤ K ∧ (c.n ≠ 0 ∨ c.x ≠ 0)
theorem lst_succ {p : List Cg} {i : Nat} {c : Cg} (h : p[i]? = some c) : lst p (i + 1) = c.ad + c.n := by show (p[i]?.map fun c => c.ad + c.n).getD 0 = _; rw [h]; rfl
theorem lst_app (p q : List Cg) {i : Nat} (h : i ≤ p.length) : lst (p ++ q) i = lst p i := by
  cases i with
  | zero => rfl
  | succ i => show ((p ++ q)[i]?.map fun c => c.ad + c.n).getD 0 = (p[i]?.map fun c => c.ad + c.n).getD 0; rw [List.getElem?_append_left (by omega)]
theorem POk.mono {N K K' : Int} {p : List Cg} (h : POk N K p) (hk : K ≤ K') : POk N K' p := fun i c hc => by
  obtain ⟨h1, h2, h3, h4, h5, h6, h7⟩ := h i c hc
  exact ⟨h1, h2, h3, h4, h5, by omega, h7⟩
theorem POk.nil (N K : Int) : POk N K [] := fun i c h => by simp at h
theorem POk.snoc {N K : Int} {p : List Cg} (h : POk N K p) (c : Cg) (h1 : lst p p.length < c.ad) (h2 : 0 ≤ c.ad) (h3 : 0 ≤ c.n) (h4 : c.ad + c.n ≤ N) (h5 : 0 ≤ c.x) (h6 : c.x ≤ K) (h7 : c.n ≠ 0 ∨ c.x ≠ 0) : POk N K (p ++ [c]) := by
  intro i d hd
  by_cases hi : i < p.length
  · rw [List.getElem?_append_left hi] at hd
    rw [lst_app p [c] (by omega)]; exact h i d hd
  · have hl := (List.getElem?_eq_some_iff.1 hd).1
    simp at hl
    obtain rfl : i = p.length := by omega
    rw [List.getElem?_append_right (Nat.le_refl _), Nat.sub_self] at hd
    simp at hd; subst hd
    rw [lst_app p [c] (Nat.le_refl _)]
    exact ⟨h1, h2, h3, h4, h5, h6, h7⟩
/-- the letters that the first i changes take out -/
def dn (p : List Cg) (i : Nat) : Int := sumL ((p.take i).map Cg.n)
/-- the letters that they put in -/
def up (T : List (List Int)) (p : List Cg) (i : Nat) : Int := sumL ((p.take i).map fun c => ((tx T c.x).length : Int))
theorem dn_zero (p : List Cg) : dn p 0 = 0 := by simp [dn, sumL]
theorem up_zero (T : List (List Int)) (p : List Cg) : up T p 0 = 0 := by simp [up, sumL]
theorem sumL_one (x : Int) : sumL [x] = x := by simp [sumL]
theorem dn_succ {p : List Cg} {i : Nat} {c : Cg} (h : p[i]? = some c) : dn p (i + 1) = dn p i + c.n := by
  unfold dn; rw [List.take_add_one, h]; simp [sumL_app, sumL_one]
theorem up_succ (T : List (List Int)) {p : List Cg} {i : Nat} {c : Cg} (h : p[i]? = some c) : up T p (i + 1) = up T p i + (tx T c.x).length := by
  unfold up; rw [List.take_add_one, h]; simp [sumL_app, sumL_one]
theorem up_pos (T : List (List Int)) (p : List Cg) (i : Nat) : 0 ≤ up T p i := sumL_pos fun x hx => by
  simp only [List.mem_map] at hx
  obtain ⟨c, _, rfl⟩ := hx
  omega
theorem dn_bound {N K : Int} {p : List Cg} (h : POk N K p) (hN : 0 ≤ N) : ∀ i, i ≤ p.length → 0 ≤ dn p i ∧ (i ≠ 0 → dn p i ≤ lst p i) ∧ dn p i ≤ N
  | 0, _ => by rw [dn_zero]; exact ⟨Int.le_refl _, fun h => absurd rfl h, hN⟩
  | i + 1, hi => by
    obtain ⟨h1, h2, h3⟩ := dn_bound h hN i (by omega)
    have hc := List.getElem?_eq_getElem (show i < p.length by omega)
    obtain ⟨k1, k2, k3, k4, k5, k6, k7⟩ := h i _ hc
    rw [dn_succ hc, lst_succ hc]
    have : dn p i ≤ p[i].ad := by
      by_cases e : i = 0
      · subst e; rw [dn_zero]; exact k2
      · have := h2 e; omega
    exact ⟨by omega, fun _ => by omega, by omega⟩
theorem up_mono (T : List (List Int)) (p : List Cg) {i j : Nat} (h : i ≤ j) : up T p i ≤ up T p j := by
  induction j with
  | zero => have : i = 0 := by omega
            subst this; exact Int.le_refl _
  | succ j ih =>
    by_cases e : i = j + 1
    · subst e; exact Int.le_refl _
    · have h1 := ih (by omega)
      by_cases hj : j < p.length
      · rw [up_succ T (List.getElem?_eq_getElem hj)]; omega
      · unfold up at h1 ⊢
        rw [List.take_of_length_le (show p.length ≤ j + 1 by omega)]
        rwa [List.take_of_length_le (show p.length ≤ j by omega)] at h1
/-- the length of the patched text -/
def newLen (T : List (List Int)) (N : Int) (p : List Cg) : Int := N - dn p p.length + up T p p.length
theorem up_ext {L L' : List En} {T T' : List (List Int)} (e : Ext L T L' T') (hT : T.length = L.length) {N : Int} {p : List Cg} (h : POk N L.length p) (i : Nat) : up T' p i = up T p i := by
  unfold up
  congr 1
  refine List.map_congr_left fun c hc => ?_
  obtain ⟨k, hk, rfl⟩ := List.mem_iff_getElem.1 (List.mem_of_mem_take hc)
  obtain ⟨_, _, _, _, h5, h6, _⟩ := h k _ (List.getElem?_eq_getElem hk)
  rw [e.tx hT h5 h6]
theorem newLen_ext {L L' : List En} {T T' : List (List Int)} (e : Ext L T L' T') (hT : T.length = L.length) {N : Int} {p : List Cg} (h : POk N L.length p) : newLen T' N p = newLen T N p := by
  unfold newLen; rw [up_ext e hT h]
end Go.Proofs.Ytolhjkpekmmajaa
/- The walks of patch's unknown, size, balanced, Check, Length. -/
namespace Go.Proofs.Ytolhjkpekmmajaa
set_option linter.unusedVariables false
set_option linter.unusedSimpArgs false
open Go.RowKit Go.Lib Go.Maps
attribute [local go_sem ↓] Go.wp_at_zero Go.wp_at_succ
set_option maxRecDepth 100000 in
theorem unknown_no (L : List En) (x : Int) (h0 : 0 ≤ x) (h1 : x ≤ L.length) (B S G : Nat) (w : World) (st : St w B S G L) :
    Calls Try.prog 59 #[.pointer (some ⟨S, 0, none⟩), .int .i64 x] w fun r w' => r = .returned (.bool false) ∧ w = w' := by
  have HL := Lib.hid (len_any L B S G w st)
  have t1 : decide (x < 0) = false := by simp; omega
  have t2 : decide ((L.length : Int) < x) = false := by simp; omega
  obtain ⟨n, hn⟩ : ∃ n, n = L.length := ⟨_, rfl⟩
  rw [← hn] at t2 HL
  clear h0 h1 st hn
  go_enter Try.func59, Try.ntmps59
  go_wp2_with fail
  (with_reducible refine HL.out.mono ?_)
  rintro e w' ⟨rfl, rfl⟩
  go_wp2_with fail
  go_ret
  exact ⟨rfl, rfl⟩
set_option maxRecDepth 100000 in
theorem psize_any (L : List En) (T : List (List Int)) (hg : Good L T) (x : Int) (h0 : 0 ≤ x) (h1 : x ≤ L.length) (B S G : Nat) (w : World) (st : St w B S G L) :
    Calls Try.prog 39 #[.pointer (some ⟨S, 0, none⟩), .int .i64 x] w fun r w' => r = .returned (.tuple #[.int .i64 (tx T x).length, .nilIface]) ∧ Below w.heap.size w w' := by
  have HW := Lib.hid (fun w st => weight_any L x h0 h1 hg.cap B S G w st)
  have e : (ent L x).w.n = (tx T x).length := by rw [(hg.any h0 h1).w]; rfl
  obtain ⟨u, hu⟩ : ∃ u, u = (ent L x).w := ⟨_, rfl⟩
  rw [← hu] at HW e
  obtain ⟨u0, u1, u2, u3, u4, u5⟩ := u
  simp only at e
  rw [← e]
  have HW' : Hid (∀ w, St w B S G L → Calls Try.prog 34 #[.pointer (some ⟨S, 0, none⟩), .int .i64 x] w fun r w' => r = .returned (.tuple #[.agg #[.int .i64 u0, .int .i64 u1, .int .i64 u2, .int .i64 u3, .int .u64 u4, .int .u64 u5], .nilIface]) ∧ Below w.heap.size w w') := HW
  have HST := Lib.hid st
  clear HW e hu h0 h1 hg st
  go_enter Try.func39, Try.ntmps39
  go_wp2_with fail
  (with_reducible refine (HW'.out _ HST.out).mono ?_)
  rintro e w1 ⟨rfl, B1⟩
  have HB1 := Lib.hid (balloc B1 (.cells #[.int .i64 u0, .int .i64 u1, .int .i64 u2, .int .i64 u3, .int .u64 u4, .int .u64 u5] 110))
  clear B1
  go_wp2_with fail
  go_ret2
  exact ⟨rfl, HB1.out⟩
theorem id_keyed : Keyed Try.prog 56 := Maps.int_keyed Try.underlying56
theorem id_key (x : Int) (h0 : 0 ≤ x) (h1 : x ≤ 1048576) : ∃ l, keyOf Try.prog 56 (.int .i64 x) = some l := by
  have hw := WalkArith.wf_i64 (n := x) ⟨by omega, by omega⟩
  exact ⟨.int .i64 x, by rw [keyOf_int Try.underlying56]; simp [mapKey, Try.underlying56, hw]⟩
theorem owns_below {w w' : World} {b n : Nat} {D : DataW Unit} {k : TypeId} {R : Value → Option (DataW Unit × List MemPlace)} (h : w.ownsMap Try.prog k R b n D) (hb : Below w.heap.size w w') : w'.ownsMap Try.prog k R b n D := by
  have hl := h.lt
  obtain ⟨es, clock, h1, h2⟩ := h
  exact ⟨es, clock, (hb.block b hl).trans h1, h2⟩
theorem bool_zero (w : World) : (zeroValue 4).run Try.prog w = .ok (.bool false) w := by kernel_rfl
set_option maxRecDepth 100000 in
set_option maxHeartbeats 4000000 in
theorem pbal_any (L : List En) (T : List (List Int)) (hg : Good L T) (p : List Cg) (n c : Nat) (A : Option Addr) (hl : p.length = n) (hn : n ≤ 100000) (hp : ∀ c ∈ p, 0 ≤ c.x ∧ c.x ≤ L.length) (B S G : Nat) (w : World) (st : St w B S G L) (ha : RowAt w A (cgc p)) :
    Calls Try.prog 47 #[.pointer (some ⟨S, 0, none⟩), .slice A n c] w fun r w' => r = .returned .nilIface ∧ Below w.heap.size w w' := by
  have hmm := @run_makeMap Try.prog
  have HG := Lib.hid hg; have HST := Lib.hid st; have HA := Lib.hid ha; have HL := Lib.hid hl; have HP := Lib.hid hp
  clear hg st ha hl hp
  go_enter Try.func47, Try.ntmps47
  go_wp2_with fail
  clear hmm
  go_loopw [7, 8, 9, 13] (fun _ _ _ si wr => ∃ (i : Nat) (D : DataW Unit), si = .int .i64 (i : Int) ∧ i ≤ n ∧ Hid (wr.ownsMap Try.prog 56 (plainElem Try.prog 4) w.heap.size i D) ∧ Hid (Below w.heap.size w wr)) (fun _ _ _ si _ => n - (intOf si).toNat)
  case atStart => exact ⟨0, _, rfl, by omega, Lib.hid (World.ownsMap_made _ _ _ _), Lib.hid (balloc (Below.refl _ _) _)⟩
  case round =>
    obtain ⟨i, D, rfl, hi, HM, BW⟩ := hrel
    by_cases hlt : i < n
    · have hil : i < p.length := by rw [HL.out]; exact hlt
      have hc := List.getElem?_eq_getElem hil
      obtain ⟨x0, x1⟩ := HP.out _ (List.getElem_mem hil)
      obtain ⟨cg, hcg⟩ : ∃ cg, cg = p[i] := ⟨_, rfl⟩
      rw [← hcg] at hc x0 x1
      obtain ⟨ad, rfl, adl, c0, c1, c2⟩ := row_cg (HA.out.below BW.out (Nat.le_refl _)) hc
      obtain ⟨ca, cn, cx⟩ := cg
      simp only at c0 c1 c2 x0 x1
      have hcap := HG.out.cap
      obtain ⟨kl, hkl⟩ := id_key cx x0 (by omega)
      have HK := Lib.hid hkl
      have HBa := Lib.hid (fun w st => balanced_any L T HG.out cx x0 x1 B S G w st)
      have BA := Lib.hid (balloc BW.out (.cells #[.int .i64 ca, .int .i64 cn, .int .i64 cx] 71))
      have HMA := Lib.hid (HM.out.alloc (.cells #[.int .i64 ca, .int .i64 cn, .int .i64 cx] 71))
      have X1 := Lib.hid (Box.new wr 71 #[.int .i64 ca, .int .i64 cn, .int .i64 cx])
      obtain ⟨v, ps, hrun, hv⟩ := HMA.out.lookup id_keyed Try.underlying163 (bool_zero _) (plainElem_bool Try.underlying4 false) hkl
      have hvb : ∃ q, v = .bool q := by
        cases v <;> simp [plainElem, Try.underlying4] at hv
        exact ⟨_, rfl⟩
      obtain ⟨q, rfl⟩ := hvb
      have HS1 := Lib.hid (HST.out.below BA.out)
      have gm : w.heap.size < wr.heap.size := HM.out.lt
      clear hc hcg x0 x1 hkl hv hcap
      cases q with
      | true =>
        go_wp2_with fail
        go_roundw
        case rel => exact ⟨i + 1, D, by go_num, by omega, Lib.hid (HMA.out.mono (by omega)), BA⟩
        case measure => simp [intOf]; omega
      | false =>
        go_wp2_with fail
        (with_reducible refine (HBa.out _ HS1.out).mono ?_)
        rintro e w2 ⟨rfl, B2⟩
        have X2 := X1.out.below B2 X1.out.lt
        have y0 := X2.cell 0; have y1 := X2.cell 1; have y2 := X2.cell 2
        simp only [List.getElem?_toArray, List.getElem?_cons_zero, List.getElem?_cons_succ] at y0 y1 y2
        have HB2 := Lib.hid (bkeep BA.out B2)
        have HM2 := Lib.hid (owns_below HMA.out B2)
        clear hrun B2 X2
        go_wp2_with (first | (at_mapUpdate; refine wpList_mapUpdate_own _ rfl _ _ _ 163 rfl 56 4 id_keyed Try.underlying163 (plainElem (H := Unit) Try.prog 4) w.heap.size i _ rfl HM2.out (by simp only [maxLen]; omega) _ _ _ rfl rfl HK.out _ [] (plainElem_bool Try.underlying4 true) ?_; intro w3 hM3 hg3))
        have HM3 := Lib.hid hM3
        have HB3 := Lib.hid (HB2.out.grown hg3 HB2.out.size (fun j hj => by cases hj; exact Nat.le_refl _))
        clear hM3 hg3
        go_wp2_with fail
        go_roundw
        case rel => exact ⟨i + 1, _, by go_num, by omega, HM3, HB3⟩
        case measure => simp [intOf]; omega
    · obtain rfl : i = n := by omega
      go_wp2_with fail
      go_ret
      exact ⟨rfl, BW.out⟩
end Go.Proofs.Ytolhjkpekmmajaa
/- The walks of patch.Check and patch.Length. -/
namespace Go.Proofs.Ytolhjkpekmmajaa
set_option linter.unusedVariables false
set_option linter.unusedSimpArgs false
open Go.RowKit Go.Lib Go.Maps
attribute [local go_sem ↓] Go.wp_at_zero Go.wp_at_succ
set_option maxRecDepth 100000 in
set_option maxHeartbeats 8000000 in
theorem check_any (L : List En) (T : List (List Int)) (hg : Good L T) (N : Int) (hN0 : 0 ≤ N) (hN : N ≤ 1152921504606846976) (p : List Cg) (n c : Nat) (A : Option Addr) (hl : p.length = n) (hn : n ≤ 100000) (hp : POk N L.length p) (B S G : Nat) (w : World) (st : St w B S G L) (ha : RowAt w A (cgc p)) :
    Calls Try.prog 38 #[.pointer (some ⟨S, 0, none⟩), .int .i64 N, .slice A n c] w fun r w' => r = .returned .nilIface ∧ Below w.heap.size w w' := by
  have HG := Lib.hid hg; have HST := Lib.hid st; have HA := Lib.hid ha; have HL := Lib.hid hl; have HP := Lib.hid hp
  have hv := valid_any N
  rw [vld_yes N hN0 hN] at hv
  have HV := Lib.hid hv
  have HB := Lib.hid (fun w (st : St w B S G L) (ha : RowAt w A (cgc p)) => pbal_any L T hg p n c A hl hn (fun c hc => by
    obtain ⟨k, hk, rfl⟩ := List.mem_iff_getElem.1 hc
    obtain ⟨_, _, _, _, h5, h6, _⟩ := hp k _ (List.getElem?_eq_getElem hk)
    exact ⟨h5, h6⟩) B S G w st ha)
  have HNN := Lib.hid (And.intro hN0 hN)
  clear hg st ha hl hp hv hN0 hN
  go_enter Try.func38, Try.ntmps38
  go_wp2_with fail
  (with_reducible refine (HV.out _).mono ?_)
  rintro e w' ⟨rfl, rfl⟩
  go_wp2_with fail
  go_loopw [8, 21] (fun _ si wr => ∃ (i : Nat), si = .int .i64 (i : Int) ∧ i ≤ n ∧ Hid (Below w.heap.size w wr)) (fun _ si _ => n - (intOf si).toNat)
  case atStart => exact ⟨0, rfl, by omega, Lib.hid (Below.refl _ _)⟩
  case round =>
    obtain ⟨i, rfl, hi, BW⟩ := hrel
    by_cases hlt : i < n
    · have hil : i < p.length := by rw [HL.out]; exact hlt
      have hc := List.getElem?_eq_getElem hil
      obtain ⟨_, _, _, _, x0, x1, _⟩ := HP.out i _ hc
      obtain ⟨cg, hcg⟩ : ∃ cg, cg = p[i] := ⟨_, rfl⟩
      rw [← hcg] at hc x0 x1
      obtain ⟨ad, rfl, adl, c0, c1, c2⟩ := row_cg (HA.out.below BW.out (Nat.le_refl _)) hc
      obtain ⟨ca, cn, cx⟩ := cg
      simp only at c0 c1 c2 x0 x1
      have HU := Lib.hid (fun w st => unknown_no L cx x0 x1 B S G w st)
      have BA := Lib.hid (balloc BW.out (.cells #[.int .i64 ca, .int .i64 cn, .int .i64 cx] 71))
      have HS1 := Lib.hid (HST.out.below BA.out)
      clear hc hcg x0 x1
      go_wp2_with fail
      (with_reducible refine (HU.out _ HS1.out).mono ?_)
      rintro e w' ⟨rfl, rfl⟩
      go_wp2_with fail
      go_roundw
      case rel => exact ⟨i + 1, by go_num, by omega, BA⟩
      case measure => simp [intOf]; omega
    · obtain rfl : i = n := by omega
      go_wp2_with fail
      go_loopw [9, 11, 33] (fun s9 _ si wr => ∃ (j : Nat), si = .int .i64 (j : Int) ∧ j ≤ i ∧ s9 = .int .i64 (lst p j) ∧ Hid (Below w.heap.size w wr)) (fun _ _ si _ => i - (intOf si).toNat)
      case atStart => exact ⟨0, rfl, by omega, rfl, BW⟩
      case round =>
        clear BW
        obtain ⟨j, rfl, hj, rfl, BW⟩ := hrel
        by_cases hlt2 : j < i
        · have hil : j < p.length := by rw [HL.out]; exact hlt2
          have hc := List.getElem?_eq_getElem hil
          obtain ⟨k1, k2, k3, k4, x0, x1, k7⟩ := HP.out j _ hc
          have hs := lst_succ hc
          obtain ⟨cg, hcg⟩ : ∃ cg, cg = p[j] := ⟨_, rfl⟩
          rw [← hcg] at hc x0 x1 k1 k2 k3 k4 k7 hs
          obtain ⟨ad, rfl, adl, c0, c1, c2⟩ := row_cg (HA.out.below BW.out (Nat.le_refl _)) hc
          obtain ⟨ca, cn, cx⟩ := cg
          simp only at c0 c1 c2 x0 x1 k1 k2 k3 k4 k7 hs
          obtain ⟨u, hu⟩ : ∃ u, u = lst p j := ⟨_, rfl⟩
          rw [← hu] at k1 ⊢
          have hnn := HNN.out
          have HR := Lib.hid (fun w => range_yes ca cn N k2 k3 k4 hnn.2 w)
          have BA := Lib.hid (balloc BW.out (.cells #[.int .i64 ca, .int .i64 cn, .int .i64 cx] 71))
          have t1 : decide (ca ≤ u) = false := by simp; omega
          have wa : IntKind.i64.wrap (ca + cn) = ca + cn := IntWalk.i64_in _ ⟨by omega, by omega⟩
          have b1 : ca + cn ≤ 1152921504606846976 := by omega
          have b2 : 0 ≤ ca + cn := by omega
          have HS := Lib.hid hs
          clear hc hcg x0 x1 hs hu k1 k2 k3 k4 hnn
          by_cases hz : cn = 0
          · have t2 : (cn == 0) = true := by rw [hz]; rfl
            have t3 : (cx == 0) = false := by rw [beq_eq_false_iff_ne]; omega
            clear hz k7
            go_wp2_with fail
            (with_reducible refine (HR.out _).mono ?_)
            rintro e w' ⟨rfl, rfl⟩
            go_wp2_with fail
            go_roundw
            case rel => exact ⟨j + 1, by go_num, by omega, by rw [HS.out], BA⟩
            case measure => simp [intOf]; omega
          · have t2 : (cn == 0) = false := by rw [beq_eq_false_iff_ne]; exact hz
            clear hz k7
            go_wp2_with fail
            (with_reducible refine (HR.out _).mono ?_)
            rintro e w' ⟨rfl, rfl⟩
            go_wp2_with fail
            go_roundw
            case rel => exact ⟨j + 1, by go_num, by omega, by rw [HS.out], BA⟩
            case measure => simp [intOf]; omega
        · obtain rfl : j = i := by omega
          have HB2 := Lib.hid (HB.out _ (HST.out.below BW.out) (HA.out.below BW.out (Nat.le_refl _)))
          go_wp2_with fail
          (with_reducible refine HB2.out.mono ?_)
          rintro e w2 ⟨rfl, B2⟩
          have BW2 := Lib.hid (bkeep BW.out B2)
          clear B2
          go_wp2_with fail
          go_ret
          exact ⟨rfl, BW2.out⟩
set_option maxRecDepth 100000 in
set_option maxHeartbeats 8000000 in
theorem plength_any (L : List En) (T : List (List Int)) (hg : Good L T) (N : Int) (hN0 : 0 ≤ N) (hN : N ≤ 1152921504606846976) (p : List Cg) (n c : Nat) (A : Option Addr) (hl : p.length = n) (hn : n ≤ 100000) (hp : POk N L.length p) (hm : N + up T p n ≤ 1152921504606846976) (B S G : Nat) (w : World) (st : St w B S G L) (ha : RowAt w A (cgc p)) :
    Calls Try.prog 22 #[.pointer (some ⟨S, 0, none⟩), .int .i64 N, .slice A n c] w fun r w' => r = .returned (.tuple #[.int .i64 (newLen T N p), .nilIface]) ∧ Below w.heap.size w w' := by
  have HC := Lib.hid (check_any L T hg N hN0 hN p n c A hl hn hp B S G w st ha)
  have HD := Lib.hid (dn_bound hp hN0)
  have HG := Lib.hid hg; have HST := Lib.hid st; have HA := Lib.hid ha; have HL := Lib.hid hl; have HP := Lib.hid hp; have HM := Lib.hid hm
  clear hg st ha hl hp hm
  go_enter Try.func22, Try.ntmps22
  go_wp2_with fail
  (with_reducible refine HC.out.mono ?_)
  rintro e w1 ⟨rfl, B1⟩
  have BW1 := Lib.hid B1
  clear B1
  go_wp2_with fail
  go_loopw [1, 10, 24] (fun s1 _ si wr => ∃ (i : Nat), si = .int .i64 (i : Int) ∧ i ≤ n ∧ s1 = .int .i64 (N - dn p i) ∧ Hid (Below w.heap.size w wr)) (fun _ _ si _ => n - (intOf si).toNat)
  case atStart => exact ⟨0, rfl, by omega, by rw [dn_zero]; simp, BW1⟩
  case round =>
    clear BW1
    obtain ⟨i, rfl, hi, rfl, BW⟩ := hrel
    by_cases hlt : i < n
    · have hil : i < p.length := by rw [HL.out]; exact hlt
      have hc := List.getElem?_eq_getElem hil
      obtain ⟨k1, k2, k3, k4, x0, x1, k7⟩ := HP.out i _ hc
      have hs := dn_succ hc
      have d1 := HD.out i (by omega)
      have d2 := HD.out (i + 1) (by omega)
      obtain ⟨cg, hcg⟩ : ∃ cg, cg = p[i] := ⟨_, rfl⟩
      rw [← hcg] at hc k2 k3 k4 hs
      obtain ⟨ad, rfl, adl, c0, c1, c2⟩ := row_cg (HA.out.below BW.out (Nat.le_refl _)) hc
      obtain ⟨ca, cn, cx⟩ := cg
      simp only at c0 c1 c2 k2 k3 k4 hs
      obtain ⟨u, hu⟩ : ∃ u, u = N - dn p i := ⟨_, rfl⟩
      rw [← hu]
      have BA := Lib.hid (balloc BW.out (.cells #[.int .i64 ca, .int .i64 cn, .int .i64 cx] 71))
      have b1 : 0 ≤ u - cn := by omega
      have b2 : u ≤ 1152921504606846976 := by omega
      have HS : Hid (u - cn = N - dn p (i + 1)) := Lib.hid (by omega)
      have k0 : 0 ≤ cn := k3
      clear hc hcg x0 x1 hs hu k1 k2 k3 k4 k7 d1 d2
      go_wp2_with fail
      go_roundw
      case rel => exact ⟨i + 1, by go_num, by omega, by rw [← HS.out]; (try rw [IntWalk.wrap64_in (u - cn) ⟨by omega, by omega⟩]), BA⟩
      case measure => simp [intOf]; omega
    · obtain rfl : i = n := by omega
      go_wp2_with fail
      go_loopw [1, 12, 13, 14, 35] (fun s1 _ _ _ si wr => ∃ (j : Nat), si = .int .i64 (j : Int) ∧ j ≤ i ∧ s1 = .int .i64 (N - dn p i + up T p j) ∧ Hid (Below w.heap.size w wr)) (fun _ _ _ _ si _ => i - (intOf si).toNat)
      case atStart => exact ⟨0, rfl, by omega, by rw [up_zero]; simp, BW⟩
      case round =>
        clear BW
        obtain ⟨j, rfl, hj, rfl, BW⟩ := hrel
        by_cases hlt2 : j < i
        · have hil : j < p.length := by rw [HL.out]; exact hlt2
          have hc := List.getElem?_eq_getElem hil
          obtain ⟨k1, k2, k3, k4, x0, x1, k7⟩ := HP.out j _ hc
          have hs := up_succ T hc
          have d1 := HD.out i (by rw [HL.out]; exact Nat.le_refl _)
          have d2 := up_mono T p (show j + 1 ≤ i by omega)
          have d3 := up_pos T p j
          have hm := HM.out
          obtain ⟨cg, hcg⟩ : ∃ cg, cg = p[j] := ⟨_, rfl⟩
          rw [← hcg] at hc x0 x1 hs
          obtain ⟨ad, rfl, adl, c0, c1, c2⟩ := row_cg (HA.out.below BW.out (Nat.le_refl _)) hc
          obtain ⟨ca, cn, cx⟩ := cg
          simp only at c0 c1 c2 x0 x1 hs
          obtain ⟨u, hu⟩ : ∃ u, u = N - dn p i + up T p j := ⟨_, rfl⟩
          rw [← hu]
          have BA := Lib.hid (balloc BW.out (.cells #[.int .i64 ca, .int .i64 cn, .int .i64 cx] 71))
          have HZ := Lib.hid (fun w st => psize_any L T HG.out cx x0 x1 B S G w st)
          have HAd := Lib.hid (fun w => lenadd_yes u (tx T cx).length (by omega) (by omega) (by omega) (by omega) (by omega) w)
          have HS : Hid (u + (tx T cx).length = N - dn p i + up T p (j + 1)) := Lib.hid (by omega)
          obtain ⟨q, hq⟩ : ∃ q, q = (tx T cx).length := ⟨_, rfl⟩
          rw [← hq] at HZ HAd HS
          have HS1 := Lib.hid (HST.out.below BA.out)
          clear hc hcg x0 x1 hs hu k1 k2 k3 k4 k7 d1 d2 d3 hm hq
          go_wp2_with fail
          (with_reducible refine (HZ.out _ HS1.out).mono ?_)
          rintro e w2 ⟨rfl, B2⟩
          have BW2 := Lib.hid (bkeep BA.out B2)
          clear B2
          go_wp2_with fail
          (with_reducible refine (HAd.out _).mono ?_)
          rintro e w' ⟨rfl, rfl⟩
          go_wp2_with fail
          go_roundw
          case rel => exact ⟨j + 1, by go_num, by omega, by rw [HS.out], BW2⟩
          case measure => simp [intOf]; omega
        · obtain rfl : j = i := by omega
          have HE : Hid (N - dn p j + up T p j = newLen T N p) := Lib.hid (by unfold newLen; rw [HL.out])
          go_wp2_with fail
          go_ret2
          exact ⟨by rw [← HE.out]; rfl, BW.out⟩
end Go.Proofs.Ytolhjkpekmmajaa
/- The walks of patch.applied, and of patch.Apply at one change. -/
namespace Go.Proofs.Ytolhjkpekmmajaa
set_option linter.unusedVariables false
set_option linter.unusedSimpArgs false
open Go.RowKit Go.Lib Go.Maps
attribute [local go_sem ↓] Go.wp_at_zero Go.wp_at_succ
set_option maxRecDepth 100000 in
set_option maxHeartbeats 4000000 in
theorem applied_any (L : List En) (T : List (List Int)) (hg : Good L T) (x : Int) (x0 : 0 ≤ x) (x1 : x ≤ L.length) (p : List Cg) (n c : Nat) (A : Option Addr) (hl : p.length = n) (hn : n ≤ 100000) (hp : POk (tx T x).length L.length p) (hm : ((tx T x).length : Int) + up T p n ≤ 1152921504606846976) (B S G : Nat) (w : World) (st : St w B S G L) (ha : RowAt w A (cgc p)) :
    Calls Try.prog 31 #[.pointer (some ⟨S, 0, none⟩), .int .i64 x, .slice A n c] w fun r w' => (∃ v, r = .returned (.tuple #[.int .i64 v, .nilIface])) ∧ Below w.heap.size w w' := by
  have HW := Lib.hid (fun w st => weight_any L x x0 x1 hg.cap B S G w st)
  have e : (ent L x).w.n = (tx T x).length := by rw [(hg.any x0 x1).w]; rfl
  have xn := (hg.any x0 x1).n2
  have HPl : Hid (∀ w1, Below w.heap.size w w1 → Calls Try.prog 22 #[.pointer (some ⟨S, 0, none⟩), .int .i64 (tx T x).length, .slice A n c] w1 fun r w' => r = .returned (.tuple #[.int .i64 (newLen T (tx T x).length p), .nilIface]) ∧ Below w1.heap.size w1 w') := Lib.hid fun w1 hb =>
    plength_any L T hg (tx T x).length (by omega) (by omega) p n c A hl hn hp hm B S G w1 (st.below hb) (ha.below hb (Nat.le_refl _))
  have HB : Hid (∀ w1, St w1 B S G L → ∀ A c, RowAt w1 A (cgc [⟨0, 0, x⟩]) → Calls Try.prog 47 #[.pointer (some ⟨S, 0, none⟩), .slice A 1 c] w1 fun r w' => r = .returned .nilIface ∧ Below w1.heap.size w1 w') := Lib.hid fun w1 st1 A c h =>
    pbal_any L T hg [⟨0, 0, x⟩] 1 c A rfl (by omega) (fun c hc => by simp at hc; subst hc; exact ⟨x0, x1⟩) B S G w1 st1 h
  obtain ⟨u, hu⟩ : ∃ u, u = (ent L x).w := ⟨_, rfl⟩
  rw [← hu] at HW e
  obtain ⟨u0, u1, u2, u3, u4, u5⟩ := u
  simp only at e
  rw [← e] at HPl
  obtain ⟨v, hv⟩ : ∃ v, v = newLen T u0 p := ⟨_, rfl⟩
  rw [← hv] at HPl
  have HW' : Hid (∀ w, St w B S G L → Calls Try.prog 34 #[.pointer (some ⟨S, 0, none⟩), .int .i64 x] w fun r w' => r = .returned (.tuple #[.agg #[.int .i64 u0, .int .i64 u1, .int .i64 u2, .int .i64 u3, .int .u64 u4, .int .u64 u5], .nilIface]) ∧ Below w.heap.size w w') := HW
  have HST := Lib.hid st
  clear HW e hu hv xn x0 x1 hg st ha hm hp hl
  go_enter Try.func31, Try.ntmps31
  go_wp2_with fail
  (with_reducible refine (HW'.out _ HST.out).mono ?_)
  rintro e w1 ⟨rfl, B1⟩
  have HB1 := Lib.hid (balloc B1 (.cells #[.int .i64 u0, .int .i64 u1, .int .i64 u2, .int .i64 u3, .int .u64 u4, .int .u64 u5] 110))
  have X1 := Lib.hid ((Box.new w1 110 #[.int .i64 u0, .int .i64 u1, .int .i64 u2, .int .i64 u3, .int .u64 u4, .int .u64 u5]).alloc (.cells #[.int .i64 0, .int .i64 0, .int .i64 x] 71))
  have HB2 := Lib.hid (balloc HB1.out (.cells #[.int .i64 0, .int .i64 0, .int .i64 x] 71))
  have HS2 := Lib.hid (HST.out.below HB2.out)
  obtain ⟨w2, hw2⟩ : ∃ w2, w2 = w1.alloc (.cells #[.int .i64 u0, .int .i64 u1, .int .i64 u2, .int .i64 u3, .int .u64 u4, .int .u64 u5] 110) := ⟨_, rfl⟩
  have HR2 := Lib.hid (RowAt.of_block (Box.new w2 71 #[.int .i64 0, .int .i64 0, .int .i64 x]))
  have e2 : w2.heap.size = w1.heap.size + 1 := by rw [hw2]; simp
  rw [e2, hw2] at HR2
  clear B1 hw2 e2
  go_wp2_with fail
  (with_reducible refine (HB.out _ HS2.out _ _ HR2.out).mono ?_)
  rintro e w3 ⟨rfl, B3⟩
  have HB3 := Lib.hid (bkeep HB2.out B3)
  have X3 := X1.out.below B3 X1.out.lt
  have x0 := X3.cell 0; have x1 := X3.cell 1; have x2 := X3.cell 2; have x3 := X3.cell 3; have x4 := X3.cell 4; have x5 := X3.cell 5
  simp only [List.getElem?_toArray, List.getElem?_cons_zero, List.getElem?_cons_succ] at x0 x1 x2 x3 x4 x5
  clear B3 X3
  go_wp2_with fail
  (with_reducible refine (HPl.out _ HB3.out).mono ?_)
  rintro e w4 ⟨rfl, B4⟩
  have HB4 := Lib.hid (bkeep HB3.out B4)
  clear B4
  go_wp2_with fail
  go_ret2
  exact ⟨⟨v, rfl⟩, HB4.out⟩
/-- the parts of a text that one change cuts -/
theorem pcs_one (t : List Int) (a n : Nat) (h : a + n ≤ t.length) : pcs t [a, a + n] 3 = [t.take a, (t.drop a).take n, t.drop (a + n)] := by
  have e : pcs t [a, a + n] 3 = [pc t [a, a + n] 0, pc t [a, a + n] 1, pc t [a, a + n] 2] := by simp [pcs, List.range_succ]
  rw [e]
  have h0 : pc t [a, a + n] 0 = t.take a := by simp [pc, cz, ce]
  have h1 : pc t [a, a + n] 1 = (t.drop a).take n := by simp [pc, cz, ce]
  have h2 : pc t [a, a + n] 2 = t.drop (a + n) := by
    simp only [pc, cz, ce]
    simp
    rw [List.take_of_length_le (by rw [List.length_drop]; omega)]
  rw [h0, h1, h2]
set_option maxRecDepth 100000 in
set_option maxHeartbeats 16000000 in
theorem apply_one (k D : Nat) (L : List En) (T : List (List Int)) (hg : Good L T) (x : Int) (x0 : 0 ≤ x) (x1 : x ≤ L.length) (hk : (ent L x).dp ≤ k) (a n : Nat) (y : Int) (y0 : 0 ≤ y) (y1 : y ≤ L.length) (hD : (tx T x).length ≤ D) (hD2 : (tx T y).length ≤ D) (hz : n ≠ 0 ∨ y ≠ 0) (h : a + n ≤ (tx T x).length)
    (hm : (tx T x).length + (tx T y).length ≤ 1000000) (hc : L.length + (3 * sc_ k + cc_ 3 D) ≤ 1048576) (c : Nat) (A : Option Addr) (B S G : Nat) (w : World) (st : St w B S G L) (ha : RowK w B S G A (cgc [⟨a, n, y⟩])) :
    Calls Try.prog 14 #[.pointer (some ⟨S, 0, none⟩), .int .i64 x, .slice A 1 c] w (IdOut B S G L T ((tx T x).take a ++ (tx T y ++ (tx T x).drop (a + n))) 0 (D + 3) (3 * sc_ k + cc_ 3 D) w) := by
  have HAp : Hid (∀ w1, Below w.heap.size w w1 → Calls Try.prog 31 #[.pointer (some ⟨S, 0, none⟩), .int .i64 x, .slice A 1 c] w1 fun r w' => (∃ v, r = .returned (.tuple #[.int .i64 v, .nilIface])) ∧ Below w1.heap.size w1 w') := Lib.hid fun w1 hb =>
    applied_any L T hg x x0 x1 [⟨a, n, y⟩] 1 c A rfl (by omega) (by
      have := (POk.nil (tx T x).length L.length).snoc ⟨a, n, y⟩ (by show (-1 : Int) < a; omega) (by show (0 : Int) ≤ a; omega) (by show (0 : Int) ≤ n; omega) (by show (a : Int) + n ≤ _; omega) y0 y1 (by rcases hz with hz | hz; exact .inl (by show (n : Int) ≠ 0; omega); exact .inr hz)
      exact this) (by
      rw [up_succ T (p := [⟨a, n, y⟩]) (i := 0) rfl, up_zero]; show _ + (0 + ((tx T y).length : Int)) ≤ _; omega) B S G w1 (st.below hb) (ha.1.below hb (Nat.le_refl _))
  obtain ⟨i0_, hi0, hz0, hz1, hz2⟩ := info_parts5 info_int
  have HI := Lib.hid hi0; have HZ := Lib.hid hz0; have HZ1 := Lib.hid hz1; have HZ2 := Lib.hid hz2
  have HCut : Hid (∀ w1, Below w.heap.size w w1 → ∀ A c, RowK w1 B S G A (vi [(a : Int), (a : Int) + n]) → Calls Try.prog 32 #[.pointer (some ⟨S, 0, none⟩), .int .i64 x, .slice A 2 c] w1 (CutOut B S G L T [(tx T x).take a, ((tx T x).drop a).take n, (tx T x).drop (a + n)] (3 * sc_ k) w1)) := Lib.hid fun w1 hb A c hr => by
    have := sCut_any k L T hg x x0 x1 hk [a, a + n] 2 c A rfl (by omega) (fun i hi => by
      rcases (show i = 0 ∨ i = 1 by omega) with rfl | rfl
      · show 0 ≤ a ∧ a ≤ _; omega
      · show a ≤ a + n ∧ a + n ≤ _; omega) (by omega) B S G w1 (st.below hb) (by
      have e : [a, a + n].map Int.ofNat = [(a : Int), (a : Int) + n] := by simp
      rw [e]; exact hr)
    rw [pcs_one _ a n h] at this
    exact this
  have HCon : Hid (∀ w1 L1 T1 (i0 i1 i2 : Int), Now B S G L T (3 * sc_ k) w w1 L1 T1 → Ids L1 T1 [i0, i1, i2] [(tx T x).take a, ((tx T x).drop a).take n, (tx T x).drop (a + n)] → ∀ A c w2, St w2 B S G L1 → SFr w w2 B S G → RowK w2 B S G A (vi [i0, y, i2]) →
      Calls Try.prog 33 #[.pointer (some ⟨S, 0, none⟩), .slice A 3 c] w2 (IdOut B S G L T ((tx T x).take a ++ (tx T y ++ (tx T x).drop (a + n))) 0 (D + 3) (3 * sc_ k + cc_ 3 D) w)) := Lib.hid fun w1 L1 T1 i0 i1 i2 nw hi A c w2 st2 fr2 hr => by
    have ey := nw.ext.tx hg.len y0 y1
    have ly := nw.ext.len
    have ht := hi.tx
    simp only [List.map_cons, List.map_nil, List.cons.injEq, and_true] at ht
    have hid : Ids L1 T1 [i0, y, i2] [(tx T x).take a, tx T y, (tx T x).drop (a + n)] := ⟨by simp [ht.1, ht.2.2, ey], fun z hz => by
      simp at hz
      rcases hz with rfl | rfl | rfl
      · exact hi.ok _ (by simp)
      · exact ⟨y0, by omega⟩
      · exact hi.ok _ (by simp)⟩
    have hd : ∀ z ∈ [i0, y, i2], (ent L1 z).dp ≤ (D : Int) := fun z hz => by
      have h1 := (nw.good.any (hid.ok z hz).1 (hid.ok z hz).2).dk
      have h2 : (tx T1 z).length ≤ D := by
        simp at hz
        rcases hz with rfl | rfl | rfl
        · rw [ht.1]; simp; omega
        · rw [ey]; exact hD2
        · rw [ht.2.2]; simp; omega
      omega
    have := concat_any D L1 T1 nw.good [i0, y, i2] _ hid 3 c A rfl (by omega) hd (by simp; omega) (by have := nw.cnt; omega) B S G w2 st2 hr
    refine this.mono fun e w3 => ?_
    rintro ⟨z, L2, T2, rfl, o⟩
    refine ⟨z, L2, T2, rfl, ⟨o.st, fr2.trans o.fr, o.good, nw.ext.trans o.ext, by have := nw.cnt; have := o.cnt; omega, o.x0, o.x1, by rw [o.tx]; simp, o.lo, by have := o.hi; omega⟩⟩
  have HST := Lib.hid st; have HA := Lib.hid ha; have HG := Lib.hid hg
  have lB := st.lt.2.2
  have k1 : IntKind.i64.wrap ((a : Int) + n) = a + n := IntWalk.i64_in _ ⟨by omega, by omega⟩
  have k2 : (a : Int) + n ≤ 1000000 := by omega
  obtain ⟨ad, rfl, adl, c0, c1, c2⟩ := row_cg (p := [⟨a, n, y⟩]) (i := 0) ha.1 rfl
  simp only at c0 c1 c2
  rw [Nat.zero_mul] at c0 c1 c2 adl
  rw [show ad.add 0 = ad from rfl] at c0 c1 c2 adl
  have HCD := Lib.hid (show w.cell? ad = _ ∧ w.cell? _ = _ ∧ w.cell? _ = _ from ⟨c0, c1, c2⟩)
  clear hi0 hz0 hz1 hz2 x0 x1 hk y0 y1 hD hD2 hz h hm hc st ha hg c0 c1 c2
  go_enter Try.func14, Try.ntmps14
  go_wp2_with fail
  (with_reducible refine (HAp.out _ (Below.refl _ _)).mono ?_)
  rintro e w1 ⟨⟨v, rfl⟩, B1⟩
  have BW1 := Lib.hid B1
  clear B1
  go_wp2_with fail
  go_loopw [10, 12, 33] (fun s10 _ si wr => (si = .int .i64 0 ∧ s10 = .slice none 0 0 ∧ Hid (wr = w1)) ∨ (si = .int .i64 1 ∧ ∃ A1 c1, s10 = .slice A1 2 c1 ∧ Hid (Below w.heap.size w wr) ∧ Hid (wr.ownsRow w.heap.size 3 1 (.slice A1 2 c1) 2 (vi [(a : Int), (a : Int) + n])))) (fun _ _ si _ => 1 - (intOf si).toNat)
  case atStart => exact .inl ⟨rfl, rfl, Lib.hid rfl⟩
  case round =>
    rcases hrel with ⟨rfl, rfl, HE⟩ | ⟨rfl, A1, c1, rfl, BW, OW⟩
    · have e := HE.out
      subst e
      clear HE
      obtain ⟨d0, d1, d2⟩ := HCD.out
      have bc := bcell BW1.out
      have e0 : wr.cell? ad = some (.int .i64 a) := (BW1.out.cell adl).trans d0
      have e1 : wr.cell? ⟨ad.block, ad.off + 1, none⟩ = some (.int .i64 n) := (bc.1 _ _ adl).trans d1
      have e2 : wr.cell? ⟨ad.block, ad.off + 2, none⟩ = some (.int .i64 y) := (bc.1 _ _ adl).trans d2
      clear d0 d1 d2 bc
      have OW2 : Hid (((wr.alloc (.cells #[.int .i64 a, .int .i64 n, .int .i64 y] 71)).alloc (.cells #[.int .i64 a, .int .i64 ((a : Int) + n)] 3)).ownsRow w.heap.size 3 1 (.slice none 0 0) 0 []) := Lib.hid ⟨rfl, .inl ⟨rfl, rfl⟩⟩
      have B2 := Lib.hid (balloc (balloc BW1.out (.cells #[.int .i64 a, .int .i64 n, .int .i64 y] 71)) (.cells #[.int .i64 a, .int .i64 ((a : Int) + n)] 3))
      go_wp2_with (refine wpList_app _ (by rfl) (.tmp 37) (.tmp 45) _ rfl w.heap.size 3 i0_ _ 1 8 Try.underlying102 HI.out HZ.out HZ1.out HZ2.out rfl (by omega) (.slice none 0 0) 0 [] rfl OW2.out (some ⟨wr.heap.size + 1, 0, none⟩) 2 2 (vi [(a : Int), (a : Int) + n]) ?val rfl ?row (vi_one _) (by simp only [maxLen]; omega) (by omega) ?size ?_)
      case val => simp [go_sem]
      case row => exact RowAt.new _ _ _ (by simp) rfl
      case size => exact B2.out.size
      intro A5 c5 w5 own5 gr5 at5
      have B5 := Lib.hid (B2.out.grown gr5 B2.out.size (own_ge OW2.out))
      have OW5 := Lib.hid own5
      clear own5 gr5 at5 e0 e1 e2
      go_wp2_with fail
      go_roundw
      case rel => exact .inr ⟨rfl, A5, c5, rfl, B5, OW5⟩
      case measure => simp [intOf]
    · have HS2 := Lib.hid (HST.out.below BW.out)
      have HC2 := Lib.hid (HCut.out _ BW.out A1 c1 (RowK.of_own OW.out HS2.out lB (by decide)))
      go_wp2_with fail
      (with_reducible refine HC2.out.mono ?_)
      rintro e w3 ⟨A3, c3, ids, L1, T1, rfl, nw, hid, own3⟩
      have e3 := hid.len
      obtain ⟨i0, i1, i2, rfl⟩ : ∃ i0 i1 i2, ids = [i0, i1, i2] := by
        match ids, e3 with
        | [i0, i1, i2], _ => exact ⟨i0, i1, i2, rfl⟩
      have own3 : w3.ownsRow wr.heap.size 56 1 (.slice A3 3 c3) 3 (vi [i0, i1, i2]) := own3
      obtain ⟨g3, rfl, gc, gl, gb⟩ := own_addr own3 (by omega)
      have FR3 := Lib.hid ((SFr.of_below BW.out B S G).trans nw.fr)
      have NW3 := Lib.hid (show Now B S G L T (3 * sc_ k) w w3 L1 T1 from ⟨nw.st, FR3.out, nw.good, nw.ext, nw.cnt⟩)
      have ID3 := Lib.hid hid
      have OW3 := Lib.hid own3
      have bws := BW.out.size
      clear nw hid own3 e3 OW BW HS2 HC2 HCut HAp
      go_wp2_with fail
      go_loopw [15, 16, 60] (fun _ _ si wr => (si = .int .i64 0 ∧ Hid (wr = w3)) ∨ (si = .int .i64 1 ∧ Hid (St wr B S G L1) ∧ Hid (SFr w wr B S G) ∧ Hid (wr.ownsRow w.heap.size 56 1 (.slice (some ⟨g3, 0, none⟩) 3 c3) 3 (vi [i0, y, i2])))) (fun _ _ si _ => 1 - (intOf si).toNat)
      case atStart => exact .inl ⟨rfl, Lib.hid rfl⟩
      case round =>
        rcases hrel with ⟨rfl, HE⟩ | ⟨rfl, HS4, FR4, OW4⟩
        · have e := HE.out
          subst e
          clear HE
          obtain ⟨ad2, hA2, adl2, d0, d1, d2⟩ := row_cg (p := [⟨a, n, y⟩]) (i := 0) (HA.out.sfr FR3.out).1 rfl
          injection hA2 with hA2
          subst hA2
          simp only at d0 d1 d2
          rw [Nat.zero_mul] at d0 d1 d2 adl2
          rw [show ad.add 0 = ad from rfl] at d0 d1 d2 adl2
          have q1 := own_cellN (own_alloc OW3.out (.cells #[.int .i64 a, .int .i64 n, .int .i64 y] 71)) (k := 1) (u := .int .i64 i1) rfl
          have q2 := own_frozen (own_alloc OW3.out (.cells #[.int .i64 a, .int .i64 n, .int .i64 y] 71)) 1
          have OW4 := Lib.hid (own_low (own_alloc (own_set OW3.out 1 (.int .i64 y)) (.cells #[.int .i64 a, .int .i64 n, .int .i64 y] 71)) bws)
          have HS4 := Lib.hid ((NW3.out.st.setOwn (own_low OW3.out bws) lB (by decide) 1 (.int .i64 y)).below (balloc (Below.refl _ _) (.cells #[.int .i64 a, .int .i64 n, .int .i64 y] 71)))
          have FR4 := Lib.hid ((FR3.out.setCell (p := ⟨g3, 1, none⟩) (by show w.heap.size ≤ g3; omega) (.int .i64 y)).alloc (.cells #[.int .i64 a, .int .i64 n, .int .i64 y] 71))
          go_wp2_with fail
          go_roundw
          case rel => exact .inr ⟨rfl, HS4, FR4, OW4⟩
          case measure => simp [intOf]
        · have HC4 := Lib.hid (HCon.out w3 L1 T1 i0 i1 i2 NW3.out ID3.out (some ⟨g3, 0, none⟩) c3 _ HS4.out FR4.out (RowK.of_own OW4.out HS4.out lB (by decide)))
          go_wp2_with fail
          (with_reducible refine HC4.out.mono ?_)
          rintro e w5 ⟨z, L5, T5, rfl, o⟩
          have HO := Lib.hid o
          clear o
          go_wp2_with fail
          go_ret2
          exact ⟨z, L5, T5, rfl, HO.out⟩
end Go.Proofs.Ytolhjkpekmmajaa
/- Slices that the call itself made, inside regions: a value that leads to a row of cells in a block of element type e; '[]byte(s)'. -/
namespace Go.Proofs.Ytolhjkpekmmajaa
set_option linter.unusedVariables false
set_option linter.unusedSimpArgs false
open Go.RowKit

def Sl (e : TypeId) (xs : List Value) (n : Nat) (v : Value) (w : World) : Prop :=
  ∃ A c, v = .slice A n c ∧ ∀ k u, xs[k]? = some u → ∃ ad, A = some ad ∧ w.cell? (ad.add k) = some u ∧ ∃ cs fr, w.heap[ad.block]? = some (.cells cs e fr)
theorem cell_same {w w' : World} {p : Addr} (h : w'.heap[p.block]? = w.heap[p.block]?) : w'.cell? p = w.cell? p := World.cell?_of_block (w := w) h
theorem heap_lt {w : World} {k : Nat} {o : Obj} (h : w.heap[k]? = some o) : k < w.heap.size := (Array.getElem?_eq_some_iff.1 h).1
theorem Sl.stab {h0 : Nat} {tys : List TypeId} {e : TypeId} {xs : List Value} {n : Nat} (h : e ∉ tys) : Stab h0 tys (Sl e xs n) := by
  rintro v w w' hg ⟨A, c, rfl, hc⟩
  refine ⟨A, c, rfl, fun k u hk => ?_⟩
  obtain ⟨ad, e1, h1, cs, fr, h2⟩ := hc k u hk
  have hs := hg.block ad.block (heap_lt h2) (.inr fun cs' ty fr' h3 => by rw [h2] at h3; cases h3; exact h)
  exact ⟨ad, e1, (cell_same (by rw [block_add]; exact hs)).trans h1, cs, fr, hs.trans h2⟩
theorem Sl.row {e : TypeId} {xs : List Value} {n : Nat} {v : Value} {w : World} (h : Sl e xs n v w) : ∃ A c, v = .slice A n c ∧ RowAt w A xs := by
  obtain ⟨A, c, rfl, hc⟩ := h
  exact ⟨A, c, rfl, fun k u hk => by obtain ⟨ad, e1, h1, _⟩ := hc k u hk; exact ⟨ad, e1, h1⟩⟩
/-- the bytes of a string, as numbers -/
def bi (s : ByteArray) : List Int := s.data.toList.map fun b => (b.toNat : Int)
theorem bi_len (s : ByteArray) : (bi s).length = s.size := by simp [bi]
theorem bi_u8 (s : ByteArray) : ∀ x ∈ bi s, 0 ≤ x ∧ x ≤ 255 := by
  intro x hx
  unfold bi at hx
  obtain ⟨b, _, rfl⟩ := List.mem_map.1 hx
  have := b.toNat_lt
  omega
theorem below_bytes (w : World) (e : TypeId) (s : ByteArray) : Below w.heap.size w (Lib.bytesWorld w e s) :=
  ⟨by simp [Lib.bytesWorld, World.freeze, World.alloc, World.drew, -World.alloc_eq, -World.drew_eq], by simp [Lib.bytesWorld, World.freeze, World.alloc, World.drew, -World.alloc_eq, -World.drew_eq],
   by simp [Lib.bytesWorld, World.freeze, World.alloc, World.drew, -World.alloc_eq, -World.drew_eq], by rw [Lib.bytesWorld_size]; omega, fun k hk => Lib.bytesWorld_at_old w e s k hk⟩
theorem Sl.conv (w : World) (e : TypeId) (s : ByteArray) (c : Nat) : Sl e ((bi s).map (.int .u8)) s.size (.slice (some ⟨w.heap.size, 0, none⟩) s.size c) (Lib.bytesWorld w e s) := by
  refine ⟨_, _, rfl, fun k u hk => ⟨_, rfl, ?_, _, _, Lib.bytesWorld_at_new w e s⟩⟩
  have hk' : k < s.size := by
    have := (List.getElem?_eq_some_iff.1 hk).1
    simpa [bi] using this
  have e1 : (⟨w.heap.size, 0, none⟩ : Addr).add k = ⟨w.heap.size, k, none⟩ := by unfold Addr.add; split <;> simp_all
  rw [e1, Lib.bytesWorld_cell w e s k hk']
  simp [bi, List.getElem?_map] at hk
  have h2 : s.data.toList[k]? = some (s.data.toList.getD k 0) := by
    rw [List.getD_eq_getElem?_getD, List.getElem?_eq_getElem (by simpa using hk')]
    rfl
  obtain ⟨b, hb, rfl⟩ := hk
  have h3 : s.data.toList[k]? = some b := by simpa using hb
  rw [h3] at h2
  injection h2 with h2
  rw [← h2]
end Go.Proofs.Ytolhjkpekmmajaa
/- The walks of the statements' at, open, and of the desk's id and text. -/
namespace Go.Proofs.Ytolhjkpekmmajaa
set_option linter.unusedVariables false
set_option linter.unusedSimpArgs false
open Go.RowKit Go.Lib Go.Maps
attribute [local go_sem ↓] Go.wp_at_zero Go.wp_at_succ
theorem tmod_small (k n : Int) (hn : 0 < n) : (Int.tmod k n + n) % n = k % n ∧ -n < Int.tmod k n ∧ Int.tmod k n < n := by
  have h1 := Int.tmod_lt_of_pos k hn
  have h2 : -n < Int.tmod k n := by
    have := Int.tmod_lt_of_pos (-k) hn
    rw [Int.neg_tmod] at this; omega
  refine ⟨?_, h2, h1⟩
  rw [Int.add_emod_right]
  have h3 : Int.tmod k n = k % n ∨ Int.tmod k n = k % n - n := by
    rw [Int.tmod_eq_emod]
    split
    · exact .inl (by omega)
    · exact .inr (by omega)
  have h4 := Int.emod_nonneg k (show n ≠ 0 by omega)
  have h5 := Int.emod_lt_of_pos k hn
  rcases h3 with h | h
  · rw [h, Int.emod_emod_of_dvd _ (Int.dvd_refl n)]
  · rw [h, Int.sub_emod_right, Int.emod_emod_of_dvd _ (Int.dvd_refl n)]
set_option maxRecDepth 100000 in
theorem tat_any (k n : Int) (k0 : -9223372036854775808 ≤ k) (k1 : k ≤ 9223372036854775807) (n0 : 0 < n) (n1 : n ≤ 100) (w : World) : Calls Try.prog 19 #[.int .i64 k, .int .i64 n] w fun r w' => r = .returned (.int .i64 (k % n)) ∧ w = w' := by
  obtain ⟨e1, e2, e3⟩ := tmod_small k n n0
  have nz : (n == 0) = false := by rw [beq_eq_false_iff_ne]; omega
  obtain ⟨u, hu⟩ : ∃ u, u = Int.tmod k n := ⟨_, rfl⟩
  rw [← hu] at e1 e2 e3
  have hu2 := hu.symm
  have HE := Lib.hid e1
  clear e1 hu k0 k1
  go_enter Try.func19, Try.ntmps19
  go_wp2_with fail
  go_ret
  exact ⟨by rw [← HE.out]; rfl, rfl⟩
theorem run_conv_row (l : List Int) (n c : Nat) (A : Option Addr) (hl : l.length = n) (w : World) (ha : RowAt w A (l.map (.int .u8))) :
    (convert 100 9 (.slice A n c)).run Try.prog w = .ok (.string (strOfNums l)) w := by
  rcases A with _ | ad
  · have : l = [] := by
      cases l with
      | nil => rfl
      | cons x xs =>
        obtain ⟨ad, e, _⟩ := ha 0 (.int .u8 x) rfl
        cases e
    subst this
    exact run_convert_bytes_nil w _ _ Try.underlying100 Try.underlying5 n c _ Try.underlying9
  · have hl2 := run_loadCells_list (P := Try.prog) w ad (l.map (Value.int .u8)) (fun j v hj => by
      obtain ⟨a2, e, hc⟩ := ha j v hj
      injection e with e
      subst e
      exact hc)
    rw [List.length_map, hl] at hl2
    rw [run_convert_bytes_string w _ _ _ _ n c Try.underlying100 Try.underlying5 Try.underlying9, run_bytesToString w _ n c l hl2, foldl_push_bytes]
    simp [strOfNums, ByteArray.empty, ByteArray.emptyWithCapacity]
    rfl
set_option maxRecDepth 100000 in
theorem knew_any (S : Nat) (w : World) : Calls Try.prog 37 #[.pointer (some ⟨S, 0, none⟩)] w fun r w' => (∃ a, r = .returned (.pointer a)) ∧ Below w.heap.size w w' := by
  go_enter Try.func37, Try.ntmps37
  go_wp2_with fail
  go_ret
  exact ⟨⟨_, rfl⟩, balloc (Below.refl _ _) _⟩
set_option maxRecDepth 100000 in
theorem sgnew_any (S : Nat) (w : World) : Calls Try.prog 18 #[.pointer (some ⟨S, 0, none⟩)] w fun r w' => (∃ a, r = .returned (.pointer (some a))) ∧ Below w.heap.size w w' := by
  go_enter Try.func18, Try.ntmps18
  go_wp2_with fail
  (with_reducible refine (knew_any _ _).mono ?_)
  rintro e w1 ⟨⟨a, rfl⟩, B1⟩
  go_wp2_with fail
  go_ret
  exact ⟨⟨_, rfl⟩, balloc B1 _⟩
set_option maxRecDepth 100000 in
theorem cnew_any (a : Addr) (w : World) : Calls Try.prog 17 #[.pointer (some a)] w fun r w' => (∃ a, r = .returned (.pointer (some a))) ∧ Below w.heap.size w w' := by
  have hmm := @run_makeMap Try.prog
  go_enter Try.func17, Try.ntmps17
  go_wp2_with fail
  clear hmm
  go_ret
  exact ⟨⟨_, rfl⟩, balloc (balloc (Below.refl _ _) _) _⟩
theorem St.set_low {w : World} {B S G : Nat} {L : List En} (st : St w B S G L) {p : Addr} (h1 : p.block < B) (h2 : p.block < S) (h3 : p.block < G) (u : Value) : St (w.setCell p u) B S G L := by
  obtain ⟨⟨A, c, bo, ow⟩, fm, lt, ne⟩ := st
  exact ⟨⟨A, c, bo.far (by omega) u, own_setCell ow h1 u⟩, fm.set (by omega) u, ⟨lt.1, lt.2.1, by simp [World.setCell]; exact lt.2.2⟩, ne⟩
/-- a desk: its store, and its memo, which nothing here looks into -/
abbrev deskV (S : Nat) (M : Addr) : Value := .agg #[.pointer (some ⟨S, 0, none⟩), .pointer (some M)]
def OpenOut (w : World) (e : Ending) (w' : World) : Prop := ∃ S G B M, e = .returned (.tuple #[deskV S M, .bool true]) ∧ St w' B S G [] ∧ Below w.heap.size w w' ∧ w.heap.size ≤ S ∧ w.heap.size ≤ G
set_option maxRecDepth 100000 in
set_option maxHeartbeats 4000000 in
theorem topen_any (w : World) : Calls Try.prog 6 #[] w (OpenOut w) := by
  have BA := Lib.hid (balloc (Below.refl w.heap.size w) (.cells #[.pointer none, .pointer none] 27))
  have XA := Lib.hid (Box.new w 27 #[.pointer none, .pointer none])
  go_enter Try.func6, Try.ntmps6
  go_wp2_with fail
  (with_reducible refine (new_store _).mono ?_)
  rintro e w1 ⟨S, G, B, rfl, st, B1, hS, hG, hB⟩
  have BW1 := Lib.hid (bkeep BA.out B1)
  have HS1 := Lib.hid st
  have X1 := Lib.hid (XA.out.below B1 XA.out.lt)
  have LG := Lib.hid (show w.heap.size < B ∧ w.heap.size < S ∧ w.heap.size < G by simp at hS hG; have := st.lt; omega)
  clear B1 st hS hG hB
  go_wp2_with fail
  (with_reducible refine (sgnew_any _ _).mono ?_)
  rintro e w2 ⟨⟨a2, rfl⟩, B2⟩
  have BW2 := Lib.hid (bkeep BW1.out B2); have HS2 := Lib.hid (HS1.out.below B2); have X2 := Lib.hid (X1.out.below B2 X1.out.lt)
  clear B2
  go_wp2_with fail
  (with_reducible refine (cnew_any _ _).mono ?_)
  rintro e w3 ⟨⟨M, rfl⟩, B3⟩
  have BW3 := Lib.hid (bkeep BW2.out B3); have HS3 := Lib.hid (HS2.out.below B3)
  have X3 := X2.out.below B3 X2.out.lt
  have y0 := X3.cell 0; have y1 := X3.cell 1
  simp only [List.getElem?_toArray, List.getElem?_cons_zero, List.getElem?_cons_succ] at y0 y1
  have fy0 := X3.free 0; have fy1 := X3.free 1
  have yl := X3.lt
  have HB3 : Hid (B ≤ w3.heap.size) := Lib.hid HS3.out.lt.2.2
  have BW4 := Lib.hid ((BW3.out.setCell (p := ⟨w.heap.size, 0, none⟩) (Nat.le_refl _) (.pointer (some ⟨S, 0, none⟩))).setCell (p := ⟨w.heap.size, 1, none⟩) (Nat.le_refl _) (.pointer (some M)))
  have X4 := Lib.hid ((X3.set_ 0 (.pointer (some ⟨S, 0, none⟩))).set_ 1 (.pointer (some M)))
  clear B3
  have HS4 := Lib.hid ((HS3.out.set_low (p := ⟨w.heap.size, 0, none⟩) LG.out.1 LG.out.2.1 LG.out.2.2 (.pointer (some ⟨S, 0, none⟩))).set_low (p := ⟨w.heap.size, 1, none⟩) LG.out.1 LG.out.2.1 LG.out.2.2 (.pointer (some M)))
  clear X3
  go_wp2_with fail
  refine bodyPost_ret (v := .tuple #[deskV S M, .bool true]) ?_ rfl ⟨S, G, B, M, rfl, HS4.out, BW4.out, by have := LG.out; omega, by have := LG.out; omega⟩
  have z0 := X4.out.cell 0; have z1 := X4.out.cell 1
  simp only [results, Try.results6]
  simp [go_sem, y0, y1, yl]
def TidOut (B S G : Nat) (L : List En) (T : List (List Int)) (t : List Int) (w : World) (e : Ending) (w' : World) : Prop :=
  ∃ x L' T', e = .returned (.tuple #[.int .i64 x, .bool true]) ∧ IdO B S G L T t (dpt t.length) (dpt t.length) (2 * t.length) w w' x L' T'
set_option maxRecDepth 100000 in
set_option maxHeartbeats 4000000 in
theorem tid_any (L : List En) (T : List (List Int)) (hg : Good L T) (s : ByteArray) (hn : s.size ≤ 65536) (hc : L.length + 2 * s.size ≤ 1048576) (B S G : Nat) (M : Addr) (w : World) (st : St w B S G L) :
    Calls Try.prog 13 #[deskV S M, .string s] w (TidOut B S G L T (bi s) w) := by
  have kc := fun (w : World) (s : ByteArray) => Lib.run_convert_string_bytes (P := Try.prog) w 9 100 5 s Try.underlying9 Try.underlying100 Try.underlying5
  have lB := st.lt
  obtain ⟨w1, hw1⟩ : ∃ w1, w1 = w.alloc (.cells #[.pointer (some ⟨S, 0, none⟩), .pointer (some M)] 27) := ⟨_, rfl⟩
  have hb1 : Below w.heap.size w (Lib.bytesWorld w1 5 s) := by rw [hw1]; exact bkeep (balloc (Below.refl _ _) _) (below_bytes _ _ _)
  have HT : Hid (∀ c, s.size ≤ c → Calls Try.prog 30 #[.pointer (some ⟨S, 0, none⟩), .slice (some ⟨w1.heap.size, 0, none⟩) s.size c] (Lib.bytesWorld w1 5 s) (IdOut B S G L T (bi s) (dpt s.size) (dpt s.size) (2 * s.size) w)) := Lib.hid fun c hcap =>
    idout_pre (bText_any L T hg (bi s) s.size c _ (bi_len s) hn hcap (bi_u8 s) hc B S G _ (st.below hb1) ⟨by
        obtain ⟨A, c2, he, hr⟩ := Sl.row (Sl.conv w1 5 s c)
        injection he with h1
        rw [h1]; exact hr, fun _ ad e => by
        injection e with e; subst e
        refine ⟨?_, ?_, fun cs fr e2 => ?_⟩
        · show w1.heap.size ≠ S; rw [hw1]; simp; omega
        · show w1.heap.size ≠ G; rw [hw1]; simp; omega
        · have e2 : (Lib.bytesWorld w1 5 s).heap[w1.heap.size]? = _ := e2
          rw [Lib.bytesWorld_at_new] at e2
          injection e2 with e2; injection e2 with _ e2
          exact absurd e2 (by decide)⟩) hb1
  have HW1 := Lib.hid hw1
  obtain ⟨n, hn'⟩ : ∃ n, n = s.size := ⟨_, rfl⟩
  have HL : Hid ((bi s).length = n) := Lib.hid ((bi_len s).trans hn'.symm)
  have hc1 : w1.cell? ⟨w.heap.size, 0, none⟩ = some (.pointer (some ⟨S, 0, none⟩)) := by rw [hw1]; exact (Box.new w _ _).cell 0
  rw [← hn'] at HT
  have kc2 : ∃ c, n ≤ c ∧ (convert 9 100 (.string s)).run Try.prog w1 = .ok (.slice (some ⟨w1.heap.size, 0, none⟩) n c) (Lib.bytesWorld w1 5 s) := ⟨_, by rw [hn']; exact grownCap_ge w1 s.size 0 5, by rw [hn']; exact kc w1 s⟩
  obtain ⟨c, hcc, kc3⟩ := kc2
  have HT2 := Lib.hid (HT.out c hcc)
  have HX : Hid (∀ x L' T' w', IdO B S G L T (bi s) (dpt n) (dpt n) (2 * n) w w' x L' T' → decide (0 < x) = decide (0 < n)) := Lib.hid fun x L' T' w' o => by
    by_cases h0 : n = 0
    · have hx : x = 0 := by
        by_cases e : x = 0
        · exact e
        · have h1 := o.good.one (x := x) (by have := o.x0; omega) o.x1
          rw [o.tx, HL.out] at h1; omega
      subst hx; rw [h0]; rfl
    · have := o.x_pos (fun e => by have h9 := HL.out; rw [e] at h9; simp at h9; omega)
      rw [decide_eq_true (show 0 < x by omega), decide_eq_true (show 0 < n by omega)]
  have ns : s.size = n := hn'.symm
  obtain ⟨w2, hw2⟩ : ∃ w2, w2 = Lib.bytesWorld w1 5 s := ⟨_, rfl⟩
  rw [← hw2] at kc3 HT2
  have e3 : w1.heap.size = w.heap.size + 1 := by rw [hw1]; simp
  rw [e3] at kc3 HT2
  rw [hw1] at kc3 hc1
  clear kc hn hc lB st hg hb1 HT hcc hn' hw1 hw2 HW1 e3
  go_enter Try.func13, Try.ntmps13
  go_wp2_with fail
  clear kc3
  (with_reducible refine HT2.out.mono ?_)
  rintro e w3 ⟨x, L1, T1, rfl, o⟩
  have HO := Lib.hid o
  have hx := HX.out x L1 T1 w3 o
  clear o
  cases hq : decide (0 < n) with
  | true =>
    rw [hq] at hx
    have t2 : decide ((0 : Int) < (n : Int)) = true := by simpa using hq
    go_wp2_with fail
    go_ret2
    exact ⟨x, L1, T1, rfl, by rw [HL.out]; exact HO.out⟩
  | false =>
    rw [hq] at hx
    have t2 : decide ((0 : Int) < (n : Int)) = false := by simpa using hq
    go_wp2_with fail
    go_ret2
    exact ⟨x, L1, T1, rfl, by rw [HL.out]; exact HO.out⟩
end Go.Proofs.Ytolhjkpekmmajaa
/- The walk of the desk's text. -/
namespace Go.Proofs.Ytolhjkpekmmajaa
set_option linter.unusedVariables false
set_option linter.unusedSimpArgs false
open Go.RowKit Go.Lib Go.Maps
attribute [local go_sem ↓] Go.wp_at_zero Go.wp_at_succ
set_option maxRecDepth 100000 in
set_option maxHeartbeats 4000000 in
theorem ttext_any (L : List En) (T : List (List Int)) (hg : Good L T) (x : Int) (x0 : 1 ≤ x) (x1 : x ≤ L.length) (t : List Int) (ht : tx T x = t) (hn : t.length ≤ 20000) (B S G : Nat) (M : Addr) (w : World) (st : St w B S G L) :
    Calls Try.prog 15 #[deskV S M, .int .i64 x] w fun r w' => r = .returned (.tuple #[.string (strOfNums t), .bool true]) ∧ Below w.heap.size w w' := by
  have HEx := Lib.hid (fun w st => extract_any L T hg x x0 x1 B S G t ht (by omega) w st)
  have HW := Lib.hid (fun w st => weight_any L x (by omega) x1 hg.cap B S G w st)
  have en : (ent L x).w.n = (tx T x).length := by rw [(hg.any (by omega) x1).w]; rfl
  rw [ht] at en
  obtain ⟨u, hu⟩ : ∃ u, u = (ent L x).w := ⟨_, rfl⟩
  rw [← hu] at HW en
  obtain ⟨u0, u1, u2, u3, u4, u5⟩ := u
  simp only at en
  obtain ⟨m, hm⟩ : ∃ m, m = t.length := ⟨_, rfl⟩
  rw [← hm] at en hn HEx
  subst en
  have HM := Lib.hid hm
  have HW' : Hid (∀ w, St w B S G L → Calls Try.prog 34 #[.pointer (some ⟨S, 0, none⟩), .int .i64 x] w fun r w' => r = .returned (.tuple #[.agg #[.int .i64 (m : Int), .int .i64 u1, .int .i64 u2, .int .i64 u3, .int .u64 u4, .int .u64 u5], .nilIface]) ∧ Below w.heap.size w w') := HW
  have BA := Lib.hid (balloc (Below.refl w.heap.size w) (.cells #[.pointer (some ⟨S, 0, none⟩), .pointer (some M)] 27))
  have XA := Lib.hid (Box.new w 27 #[.pointer (some ⟨S, 0, none⟩), .pointer (some M)])
  have HST := Lib.hid st
  have HSA := Lib.hid (st.below BA.out)
  have t1 : decide ((20000 : Int) < (m : Int)) = false := by simp; omega
  have t1b : decide (20000 < m) = false := by simp; omega
  clear HW hu hm hg x0 x1 ht st
  go_enter Try.func15, Try.ntmps15
  go_wp2_with fail
  (with_reducible refine (HW'.out _ HSA.out).mono ?_)
  rintro e w1 ⟨rfl, B1⟩
  have BW2 := Lib.hid (balloc (bkeep BA.out B1) (.cells #[.int .i64 (m : Int), .int .i64 u1, .int .i64 u2, .int .i64 u3, .int .u64 u4, .int .u64 u5] 110))
  have X2 := (XA.out.below B1 XA.out.lt).alloc (.cells #[.int .i64 (m : Int), .int .i64 u1, .int .i64 u2, .int .i64 u3, .int .u64 u4, .int .u64 u5] 110)
  have X1 := (XA.out.below B1 XA.out.lt)
  have x0 := X2.cell 0; have x1 := X2.cell 1
  simp only [List.getElem?_toArray, List.getElem?_cons_zero, List.getElem?_cons_succ] at x0 x1
  have y0 := X1.cell 0; have y1 := X1.cell 1
  simp only [List.getElem?_toArray, List.getElem?_cons_zero, List.getElem?_cons_succ] at y0 y1
  have xl := X1.lt
  have HS2 := Lib.hid (HST.out.below BW2.out)
  clear B1 X2 X1
  go_wp2_with fail
  (with_reducible refine (HEx.out _ HS2.out).mono ?_)
  rintro e w5 ⟨A5, c5, rfl, R5, hc5, B5⟩
  have hm := HM.out
  have v1 := run_conv_row t t.length c5 A5 rfl w5 R5
  have v2 : ∀ k, (convert 100 9 (.slice A5 t.length c5)).run Try.prog (w5.drewN k) = .ok (.string (strOfNums t)) (w5.drewN k) := fun k => run_conv_row t t.length c5 A5 rfl _ (R5.drewN k)
  have v3 : (convert 100 9 (.slice A5 t.length c5)).run Try.prog w5.drew = .ok (.string (strOfNums t)) w5.drew := run_conv_row t t.length c5 A5 rfl _ R5.drew
  have BW5 := Lib.hid (bkeep BW2.out B5)
  obtain ⟨z, hz⟩ : ∃ z, z = strOfNums t := ⟨_, rfl⟩
  rw [← hz] at v1 v2 v3
  have HZ := Lib.hid hz
  clear hm R5 B5 HM hz
  go_wp2_with fail
  go_quiet (fail)
  go_wp2_with fail
  go_ret2
  exact ⟨by rw [← HZ.out]; rfl, below_drewN BW5.out _⟩
end Go.Proofs.Ytolhjkpekmmajaa
/- The desk's patch, plainly. -/
namespace Go.Proofs.Ytolhjkpekmmajaa
set_option linter.unusedVariables false
set_option linter.unusedSimpArgs false
open Go.RowKit Go.Lib
/-- a change of a statement -/
structure Ch where
  sk : Int
  n : Int
  t : ByteArray
def Ch.cells (c : Ch) : List Value := [.int .i64 c.sk, .int .i64 c.n, .string c.t]
def chc (l : List Ch) : List Value := l.flatMap Ch.cells
theorem chc_len (p : List Ch) : (chc p).length = p.length * 3 := by
  induction p with
  | nil => rfl
  | cons c p ih => simp [chc, Ch.cells] at ih ⊢; omega
theorem chc_get {p : List Ch} {i j : Nat} {c : Ch} {u : Value} (h : p[i]? = some c) (hu : c.cells[j]? = some u) : (chc p)[i * 3 + j]? = some u := by
  induction p generalizing i with
  | nil => simp at h
  | cons a p ih =>
    have hj : j < 3 := (List.getElem?_eq_some_iff.1 hu).1
    show (a.cells ++ chc p)[i * 3 + j]? = some u
    match i with
    | 0 =>
      simp at h; subst h
      rw [List.getElem?_append_left (by simp [Ch.cells]; omega), Nat.zero_mul, Nat.zero_add]; exact hu
    | i + 1 =>
      simp at h
      rw [List.getElem?_append_right (by simp [Ch.cells]; omega), show a.cells.length = 3 from rfl, show (i + 1) * 3 + j - 3 = i * 3 + j by omega]
      exact ih h
theorem row_ch {w : World} {A : Option Addr} {p : List Ch} {i : Nat} {c : Ch} (h : RowAt w A (chc p)) (hc : p[i]? = some c) :
    ∃ ad, A = some ad ∧ (ad.add (i * 3)).block < w.heap.size ∧ w.cell? (ad.add (i * 3)) = some (.int .i64 c.sk) ∧ w.cell? ⟨(ad.add (i * 3)).block, (ad.add (i * 3)).off + 1, none⟩ = some (.int .i64 c.n) ∧ w.cell? ⟨(ad.add (i * 3)).block, (ad.add (i * 3)).off + 2, none⟩ = some (.string c.t) := by
  obtain ⟨ad, e, hl, c0⟩ := h.get (chc_get (j := 0) hc rfl)
  have key : ∀ j u, c.cells[j + 1]? = some u → w.cell? ⟨(ad.add (i * 3)).block, (ad.add (i * 3)).off + (j + 1), none⟩ = some u := by
    intro j u hu
    obtain ⟨a2, e2, _, k⟩ := h.get (chc_get (j := j + 1) hc hu)
    rw [e] at e2; cases e2
    rw [← add_add_, add_succ_] at k
    exact k
  exact ⟨ad, e, by rw [block_add]; exact hl, c0, key 0 _ rfl, key 1 _ rfl⟩
/-- where the making of a patch stands: the changes so far, the text so far, how far the old text is read -/
structure Mk where
  out : List (Nat × Nat × List Int)
  made : ByteArray
  fr : Nat
/-- how many letters are kept ahead of change i -/
def skp (i : Nat) (c : Ch) : Nat := (c.sk % 9).toNat + (if i = 0 then 0 else 1)
/-- how many letters it takes out -/
def tkn (s : ByteArray) (off : Nat) (c : Ch) : Nat := min (c.n % 7).toNat (s.size - off)
/-- one round; nothing: no further one -/
def mkStep (s : ByteArray) (i : Nat) (c : Ch) (m : Mk) : Option Mk :=
  if m.fr + skp i c > s.size ∨ c.t.size > 20 then none
  else if tkn s (m.fr + skp i c) c = 0 ∧ c.t.size = 0 then some m
  else some ⟨m.out ++ [(m.fr + skp i c, tkn s (m.fr + skp i c) c, bi c.t)], m.made ++ (s.extract m.fr (m.fr + skp i c) ++ c.t), m.fr + skp i c + tkn s (m.fr + skp i c) c⟩
def mkRun (s : ByteArray) : Nat → List Ch → Mk → Mk
  | _, [], m => m
  | i, c :: l, m => if i < 12 then (match mkStep s i c m with | none => m | some m' => mkRun s (i + 1) l m') else m
def mk0 : Mk := ⟨[], ⟨#[]⟩, 0⟩
theorem mkRun_drop (s : ByteArray) (i : Nat) (l : List Ch) (m : Mk) {c : Ch} (h : l[i]? = some c) (hi : i < 12) : mkRun s i (l.drop i) m = (match mkStep s i c m with | none => m | some m' => mkRun s (i + 1) (l.drop (i + 1)) m') := by
  have hl := (List.getElem?_eq_some_iff.1 h)
  obtain ⟨hl, e⟩ := hl
  rw [List.drop_eq_getElem_cons hl, e]
  show (if i < 12 then _ else _) = _
  rw [if_pos hi]
theorem mkRun_stop (s : ByteArray) (i : Nat) (l : List Ch) (m : Mk) (h : l.length ≤ i ∨ 12 ≤ i) : mkRun s i (l.drop i) m = m := by
  rcases h with h | h
  · rw [List.drop_eq_nil_of_le h]; rfl
  · cases e : l.drop i with
    | nil => rfl
    | cons c r => show (if i < 12 then _ else _) = _; rw [if_neg (by omega)]
/-- the changes with their texts -/
def qs (T : List (List Int)) (p : List Cg) : List (Nat × Nat × List Int) := p.map fun c => (c.ad.toNat, c.n.toNat, tx T c.x)
/-- what changes make of a text, from an offset on, up to their end -/
def sp0 (t : List Int) : Nat → List (Nat × Nat × List Int) → List Int
  | _, [] => []
  | f, (a, n, u) :: q => (t.drop f).take (a - f) ++ (u ++ sp0 t (a + n) q)
/-- the end of the last one -/
def endQ : Nat → List (Nat × Nat × List Int) → Nat
  | f, [] => f
  | _, (a, n, _) :: q => endQ (a + n) q
def splice (t : List Int) (q : List (Nat × Nat × List Int)) : List Int := sp0 t 0 q ++ t.drop (endQ 0 q)
theorem sp0_snoc (t : List Int) (a n : Nat) (u : List Int) : ∀ (q : List (Nat × Nat × List Int)) (f : Nat), sp0 t f (q ++ [(a, n, u)]) = sp0 t f q ++ ((t.drop (endQ f q)).take (a - endQ f q) ++ u)
  | [], f => by simp [sp0, endQ]
  | (b, m, v) :: q, f => by
    have h := sp0_snoc t a n u q (b + m)
    show _ ++ (_ ++ sp0 t (b + m) (q ++ [(a, n, u)])) = (_ ++ (_ ++ sp0 t (b + m) q)) ++ _
    rw [h]; simp [endQ]
theorem endQ_snoc (a n : Nat) (u : List Int) : ∀ (q : List (Nat × Nat × List Int)) (f : Nat), endQ f (q ++ [(a, n, u)]) = a + n
  | [], _ => rfl
  | (_, _, _) :: q, _ => endQ_snoc a n u q _
theorem endQ_take {q : List (Nat × Nat × List Int)} {i : Nat} {c : Nat × Nat × List Int} (h : q[i]? = some c) (f : Nat) : endQ f (q.take (i + 1)) = c.1 + c.2.1 := by
  rw [List.take_add_one, h]; exact endQ_snoc _ _ _ _ _
/-- the changes lie in the text, one behind the other, not touching -/
def QOk (N : Nat) (q : List (Nat × Nat × List Int)) : Prop := ∀ (i : Nat) (c : Nat × Nat × List Int), q[i]? = some c → (i ≠ 0 → endQ 0 (q.take i) < c.1) ∧ c.1 + c.2.1 ≤ N ∧ (c.2.1 ≠ 0 ∨ c.2.2 ≠ []) ∧ c.2.2.length ≤ 20
/-- what a making keeps -/
structure MOk (s : ByteArray) (i : Nat) (m : Mk) : Prop where
  ok : QOk s.size m.out
  lf : m.fr = endQ 0 m.out
  fs : m.fr ≤ s.size
  ln : m.out.length ≤ i
  tx : bi m.made = sp0 (bi s) 0 m.out
  mz : m.made.size ≤ m.fr + 20 * i
theorem bi_app (a b : ByteArray) : bi (a ++ b) = bi a ++ bi b := by simp [bi, ByteArray.data_append]
theorem bi_extract (s : ByteArray) (a b : Nat) : bi (s.extract a b) = ((bi s).drop a).take (b - a) := by
  simp [bi, ByteArray.data_extract, List.extract_eq_take_drop, List.map_take, List.map_drop]
theorem mok_start (s : ByteArray) : MOk s 0 mk0 := ⟨fun i c h => by simp [mk0] at h, rfl, Nat.zero_le _, Nat.le_refl _, rfl, Nat.le_refl _⟩
theorem mok_step {s : ByteArray} {i : Nat} {m m' : Mk} (h : MOk s i m) {c : Ch} (hm : mkStep s i c m = some m') : MOk s (i + 1) m' := by
  unfold mkStep at hm
  split at hm
  · cases hm
  · rename_i h1
    split at hm
    · cases hm; exact ⟨h.ok, h.lf, h.fs, by have := h.ln; omega, h.tx, by have := h.mz; omega⟩
    · rename_i h2
      cases hm
      have hk : m.out ≠ [] → 1 ≤ skp i c := fun hne => by
        have : 1 ≤ m.out.length := by cases e : m.out with
          | nil => exact absurd e hne
          | cons => simp
        have := h.ln
        unfold skp; rw [if_neg (by omega)]; omega
      have hfs := h.fs
      have htk : tkn s (m.fr + skp i c) c ≤ s.size - (m.fr + skp i c) := Nat.min_le_right _ _
      have hlf := h.lf
      refine ⟨fun j d hd => ?_, (endQ_snoc _ _ _ _ _).symm, by show m.fr + skp i c + tkn s (m.fr + skp i c) c ≤ _; omega, by simp; have := h.ln; omega, ?_, ?_⟩
      · by_cases hj : j < m.out.length
        · rw [List.getElem?_append_left hj] at hd
          rw [List.take_append_of_le_length (by omega)]
          exact h.ok j d hd
        · have hl := (List.getElem?_eq_some_iff.1 hd).1
          simp at hl
          obtain rfl : j = m.out.length := by omega
          rw [List.getElem?_append_right (Nat.le_refl _), Nat.sub_self] at hd
          simp at hd; subst hd
          rw [List.take_append_of_le_length (Nat.le_refl _), List.take_length]
          refine ⟨fun hj0 => ?_, by show m.fr + skp i c + tkn s (m.fr + skp i c) c ≤ _; omega, ?_, by show (bi c.t).length ≤ 20; rw [bi_len]; omega⟩
          · have := hk (fun e => by rw [e] at hj0; exact hj0 rfl)
            rw [← hlf]; show m.fr < m.fr + skp i c; omega
          · by_cases h3 : tkn s (m.fr + skp i c) c = 0
            · exact .inr (fun e => h2 ⟨h3, by rw [← bi_len, show bi c.t = [] from e]; rfl⟩)
            · exact .inl h3
      · rw [sp0_snoc, ← hlf, bi_app, bi_app, bi_extract, h.tx]
      · have := h.mz
        show (m.made ++ (s.extract m.fr (m.fr + skp i c) ++ c.t)).size ≤ m.fr + skp i c + tkn s (m.fr + skp i c) c + 20 * (i + 1)
        rw [ByteArray.size_append, ByteArray.size_append, ByteArray.size_extract]
        omega
theorem mok_run {s : ByteArray} : ∀ (l : List Ch) (i : Nat) (m : Mk), MOk s i m → i ≤ 12 → ∃ j, j ≤ 12 ∧ MOk s j (mkRun s i l m)
  | [], i, m, h, hi => ⟨i, hi, h⟩
  | c :: l, i, m, h, hi => by
    show ∃ j, j ≤ 12 ∧ MOk s j (if i < 12 then _ else _)
    by_cases h12 : i < 12
    · rw [if_pos h12]
      cases e : mkStep s i c m with
      | none => exact ⟨i, hi, h⟩
      | some m' => exact mok_run l (i + 1) m' (mok_step h e) (by omega)
    · rw [if_neg h12]; exact ⟨i, hi, h⟩
/-- what the desk's patch hands back: the changes, the new text -/
def mkOut (s : ByteArray) (l : List Ch) : List (Nat × Nat × List Int) := (mkRun s 0 l mk0).out
def mkTxt (s : ByteArray) (l : List Ch) : ByteArray := (mkRun s 0 l mk0).made ++ s.extract (mkRun s 0 l mk0).fr s.size
theorem mk_ok (s : ByteArray) (l : List Ch) : QOk s.size (mkOut s l) ∧ (mkOut s l).length ≤ 12 ∧ bi (mkTxt s l) = splice (bi s) (mkOut s l) := by
  obtain ⟨j, hj, h⟩ := mok_run l 0 mk0 (mok_start s) (by omega)
  refine ⟨h.ok, by have := h.ln; unfold mkOut; omega, ?_⟩
  unfold mkTxt splice mkOut
  rw [bi_app, bi_extract, h.tx, ← h.lf, List.take_of_length_le (by rw [List.length_drop, bi_len]; omega)]
end Go.Proofs.Ytolhjkpekmmajaa
/- Strings cut and joined. -/
namespace Go.Proofs.Ytolhjkpekmmajaa
set_option linter.unusedVariables false
set_option linter.unusedSimpArgs false
open Go.RowKit Go.Lib
theorem str_lo (s : ByteArray) (a z : Nat) (hz : s.size = z) (h : a ≤ z) (w : World) : (Instr.slice 9 (.string s) (some (.int .i64 (a : Int))) none none).run Try.prog w = .ok (.string (s.extract a z)) w := by
  have h1 : ¬ (s.size < a) := by omega
  have h2 : ¬ (z < a) := by omega
  simp [Instr.slice, go_sem, hz, h1, h2]
theorem str_both (s : ByteArray) (a b z : Nat) (hz : s.size = z) (h : a ≤ b) (h2 : b ≤ z) (w : World) : (Instr.slice 9 (.string s) (some (.int .i64 (a : Int))) (some (.int .i64 (b : Int))) none).run Try.prog w = .ok (.string (s.extract a b)) w := by
  have h1 : ¬ (s.size < b) := by omega
  have h3 : ¬ (z < b) := by omega
  have h4 : ¬ (b < a) := by omega
  simp [Instr.slice, go_sem, hz, h1, h3, h4]
  rw [if_pos h2, if_pos h]
end Go.Proofs.Ytolhjkpekmmajaa
/- The walk of the desk's patch. Written by wip/gen/dpwalk.py. -/
namespace Go.Proofs.Ytolhjkpekmmajaa
set_option linter.unusedVariables false
set_option linter.unusedSimpArgs false
open Go.RowKit Go.Lib Go.Maps
attribute [local go_sem ↓] Go.wp_at_zero Go.wp_at_succ
theorem info_change : (Try.prog.info? 71).map (fun i => (i.zero, i.size, i.bytes)) = some (some (.agg #[.int .i64 0, .int .i64 0, .int .i64 0]), 3, 24) := by kernel_rfl
/-- the changes made: their places, their texts -/
structure PR (L : List En) (T : List (List Int)) (p : List Cg) (out : List (Nat × Nat × List Int)) : Prop where
  q : qs T p = out
  ok : ∀ c ∈ p, 0 ≤ c.ad ∧ 0 ≤ c.n ∧ 0 ≤ c.x ∧ c.x ≤ L.length
theorem PR.nil (L : List En) (T : List (List Int)) : PR L T [] [] := ⟨rfl, fun c h => by simp at h⟩
theorem PR.ext {L L' : List En} {T T' : List (List Int)} {p : List Cg} {out : List (Nat × Nat × List Int)} (h : PR L T p out) (hT : T.length = L.length) (k : Ext L T L' T') : PR L' T' p out :=
  ⟨by rw [← h.q]; exact List.map_congr_left fun c hc => by obtain ⟨_, _, h1, h2⟩ := h.ok c hc; rw [k.tx hT h1 h2], fun c hc => by obtain ⟨h1, h2, h3, h4⟩ := h.ok c hc; have := k.len; exact ⟨h1, h2, h3, by omega⟩⟩
theorem PR.snoc {L : List En} {T : List (List Int)} {p : List Cg} {out : List (Nat × Nat × List Int)} (h : PR L T p out) (a n : Nat) {x : Int} {t : List Int} (h0 : 0 ≤ x) (h1 : x ≤ L.length) (e : tx T x = t) : PR L T (p ++ [⟨a, n, x⟩]) (out ++ [(a, n, t)]) :=
  ⟨by rw [← h.q]; simp [qs, e], fun c hc => by
    rcases List.mem_append.1 hc with hc | hc
    · exact h.ok c hc
    · simp at hc; subst hc; exact ⟨by show (0 : Int) ≤ a; omega, by show (0 : Int) ≤ n; omega, h0, h1⟩⟩
theorem PR.len {L : List En} {T : List (List Int)} {p : List Cg} {out : List (Nat × Nat × List Int)} (h : PR L T p out) : p.length = out.length := by rw [← h.q]; simp [qs]
def DpOut (B S G : Nat) (L : List En) (T : List (List Int)) (s : ByteArray) (l : List Ch) (w : World) (e : Ending) (w' : World) : Prop :=
  ∃ A c p L' T', e = .returned (.tuple #[.slice A p.length c, .string (mkTxt s l), .bool true]) ∧ Now B S G L T 480 w w' L' T' ∧ PR L' T' p (mkOut s l) ∧ w'.ownsRow w.heap.size 71 3 (.slice A p.length c) p.length (cgc p)
set_option maxRecDepth 100000 in
set_option maxHeartbeats 64000000 in
theorem tpatch_any (L : List En) (T : List (List Int)) (hg : Good L T) (s : ByteArray) (hs : s.size ≤ 100000) (l : List Ch) (hl1 : ∀ c ∈ l, -9223372036854775808 ≤ c.sk ∧ c.sk ≤ 9223372036854775807 ∧ -9223372036854775808 ≤ c.n ∧ c.n ≤ 9223372036854775807) (n c0 : Nat) (A : Option Addr) (hl : l.length = n) (hn : n ≤ 9223372036854775807) (hc : L.length + 480 ≤ 1048576)
    (B S G : Nat) (M : Addr) (w : World) (st : St w B S G L) (ha : RowK w B S G A (chc l)) :
    Calls Try.prog 7 #[deskV S M, .string s, .slice A n c0] w (DpOut B S G L T s l w) := by
  obtain ⟨i0_, hi0, hz0, hz1, hz2⟩ := info_parts5 info_change
  have HI := Lib.hid hi0; have HZ := Lib.hid hz0; have HZ1 := Lib.hid hz1; have HZ2 := Lib.hid hz2
  have HST := Lib.hid st; have HG := Lib.hid hg; have HA := Lib.hid ha; have HL := Lib.hid hl; have HL1 := Lib.hid hl1; have HC := Lib.hid hc
  have lB := st.lt.2.2
  obtain ⟨z, hz⟩ : ∃ z, z = s.size := ⟨_, rfl⟩
  have sz : s.size = z := hz.symm
  have zb : z ≤ 100000 := by omega
  obtain ⟨Q, hQ⟩ : ∃ Q, Q = w.heap.size := ⟨_, rfl⟩
  have NW0 := Lib.hid ((Now.start HST.out HG.out).alloc (.cells #[.pointer (some ⟨S, 0, none⟩), .pointer (some M)] 27))
  have BX0 := Lib.hid (Box.new w 27 #[.pointer (some ⟨S, 0, none⟩), .pointer (some M)])
  have OW0 : Hid ((w.alloc (.cells #[.pointer (some ⟨S, 0, none⟩), .pointer (some M)] 27)).ownsRow w.heap.size 71 3 (.slice none 0 0) 0 (cgc [])) := Lib.hid ⟨rfl, .inl ⟨rfl, rfl⟩⟩
  have HQB : Hid (B ≤ Q) := Lib.hid (by omega)
  rw [← hQ] at BX0 OW0
  obtain ⟨w0, hw0⟩ : ∃ w0, w0 = w.alloc (.cells #[.pointer (some ⟨S, 0, none⟩), .pointer (some M)] 27) := ⟨_, rfl⟩
  rw [← hw0] at NW0 BX0 OW0
  have HW0 := Lib.hid hw0.symm
  have HQ := Lib.hid hQ.symm
  clear hi0 hz0 hz1 hz2 hg hl1 hl hc st ha hz hQ hw0 lB hs
  go_enter Try.func7, Try.ntmps7
  go_wp2_with fail
  rw [HW0.out, HQ.out]
  go_loopw [9, 10, 11, 12, 13, 14, 15, 16, 17] (fun s9 s10 s11 s12 _ _ _ _ _ wr => ∃ (i : Nat) (m : Mk) (p : List Cg) (k c1 fr : Nat) (A1 : Option Addr) (L1 : List En) (T1 : List (List Int)) (md : ByteArray), s12 = .int .i64 (i : Int) ∧ i ≤ 12 ∧ s9 = .slice A1 k c1 ∧ s10 = .string md ∧ s11 = .int .i64 (fr : Int) ∧
      Hid (mkRun s i (l.drop i) m = mkRun s 0 l mk0) ∧ Hid (MOk s i m ∧ md = m.made ∧ fr = m.fr ∧ p.length = k) ∧ Hid (PR L1 T1 p m.out) ∧ Hid (Now B S G L T (i * 40) w wr L1 T1) ∧ Hid (wr.ownsRow Q 71 3 (.slice A1 k c1) k (cgc p)) ∧ Hid (Box wr Q 27 #[.pointer (some ⟨S, 0, none⟩), .pointer (some M)])) (fun _ _ _ s12 _ _ _ _ _ _ => 12 - (intOf s12).toNat)
  case atStart => exact ⟨0, mk0, [], 0, 0, 0, none, L, T, _, rfl, by omega, rfl, rfl, rfl, Lib.hid rfl, Lib.hid ⟨mok_start s, rfl, rfl, rfl⟩, Lib.hid (PR.nil _ _), Lib.hid (NW0.out.mono (by omega)), OW0, BX0⟩
  case round =>
    clear NW0 OW0 BX0
    obtain ⟨i, m, p, k, c1, fr, A1, L1, T1, md, rfl, hi, rfl, rfl, rfl, HM, HK, HP, NW, OW, BX⟩ := hrel
    have mdz : md.size ≤ 200000 := by have h := HK.out.1.mz; have h2 := HK.out.1.fs; rw [← HK.out.2.1] at h; omega
    have frz : fr ≤ z := by have h := HK.out.1.fs; rw [← HK.out.2.2.1] at h; omega
    by_cases hlt : i < n ∧ i < 12
    · have hil : i < l.length := by rw [HL.out]; exact hlt.1
      have hc := List.getElem?_eq_getElem hil
      obtain ⟨b1, b2, b3, b4⟩ := HL1.out _ (List.getElem_mem hil)
      obtain ⟨cg, hcg⟩ : ∃ cg, cg = l[i] := ⟨_, rfl⟩
      rw [← hcg] at hc b1 b2 b3 b4
      obtain ⟨ad, rfl, adl, d0, d1, d2⟩ := row_ch (HA.out.sfr NW.out.fr).1 hc
      have HR := Lib.hid (HM.out.symm.trans (mkRun_drop s i l m hc hlt.2))
      obtain ⟨csk, cn, ct⟩ := cg
      simp only at d0 d1 d2 b1 b2 b3 b4
      have q1 := Int.emod_nonneg csk (show (9 : Int) ≠ 0 by omega)
      have q2 := Int.emod_lt_of_pos csk (show (0 : Int) < 9 by omega)
      have q3 := Int.emod_nonneg cn (show (7 : Int) ≠ 0 by omega)
      have q4 := Int.emod_lt_of_pos cn (show (0 : Int) < 7 by omega)
      obtain ⟨v0, hv0⟩ : ∃ v0 : Nat, (v0 : Int) = csk % 9 := ⟨(csk % 9).toNat, by omega⟩
      obtain ⟨u0, hu0⟩ : ∃ u0 : Nat, (u0 : Int) = cn % 7 := ⟨(cn % 7).toNat, by omega⟩
      have HAt := Lib.hid (fun w => tat_any csk 9 b1 b2 (by omega) (by omega) w)
      have HAn := Lib.hid (fun w => tat_any cn 7 b3 b4 (by omega) (by omega) w)
      rw [← hv0] at HAt
      rw [← hu0] at HAn
      have v8 : v0 ≤ 8 := by omega
      have u6 : u0 ≤ 6 := by omega
      obtain ⟨y, hy⟩ : ∃ y, y = ct.size := ⟨_, rfl⟩
      have cts : ct.size = y := hy.symm
      have l1 : decide ((i : Int) < (n : Int)) = true := by simp; exact hlt.1
      have l1b : decide (i < n) = true := by simp; exact hlt.1
      have l2 : decide ((i : Int) < 12) = true := by simp; omega
      have l2b : decide (i < 12) = true := by simp; omega
      have i12 : i < 12 := hlt.2
      have in0 : (i : Int) < (n : Int) := by omega
      by_cases hi0 : i = 0
      · have l3 : decide ((0 : Int) < (i : Int)) = false := by simp; omega
        have l3b : decide (0 < i) = false := by simp; omega
        have hsk : skp i ⟨csk, cn, ct⟩ = v0 := by unfold skp; rw [if_pos hi0]; show (csk % 9).toNat + 0 = v0; omega
        by_cases hbr : fr + v0 > z ∨ y > 20
        · have HX : Hid (m = mkRun s 0 l mk0) := Lib.hid (by
            have h := HR.out
            unfold mkStep at h
            rw [if_pos (by rw [← HK.out.2.2.1, hsk, sz, cts]; exact hbr)] at h
            exact h.symm)
          have HF := Lib.hid (show DpOut B S G L T s l w (.returned (.tuple #[.slice A1 k c1, .string (md ++ s.extract fr z), .bool true])) wr from by
            obtain ⟨hok, hmd, hfr, hpl⟩ := HK.out
            refine ⟨A1, c1, p, L1, T1, ?_, NW.out.mono (by omega), ?_, ?_⟩
            · unfold mkTxt; rw [← HX.out, ← hmd, ← hfr, hpl, sz]
            · unfold mkOut; rw [← HX.out]; exact HP.out
            · rw [hpl, HQ.out]; exact OW.out)
          have HF2 : Hid (∀ j, DpOut B S G L T s l w (.returned (.tuple #[.slice A1 k c1, .string (md ++ s.extract fr z), .bool true])) (wr.drewN j)) := Lib.hid fun j => by
            obtain ⟨A, c, p, L', T', h1, h2, h3, h4⟩ := HF.out
            exact ⟨A, c, p, L', T', h1, h2.below ⟨rfl, rfl, rfl, Nat.le_refl _, fun _ _ => rfl⟩, h3, h4⟩
          clear HF
          by_cases hb1 : fr + v0 > z
          · have l4 : decide ((z : Int) < (fr : Int) + (v0 : Int)) = true := by simp; omega
            clear hc hcg HR b1 b2 b3 b4 q1 q2 q3 q4 hv0 hu0 hy hsk hi0 HM
            go_wp2_with fail
            (with_reducible refine (HAt.out _).mono ?_)
            rintro e w' ⟨rfl, rfl⟩
            have sl := fun w => str_lo s fr z sz frz w
            have cat := fun w => run_string_add_sum (P := Try.prog) (w := w) md (s.extract fr z) (by rw [ByteArray.size_extract]; omega)
            go_wp2_with fail
            go_quiet (fail)
            go_wp2_with fail
            go_ret3
            exact HF2.out _
          
          · have l4 : decide ((z : Int) < (fr : Int) + (v0 : Int)) = false := by simp; omega
            have l5 : decide ((20 : Int) < (y : Int)) = true := by simp; omega
            have l5b : decide (20 < y) = true := by simp; omega
            clear hc hcg HR b1 b2 b3 b4 q1 q2 q3 q4 hv0 hu0 hy hsk hi0 HM
            go_wp2_with fail
            (with_reducible refine (HAt.out _).mono ?_)
            rintro e w' ⟨rfl, rfl⟩
            have sl := fun w => str_lo s fr z sz frz w
            have cat := fun w => run_string_add_sum (P := Try.prog) (w := w) md (s.extract fr z) (by rw [ByteArray.size_extract]; omega)
            go_wp2_with fail
            go_quiet (fail)
            go_wp2_with fail
            go_ret3
            exact HF2.out _
        · have l4 : decide ((z : Int) < (fr : Int) + (v0 : Int)) = false := by simp; omega
          have l5 : decide ((20 : Int) < (y : Int)) = false := by simp; omega
          have l5b : decide (20 < y) = false := by simp; omega
          obtain ⟨off, hoff⟩ : ∃ off, off = fr + v0 := ⟨_, rfl⟩
          have ho : (fr : Int) + (v0 : Int) = (off : Int) := by omega
          have oz : off ≤ z := by omega
          have fo : fr ≤ off := by omega
          have y20 : y ≤ 20 := by omega
          obtain ⟨tk, htk⟩ : ∃ tk, tk = min u0 (z - off) := ⟨_, rfl⟩
          have tz : off + tk ≤ z := by omega
          have hmin : (if (z : Int) - off < (u0 : Int) then (z : Int) - off else (u0 : Int)) = (tk : Int) := by split <;> omega
          have HT : Hid (m.fr + skp i ⟨csk, cn, ct⟩ = off ∧ tkn s off ⟨csk, cn, ct⟩ = tk) := Lib.hid ⟨by rw [← HK.out.2.2.1, hsk, hoff], by unfold tkn; rw [sz, htk]; show min (cn % 7).toNat _ = _; omega⟩
          have HNB : Hid (¬ (m.fr + skp i ⟨csk, cn, ct⟩ > s.size ∨ ct.size > 20)) := Lib.hid (by rw [HT.out.1, sz, cts]; omega)
          have HOF := Lib.hid ho; have HMN := Lib.hid hmin
          have mb : (fr : Int) + (v0 : Int) ≤ 200000 := by omega
          by_cases hz : tk = 0 ∧ y = 0
          · have HR2 : Hid (mkRun s (i + 1) (l.drop (i + 1)) m = mkRun s 0 l mk0) := Lib.hid (by
              have h := HR.out
              unfold mkStep at h
              rw [if_neg HNB.out, if_pos (by rw [HT.out.1, HT.out.2]; exact ⟨hz.1, by rw [cts]; exact hz.2⟩)] at h
              exact h.symm)
            have HK2 : Hid (MOk s (i + 1) m ∧ md = m.made ∧ fr = m.fr ∧ p.length = k) := Lib.hid (by
              have h := HK.out
              exact ⟨⟨h.1.ok, h.1.lf, h.1.fs, by have := h.1.ln; omega, h.1.tx, by have := h.1.mz; omega⟩, h.2⟩)
            have t1 : ((tk : Int) == 0) = true := by rw [hz.1]; rfl
            have t1b : (tk == 0) = true := by rw [hz.1]; rfl
            have t2 : ((y : Int) == 0) = true := by rw [hz.2]; rfl
            have t2b : (y == 0) = true := by rw [hz.2]; rfl
            have NW2 := Lib.hid (NW.out.mono (show i * 40 ≤ (i + 1) * 40 by omega))
            clear hc hcg HR b1 b2 b3 b4 q1 q2 q3 q4 hv0 hu0 hy hsk hi0 HM htk hoff ho hmin hz hbr hlt
            go_wp2_with fail
            (with_reducible refine (HAt.out _).mono ?_)
            rintro e w' ⟨rfl, rfl⟩
            go_upto_region 11 with fail
            rw [HOF.out]
            go_wp2_with fail
            (with_reducible refine (HAn.out _).mono ?_)
            rintro e w' ⟨rfl, rfl⟩
            go_upto_region 12 with fail
            rw [HMN.out]
            go_wp2_with fail
            go_roundw
            case rel => exact ⟨i + 1, m, p, k, c1, fr, A1, L1, T1, md, by go_num, by omega, rfl, rfl, rfl, HR2, HK2, HP, NW2, OW, BX⟩
            case measure => simp [intOf]; omega
          · have HR2 : Hid (mkRun s (i + 1) (l.drop (i + 1)) ⟨m.out ++ [(off, tk, bi ct)], m.made ++ (s.extract m.fr off ++ ct), off + tk⟩ = mkRun s 0 l mk0) := Lib.hid (by
              have h := HR.out
              unfold mkStep at h
              rw [if_neg HNB.out, if_neg (by rw [HT.out.1, HT.out.2]; exact fun e => hz ⟨e.1, by rw [← cts]; exact e.2⟩), HT.out.1, HT.out.2] at h
              exact h.symm)
            have HK2 : Hid (MOk s (i + 1) ⟨m.out ++ [(off, tk, bi ct)], m.made ++ (s.extract m.fr off ++ ct), off + tk⟩ ∧ md ++ (s.extract fr off ++ ct) = m.made ++ (s.extract m.fr off ++ ct) ∧ off + tk = off + tk ∧ (fr = m.fr ∧ p.length = k)) := Lib.hid (by
              have h := HK.out
              refine ⟨mok_step (c := ⟨csk, cn, ct⟩) h.1 ?_, by rw [h.2.1, h.2.2.1], rfl, h.2.2⟩
              unfold mkStep
              rw [if_neg HNB.out, if_neg (by rw [HT.out.1, HT.out.2]; exact fun e => hz ⟨e.1, by rw [← cts]; exact e.2⟩), HT.out.1, HT.out.2])
            have hg1 := NW.out.cnt
            have hc1 := HC.out
            have HID := Lib.hid (fun w (st : St w B S G L1) => tid_any L1 T1 NW.out.good ct (by omega) (by omega) B S G M w st)
            have HSd := Lib.hid (NW.out.st.below (w' := wr.drew) ⟨rfl, rfl, rfl, Nat.le_refl _, fun _ _ => rfl⟩)
            have cB0 := BX.out.cell 0; have cB1 := BX.out.cell 1
            simp only [List.getElem?_toArray, List.getElem?_cons_zero, List.getElem?_cons_succ] at cB0 cB1
            have NB : Hid (i * 40 + 2 * y ≤ (i + 1) * 40) := Lib.hid (by omega)
            have ctl : (bi ct).length = y := (bi_len ct).trans cts
            have CTL := Lib.hid ctl
            have HCI := Lib.hid hc
            have kb : k ≤ 12 := by have h := HK.out.1.ln; have h2 := HP.out.len; have h3 := HK.out.2.2.2; omega
            clear hc hcg HR b1 b2 b3 b4 q1 q2 q3 q4 hv0 hu0 hy hsk hi0 HM htk hoff ho hmin hbr hlt hg1 hc1 ctl
            by_cases hz1 : tk = 0
            · have t1 : ((tk : Int) == 0) = true := by rw [hz1]; rfl
              have t1b : (tk == 0) = true := by rw [hz1]; rfl
              have t2 : ((y : Int) == 0) = false := by rw [beq_eq_false_iff_ne]; omega
              have t2b : (y == 0) = false := by rw [beq_eq_false_iff_ne]; omega
              clear hz hz1
              go_wp2_with fail
              (with_reducible refine (HAt.out _).mono ?_)
              rintro e w' ⟨rfl, rfl⟩
              go_upto_region 11 with fail
              rw [HOF.out]
              go_wp2_with fail
              (with_reducible refine (HAn.out _).mono ?_)
              rintro e w' ⟨rfl, rfl⟩
              go_upto_region 12 with fail
              rw [HMN.out]
              go_upto_region 13 with fail
              go_region_with (first
                | (go_at_call 13; refine (HID.out _ ?_).mono ?_; exact HSd.out; rintro e w3 ⟨x, L3, T3, rfl, o3⟩))
              all_goals
                have NW3 := Lib.hid (NW.out.drew.after o3.now (by rw [CTL.out]; exact NB.out))
                have OW3 := Lib.hid (own_sfr (show wr.drew.ownsRow Q 71 3 (.slice A1 k c1) k (cgc p) from OW.out) o3.fr HSd.out HQB.out (by decide))
                have BX3 := Lib.hid (BX.out.drew.sfr o3.fr HSd.out HQB.out (by decide))
                have HP3 := Lib.hid ((HP.out.ext NW.out.good.len o3.ext).snoc off tk o3.x0 o3.x1 o3.tx)
                have HA3 := Lib.hid (HA.out.sfr NW3.out.fr)
                clear o3
                have OW4 := Lib.hid (own_alloc OW3.out (.cells #[.int .i64 off, .int .i64 tk, .int .i64 x] 71))
                have NW4 := Lib.hid (NW3.out.alloc (.cells #[.int .i64 off, .int .i64 tk, .int .i64 x] 71))
                have BX4 := Lib.hid (BX3.out.alloc (.cells #[.int .i64 off, .int .i64 tk, .int .i64 x] 71))
                go_wp2_with (refine wpList_app _ (by rfl) (.tmp 90) (.tmp 95) _ rfl Q 71 i0_ _ 3 24 Try.underlying32 HI.out HZ.out HZ1.out HZ2.out rfl (by omega) (.slice A1 k c1) k (cgc p) rfl OW4.out (some ⟨w3.heap.size, 0, none⟩) 1 1 (cgc [⟨off, tk, x⟩]) rfl rfl ?row (cgc_one _) (by simp only [maxLen]; omega) (by omega) ?size ?_)
                case row => exact RowAt.of_block (heap_alloc_new w3 _)
                case size => have := NW4.out.fr.size; have := HQ.out; omega
                intro A5 c5 w5 own5 gr5 at5
                have NW5 := Lib.hid (NW4.out.grown OW4.out HQB.out (Nat.le_of_eq HQ.out) (by decide) gr5)
                have BX5 := Lib.hid (box_grown3 BX4.out OW4.out (by decide) gr5)
                rw [← cgc_app] at own5
                have OW5 := Lib.hid own5
                have OW5d : ∀ j, Hid ((w5.drewN j).ownsRow Q 71 3 (.slice A5 (k + 1) c5) (k + 1) (cgc (p ++ [⟨off, tk, x⟩]))) := fun j => Lib.hid (own_kept2 OW5.out fun _ _ => rfl)
                have BX5d : ∀ j, Hid (Box (w5.drewN j) Q 27 #[.pointer (some ⟨S, 0, none⟩), .pointer (some M)]) := fun j => Lib.hid (BX5.out.drewN j)
                obtain ⟨ad2, hA2, adl2, e0, e1, e2⟩ := row_ch (HA.out.sfr NW5.out.fr).1 HCI.out
                injection hA2 with hA2
                subst hA2
                simp only at e0 e1 e2
                have sb := fun w => str_both s fr off z sz fo oz w
                have cat1 := fun w => run_string_add_sum (P := Try.prog) (w := w) (s.extract fr off) ct (by rw [ByteArray.size_extract]; omega)
                have cat2 := fun w => run_string_add_sum (P := Try.prog) (w := w) md (s.extract fr off ++ ct) (by rw [ByteArray.size_append, ByteArray.size_extract]; omega)
                clear own5 gr5 at5 NW4 OW4 BX4 HA3
                go_wp2_with fail
                go_quiet (fail)
                go_wp2_with fail
                go_roundw
                case rel => exact ⟨i + 1, _, p ++ [⟨off, tk, x⟩], k + 1, c5, off + tk, A5, L3, T3, _, by go_num, by omega, rfl, rfl, by go_num, HR2, Lib.hid ⟨HK2.out.1, HK2.out.2.1, rfl, by simp [HK2.out.2.2.2.2]⟩, HP3, Lib.hid (NW5.out.below ⟨rfl, rfl, rfl, Nat.le_refl _, fun _ _ => rfl⟩), OW5d _, BX5d _⟩
                case measure => simp [intOf]; omega
            · have t1 : ((tk : Int) == 0) = false := by rw [beq_eq_false_iff_ne]; omega
              have t1b : (tk == 0) = false := by rw [beq_eq_false_iff_ne]; omega
              clear hz hz1
              go_wp2_with fail
              (with_reducible refine (HAt.out _).mono ?_)
              rintro e w' ⟨rfl, rfl⟩
              go_upto_region 11 with fail
              rw [HOF.out]
              go_wp2_with fail
              (with_reducible refine (HAn.out _).mono ?_)
              rintro e w' ⟨rfl, rfl⟩
              go_upto_region 12 with fail
              rw [HMN.out]
              go_upto_region 13 with fail
              go_region_with (first
                | (go_at_call 13; refine (HID.out _ ?_).mono ?_; exact HSd.out; rintro e w3 ⟨x, L3, T3, rfl, o3⟩))
              all_goals
                have NW3 := Lib.hid (NW.out.drew.after o3.now (by rw [CTL.out]; exact NB.out))
                have OW3 := Lib.hid (own_sfr (show wr.drew.ownsRow Q 71 3 (.slice A1 k c1) k (cgc p) from OW.out) o3.fr HSd.out HQB.out (by decide))
                have BX3 := Lib.hid (BX.out.drew.sfr o3.fr HSd.out HQB.out (by decide))
                have HP3 := Lib.hid ((HP.out.ext NW.out.good.len o3.ext).snoc off tk o3.x0 o3.x1 o3.tx)
                have HA3 := Lib.hid (HA.out.sfr NW3.out.fr)
                clear o3
                have OW4 := Lib.hid (own_alloc OW3.out (.cells #[.int .i64 off, .int .i64 tk, .int .i64 x] 71))
                have NW4 := Lib.hid (NW3.out.alloc (.cells #[.int .i64 off, .int .i64 tk, .int .i64 x] 71))
                have BX4 := Lib.hid (BX3.out.alloc (.cells #[.int .i64 off, .int .i64 tk, .int .i64 x] 71))
                go_wp2_with (refine wpList_app _ (by rfl) (.tmp 90) (.tmp 95) _ rfl Q 71 i0_ _ 3 24 Try.underlying32 HI.out HZ.out HZ1.out HZ2.out rfl (by omega) (.slice A1 k c1) k (cgc p) rfl OW4.out (some ⟨w3.heap.size, 0, none⟩) 1 1 (cgc [⟨off, tk, x⟩]) rfl rfl ?row (cgc_one _) (by simp only [maxLen]; omega) (by omega) ?size ?_)
                case row => exact RowAt.of_block (heap_alloc_new w3 _)
                case size => have := NW4.out.fr.size; have := HQ.out; omega
                intro A5 c5 w5 own5 gr5 at5
                have NW5 := Lib.hid (NW4.out.grown OW4.out HQB.out (Nat.le_of_eq HQ.out) (by decide) gr5)
                have BX5 := Lib.hid (box_grown3 BX4.out OW4.out (by decide) gr5)
                rw [← cgc_app] at own5
                have OW5 := Lib.hid own5
                have OW5d : ∀ j, Hid ((w5.drewN j).ownsRow Q 71 3 (.slice A5 (k + 1) c5) (k + 1) (cgc (p ++ [⟨off, tk, x⟩]))) := fun j => Lib.hid (own_kept2 OW5.out fun _ _ => rfl)
                have BX5d : ∀ j, Hid (Box (w5.drewN j) Q 27 #[.pointer (some ⟨S, 0, none⟩), .pointer (some M)]) := fun j => Lib.hid (BX5.out.drewN j)
                obtain ⟨ad2, hA2, adl2, e0, e1, e2⟩ := row_ch (HA.out.sfr NW5.out.fr).1 HCI.out
                injection hA2 with hA2
                subst hA2
                simp only at e0 e1 e2
                have sb := fun w => str_both s fr off z sz fo oz w
                have cat1 := fun w => run_string_add_sum (P := Try.prog) (w := w) (s.extract fr off) ct (by rw [ByteArray.size_extract]; omega)
                have cat2 := fun w => run_string_add_sum (P := Try.prog) (w := w) md (s.extract fr off ++ ct) (by rw [ByteArray.size_append, ByteArray.size_extract]; omega)
                clear own5 gr5 at5 NW4 OW4 BX4 HA3
                go_wp2_with fail
                go_quiet (fail)
                go_wp2_with fail
                go_roundw
                case rel => exact ⟨i + 1, _, p ++ [⟨off, tk, x⟩], k + 1, c5, off + tk, A5, L3, T3, _, by go_num, by omega, rfl, rfl, by go_num, HR2, Lib.hid ⟨HK2.out.1, HK2.out.2.1, rfl, by simp [HK2.out.2.2.2.2]⟩, HP3, Lib.hid (NW5.out.below ⟨rfl, rfl, rfl, Nat.le_refl _, fun _ _ => rfl⟩), OW5d _, BX5d _⟩
                case measure => simp [intOf]; omega
      · have l3 : decide ((0 : Int) < (i : Int)) = true := by simp; omega
        have l3b : decide (0 < i) = true := by simp; omega
        have hsk : skp i ⟨csk, cn, ct⟩ = v0 + 1 := by unfold skp; rw [if_neg hi0]; show (csk % 9).toNat + 1 = v0 + 1; omega
        by_cases hbr : fr + (v0 + 1) > z ∨ y > 20
        · have HX : Hid (m = mkRun s 0 l mk0) := Lib.hid (by
            have h := HR.out
            unfold mkStep at h
            rw [if_pos (by rw [← HK.out.2.2.1, hsk, sz, cts]; exact hbr)] at h
            exact h.symm)
          have HF := Lib.hid (show DpOut B S G L T s l w (.returned (.tuple #[.slice A1 k c1, .string (md ++ s.extract fr z), .bool true])) wr from by
            obtain ⟨hok, hmd, hfr, hpl⟩ := HK.out
            refine ⟨A1, c1, p, L1, T1, ?_, NW.out.mono (by omega), ?_, ?_⟩
            · unfold mkTxt; rw [← HX.out, ← hmd, ← hfr, hpl, sz]
            · unfold mkOut; rw [← HX.out]; exact HP.out
            · rw [hpl, HQ.out]; exact OW.out)
          have HF2 : Hid (∀ j, DpOut B S G L T s l w (.returned (.tuple #[.slice A1 k c1, .string (md ++ s.extract fr z), .bool true])) (wr.drewN j)) := Lib.hid fun j => by
            obtain ⟨A, c, p, L', T', h1, h2, h3, h4⟩ := HF.out
            exact ⟨A, c, p, L', T', h1, h2.below ⟨rfl, rfl, rfl, Nat.le_refl _, fun _ _ => rfl⟩, h3, h4⟩
          clear HF
          by_cases hb1 : fr + (v0 + 1) > z
          · have l4 : decide ((z : Int) < (fr : Int) + ((v0 : Int) + 1)) = true := by simp; omega
            clear hc hcg HR b1 b2 b3 b4 q1 q2 q3 q4 hv0 hu0 hy hsk hi0 HM
            go_wp2_with fail
            (with_reducible refine (HAt.out _).mono ?_)
            rintro e w' ⟨rfl, rfl⟩
            have sl := fun w => str_lo s fr z sz frz w
            have cat := fun w => run_string_add_sum (P := Try.prog) (w := w) md (s.extract fr z) (by rw [ByteArray.size_extract]; omega)
            go_wp2_with fail
            go_quiet (fail)
            go_wp2_with fail
            go_ret3
            exact HF2.out _
          
          · have l4 : decide ((z : Int) < (fr : Int) + ((v0 : Int) + 1)) = false := by simp; omega
            have l5 : decide ((20 : Int) < (y : Int)) = true := by simp; omega
            have l5b : decide (20 < y) = true := by simp; omega
            clear hc hcg HR b1 b2 b3 b4 q1 q2 q3 q4 hv0 hu0 hy hsk hi0 HM
            go_wp2_with fail
            (with_reducible refine (HAt.out _).mono ?_)
            rintro e w' ⟨rfl, rfl⟩
            have sl := fun w => str_lo s fr z sz frz w
            have cat := fun w => run_string_add_sum (P := Try.prog) (w := w) md (s.extract fr z) (by rw [ByteArray.size_extract]; omega)
            go_wp2_with fail
            go_quiet (fail)
            go_wp2_with fail
            go_ret3
            exact HF2.out _
        · have l4 : decide ((z : Int) < (fr : Int) + ((v0 : Int) + 1)) = false := by simp; omega
          have l5 : decide ((20 : Int) < (y : Int)) = false := by simp; omega
          have l5b : decide (20 < y) = false := by simp; omega
          obtain ⟨off, hoff⟩ : ∃ off, off = fr + (v0 + 1) := ⟨_, rfl⟩
          have ho : (fr : Int) + ((v0 : Int) + 1) = (off : Int) := by omega
          have oz : off ≤ z := by omega
          have fo : fr ≤ off := by omega
          have y20 : y ≤ 20 := by omega
          obtain ⟨tk, htk⟩ : ∃ tk, tk = min u0 (z - off) := ⟨_, rfl⟩
          have tz : off + tk ≤ z := by omega
          have hmin : (if (z : Int) - off < (u0 : Int) then (z : Int) - off else (u0 : Int)) = (tk : Int) := by split <;> omega
          have HT : Hid (m.fr + skp i ⟨csk, cn, ct⟩ = off ∧ tkn s off ⟨csk, cn, ct⟩ = tk) := Lib.hid ⟨by rw [← HK.out.2.2.1, hsk, hoff], by unfold tkn; rw [sz, htk]; show min (cn % 7).toNat _ = _; omega⟩
          have HNB : Hid (¬ (m.fr + skp i ⟨csk, cn, ct⟩ > s.size ∨ ct.size > 20)) := Lib.hid (by rw [HT.out.1, sz, cts]; omega)
          have HOF := Lib.hid ho; have HMN := Lib.hid hmin
          have mb : (fr : Int) + ((v0 : Int) + 1) ≤ 200000 := by omega
          by_cases hz : tk = 0 ∧ y = 0
          · have HR2 : Hid (mkRun s (i + 1) (l.drop (i + 1)) m = mkRun s 0 l mk0) := Lib.hid (by
              have h := HR.out
              unfold mkStep at h
              rw [if_neg HNB.out, if_pos (by rw [HT.out.1, HT.out.2]; exact ⟨hz.1, by rw [cts]; exact hz.2⟩)] at h
              exact h.symm)
            have HK2 : Hid (MOk s (i + 1) m ∧ md = m.made ∧ fr = m.fr ∧ p.length = k) := Lib.hid (by
              have h := HK.out
              exact ⟨⟨h.1.ok, h.1.lf, h.1.fs, by have := h.1.ln; omega, h.1.tx, by have := h.1.mz; omega⟩, h.2⟩)
            have t1 : ((tk : Int) == 0) = true := by rw [hz.1]; rfl
            have t1b : (tk == 0) = true := by rw [hz.1]; rfl
            have t2 : ((y : Int) == 0) = true := by rw [hz.2]; rfl
            have t2b : (y == 0) = true := by rw [hz.2]; rfl
            have NW2 := Lib.hid (NW.out.mono (show i * 40 ≤ (i + 1) * 40 by omega))
            clear hc hcg HR b1 b2 b3 b4 q1 q2 q3 q4 hv0 hu0 hy hsk hi0 HM htk hoff ho hmin hz hbr hlt
            go_wp2_with fail
            (with_reducible refine (HAt.out _).mono ?_)
            rintro e w' ⟨rfl, rfl⟩
            go_upto_region 11 with fail
            rw [HOF.out]
            go_wp2_with fail
            (with_reducible refine (HAn.out _).mono ?_)
            rintro e w' ⟨rfl, rfl⟩
            go_upto_region 12 with fail
            rw [HMN.out]
            go_wp2_with fail
            go_roundw
            case rel => exact ⟨i + 1, m, p, k, c1, fr, A1, L1, T1, md, by go_num, by omega, rfl, rfl, rfl, HR2, HK2, HP, NW2, OW, BX⟩
            case measure => simp [intOf]; omega
          · have HR2 : Hid (mkRun s (i + 1) (l.drop (i + 1)) ⟨m.out ++ [(off, tk, bi ct)], m.made ++ (s.extract m.fr off ++ ct), off + tk⟩ = mkRun s 0 l mk0) := Lib.hid (by
              have h := HR.out
              unfold mkStep at h
              rw [if_neg HNB.out, if_neg (by rw [HT.out.1, HT.out.2]; exact fun e => hz ⟨e.1, by rw [← cts]; exact e.2⟩), HT.out.1, HT.out.2] at h
              exact h.symm)
            have HK2 : Hid (MOk s (i + 1) ⟨m.out ++ [(off, tk, bi ct)], m.made ++ (s.extract m.fr off ++ ct), off + tk⟩ ∧ md ++ (s.extract fr off ++ ct) = m.made ++ (s.extract m.fr off ++ ct) ∧ off + tk = off + tk ∧ (fr = m.fr ∧ p.length = k)) := Lib.hid (by
              have h := HK.out
              refine ⟨mok_step (c := ⟨csk, cn, ct⟩) h.1 ?_, by rw [h.2.1, h.2.2.1], rfl, h.2.2⟩
              unfold mkStep
              rw [if_neg HNB.out, if_neg (by rw [HT.out.1, HT.out.2]; exact fun e => hz ⟨e.1, by rw [← cts]; exact e.2⟩), HT.out.1, HT.out.2])
            have hg1 := NW.out.cnt
            have hc1 := HC.out
            have HID := Lib.hid (fun w (st : St w B S G L1) => tid_any L1 T1 NW.out.good ct (by omega) (by omega) B S G M w st)
            have HSd := Lib.hid (NW.out.st.below (w' := wr.drew) ⟨rfl, rfl, rfl, Nat.le_refl _, fun _ _ => rfl⟩)
            have cB0 := BX.out.cell 0; have cB1 := BX.out.cell 1
            simp only [List.getElem?_toArray, List.getElem?_cons_zero, List.getElem?_cons_succ] at cB0 cB1
            have NB : Hid (i * 40 + 2 * y ≤ (i + 1) * 40) := Lib.hid (by omega)
            have ctl : (bi ct).length = y := (bi_len ct).trans cts
            have CTL := Lib.hid ctl
            have HCI := Lib.hid hc
            have kb : k ≤ 12 := by have h := HK.out.1.ln; have h2 := HP.out.len; have h3 := HK.out.2.2.2; omega
            clear hc hcg HR b1 b2 b3 b4 q1 q2 q3 q4 hv0 hu0 hy hsk hi0 HM htk hoff ho hmin hbr hlt hg1 hc1 ctl
            by_cases hz1 : tk = 0
            · have t1 : ((tk : Int) == 0) = true := by rw [hz1]; rfl
              have t1b : (tk == 0) = true := by rw [hz1]; rfl
              have t2 : ((y : Int) == 0) = false := by rw [beq_eq_false_iff_ne]; omega
              have t2b : (y == 0) = false := by rw [beq_eq_false_iff_ne]; omega
              clear hz hz1
              go_wp2_with fail
              (with_reducible refine (HAt.out _).mono ?_)
              rintro e w' ⟨rfl, rfl⟩
              go_upto_region 11 with fail
              rw [HOF.out]
              go_wp2_with fail
              (with_reducible refine (HAn.out _).mono ?_)
              rintro e w' ⟨rfl, rfl⟩
              go_upto_region 12 with fail
              rw [HMN.out]
              go_upto_region 13 with fail
              go_region_with (first
                | (go_at_call 13; refine (HID.out _ ?_).mono ?_; exact HSd.out; rintro e w3 ⟨x, L3, T3, rfl, o3⟩))
              all_goals
                have NW3 := Lib.hid (NW.out.drew.after o3.now (by rw [CTL.out]; exact NB.out))
                have OW3 := Lib.hid (own_sfr (show wr.drew.ownsRow Q 71 3 (.slice A1 k c1) k (cgc p) from OW.out) o3.fr HSd.out HQB.out (by decide))
                have BX3 := Lib.hid (BX.out.drew.sfr o3.fr HSd.out HQB.out (by decide))
                have HP3 := Lib.hid ((HP.out.ext NW.out.good.len o3.ext).snoc off tk o3.x0 o3.x1 o3.tx)
                have HA3 := Lib.hid (HA.out.sfr NW3.out.fr)
                clear o3
                have OW4 := Lib.hid (own_alloc OW3.out (.cells #[.int .i64 off, .int .i64 tk, .int .i64 x] 71))
                have NW4 := Lib.hid (NW3.out.alloc (.cells #[.int .i64 off, .int .i64 tk, .int .i64 x] 71))
                have BX4 := Lib.hid (BX3.out.alloc (.cells #[.int .i64 off, .int .i64 tk, .int .i64 x] 71))
                go_wp2_with (refine wpList_app _ (by rfl) (.tmp 90) (.tmp 95) _ rfl Q 71 i0_ _ 3 24 Try.underlying32 HI.out HZ.out HZ1.out HZ2.out rfl (by omega) (.slice A1 k c1) k (cgc p) rfl OW4.out (some ⟨w3.heap.size, 0, none⟩) 1 1 (cgc [⟨off, tk, x⟩]) rfl rfl ?row (cgc_one _) (by simp only [maxLen]; omega) (by omega) ?size ?_)
                case row => exact RowAt.of_block (heap_alloc_new w3 _)
                case size => have := NW4.out.fr.size; have := HQ.out; omega
                intro A5 c5 w5 own5 gr5 at5
                have NW5 := Lib.hid (NW4.out.grown OW4.out HQB.out (Nat.le_of_eq HQ.out) (by decide) gr5)
                have BX5 := Lib.hid (box_grown3 BX4.out OW4.out (by decide) gr5)
                rw [← cgc_app] at own5
                have OW5 := Lib.hid own5
                have OW5d : ∀ j, Hid ((w5.drewN j).ownsRow Q 71 3 (.slice A5 (k + 1) c5) (k + 1) (cgc (p ++ [⟨off, tk, x⟩]))) := fun j => Lib.hid (own_kept2 OW5.out fun _ _ => rfl)
                have BX5d : ∀ j, Hid (Box (w5.drewN j) Q 27 #[.pointer (some ⟨S, 0, none⟩), .pointer (some M)]) := fun j => Lib.hid (BX5.out.drewN j)
                obtain ⟨ad2, hA2, adl2, e0, e1, e2⟩ := row_ch (HA.out.sfr NW5.out.fr).1 HCI.out
                injection hA2 with hA2
                subst hA2
                simp only at e0 e1 e2
                have sb := fun w => str_both s fr off z sz fo oz w
                have cat1 := fun w => run_string_add_sum (P := Try.prog) (w := w) (s.extract fr off) ct (by rw [ByteArray.size_extract]; omega)
                have cat2 := fun w => run_string_add_sum (P := Try.prog) (w := w) md (s.extract fr off ++ ct) (by rw [ByteArray.size_append, ByteArray.size_extract]; omega)
                clear own5 gr5 at5 NW4 OW4 BX4 HA3
                go_wp2_with fail
                go_quiet (fail)
                go_wp2_with fail
                go_roundw
                case rel => exact ⟨i + 1, _, p ++ [⟨off, tk, x⟩], k + 1, c5, off + tk, A5, L3, T3, _, by go_num, by omega, rfl, rfl, by go_num, HR2, Lib.hid ⟨HK2.out.1, HK2.out.2.1, rfl, by simp [HK2.out.2.2.2.2]⟩, HP3, Lib.hid (NW5.out.below ⟨rfl, rfl, rfl, Nat.le_refl _, fun _ _ => rfl⟩), OW5d _, BX5d _⟩
                case measure => simp [intOf]; omega
            · have t1 : ((tk : Int) == 0) = false := by rw [beq_eq_false_iff_ne]; omega
              have t1b : (tk == 0) = false := by rw [beq_eq_false_iff_ne]; omega
              clear hz hz1
              go_wp2_with fail
              (with_reducible refine (HAt.out _).mono ?_)
              rintro e w' ⟨rfl, rfl⟩
              go_upto_region 11 with fail
              rw [HOF.out]
              go_wp2_with fail
              (with_reducible refine (HAn.out _).mono ?_)
              rintro e w' ⟨rfl, rfl⟩
              go_upto_region 12 with fail
              rw [HMN.out]
              go_upto_region 13 with fail
              go_region_with (first
                | (go_at_call 13; refine (HID.out _ ?_).mono ?_; exact HSd.out; rintro e w3 ⟨x, L3, T3, rfl, o3⟩))
              all_goals
                have NW3 := Lib.hid (NW.out.drew.after o3.now (by rw [CTL.out]; exact NB.out))
                have OW3 := Lib.hid (own_sfr (show wr.drew.ownsRow Q 71 3 (.slice A1 k c1) k (cgc p) from OW.out) o3.fr HSd.out HQB.out (by decide))
                have BX3 := Lib.hid (BX.out.drew.sfr o3.fr HSd.out HQB.out (by decide))
                have HP3 := Lib.hid ((HP.out.ext NW.out.good.len o3.ext).snoc off tk o3.x0 o3.x1 o3.tx)
                have HA3 := Lib.hid (HA.out.sfr NW3.out.fr)
                clear o3
                have OW4 := Lib.hid (own_alloc OW3.out (.cells #[.int .i64 off, .int .i64 tk, .int .i64 x] 71))
                have NW4 := Lib.hid (NW3.out.alloc (.cells #[.int .i64 off, .int .i64 tk, .int .i64 x] 71))
                have BX4 := Lib.hid (BX3.out.alloc (.cells #[.int .i64 off, .int .i64 tk, .int .i64 x] 71))
                go_wp2_with (refine wpList_app _ (by rfl) (.tmp 90) (.tmp 95) _ rfl Q 71 i0_ _ 3 24 Try.underlying32 HI.out HZ.out HZ1.out HZ2.out rfl (by omega) (.slice A1 k c1) k (cgc p) rfl OW4.out (some ⟨w3.heap.size, 0, none⟩) 1 1 (cgc [⟨off, tk, x⟩]) rfl rfl ?row (cgc_one _) (by simp only [maxLen]; omega) (by omega) ?size ?_)
                case row => exact RowAt.of_block (heap_alloc_new w3 _)
                case size => have := NW4.out.fr.size; have := HQ.out; omega
                intro A5 c5 w5 own5 gr5 at5
                have NW5 := Lib.hid (NW4.out.grown OW4.out HQB.out (Nat.le_of_eq HQ.out) (by decide) gr5)
                have BX5 := Lib.hid (box_grown3 BX4.out OW4.out (by decide) gr5)
                rw [← cgc_app] at own5
                have OW5 := Lib.hid own5
                have OW5d : ∀ j, Hid ((w5.drewN j).ownsRow Q 71 3 (.slice A5 (k + 1) c5) (k + 1) (cgc (p ++ [⟨off, tk, x⟩]))) := fun j => Lib.hid (own_kept2 OW5.out fun _ _ => rfl)
                have BX5d : ∀ j, Hid (Box (w5.drewN j) Q 27 #[.pointer (some ⟨S, 0, none⟩), .pointer (some M)]) := fun j => Lib.hid (BX5.out.drewN j)
                obtain ⟨ad2, hA2, adl2, e0, e1, e2⟩ := row_ch (HA.out.sfr NW5.out.fr).1 HCI.out
                injection hA2 with hA2
                subst hA2
                simp only at e0 e1 e2
                have sb := fun w => str_both s fr off z sz fo oz w
                have cat1 := fun w => run_string_add_sum (P := Try.prog) (w := w) (s.extract fr off) ct (by rw [ByteArray.size_extract]; omega)
                have cat2 := fun w => run_string_add_sum (P := Try.prog) (w := w) md (s.extract fr off ++ ct) (by rw [ByteArray.size_append, ByteArray.size_extract]; omega)
                clear own5 gr5 at5 NW4 OW4 BX4 HA3
                go_wp2_with fail
                go_quiet (fail)
                go_wp2_with fail
                go_roundw
                case rel => exact ⟨i + 1, _, p ++ [⟨off, tk, x⟩], k + 1, c5, off + tk, A5, L3, T3, _, by go_num, by omega, rfl, rfl, by go_num, HR2, Lib.hid ⟨HK2.out.1, HK2.out.2.1, rfl, by simp [HK2.out.2.2.2.2]⟩, HP3, Lib.hid (NW5.out.below ⟨rfl, rfl, rfl, Nat.le_refl _, fun _ _ => rfl⟩), OW5d _, BX5d _⟩
                case measure => simp [intOf]; omega
    · have HX : Hid (m = mkRun s 0 l mk0) := Lib.hid (by rw [← HM.out]; exact (mkRun_stop s i l m (by rw [HL.out]; omega)).symm)
      have HF := Lib.hid (show DpOut B S G L T s l w (.returned (.tuple #[.slice A1 k c1, .string (md ++ s.extract fr z), .bool true])) wr from by
        obtain ⟨hok, hmd, hfr, hpl⟩ := HK.out
        refine ⟨A1, c1, p, L1, T1, ?_, NW.out.mono (by omega), ?_, ?_⟩
        · unfold mkTxt; rw [← HX.out, ← hmd, ← hfr, hpl, sz]
        · unfold mkOut; rw [← HX.out]; exact HP.out
        · rw [hpl, HQ.out]; exact OW.out)
      have HF2 : Hid (∀ j, DpOut B S G L T s l w (.returned (.tuple #[.slice A1 k c1, .string (md ++ s.extract fr z), .bool true])) (wr.drewN j)) := Lib.hid fun j => by
        obtain ⟨A, c, p, L', T', h1, h2, h3, h4⟩ := HF.out
        exact ⟨A, c, p, L', T', h1, h2.below ⟨rfl, rfl, rfl, Nat.le_refl _, fun _ _ => rfl⟩, h3, h4⟩
      clear HF
      by_cases hb1 : i < n
      · have i12 : i = 12 := by omega
        have l1 : decide ((i : Int) < (n : Int)) = true := by simp; exact hb1
        have l1b : decide (i < n) = true := by simp; exact hb1
        have l2 : decide ((i : Int) < 12) = false := by simp; omega
        have l2b : decide (i < 12) = false := by simp; omega
        clear hlt HM
        have sl := fun w => str_lo s fr z sz frz w
        have cat := fun w => run_string_add_sum (P := Try.prog) (w := w) md (s.extract fr z) (by rw [ByteArray.size_extract]; omega)
        go_wp2_with fail
        go_quiet (fail)
        go_wp2_with fail
        go_ret3
        exact HF2.out _
      · have l1 : decide ((i : Int) < (n : Int)) = false := by simp; omega
        have l1b : decide (i < n) = false := by simp; omega
        clear hlt HM
        have sl := fun w => str_lo s fr z sz frz w
        have cat := fun w => run_string_add_sum (P := Try.prog) (w := w) md (s.extract fr z) (by rw [ByteArray.size_extract]; omega)
        go_wp2_with fail
        go_quiet (fail)
        go_wp2_with fail
        go_ret3
        exact HF2.out _
end Go.Proofs.Ytolhjkpekmmajaa
/- The walk of the statements' patches: it returns true. -/
namespace Go.Proofs.Ytolhjkpekmmajaa
set_option linter.unusedVariables false
set_option linter.unusedSimpArgs false
open Go.RowKit Go.Lib Go.Maps
attribute [local go_sem ↓] Go.wp_at_zero Go.wp_at_succ
abbrev abc : ByteArray := ⟨#[97, 98, 99]⟩
abbrev axc : ByteArray := ⟨#[97, 120, 99]⟩
def oneCh : List Ch := [⟨1, 1, ⟨#[120]⟩⟩]
theorem abc_bi : bi abc = [97, 98, 99] := by decide
theorem one_out : mkOut abc oneCh = [(1, 1, [120])] := by decide
theorem one_txt : mkTxt abc oneCh = axc := by decide
theorem axc_str : strOfNums [97, 120, 99] = axc := by decide
/-- a row that lies in a fresh block of another kind than the store's entries -/
theorem RowK.fresh {w : World} {B S G : Nat} {L : List En} (st : St w B S G L) (t : TypeId) (ht : t ≠ 149) (cs : Array Value) {w' : World} (hw : w' = w.alloc (.cells cs t)) {g : Nat} (hg : g = w.heap.size) : RowK w' B S G (some ⟨g, 0, none⟩) cs.toList := by
  subst hw; subst hg
  have l := st.lt
  refine ⟨RowAt.of_block (heap_alloc_new w _), fun _ ad e => ?_⟩
  injection e with e; subst e
  refine ⟨by show w.heap.size ≠ S; omega, by show w.heap.size ≠ G; omega, fun cs2 fr e => ?_⟩
  have e : (w.alloc (.cells cs t)).heap[w.heap.size]? = some (.cells cs2 149 fr) := e
  rw [heap_alloc_new] at e
  injection e with e; injection e with _ e
  exact absurd e ht
theorem ido_text {B S G c : Nat} {L L' : List En} {T T' : List (List Int)} {w w' : World} (h : Now B S G L T c w w' L' T') (hg : Good L T) {x : Int} (h0 : 0 ≤ x) (h1 : x ≤ L.length) : tx T' x = tx T x ∧ x ≤ L'.length := ⟨h.ext.tx hg.len h0 h1, by have := h.ext.len; omega⟩
theorem SFr.to_below {w w2 w3 : World} {B S G : Nat} (h : SFr w2 w3 B S G) (hb : Below w.heap.size w w2) (hS : w.heap.size ≤ S) (hG : w.heap.size ≤ G) (hB : w.heap.size ≤ B) : Below w.heap.size w w3 :=
  ⟨h.os.trans hb.os, h.tape.trans hb.tape, h.output.trans hb.output, Nat.le_trans hb.size h.size, fun k hk => (h.keep k (Nat.lt_of_lt_of_le hk hb.size) (by omega) (by omega) (fun _ _ _ => by omega)).trans (hb.block k hk)⟩
theorem sc3 : 3 * sc_ 3 + cc_ 3 3 = 375 := by decide
set_option maxRecDepth 100000 in
set_option maxHeartbeats 16000000 in
theorem patches_any (w : World) : Calls Try.prog 5 #[] w fun r w' => r = .returned (.bool true) ∧ Below w.heap.size w w' := by
  go_enter Try.func5, Try.ntmps5
  go_wp2_with fail
  (with_reducible refine (topen_any _).mono ?_)
  rintro e w1 ⟨S, G, B, M, rfl, st, B1, hS, hG⟩
  have LB := Lib.hid (And.intro hS hG)
  have bS : w.heap.size ≤ B := by have := st.lt; omega
  have HB1 := Lib.hid B1
  have HBB := Lib.hid bS
  have BW2 := Lib.hid (balloc B1 (.cells #[.pointer (some ⟨S, 0, none⟩), .pointer (some M)] 27))
  have NW2 := Lib.hid ((Now.start st good_nil).alloc (.cells #[.pointer (some ⟨S, 0, none⟩), .pointer (some M)] 27))
  have BX2 := Lib.hid (Box.new w1 27 #[.pointer (some ⟨S, 0, none⟩), .pointer (some M)])
  have HQB : Hid (B ≤ w1.heap.size) := Lib.hid st.lt.2.2
  have HLB := Lib.hid st.lt
  have H1 : Hid (Calls Try.prog 13 #[deskV S M, .string abc] (w1.alloc (.cells #[.pointer (some ⟨S, 0, none⟩), .pointer (some M)] 27)) (TidOut B S G [] [] (bi abc) (w1.alloc (.cells #[.pointer (some ⟨S, 0, none⟩), .pointer (some M)] 27)))) := Lib.hid (tid_any [] [] good_nil abc (by decide) (by decide) B S G M _ NW2.out.st)
  have zz := (Box.new w1 27 #[.pointer (some ⟨S, 0, none⟩), .pointer (some M)]).lt
  obtain ⟨Q, hQ⟩ : ∃ Q, Q = w1.heap.size := ⟨_, rfl⟩
  clear B1 st hS hG
  go_wp2_with fail
  (with_reducible refine H1.out.mono ?_)
  rintro e w3 ⟨x, L1, T1, rfl, o1⟩
  have BX3 := BX2.out.sfr o1.fr NW2.out.st HQB.out (by decide)
  have q0 := BX3.cell 0; have q1 := BX3.cell 1
  simp only [List.getElem?_toArray, List.getElem?_cons_zero, List.getElem?_cons_succ] at q0 q1
  have q0l := BX3.lt
  have NW3 := Lib.hid (NW2.out.after o1.now (Nat.le_refl _))
  have HX := Lib.hid (show x ≤ L1.length ∧ 1 ≤ x ∧ tx T1 x = [97, 98, 99] from ⟨o1.x1, o1.x_pos (by decide), by rw [o1.tx, abc_bi]⟩)
  clear o1 H1 zz
  have NW4 := Lib.hid (NW3.out.alloc (.cells #[.int .i64 1, .int .i64 1, .string ⟨#[120]⟩] 60))
  have BX4 := Lib.hid (BX3.alloc (.cells #[.int .i64 1, .int .i64 1, .string ⟨#[120]⟩] 60))
  have HR4 := Lib.hid (RowK.fresh NW3.out.st 60 (by decide) #[.int .i64 1, .int .i64 1, .string ⟨#[120]⟩] rfl rfl)
  have H2 := Lib.hid (tpatch_any L1 T1 NW3.out.good abc (by decide) oneCh (by decide) 1 1 (some ⟨w3.heap.size, 0, none⟩) rfl (by decide) (by have := NW3.out.cnt; have e : (bi abc).length = 3 := rfl; simp [e] at this; omega) B S G M _ NW4.out.st HR4.out)
  clear BX3
  go_wp2_with fail
  (with_reducible refine H2.out.mono ?_)
  rintro e w5 ⟨A5, c5, p, L2, T2, rfl, nw5, hp, own5⟩
  have BX5 := BX4.out.sfr nw5.fr NW4.out.st HQB.out (by decide)
  have r0 := BX5.cell 0; have r1 := BX5.cell 1
  simp only [List.getElem?_toArray, List.getElem?_cons_zero, List.getElem?_cons_succ] at r0 r1
  rw [one_out] at hp
  obtain ⟨y, rfl, hy⟩ : ∃ y, p = [⟨1, 1, y⟩] ∧ tx T2 y = [120] := by
    have hl := hp.len
    match p, hl, hp with
    | [⟨pa, pn, px⟩], _, hp =>
      have h1 := hp.q
      simp [qs] at h1
      have h2 := hp.ok ⟨pa, pn, px⟩ (by simp)
      simp only at h2
      have e1 : pa = 1 := by omega
      have e2 : pn = 1 := by omega
      subst e1; subst e2
      exact ⟨px, rfl, h1.2.2⟩
  obtain ⟨y0, y1⟩ := (hp.ok _ (List.mem_singleton.2 rfl)).2.2
  have NW5 := Lib.hid (NW4.out.after nw5 (Nat.le_refl _))
  have ex := ido_text nw5 NW4.out.good (show 0 ≤ x by have := HX.out; omega) HX.out.1
  have tx2 : tx T2 x = [97, 98, 99] := ex.1.trans HX.out.2.2
  have hdx : (ent L2 x).dp ≤ (3 : Nat) := by
    have := (NW5.out.good.any (x := x) (by have := HX.out; omega) ex.2).dk
    rw [tx2] at this; exact this
  have hcnt : L2.length ≤ 1000 := by have := NW5.out.cnt; have e : (bi abc).length = 3 := rfl; simp [e] at this; omega
  have H3 := Lib.hid (apply_one 3 3 L2 T2 NW5.out.good x (by have := HX.out; omega) ex.2 hdx 1 1 y y0 y1 (by rw [tx2]; decide) (by rw [hy]; decide) (.inl (by decide)) (by rw [tx2]; decide) (by rw [tx2, hy]; decide) (by rw [sc3]; omega) c5 A5 B S G w5 NW5.out.st (RowK.of_own own5 NW5.out.st (by have := HQB.out; have := NW3.out.fr.size; simp at *; omega) (by decide)))
  rw [tx2, hy] at H3
  have eqt : ([97, 98, 99] : List Int).take 1 ++ ([120] ++ ([97, 98, 99] : List Int).drop (1 + 1)) = [97, 120, 99] := by decide
  rw [eqt] at H3
  have e5 := one_txt
  rw [e5]
  have BW5 := Lib.hid (NW5.out.fr)
  have r0l := BX5.lt
  have BX5' := Lib.hid BX5
  clear BX5 nw5 hp own5 hy ex tx2 hdx hcnt e5 eqt y0 y1 bS
  go_wp2_with fail
  (with_reducible refine H3.out.mono ?_)
  rintro e w6 ⟨z, L6, T6, rfl, o6⟩
  have BX6 := BX5'.out.sfr o6.fr NW5.out.st HQB.out (by decide)
  have s0 := BX6.cell 0; have s1 := BX6.cell 1
  simp only [List.getElem?_toArray, List.getElem?_cons_zero, List.getElem?_cons_succ] at s0 s1
  have s0l := BX6.lt
  have FR6 := Lib.hid (NW5.out.fr.trans o6.fr)
  have H4 := Lib.hid (ttext_any L6 T6 o6.good z (o6.x_pos (by decide)) o6.x1 [97, 120, 99] o6.tx (by decide) B S G M w6 o6.st)
  rw [axc_str] at H4
  clear BX6 o6
  go_wp2_with fail
  (with_reducible refine H4.out.mono ?_)
  rintro e w7 ⟨rfl, B7⟩
  have BW7 := Lib.hid ((FR6.out.below B7).to_below HB1.out LB.out.1 LB.out.2 HBB.out)
  clear B7
  go_wp2_with fail
  go_ret
  exact ⟨rfl, BW7.out⟩
end Go.Proofs.Ytolhjkpekmmajaa
