/- The walk of grammar.Expand. Written by wip/gen/grexpand.py. -/
import Derived.Test.YtcbahojefglakaaGrRLen
import Derived.Test.YtcbahojefglakaaGrText
import Derived.Test.YtcbahojefglakaaOwnB
import Derived.Deep.LoopGhost
import Derived.Laws.OwnMore
import Derived.WalkSmall
namespace Go.Proofs.Ytcbahojefglakaa
set_option linter.unusedVariables false
set_option linter.unusedSimpArgs false
open Go.RowKit Go.Lib
attribute [local go_sem ↓] Go.wp_at_zero Go.wp_at_succ
theorem own_ne {w : World} {b1 b2 : Nat} {e1 e2 : TypeId} {s1 s2 n1 n2 : Nat} {v1 v2 : Value} {x1 x2 : List Value} (h1 : w.ownsRow b1 e1 s1 v1 n1 x1) (h2 : w.ownsRow b2 e2 s2 v2 n2 x2) (hne : e1 ≠ e2) : v1.ownBlock = none ∨ v1.ownBlock ≠ v2.ownBlock := by
  rcases h1.2 with ⟨rfl, _⟩ | ⟨g1, c1, k1, rfl, _, hb1, _⟩
  · exact .inl rfl
  · refine .inr fun he => ?_
    rcases h2.2 with ⟨rfl, _⟩ | ⟨g2, c2, k2, rfl, _, hb2, _⟩
    · cases he
    · have : g1 = g2 := by simpa [Value.ownBlock] using he
      subst this
      rw [hb1] at hb2
      injection hb2 with hb2
      injection hb2 with _ ht
      exact hne ht
def BytesOut (l : List Int) (er : Value) (w : World) (e : Ending) (w' : World) : Prop := ∃ A c, e = .returned (.tuple #[.slice A l.length c, er]) ∧ RowAt w' A (vb l) ∧ Below w.heap.size w w'
theorem info_group : (Try.prog.info? 76).map (fun i => (i.zero, i.size, i.bytes)) = some (some (.agg #[.int .i64 0, .int .i64 0]), 2, 16) := by kernel_rfl
theorem sc_one (l : List (Nat × Nat)) : ∀ u ∈ sc l, u.oneCell' = true := by
  intro u hu
  simp only [sc, List.mem_flatMap] at hu
  obtain ⟨p, _, hp⟩ := hu
  simp at hp
  rcases hp with rfl | rfl <;> rfl
theorem mk_bytes0 (n : Nat) (hn : n ≤ 140737488355328) (w : World) :
    (Instr.makeSlice 27 (.int .i64 0) (.int .i64 (n : Int))).run Try.prog w = .ok (.slice (some ⟨w.heap.size, 0, none⟩) 0 n) (w.alloc (.cells (Array.replicate n (.int .u8 0)) 5)) := by
  obtain ⟨i, hi, hz, hs, hb⟩ := info_parts5 info_u8
  have h := run_make (P := Try.prog) w 27 5 i (.int .u8 0) Try.underlying27 hi hz .i64 .i64 0 (n : Int) (Int.le_refl _) (by omega) (by rw [hb]; omega) (by omega)
  rw [hs] at h
  have e : madeCells (Value.int .u8 0).cells ((n : Int).toNat * 1) = Array.replicate n (.int .u8 0) := by
    have e1 : (n : Int).toNat * 1 = n := by omega
    rw [e1]
    apply Array.ext_getElem?
    intro j
    by_cases hj : j < n <;> simp [madeCells, Value.cells, hj, Nat.mod_one]
  rw [e] at h
  simpa using h
/-- what the stack's own row comes to behind the taking of one copy -/
theorem own_popped {w : World} {base gs cs k s t : Nat} {e : TypeId} {stk : List (Nat × Nat)} (hk : stk.length = k) (h : w.ownsRow base e 2 (.slice (some ⟨gs, 0, none⟩) (k + 1) cs) (k + 1) (sc (stk ++ [(s, t + 1)]))) :
    (w.setCell ⟨gs, k * 2 + 1, none⟩ (.int .i64 (t : Int))).ownsRow base e 2 (.slice (some ⟨gs, 0, none⟩) (k + 1) cs) (k + 1) (sc stk ++ [.int .i64 (s : Int), .int .i64 (t : Int)]) ∧
      w.grownBy (w.setCell ⟨gs, k * 2 + 1, none⟩ (.int .i64 (t : Int))) (some gs) := by
  obtain ⟨h1, h2⟩ := h.stored (k * 2 + 1) (.int .i64 (t : Int))
  refine ⟨?_, h2⟩
  have e1 : (sc (stk ++ [(s, t + 1)])).set (k * 2 + 1) (.int .i64 (t : Int)) = sc stk ++ [.int .i64 (s : Int), .int .i64 (t : Int)] := by
    rw [sc_app, List.set_append_right _ _ (by rw [sc_len, hk]; omega), sc_len, hk, show k * 2 + 1 - k * 2 = 1 by omega]
    rfl
  rw [e1] at h1
  exact h1
theorem own_cap2 {w : World} {base : Nat} {e : TypeId} {size n c : Nat} {A : Option Addr} {xs : List Value} (h : w.ownsRow base e size (.slice A n c) n xs) : n ≤ c := by
  rcases h.2 with ⟨h1, h2⟩ | ⟨g, cap, cur, hv, _, _, hnc, _⟩
  · omega
  · injection hv with _ _ hc
    omega
set_option maxRecDepth 100000 in
set_option maxHeartbeats 16000000 in
theorem expand_ok (g : List Rl) (n m c : Nat) (A : Option Addr) (hl : g.length = n) (hm : n = m + 1) (hn : n ≤ 1000000) (hg : gcode 0 g = 0) (X : List Int) (hX : X = tx g m) (hX1 : X.length ≤ 65536) (most : Int) (hmost : ¬ clipI most 0 65536 < X.length)
    (L : List Int) (hL : L.length = n) (hLm : L.getD m 0 = X.length)
    (HLC : Hid (∀ w, RowAt w A (gc g) → Calls Try.prog 45 #[.slice A n c] w (IntsOut L .nilIface w))) (w : World) (ha : RowAt w A (gc g)) :
    Calls Try.prog 17 #[.slice A n c, .int .i64 most] w (BytesOut X .nilIface w) := by
  obtain ⟨i0_, hi, hz0, hz1, hz2⟩ := info_parts5 info_u8
  obtain ⟨i1_, hj, hy0, hy1, hy2⟩ := info_parts5 info_group
  have HI := Lib.hid hi; have HZ := Lib.hid hz0; have HZ1 := Lib.hid hz1; have HZ2 := Lib.hid hz2
  have HJ := Lib.hid hj; have HY := Lib.hid hy0; have HY1 := Lib.hid hy1; have HY2 := Lib.hid hy2
  obtain ⟨N, hN⟩ : ∃ N, N = X.length := ⟨_, rfl⟩
  obtain ⟨q, hq⟩ : ∃ q, q = clipI most 0 65536 := ⟨_, rfl⟩
  have HC := Lib.hid (fun w => clip_any most 0 65536 w)
  rw [← hq] at HC hmost
  rw [← hN] at hX1 hmost hLm
  have HXX := Lib.hid hX; have HNN := Lib.hid hN
  have HA := Lib.hid ha; have HL := Lib.hid hl; have HG := Lib.hid hg; have HLL := Lib.hid hL; have HLM := Lib.hid hLm
  have hqd : decide (q < (N : Int)) = false := decide_eq_false hmost
  have hn0 : ((n : Int) == 0) = false := by rw [beq_eq_false_iff_ne]; omega
  have hnm : (n : Int) - 1 = (m : Int) := by omega
  have HM := Lib.hid hm
  have nm1 : (m : Int) < (n : Int) := by omega
  have m0 : (0 : Int) ≤ (m : Int) := by omega
  have n1 : (1 : Int) ≤ (n : Int) := by omega
  clear hi hz0 hz1 hz2 hj hy0 hy1 hy2 hX hN hq ha hl hg hL hLm hm
  go_enter Try.func17, Try.ntmps17
  go_wp2_with fail
  (with_reducible refine (HLC.out _ HA.out).mono ?_)
  rintro e w1 ⟨A1, c1, rfl, R1, B1⟩
  rw [HLL.out]
  have hml : m < L.length := by rw [HLL.out, HM.out]; omega
  obtain ⟨a1, rfl, ha1, ca1⟩ := R1.get (vi_get hml)
  have cm : w1.cell? (a1.add m) = some (.int .i64 (N : Int)) := (row_cell R1 hml).trans (by rw [HLM.out])
  have BW1 := Lib.hid B1
  have HA1 := Lib.hid (HA.out.below B1 (Nat.le_refl _))
  clear R1 B1 ca1 hml
  go_wp2_with fail
  (with_reducible refine (HC.out _).mono ?_)
  rintro e w' ⟨rfl, rfl⟩
  have mk := fun w => mk_bytes0 N (by omega) w
  go_wp2_with fail
  clear mk
  have HO0 := Lib.hid (own_alloc (World.ownsRow_made (base := w1.heap.size) (e := 5) (size := 1) w1 (Array.replicate N (.int .u8 0)) N (Nat.le_refl _) (by simp only [maxLen]; omega) (by simp)) (.cells #[.int .i64 (n : Int), .int .i64 1] 76))
  have HS0 : Hid (((w1.alloc (.cells (Array.replicate N (.int .u8 0)) 5)).alloc (.cells #[.int .i64 (n : Int), .int .i64 1] 76)).ownsRow w1.heap.size 76 2 (.slice (some ⟨w1.heap.size + 1, 0, none⟩) 1 1) 1 (sc [(n, 1)])) := Lib.hid (by
    refine ⟨by simp [sc], .inr ⟨w1.heap.size + 1, 1, #[.int .i64 (n : Int), .int .i64 1], rfl, by omega, ?_, Nat.le_refl _, by simp [maxLen], rfl, rfl⟩⟩
    have := heap_alloc_new (w1.alloc (.cells (Array.replicate N (.int .u8 0)) 5)) (.cells #[.int .i64 (n : Int), .int .i64 1] 76)
    rw [World.size_alloc] at this
    exact this)
  have BX0 := Lib.hid (balloc (balloc (Below.refl w1.heap.size w1) (.cells (Array.replicate N (.int .u8 0)) 5)) (.cells #[.int .i64 (n : Int), .int .i64 1] 76))
  go_loopg [9, 10, 11, 12] (costS g [(n, 1)]) (fun gk so ss _ _ wr => ∃ (out : List Int) (stk : List (Nat × Nat)) (Ao : Option Addr) (mo co : Nat) (As : Option Addr) (ms cs : Nat), so = .slice Ao mo co ∧ ss = .slice As ms cs ∧
    Hid (gk = costS g stk) ∧ Hid (out ++ rest g stk = X ∧ out.length = mo ∧ stk.length = ms) ∧ Hid (StkOk g stk) ∧ Hid (wr.ownsRow w1.heap.size 5 1 (.slice Ao mo co) mo (vb out)) ∧ Hid (wr.ownsRow w1.heap.size 76 2 (.slice As ms cs) ms (sc stk)) ∧ Hid (Below w1.heap.size w1 wr))
  case atStart =>
    refine ⟨[], [(n, 1)], _, 0, N, _, 1, 1, rfl, rfl, Lib.hid rfl, Lib.hid ⟨?_, rfl, rfl⟩, Lib.hid (StkOk.one (by omega) (by rw [HL.out]; exact Nat.le_refl _) (Nat.le_refl _)), HO0, HS0, BX0⟩
    have e : n - 1 = m := by omega
    rw [HXX.out]
    simp [rest, pile, e]
  case round =>
    obtain ⟨out, stk, Ao, mo, co, As, ms, cs, rfl, rfl, HK, HR, HS, HO, HW, BX⟩ := hrel
    clear HO0 HS0 BX0
    by_cases hz : ms = 0
    · subst hz
      have hs0 : stk = [] := List.eq_nil_of_length_eq_zero HR.out.2.2
      have HX2 : Hid (out = X) := Lib.hid (by have := HR.out.1; rw [hs0] at this; simpa [rest_nil] using this)
      clear hs0
      go_wp2_with fail
      go_ret2
      exact ⟨Ao, co, by rw [← HX2.out, HR.out.2.1]; rfl, by rw [← HX2.out]; exact own_row _ HO.out, BW1.out.trans (BX.out.mono BW1.out.size)⟩
    · obtain ⟨k, hk⟩ : ∃ k, ms = k + 1 := ⟨ms - 1, by omega⟩
      subst hk
      obtain ⟨stk', p, hsp⟩ : ∃ stk' p, stk = stk' ++ [p] := by
        rcases List.eq_nil_or_concat stk with h | ⟨a, b, h⟩
        · have := HR.out.2.2; rw [h] at this; simp at this
        · exact ⟨a, b, by rw [h, List.concat_eq_append]⟩
      obtain ⟨s, t1⟩ := p
      have hok := HS.out (s, t1) (by rw [hsp]; simp)
      obtain ⟨s0, rfl⟩ : ∃ s0, s = s0 + 1 := ⟨s - 1, by omega⟩
      obtain ⟨t, rfl⟩ : ∃ t, t1 = t + 1 := ⟨t1 - 1, by omega⟩
      have hlk : stk'.length = k := by have := HR.out.2.2; rw [hsp] at this; simpa using this
      rw [hsp] at HK HR HS HW
      have hrl := (rest_len HG.out _ HS.out).2 (s0 + 1, t + 1) (by simp)
      have hrl2 := (rest_len HG.out _ HS.out).1
      have hxl : out.length + (rest g (stk' ++ [(s0 + 1, t + 1)])).length = N := by rw [← List.length_append, HR.out.1, ← HNN.out]
      have ht2 : t + 1 ≤ 65536 := by simp only at hrl; omega
      have hk2 : k + 1 ≤ 65536 := by rw [List.length_append, hlk] at hrl2; simp at hrl2; omega
      obtain ⟨gs, cs', hv, hgs, hgl⟩ := HW.out.form (by omega)
      have hAs : As = some ⟨gs, 0, none⟩ := by injection hv
      subst hAs
      clear hv
      have hs3 : s0 < g.length := by have := hok.2.1; simp only at this; omega
      have hs4 : (s0 : Int) < (n : Int) := by rw [HL.out] at hs3; omega
      obtain ⟨r, hr⟩ : ∃ r, g[s0]? = some r := ⟨_, List.getElem?_eq_getElem hs3⟩
      have y0 : wr.cell? ⟨gs, k * 2, none⟩ = some (.int .i64 ((s0 : Int) + 1)) := (HW.out.cellAt (k * 2) (by omega)).trans (by
        rw [sc_app, List.getElem?_append_right (by rw [sc_len, hlk]; omega), sc_len, hlk, Nat.sub_self]; rfl)
      have y1 : wr.cell? ⟨gs, k * 2 + 1, none⟩ = some (.int .i64 ((t : Int) + 1)) := (HW.out.cellAt (k * 2 + 1) (by omega)).trans (by
        rw [sc_app, List.getElem?_append_right (by rw [sc_len, hlk]; omega), sc_len, hlk, show k * 2 + 1 - k * 2 = 1 by omega]; rfl)
      have fz0 := HW.out.frozenAt (k * 2); have fz1 := HW.out.frozenAt (k * 2 + 1)
      obtain ⟨ad, rfl, hadl, c0, c1, c2, c3, c4⟩ := row_rl (HA1.out.below BX.out (Nat.le_refl _)) hr
      have zgs : gs ≠ wr.heap.size := by omega
      have had2 : (ad.add (s0 * 5)).block ≠ gs := by
        rw [block_add]
        have := HA1.out.get (gc_get (j := 0) hr rfl)
        obtain ⟨a2, e2, hl2, _⟩ := this
        cases e2
        omega
      obtain ⟨hp1, hp2⟩ := own_popped hlk HW.out
      obtain ⟨tv, htv⟩ : ∃ tv : Int, tv = (t : Int) := ⟨_, rfl⟩
      rw [← htv] at hp1 hp2 y1
      have HW2 := Lib.hid hp1
      have HO2 := Lib.hid (HO.out.kept hp2 (own_ne HO.out HW.out (by decide)))
      have BX2 := Lib.hid (BX.out.grown hp2 BX.out.size (fun j hj => by injection hj with hj; omega))
      have tv0 : 0 ≤ tv := by omega
      have tv1 : tv ≤ 65536 := by omega
      have HTV := Lib.hid htv
      have HP : Hid (rest g (stk' ++ [(s0 + 1, t + 1)]) = tx g s0 ++ rest g (popped stk' (s0 + 1) t)) := Lib.hid (rest_pop g stk' (s0 + 1) t)
      have HCC : Hid (gk = costS g (popped stk' (s0 + 1) t) + cst g s0) := Lib.hid (HK.out.trans (cost_pop g stk' (s0 + 1) t))
      have HSP := Lib.hid HS.out.pop
      have HXL := Lib.hid hxl
      have HLK := Lib.hid hlk
      have k0 : (0 : Int) ≤ (k : Int) := by omega
      have hway := rule_way' HG.out hr
      have HRR := Lib.hid hr
      have hcs := own_cap2 HW.out
      have HSZ := Lib.hid (BX.out.size)
      clear hp1 hp2 hok hsp hrl hrl2 hxl hlk hr hs3 htv
      rcases hway with ⟨lt, rfl⟩ | ⟨a, b, rfl, hab, hbb⟩ | ⟨a, tm, rfl, hab, htm⟩

      · simp only at c0 c1 c2 c3 c4
        by_cases ht0 : t = 0
        · as_aux_lemma =>
            obtain rfl : tv = 0 := by have := HTV.out; omega
            have hpp : popped stk' (s0 + 1) t = stk' := if_pos ht0
            have HWp : Hid ((wr.setCell ⟨gs, k * 2 + 1, none⟩ (.int .i64 0)).ownsRow w1.heap.size 76 2 (.slice (some ⟨gs, 0, none⟩) k cs) k (sc (popped stk' (s0 + 1) t))) := Lib.hid (by rw [hpp]; exact ownsRow_pop (by rw [sc_len, HLK.out]) HW2.out)
            have HPL : Hid ((popped stk' (s0 + 1) t).length = k) := Lib.hid (by rw [hpp]; exact HLK.out)
            have kc : (k : Int) ≤ cs := by omega
            clear hpp ht0
            have HAp := Lib.hid (own_alloc (own_alloc HO2.out (.cells #[.int .i64 1, .int .u8 lt, .int .i64 0, .int .i64 0, .int .i64 0] 46)) (.cells #[.int .u8 lt] 5))
            have hmo : mo + 1 ≤ 65537 := by have := HXL.out; have := HR.out.2.1; omega
            go_wp2_with (refine wpList_app _ (by rfl) (.tmp 78) (.tmp 81) _ rfl w1.heap.size 5 i0_ _ 1 1 Try.underlying27 HI.out HZ.out HZ1.out HZ2.out rfl (by omega) (.slice Ao mo co) mo (vb out) rfl HAp.out (some ⟨wr.heap.size + 1, 0, none⟩) 1 1 (vb [lt]) rfl ?len ?row (vb_one _) (by simp only [maxLen]; omega) (by omega) ?size ?_)
            case len => rfl
            case row => exact RowAt.new _ _ _ (by simp) (by simp [vb])
            case size => have := HSZ.out; simp; omega
            intro A3 c3 w3 own3 gr3 at3
            have BX3 := Lib.hid ((balloc' (balloc' BX2.out (by have := HSZ.out; simp; omega) (.cells #[.int .i64 1, .int .u8 lt, .int .i64 0, .int .i64 0, .int .i64 0] 46)) (by have := HSZ.out; simp; omega) (.cells #[.int .u8 lt] 5)).grown gr3 (by have := HSZ.out; simp; omega) (own_ge HAp.out))
            have HW3 := Lib.hid ((own_alloc (own_alloc HWp.out (.cells #[.int .i64 1, .int .u8 lt, .int .i64 0, .int .i64 0, .int .i64 0] 46)) (.cells #[.int .u8 lt] 5)).kept gr3 (own_ne (own_alloc (own_alloc HWp.out (.cells #[.int .i64 1, .int .u8 lt, .int .i64 0, .int .i64 0, .int .i64 0] 46)) (.cells #[.int .u8 lt] 5)) HAp.out (by decide)))
            rw [← vb_app] at own3
            have HO3 := Lib.hid own3
            clear own3 gr3 at3
            go_wp2_with fail
            go_roundg (costS g (popped stk' (s0 + 1) t))
            case measure => have := HCC.out; rw [cst_letter HRR.out] at this; omega
            case rel => exact ⟨out ++ [lt], popped stk' (s0 + 1) t, A3, mo + 1, c3, some ⟨gs, 0, none⟩, k, cs, rfl, rfl, Lib.hid rfl, Lib.hid ⟨by have := HR.out.1; rw [HP.out, tx_letter HRR.out] at this; simpa using this, by rw [List.length_append, HR.out.2.1]; rfl, HPL.out⟩, HSP, HO3, HW3, BX3⟩
        · as_aux_lemma =>
            have hpp : popped stk' (s0 + 1) t = stk' ++ [(s0 + 1, t)] := if_neg ht0
            have tz : (tv == 0) = false := by have := HTV.out; rw [beq_eq_false_iff_ne]; omega
            have HWp : Hid ((wr.setCell ⟨gs, k * 2 + 1, none⟩ (.int .i64 tv)).ownsRow w1.heap.size 76 2 (.slice (some ⟨gs, 0, none⟩) (k + 1) cs) (k + 1) (sc (popped stk' (s0 + 1) t))) := Lib.hid (by have h := HW2.out; rw [HTV.out] at h ⊢; rw [hpp, sc_app]; exact h)
            have HPL : Hid ((popped stk' (s0 + 1) t).length = k + 1) := Lib.hid (by rw [hpp, List.length_append, HLK.out]; rfl)
            clear hpp ht0
            have HAp := Lib.hid (own_alloc (own_alloc HO2.out (.cells #[.int .i64 1, .int .u8 lt, .int .i64 0, .int .i64 0, .int .i64 0] 46)) (.cells #[.int .u8 lt] 5))
            have hmo : mo + 1 ≤ 65537 := by have := HXL.out; have := HR.out.2.1; omega
            go_wp2_with (refine wpList_app _ (by rfl) (.tmp 78) (.tmp 81) _ rfl w1.heap.size 5 i0_ _ 1 1 Try.underlying27 HI.out HZ.out HZ1.out HZ2.out rfl (by omega) (.slice Ao mo co) mo (vb out) rfl HAp.out (some ⟨wr.heap.size + 1, 0, none⟩) 1 1 (vb [lt]) rfl ?len ?row (vb_one _) (by simp only [maxLen]; omega) (by omega) ?size ?_)
            case len => rfl
            case row => exact RowAt.new _ _ _ (by simp) (by simp [vb])
            case size => have := HSZ.out; simp; omega
            intro A3 c3 w3 own3 gr3 at3
            have BX3 := Lib.hid ((balloc' (balloc' BX2.out (by have := HSZ.out; simp; omega) (.cells #[.int .i64 1, .int .u8 lt, .int .i64 0, .int .i64 0, .int .i64 0] 46)) (by have := HSZ.out; simp; omega) (.cells #[.int .u8 lt] 5)).grown gr3 (by have := HSZ.out; simp; omega) (own_ge HAp.out))
            have HW3 := Lib.hid ((own_alloc (own_alloc HWp.out (.cells #[.int .i64 1, .int .u8 lt, .int .i64 0, .int .i64 0, .int .i64 0] 46)) (.cells #[.int .u8 lt] 5)).kept gr3 (own_ne (own_alloc (own_alloc HWp.out (.cells #[.int .i64 1, .int .u8 lt, .int .i64 0, .int .i64 0, .int .i64 0] 46)) (.cells #[.int .u8 lt] 5)) HAp.out (by decide)))
            rw [← vb_app] at own3
            have HO3 := Lib.hid own3
            clear own3 gr3 at3
            go_wp2_with fail
            go_roundg (costS g (popped stk' (s0 + 1) t))
            case measure => have := HCC.out; rw [cst_letter HRR.out] at this; omega
            case rel => exact ⟨out ++ [lt], popped stk' (s0 + 1) t, A3, mo + 1, c3, some ⟨gs, 0, none⟩, k + 1, cs, rfl, rfl, Lib.hid rfl, Lib.hid ⟨by have := HR.out.1; rw [HP.out, tx_letter HRR.out] at this; simpa using this, by rw [List.length_append, HR.out.2.1]; rfl, HPL.out⟩, HSP, HO3, HW3, BX3⟩
      · simp only at c0 c1 c2 c3 c4
        by_cases ht0 : t = 0
        · as_aux_lemma =>
            obtain rfl : tv = 0 := by have := HTV.out; omega
            have hpp : popped stk' (s0 + 1) t = stk' := if_pos ht0
            have HWp : Hid ((wr.setCell ⟨gs, k * 2 + 1, none⟩ (.int .i64 0)).ownsRow w1.heap.size 76 2 (.slice (some ⟨gs, 0, none⟩) k cs) k (sc (popped stk' (s0 + 1) t))) := Lib.hid (by rw [hpp]; exact ownsRow_pop (by rw [sc_len, HLK.out]) HW2.out)
            have HPL : Hid ((popped stk' (s0 + 1) t).length = k) := Lib.hid (by rw [hpp]; exact HLK.out)
            have kc : (k : Int) ≤ cs := by omega
            clear hpp ht0
            have HAp := Lib.hid (own_alloc (own_alloc HWp.out (.cells #[.int .i64 2, .int .u8 0, .int .i64 ((a : Int) + 1), .int .i64 ((b : Int) + 1), .int .i64 0] 46)) (.cells #[.int .i64 ((b : Int) + 1), .int .i64 1, .int .i64 ((a : Int) + 1), .int .i64 1] 76))
            have hmo : mo + 1 ≤ 65537 := by have := HXL.out; have := HR.out.2.1; omega
            go_wp2_with (refine wpList_app _ (by rfl) (.tmp 85) (.tmp 92) _ rfl w1.heap.size 76 i1_ _ 2 16 Try.underlying77 HJ.out HY.out HY1.out HY2.out rfl (by omega) (.slice (some ⟨gs, 0, none⟩) (k) cs) (k) (sc (popped stk' (s0 + 1) t)) rfl HAp.out (some ⟨wr.heap.size + 1, 0, none⟩) 2 2 (sc [(b + 1, 1), (a + 1, 1)]) rfl ?len ?row (sc_one _) (by simp only [maxLen]; omega) (by omega) ?size ?_)
            case len => rfl
            case row => exact RowAt.new _ _ _ (by simp) (by simp [sc])
            case size => have := HSZ.out; simp; omega
            intro A3 c3 w3 own3 gr3 at3
            have BX3 := Lib.hid ((balloc' (balloc' BX2.out (by have := HSZ.out; simp; omega) (.cells #[.int .i64 2, .int .u8 0, .int .i64 ((a : Int) + 1), .int .i64 ((b : Int) + 1), .int .i64 0] 46)) (by have := HSZ.out; simp; omega) (.cells #[.int .i64 ((b : Int) + 1), .int .i64 1, .int .i64 ((a : Int) + 1), .int .i64 1] 76)).grown gr3 (by have := HSZ.out; simp; omega) (own_ge HAp.out))
            have HO3 := Lib.hid ((own_alloc (own_alloc HO2.out (.cells #[.int .i64 2, .int .u8 0, .int .i64 ((a : Int) + 1), .int .i64 ((b : Int) + 1), .int .i64 0] 46)) (.cells #[.int .i64 ((b : Int) + 1), .int .i64 1, .int .i64 ((a : Int) + 1), .int .i64 1] 76)).kept gr3 (own_ne (own_alloc (own_alloc HO2.out (.cells #[.int .i64 2, .int .u8 0, .int .i64 ((a : Int) + 1), .int .i64 ((b : Int) + 1), .int .i64 0] 46)) (.cells #[.int .i64 ((b : Int) + 1), .int .i64 1, .int .i64 ((a : Int) + 1), .int .i64 1] 76)) HAp.out (by decide)))
            rw [← sc_app] at own3
            have HW3 := Lib.hid own3
            clear own3 gr3 at3
            go_wp2_with fail
            go_roundg (costS g (popped stk' (s0 + 1) t ++ [(b + 1, 1), (a + 1, 1)]))
            case measure =>
              have := HCC.out; rw [cst_pair HRR.out hab hbb] at this
              have e : costS g (popped stk' (s0 + 1) t ++ [(b + 1, 1), (a + 1, 1)]) = costS g (popped stk' (s0 + 1) t) + (cst g b + cst g a) := by simp [costS]
              omega
            case rel =>
              refine ⟨out, popped stk' (s0 + 1) t ++ [(b + 1, 1), (a + 1, 1)], Ao, mo, co, A3, k + 2, c3, rfl, rfl, Lib.hid rfl, Lib.hid ⟨?_, HR.out.2.1, by rw [List.length_append, HPL.out]; rfl⟩, Lib.hid (HSP.out.app ?_), HO3, HW3, BX3⟩
              · have := HR.out.1; rw [HP.out, tx_pair HRR.out hab hbb] at this
                rw [← this, show popped stk' (s0 + 1) t ++ [(b + 1, 1), (a + 1, 1)] = (popped stk' (s0 + 1) t ++ [(b + 1, 1)]) ++ [(a + 1, 1)] by simp, rest_snoc, rest_snoc]
                simp [pile]
              · intro p hp
                have hs3 := HS.out (s0 + 1, t + 1) (by simp)
                simp only at hs3
                simp at hp
                rcases hp with rfl | rfl
                · exact ⟨by omega, by simp only; omega, Nat.le_refl _⟩
                · exact ⟨by omega, by simp only; omega, Nat.le_refl _⟩
        · as_aux_lemma =>
            have hpp : popped stk' (s0 + 1) t = stk' ++ [(s0 + 1, t)] := if_neg ht0
            have tz : (tv == 0) = false := by have := HTV.out; rw [beq_eq_false_iff_ne]; omega
            have HWp : Hid ((wr.setCell ⟨gs, k * 2 + 1, none⟩ (.int .i64 tv)).ownsRow w1.heap.size 76 2 (.slice (some ⟨gs, 0, none⟩) (k + 1) cs) (k + 1) (sc (popped stk' (s0 + 1) t))) := Lib.hid (by have h := HW2.out; rw [HTV.out] at h ⊢; rw [hpp, sc_app]; exact h)
            have HPL : Hid ((popped stk' (s0 + 1) t).length = k + 1) := Lib.hid (by rw [hpp, List.length_append, HLK.out]; rfl)
            clear hpp ht0
            have HAp := Lib.hid (own_alloc (own_alloc HWp.out (.cells #[.int .i64 2, .int .u8 0, .int .i64 ((a : Int) + 1), .int .i64 ((b : Int) + 1), .int .i64 0] 46)) (.cells #[.int .i64 ((b : Int) + 1), .int .i64 1, .int .i64 ((a : Int) + 1), .int .i64 1] 76))
            have hmo : mo + 1 ≤ 65537 := by have := HXL.out; have := HR.out.2.1; omega
            go_wp2_with (refine wpList_app _ (by rfl) (.tmp 85) (.tmp 92) _ rfl w1.heap.size 76 i1_ _ 2 16 Try.underlying77 HJ.out HY.out HY1.out HY2.out rfl (by omega) (.slice (some ⟨gs, 0, none⟩) (k + 1) cs) (k + 1) (sc (popped stk' (s0 + 1) t)) rfl HAp.out (some ⟨wr.heap.size + 1, 0, none⟩) 2 2 (sc [(b + 1, 1), (a + 1, 1)]) rfl ?len ?row (sc_one _) (by simp only [maxLen]; omega) (by omega) ?size ?_)
            case len => rfl
            case row => exact RowAt.new _ _ _ (by simp) (by simp [sc])
            case size => have := HSZ.out; simp; omega
            intro A3 c3 w3 own3 gr3 at3
            have BX3 := Lib.hid ((balloc' (balloc' BX2.out (by have := HSZ.out; simp; omega) (.cells #[.int .i64 2, .int .u8 0, .int .i64 ((a : Int) + 1), .int .i64 ((b : Int) + 1), .int .i64 0] 46)) (by have := HSZ.out; simp; omega) (.cells #[.int .i64 ((b : Int) + 1), .int .i64 1, .int .i64 ((a : Int) + 1), .int .i64 1] 76)).grown gr3 (by have := HSZ.out; simp; omega) (own_ge HAp.out))
            have HO3 := Lib.hid ((own_alloc (own_alloc HO2.out (.cells #[.int .i64 2, .int .u8 0, .int .i64 ((a : Int) + 1), .int .i64 ((b : Int) + 1), .int .i64 0] 46)) (.cells #[.int .i64 ((b : Int) + 1), .int .i64 1, .int .i64 ((a : Int) + 1), .int .i64 1] 76)).kept gr3 (own_ne (own_alloc (own_alloc HO2.out (.cells #[.int .i64 2, .int .u8 0, .int .i64 ((a : Int) + 1), .int .i64 ((b : Int) + 1), .int .i64 0] 46)) (.cells #[.int .i64 ((b : Int) + 1), .int .i64 1, .int .i64 ((a : Int) + 1), .int .i64 1] 76)) HAp.out (by decide)))
            rw [← sc_app] at own3
            have HW3 := Lib.hid own3
            clear own3 gr3 at3
            go_wp2_with fail
            go_roundg (costS g (popped stk' (s0 + 1) t ++ [(b + 1, 1), (a + 1, 1)]))
            case measure =>
              have := HCC.out; rw [cst_pair HRR.out hab hbb] at this
              have e : costS g (popped stk' (s0 + 1) t ++ [(b + 1, 1), (a + 1, 1)]) = costS g (popped stk' (s0 + 1) t) + (cst g b + cst g a) := by simp [costS]
              omega
            case rel =>
              refine ⟨out, popped stk' (s0 + 1) t ++ [(b + 1, 1), (a + 1, 1)], Ao, mo, co, A3, k + 1 + 2, c3, rfl, rfl, Lib.hid rfl, Lib.hid ⟨?_, HR.out.2.1, by rw [List.length_append, HPL.out]; rfl⟩, Lib.hid (HSP.out.app ?_), HO3, HW3, BX3⟩
              · have := HR.out.1; rw [HP.out, tx_pair HRR.out hab hbb] at this
                rw [← this, show popped stk' (s0 + 1) t ++ [(b + 1, 1), (a + 1, 1)] = (popped stk' (s0 + 1) t ++ [(b + 1, 1)]) ++ [(a + 1, 1)] by simp, rest_snoc, rest_snoc]
                simp [pile]
              · intro p hp
                have hs3 := HS.out (s0 + 1, t + 1) (by simp)
                simp only at hs3
                simp at hp
                rcases hp with rfl | rfl
                · exact ⟨by omega, by simp only; omega, Nat.le_refl _⟩
                · exact ⟨by omega, by simp only; omega, Nat.le_refl _⟩
      · simp only at c0 c1 c2 c3 c4
        by_cases ht0 : t = 0
        · as_aux_lemma =>
            obtain rfl : tv = 0 := by have := HTV.out; omega
            have hpp : popped stk' (s0 + 1) t = stk' := if_pos ht0
            have HWp : Hid ((wr.setCell ⟨gs, k * 2 + 1, none⟩ (.int .i64 0)).ownsRow w1.heap.size 76 2 (.slice (some ⟨gs, 0, none⟩) k cs) k (sc (popped stk' (s0 + 1) t))) := Lib.hid (by rw [hpp]; exact ownsRow_pop (by rw [sc_len, HLK.out]) HW2.out)
            have HPL : Hid ((popped stk' (s0 + 1) t).length = k) := Lib.hid (by rw [hpp]; exact HLK.out)
            have kc : (k : Int) ≤ cs := by omega
            clear hpp ht0
            obtain ⟨T, rfl⟩ := Int.eq_ofNat_of_zero_le (by omega : 0 ≤ tm)
            have HAp := Lib.hid (own_alloc (own_alloc HWp.out (.cells #[.int .i64 3, .int .u8 0, .int .i64 ((a : Int) + 1), .int .i64 0, .int .i64 (T : Int)] 46)) (.cells #[.int .i64 ((a : Int) + 1), .int .i64 (T : Int)] 76))
            have hmo : mo + 1 ≤ 65537 := by have := HXL.out; have := HR.out.2.1; omega
            go_wp2_with (refine wpList_app _ (by rfl) (.tmp 96) (.tmp 102) _ rfl w1.heap.size 76 i1_ _ 2 16 Try.underlying77 HJ.out HY.out HY1.out HY2.out rfl (by omega) (.slice (some ⟨gs, 0, none⟩) (k) cs) (k) (sc (popped stk' (s0 + 1) t)) rfl HAp.out (some ⟨wr.heap.size + 1, 0, none⟩) 1 1 (sc [(a + 1, T)]) rfl ?len ?row (sc_one _) (by simp only [maxLen]; omega) (by omega) ?size ?_)
            case len => rfl
            case row => exact RowAt.new _ _ _ (by simp) (by simp [sc])
            case size => have := HSZ.out; simp; omega
            intro A3 c3 w3 own3 gr3 at3
            have BX3 := Lib.hid ((balloc' (balloc' BX2.out (by have := HSZ.out; simp; omega) (.cells #[.int .i64 3, .int .u8 0, .int .i64 ((a : Int) + 1), .int .i64 0, .int .i64 (T : Int)] 46)) (by have := HSZ.out; simp; omega) (.cells #[.int .i64 ((a : Int) + 1), .int .i64 (T : Int)] 76)).grown gr3 (by have := HSZ.out; simp; omega) (own_ge HAp.out))
            have HO3 := Lib.hid ((own_alloc (own_alloc HO2.out (.cells #[.int .i64 3, .int .u8 0, .int .i64 ((a : Int) + 1), .int .i64 0, .int .i64 (T : Int)] 46)) (.cells #[.int .i64 ((a : Int) + 1), .int .i64 (T : Int)] 76)).kept gr3 (own_ne (own_alloc (own_alloc HO2.out (.cells #[.int .i64 3, .int .u8 0, .int .i64 ((a : Int) + 1), .int .i64 0, .int .i64 (T : Int)] 46)) (.cells #[.int .i64 ((a : Int) + 1), .int .i64 (T : Int)] 76)) HAp.out (by decide)))
            rw [← sc_app] at own3
            have HW3 := Lib.hid own3
            clear own3 gr3 at3
            go_wp2_with fail
            go_roundg (costS g (popped stk' (s0 + 1) t ++ [(a + 1, T)]))
            case measure =>
              have := HCC.out; rw [cst_power HRR.out hab] at this
              rw [cost_snoc]
              simp only [Int.toNat_natCast, Nat.add_sub_cancel] at this ⊢
              omega
            case rel =>
              refine ⟨out, popped stk' (s0 + 1) t ++ [(a + 1, T)], Ao, mo, co, A3, k + 1, c3, rfl, rfl, Lib.hid rfl, Lib.hid ⟨?_, HR.out.2.1, by rw [List.length_append, HPL.out]; rfl⟩, Lib.hid (HSP.out.app ?_), HO3, HW3, BX3⟩
              · have := HR.out.1; rw [HP.out, tx_power HRR.out hab] at this
                rw [← this, rest_snoc]
                simp [pile]
              · have hs3 := HS.out (s0 + 1, t + 1) (by simp)
                simp only at hs3
                exact StkOk.one (by omega) (by omega) (by omega)
        · as_aux_lemma =>
            have hpp : popped stk' (s0 + 1) t = stk' ++ [(s0 + 1, t)] := if_neg ht0
            have tz : (tv == 0) = false := by have := HTV.out; rw [beq_eq_false_iff_ne]; omega
            have HWp : Hid ((wr.setCell ⟨gs, k * 2 + 1, none⟩ (.int .i64 tv)).ownsRow w1.heap.size 76 2 (.slice (some ⟨gs, 0, none⟩) (k + 1) cs) (k + 1) (sc (popped stk' (s0 + 1) t))) := Lib.hid (by have h := HW2.out; rw [HTV.out] at h ⊢; rw [hpp, sc_app]; exact h)
            have HPL : Hid ((popped stk' (s0 + 1) t).length = k + 1) := Lib.hid (by rw [hpp, List.length_append, HLK.out]; rfl)
            clear hpp ht0
            obtain ⟨T, rfl⟩ := Int.eq_ofNat_of_zero_le (by omega : 0 ≤ tm)
            have HAp := Lib.hid (own_alloc (own_alloc HWp.out (.cells #[.int .i64 3, .int .u8 0, .int .i64 ((a : Int) + 1), .int .i64 0, .int .i64 (T : Int)] 46)) (.cells #[.int .i64 ((a : Int) + 1), .int .i64 (T : Int)] 76))
            have hmo : mo + 1 ≤ 65537 := by have := HXL.out; have := HR.out.2.1; omega
            go_wp2_with (refine wpList_app _ (by rfl) (.tmp 96) (.tmp 102) _ rfl w1.heap.size 76 i1_ _ 2 16 Try.underlying77 HJ.out HY.out HY1.out HY2.out rfl (by omega) (.slice (some ⟨gs, 0, none⟩) (k + 1) cs) (k + 1) (sc (popped stk' (s0 + 1) t)) rfl HAp.out (some ⟨wr.heap.size + 1, 0, none⟩) 1 1 (sc [(a + 1, T)]) rfl ?len ?row (sc_one _) (by simp only [maxLen]; omega) (by omega) ?size ?_)
            case len => rfl
            case row => exact RowAt.new _ _ _ (by simp) (by simp [sc])
            case size => have := HSZ.out; simp; omega
            intro A3 c3 w3 own3 gr3 at3
            have BX3 := Lib.hid ((balloc' (balloc' BX2.out (by have := HSZ.out; simp; omega) (.cells #[.int .i64 3, .int .u8 0, .int .i64 ((a : Int) + 1), .int .i64 0, .int .i64 (T : Int)] 46)) (by have := HSZ.out; simp; omega) (.cells #[.int .i64 ((a : Int) + 1), .int .i64 (T : Int)] 76)).grown gr3 (by have := HSZ.out; simp; omega) (own_ge HAp.out))
            have HO3 := Lib.hid ((own_alloc (own_alloc HO2.out (.cells #[.int .i64 3, .int .u8 0, .int .i64 ((a : Int) + 1), .int .i64 0, .int .i64 (T : Int)] 46)) (.cells #[.int .i64 ((a : Int) + 1), .int .i64 (T : Int)] 76)).kept gr3 (own_ne (own_alloc (own_alloc HO2.out (.cells #[.int .i64 3, .int .u8 0, .int .i64 ((a : Int) + 1), .int .i64 0, .int .i64 (T : Int)] 46)) (.cells #[.int .i64 ((a : Int) + 1), .int .i64 (T : Int)] 76)) HAp.out (by decide)))
            rw [← sc_app] at own3
            have HW3 := Lib.hid own3
            clear own3 gr3 at3
            go_wp2_with fail
            go_roundg (costS g (popped stk' (s0 + 1) t ++ [(a + 1, T)]))
            case measure =>
              have := HCC.out; rw [cst_power HRR.out hab] at this
              rw [cost_snoc]
              simp only [Int.toNat_natCast, Nat.add_sub_cancel] at this ⊢
              omega
            case rel =>
              refine ⟨out, popped stk' (s0 + 1) t ++ [(a + 1, T)], Ao, mo, co, A3, k + 1 + 1, c3, rfl, rfl, Lib.hid rfl, Lib.hid ⟨?_, HR.out.2.1, by rw [List.length_append, HPL.out]; rfl⟩, Lib.hid (HSP.out.app ?_), HO3, HW3, BX3⟩
              · have := HR.out.1; rw [HP.out, tx_power HRR.out hab] at this
                rw [← this, rest_snoc]
                simp [pile]
              · have hs3 := HS.out (s0 + 1, t + 1) (by simp)
                simp only at hs3
                exact StkOk.one (by omega) (by omega) (by omega)
end Go.Proofs.Ytcbahojefglakaa
