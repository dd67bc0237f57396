import Derived.Test.YtolhjkpekmmajaaTcA
import Derived.Test.YtolhjkpekmmajaaTbC
import Derived.Deep.DeepCutAuto
/- The walk of the law on anchors. -/
namespace Go.Proofs.Ytolhjkpekmmajaa
set_option linter.unusedVariables false
set_option linter.unusedSimpArgs false
open Go.RowKit Go.Lib Go.Maps
attribute [local go_sem ↓] Go.wp_at_zero Go.wp_at_succ
theorem RowK.old2 {W w : World} {B S G : Nat} {A : Option Addr} {xs : List Value} (h : RowAt W A xs) (hb : Below W.heap.size W w) (hS : W.heap.size ≤ S) (hG : W.heap.size ≤ G) (hB : W.heap.size ≤ B) : RowK w B S G A xs := by
  refine ⟨h.below hb (Nat.le_refl _), fun hne ad e => ?_⟩
  obtain ⟨x, xs, rfl⟩ := List.exists_cons_of_ne_nil hne
  obtain ⟨a2, e2, hl, _⟩ := h.get (k := 0) (u := x) rfl
  rw [e] at e2; cases e2
  exact ⟨by omega, by omega, fun _ _ _ => by omega⟩
/-- what Back says -/
def bko2 : Option Int → Int × Bool
  | some b => (b, true)
  | none => (0, false)
set_option maxRecDepth 100000 in
set_option maxHeartbeats 64000000 in
theorem law_anchors (s : ByteArray) (A0 A1 : Option Addr) (c0 c1 : Nat) (l0 l1 : List Ch) (a : Int) (d : Bool) (hs : s.size ≤ 120) (a0 : 0 ≤ a) (a1 : a ≤ s.size) (w : World) (h0 : ChsIn w ⟨A0, c0, l0⟩) (h1 : ChsIn w ⟨A1, c1, l1⟩) :
    Calls Try.prog 4 #[.string s, .agg #[.slice A0 l0.length c0, .slice A1 l1.length c1], .agg #[.int .i64 a, .bool d]] w fun e w' => e = .returned (.bool true) ∧ Below w.heap.size w w' := by
  obtain ⟨z, hz⟩ : ∃ z, z = s.size := ⟨_, rfl⟩
  have sz : s.size = z := hz.symm
  have HSz := Lib.hid hs
  have z120 : z ≤ 120 := by omega
  have a1z : a ≤ (z : Int) := by omega
  obtain ⟨n0, hn0⟩ : ∃ n, n = l0.length := ⟨_, rfl⟩
  obtain ⟨n1, hn1⟩ : ∃ n, n = l1.length := ⟨_, rfl⟩
  rw [← hn0, ← hn1]
  have H0 := Lib.hid h0; have H1 := Lib.hid h1; have HN0 := Lib.hid hn0.symm; have HN1 := Lib.hid hn1.symm
  have BW0 := Lib.hid (balloc (balloc (Below.refl w.heap.size w) (.cells #[.slice A0 n0 c0, .slice A1 n1 c1] 48)) (.cells #[.int .i64 a, .bool d] 50))
  have XB0 := Lib.hid ((Box.new w 48 #[.slice A0 n0 c0, .slice A1 n1 c1]).alloc (.cells #[.int .i64 a, .bool d] 50))
  have XA0 := Box.new (w.alloc (.cells #[.slice A0 n0 c0, .slice A1 n1 c1] 48)) 50 #[.int .i64 a, .bool d]
  obtain ⟨P, hP⟩ : ∃ P, P = w.heap.size := ⟨_, rfl⟩
  rw [show (w.alloc (.cells #[.slice A0 n0 c0, .slice A1 n1 c1] 48)).heap.size = P + 1 by simp [hP]] at XA0
  rw [← hP] at XB0
  have HXA0 := Lib.hid XA0
  have HP := Lib.hid hP.symm
  clear hz hs a1 h0 h1 hn0 hn1 hP XA0
  go_enter Try.func4, Try.ntmps4
  go_wp2_with fail
  rw [HP.out]
  (with_reducible refine (patches_any _).mono ?_)
  rintro e w1 ⟨rfl, B0⟩
  have BW1 := Lib.hid (bkeep BW0.out B0)
  have XB1 := Lib.hid (XB0.out.below B0 XB0.out.lt)
  have XA1 := Lib.hid (HXA0.out.below B0 HXA0.out.lt)
  have x0 := XB1.out.cell 0; have x1 := XB1.out.cell 1
  simp only [List.getElem?_toArray, List.getElem?_cons_zero, List.getElem?_cons_succ] at x0 x1
  have y0 := XA1.out.cell 0; have y1 := XA1.out.cell 1
  simp only [List.getElem?_toArray, List.getElem?_cons_zero, List.getElem?_cons_succ] at y0 y1
  have xl := XB1.out.lt; have yl := XA1.out.lt
  have HPL : Hid (P + 1 < w1.heap.size) := Lib.hid yl
  have t1 : decide ((120 : Int) < (z : Int)) = false := by simp; omega
  have t2 : decide (a < 0) = false := by simp; omega
  have t3 : decide ((z : Int) < a) = false := by simp; omega
  clear B0 BW0 XB0 HXA0
  go_wp2_with fail
  (with_reducible refine (topen_any _).mono ?_)
  rintro e w2 ⟨S, G, B, M, rfl, st, B1, hS, hG⟩
  have LS := Lib.hid (show w1.heap.size ≤ S ∧ w1.heap.size ≤ G ∧ w1.heap.size ≤ B by have := st.lt; omega)
  have BW2 := Lib.hid (bkeep BW1.out B1)
  have HTB : Hid (∀ w', SFr w2 w' B S G → Below w1.heap.size w1 w') := Lib.hid fun w' f => f.to_below B1 LS.out.1 LS.out.2.1 LS.out.2.2
  have HBD : Hid (B ≤ w2.heap.size) := Lib.hid st.lt.2.2
  have NW3 := Lib.hid ((Now.start st good_nil).alloc (.cells #[.pointer (some ⟨S, 0, none⟩), .pointer (some M)] 27))
  have BD3 := Lib.hid (Box.new w2 27 #[.pointer (some ⟨S, 0, none⟩), .pointer (some M)])
  obtain ⟨D, hD⟩ : ∃ D, D = w2.heap.size := ⟨_, rfl⟩
  rw [← hD] at BD3 HBD
  have HD := Lib.hid hD.symm
  have hw3 := BW1.out.size
  have RK0 := Lib.hid (RowK.old2 H0.out.row (bkeep BW1.out (HTB.out _ NW3.out.fr)) (by have := LS.out; omega) (by have := LS.out; omega) (by have := LS.out; omega) : RowK (w2.alloc (.cells #[.pointer (some ⟨S, 0, none⟩), .pointer (some M)] 27)) B S G A0 (chc l0))
  have RK1 := Lib.hid (RowK.old2 H1.out.row (bkeep BW1.out (HTB.out _ NW3.out.fr)) (by have := LS.out; omega) (by have := LS.out; omega) (by have := LS.out; omega) : RowK (w2.alloc (.cells #[.pointer (some ⟨S, 0, none⟩), .pointer (some M)] 27)) B S G A1 (chc l1))
  have HT1 := Lib.hid (tpatch_any [] [] good_nil s (by omega) l0 H0.out.ok n0 c0 A0 HN0.out (by have := H0.out.len; have h := HN0.out; simp only at this h; omega) (by simp) B S G M _ NW3.out.st RK0.out)
  have XB3 := Lib.hid ((XB1.out.below B1 XB1.out.lt).alloc (.cells #[.pointer (some ⟨S, 0, none⟩), .pointer (some M)] 27))
  have XA3 := Lib.hid ((XA1.out.below B1 XA1.out.lt).alloc (.cells #[.pointer (some ⟨S, 0, none⟩), .pointer (some M)] 27))
  clear st B1 hS hG hD hw3 x0 x1 y0 y1 xl yl
  have x0 := XB3.out.cell 0; have x1 := XB3.out.cell 1
  simp only [List.getElem?_toArray, List.getElem?_cons_zero, List.getElem?_cons_succ] at x0 x1
  have xl := XB3.out.lt
  go_wp2_with fail
  rw [HD.out]
  (with_reducible refine HT1.out.mono ?_)
  rintro e w4 ⟨A4, k4, p, L1, T1, rfl, nw4, hp4, own4⟩
  have pf := pr_facts nw4.good hp4
  have hms := mkTxt_size s l0
  obtain ⟨mid, hmid⟩ : ∃ mid, mid = mkTxt s l0 := ⟨_, rfl⟩
  rw [← hmid] at pf hms ⊢
  obtain ⟨y, hy⟩ : ∃ y, y = mid.size := ⟨_, rfl⟩
  have msz : mid.size = y := hy.symm
  have y360 : y ≤ 360 := by have := HSz.out; omega
  obtain ⟨pn, hpn⟩ : ∃ pn, pn = p.length := ⟨_, rfl⟩
  have own4' := own_low own4 (show D ≤ (w2.alloc (.cells #[.pointer (some ⟨S, 0, none⟩), .pointer (some M)] 27)).heap.size by rw [← HD.out]; simp)
  rw [← hpn] at own4' ⊢
  have HPN := Lib.hid hpn.symm
  have PF1 := Lib.hid pf
  have NW4 := Lib.hid (NW3.out.after nw4 (show 0 + 480 ≤ 480 by omega))
  have BD4 := Lib.hid (BD3.out.sfr nw4.fr NW3.out.st HBD.out (by decide))
  have OP4 := Lib.hid own4'
  have BL4 := Lib.hid (HTB.out _ NW4.out.fr)
  have XB4 := Lib.hid (XB1.out.below BL4.out XB1.out.lt)
  have RK4 := Lib.hid (RK1.out.sfr nw4.fr)
  have HT2 := Lib.hid (tpatch_any L1 T1 nw4.good mid (by omega) l1 H1.out.ok n1 c1 A1 HN1.out (by have := H1.out.len; have h := HN1.out; simp only at this h; omega) (by have := NW4.out.cnt; simp at this; omega) B S G M w4 nw4.st RK4.out)
  have HG4 := Lib.hid nw4.good.len
  clear x0 x1 xl nw4 hp4 own4 own4' pf hms hmid hy hpn HT1 NW3 BD3 RK0 RK1 XB3 XA3
  have x0 := XB4.out.cell 0; have x1 := XB4.out.cell 1
  simp only [List.getElem?_toArray, List.getElem?_cons_zero, List.getElem?_cons_succ] at x0 x1
  have xl := XB4.out.lt
  have v0 := BD4.out.cell 0; have v1 := BD4.out.cell 1
  simp only [List.getElem?_toArray, List.getElem?_cons_zero, List.getElem?_cons_succ] at v0 v1
  have vl := BD4.out.lt
  go_wp2_with fail
  (with_reducible refine HT2.out.mono ?_)
  rintro e w5 ⟨A5, k5, q, L2, T2, rfl, nw5, hp5, own5⟩
  have pf := pr_facts nw5.good hp5
  have hes := mkTxt_size mid l1
  obtain ⟨fin, hfin⟩ : ∃ fin, fin = mkTxt mid l1 := ⟨_, rfl⟩
  rw [← hfin] at pf hes ⊢
  obtain ⟨qn, hqn⟩ : ∃ qn, qn = q.length := ⟨_, rfl⟩
  have own5' := own_low own5 (show D ≤ w4.heap.size from Nat.le_of_lt BD4.out.lt)
  rw [← hqn] at own5' ⊢
  have HQN := Lib.hid hqn.symm
  have PF2 := Lib.hid pf
  have PF1' := Lib.hid (PF1.out.ext nw5.ext HG4.out)
  have HE := Lib.hid (show fin.size ≤ 1000 by omega)
  have NW5 := Lib.hid (NW4.out.after nw5 (show 480 + 480 ≤ 960 by omega))
  have BD5 := Lib.hid (BD4.out.sfr nw5.fr NW4.out.st HBD.out (by decide))
  have OP5 := Lib.hid (own_sfr OP4.out nw5.fr NW4.out.st HBD.out (by decide))
  have OQ5 := Lib.hid own5'
  have hcm := pcomp_any L2 T2 nw5.good s.size mid.size (by omega) p q PF1'.out.ok PF1'.out.l20 PF1'.out.nl (by omega) PF2.out.ok PF2.out.l20 (by have := PF1'.out.up; omega) (by have := PF2.out.up; omega) pn k4 qn k5 A4 A5 HPN.out HQN.out (by rw [← HPN.out]; exact PF1'.out.ln) (by rw [← HQN.out]; exact PF2.out.ln) (by have := NW5.out.cnt; simp at this; omega) B S G w5 nw5.st (own_row _ OP5.out) (own_row _ OQ5.out)
  have HCm : Hid (Calls Try.prog 11 #[.pointer (some ⟨S, 0, none⟩), .int .i64 (z : Int), .slice A4 pn k4, .slice A5 qn k5] w5 (CmpOut B S G L2 T2 s.size (two T2 s.size p q 2) w5)) := Lib.hid (by rw [← sz]; exact hcm)
  have HG5 := Lib.hid nw5.good.len
  clear x0 x1 xl v0 v1 vl nw5 hp5 own5 own5' pf hes hfin hqn HT2 NW4 BD4 OP4 BL4 XB4 RK4 PF1 hcm
  have v0 := BD5.out.cell 0; have v1 := BD5.out.cell 1
  simp only [List.getElem?_toArray, List.getElem?_cons_zero, List.getElem?_cons_succ] at v0 v1
  have vl := BD5.out.lt
  go_wp2_with fail
  (with_reducible refine HCm.out.mono ?_)
  rintro e w6 ⟨A6, k6, r, L3, T3, rfl, nw6, cf, rl, own6⟩
  have af := anc_f nw6.ext HG5.out PF1'.out PF2.out HSz.out (by omega) HE.out cf a a0 (by omega) d
  have pf3 := PF1'.out.ext nw6.ext HG5.out
  have qf3 := PF2.out.ext nw6.ext HG5.out
  obtain ⟨rn, hrn⟩ : ∃ rn, rn = r.length := ⟨_, rfl⟩
  have HRN := Lib.hid hrn.symm
  have hM1 := fun w st ha => amap_any L3 T3 nw6.good s.size p pn k4 A4 HPN.out (by have := PF1'.out.ln; have := HPN.out; omega) pf3.ok (by have := pf3.up; omega) B S G w st ha a d a0 (by omega)
  have hM2 := fun w st ha => amap_any L3 T3 nw6.good mid.size q qn k5 A5 HQN.out (by have := PF2.out.ln; have := HQN.out; omega) qf3.ok (by have := qf3.up; omega) B S G w st ha (ancV T3 s.size p a d).1 d af.b0 af.b1
  have hM3 := fun w st ha => amap_any L3 T3 nw6.good s.size r rn k6 A6 HRN.out (by omega) cf.pok af.up B S G w st ha a d a0 (by omega)
  have hcp := af.cmp
  rw [sz] at hM1 hM2 hM3 hcp
  rw [msz] at hM2 hcp
  obtain ⟨b, kp1, hb⟩ : ∃ b kp1, ancV T3 z p a d = (b, kp1) := ⟨_, _, rfl⟩
  rw [hb] at hM1 hM2 hcp
  simp only at hM2 hcp
  obtain ⟨cc, kp2, hc⟩ : ∃ cc kp2, ancV T3 y q b d = (cc, kp2) := ⟨_, _, rfl⟩
  rw [hc] at hM2 hcp
  simp only at hcp
  obtain ⟨xx, kp3, hx⟩ : ∃ xx kp3, ancV T3 z r a d = (xx, kp3) := ⟨_, _, rfl⟩
  rw [hx] at hM3 hcp
  have HM1 : Hid (∀ w, St w B S G L3 → RowAt w A4 (cgc p) → Calls Try.prog 12 #[.pointer (some ⟨S, 0, none⟩), .int .i64 (z : Int), .slice A4 pn k4, .agg #[.int .i64 a, .bool d]] w fun e w' => e = .returned (.tuple #[.agg #[.int .i64 b, .bool d], .bool kp1, .nilIface]) ∧ Below w.heap.size w w') := Lib.hid hM1
  have HM2 : Hid (∀ w, St w B S G L3 → RowAt w A5 (cgc q) → Calls Try.prog 12 #[.pointer (some ⟨S, 0, none⟩), .int .i64 (y : Int), .slice A5 qn k5, .agg #[.int .i64 b, .bool d]] w fun e w' => e = .returned (.tuple #[.agg #[.int .i64 cc, .bool d], .bool kp2, .nilIface]) ∧ Below w.heap.size w w') := Lib.hid hM2
  have HM3 : Hid (∀ w, St w B S G L3 → RowAt w A6 (cgc r) → Calls Try.prog 12 #[.pointer (some ⟨S, 0, none⟩), .int .i64 (z : Int), .slice A6 rn k6, .agg #[.int .i64 a, .bool d]] w fun e w' => e = .returned (.tuple #[.agg #[.int .i64 xx, .bool d], .bool kp3, .nilIface]) ∧ Below w.heap.size w w') := Lib.hid hM3
  have HCP : Hid (kp1 = true → kp2 = true → (xx, kp3) = (cc, true)) := Lib.hid hcp
  have NW6 := NW5.out.after nw6 (show 960 + 80 * 4062 ≤ 960 + 80 * 4062 by omega)
  have PF3 := Lib.hid pf3
  have HGd := Lib.hid nw6.good
  have HS6 := Lib.hid nw6.st
  have BL6 := HTB.out _ NW6.fr
  have BW6 := Lib.hid (bkeep BW1.out BL6)
  have BD6 := Lib.hid (BD5.out.sfr nw6.fr NW5.out.st HBD.out (by decide))
  have XA6 := Lib.hid (XA1.out.below BL6 XA1.out.lt)
  have RP6 := Lib.hid (own_row _ (own_sfr OP5.out nw6.fr NW5.out.st HBD.out (by decide)))
  have RQ6 := Lib.hid (own_row _ (own_sfr OQ5.out nw6.fr NW5.out.st HBD.out (by decide)))
  have own6' := own6
  rw [← hrn] at own6' ⊢
  have RR6 := Lib.hid (own_row _ own6')
  clear v0 v1 vl nw6 cf own6 own6' af pf3 qf3 hrn hM1 hM2 hM3 hcp hb hc hx NW6 BL6 NW5 BD5 OP5 OQ5 HCm PF1' PF2 HE HG4 HG5 HTB XB1 XA1 BW1 BW2
  have v0 := BD6.out.cell 0; have v1 := BD6.out.cell 1
  simp only [List.getElem?_toArray, List.getElem?_cons_zero, List.getElem?_cons_succ] at v0 v1
  have vl := BD6.out.lt
  have u0 := XA6.out.cell 0; have u1 := XA6.out.cell 1
  simp only [List.getElem?_toArray, List.getElem?_cons_zero, List.getElem?_cons_succ] at u0 u1
  have ul := XA6.out.lt
  go_wp2_with fail
  (with_reducible refine (HM1.out _ HS6.out RP6.out).mono ?_)
  rintro e w7 ⟨rfl, B7⟩
  have C7 := balloc B7 (.cells #[.int .i64 b, .bool d] 50)
  have BD7 := Lib.hid (BD6.out.below C7 BD6.out.lt)
  have XA7 := Lib.hid (XA6.out.below C7 XA6.out.lt)
  have X17 := Lib.hid (Box.new w7 50 #[.int .i64 b, .bool d])
  have HC7 := Lib.hid C7
  have HS7 := Lib.hid (HS6.out.below C7)
  have RQ7 := Lib.hid (RQ6.out.below C7 (Nat.le_refl _))
  obtain ⟨g17, hg17⟩ : ∃ g, g = w7.heap.size := ⟨_, rfl⟩
  rw [← hg17] at X17
  have HG17 := Lib.hid hg17.symm
  clear B7 C7 v0 v1 vl u0 u1 ul hg17
  have v0 := BD7.out.cell 0; have v1 := BD7.out.cell 1
  simp only [List.getElem?_toArray, List.getElem?_cons_zero, List.getElem?_cons_succ] at v0 v1
  have vl := BD7.out.lt
  have u0 := X17.out.cell 0; have u1 := X17.out.cell 1
  simp only [List.getElem?_toArray, List.getElem?_cons_zero, List.getElem?_cons_succ] at u0 u1
  have ul := X17.out.lt
  go_wp2_with fail
  rw [HG17.out]
  (with_reducible refine (HM2.out _ HS7.out RQ7.out).mono ?_)
  rintro e w8 ⟨rfl, B8⟩
  have C8 := balloc B8 (.cells #[.int .i64 cc, .bool d] 50)
  have D8 := HC7.out.trans (C8.mono HC7.out.size)
  have BD8 := Lib.hid (BD6.out.below D8 BD6.out.lt)
  have XA8 := Lib.hid (XA6.out.below D8 XA6.out.lt)
  have X20 := Lib.hid (Box.new w8 50 #[.int .i64 cc, .bool d])
  have HC8 := Lib.hid D8
  have HS8 := Lib.hid (HS6.out.below D8)
  have RR8 := Lib.hid (RR6.out.below D8 (Nat.le_refl _))
  obtain ⟨g20, hg20⟩ : ∃ g, g = w8.heap.size := ⟨_, rfl⟩
  rw [← hg20] at X20
  have HG20 := Lib.hid hg20.symm
  clear B8 C8 D8 v0 v1 vl u0 u1 ul hg20
  have v0 := BD8.out.cell 0; have v1 := BD8.out.cell 1
  simp only [List.getElem?_toArray, List.getElem?_cons_zero, List.getElem?_cons_succ] at v0 v1
  have vl := BD8.out.lt
  have u0 := XA8.out.cell 0; have u1 := XA8.out.cell 1
  simp only [List.getElem?_toArray, List.getElem?_cons_zero, List.getElem?_cons_succ] at u0 u1
  have ul := XA8.out.lt
  go_wp2_with fail
  rw [HG20.out]
  (with_reducible refine (HM3.out _ HS8.out RR8.out).mono ?_)
  rintro e w9 ⟨rfl, B9⟩
  have C9 := balloc B9 (.cells #[.int .i64 xx, .bool d] 50)
  have D9 := HC8.out.trans (C9.mono HC8.out.size)
  have BD9 := Lib.hid (BD6.out.below D9 BD6.out.lt)
  have Y20 := Lib.hid (X20.out.below C9 X20.out.lt)
  have X23 := Lib.hid (Box.new w9 50 #[.int .i64 xx, .bool d])
  have HC9 := Lib.hid D9
  obtain ⟨g23, hg23⟩ : ∃ g, g = w9.heap.size := ⟨_, rfl⟩
  rw [← hg23] at X23
  have HG23 := Lib.hid hg23.symm
  clear B9 C9 D9 v0 v1 vl u0 u1 ul hg23
  have u0 := Y20.out.cell 0; have u1 := Y20.out.cell 1
  simp only [List.getElem?_toArray, List.getElem?_cons_zero, List.getElem?_cons_succ] at u0 u1
  have v0 := X23.out.cell 0; have v1 := X23.out.cell 1
  simp only [List.getElem?_toArray, List.getElem?_cons_zero, List.getElem?_cons_succ] at v0 v1
  have ul := Y20.out.lt; have vl := X23.out.lt
  go_upto_region 20 with fail
  rw [HG23.out]
  have CF := HC9.out
  have BDF := BD9.out
  have HCF := Lib.hid CF; have HBDF := Lib.hid BDF
  clear CF BDF
  go_cut [144] (fun s144 wx => s144 = .bool false ∧ Hid (Below w6.heap.size w6 wx) ∧ Hid (Box wx D 27 #[.pointer (some ⟨S, 0, none⟩), .pointer (some M)]))
  case first =>
    cases kp1 with
    | false =>
      go_wp2_with fail
      go_meet
      exact ⟨rfl, HCF, HBDF⟩
    | true =>
      cases kp2 with
      | false =>
        go_wp2_with fail
        go_meet
        exact ⟨rfl, HCF, HBDF⟩
      | true =>
        have e := HCP.out rfl rfl
        injection e with e1 e2
        subst e1; subst e2
        go_wp2_with fail
        go_meet
        exact ⟨rfl, HCF, HBDF⟩
  case rest =>
    obtain ⟨rfl, HCc, BDc⟩ := hcut
    obtain ⟨w10, hw10⟩ : ∃ w10, w10 = wc := ⟨_, rfl⟩
    subst hw10
    clear HCF HBDF u0 u1 v0 v1 ul vl Y20 X23 H0 H1 HN0 HN1 HPL t1 t2 t3 LS HBD HD RQ6 RR6 XA6 BD6 HC9 HC8 HC7 HG17 HG20 HG23 X17 X20 BD7 BD8 BD9 XA7 XA8 HS7 HS8 RQ7 RR8 HM1 HM2 HM3 HCP HQN HRN HP a0 a1z
    go_wp2_with fail
    go_loopw [26, 27, 28, 29] (fun s26 _ _ _ wr => ∃ i : Nat, s26 = .int .i64 (i : Int) ∧ i ≤ y ∧ Hid (Below w6.heap.size w6 wr) ∧ Hid (Box wr D 27 #[.pointer (some ⟨S, 0, none⟩), .pointer (some M)])) (fun s26 _ _ _ _ => y - (intOf s26).toNat)
    case atStart => exact ⟨0, rfl, by omega, HCc, BDc⟩
    case round =>
      clear HCc BDc
      obtain ⟨i, rfl, hi, BQ, BDq⟩ := hrel
      by_cases hlt : i < y
      · have nl := PF3.out.nl
        obtain ⟨kb, kb1, kb2, kb3, kb4⟩ := bkv_ex T3 (pok_ordd PF3.out.ok) (i : Int)
        have hbk := fun w st ha => back_any L3 T3 HGd.out s.size p pn k4 A4 HPN.out (by have := PF3.out.ln; have := HPN.out; omega) PF3.out.ok (by have := PF3.out.up; omega) (i : Int) (by omega) (by rw [← nl, msz]; omega) kb (by have := HPN.out; omega) kb2 kb3 B S G w st ha
        have kb5 : bkv (mvs T3 0 p) (i : Int) kb = bko2 (bkr (ilT T3) p 0 i) := kb4
        rw [kb5, sz] at hbk
        have bin := fun b' (hb' : bkr (ilT T3) p 0 i = some b') => back_f PF3.out (by rw [msz]; exact hlt) hb'
        rw [sz] at bin
        obtain ⟨bk, hbk0⟩ : ∃ bk, bk = bkr (ilT T3) p 0 i := ⟨_, rfl⟩
        rw [← hbk0] at hbk bin
        have HBk' : Hid (∀ w, St w B S G L3 → RowAt w A4 (cgc p) → Calls Try.prog 9 #[.pointer (some ⟨S, 0, none⟩), .int .i64 (z : Int), .slice A4 pn k4, .int .i64 (i : Int)] w (BackOut (bko2 bk) w)) := Lib.hid hbk
        have HSq := Lib.hid (HS6.out.below BQ.out)
        have RPq := Lib.hid (RP6.out.below BQ.out (Nat.le_refl _))
        have v0 := BDq.out.cell 0; have v1 := BDq.out.cell 1
        simp only [List.getElem?_toArray, List.getElem?_cons_zero, List.getElem?_cons_succ] at v0 v1
        have vl := BDq.out.lt
        clear nl kb1 kb2 kb3 kb4 kb5 hbk hbk0
        cases bk with
        | none =>
          clear bin
          have HBk2 : Hid (∀ w, St w B S G L3 → RowAt w A4 (cgc p) → Calls Try.prog 9 #[.pointer (some ⟨S, 0, none⟩), .int .i64 (z : Int), .slice A4 pn k4, .int .i64 (i : Int)] w fun e w' => e = .returned (.tuple #[.int .i64 0, .bool false, .nilIface]) ∧ Below w.heap.size w w') := HBk'
          clear HBk'
          go_wp2_with fail
          (with_reducible refine (HBk2.out _ HSq.out RPq.out).mono ?_)
          rintro e w11 ⟨rfl, B11⟩
          have BQ11 := Lib.hid (bkeep BQ.out B11)
          have BDq11 := Lib.hid (BDq.out.below B11 BDq.out.lt)
          clear B11 BQ BDq HSq RPq v0 v1 vl HBk2
          go_wp2_with fail
          go_upto_region 26 with fail
          refine region_lin (.val (fun v _ => v = .nilIface) :: .val (fun v _ => v = .bool false) :: .val (fun v _ => v = .bool false) :: .val (fun v _ => v = .bool false) :: .val (fun v _ => v = .bool false) :: .val (fun v _ => v = undef) :: .val (fun v _ => v = undef) :: .val (fun v _ => v = undef) :: .val (fun v _ => v = undef) :: .val (fun v _ => v = undef) :: .val (fun v _ => v = undef) :: .val (fun v _ => v = undef) :: .val (fun v _ => v = undef) :: .val (fun v _ => v = undef) :: .val (fun v _ => v = undef) :: .val (fun v _ => v = undef) :: .val (fun v _ => v = undef) :: .val (fun v _ => v = undef) :: .val (fun v _ => v = undef) :: .val (fun v _ => v = undef) :: .val (fun v _ => v = undef) :: .val (fun v _ => v = undef) :: .val (fun v _ => v = .bool false) :: .val (fun v _ => v = .bool false) :: [])
            ([] :: [(162, 0)] :: [(163, 1)] :: [(164, 2)] :: [(165, 3), (164, 2)] :: [(166, 4)] :: [(167, 5), (166, 4)] :: [(168, 6), (166, 4)] :: [(169, 7)] :: [(169, 7)] :: [(171, 9), (169, 7)] :: [(170, 8), (172, 10), (169, 7)] :: [(169, 7), (173, 11), (166, 4)] :: [(174, 12), (166, 4)] :: [(175, 13)] :: [(175, 13)] :: [(176, 14), (177, 15), (175, 13)] :: [(175, 13)] :: [(175, 13)] :: [(179, 17), (180, 18), (175, 13)] :: [(178, 16), (181, 19), (175, 13)] :: [(175, 13), (182, 20), (166, 4)] :: [(166, 4), (183, 21), (164, 2)] :: [(164, 2), (184, 22)] :: []) ((0, 0) :: (0, 0) :: (0, 0) :: (0, 0) :: (0, 0) :: (0, 0) :: (0, 0) :: (0, 0) :: (0, 0) :: (0, 0) :: (0, 0) :: (0, 0) :: (0, 0) :: (0, 0) :: (0, 0) :: (0, 0) :: (0, 0) :: (0, 0) :: (0, 0) :: (0, 0) :: (0, 0) :: (0, 0) :: (0, 0) :: (0, 0) :: []) 186 (by kernel_rfl) rfl rfl (by kernel_rfl) ⟨Stab.pure _ _ _, Stab.pure _ _ _, Stab.pure _ _ _, Stab.pure _ _ _, Stab.pure _ _ _, Stab.pure _ _ _, Stab.pure _ _ _, Stab.pure _ _ _, Stab.pure _ _ _, Stab.pure _ _ _, Stab.pure _ _ _, Stab.pure _ _ _, Stab.pure _ _ _, Stab.pure _ _ _, Stab.pure _ _ _, Stab.pure _ _ _, Stab.pure _ _ _, Stab.pure _ _ _, Stab.pure _ _ _, Stab.pure _ _ _, Stab.pure _ _ _, Stab.pure _ _ _, Stab.pure _ _ _, Stab.pure _ _ _, trivial⟩ ⟨?_, ?_, ?_, ?_, ?_, ?_, ?_, ?_, ?_, ?_, ?_, ?_, ?_, ?_, ?_, ?_, ?_, ?_, ?_, ?_, ?_, ?_, ?_, ?_, trivial⟩ ?_
          · intro wx hb
            intro K hK
            go_simp
            exact hK _ _ rfl ⟨rfl, Below.refl _ _⟩
          · intro wx hb
            rintro _ rfl
            intro K hK
            go_simp
            exact hK _ _ rfl ⟨rfl, Below.refl _ _⟩
          · intro wx hb
            rintro _ rfl
            intro K hK
            go_simp
            exact hK _ _ rfl ⟨rfl, Below.refl _ _⟩
          · intro wx hb
            rintro _ rfl
            refine ⟨fun _ => ?_, fun h => absurd (show true = false from h) (by decide)⟩
            intro K hK
            go_simp
            exact hK _ _ rfl ⟨rfl, Below.refl _ _⟩
          · intro wx hb
            rintro _ rfl
            rintro _ rfl
            refine ⟨fun _ => ?_, fun h => absurd (show true = false from h) (by decide)⟩
            intro K hK
            go_simp
            exact hK _ _ rfl ⟨rfl, Below.refl _ _⟩
          · intro wx hb
            rintro _ rfl
            exact ⟨fun h => absurd (show false = true from h) (by decide), fun _ => ⟨rfl, Below.refl _ _⟩⟩
          · intro wx hb
            intro vq hq; have hq : vq = undef := hq; subst vq
            rintro _ rfl
            exact ⟨fun h => absurd (show false = true from h) (by decide), fun _ => ⟨rfl, Below.refl _ _⟩⟩
          · intro wx hb
            intro vq hq; have hq : vq = undef := hq; subst vq
            rintro _ rfl
            exact ⟨fun h => absurd (show false = true from h) (by decide), fun _ => ⟨rfl, Below.refl _ _⟩⟩
          · intro wx hb
            intro vq hq; have hq : vq = undef := hq; subst vq
            exact ⟨fun h => absurd (show false = true from h) (by decide), fun _ => ⟨rfl, Below.refl _ _⟩⟩
          · intro wx hb
            intro vq hq; have hq : vq = undef := hq; subst vq
            exact ⟨fun h => absurd (show false = true from h) (by decide), fun _ => ⟨rfl, Below.refl _ _⟩⟩
          · intro wx hb
            intro vq hq; have hq : vq = undef := hq; subst vq
            intro vq hq; have hq : vq = undef := hq; subst vq
            exact ⟨fun h => absurd (show false = true from h) (by decide), fun _ => ⟨rfl, Below.refl _ _⟩⟩
          · intro wx hb
            intro vq hq; have hq : vq = undef := hq; subst vq
            intro vq hq; have hq : vq = undef := hq; subst vq
            intro vq hq; have hq : vq = undef := hq; subst vq
            exact ⟨fun h => absurd (show false = true from h) (by decide), fun _ => ⟨rfl, Below.refl _ _⟩⟩
          · intro wx hb
            intro vq hq; have hq : vq = undef := hq; subst vq
            intro vq hq; have hq : vq = undef := hq; subst vq
            rintro _ rfl
            exact ⟨fun h => absurd (show false = true from h) (by decide), fun _ => ⟨rfl, Below.refl _ _⟩⟩
          · intro wx hb
            intro vq hq; have hq : vq = undef := hq; subst vq
            rintro _ rfl
            exact ⟨fun h => absurd (show false = true from h) (by decide), fun _ => ⟨rfl, Below.refl _ _⟩⟩
          · intro wx hb
            intro vq hq; have hq : vq = undef := hq; subst vq
            exact ⟨fun h => absurd (show false = true from h) (by decide), fun _ => ⟨rfl, Below.refl _ _⟩⟩
          · intro wx hb
            intro vq hq; have hq : vq = undef := hq; subst vq
            exact ⟨fun h => absurd (show false = true from h) (by decide), fun _ => ⟨rfl, Below.refl _ _⟩⟩
          · intro wx hb
            intro vq hq; have hq : vq = undef := hq; subst vq
            intro vq hq; have hq : vq = undef := hq; subst vq
            intro vq hq; have hq : vq = undef := hq; subst vq
            exact ⟨fun h => absurd (show false = true from h) (by decide), fun _ => ⟨rfl, Below.refl _ _⟩⟩
          · intro wx hb
            intro vq hq; have hq : vq = undef := hq; subst vq
            exact ⟨fun h => absurd (show false = true from h) (by decide), fun _ => ⟨rfl, Below.refl _ _⟩⟩
          · intro wx hb
            intro vq hq; have hq : vq = undef := hq; subst vq
            exact ⟨fun h => absurd (show false = true from h) (by decide), fun _ => ⟨rfl, Below.refl _ _⟩⟩
          · intro wx hb
            intro vq hq; have hq : vq = undef := hq; subst vq
            intro vq hq; have hq : vq = undef := hq; subst vq
            intro vq hq; have hq : vq = undef := hq; subst vq
            exact ⟨fun h => absurd (show false = true from h) (by decide), fun _ => ⟨rfl, Below.refl _ _⟩⟩
          · intro wx hb
            intro vq hq; have hq : vq = undef := hq; subst vq
            intro vq hq; have hq : vq = undef := hq; subst vq
            intro vq hq; have hq : vq = undef := hq; subst vq
            exact ⟨fun h => absurd (show false = true from h) (by decide), fun _ => ⟨rfl, Below.refl _ _⟩⟩
          · intro wx hb
            intro vq hq; have hq : vq = undef := hq; subst vq
            intro vq hq; have hq : vq = undef := hq; subst vq
            rintro _ rfl
            exact ⟨fun h => absurd (show false = true from h) (by decide), fun _ => ⟨rfl, Below.refl _ _⟩⟩
          · intro wx hb
            rintro _ rfl
            intro vq hq; have hq : vq = undef := hq; subst vq
            rintro _ rfl
            refine ⟨fun _ => ?_, fun h => absurd (show true = false from h) (by decide)⟩
            intro K hK
            go_simp
            exact hK _ _ rfl ⟨rfl, Below.refl _ _⟩
          · intro wx hb
            rintro _ rfl
            rintro _ rfl
            intro K hK
            go_simp
            exact hK _ _ rfl ⟨rfl, Below.refl _ _⟩
          intro w12 B12
          rintro _ rfl
          rintro _ rfl
          rintro _ rfl
          rintro _ rfl
          rintro _ rfl
          intro vq hq; have hq : vq = undef := hq; subst vq
          intro vq hq; have hq : vq = undef := hq; subst vq
          intro vq hq; have hq : vq = undef := hq; subst vq
          intro vq hq; have hq : vq = undef := hq; subst vq
          intro vq hq; have hq : vq = undef := hq; subst vq
          intro vq hq; have hq : vq = undef := hq; subst vq
          intro vq hq; have hq : vq = undef := hq; subst vq
          intro vq hq; have hq : vq = undef := hq; subst vq
          intro vq hq; have hq : vq = undef := hq; subst vq
          intro vq hq; have hq : vq = undef := hq; subst vq
          intro vq hq; have hq : vq = undef := hq; subst vq
          intro vq hq; have hq : vq = undef := hq; subst vq
          intro vq hq; have hq : vq = undef := hq; subst vq
          intro vq hq; have hq : vq = undef := hq; subst vq
          intro vq hq; have hq : vq = undef := hq; subst vq
          intro vq hq; have hq : vq = undef := hq; subst vq
          intro vq hq; have hq : vq = undef := hq; subst vq
          rintro _ rfl
          rintro _ rfl
          rintro -
          simp only [Act.put, List.setIfInBounds_toArray, List.set_cons_zero, List.set_cons_succ, List.toList_toArray, List.length_cons, List.length_nil, List.drop_succ_cons, List.drop_zero, List.drop_nil, Nat.zero_add, wpList]
          have BQ12 := Lib.hid (bkeep BQ11.out B12)
          have BDq12 := Lib.hid (BDq11.out.below B12 BDq11.out.lt)
          clear B12 BQ11 BDq11
          go_wp2_with fail
          go_roundw
          case rel => exact ⟨i + 1, by go_num, by omega, BQ12, BDq12⟩
          case measure => simp [intOf] <;> omega
        | some b' =>
          obtain ⟨b0, b1, b2⟩ := bin b' rfl
          obtain ⟨bn, rfl⟩ : ∃ bn : Nat, b' = (bn : Int) := ⟨b'.toNat, by omega⟩
          have hbz : bn < z := by omega
          have hbn : (bn : Int) < (z : Int) := by omega
          have t5 : decide ((z : Int) ≤ (bn : Int)) = false := by simp; omega
          have t5b : decide (z ≤ bn) = false := by simp; omega
          rw [Int.toNat_natCast] at b2
          have hib : bn < (bi s).length := by rw [bi_len]; omega
          obtain ⟨bv, hbv⟩ : ∃ bv, bv = (bi s)[bn] := ⟨_, rfl⟩
          have e1 : (bi s)[bn]? = some bv := by rw [hbv]; exact List.getElem?_eq_getElem hib
          have e2 : (bi mid)[i]? = some bv := b2.symm.trans e1
          have ix1 := fun w => str_at s bn z bv sz hbz e1 w
          have ix2 := fun w => str_at mid i y bv msz hlt e2 w
          clear bin b0 b1 b2 hib hbv e1 e2
          have HBk2 : Hid (∀ w, St w B S G L3 → RowAt w A4 (cgc p) → Calls Try.prog 9 #[.pointer (some ⟨S, 0, none⟩), .int .i64 (z : Int), .slice A4 pn k4, .int .i64 (i : Int)] w fun e w' => e = .returned (.tuple #[.int .i64 (bn : Int), .bool true, .nilIface]) ∧ Below w.heap.size w w') := HBk'
          clear HBk'
          go_wp2_with fail
          (with_reducible refine (HBk2.out _ HSq.out RPq.out).mono ?_)
          rintro e w11 ⟨rfl, B11⟩
          have BQ11 := Lib.hid (bkeep BQ.out B11)
          have BDq11 := Lib.hid (BDq.out.below B11 BDq.out.lt)
          clear B11 BQ BDq HSq RPq v0 v1 vl HBk2
          go_wp2_with fail
          go_upto_region 26 with fail
          refine region_lin (.val (fun v _ => v = .nilIface) :: .val (fun v _ => v = .bool false) :: .val (fun v _ => v = .bool false) :: .val (fun v _ => v = .bool true) :: .val (fun v _ => v = .bool true) :: .val (fun v _ => v = .int .i64 (bn : Int)) :: .val (fun v _ => v = .bool false) :: .val (fun v _ => v = .bool false) :: .val (fun v _ => v = .int .i64 (bn : Int)) :: .val (fun v _ => v = .string s) :: .val (fun v _ => v = .int .i64 (z : Int)) :: .val (fun v _ => v = .bool false) :: .val (fun v _ => v = .bool false) :: .val (fun v _ => v = .bool false) :: .val (fun v _ => v = .string s) :: .val (fun v _ => v = .int .i64 (bn : Int)) :: .val (fun v _ => v = .int .u8 bv) :: .val (fun v _ => v = .string mid) :: .val (fun v _ => v = .int .i64 (i : Int)) :: .val (fun v _ => v = .int .u8 bv) :: .val (fun v _ => v = .bool false) :: .val (fun v _ => v = .bool false) :: .val (fun v _ => v = .bool false) :: .val (fun v _ => v = .bool false) :: [])
            ([] :: [(162, 0)] :: [(163, 1)] :: [(164, 2)] :: [(165, 3), (164, 2)] :: [(166, 4)] :: [(167, 5), (166, 4)] :: [(168, 6), (166, 4)] :: [(169, 7)] :: [(169, 7)] :: [(171, 9), (169, 7)] :: [(170, 8), (172, 10), (169, 7)] :: [(169, 7), (173, 11), (166, 4)] :: [(174, 12), (166, 4)] :: [(175, 13)] :: [(175, 13)] :: [(176, 14), (177, 15), (175, 13)] :: [(175, 13)] :: [(175, 13)] :: [(179, 17), (180, 18), (175, 13)] :: [(178, 16), (181, 19), (175, 13)] :: [(175, 13), (182, 20), (166, 4)] :: [(166, 4), (183, 21), (164, 2)] :: [(164, 2), (184, 22)] :: []) ((0, 0) :: (0, 0) :: (0, 0) :: (0, 0) :: (0, 0) :: (0, 0) :: (0, 0) :: (0, 0) :: (0, 0) :: (0, 0) :: (0, 0) :: (0, 0) :: (0, 0) :: (0, 0) :: (0, 0) :: (0, 0) :: (0, 0) :: (0, 0) :: (0, 0) :: (0, 0) :: (0, 0) :: (0, 0) :: (0, 0) :: (0, 0) :: []) 186 (by kernel_rfl) rfl rfl (by kernel_rfl) ⟨Stab.pure _ _ _, Stab.pure _ _ _, Stab.pure _ _ _, Stab.pure _ _ _, Stab.pure _ _ _, Stab.pure _ _ _, Stab.pure _ _ _, Stab.pure _ _ _, Stab.pure _ _ _, Stab.pure _ _ _, Stab.pure _ _ _, Stab.pure _ _ _, Stab.pure _ _ _, Stab.pure _ _ _, Stab.pure _ _ _, Stab.pure _ _ _, Stab.pure _ _ _, Stab.pure _ _ _, Stab.pure _ _ _, Stab.pure _ _ _, Stab.pure _ _ _, Stab.pure _ _ _, Stab.pure _ _ _, Stab.pure _ _ _, trivial⟩ ⟨?_, ?_, ?_, ?_, ?_, ?_, ?_, ?_, ?_, ?_, ?_, ?_, ?_, ?_, ?_, ?_, ?_, ?_, ?_, ?_, ?_, ?_, ?_, ?_, trivial⟩ ?_
          · intro wx hb
            intro K hK
            go_simp
            exact hK _ _ rfl ⟨rfl, Below.refl _ _⟩
          · intro wx hb
            rintro _ rfl
            intro K hK
            go_simp
            exact hK _ _ rfl ⟨rfl, Below.refl _ _⟩
          · intro wx hb
            rintro _ rfl
            intro K hK
            go_simp
            exact hK _ _ rfl ⟨rfl, Below.refl _ _⟩
          · intro wx hb
            rintro _ rfl
            refine ⟨fun _ => ?_, fun h => absurd (show true = false from h) (by decide)⟩
            intro K hK
            go_simp
            exact hK _ _ rfl ⟨rfl, Below.refl _ _⟩
          · intro wx hb
            rintro _ rfl
            rintro _ rfl
            refine ⟨fun _ => ?_, fun h => absurd (show true = false from h) (by decide)⟩
            intro K hK
            go_simp
            exact hK _ _ rfl ⟨rfl, Below.refl _ _⟩
          · intro wx hb
            rintro _ rfl
            refine ⟨fun _ => ?_, fun h => absurd (show true = false from h) (by decide)⟩
            intro K hK
            go_simp
            exact hK _ _ rfl ⟨rfl, Below.refl _ _⟩
          · intro wx hb
            rintro _ rfl
            rintro _ rfl
            refine ⟨fun _ => ?_, fun h => absurd (show true = false from h) (by decide)⟩
            intro K hK
            go_simp
            exact hK _ _ rfl ⟨rfl, Below.refl _ _⟩
          · intro wx hb
            rintro _ rfl
            rintro _ rfl
            refine ⟨fun _ => ?_, fun h => absurd (show true = false from h) (by decide)⟩
            intro K hK
            go_simp
            exact hK _ _ rfl ⟨rfl, Below.refl _ _⟩
          · intro wx hb
            rintro _ rfl
            refine ⟨fun _ => ?_, fun h => absurd (show true = false from h) (by decide)⟩
            intro K hK
            go_simp
            exact hK _ _ rfl ⟨rfl, Below.refl _ _⟩
          · intro wx hb
            rintro _ rfl
            refine ⟨fun _ => ?_, fun h => absurd (show true = false from h) (by decide)⟩
            intro K hK
            go_simp
            exact hK _ _ rfl ⟨rfl, Below.refl _ _⟩
          · intro wx hb
            rintro _ rfl
            rintro _ rfl
            refine ⟨fun _ => ?_, fun h => absurd (show true = false from h) (by decide)⟩
            intro K hK
            go_simp
            exact hK _ _ rfl ⟨rfl, Below.refl _ _⟩
          · intro wx hb
            rintro _ rfl
            rintro _ rfl
            rintro _ rfl
            refine ⟨fun _ => ?_, fun h => absurd (show true = false from h) (by decide)⟩
            intro K hK
            go_simp
            exact hK _ _ rfl ⟨rfl, Below.refl _ _⟩
          · intro wx hb
            rintro _ rfl
            rintro _ rfl
            rintro _ rfl
            refine ⟨fun _ => ?_, fun h => absurd (show true = false from h) (by decide)⟩
            intro K hK
            go_simp
            exact hK _ _ rfl ⟨rfl, Below.refl _ _⟩
          · intro wx hb
            rintro _ rfl
            rintro _ rfl
            refine ⟨fun _ => ?_, fun h => absurd (show true = false from h) (by decide)⟩
            intro K hK
            go_simp
            exact hK _ _ rfl ⟨rfl, Below.refl _ _⟩
          · intro wx hb
            rintro _ rfl
            refine ⟨fun _ => ?_, fun h => absurd (show true = false from h) (by decide)⟩
            intro K hK
            go_simp
            exact hK _ _ rfl ⟨rfl, Below.refl _ _⟩
          · intro wx hb
            rintro _ rfl
            refine ⟨fun _ => ?_, fun h => absurd (show true = false from h) (by decide)⟩
            intro K hK
            go_simp
            exact hK _ _ rfl ⟨rfl, Below.refl _ _⟩
          · intro wx hb
            rintro _ rfl
            rintro _ rfl
            rintro _ rfl
            refine ⟨fun _ => ?_, fun h => absurd (show true = false from h) (by decide)⟩
            intro K hK
            go_simp
            exact hK _ _ rfl ⟨rfl, Below.refl _ _⟩
          · intro wx hb
            rintro _ rfl
            refine ⟨fun _ => ?_, fun h => absurd (show true = false from h) (by decide)⟩
            intro K hK
            go_simp
            exact hK _ _ rfl ⟨rfl, Below.refl _ _⟩
          · intro wx hb
            rintro _ rfl
            refine ⟨fun _ => ?_, fun h => absurd (show true = false from h) (by decide)⟩
            intro K hK
            go_simp
            exact hK _ _ rfl ⟨rfl, Below.refl _ _⟩
          · intro wx hb
            rintro _ rfl
            rintro _ rfl
            rintro _ rfl
            refine ⟨fun _ => ?_, fun h => absurd (show true = false from h) (by decide)⟩
            intro K hK
            go_simp
            exact hK _ _ rfl ⟨rfl, Below.refl _ _⟩
          · intro wx hb
            rintro _ rfl
            rintro _ rfl
            rintro _ rfl
            refine ⟨fun _ => ?_, fun h => absurd (show true = false from h) (by decide)⟩
            intro K hK
            go_simp
            exact hK _ _ rfl ⟨rfl, Below.refl _ _⟩
          · intro wx hb
            rintro _ rfl
            rintro _ rfl
            rintro _ rfl
            refine ⟨fun _ => ?_, fun h => absurd (show true = false from h) (by decide)⟩
            intro K hK
            go_simp
            exact hK _ _ rfl ⟨rfl, Below.refl _ _⟩
          · intro wx hb
            rintro _ rfl
            rintro _ rfl
            rintro _ rfl
            refine ⟨fun _ => ?_, fun h => absurd (show true = false from h) (by decide)⟩
            intro K hK
            go_simp
            exact hK _ _ rfl ⟨rfl, Below.refl _ _⟩
          · intro wx hb
            rintro _ rfl
            rintro _ rfl
            intro K hK
            go_simp
            exact hK _ _ rfl ⟨rfl, Below.refl _ _⟩
          intro w12 B12
          rintro _ rfl
          rintro _ rfl
          rintro _ rfl
          rintro _ rfl
          rintro _ rfl
          rintro _ rfl
          rintro _ rfl
          rintro _ rfl
          rintro _ rfl
          rintro _ rfl
          rintro _ rfl
          rintro _ rfl
          rintro _ rfl
          rintro _ rfl
          rintro _ rfl
          rintro _ rfl
          rintro _ rfl
          rintro _ rfl
          rintro _ rfl
          rintro _ rfl
          rintro _ rfl
          rintro _ rfl
          rintro _ rfl
          rintro _ rfl
          rintro -
          simp only [Act.put, List.setIfInBounds_toArray, List.set_cons_zero, List.set_cons_succ, List.toList_toArray, List.length_cons, List.length_nil, List.drop_succ_cons, List.drop_zero, List.drop_nil, Nat.zero_add, wpList]
          have BQ12 := Lib.hid (bkeep BQ11.out B12)
          have BDq12 := Lib.hid (BDq11.out.below B12 BDq11.out.lt)
          clear B12 BQ11 BDq11
          go_wp2_with fail
          go_roundw
          case rel => exact ⟨i + 1, by go_num, by omega, BQ12, BDq12⟩
          case measure => simp [intOf] <;> omega
      · obtain rfl : i = y := by omega
        have BR := Lib.hid (bkeep BW6.out BQ.out)
        clear BQ
        go_wp2_with fail
        go_ret
        exact ⟨rfl, BR.out⟩
end Go.Proofs.Ytolhjkpekmmajaa
/- The law on anchors, for every text, every two lists of changes, every anchor. -/
namespace Go.Proofs.Ytolhjkpekmmajaa
set_option linter.unusedVariables false
set_option linter.unusedSimpArgs false
open Go.RowKit Go.Lib Go.Maps
attribute [local go_sem ↓] Go.wp_at_zero Go.wp_at_succ
set_option maxRecDepth 100000 in
set_option maxHeartbeats 4000000 in
theorem law_anchors_out (s : ByteArray) (A0 A1 : Option Addr) (n0 n1 c0 c1 : Nat) (a : Int) (d : Bool) (h2 : 120 < s.size ∨ (s.size ≤ 120 ∧ a < 0) ∨ (s.size ≤ 120 ∧ 0 ≤ a ∧ (s.size : Int) < a)) (w : World) :
    Calls Try.prog 4 #[.string s, .agg #[.slice A0 n0 c0, .slice A1 n1 c1], .agg #[.int .i64 a, .bool d]] w fun e w' => e = .returned (.bool true) ∧ Below w.heap.size w w' := by
  obtain ⟨z, hz⟩ : ∃ z, z = s.size := ⟨_, rfl⟩
  have sz : s.size = z := hz.symm
  rw [← hz] at h2
  have XB0 := Lib.hid ((Box.new w 48 #[.slice A0 n0 c0, .slice A1 n1 c1]).alloc (.cells #[.int .i64 a, .bool d] 50))
  have XA0 := Box.new (w.alloc (.cells #[.slice A0 n0 c0, .slice A1 n1 c1] 48)) 50 #[.int .i64 a, .bool d]
  have BW0 := Lib.hid (balloc (balloc (Below.refl w.heap.size w) (.cells #[.slice A0 n0 c0, .slice A1 n1 c1] 48)) (.cells #[.int .i64 a, .bool d] 50))
  obtain ⟨P, hP⟩ : ∃ P, P = w.heap.size := ⟨_, rfl⟩
  rw [show (w.alloc (.cells #[.slice A0 n0 c0, .slice A1 n1 c1] 48)).heap.size = P + 1 by simp [hP]] at XA0
  have HXA0 := Lib.hid XA0
  have HP := Lib.hid hP.symm
  clear hP XA0 hz XB0
  go_enter Try.func4, Try.ntmps4
  go_wp2_with fail
  rw [HP.out]
  (with_reducible refine (patches_any _).mono ?_)
  rintro e w1 ⟨rfl, B0⟩
  have BW1 := Lib.hid (bkeep BW0.out B0)
  have XA1 := Lib.hid (HXA0.out.below B0 HXA0.out.lt)
  have y0 := XA1.out.cell 0; have y1 := XA1.out.cell 1
  simp only [List.getElem?_toArray, List.getElem?_cons_zero, List.getElem?_cons_succ] at y0 y1
  have yl := XA1.out.lt
  clear B0
  rcases h2 with h2 | ⟨h2, ha⟩ | ⟨h2, ha0, ha⟩
  · have t1 : decide ((120 : Int) < (z : Int)) = true := by simp; omega
    have t1b : (120 : Int) < (z : Int) := by omega
    go_wp2_with fail
    go_ret
    exact ⟨rfl, BW1.out⟩
  · have t1 : decide ((120 : Int) < (z : Int)) = false := by simp; omega
    have t1b : ¬ (120 : Int) < (z : Int) := by omega
    have t2 : decide (a < 0) = true := by simp; exact ha
    go_wp2_with fail
    go_ret
    exact ⟨rfl, BW1.out⟩
  · have t1 : decide ((120 : Int) < (z : Int)) = false := by simp; omega
    have t1b : ¬ (120 : Int) < (z : Int) := by omega
    have t2 : decide (a < 0) = false := by simp; omega
    have t3 : decide ((z : Int) < a) = true := by simp; omega
    go_wp2_with fail
    go_ret
    exact ⟨rfl, BW1.out⟩
theorem law_anchors_any (s : ByteArray) (g0 g1 : Sg) (a : Int) (d : Bool) (w : World) (h0 : ChsIn w g0) (h1 : ChsIn w g1) :
    Calls Try.prog 4 #[.string s, .agg #[g0.v, g1.v], .agg #[.int .i64 a, .bool d]] w fun e w' => e = .returned (.bool true) ∧ Below w.heap.size w w' := by
  obtain ⟨A0, c0, l0⟩ := g0
  obtain ⟨A1, c1, l1⟩ := g1
  by_cases k1 : 120 < s.size
  · exact law_anchors_out s A0 A1 l0.length l1.length c0 c1 a d (.inl k1) w
  · by_cases k2 : a < 0
    · exact law_anchors_out s A0 A1 l0.length l1.length c0 c1 a d (.inr (.inl ⟨by omega, k2⟩)) w
    · by_cases k3 : (s.size : Int) < a
      · exact law_anchors_out s A0 A1 l0.length l1.length c0 c1 a d (.inr (.inr ⟨by omega, by omega, k3⟩)) w
      · exact law_anchors s A0 A1 c0 c1 l0 l1 a d (by omega) (by omega) (by omega) w h0 h1
end Go.Proofs.Ytolhjkpekmmajaa
