import Derived.Test.YtolhjkpekmmajaaStIds
import Derived.IntWalk
import Derived.Test.YtolhjkpekmmajaaLen
import Derived.Test.YtolhjkpekmmajaaAppend
import Derived.Test.YtolhjkpekmmajaaOwnB
import Derived.WalkSmall
/- The walks of avl's Balanced, parts, two, four. -/
namespace Go.Proofs.Ytolhjkpekmmajaa
set_option linter.unusedVariables false
set_option linter.unusedSimpArgs false
open Go.RowKit Go.Lib Go.Maps
attribute [local go_sem ↓] Go.wp_at_zero Go.wp_at_succ
/-- further on from an ID -/
theorem IdO.after {B S G : Nat} {L L1 L2 : List En} {T T1 T2 : List (List Int)} {t1 t : List Int} {lo1 hi1 lo hi : Int} {c1 c : Nat} {w w1 w2 : World} {x1 x : Int}
    (o1 : IdO B S G L T t1 lo1 hi1 c1 w w1 x1 L1 T1) (o2 : IdO B S G L1 T1 t lo hi c w1 w2 x L2 T2) {c2 : Nat} (hc : c1 + c ≤ c2) : IdO B S G L T t lo hi c2 w w2 x L2 T2 :=
  ⟨o2.st, o1.fr.trans o2.fr, o2.good, o1.ext.trans o2.ext, by have := o1.cnt; have := o2.cnt; omega, o2.x0, o2.x1, o2.tx, o2.lo, o2.hi⟩
theorem IdO.pre {B S G : Nat} {L L2 : List En} {T T2 : List (List Int)} {t : List Int} {lo hi : Int} {c : Nat} {w w1 w2 : World} {x : Int}
    (hb : Below w.heap.size w w1) (o2 : IdO B S G L T t lo hi c w1 w2 x L2 T2) : IdO B S G L T t lo hi c w w2 x L2 T2 :=
  ⟨o2.st, (SFr.of_below hb _ _ _).trans o2.fr, o2.good, o2.ext, o2.cnt, o2.x0, o2.x1, o2.tx, o2.lo, o2.hi⟩
theorem IdO.turn {B S G : Nat} {L L2 : List En} {T T2 : List (List Int)} {t t' : List Int} {lo hi lo' hi' : Int} {c c' : Nat} {w w2 : World} {x : Int}
    (o2 : IdO B S G L T t lo hi c w w2 x L2 T2) (ht : t = t') (hl : lo' ≤ lo) (hh : hi ≤ hi') (hc : c ≤ c') : IdO B S G L T t' lo' hi' c' w w2 x L2 T2 :=
  ⟨o2.st, o2.fr, o2.good, o2.ext, by have := o2.cnt; omega, o2.x0, o2.x1, o2.tx.trans ht, Int.le_trans hl o2.lo, Int.le_trans o2.hi hh⟩
theorem IdO.x_pos {B S G : Nat} {L L2 : List En} {T T2 : List (List Int)} {t : List Int} {lo hi : Int} {c : Nat} {w w2 : World} {x : Int}
    (o : IdO B S G L T t lo hi c w w2 x L2 T2) (h : t ≠ []) : 1 ≤ x := by
  have h0 := o.x0
  have h1 := o.tx
  by_cases hx : x = 0
  · rw [hx, tx_zero] at h1; exact absurd h1.symm h
  · omega
theorem ido_old {B S G : Nat} {L L2 : List En} {T T2 : List (List Int)} {t : List Int} {lo hi : Int} {c : Nat} {w w2 : World} {x : Int}
    (o : IdO B S G L T t lo hi c w w2 x L2 T2) (hg : Good L T) {y : Int} (h0 : 0 ≤ y) (h1 : y ≤ L.length) : ent L2 y = ent L y ∧ tx T2 y = tx T y ∧ y ≤ L2.length :=
  ⟨o.ext.ent h0 h1, o.ext.tx hg.len h0 h1, by have := o.ext.len; omega⟩
set_option maxRecDepth 100000 in
theorem balanced_any (L : List En) (T : List (List Int)) (hg : Good L T) (x : Int) (h0 : 0 ≤ x) (h1 : x ≤ L.length) (B S G : Nat) (w : World) (st : St w B S G L) :
    Calls Try.prog 50 #[.pointer (some ⟨S, 0, none⟩), .int .i64 x] w fun r w' => r = .returned (.tuple #[.bool true, .nilIface]) ∧ Below w.heap.size w w' := by
  have HD := Lib.hid (fun w st => depth_any L x h0 h1 hg.cap B S G w st)
  have HE : Hid (∀ w, St w B S G L → Calls Try.prog 69 #[.pointer (some ⟨S, 0, none⟩), .int .i64 x] w fun r w' => r = .returned (.bool true) ∧ Below w.heap.size w w') := Lib.hid (fun w st => by
    have := even_any L x h0 h1 hg.cap B S G w st
    rw [(hg.any h0 h1).ev] at this; exact this)
  have HST := Lib.hid st
  clear h0 h1 hg st
  go_enter Try.func50, Try.ntmps50
  go_wp2_with fail
  (with_reducible refine (HD.out _ HST.out).mono ?_)
  rintro e w1 ⟨rfl, B1⟩
  have HS1 := Lib.hid (HST.out.below B1); have HB1 := Lib.hid B1
  clear B1
  go_wp2_with fail
  (with_reducible refine (HE.out _ HS1.out).mono ?_)
  rintro e w2 ⟨rfl, B2⟩
  have HB2 := Lib.hid (bkeep HB1.out B2)
  clear B2
  go_wp2_with fail
  go_ret2
  exact ⟨rfl, HB2.out⟩
set_option maxRecDepth 100000 in
set_option maxHeartbeats 4000000 in
theorem parts_any (L : List En) (T : List (List Int)) (hg : Good L T) (x : Int) (h0 : 1 ≤ x) (h1 : x ≤ L.length) (a b : Int) (ha : (ent L x).r.lf = a) (hb : (ent L x).r.rg = b) (a0 : 0 ≤ a) (a1 : a ≤ L.length) (b0 : 0 ≤ b) (b1 : b ≤ L.length) (B S G : Nat) (w : World) (st : St w B S G L) :
    Calls Try.prog 79 #[.pointer (some ⟨S, 0, none⟩), .int .i64 x] w fun r w' => r = .returned (.tuple #[.int .i64 a, .int .i64 b, .int .i64 (ent L a).dp, .int .i64 (ent L b).dp, .nilIface]) ∧ Below w.heap.size w w' := by
  have HR := Lib.hid (fun w st => rule_any L x h0 h1 hg.cap B S G w st)
  have HD1 := Lib.hid (fun w st => depth_any L a a0 a1 hg.cap B S G w st)
  have HD2 := Lib.hid (fun w st => depth_any L b b0 b1 hg.cap B S G w st)
  obtain ⟨r, hr⟩ : ∃ r, r = (ent L x).r := ⟨_, rfl⟩
  rw [← hr] at HR ha hb
  obtain ⟨kd, lt_, lf, rg, tm⟩ := r
  simp only at ha hb
  subst ha; subst hb
  obtain ⟨da, hda⟩ : ∃ d, d = (ent L lf).dp := ⟨_, rfl⟩
  obtain ⟨db, hdb⟩ : ∃ d, d = (ent L rg).dp := ⟨_, rfl⟩
  rw [← hda] at HD1 ⊢
  rw [← hdb] at HD2 ⊢
  have HR' : Hid (∀ w, St w B S G L → Calls Try.prog 65 #[.pointer (some ⟨S, 0, none⟩), .int .i64 x] w fun r w' => r = .returned (.tuple #[.agg #[.int .i64 kd, .int .u8 lt_, .int .i64 lf, .int .i64 rg, .int .i64 tm], .nilIface]) ∧ Below w.heap.size w w') := HR
  have HST := Lib.hid st
  clear h0 h1 hg st hr HR a0 a1 b0 b1 hda hdb
  go_enter Try.func79, Try.ntmps79
  go_wp2_with fail
  (with_reducible refine (HR'.out _ HST.out).mono ?_)
  rintro e w1 ⟨rfl, B1⟩
  have HB1 := Lib.hid (balloc B1 (.cells #[.int .i64 kd, .int .u8 lt_, .int .i64 lf, .int .i64 rg, .int .i64 tm] 147))
  have HS1 := Lib.hid (HST.out.below HB1.out)
  have X1 := Lib.hid (Box.new w1 147 #[.int .i64 kd, .int .u8 lt_, .int .i64 lf, .int .i64 rg, .int .i64 tm])
  clear B1
  go_wp2_with fail
  (with_reducible refine (HD1.out _ HS1.out).mono ?_)
  rintro e w2 ⟨rfl, B2⟩
  have HS2 := Lib.hid (HS1.out.below B2); have HB2 := Lib.hid (bkeep HB1.out B2)
  have X2 := X1.out.below B2 X1.out.lt
  have x0 := X2.cell 0; have x1 := X2.cell 1; have x2 := X2.cell 2; have x3 := X2.cell 3; have x4 := X2.cell 4
  simp only [List.getElem?_toArray, List.getElem?_cons_zero, List.getElem?_cons_succ] at x0 x1 x2 x3 x4
  clear B2
  go_wp2_with fail
  (with_reducible refine (HD2.out _ HS2.out).mono ?_)
  rintro e w3 ⟨rfl, B3⟩
  have HB3 := Lib.hid (bkeep HB2.out B3)
  have X3 := X2.below B3 X2.lt
  have y0 := X3.cell 0; have y1 := X3.cell 1; have y2 := X3.cell 2; have y3 := X3.cell 3; have y4 := X3.cell 4
  simp only [List.getElem?_toArray, List.getElem?_cons_zero, List.getElem?_cons_succ] at y0 y1 y2 y3 y4
  clear B3
  go_wp2_with fail
  go_quiet (fail)
  go_wp2_with fail
  refine bodyPost_ret (v := .tuple #[.int .i64 lf, .int .i64 rg, .int .i64 da, .int .i64 db, .nilIface]) ?_ rfl ⟨rfl, below_drewN HB3.out _⟩
  simp only [results, Try.results79]
  simp [go_sem]
end Go.Proofs.Ytolhjkpekmmajaa
/- The walks of avl's two and four; what a pair's entry tells. -/
namespace Go.Proofs.Ytolhjkpekmmajaa
set_option linter.unusedVariables false
set_option linter.unusedSimpArgs false
open Go.RowKit Go.Lib Go.Maps
attribute [local go_sem ↓] Go.wp_at_zero Go.wp_at_succ
theorem idout_pre {P : Program} {f : FuncId} {args : Array Value} {B S G : Nat} {L : List En} {T : List (List Int)} {t : List Int} {lo hi : Int} {c : Nat} {w w1 : World}
    (h : Calls P f args w1 (IdOut B S G L T t lo hi c w1)) (hb : Below w.heap.size w w1) : Calls P f args w1 (IdOut B S G L T t lo hi c w) :=
  h.mono fun e w2 ⟨x, L2, T2, he, o⟩ => ⟨x, L2, T2, he, IdO.pre hb o⟩
theorem idout_turn {P : Program} {f : FuncId} {args : Array Value} {B S G : Nat} {L : List En} {T : List (List Int)} {t t' : List Int} {lo hi lo' hi' : Int} {c c' : Nat} {w w1 : World}
    (h : Calls P f args w1 (IdOut B S G L T t lo hi c w)) (ht : t = t') (hl : lo' ≤ lo) (hh : hi ≤ hi') (hc : c ≤ c') : Calls P f args w1 (IdOut B S G L T t' lo' hi' c' w) :=
  h.mono fun e w2 ⟨x, L2, T2, he, o⟩ => ⟨x, L2, T2, he, o.turn ht hl hh hc⟩
/-- behind a call that handed back an ID -/
theorem idout_after {P : Program} {f : FuncId} {args : Array Value} {B S G : Nat} {L L1 : List En} {T T1 : List (List Int)} {t1 t t' : List Int} {lo1 hi1 lo hi lo' hi' : Int} {c1 c c2 : Nat} {w w1 : World} {x1 : Int}
    (h : Calls P f args w1 (IdOut B S G L1 T1 t lo hi c w1)) (o : IdO B S G L T t1 lo1 hi1 c1 w w1 x1 L1 T1) (ht : t = t') (hl : lo' ≤ lo) (hh : hi ≤ hi') (hc : c1 + c ≤ c2) : Calls P f args w1 (IdOut B S G L T t' lo' hi' c2 w) :=
  h.mono fun e w2 ⟨x, L2, T2, he, o2⟩ => ⟨x, L2, T2, he, (o.after o2 hc).turn ht hl hh (Nat.le_refl _)⟩
/-- the entry x is the pair of a and b -/
structure PairOf (L : List En) (T : List (List Int)) (x a b : Int) : Prop where
  lf : (ent L x).r.lf = a
  rg : (ent L x).r.rg = b
  a0 : 1 ≤ a
  a1 : a < x
  b0 : 1 ≤ b
  b1 : b < x
  tx : tx T x = tx T a ++ tx T b
  dp : (ent L x).dp = 1 + max (ent L a).dp (ent L b).dp
  d1 : -1 ≤ (ent L a).dp - (ent L b).dp
  d2 : (ent L a).dp - (ent L b).dp ≤ 1
  e1 : 0 ≤ (ent L a).dp
  e2 : 0 ≤ (ent L b).dp
theorem Good.pair {L : List En} {T : List (List Int)} (h : Good L T) {x : Int} (h0 : 0 ≤ x) (h1 : x ≤ L.length) (hd : (ent L x).dp ≠ 0) : ∃ a b, PairOf L T x a b := by
  have hx : 1 ≤ x := by
    by_cases e : x = 0
    · subst e; exact absurd (by rw [ent_zero]; rfl) hd
    · omega
  rcases (h.ok x hx h1).r with ⟨_, _, _, _, _, _, _, k⟩ | ⟨_, _, _, k4, k5, k6, k7, k8, k9, k10, k11⟩
  · exact absurd k hd
  · exact ⟨_, _, rfl, rfl, k4, k5, k6, k7, k8, k9, k10, k11, (h.any (by omega) (by omega)).d0, (h.any (by omega) (by omega)).d0⟩
/-- of a known ID: its text's length -/
theorem Good.one {L : List En} {T : List (List Int)} (h : Good L T) {x : Int} (h0 : 1 ≤ x) (h1 : x ≤ L.length) : 1 ≤ (tx T x).length ∧ 0 ≤ (ent L x).dp ∧ (ent L x).dp < (tx T x).length ∧ (ent L x).dp < x :=
  ⟨(h.ok x h0 h1).n1, (h.ok x h0 h1).d0, (h.ok x h0 h1).dk, (h.ok x h0 h1).dx⟩
set_option maxRecDepth 100000 in
theorem two_any (L : List En) (T : List (List Int)) (hg : Good L T) (a b c : Int) (a0 : 1 ≤ a) (a1 : a ≤ L.length) (b0 : 1 ≤ b) (b1 : b ≤ L.length) (c0 : 1 ≤ c) (c1 : c ≤ L.length)
    (d1 : -1 ≤ (ent L b).dp - (ent L c).dp) (d2 : (ent L b).dp - (ent L c).dp ≤ 1) (d3 : -1 ≤ (ent L a).dp - (1 + max (ent L b).dp (ent L c).dp)) (d4 : (ent L a).dp - (1 + max (ent L b).dp (ent L c).dp) ≤ 1)
    (hn : (tx T a ++ (tx T b ++ tx T c)).length ≤ 1152921504606846976) (hc : L.length + 2 ≤ 1048576) (B S G : Nat) (w : World) (st : St w B S G L) :
    Calls Try.prog 85 #[.pointer (some ⟨S, 0, none⟩), .int .i64 a, .int .i64 b, .int .i64 c] w
      (IdOut B S G L T (tx T a ++ (tx T b ++ tx T c)) (1 + max (ent L a).dp (1 + max (ent L b).dp (ent L c).dp)) (1 + max (ent L a).dp (1 + max (ent L b).dp (ent L c).dp)) 2 w) := by
  have hn2 := hn; rw [List.length_append] at hn2
  have HP1 := Lib.hid (spair_any L T hg b c b0 b1 c0 c1 d1 d2 (by omega) (by omega) B S G w st)
  have HP2 : Hid (∀ x L1 T1 w1, IdO B S G L T (tx T b ++ tx T c) (1 + max (ent L b).dp (ent L c).dp) (1 + max (ent L b).dp (ent L c).dp) 1 w w1 x L1 T1 →
      Calls Try.prog 63 #[.pointer (some ⟨S, 0, none⟩), .int .i64 a, .int .i64 x] w1 (IdOut B S G L T (tx T a ++ (tx T b ++ tx T c)) (1 + max (ent L a).dp (1 + max (ent L b).dp (ent L c).dp)) (1 + max (ent L a).dp (1 + max (ent L b).dp (ent L c).dp)) 2 w)) := Lib.hid fun x L1 T1 w1 o => by
    have hx := o.x_pos (fun e => by have := (hg.one b0 b1).1; rw [List.append_eq_nil_iff] at e; rw [e.1] at this; simp at this)
    obtain ⟨e1, e2, e3⟩ := ido_old o hg (y := a) (by omega) a1
    have l1 := o.lo; have l2 := o.hi; have l3 := o.cnt
    have ed : (ent L1 x).dp = 1 + max (ent L b).dp (ent L c).dp := by omega
    refine idout_after (spair_any L1 T1 o.good a x a0 e3 hx o.x1 (by rw [e1, ed]; exact d3) (by rw [e1, ed]; exact d4) (by rw [e2, o.tx]; exact hn) (by omega) B S G w1 o.st) o (by rw [e2, o.tx]) ?_ ?_ (by omega)
    · rw [e1, ed]; exact Int.le_refl _
    · rw [e1, ed]; exact Int.le_refl _
  clear a0 a1 b0 b1 c0 c1 d1 d2 d3 d4 hn hn2 hc hg st
  go_enter Try.func85, Try.ntmps85
  go_wp2_with fail
  (with_reducible refine HP1.out.mono ?_)
  rintro e w1 ⟨x, L1, T1, rfl, o⟩
  have HO := Lib.hid o
  clear o
  go_wp2_with fail
  (with_reducible refine (HP2.out _ _ _ _ HO.out).mono ?_)
  rintro e w2 ⟨y, L2, T2, rfl, o2⟩
  have HO2 := Lib.hid o2
  clear o2
  go_wp2_with fail
  go_ret2
  exact ⟨y, L2, T2, rfl, HO2.out⟩
set_option maxRecDepth 100000 in
theorem four_any (L : List En) (T : List (List Int)) (hg : Good L T) (a b c d : Int) (a0 : 1 ≤ a) (a1 : a ≤ L.length) (b0 : 1 ≤ b) (b1 : b ≤ L.length) (c0 : 1 ≤ c) (c1 : c ≤ L.length) (f0 : 1 ≤ d) (f1 : d ≤ L.length)
    (d1 : -1 ≤ (ent L a).dp - (ent L b).dp) (d2 : (ent L a).dp - (ent L b).dp ≤ 1) (d3 : -1 ≤ (ent L c).dp - (ent L d).dp) (d4 : (ent L c).dp - (ent L d).dp ≤ 1)
    (d5 : -1 ≤ (1 + max (ent L a).dp (ent L b).dp) - (1 + max (ent L c).dp (ent L d).dp)) (d6 : (1 + max (ent L a).dp (ent L b).dp) - (1 + max (ent L c).dp (ent L d).dp) ≤ 1)
    (hn : ((tx T a ++ tx T b) ++ (tx T c ++ tx T d)).length ≤ 1152921504606846976) (hc : L.length + 3 ≤ 1048576) (B S G : Nat) (w : World) (st : St w B S G L) :
    Calls Try.prog 86 #[.pointer (some ⟨S, 0, none⟩), .int .i64 a, .int .i64 b, .int .i64 c, .int .i64 d] w
      (IdOut B S G L T ((tx T a ++ tx T b) ++ (tx T c ++ tx T d)) (1 + max (1 + max (ent L a).dp (ent L b).dp) (1 + max (ent L c).dp (ent L d).dp)) (1 + max (1 + max (ent L a).dp (ent L b).dp) (1 + max (ent L c).dp (ent L d).dp)) 3 w) := by
  have hn2 := hn; rw [List.length_append] at hn2
  have HP1 := Lib.hid (spair_any L T hg a b a0 a1 b0 b1 d1 d2 (by omega) (by omega) B S G w st)
  have HP2 : Hid (∀ x L1 T1 w1, IdO B S G L T (tx T a ++ tx T b) (1 + max (ent L a).dp (ent L b).dp) (1 + max (ent L a).dp (ent L b).dp) 1 w w1 x L1 T1 →
      Calls Try.prog 85 #[.pointer (some ⟨S, 0, none⟩), .int .i64 x, .int .i64 c, .int .i64 d] w1 (IdOut B S G L T ((tx T a ++ tx T b) ++ (tx T c ++ tx T d)) (1 + max (1 + max (ent L a).dp (ent L b).dp) (1 + max (ent L c).dp (ent L d).dp)) (1 + max (1 + max (ent L a).dp (ent L b).dp) (1 + max (ent L c).dp (ent L d).dp)) 3 w)) := Lib.hid fun x L1 T1 w1 o => by
    have hx := o.x_pos (fun e => by have := (hg.one a0 a1).1; rw [List.append_eq_nil_iff] at e; rw [e.1] at this; simp at this)
    obtain ⟨e1, e2, e3⟩ := ido_old o hg (y := c) (by omega) c1
    obtain ⟨e4, e5, e6⟩ := ido_old o hg (y := d) (by omega) f1
    have l1 := o.lo; have l2 := o.hi; have l3 := o.cnt
    have ed : (ent L1 x).dp = 1 + max (ent L a).dp (ent L b).dp := by omega
    refine idout_after (two_any L1 T1 o.good x c d hx o.x1 c0 e3 f0 e6 (by rw [e1, e4]; exact d3) (by rw [e1, e4]; exact d4) (by rw [e1, e4, ed]; exact d5) (by rw [e1, e4, ed]; exact d6) (by rw [e2, e5, o.tx]; exact hn) (by omega) B S G w1 o.st) o (by rw [e2, e5, o.tx]) ?_ ?_ (by omega)
    · rw [e1, e4, ed]; exact Int.le_refl _
    · rw [e1, e4, ed]; exact Int.le_refl _
  clear a0 a1 b0 b1 c0 c1 f0 f1 d1 d2 d3 d4 d5 d6 hn hn2 hc hg st
  go_enter Try.func86, Try.ntmps86
  go_wp2_with fail
  (with_reducible refine HP1.out.mono ?_)
  rintro e w1 ⟨x, L1, T1, rfl, o⟩
  have HO := Lib.hid o
  clear o
  go_wp2_with fail
  (with_reducible refine (HP2.out _ _ _ _ HO.out).mono ?_)
  rintro e w2 ⟨y, L2, T2, rfl, o2⟩
  have HO2 := Lib.hid o2
  clear o2
  go_wp2_with fail
  go_ret2
  exact ⟨y, L2, T2, rfl, HO2.out⟩
end Go.Proofs.Ytolhjkpekmmajaa
/- The walk of avl.level. Written by wip/gen/avllevel.py. -/
namespace Go.Proofs.Ytolhjkpekmmajaa
set_option linter.unusedVariables false
set_option linter.unusedSimpArgs false
open Go.RowKit Go.Lib Go.Maps
attribute [local go_sem ↓] Go.wp_at_zero Go.wp_at_succ
theorem PairOf.parts {L : List En} {T : List (List Int)} (hg : Good L T) {x a b : Int} (p : PairOf L T x a b) (x0 : 1 ≤ x) (x1 : x ≤ L.length) (B S G : Nat) (w : World) (st : St w B S G L) :
    Calls Try.prog 79 #[.pointer (some ⟨S, 0, none⟩), .int .i64 x] w fun r w' => r = .returned (.tuple #[.int .i64 a, .int .i64 b, .int .i64 (ent L a).dp, .int .i64 (ent L b).dp, .nilIface]) ∧ Below w.heap.size w w' :=
  parts_any L T hg x x0 x1 a b p.lf p.rg (by have := p.a0; omega) (by have := p.a1; omega) (by have := p.b0; omega) (by have := p.b1; omega) B S G w st
set_option maxRecDepth 100000 in
set_option maxHeartbeats 4000000 in
theorem level_near (L : List En) (T : List (List Int)) (hg : Good L T) (a b : Int) (a0 : 1 ≤ a) (a1 : a ≤ L.length) (b0 : 1 ≤ b) (b1 : b ≤ L.length) (d1 : -1 ≤ (ent L a).dp - (ent L b).dp) (d2 : (ent L a).dp - (ent L b).dp ≤ 1)
    (hn : (tx T a ++ tx T b).length ≤ 1152921504606846976) (hc : L.length + 3 ≤ 1048576) (B S G : Nat) (w : World) (st : St w B S G L) :
    Calls Try.prog 80 #[.pointer (some ⟨S, 0, none⟩), .int .i64 a, .int .i64 b] w (IdOut B S G L T (tx T a ++ tx T b) (1 + max (ent L a).dp (ent L b).dp) (1 + max (ent L a).dp (ent L b).dp) 3 w) := by
  have HD1 := Lib.hid (fun w st => depth_any L a (by omega) a1 hg.cap B S G w st)
  have HD2 := Lib.hid (fun w st => depth_any L b (by omega) b1 hg.cap B S G w st)
  have oa := hg.one a0 a1; have ob := hg.one b0 b1
  have hcap := hg.cap
  have HP : Hid (∀ w1, Below w.heap.size w w1 → St w1 B S G L → Calls Try.prog 63 #[.pointer (some ⟨S, 0, none⟩), .int .i64 a, .int .i64 b] w1 (IdOut B S G L T (tx T a ++ tx T b) (1 + max (ent L a).dp (ent L b).dp) (1 + max (ent L a).dp (ent L b).dp) 3 w)) := Lib.hid fun w1 hb st1 =>
    idout_turn (idout_pre (spair_any L T hg a b a0 a1 b0 b1 d1 d2 hn (by omega) B S G w1 st1) hb) rfl (Int.le_refl _) (Int.le_refl _) (by omega)
  have HST := Lib.hid st
  obtain ⟨da, hda⟩ : ∃ d, d = (ent L a).dp := ⟨_, rfl⟩
  obtain ⟨db, hdb⟩ : ∃ d, d = (ent L b).dp := ⟨_, rfl⟩
  have t1 : decide (db + 1 < da) = false := by simp; omega
  have t2 : decide (da + 1 < db) = false := by simp; omega
  have q1 : 0 ≤ da := by omega
  have q2 : 0 ≤ db := by omega
  have q3 : da ≤ 2000000 := by omega
  have q4 : db ≤ 2000000 := by omega
  rw [← hda] at HD1
  rw [← hdb] at HD2
  clear d1 d2 hda hdb oa ob hcap a0 a1 b0 b1 hn hc hg st
  go_enter Try.func80, Try.ntmps80
  go_wp2_with fail
  (with_reducible refine (HD1.out _ HST.out).mono ?_)
  rintro e w1 ⟨rfl, B1⟩
  have HS1 := Lib.hid (HST.out.below B1); have HB1 := Lib.hid B1
  clear B1
  go_wp2_with fail
  (with_reducible refine (HD2.out _ HS1.out).mono ?_)
  rintro e w2 ⟨rfl, B2⟩
  have HS2 := Lib.hid (HS1.out.below B2); have HB2 := Lib.hid (bkeep HB1.out B2)
  clear B2
  go_wp2_with fail
  (with_reducible refine (HP.out _ HB2.out HS2.out).mono ?_)
  rintro e w9 ⟨y, L2, T2, rfl, o2⟩
  have HO2 := Lib.hid o2
  clear o2
  go_wp2_with fail
  go_ret2
  exact ⟨y, L2, T2, rfl, HO2.out⟩
set_option maxRecDepth 100000 in
set_option maxHeartbeats 4000000 in
theorem level_two (L : List En) (T : List (List Int)) (hg : Good L T) (a b : Int) (a0 : 1 ≤ a) (a1 : a ≤ L.length) (b0 : 1 ≤ b) (b1 : b ≤ L.length) (l r : Int) (p : PairOf L T a l r) (d1 : (ent L a).dp = (ent L b).dp + 2) (d2 : (ent L r).dp ≤ (ent L l).dp)
    (hn : (tx T a ++ tx T b).length ≤ 1152921504606846976) (hc : L.length + 3 ≤ 1048576) (B S G : Nat) (w : World) (st : St w B S G L) :
    Calls Try.prog 80 #[.pointer (some ⟨S, 0, none⟩), .int .i64 a, .int .i64 b] w (IdOut B S G L T (tx T a ++ tx T b) (max (ent L a).dp (ent L b).dp) (1 + max (ent L a).dp (ent L b).dp) 3 w) := by
  have HD1 := Lib.hid (fun w st => depth_any L a (by omega) a1 hg.cap B S G w st)
  have HD2 := Lib.hid (fun w st => depth_any L b (by omega) b1 hg.cap B S G w st)
  have oa := hg.one a0 a1; have ob := hg.one b0 b1
  have hcap := hg.cap
  have pa0 := p.a0; have pa1 := p.a1; have pb0 := p.b0; have pb1 := p.b1; have pd := p.dp; have p1 := p.d1; have p2 := p.d2; have pt := p.tx; have pe1 := p.e1; have pe2 := p.e2
  have HA := Lib.hid (fun w st => p.parts hg a0 a1 B S G w st)
  have HP : Hid (∀ w1, Below w.heap.size w w1 → St w1 B S G L → Calls Try.prog 85 #[.pointer (some ⟨S, 0, none⟩), .int .i64 l, .int .i64 r, .int .i64 b] w1 (IdOut B S G L T (tx T a ++ tx T b) (max (ent L a).dp (ent L b).dp) (1 + max (ent L a).dp (ent L b).dp) 3 w)) := Lib.hid fun w1 hb st1 =>
    idout_turn (idout_pre (two_any L T hg l r b pa0 (by omega) pb0 (by omega) b0 b1 (by omega) (by omega) (by omega) (by omega) (by rw [← List.append_assoc, ← pt]; exact hn) (by omega) B S G w1 st1) hb) (by rw [← List.append_assoc, ← pt]) (by omega) (by omega) (by omega)
  obtain ⟨dl, hdl⟩ : ∃ d, d = (ent L l).dp := ⟨_, rfl⟩
  obtain ⟨dr, hdr⟩ : ∃ d, d = (ent L r).dp := ⟨_, rfl⟩
  rw [← hdl, ← hdr] at HA
  have t3 : decide (dr ≤ dl) = true := by simp; omega
  have HST := Lib.hid st
  obtain ⟨da, hda⟩ : ∃ d, d = (ent L a).dp := ⟨_, rfl⟩
  obtain ⟨db, hdb⟩ : ∃ d, d = (ent L b).dp := ⟨_, rfl⟩
  have t1 : decide (db + 1 < da) = true := by simp; omega
  have q1 : 0 ≤ da := by omega
  have q2 : 0 ≤ db := by omega
  have q3 : da ≤ 2000000 := by omega
  have q4 : db ≤ 2000000 := by omega
  rw [← hda] at HD1
  rw [← hdb] at HD2
  clear p d1 d2 pa0 pa1 pb0 pb1 pd p1 p2 pt pe1 pe2 hdl hdr hda hdb oa ob hcap a0 a1 b0 b1 hn hc hg st
  go_enter Try.func80, Try.ntmps80
  go_wp2_with fail
  (with_reducible refine (HD1.out _ HST.out).mono ?_)
  rintro e w1 ⟨rfl, B1⟩
  have HS1 := Lib.hid (HST.out.below B1); have HB1 := Lib.hid B1
  clear B1
  go_wp2_with fail
  (with_reducible refine (HD2.out _ HS1.out).mono ?_)
  rintro e w2 ⟨rfl, B2⟩
  have HS2 := Lib.hid (HS1.out.below B2); have HB2 := Lib.hid (bkeep HB1.out B2)
  clear B2
  go_wp2_with fail
  (with_reducible refine (HA.out _ HS2.out).mono ?_)
  rintro e w3 ⟨rfl, B3⟩
  have HS3 := Lib.hid (HS2.out.below B3); have HB3 := Lib.hid (bkeep HB2.out B3)
  clear B3
  go_wp2_with fail
  (with_reducible refine (HP.out _ HB3.out HS3.out).mono ?_)
  rintro e w9 ⟨y, L2, T2, rfl, o2⟩
  have HO2 := Lib.hid o2
  clear o2
  go_wp2_with fail
  go_ret2
  exact ⟨y, L2, T2, rfl, HO2.out⟩
set_option maxRecDepth 100000 in
set_option maxHeartbeats 4000000 in
theorem level_four (L : List En) (T : List (List Int)) (hg : Good L T) (a b : Int) (a0 : 1 ≤ a) (a1 : a ≤ L.length) (b0 : 1 ≤ b) (b1 : b ≤ L.length) (l r x y : Int) (p : PairOf L T a l r) (p2 : PairOf L T r x y) (d1 : (ent L a).dp = (ent L b).dp + 2) (d2 : (ent L l).dp < (ent L r).dp)
    (hn : (tx T a ++ tx T b).length ≤ 1152921504606846976) (hc : L.length + 3 ≤ 1048576) (B S G : Nat) (w : World) (st : St w B S G L) :
    Calls Try.prog 80 #[.pointer (some ⟨S, 0, none⟩), .int .i64 a, .int .i64 b] w (IdOut B S G L T (tx T a ++ tx T b) (max (ent L a).dp (ent L b).dp) (1 + max (ent L a).dp (ent L b).dp) 3 w) := by
  have HD1 := Lib.hid (fun w st => depth_any L a (by omega) a1 hg.cap B S G w st)
  have HD2 := Lib.hid (fun w st => depth_any L b (by omega) b1 hg.cap B S G w st)
  have oa := hg.one a0 a1; have ob := hg.one b0 b1
  have hcap := hg.cap
  have pa0 := p.a0; have pa1 := p.a1; have pb0 := p.b0; have pb1 := p.b1; have pd := p.dp; have p3 := p.d1; have p4 := p.d2; have pt := p.tx; have pe1 := p.e1; have pe2 := p.e2
  have qa0 := p2.a0; have qa1 := p2.a1; have qb0 := p2.b0; have qb1 := p2.b1; have qd := p2.dp; have p5 := p2.d1; have p6 := p2.d2; have qt := p2.tx; have qe1 := p2.e1; have qe2 := p2.e2
  have HA := Lib.hid (fun w st => p.parts hg a0 a1 B S G w st)
  have HA2 := Lib.hid (fun w st => p2.parts hg pb0 (by omega) B S G w st)
  have et : (tx T l ++ tx T x) ++ (tx T y ++ tx T b) = tx T a ++ tx T b := by rw [pt, qt]; simp
  have HP : Hid (∀ w1, Below w.heap.size w w1 → St w1 B S G L → Calls Try.prog 86 #[.pointer (some ⟨S, 0, none⟩), .int .i64 l, .int .i64 x, .int .i64 y, .int .i64 b] w1 (IdOut B S G L T (tx T a ++ tx T b) (max (ent L a).dp (ent L b).dp) (1 + max (ent L a).dp (ent L b).dp) 3 w)) := Lib.hid fun w1 hb st1 =>
    idout_turn (idout_pre (four_any L T hg l x y b pa0 (by omega) qa0 (by omega) qb0 (by omega) b0 b1 (by omega) (by omega) (by omega) (by omega) (by omega) (by omega) (by rw [et]; exact hn) (by omega) B S G w1 st1) hb) et (by omega) (by omega) (by omega)
  obtain ⟨dl, hdl⟩ : ∃ d, d = (ent L l).dp := ⟨_, rfl⟩
  obtain ⟨dr, hdr⟩ : ∃ d, d = (ent L r).dp := ⟨_, rfl⟩
  rw [← hdl, ← hdr] at HA
  have t3 : decide (dr ≤ dl) = false := by simp; omega
  have HST := Lib.hid st
  obtain ⟨da, hda⟩ : ∃ d, d = (ent L a).dp := ⟨_, rfl⟩
  obtain ⟨db, hdb⟩ : ∃ d, d = (ent L b).dp := ⟨_, rfl⟩
  have t1 : decide (db + 1 < da) = true := by simp; omega
  have q1 : 0 ≤ da := by omega
  have q2 : 0 ≤ db := by omega
  have q3 : da ≤ 2000000 := by omega
  have q4 : db ≤ 2000000 := by omega
  rw [← hda] at HD1
  rw [← hdb] at HD2
  clear p p2 d1 d2 pa0 pa1 pb0 pb1 pd p3 p4 pt pe1 pe2 qa0 qa1 qb0 qb1 qd p5 p6 qt qe1 qe2 et hdl hdr hda hdb oa ob hcap a0 a1 b0 b1 hn hc hg st
  go_enter Try.func80, Try.ntmps80
  go_wp2_with fail
  (with_reducible refine (HD1.out _ HST.out).mono ?_)
  rintro e w1 ⟨rfl, B1⟩
  have HS1 := Lib.hid (HST.out.below B1); have HB1 := Lib.hid B1
  clear B1
  go_wp2_with fail
  (with_reducible refine (HD2.out _ HS1.out).mono ?_)
  rintro e w2 ⟨rfl, B2⟩
  have HS2 := Lib.hid (HS1.out.below B2); have HB2 := Lib.hid (bkeep HB1.out B2)
  clear B2
  go_wp2_with fail
  (with_reducible refine (HA.out _ HS2.out).mono ?_)
  rintro e w3 ⟨rfl, B3⟩
  have HS3 := Lib.hid (HS2.out.below B3); have HB3 := Lib.hid (bkeep HB2.out B3)
  clear B3
  go_wp2_with fail
  (with_reducible refine (HA2.out _ HS3.out).mono ?_)
  rintro e w4 ⟨rfl, B4⟩
  have HS4 := Lib.hid (HS3.out.below B4); have HB4 := Lib.hid (bkeep HB3.out B4)
  clear B4
  go_wp2_with fail
  (with_reducible refine (HP.out _ HB4.out HS4.out).mono ?_)
  rintro e w9 ⟨y, L2, T2, rfl, o2⟩
  have HO2 := Lib.hid o2
  clear o2
  go_wp2_with fail
  go_ret2
  exact ⟨y, L2, T2, rfl, HO2.out⟩
set_option maxRecDepth 100000 in
set_option maxHeartbeats 4000000 in
theorem level_rfour (L : List En) (T : List (List Int)) (hg : Good L T) (a b : Int) (a0 : 1 ≤ a) (a1 : a ≤ L.length) (b0 : 1 ≤ b) (b1 : b ≤ L.length) (l r x y : Int) (p : PairOf L T b l r) (p2 : PairOf L T l x y) (d1 : (ent L b).dp = (ent L a).dp + 2) (d2 : (ent L r).dp < (ent L l).dp)
    (hn : (tx T a ++ tx T b).length ≤ 1152921504606846976) (hc : L.length + 3 ≤ 1048576) (B S G : Nat) (w : World) (st : St w B S G L) :
    Calls Try.prog 80 #[.pointer (some ⟨S, 0, none⟩), .int .i64 a, .int .i64 b] w (IdOut B S G L T (tx T a ++ tx T b) (max (ent L a).dp (ent L b).dp) (1 + max (ent L a).dp (ent L b).dp) 3 w) := by
  have HD1 := Lib.hid (fun w st => depth_any L a (by omega) a1 hg.cap B S G w st)
  have HD2 := Lib.hid (fun w st => depth_any L b (by omega) b1 hg.cap B S G w st)
  have oa := hg.one a0 a1; have ob := hg.one b0 b1
  have hcap := hg.cap
  have pa0 := p.a0; have pa1 := p.a1; have pb0 := p.b0; have pb1 := p.b1; have pd := p.dp; have p3 := p.d1; have p4 := p.d2; have pt := p.tx; have pe1 := p.e1; have pe2 := p.e2
  have qa0 := p2.a0; have qa1 := p2.a1; have qb0 := p2.b0; have qb1 := p2.b1; have qd := p2.dp; have p5 := p2.d1; have p6 := p2.d2; have qt := p2.tx; have qe1 := p2.e1; have qe2 := p2.e2
  have HA := Lib.hid (fun w st => p.parts hg b0 b1 B S G w st)
  have HA2 := Lib.hid (fun w st => p2.parts hg pa0 (by omega) B S G w st)
  have et : (tx T a ++ tx T x) ++ (tx T y ++ tx T r) = tx T a ++ tx T b := by rw [pt, qt]; simp
  have HP : Hid (∀ w1, Below w.heap.size w w1 → St w1 B S G L → Calls Try.prog 86 #[.pointer (some ⟨S, 0, none⟩), .int .i64 a, .int .i64 x, .int .i64 y, .int .i64 r] w1 (IdOut B S G L T (tx T a ++ tx T b) (max (ent L a).dp (ent L b).dp) (1 + max (ent L a).dp (ent L b).dp) 3 w)) := Lib.hid fun w1 hb st1 =>
    idout_turn (idout_pre (four_any L T hg a x y r a0 a1 qa0 (by omega) qb0 (by omega) pb0 (by omega) (by omega) (by omega) (by omega) (by omega) (by omega) (by omega) (by rw [et]; exact hn) (by omega) B S G w1 st1) hb) et (by omega) (by omega) (by omega)
  obtain ⟨dl, hdl⟩ : ∃ d, d = (ent L l).dp := ⟨_, rfl⟩
  obtain ⟨dr, hdr⟩ : ∃ d, d = (ent L r).dp := ⟨_, rfl⟩
  rw [← hdl, ← hdr] at HA
  have t3 : decide (dr < dl) = true := by simp; omega
  have HST := Lib.hid st
  obtain ⟨da, hda⟩ : ∃ d, d = (ent L a).dp := ⟨_, rfl⟩
  obtain ⟨db, hdb⟩ : ∃ d, d = (ent L b).dp := ⟨_, rfl⟩
  have t1 : decide (db + 1 < da) = false := by simp; omega
  have t2 : decide (da + 1 < db) = true := by simp; omega
  have q1 : 0 ≤ da := by omega
  have q2 : 0 ≤ db := by omega
  have q3 : da ≤ 2000000 := by omega
  have q4 : db ≤ 2000000 := by omega
  rw [← hda] at HD1
  rw [← hdb] at HD2
  clear p p2 d1 d2 pa0 pa1 pb0 pb1 pd p3 p4 pt pe1 pe2 qa0 qa1 qb0 qb1 qd p5 p6 qt qe1 qe2 et hdl hdr hda hdb oa ob hcap a0 a1 b0 b1 hn hc hg st
  go_enter Try.func80, Try.ntmps80
  go_wp2_with fail
  (with_reducible refine (HD1.out _ HST.out).mono ?_)
  rintro e w1 ⟨rfl, B1⟩
  have HS1 := Lib.hid (HST.out.below B1); have HB1 := Lib.hid B1
  clear B1
  go_wp2_with fail
  (with_reducible refine (HD2.out _ HS1.out).mono ?_)
  rintro e w2 ⟨rfl, B2⟩
  have HS2 := Lib.hid (HS1.out.below B2); have HB2 := Lib.hid (bkeep HB1.out B2)
  clear B2
  go_wp2_with fail
  (with_reducible refine (HA.out _ HS2.out).mono ?_)
  rintro e w3 ⟨rfl, B3⟩
  have HS3 := Lib.hid (HS2.out.below B3); have HB3 := Lib.hid (bkeep HB2.out B3)
  clear B3
  go_wp2_with fail
  (with_reducible refine (HA2.out _ HS3.out).mono ?_)
  rintro e w4 ⟨rfl, B4⟩
  have HS4 := Lib.hid (HS3.out.below B4); have HB4 := Lib.hid (bkeep HB3.out B4)
  clear B4
  go_wp2_with fail
  (with_reducible refine (HP.out _ HB4.out HS4.out).mono ?_)
  rintro e w9 ⟨y, L2, T2, rfl, o2⟩
  have HO2 := Lib.hid o2
  clear o2
  go_wp2_with fail
  go_ret2
  exact ⟨y, L2, T2, rfl, HO2.out⟩
set_option maxRecDepth 100000 in
set_option maxHeartbeats 4000000 in
theorem level_rtwo (L : List En) (T : List (List Int)) (hg : Good L T) (a b : Int) (a0 : 1 ≤ a) (a1 : a ≤ L.length) (b0 : 1 ≤ b) (b1 : b ≤ L.length) (l r : Int) (p : PairOf L T b l r) (d1 : (ent L b).dp = (ent L a).dp + 2) (d2 : (ent L l).dp ≤ (ent L r).dp)
    (hn : (tx T a ++ tx T b).length ≤ 1152921504606846976) (hc : L.length + 3 ≤ 1048576) (B S G : Nat) (w : World) (st : St w B S G L) :
    Calls Try.prog 80 #[.pointer (some ⟨S, 0, none⟩), .int .i64 a, .int .i64 b] w (IdOut B S G L T (tx T a ++ tx T b) (max (ent L a).dp (ent L b).dp) (1 + max (ent L a).dp (ent L b).dp) 3 w) := by
  have HD1 := Lib.hid (fun w st => depth_any L a (by omega) a1 hg.cap B S G w st)
  have HD2 := Lib.hid (fun w st => depth_any L b (by omega) b1 hg.cap B S G w st)
  have oa := hg.one a0 a1; have ob := hg.one b0 b1
  have hcap := hg.cap
  have pa0 := p.a0; have pa1 := p.a1; have pb0 := p.b0; have pb1 := p.b1; have pd := p.dp; have p3 := p.d1; have p4 := p.d2; have pt := p.tx; have pe1 := p.e1; have pe2 := p.e2
  have HA := Lib.hid (fun w st => p.parts hg b0 b1 B S G w st)
  have et : (tx T a ++ tx T l) ++ tx T r = tx T a ++ tx T b := by rw [pt]; simp
  have hn2 := hn; rw [← et, List.length_append] at hn2
  have HP : Hid (∀ w1, Below w.heap.size w w1 → St w1 B S G L → Calls Try.prog 63 #[.pointer (some ⟨S, 0, none⟩), .int .i64 a, .int .i64 l] w1 (IdOut B S G L T (tx T a ++ tx T l) (1 + max (ent L a).dp (ent L l).dp) (1 + max (ent L a).dp (ent L l).dp) 1 w)) := Lib.hid fun w1 hb st1 =>
    idout_pre (spair_any L T hg a l a0 a1 pa0 (by omega) (by omega) (by omega) (by omega) (by omega) B S G w1 st1) hb
  have HP2 : Hid (∀ x L1 T1 w1, IdO B S G L T (tx T a ++ tx T l) (1 + max (ent L a).dp (ent L l).dp) (1 + max (ent L a).dp (ent L l).dp) 1 w w1 x L1 T1 →
      Calls Try.prog 63 #[.pointer (some ⟨S, 0, none⟩), .int .i64 x, .int .i64 r] w1 (IdOut B S G L T (tx T a ++ tx T b) (max (ent L a).dp (ent L b).dp) (1 + max (ent L a).dp (ent L b).dp) 3 w)) := Lib.hid fun x L1 T1 w1 o => by
    have hx := o.x_pos (fun e => by have := oa.1; rw [List.append_eq_nil_iff] at e; rw [e.1] at this; simp at this)
    obtain ⟨e1, e2, e3⟩ := ido_old o hg (y := r) (by omega) (by omega)
    have l1 := o.lo; have l2 := o.hi; have l3 := o.cnt
    have ed : (ent L1 x).dp = 1 + max (ent L a).dp (ent L l).dp := by omega
    refine idout_after (spair_any L1 T1 o.good x r hx o.x1 pb0 e3 (by rw [e1, ed]; omega) (by rw [e1, ed]; omega) (by rw [e2, o.tx, et]; exact hn) (by omega) B S G w1 o.st) o (by rw [e2, o.tx, et]) ?_ ?_ (by omega)
    · rw [e1, ed]; omega
    · rw [e1, ed]; omega
  obtain ⟨dl, hdl⟩ : ∃ d, d = (ent L l).dp := ⟨_, rfl⟩
  obtain ⟨dr, hdr⟩ : ∃ d, d = (ent L r).dp := ⟨_, rfl⟩
  rw [← hdl, ← hdr] at HA
  have t3 : decide (dr < dl) = false := by simp; omega
  have HST := Lib.hid st
  obtain ⟨da, hda⟩ : ∃ d, d = (ent L a).dp := ⟨_, rfl⟩
  obtain ⟨db, hdb⟩ : ∃ d, d = (ent L b).dp := ⟨_, rfl⟩
  have t1 : decide (db + 1 < da) = false := by simp; omega
  have t2 : decide (da + 1 < db) = true := by simp; omega
  have q1 : 0 ≤ da := by omega
  have q2 : 0 ≤ db := by omega
  have q3 : da ≤ 2000000 := by omega
  have q4 : db ≤ 2000000 := by omega
  rw [← hda] at HD1
  rw [← hdb] at HD2
  clear p d1 d2 pa0 pa1 pb0 pb1 pd p3 p4 pt pe1 pe2 et hn2 hdl hdr hda hdb oa ob hcap a0 a1 b0 b1 hn hc hg st
  go_enter Try.func80, Try.ntmps80
  go_wp2_with fail
  (with_reducible refine (HD1.out _ HST.out).mono ?_)
  rintro e w1 ⟨rfl, B1⟩
  have HS1 := Lib.hid (HST.out.below B1); have HB1 := Lib.hid B1
  clear B1
  go_wp2_with fail
  (with_reducible refine (HD2.out _ HS1.out).mono ?_)
  rintro e w2 ⟨rfl, B2⟩
  have HS2 := Lib.hid (HS1.out.below B2); have HB2 := Lib.hid (bkeep HB1.out B2)
  clear B2
  go_wp2_with fail
  (with_reducible refine (HA.out _ HS2.out).mono ?_)
  rintro e w3 ⟨rfl, B3⟩
  have HS3 := Lib.hid (HS2.out.below B3); have HB3 := Lib.hid (bkeep HB2.out B3)
  clear B3
  go_wp2_with fail
  (with_reducible refine (HP.out _ HB3.out HS3.out).mono ?_)
  rintro e w5 ⟨x, L1, T1, rfl, o⟩
  have HO := Lib.hid o
  clear o
  go_wp2_with fail
  (with_reducible refine (HP2.out _ _ _ _ HO.out).mono ?_)
  rintro e w9 ⟨y, L2, T2, rfl, o2⟩
  have HO2 := Lib.hid o2
  clear o2
  go_wp2_with fail
  go_ret2
  exact ⟨y, L2, T2, rfl, HO2.out⟩
theorem level_any (L : List En) (T : List (List Int)) (hg : Good L T) (a b : Int) (a0 : 1 ≤ a) (a1 : a ≤ L.length) (b0 : 1 ≤ b) (b1 : b ≤ L.length) (d1 : -2 ≤ (ent L a).dp - (ent L b).dp) (d2 : (ent L a).dp - (ent L b).dp ≤ 2)
    (hn : (tx T a ++ tx T b).length ≤ 1152921504606846976) (hc : L.length + 3 ≤ 1048576) (B S G : Nat) (w : World) (st : St w B S G L) :
    Calls Try.prog 80 #[.pointer (some ⟨S, 0, none⟩), .int .i64 a, .int .i64 b] w (IdOut B S G L T (tx T a ++ tx T b) (if -1 ≤ (ent L a).dp - (ent L b).dp ∧ (ent L a).dp - (ent L b).dp ≤ 1 then 1 + max (ent L a).dp (ent L b).dp else max (ent L a).dp (ent L b).dp) (1 + max (ent L a).dp (ent L b).dp) 3 w) := by
  have oa := hg.one a0 a1; have ob := hg.one b0 b1
  by_cases h1 : (ent L a).dp = (ent L b).dp + 2
  · rw [if_neg (by omega)]
    obtain ⟨l, r, p⟩ := hg.pair (by omega) a1 (by omega)
    by_cases h2 : (ent L r).dp ≤ (ent L l).dp
    · exact level_two L T hg a b a0 a1 b0 b1 l r p h1 h2 hn hc B S G w st
    · have := p.e1; have := p.b0; have := p.b1
      obtain ⟨x, y, p2⟩ := hg.pair (x := r) (by omega) (by omega) (by omega)
      exact level_four L T hg a b a0 a1 b0 b1 l r x y p p2 h1 (by omega) hn hc B S G w st
  · by_cases h2 : (ent L b).dp = (ent L a).dp + 2
    · rw [if_neg (by omega)]
      obtain ⟨l, r, p⟩ := hg.pair (x := b) (by omega) b1 (by omega)
      by_cases h3 : (ent L l).dp ≤ (ent L r).dp
      · exact level_rtwo L T hg a b a0 a1 b0 b1 l r p h2 h3 hn hc B S G w st
      · have := p.e2; have := p.a0; have := p.a1
        obtain ⟨x, y, p2⟩ := hg.pair (x := l) (by omega) (by omega) (by omega)
        exact level_rfour L T hg a b a0 a1 b0 b1 l r x y p p2 h2 (by omega) hn hc B S G w st
    · rw [if_pos (by omega)]
      exact level_near L T hg a b a0 a1 b0 b1 (by omega) (by omega) hn hc B S G w st
end Go.Proofs.Ytolhjkpekmmajaa
/- The walks of avl.join and avl.Join. Written by wip/gen/avljoin.py. -/
namespace Go.Proofs.Ytolhjkpekmmajaa
set_option linter.unusedVariables false
set_option linter.unusedSimpArgs false
open Go.RowKit Go.Lib Go.Maps
attribute [local go_sem ↓] Go.wp_at_zero Go.wp_at_succ
set_option maxRecDepth 100000 in
set_option maxHeartbeats 4000000 in
theorem join_near (k : Nat) (L : List En) (T : List (List Int)) (hg : Good L T) (a b : Int) (a0 : 1 ≤ a) (a1 : a ≤ L.length) (b0 : 1 ≤ b) (b1 : b ≤ L.length) (d1 : -1 ≤ (ent L a).dp - (ent L b).dp) (d2 : (ent L a).dp - (ent L b).dp ≤ 1)
    (hn : (tx T a ++ tx T b).length ≤ 1152921504606846976) (hk : (ent L a).dp + (ent L b).dp ≤ k) (hc : L.length + (3 * k + 1) ≤ 1048576) (B S G : Nat) (w : World) (st : St w B S G L) :
    Calls Try.prog 70 #[.pointer (some ⟨S, 0, none⟩), .int .i64 a, .int .i64 b] w (IdOut B S G L T (tx T a ++ tx T b) (max (ent L a).dp (ent L b).dp) (1 + max (ent L a).dp (ent L b).dp) (3 * k + 1) w) := by
  have HD1 := Lib.hid (fun w st => depth_any L a (by omega) a1 hg.cap B S G w st)
  have HD2 := Lib.hid (fun w st => depth_any L b (by omega) b1 hg.cap B S G w st)
  have oa := hg.one a0 a1; have ob := hg.one b0 b1
  have hcap := hg.cap
  have HP : Hid (∀ w1, Below w.heap.size w w1 → St w1 B S G L → Calls Try.prog 63 #[.pointer (some ⟨S, 0, none⟩), .int .i64 a, .int .i64 b] w1 (IdOut B S G L T (tx T a ++ tx T b) (max (ent L a).dp (ent L b).dp) (1 + max (ent L a).dp (ent L b).dp) (3 * k + 1) w)) := Lib.hid fun w1 hb st1 =>
    idout_turn (idout_pre (spair_any L T hg a b a0 a1 b0 b1 d1 d2 hn (by omega) B S G w1 st1) hb) rfl (by omega) (by omega) (by omega)
  have HST := Lib.hid st
  obtain ⟨da, hda⟩ : ∃ d, d = (ent L a).dp := ⟨_, rfl⟩
  obtain ⟨db, hdb⟩ : ∃ d, d = (ent L b).dp := ⟨_, rfl⟩
  have t1 : decide (db + 1 < da) = false := by simp; omega
  have t2 : decide (da + 1 < db) = false := by simp; omega
  have q1 : 0 ≤ da := by omega
  have q2 : 0 ≤ db := by omega
  have q3 : da ≤ 2000000 := by omega
  have q4 : db ≤ 2000000 := by omega
  rw [← hda] at HD1
  rw [← hdb] at HD2
  clear d1 d2 hk hda hdb oa ob hcap a0 a1 b0 b1 hn hc hg st
  go_enter Try.func70, Try.ntmps70
  go_wp2_with fail
  (with_reducible refine (HD1.out _ HST.out).mono ?_)
  rintro e w1 ⟨rfl, B1⟩
  have HS1 := Lib.hid (HST.out.below B1); have HB1 := Lib.hid B1
  clear B1
  go_wp2_with fail
  (with_reducible refine (HD2.out _ HS1.out).mono ?_)
  rintro e w2 ⟨rfl, B2⟩
  have HS2 := Lib.hid (HS1.out.below B2); have HB2 := Lib.hid (bkeep HB1.out B2)
  clear B2
  go_wp2_with fail
  (with_reducible refine (HP.out _ HB2.out HS2.out).mono ?_)
  rintro e w9 ⟨y, L2, T2, rfl, o2⟩
  have HO2 := Lib.hid o2
  clear o2
  go_wp2_with fail
  go_ret2
  exact ⟨y, L2, T2, rfl, HO2.out⟩
set_option maxRecDepth 100000 in
set_option maxHeartbeats 4000000 in
theorem join_left (k : Nat) (L : List En) (T : List (List Int)) (hg : Good L T) (a b : Int) (a0 : 1 ≤ a) (a1 : a ≤ L.length) (b0 : 1 ≤ b) (b1 : b ≤ L.length) (l r : Int) (p : PairOf L T a l r) (d1 : (ent L b).dp + 1 < (ent L a).dp)
    (hn : (tx T a ++ tx T b).length ≤ 1152921504606846976) (hk : (ent L a).dp + (ent L b).dp ≤ k) (hc : L.length + (3 * k + 1) ≤ 1048576) (B S G : Nat) (w : World) (st : St w B S G L)
    (HJ : ∀ w1, Below w.heap.size w w1 → St w1 B S G L → Calls Try.prog 70 #[.pointer (some ⟨S, 0, none⟩), .int .i64 r, .int .i64 b] w1 (IdOut B S G L T (tx T r ++ tx T b) (max (ent L r).dp (ent L b).dp) (1 + max (ent L r).dp (ent L b).dp) (3 * (k - 1) + 1) w1)) :
    Calls Try.prog 70 #[.pointer (some ⟨S, 0, none⟩), .int .i64 a, .int .i64 b] w (IdOut B S G L T (tx T a ++ tx T b) (max (ent L a).dp (ent L b).dp) (1 + max (ent L a).dp (ent L b).dp) (3 * k + 1) w) := by
  have HD1 := Lib.hid (fun w st => depth_any L a (by omega) a1 hg.cap B S G w st)
  have HD2 := Lib.hid (fun w st => depth_any L b (by omega) b1 hg.cap B S G w st)
  have oa := hg.one a0 a1; have ob := hg.one b0 b1
  have hcap := hg.cap
  have pa0 := p.a0; have pa1 := p.a1; have pb0 := p.b0; have pb1 := p.b1; have pd := p.dp; have p3 := p.d1; have p4 := p.d2; have pt := p.tx; have pe1 := p.e1; have pe2 := p.e2
  have HA := Lib.hid (fun w st => p.parts hg a0 a1 B S G w st)
  have et : tx T l ++ (tx T r ++ tx T b) = tx T a ++ tx T b := by rw [pt]; simp
  have HP : Hid (∀ w1, Below w.heap.size w w1 → St w1 B S G L → Calls Try.prog 70 #[.pointer (some ⟨S, 0, none⟩), .int .i64 r, .int .i64 b] w1 (IdOut B S G L T (tx T r ++ tx T b) (max (ent L r).dp (ent L b).dp) (1 + max (ent L r).dp (ent L b).dp) (3 * (k - 1) + 1) w)) := Lib.hid fun w1 hb st1 =>
    idout_pre (HJ w1 hb st1) hb
  have HP2 : Hid (∀ x L1 T1 w1, IdO B S G L T (tx T r ++ tx T b) (max (ent L r).dp (ent L b).dp) (1 + max (ent L r).dp (ent L b).dp) (3 * (k - 1) + 1) w w1 x L1 T1 →
      Calls Try.prog 80 #[.pointer (some ⟨S, 0, none⟩), .int .i64 l, .int .i64 x] w1 (IdOut B S G L T (tx T a ++ tx T b) (max (ent L a).dp (ent L b).dp) (1 + max (ent L a).dp (ent L b).dp) (3 * k + 1) w)) := Lib.hid fun x L1 T1 w1 o => by
    have hx := o.x_pos (fun e => by have := (hg.one (x := r) (by omega) (by omega)).1; rw [List.append_eq_nil_iff] at e; rw [e.1] at this; simp at this)
    obtain ⟨e1, e2, e3⟩ := ido_old o hg (y := l) (by omega) (by omega)
    have l1 := o.lo; have l2 := o.hi; have l3 := o.cnt
    refine idout_after (level_any L1 T1 o.good l x pa0 e3 hx o.x1 (by rw [e1]; omega) (by rw [e1]; omega) (by rw [e2, o.tx, et]; exact hn) (by omega) B S G w1 o.st) o (by rw [e2, o.tx, et]) ?_ ?_ (by omega)
    · rw [e1]; split <;> omega
    · rw [e1]; omega
  obtain ⟨dl, hdl⟩ : ∃ d, d = (ent L l).dp := ⟨_, rfl⟩
  obtain ⟨dr, hdr⟩ : ∃ d, d = (ent L r).dp := ⟨_, rfl⟩
  rw [← hdl, ← hdr] at HA
  have HST := Lib.hid st
  obtain ⟨da, hda⟩ : ∃ d, d = (ent L a).dp := ⟨_, rfl⟩
  obtain ⟨db, hdb⟩ : ∃ d, d = (ent L b).dp := ⟨_, rfl⟩
  have t1 : decide (db + 1 < da) = true := by simp; omega
  have q1 : 0 ≤ da := by omega
  have q2 : 0 ≤ db := by omega
  have q3 : da ≤ 2000000 := by omega
  have q4 : db ≤ 2000000 := by omega
  rw [← hda] at HD1
  rw [← hdb] at HD2
  clear p d1 hk HJ pa0 pa1 pb0 pb1 pd p3 p4 pt pe1 pe2 et hdl hdr hda hdb oa ob hcap a0 a1 b0 b1 hn hc hg st
  go_enter Try.func70, Try.ntmps70
  go_wp2_with fail
  (with_reducible refine (HD1.out _ HST.out).mono ?_)
  rintro e w1 ⟨rfl, B1⟩
  have HS1 := Lib.hid (HST.out.below B1); have HB1 := Lib.hid B1
  clear B1
  go_wp2_with fail
  (with_reducible refine (HD2.out _ HS1.out).mono ?_)
  rintro e w2 ⟨rfl, B2⟩
  have HS2 := Lib.hid (HS1.out.below B2); have HB2 := Lib.hid (bkeep HB1.out B2)
  clear B2
  go_wp2_with fail
  (with_reducible refine (HA.out _ HS2.out).mono ?_)
  rintro e w3 ⟨rfl, B3⟩
  have HS3 := Lib.hid (HS2.out.below B3); have HB3 := Lib.hid (bkeep HB2.out B3)
  clear B3
  go_wp2_with fail
  (with_reducible refine (HP.out _ HB3.out HS3.out).mono ?_)
  rintro e w5 ⟨x, L1, T1, rfl, o⟩
  have HO := Lib.hid o
  clear o
  go_wp2_with fail
  (with_reducible refine (HP2.out _ _ _ _ HO.out).mono ?_)
  rintro e w9 ⟨y, L2, T2, rfl, o2⟩
  have HO2 := Lib.hid o2
  clear o2
  go_wp2_with fail
  go_ret2
  exact ⟨y, L2, T2, rfl, HO2.out⟩
set_option maxRecDepth 100000 in
set_option maxHeartbeats 4000000 in
theorem join_right (k : Nat) (L : List En) (T : List (List Int)) (hg : Good L T) (a b : Int) (a0 : 1 ≤ a) (a1 : a ≤ L.length) (b0 : 1 ≤ b) (b1 : b ≤ L.length) (l r : Int) (p : PairOf L T b l r) (d1 : (ent L a).dp + 1 < (ent L b).dp)
    (hn : (tx T a ++ tx T b).length ≤ 1152921504606846976) (hk : (ent L a).dp + (ent L b).dp ≤ k) (hc : L.length + (3 * k + 1) ≤ 1048576) (B S G : Nat) (w : World) (st : St w B S G L)
    (HJ : ∀ w1, Below w.heap.size w w1 → St w1 B S G L → Calls Try.prog 70 #[.pointer (some ⟨S, 0, none⟩), .int .i64 a, .int .i64 l] w1 (IdOut B S G L T (tx T a ++ tx T l) (max (ent L a).dp (ent L l).dp) (1 + max (ent L a).dp (ent L l).dp) (3 * (k - 1) + 1) w1)) :
    Calls Try.prog 70 #[.pointer (some ⟨S, 0, none⟩), .int .i64 a, .int .i64 b] w (IdOut B S G L T (tx T a ++ tx T b) (max (ent L a).dp (ent L b).dp) (1 + max (ent L a).dp (ent L b).dp) (3 * k + 1) w) := by
  have HD1 := Lib.hid (fun w st => depth_any L a (by omega) a1 hg.cap B S G w st)
  have HD2 := Lib.hid (fun w st => depth_any L b (by omega) b1 hg.cap B S G w st)
  have oa := hg.one a0 a1; have ob := hg.one b0 b1
  have hcap := hg.cap
  have pa0 := p.a0; have pa1 := p.a1; have pb0 := p.b0; have pb1 := p.b1; have pd := p.dp; have p3 := p.d1; have p4 := p.d2; have pt := p.tx; have pe1 := p.e1; have pe2 := p.e2
  have HA := Lib.hid (fun w st => p.parts hg b0 b1 B S G w st)
  have et : (tx T a ++ tx T l) ++ tx T r = tx T a ++ tx T b := by rw [pt]; simp
  have HP : Hid (∀ w1, Below w.heap.size w w1 → St w1 B S G L → Calls Try.prog 70 #[.pointer (some ⟨S, 0, none⟩), .int .i64 a, .int .i64 l] w1 (IdOut B S G L T (tx T a ++ tx T l) (max (ent L a).dp (ent L l).dp) (1 + max (ent L a).dp (ent L l).dp) (3 * (k - 1) + 1) w)) := Lib.hid fun w1 hb st1 =>
    idout_pre (HJ w1 hb st1) hb
  have HP2 : Hid (∀ x L1 T1 w1, IdO B S G L T (tx T a ++ tx T l) (max (ent L a).dp (ent L l).dp) (1 + max (ent L a).dp (ent L l).dp) (3 * (k - 1) + 1) w w1 x L1 T1 →
      Calls Try.prog 80 #[.pointer (some ⟨S, 0, none⟩), .int .i64 x, .int .i64 r] w1 (IdOut B S G L T (tx T a ++ tx T b) (max (ent L a).dp (ent L b).dp) (1 + max (ent L a).dp (ent L b).dp) (3 * k + 1) w)) := Lib.hid fun x L1 T1 w1 o => by
    have hx := o.x_pos (fun e => by have := (hg.one (x := a) (by omega) (by omega)).1; rw [List.append_eq_nil_iff] at e; rw [e.1] at this; simp at this)
    obtain ⟨e1, e2, e3⟩ := ido_old o hg (y := r) (by omega) (by omega)
    have l1 := o.lo; have l2 := o.hi; have l3 := o.cnt
    refine idout_after (level_any L1 T1 o.good x r hx o.x1 pb0 e3 (by rw [e1]; omega) (by rw [e1]; omega) (by rw [e2, o.tx, et]; exact hn) (by omega) B S G w1 o.st) o (by rw [e2, o.tx, et]) ?_ ?_ (by omega)
    · rw [e1]; split <;> omega
    · rw [e1]; omega
  obtain ⟨dl, hdl⟩ : ∃ d, d = (ent L l).dp := ⟨_, rfl⟩
  obtain ⟨dr, hdr⟩ : ∃ d, d = (ent L r).dp := ⟨_, rfl⟩
  rw [← hdl, ← hdr] at HA
  have HST := Lib.hid st
  obtain ⟨da, hda⟩ : ∃ d, d = (ent L a).dp := ⟨_, rfl⟩
  obtain ⟨db, hdb⟩ : ∃ d, d = (ent L b).dp := ⟨_, rfl⟩
  have t1 : decide (db + 1 < da) = false := by simp; omega
  have t2 : decide (da + 1 < db) = true := by simp; omega
  have q1 : 0 ≤ da := by omega
  have q2 : 0 ≤ db := by omega
  have q3 : da ≤ 2000000 := by omega
  have q4 : db ≤ 2000000 := by omega
  rw [← hda] at HD1
  rw [← hdb] at HD2
  clear p d1 hk HJ pa0 pa1 pb0 pb1 pd p3 p4 pt pe1 pe2 et hdl hdr hda hdb oa ob hcap a0 a1 b0 b1 hn hc hg st
  go_enter Try.func70, Try.ntmps70
  go_wp2_with fail
  (with_reducible refine (HD1.out _ HST.out).mono ?_)
  rintro e w1 ⟨rfl, B1⟩
  have HS1 := Lib.hid (HST.out.below B1); have HB1 := Lib.hid B1
  clear B1
  go_wp2_with fail
  (with_reducible refine (HD2.out _ HS1.out).mono ?_)
  rintro e w2 ⟨rfl, B2⟩
  have HS2 := Lib.hid (HS1.out.below B2); have HB2 := Lib.hid (bkeep HB1.out B2)
  clear B2
  go_wp2_with fail
  (with_reducible refine (HA.out _ HS2.out).mono ?_)
  rintro e w3 ⟨rfl, B3⟩
  have HS3 := Lib.hid (HS2.out.below B3); have HB3 := Lib.hid (bkeep HB2.out B3)
  clear B3
  go_wp2_with fail
  (with_reducible refine (HP.out _ HB3.out HS3.out).mono ?_)
  rintro e w5 ⟨x, L1, T1, rfl, o⟩
  have HO := Lib.hid o
  clear o
  go_wp2_with fail
  (with_reducible refine (HP2.out _ _ _ _ HO.out).mono ?_)
  rintro e w9 ⟨y, L2, T2, rfl, o2⟩
  have HO2 := Lib.hid o2
  clear o2
  go_wp2_with fail
  go_ret2
  exact ⟨y, L2, T2, rfl, HO2.out⟩
theorem ajoin_any (k : Nat) : ∀ (L : List En) (T : List (List Int)) (hg : Good L T) (a b : Int) (a0 : 1 ≤ a) (a1 : a ≤ L.length) (b0 : 1 ≤ b) (b1 : b ≤ L.length)
    (hn : (tx T a ++ tx T b).length ≤ 1152921504606846976) (hk : (ent L a).dp + (ent L b).dp ≤ k) (hc : L.length + (3 * k + 1) ≤ 1048576) (B S G : Nat) (w : World) (st : St w B S G L),
    Calls Try.prog 70 #[.pointer (some ⟨S, 0, none⟩), .int .i64 a, .int .i64 b] w (IdOut B S G L T (tx T a ++ tx T b) (max (ent L a).dp (ent L b).dp) (1 + max (ent L a).dp (ent L b).dp) (3 * k + 1) w) := by
  induction k using Nat.strongRecOn with
  | _ k ih =>
    intro L T hg a b a0 a1 b0 b1 hn hk hc B S G w st
    have oa := hg.one a0 a1; have ob := hg.one b0 b1
    have hn2 := hn; rw [List.length_append] at hn2
    by_cases h1 : (ent L b).dp + 1 < (ent L a).dp
    · obtain ⟨l, r, p⟩ := hg.pair (by omega) a1 (by omega)
      have pa0 := p.a0; have pa1 := p.a1; have pb0 := p.b0; have pb1 := p.b1; have pd := p.dp; have pt := congrArg List.length p.tx
      rw [List.length_append] at pt
      exact join_left k L T hg a b a0 a1 b0 b1 l r p h1 hn hk hc B S G w st fun w1 _ st1 => ih (k - 1) (by omega) L T hg r b pb0 (by omega) b0 b1 (by rw [List.length_append]; omega) (by omega) (by omega) B S G w1 st1
    · by_cases h2 : (ent L a).dp + 1 < (ent L b).dp
      · obtain ⟨l, r, p⟩ := hg.pair (x := b) (by omega) b1 (by omega)
        have pa0 := p.a0; have pa1 := p.a1; have pb0 := p.b0; have pb1 := p.b1; have pd := p.dp; have pt := congrArg List.length p.tx
        rw [List.length_append] at pt
        exact join_right k L T hg a b a0 a1 b0 b1 l r p h2 hn hk hc B S G w st fun w1 _ st1 => ih (k - 1) (by omega) L T hg a l a0 a1 pa0 (by omega) (by rw [List.length_append]; omega) (by omega) (by omega) B S G w1 st1
      · exact join_near k L T hg a b a0 a1 b0 b1 (by omega) (by omega) hn hk hc B S G w st
set_option maxRecDepth 100000 in
set_option maxHeartbeats 4000000 in
theorem Join_l (k : Nat) (L : List En) (T : List (List Int)) (hg : Good L T) (a b : Int) (a0 : 0 ≤ a) (a1 : a ≤ L.length) (b0 : 0 ≤ b) (b1 : b ≤ L.length) (hz : a = 0)
    (hn : (tx T a ++ tx T b).length ≤ 1152921504606846976) (hk : (ent L a).dp + (ent L b).dp ≤ k) (hc : L.length + (3 * k + 1) ≤ 1048576) (B S G : Nat) (w : World) (st : St w B S G L) :
    Calls Try.prog 52 #[.pointer (some ⟨S, 0, none⟩), .int .i64 a, .int .i64 b] w (IdOut B S G L T (tx T a ++ tx T b) (max (ent L a).dp (ent L b).dp) (1 + max (ent L a).dp (ent L b).dp) (3 * k + 1) w) := by
  have HW1 := Lib.hid (fun w st => weight_any L a (by omega) a1 hg.cap B S G w st)
  have HW2 := Lib.hid (fun w st => weight_any L b (by omega) b1 hg.cap B S G w st)
  have qa := hg.any a0 a1; have qb := hg.any b0 b1
  have hw1 := qa.w; have hw2 := qb.w; have ev1 := qa.ev; have ev2 := qb.ev; have d1 := qa.d0; have d2 := qb.d0
  have HE1 : Hid (∀ w, St w B S G L → Calls Try.prog 69 #[.pointer (some ⟨S, 0, none⟩), .int .i64 a] w fun r w' => r = .returned (.bool true) ∧ Below w.heap.size w w') := Lib.hid (fun w st => by
    have := even_any L a a0 a1 hg.cap B S G w st
    rw [ev1] at this; exact this)
  have HE2 : Hid (∀ w, St w B S G L → Calls Try.prog 69 #[.pointer (some ⟨S, 0, none⟩), .int .i64 b] w fun r w' => r = .returned (.bool true) ∧ Below w.heap.size w w') := Lib.hid (fun w st => by
    have := even_any L b b0 b1 hg.cap B S G w st
    rw [ev2] at this; exact this)
  obtain ⟨u, hu⟩ : ∃ u, u = (ent L a).w := ⟨_, rfl⟩
  obtain ⟨v, hv⟩ : ∃ v, v = (ent L b).w := ⟨_, rfl⟩
  rw [← hu] at HW1
  rw [← hv] at HW2
  have nu : u.n = (tx T a).length := by rw [hu, hw1]; rfl
  have nv : v.n = (tx T b).length := by rw [hv, hw2]; rfl
  rw [List.length_append] at hn
  have HA := Lib.hid (fun w => lenadd_yes u.n v.n (by omega) (by omega) (by omega) (by omega) (by omega) w)
  have HR : Hid (∀ w1, St w1 B S G L → Below w.heap.size w w1 → IdO B S G L T (tx T a ++ tx T b) (max (ent L a).dp (ent L b).dp) (1 + max (ent L a).dp (ent L b).dp) (3 * k + 1) w w1 b L T) := Lib.hid fun w1 st1 hb => by
    have e : (ent L a).dp = 0 := by rw [hz, ent_zero]; rfl
    exact ⟨st1, SFr.of_below hb _ _ _, hg, Ext.refl _ _, by omega, b0, b1, by rw [hz, tx_zero]; rfl, by rw [e]; omega, by rw [e]; omega⟩
  have t1 : (a == 0) = true := by rw [hz]; rfl
  obtain ⟨u0, u1, u2, u3, u4, u5⟩ := u
  obtain ⟨v0, v1, v2, v3, v4, v5⟩ := v
  have HW1' : Hid (∀ w, St w B S G L → Calls Try.prog 34 #[.pointer (some ⟨S, 0, none⟩), .int .i64 a] w fun r w' => r = .returned (.tuple #[.agg #[.int .i64 u0, .int .i64 u1, .int .i64 u2, .int .i64 u3, .int .u64 u4, .int .u64 u5], .nilIface]) ∧ Below w.heap.size w w') := HW1
  have HW2' : Hid (∀ w, St w B S G L → Calls Try.prog 34 #[.pointer (some ⟨S, 0, none⟩), .int .i64 b] w fun r w' => r = .returned (.tuple #[.agg #[.int .i64 v0, .int .i64 v1, .int .i64 v2, .int .i64 v3, .int .u64 v4, .int .u64 v5], .nilIface]) ∧ Below w.heap.size w w') := HW2
  simp only at HA
  have HST := Lib.hid st
  clear HW1 HW2 hz qa qb hw1 hw2 ev1 ev2 d1 d2 hu hv nu nv a0 a1 b0 b1 hn hk hc hg st
  go_enter Try.func52, Try.ntmps52
  go_wp2_with fail
  (with_reducible refine (HW1'.out _ HST.out).mono ?_)
  rintro e w1 ⟨rfl, B1⟩
  have HB1 := Lib.hid (balloc B1 (.cells #[.int .i64 u0, .int .i64 u1, .int .i64 u2, .int .i64 u3, .int .u64 u4, .int .u64 u5] 110))
  have HS1 := Lib.hid (HST.out.below HB1.out)
  have X1 := Lib.hid (Box.new w1 110 #[.int .i64 u0, .int .i64 u1, .int .i64 u2, .int .i64 u3, .int .u64 u4, .int .u64 u5])
  clear B1
  go_wp2_with fail
  (with_reducible refine (HW2'.out _ HS1.out).mono ?_)
  rintro e w2 ⟨rfl, B2⟩
  have HB2 := Lib.hid (balloc (bkeep HB1.out B2) (.cells #[.int .i64 v0, .int .i64 v1, .int .i64 v2, .int .i64 v3, .int .u64 v4, .int .u64 v5] 110))
  have HS2 := Lib.hid (HST.out.below HB2.out)
  have Y2 := Lib.hid (Box.new w2 110 #[.int .i64 v0, .int .i64 v1, .int .i64 v2, .int .i64 v3, .int .u64 v4, .int .u64 v5])
  have X2 := Lib.hid ((X1.out.below B2 X1.out.lt).alloc (.cells #[.int .i64 v0, .int .i64 v1, .int .i64 v2, .int .i64 v3, .int .u64 v4, .int .u64 v5] 110))
  clear B2
  go_wp2_with fail
  (with_reducible refine (HE1.out _ HS2.out).mono ?_)
  rintro e w3 ⟨rfl, B3⟩
  have HB3 := Lib.hid (bkeep HB2.out B3); have HS3 := Lib.hid (HS2.out.below B3)
  have X3 := Lib.hid (X2.out.below B3 X2.out.lt); have Y3 := Lib.hid (Y2.out.below B3 Y2.out.lt)
  clear B3
  go_wp2_with fail
  (with_reducible refine (HE2.out _ HS3.out).mono ?_)
  rintro e w4 ⟨rfl, B4⟩
  have HB4 := Lib.hid (bkeep HB3.out B4); have HS4 := Lib.hid (HS3.out.below B4)
  have X4 := X3.out.below B4 X3.out.lt; have Y4 := Y3.out.below B4 Y3.out.lt
  have x0 := X4.cell 0; have x1 := X4.cell 1; have x2 := X4.cell 2; have x3 := X4.cell 3; have x4 := X4.cell 4; have x5 := X4.cell 5
  simp only [List.getElem?_toArray, List.getElem?_cons_zero, List.getElem?_cons_succ] at x0 x1 x2 x3 x4 x5
  have y0 := Y4.cell 0; have y1 := Y4.cell 1; have y2 := Y4.cell 2; have y3 := Y4.cell 3; have y4 := Y4.cell 4; have y5 := Y4.cell 5
  simp only [List.getElem?_toArray, List.getElem?_cons_zero, List.getElem?_cons_succ] at y0 y1 y2 y3 y4 y5
  clear B4
  go_wp2_with fail
  (with_reducible refine (HA.out _).mono ?_)
  rintro e w' ⟨rfl, rfl⟩
  go_wp2_with fail
  go_ret2
  exact ⟨_, L, T, rfl, HR.out _ HS4.out HB4.out⟩
set_option maxRecDepth 100000 in
set_option maxHeartbeats 4000000 in
theorem Join_r (k : Nat) (L : List En) (T : List (List Int)) (hg : Good L T) (a b : Int) (a0 : 0 ≤ a) (a1 : a ≤ L.length) (b0 : 0 ≤ b) (b1 : b ≤ L.length) (hz : b = 0) (hz2 : a ≠ 0)
    (hn : (tx T a ++ tx T b).length ≤ 1152921504606846976) (hk : (ent L a).dp + (ent L b).dp ≤ k) (hc : L.length + (3 * k + 1) ≤ 1048576) (B S G : Nat) (w : World) (st : St w B S G L) :
    Calls Try.prog 52 #[.pointer (some ⟨S, 0, none⟩), .int .i64 a, .int .i64 b] w (IdOut B S G L T (tx T a ++ tx T b) (max (ent L a).dp (ent L b).dp) (1 + max (ent L a).dp (ent L b).dp) (3 * k + 1) w) := by
  have HW1 := Lib.hid (fun w st => weight_any L a (by omega) a1 hg.cap B S G w st)
  have HW2 := Lib.hid (fun w st => weight_any L b (by omega) b1 hg.cap B S G w st)
  have qa := hg.any a0 a1; have qb := hg.any b0 b1
  have hw1 := qa.w; have hw2 := qb.w; have ev1 := qa.ev; have ev2 := qb.ev; have d1 := qa.d0; have d2 := qb.d0
  have HE1 : Hid (∀ w, St w B S G L → Calls Try.prog 69 #[.pointer (some ⟨S, 0, none⟩), .int .i64 a] w fun r w' => r = .returned (.bool true) ∧ Below w.heap.size w w') := Lib.hid (fun w st => by
    have := even_any L a a0 a1 hg.cap B S G w st
    rw [ev1] at this; exact this)
  have HE2 : Hid (∀ w, St w B S G L → Calls Try.prog 69 #[.pointer (some ⟨S, 0, none⟩), .int .i64 b] w fun r w' => r = .returned (.bool true) ∧ Below w.heap.size w w') := Lib.hid (fun w st => by
    have := even_any L b b0 b1 hg.cap B S G w st
    rw [ev2] at this; exact this)
  obtain ⟨u, hu⟩ : ∃ u, u = (ent L a).w := ⟨_, rfl⟩
  obtain ⟨v, hv⟩ : ∃ v, v = (ent L b).w := ⟨_, rfl⟩
  rw [← hu] at HW1
  rw [← hv] at HW2
  have nu : u.n = (tx T a).length := by rw [hu, hw1]; rfl
  have nv : v.n = (tx T b).length := by rw [hv, hw2]; rfl
  rw [List.length_append] at hn
  have HA := Lib.hid (fun w => lenadd_yes u.n v.n (by omega) (by omega) (by omega) (by omega) (by omega) w)
  have HR : Hid (∀ w1, St w1 B S G L → Below w.heap.size w w1 → IdO B S G L T (tx T a ++ tx T b) (max (ent L a).dp (ent L b).dp) (1 + max (ent L a).dp (ent L b).dp) (3 * k + 1) w w1 a L T) := Lib.hid fun w1 st1 hb => by
    have e : (ent L b).dp = 0 := by rw [hz, ent_zero]; rfl
    exact ⟨st1, SFr.of_below hb _ _ _, hg, Ext.refl _ _, by omega, a0, a1, by rw [hz, tx_zero, List.append_nil], by rw [e]; omega, by rw [e]; omega⟩
  have t1 : (a == 0) = false := by simpa using hz2
  have t2 : (b == 0) = true := by rw [hz]; rfl
  obtain ⟨u0, u1, u2, u3, u4, u5⟩ := u
  obtain ⟨v0, v1, v2, v3, v4, v5⟩ := v
  have HW1' : Hid (∀ w, St w B S G L → Calls Try.prog 34 #[.pointer (some ⟨S, 0, none⟩), .int .i64 a] w fun r w' => r = .returned (.tuple #[.agg #[.int .i64 u0, .int .i64 u1, .int .i64 u2, .int .i64 u3, .int .u64 u4, .int .u64 u5], .nilIface]) ∧ Below w.heap.size w w') := HW1
  have HW2' : Hid (∀ w, St w B S G L → Calls Try.prog 34 #[.pointer (some ⟨S, 0, none⟩), .int .i64 b] w fun r w' => r = .returned (.tuple #[.agg #[.int .i64 v0, .int .i64 v1, .int .i64 v2, .int .i64 v3, .int .u64 v4, .int .u64 v5], .nilIface]) ∧ Below w.heap.size w w') := HW2
  simp only at HA
  have HST := Lib.hid st
  clear HW1 HW2 hz hz2 qa qb hw1 hw2 ev1 ev2 d1 d2 hu hv nu nv a0 a1 b0 b1 hn hk hc hg st
  go_enter Try.func52, Try.ntmps52
  go_wp2_with fail
  (with_reducible refine (HW1'.out _ HST.out).mono ?_)
  rintro e w1 ⟨rfl, B1⟩
  have HB1 := Lib.hid (balloc B1 (.cells #[.int .i64 u0, .int .i64 u1, .int .i64 u2, .int .i64 u3, .int .u64 u4, .int .u64 u5] 110))
  have HS1 := Lib.hid (HST.out.below HB1.out)
  have X1 := Lib.hid (Box.new w1 110 #[.int .i64 u0, .int .i64 u1, .int .i64 u2, .int .i64 u3, .int .u64 u4, .int .u64 u5])
  clear B1
  go_wp2_with fail
  (with_reducible refine (HW2'.out _ HS1.out).mono ?_)
  rintro e w2 ⟨rfl, B2⟩
  have HB2 := Lib.hid (balloc (bkeep HB1.out B2) (.cells #[.int .i64 v0, .int .i64 v1, .int .i64 v2, .int .i64 v3, .int .u64 v4, .int .u64 v5] 110))
  have HS2 := Lib.hid (HST.out.below HB2.out)
  have Y2 := Lib.hid (Box.new w2 110 #[.int .i64 v0, .int .i64 v1, .int .i64 v2, .int .i64 v3, .int .u64 v4, .int .u64 v5])
  have X2 := Lib.hid ((X1.out.below B2 X1.out.lt).alloc (.cells #[.int .i64 v0, .int .i64 v1, .int .i64 v2, .int .i64 v3, .int .u64 v4, .int .u64 v5] 110))
  clear B2
  go_wp2_with fail
  (with_reducible refine (HE1.out _ HS2.out).mono ?_)
  rintro e w3 ⟨rfl, B3⟩
  have HB3 := Lib.hid (bkeep HB2.out B3); have HS3 := Lib.hid (HS2.out.below B3)
  have X3 := Lib.hid (X2.out.below B3 X2.out.lt); have Y3 := Lib.hid (Y2.out.below B3 Y2.out.lt)
  clear B3
  go_wp2_with fail
  (with_reducible refine (HE2.out _ HS3.out).mono ?_)
  rintro e w4 ⟨rfl, B4⟩
  have HB4 := Lib.hid (bkeep HB3.out B4); have HS4 := Lib.hid (HS3.out.below B4)
  have X4 := X3.out.below B4 X3.out.lt; have Y4 := Y3.out.below B4 Y3.out.lt
  have x0 := X4.cell 0; have x1 := X4.cell 1; have x2 := X4.cell 2; have x3 := X4.cell 3; have x4 := X4.cell 4; have x5 := X4.cell 5
  simp only [List.getElem?_toArray, List.getElem?_cons_zero, List.getElem?_cons_succ] at x0 x1 x2 x3 x4 x5
  have y0 := Y4.cell 0; have y1 := Y4.cell 1; have y2 := Y4.cell 2; have y3 := Y4.cell 3; have y4 := Y4.cell 4; have y5 := Y4.cell 5
  simp only [List.getElem?_toArray, List.getElem?_cons_zero, List.getElem?_cons_succ] at y0 y1 y2 y3 y4 y5
  clear B4
  go_wp2_with fail
  (with_reducible refine (HA.out _).mono ?_)
  rintro e w' ⟨rfl, rfl⟩
  go_wp2_with fail
  go_ret2
  exact ⟨_, L, T, rfl, HR.out _ HS4.out HB4.out⟩
set_option maxRecDepth 100000 in
set_option maxHeartbeats 4000000 in
theorem Join_b (k : Nat) (L : List En) (T : List (List Int)) (hg : Good L T) (a b : Int) (a0 : 0 ≤ a) (a1 : a ≤ L.length) (b0 : 0 ≤ b) (b1 : b ≤ L.length) (hz : a ≠ 0) (hz2 : b ≠ 0)
    (hn : (tx T a ++ tx T b).length ≤ 1152921504606846976) (hk : (ent L a).dp + (ent L b).dp ≤ k) (hc : L.length + (3 * k + 1) ≤ 1048576) (B S G : Nat) (w : World) (st : St w B S G L) :
    Calls Try.prog 52 #[.pointer (some ⟨S, 0, none⟩), .int .i64 a, .int .i64 b] w (IdOut B S G L T (tx T a ++ tx T b) (max (ent L a).dp (ent L b).dp) (1 + max (ent L a).dp (ent L b).dp) (3 * k + 1) w) := by
  have HW1 := Lib.hid (fun w st => weight_any L a (by omega) a1 hg.cap B S G w st)
  have HW2 := Lib.hid (fun w st => weight_any L b (by omega) b1 hg.cap B S G w st)
  have qa := hg.any a0 a1; have qb := hg.any b0 b1
  have hw1 := qa.w; have hw2 := qb.w; have ev1 := qa.ev; have ev2 := qb.ev; have d1 := qa.d0; have d2 := qb.d0
  have HE1 : Hid (∀ w, St w B S G L → Calls Try.prog 69 #[.pointer (some ⟨S, 0, none⟩), .int .i64 a] w fun r w' => r = .returned (.bool true) ∧ Below w.heap.size w w') := Lib.hid (fun w st => by
    have := even_any L a a0 a1 hg.cap B S G w st
    rw [ev1] at this; exact this)
  have HE2 : Hid (∀ w, St w B S G L → Calls Try.prog 69 #[.pointer (some ⟨S, 0, none⟩), .int .i64 b] w fun r w' => r = .returned (.bool true) ∧ Below w.heap.size w w') := Lib.hid (fun w st => by
    have := even_any L b b0 b1 hg.cap B S G w st
    rw [ev2] at this; exact this)
  obtain ⟨u, hu⟩ : ∃ u, u = (ent L a).w := ⟨_, rfl⟩
  obtain ⟨v, hv⟩ : ∃ v, v = (ent L b).w := ⟨_, rfl⟩
  rw [← hu] at HW1
  rw [← hv] at HW2
  have nu : u.n = (tx T a).length := by rw [hu, hw1]; rfl
  have nv : v.n = (tx T b).length := by rw [hv, hw2]; rfl
  rw [List.length_append] at hn
  have HA := Lib.hid (fun w => lenadd_yes u.n v.n (by omega) (by omega) (by omega) (by omega) (by omega) w)
  have HJ : Hid (∀ w1, Below w.heap.size w w1 → St w1 B S G L → Calls Try.prog 70 #[.pointer (some ⟨S, 0, none⟩), .int .i64 a, .int .i64 b] w1 (IdOut B S G L T (tx T a ++ tx T b) (max (ent L a).dp (ent L b).dp) (1 + max (ent L a).dp (ent L b).dp) (3 * k + 1) w)) := Lib.hid fun w1 hb st1 =>
    idout_pre (ajoin_any k L T hg a b (by omega) a1 (by omega) b1 (by rw [List.length_append]; exact hn) hk hc B S G w1 st1) hb
  have t1 : (a == 0) = false := by simpa using hz
  have t2 : (b == 0) = false := by simpa using hz2
  obtain ⟨u0, u1, u2, u3, u4, u5⟩ := u
  obtain ⟨v0, v1, v2, v3, v4, v5⟩ := v
  have HW1' : Hid (∀ w, St w B S G L → Calls Try.prog 34 #[.pointer (some ⟨S, 0, none⟩), .int .i64 a] w fun r w' => r = .returned (.tuple #[.agg #[.int .i64 u0, .int .i64 u1, .int .i64 u2, .int .i64 u3, .int .u64 u4, .int .u64 u5], .nilIface]) ∧ Below w.heap.size w w') := HW1
  have HW2' : Hid (∀ w, St w B S G L → Calls Try.prog 34 #[.pointer (some ⟨S, 0, none⟩), .int .i64 b] w fun r w' => r = .returned (.tuple #[.agg #[.int .i64 v0, .int .i64 v1, .int .i64 v2, .int .i64 v3, .int .u64 v4, .int .u64 v5], .nilIface]) ∧ Below w.heap.size w w') := HW2
  simp only at HA
  have HST := Lib.hid st
  clear HW1 HW2 hz hz2 qa qb hw1 hw2 ev1 ev2 d1 d2 hu hv nu nv a0 a1 b0 b1 hn hk hc hg st
  go_enter Try.func52, Try.ntmps52
  go_wp2_with fail
  (with_reducible refine (HW1'.out _ HST.out).mono ?_)
  rintro e w1 ⟨rfl, B1⟩
  have HB1 := Lib.hid (balloc B1 (.cells #[.int .i64 u0, .int .i64 u1, .int .i64 u2, .int .i64 u3, .int .u64 u4, .int .u64 u5] 110))
  have HS1 := Lib.hid (HST.out.below HB1.out)
  have X1 := Lib.hid (Box.new w1 110 #[.int .i64 u0, .int .i64 u1, .int .i64 u2, .int .i64 u3, .int .u64 u4, .int .u64 u5])
  clear B1
  go_wp2_with fail
  (with_reducible refine (HW2'.out _ HS1.out).mono ?_)
  rintro e w2 ⟨rfl, B2⟩
  have HB2 := Lib.hid (balloc (bkeep HB1.out B2) (.cells #[.int .i64 v0, .int .i64 v1, .int .i64 v2, .int .i64 v3, .int .u64 v4, .int .u64 v5] 110))
  have HS2 := Lib.hid (HST.out.below HB2.out)
  have Y2 := Lib.hid (Box.new w2 110 #[.int .i64 v0, .int .i64 v1, .int .i64 v2, .int .i64 v3, .int .u64 v4, .int .u64 v5])
  have X2 := Lib.hid ((X1.out.below B2 X1.out.lt).alloc (.cells #[.int .i64 v0, .int .i64 v1, .int .i64 v2, .int .i64 v3, .int .u64 v4, .int .u64 v5] 110))
  clear B2
  go_wp2_with fail
  (with_reducible refine (HE1.out _ HS2.out).mono ?_)
  rintro e w3 ⟨rfl, B3⟩
  have HB3 := Lib.hid (bkeep HB2.out B3); have HS3 := Lib.hid (HS2.out.below B3)
  have X3 := Lib.hid (X2.out.below B3 X2.out.lt); have Y3 := Lib.hid (Y2.out.below B3 Y2.out.lt)
  clear B3
  go_wp2_with fail
  (with_reducible refine (HE2.out _ HS3.out).mono ?_)
  rintro e w4 ⟨rfl, B4⟩
  have HB4 := Lib.hid (bkeep HB3.out B4); have HS4 := Lib.hid (HS3.out.below B4)
  have X4 := X3.out.below B4 X3.out.lt; have Y4 := Y3.out.below B4 Y3.out.lt
  have x0 := X4.cell 0; have x1 := X4.cell 1; have x2 := X4.cell 2; have x3 := X4.cell 3; have x4 := X4.cell 4; have x5 := X4.cell 5
  simp only [List.getElem?_toArray, List.getElem?_cons_zero, List.getElem?_cons_succ] at x0 x1 x2 x3 x4 x5
  have y0 := Y4.cell 0; have y1 := Y4.cell 1; have y2 := Y4.cell 2; have y3 := Y4.cell 3; have y4 := Y4.cell 4; have y5 := Y4.cell 5
  simp only [List.getElem?_toArray, List.getElem?_cons_zero, List.getElem?_cons_succ] at y0 y1 y2 y3 y4 y5
  clear B4
  go_wp2_with fail
  (with_reducible refine (HA.out _).mono ?_)
  rintro e w' ⟨rfl, rfl⟩
  go_wp2_with fail
  (with_reducible refine (HJ.out _ HB4.out HS4.out).mono ?_)
  rintro e w9 ⟨y, L2, T2, rfl, o2⟩
  have HO2 := Lib.hid o2
  clear o2
  go_wp2_with fail
  go_ret2
  exact ⟨y, L2, T2, rfl, HO2.out⟩
theorem aJoin_any (k : Nat) (L : List En) (T : List (List Int)) (hg : Good L T) (a b : Int) (a0 : 0 ≤ a) (a1 : a ≤ L.length) (b0 : 0 ≤ b) (b1 : b ≤ L.length)
    (hn : (tx T a ++ tx T b).length ≤ 1152921504606846976) (hk : (ent L a).dp + (ent L b).dp ≤ k) (hc : L.length + (3 * k + 1) ≤ 1048576) (B S G : Nat) (w : World) (st : St w B S G L) :
    Calls Try.prog 52 #[.pointer (some ⟨S, 0, none⟩), .int .i64 a, .int .i64 b] w (IdOut B S G L T (tx T a ++ tx T b) (max (ent L a).dp (ent L b).dp) (1 + max (ent L a).dp (ent L b).dp) (3 * k + 1) w) := by
  by_cases ha : a = 0
  · exact Join_l k L T hg a b a0 a1 b0 b1 ha hn hk hc B S G w st
  · by_cases hb : b = 0
    · exact Join_r k L T hg a b a0 a1 b0 b1 hb ha hn hk hc B S G w st
    · exact Join_b k L T hg a b a0 a1 b0 b1 ha hb hn hk hc B S G w st
end Go.Proofs.Ytolhjkpekmmajaa
/- The walks of split's size, front, rest. Written by wip/gen/split.py. -/
namespace Go.Proofs.Ytolhjkpekmmajaa
set_option linter.unusedVariables false
set_option linter.unusedSimpArgs false
open Go.RowKit Go.Lib Go.Maps
attribute [local go_sem ↓] Go.wp_at_zero Go.wp_at_succ
theorem Box.sfr {w w' : World} {g : Nat} {t : TypeId} {cs : Array Value} {B S G : Nat} {L : List En} (h : Box w g t cs) (fr : SFr w w' B S G) (st : St w B S G L) (hg : B ≤ g) (ht : t ≠ 149) : Box w' g t cs := by
  have l := st.lt
  refine (fr.keep g h.lt (by omega) (by omega) fun cs2 fr2 e => ?_).trans h
  rw [show w.heap[g]? = some (.cells cs t (0, 0)) from h] at e
  injection e with e; injection e with _ e
  exact absurd e ht
theorem PairOf.rule {L : List En} {T : List (List Int)} (hg : Good L T) {x a b : Int} (p : PairOf L T x a b) (x0 : 1 ≤ x) (x1 : x ≤ L.length) (B S G : Nat) : ∃ kd lt_ tm : Int, ∀ w, St w B S G L →
    Calls Try.prog 65 #[.pointer (some ⟨S, 0, none⟩), .int .i64 x] w fun r w' => r = .returned (.tuple #[.agg #[.int .i64 kd, .int .u8 lt_, .int .i64 a, .int .i64 b, .int .i64 tm], .nilIface]) ∧ Below w.heap.size w w' := by
  refine ⟨(ent L x).r.kd, (ent L x).r.lt, (ent L x).r.tm, fun w st => ?_⟩
  have := rule_any L x x0 x1 hg.cap B S G w st
  rw [Rl.val, p.lf, p.rg] at this
  exact this
set_option maxRecDepth 100000 in
theorem ssize_any (L : List En) (T : List (List Int)) (hg : Good L T) (x : Int) (h0 : 0 ≤ x) (h1 : x ≤ L.length) (B S G : Nat) (w : World) (st : St w B S G L) :
    Calls Try.prog 64 #[.pointer (some ⟨S, 0, none⟩), .int .i64 x] w fun r w' => r = .returned (.tuple #[.int .i64 (tx T x).length, .nilIface]) ∧ Below w.heap.size w w' := by
  have HW := Lib.hid (fun w st => weight_any L x h0 h1 hg.cap B S G w st)
  have e : (ent L x).w.n = (tx T x).length := by rw [(hg.any h0 h1).w]; rfl
  obtain ⟨u, hu⟩ : ∃ u, u = (ent L x).w := ⟨_, rfl⟩
  rw [← hu] at HW e
  obtain ⟨u0, u1, u2, u3, u4, u5⟩ := u
  simp only at e
  rw [← e]
  have HW' : Hid (∀ w, St w B S G L → Calls Try.prog 34 #[.pointer (some ⟨S, 0, none⟩), .int .i64 x] w fun r w' => r = .returned (.tuple #[.agg #[.int .i64 u0, .int .i64 u1, .int .i64 u2, .int .i64 u3, .int .u64 u4, .int .u64 u5], .nilIface]) ∧ Below w.heap.size w w') := HW
  have HST := Lib.hid st
  clear HW e hu h0 h1 hg st
  go_enter Try.func64, Try.ntmps64
  go_wp2_with fail
  (with_reducible refine (HW'.out _ HST.out).mono ?_)
  rintro e w1 ⟨rfl, B1⟩
  have HB1 := Lib.hid (balloc B1 (.cells #[.int .i64 u0, .int .i64 u1, .int .i64 u2, .int .i64 u3, .int .u64 u4, .int .u64 u5] 110))
  clear B1
  go_wp2_with fail
  go_ret2
  exact ⟨rfl, HB1.out⟩
/-- how many rules front and rest make at most, for a depth -/
def fc : Nat → Nat
  | 0 => 0
  | k + 1 => fc k + 9 * k + 1
set_option maxRecDepth 100000 in
theorem front_zero (k : Nat) (L : List En) (T : List (List Int)) (hg : Good L T) (x : Int) (x0 : 0 ≤ x) (x1 : x ≤ L.length) (hk : (ent L x).dp ≤ k) (B S G : Nat) (w : World) (st : St w B S G L) :
    Calls Try.prog 67 #[.pointer (some ⟨S, 0, none⟩), .int .i64 x, .int .i64 0] w (IdOut B S G L T ([]) 0 (2 * k) (fc k) w) := by
  have d0 := (hg.any x0 x1).d0
  have HR : Hid (∀ w1, w = w1 → IdO B S G L T ([]) 0 (2 * k) (fc k) w w1 0 L T) := Lib.hid fun w1 e => by
    subst e
    exact ⟨st, SFr.refl _ _ _ _, hg, Ext.refl _ _, by omega, by omega, by omega, tx_zero _, by rw [ent_zero]; exact Int.le_refl _, by rw [ent_zero]; show (0 : Int) ≤ _; omega⟩
  clear d0 hg x0 x1 hk st
  go_enter Try.func67, Try.ntmps67
  go_wp2_with fail
  go_ret2
  exact ⟨_, L, T, rfl, HR.out _ rfl⟩
set_option maxRecDepth 100000 in
theorem front_whole (k : Nat) (L : List En) (T : List (List Int)) (hg : Good L T) (x : Int) (x0 : 1 ≤ x) (x1 : x ≤ L.length) (hk : (ent L x).dp ≤ k) (n : Nat) (hn : n = (tx T x).length) (B S G : Nat) (w : World) (st : St w B S G L) :
    Calls Try.prog 67 #[.pointer (some ⟨S, 0, none⟩), .int .i64 x, .int .i64 (n : Int)] w (IdOut B S G L T (tx T x) 0 (2 * k) (fc k) w) := by
  have d0 := hg.one x0 x1
  have HZ := Lib.hid (fun w st => ssize_any L T hg x (by omega) x1 B S G w st)
  rw [← hn] at HZ
  have HR : Hid (∀ w1, Below w.heap.size w w1 → St w1 B S G L → IdO B S G L T (tx T x) 0 (2 * k) (fc k) w w1 x L T) := Lib.hid fun w1 hb st => ⟨st, SFr.of_below hb _ _ _, hg, Ext.refl _ _, by omega, by omega, x1, rfl, by omega, by omega⟩
  have t1 : ((n : Int) == 0) = false := by rw [beq_eq_false_iff_ne]; omega
  have HST := Lib.hid st
  clear d0 hg x0 x1 hk st hn
  go_enter Try.func67, Try.ntmps67
  go_wp2_with fail
  (with_reducible refine (HZ.out _ HST.out).mono ?_)
  rintro e w1 ⟨rfl, B1⟩
  have HB1 := Lib.hid B1; have HS1 := Lib.hid (HST.out.below B1)
  clear B1
  go_wp2_with fail
  go_ret2
  exact ⟨_, L, T, rfl, HR.out _ HB1.out HS1.out⟩
set_option maxRecDepth 100000 in
set_option maxHeartbeats 4000000 in
theorem front_one (k : Nat) (L : List En) (T : List (List Int)) (hg : Good L T) (x : Int) (x0 : 1 ≤ x) (x1 : x ≤ L.length) (l r : Int) (p : PairOf L T x l r) (hk : (ent L x).dp ≤ k + 1) (n : Nat) (hn0 : n ≠ 0) (hn : n < (tx T x).length) (m : Nat) (hm : m = (tx T l).length) (hnm : n ≤ m)
    (hc : L.length + fc (k + 1) ≤ 1048576) (B S G : Nat) (w : World) (st : St w B S G L) (HF : ∀ w1, Below w.heap.size w w1 → St w1 B S G L → Calls Try.prog 67 #[.pointer (some ⟨S, 0, none⟩), .int .i64 l, .int .i64 (n : Int)] w1 (IdOut B S G L T ((tx T l).take n) 0 (2 * (k : Nat)) (fc k) w1)) :
    Calls Try.prog 67 #[.pointer (some ⟨S, 0, none⟩), .int .i64 x, .int .i64 (n : Int)] w (IdOut B S G L T ((tx T x).take n) 0 (2 * ((k + 1 : Nat) : Int)) (fc (k + 1)) w) := by
  have pa0 := p.a0; have pa1 := p.a1; have pb0 := p.b0; have pb1 := p.b1; have pd := p.dp; have pt := p.tx; have pe1 := p.e1; have pe2 := p.e2
  have pl := congrArg List.length pt; rw [List.length_append] at pl
  have HZ := Lib.hid (fun w st => ssize_any L T hg x (by omega) x1 B S G w st)
  have HZl := Lib.hid (fun w st => ssize_any L T hg l (by omega) (by omega) B S G w st)
  rw [← hm] at HZl
  obtain ⟨kd, lt_, tm, hR⟩ := p.rule hg x0 x1 B S G
  have HR := Lib.hid hR
  have hF1 : fc (k + 1) = fc k + 9 * k + 1 := rfl
  have xn := (hg.any (x := x) (by omega) x1).n2
  obtain ⟨q, hq⟩ : ∃ q, q = (tx T x).length := ⟨_, rfl⟩
  rw [← hq] at HZ hn
  have HP : Hid (∀ w1, Below w.heap.size w w1 → St w1 B S G L → Calls Try.prog 67 #[.pointer (some ⟨S, 0, none⟩), .int .i64 l, .int .i64 (n : Int)] w1 (IdOut B S G L T ((tx T x).take n) 0 (2 * ((k + 1 : Nat) : Int)) (fc (k + 1)) w)) := Lib.hid fun w1 hb st1 =>
    idout_turn (idout_pre (HF w1 hb st1) hb) (by rw [pt, List.take_append_of_le_length (by omega)]) (by omega) (by omega) (by omega)
  have t1 : ((n : Int) == 0) = false := by rw [beq_eq_false_iff_ne]; omega
  have t2 : ((n : Int) == (q : Int)) = false := by rw [beq_eq_false_iff_ne]; omega
  have t2b : (n == q) = false := by rw [beq_eq_false_iff_ne]; omega
  have t3 : decide ((n : Int) ≤ (m : Int)) = true := by simp; omega
  have t3b : decide (n ≤ m) = true := by simp; omega
  have HST := Lib.hid st
  clear hR pa0 pa1 pb0 pb1 pd pt pe1 pe2 pl hF1 xn hq p hm hnm hg x0 x1 hk hn0 hn hc st HF
  go_enter Try.func67, Try.ntmps67
  go_wp2_with fail
  (with_reducible refine (HZ.out _ HST.out).mono ?_)
  rintro e w1 ⟨rfl, B1⟩
  have HB1 := Lib.hid B1; have HS1 := Lib.hid (HST.out.below B1)
  clear B1
  go_wp2_with fail
  (with_reducible refine (HR.out _ HS1.out).mono ?_)
  rintro e w2 ⟨rfl, B2⟩
  have HB2 := Lib.hid (balloc (bkeep HB1.out B2) (.cells #[.int .i64 kd, .int .u8 lt_, .int .i64 l, .int .i64 r, .int .i64 tm] 147))
  have HS2 := Lib.hid (HST.out.below HB2.out)
  have X2 := Lib.hid (Box.new w2 147 #[.int .i64 kd, .int .u8 lt_, .int .i64 l, .int .i64 r, .int .i64 tm])
  have gB := (HS1.out.below B2).lt.2.2
  clear B2
  go_wp2_with fail
  (with_reducible refine (HZl.out _ HS2.out).mono ?_)
  rintro e w3 ⟨rfl, B3⟩
  have HB3 := Lib.hid (bkeep HB2.out B3); have HS3 := Lib.hid (HS2.out.below B3)
  have X3 := X2.out.below B3 X2.out.lt
  have x0 := X3.cell 0; have x1 := X3.cell 1; have x2 := X3.cell 2; have x3 := X3.cell 3; have x4 := X3.cell 4
  simp only [List.getElem?_toArray, List.getElem?_cons_zero, List.getElem?_cons_succ] at x0 x1 x2 x3 x4
  clear B3
  go_wp2_with fail
  (with_reducible refine (HP.out _ HB3.out HS3.out).mono ?_)
  rintro e w9 ⟨y, L2, T2, rfl, o2⟩
  have HO2 := Lib.hid o2
  clear o2
  go_wp2_with fail
  go_ret2
  exact ⟨y, L2, T2, rfl, HO2.out⟩
set_option maxRecDepth 100000 in
set_option maxHeartbeats 4000000 in
theorem front_join (k : Nat) (L : List En) (T : List (List Int)) (hg : Good L T) (x : Int) (x0 : 1 ≤ x) (x1 : x ≤ L.length) (l r : Int) (p : PairOf L T x l r) (hk : (ent L x).dp ≤ k + 1) (n : Nat) (hn0 : n ≠ 0) (hn : n < (tx T x).length) (m : Nat) (hm : m = (tx T l).length) (hnm : m < n)
    (hc : L.length + fc (k + 1) ≤ 1048576) (B S G : Nat) (w : World) (st : St w B S G L) (HF : ∀ w1, Below w.heap.size w w1 → St w1 B S G L → Calls Try.prog 67 #[.pointer (some ⟨S, 0, none⟩), .int .i64 r, .int .i64 ((n : Int) - m)] w1 (IdOut B S G L T ((tx T r).take (n - m)) 0 (2 * (k : Nat)) (fc k) w1)) :
    Calls Try.prog 67 #[.pointer (some ⟨S, 0, none⟩), .int .i64 x, .int .i64 (n : Int)] w (IdOut B S G L T ((tx T x).take n) 0 (2 * ((k + 1 : Nat) : Int)) (fc (k + 1)) w) := by
  have pa0 := p.a0; have pa1 := p.a1; have pb0 := p.b0; have pb1 := p.b1; have pd := p.dp; have pt := p.tx; have pe1 := p.e1; have pe2 := p.e2
  have pl := congrArg List.length pt; rw [List.length_append] at pl
  have HZ := Lib.hid (fun w st => ssize_any L T hg x (by omega) x1 B S G w st)
  have HZl := Lib.hid (fun w st => ssize_any L T hg l (by omega) (by omega) B S G w st)
  rw [← hm] at HZl
  obtain ⟨kd, lt_, tm, hR⟩ := p.rule hg x0 x1 B S G
  have HR := Lib.hid hR
  have hF1 : fc (k + 1) = fc k + 9 * k + 1 := rfl
  have xn := (hg.any (x := x) (by omega) x1).n2
  obtain ⟨q, hq⟩ : ∃ q, q = (tx T x).length := ⟨_, rfl⟩
  rw [← hq] at HZ hn
  have HF' := Lib.hid HF
  have HJ : Hid (∀ y L1 T1 w1, IdO B S G L T ((tx T r).take (n - m)) 0 (2 * (k : Nat)) (fc k) w w1 y L1 T1 →
      Calls Try.prog 52 #[.pointer (some ⟨S, 0, none⟩), .int .i64 l, .int .i64 y] w1 (IdOut B S G L T ((tx T x).take n) 0 (2 * ((k + 1 : Nat) : Int)) (fc (k + 1)) w)) := Lib.hid fun y L1 T1 w1 o => by
    obtain ⟨e1, e2, e3⟩ := ido_old o hg (y := l) (by omega) (by omega)
    have l1 := o.lo; have l2 := o.hi; have l3 := o.cnt; have l4 := o.x0; have l5 := o.x1; have l6 := o.tx
    have tt : tx T1 l ++ tx T1 y = (tx T x).take n := by rw [e2, l6]; symm; rw [pt, List.take_append, List.take_of_length_le (by omega), hm]
    refine idout_after (aJoin_any (3 * k) L1 T1 o.good l y (by omega) (by omega) (by omega) (by omega) (by rw [tt]; simp; omega) (by rw [e1]; omega) (by omega) B S G w1 o.st) o tt (by rw [e1]; omega) (by rw [e1]; omega) (by omega)
  have t1 : ((n : Int) == 0) = false := by rw [beq_eq_false_iff_ne]; omega
  have t2 : ((n : Int) == (q : Int)) = false := by rw [beq_eq_false_iff_ne]; omega
  have t2b : (n == q) = false := by rw [beq_eq_false_iff_ne]; omega
  have t3 : decide ((n : Int) ≤ (m : Int)) = false := by simp; omega
  have t3b : decide (n ≤ m) = false := by simp; omega
  have b1 : (n : Int) ≤ 1152921504606846976 := by omega
  have b2 : (m : Int) ≤ (n : Int) := by omega
  have HST := Lib.hid st
  clear hR pa0 pa1 pb0 pb1 pd pt pe1 pe2 pl hF1 xn hq p hm hnm hg x0 x1 hk hn0 hn hc st HF
  go_enter Try.func67, Try.ntmps67
  go_wp2_with fail
  (with_reducible refine (HZ.out _ HST.out).mono ?_)
  rintro e w1 ⟨rfl, B1⟩
  have HB1 := Lib.hid B1; have HS1 := Lib.hid (HST.out.below B1)
  clear B1
  go_wp2_with fail
  (with_reducible refine (HR.out _ HS1.out).mono ?_)
  rintro e w2 ⟨rfl, B2⟩
  have HB2 := Lib.hid (balloc (bkeep HB1.out B2) (.cells #[.int .i64 kd, .int .u8 lt_, .int .i64 l, .int .i64 r, .int .i64 tm] 147))
  have HS2 := Lib.hid (HST.out.below HB2.out)
  have X2 := Lib.hid (Box.new w2 147 #[.int .i64 kd, .int .u8 lt_, .int .i64 l, .int .i64 r, .int .i64 tm])
  have gB := (HS1.out.below B2).lt.2.2
  clear B2
  go_wp2_with fail
  (with_reducible refine (HZl.out _ HS2.out).mono ?_)
  rintro e w3 ⟨rfl, B3⟩
  have HB3 := Lib.hid (bkeep HB2.out B3); have HS3 := Lib.hid (HS2.out.below B3)
  have X3 := X2.out.below B3 X2.out.lt
  have x0 := X3.cell 0; have x1 := X3.cell 1; have x2 := X3.cell 2; have x3 := X3.cell 3; have x4 := X3.cell 4
  simp only [List.getElem?_toArray, List.getElem?_cons_zero, List.getElem?_cons_succ] at x0 x1 x2 x3 x4
  clear B3
  go_wp2_with fail
  (with_reducible refine (HF'.out _ HB3.out HS3.out).mono ?_)
  rintro e w4 ⟨y, L1, T1, rfl, o⟩
  have X4 := X3.sfr o.fr HS3.out gB (by decide)
  have HO := Lib.hid (IdO.pre HB3.out o)
  have y0 := X4.cell 0; have y1 := X4.cell 1; have y2 := X4.cell 2; have y3 := X4.cell 3; have y4 := X4.cell 4
  simp only [List.getElem?_toArray, List.getElem?_cons_zero, List.getElem?_cons_succ] at y0 y1 y2 y3 y4
  clear o
  go_wp2_with fail
  (with_reducible refine (HJ.out _ _ _ _ HO.out).mono ?_)
  rintro e w9 ⟨z, L2, T2, rfl, o2⟩
  have HO2 := Lib.hid o2
  clear o2
  go_wp2_with fail
  go_ret2
  exact ⟨z, L2, T2, rfl, HO2.out⟩
theorem front_any (k : Nat) : ∀ (L : List En) (T : List (List Int)) (hg : Good L T) (x : Int) (x0 : 0 ≤ x) (x1 : x ≤ L.length) (hk : (ent L x).dp ≤ k) (n : Nat) (hn : n ≤ (tx T x).length)
    (hc : L.length + fc k ≤ 1048576) (B S G : Nat) (w : World) (st : St w B S G L), Calls Try.prog 67 #[.pointer (some ⟨S, 0, none⟩), .int .i64 x, .int .i64 (n : Int)] w (IdOut B S G L T ((tx T x).take n) 0 (2 * (k : Nat)) (fc k) w) := by
  induction k with
  | zero =>
    intro L T hg x x0 x1 hk n hn hc B S G w st
    by_cases h0 : n = 0
    · subst h0; exact front_zero 0 L T hg x x0 x1 hk B S G w st
    · have hx : 1 ≤ x := by
        by_cases e : x = 0
        · subst e; rw [tx_zero] at hn; simp at hn; omega
        · omega
      have h1 : n = (tx T x).length := by
        rcases (hg.ok x hx x1).r with ⟨_, _, _, _, _, _, k, _⟩ | ⟨_, _, _, k4, k5, k6, k7, k8, k9, k10, k11⟩
        · rw [k] at hn ⊢; simp at hn ⊢; omega
        · have := (hg.any (x := (ent L x).r.lf) (by omega) (by omega)).d0; omega
      have := front_whole 0 L T hg x hx x1 hk n h1 B S G w st
      rw [List.take_of_length_le (by omega)]; exact this
  | succ k ih =>
    intro L T hg x x0 x1 hk n hn hc B S G w st
    by_cases h0 : n = 0
    · subst h0; exact front_zero (k + 1) L T hg x x0 x1 hk B S G w st
    · have hx : 1 ≤ x := by
        by_cases e : x = 0
        · subst e; rw [tx_zero] at hn; simp at hn; omega
        · omega
      by_cases h1 : n = (tx T x).length
      · have := front_whole (k + 1) L T hg x hx x1 hk n h1 B S G w st
        rw [List.take_of_length_le (by omega)]; exact this
      · have hd : (ent L x).dp ≠ 0 := fun e => by
          rcases (hg.ok x hx x1).r with ⟨_, _, _, _, _, _, k, _⟩ | ⟨_, _, _, k4, k5, k6, k7, k8, k9, k10, k11⟩
          · rw [k] at hn h1; simp at hn h1; omega
          · have := (hg.any (x := (ent L x).r.lf) (by omega) (by omega)).d0; omega
        obtain ⟨l, r, p⟩ := hg.pair x0 x1 hd
        have pa0 := p.a0; have pa1 := p.a1; have pb0 := p.b0; have pb1 := p.b1; have pd := p.dp; have pt := congrArg List.length p.tx
        rw [List.length_append] at pt
        have hF1 : fc (k + 1) = fc k + 9 * k + 1 := rfl
        by_cases h2 : n ≤ (tx T l).length
        · exact front_one k L T hg x hx x1 l r p hk n h0 (by omega) _ rfl h2 hc B S G w st fun w1 _ st1 => by
            have := ih L T hg l (by omega) (by omega) (by omega) (n) (by omega) (by omega) B S G w1 st1
            exact this
        · exact front_join k L T hg x hx x1 l r p hk n h0 (by omega) _ rfl (by omega) hc B S G w st fun w1 _ st1 => by
            have := ih L T hg r (by omega) (by omega) (by omega) (n - (tx T l).length) (by omega) (by omega) B S G w1 st1
            rw [show ((n - (tx T l).length : Nat) : Int) = (n : Int) - (tx T l).length by omega] at this; exact this
set_option maxRecDepth 100000 in
theorem rest_zero (k : Nat) (L : List En) (T : List (List Int)) (hg : Good L T) (x : Int) (x0 : 0 ≤ x) (x1 : x ≤ L.length) (hk : (ent L x).dp ≤ k) (B S G : Nat) (w : World) (st : St w B S G L) :
    Calls Try.prog 66 #[.pointer (some ⟨S, 0, none⟩), .int .i64 x, .int .i64 0] w (IdOut B S G L T (tx T x) 0 (2 * k) (fc k) w) := by
  have d0 := (hg.any x0 x1).d0
  have HR : Hid (∀ w1, w = w1 → IdO B S G L T (tx T x) 0 (2 * k) (fc k) w w1 x L T) := Lib.hid fun w1 e => by
    subst e
    exact ⟨st, SFr.refl _ _ _ _, hg, Ext.refl _ _, by omega, x0, x1, rfl, d0, by omega⟩
  clear d0 hg x0 x1 hk st
  go_enter Try.func66, Try.ntmps66
  go_wp2_with fail
  go_ret2
  exact ⟨_, L, T, rfl, HR.out _ rfl⟩
set_option maxRecDepth 100000 in
theorem rest_whole (k : Nat) (L : List En) (T : List (List Int)) (hg : Good L T) (x : Int) (x0 : 1 ≤ x) (x1 : x ≤ L.length) (hk : (ent L x).dp ≤ k) (n : Nat) (hn : n = (tx T x).length) (B S G : Nat) (w : World) (st : St w B S G L) :
    Calls Try.prog 66 #[.pointer (some ⟨S, 0, none⟩), .int .i64 x, .int .i64 (n : Int)] w (IdOut B S G L T ([]) 0 (2 * k) (fc k) w) := by
  have d0 := hg.one x0 x1
  have HZ := Lib.hid (fun w st => ssize_any L T hg x (by omega) x1 B S G w st)
  rw [← hn] at HZ
  have HR : Hid (∀ w1, Below w.heap.size w w1 → St w1 B S G L → IdO B S G L T ([]) 0 (2 * k) (fc k) w w1 0 L T) := Lib.hid fun w1 hb st => ⟨st, SFr.of_below hb _ _ _, hg, Ext.refl _ _, by omega, by omega, by omega, tx_zero _, by rw [ent_zero]; exact Int.le_refl _, by rw [ent_zero]; show (0 : Int) ≤ _; omega⟩
  have t1 : ((n : Int) == 0) = false := by rw [beq_eq_false_iff_ne]; omega
  have HST := Lib.hid st
  clear d0 hg x0 x1 hk st hn
  go_enter Try.func66, Try.ntmps66
  go_wp2_with fail
  (with_reducible refine (HZ.out _ HST.out).mono ?_)
  rintro e w1 ⟨rfl, B1⟩
  have HB1 := Lib.hid B1; have HS1 := Lib.hid (HST.out.below B1)
  clear B1
  go_wp2_with fail
  go_ret2
  exact ⟨_, L, T, rfl, HR.out _ HB1.out HS1.out⟩
set_option maxRecDepth 100000 in
set_option maxHeartbeats 4000000 in
theorem rest_one (k : Nat) (L : List En) (T : List (List Int)) (hg : Good L T) (x : Int) (x0 : 1 ≤ x) (x1 : x ≤ L.length) (l r : Int) (p : PairOf L T x l r) (hk : (ent L x).dp ≤ k + 1) (n : Nat) (hn0 : n ≠ 0) (hn : n < (tx T x).length) (m : Nat) (hm : m = (tx T l).length) (hnm : m ≤ n)
    (hc : L.length + fc (k + 1) ≤ 1048576) (B S G : Nat) (w : World) (st : St w B S G L) (HF : ∀ w1, Below w.heap.size w w1 → St w1 B S G L → Calls Try.prog 66 #[.pointer (some ⟨S, 0, none⟩), .int .i64 r, .int .i64 ((n : Int) - m)] w1 (IdOut B S G L T ((tx T r).drop (n - m)) 0 (2 * (k : Nat)) (fc k) w1)) :
    Calls Try.prog 66 #[.pointer (some ⟨S, 0, none⟩), .int .i64 x, .int .i64 (n : Int)] w (IdOut B S G L T ((tx T x).drop n) 0 (2 * ((k + 1 : Nat) : Int)) (fc (k + 1)) w) := by
  have pa0 := p.a0; have pa1 := p.a1; have pb0 := p.b0; have pb1 := p.b1; have pd := p.dp; have pt := p.tx; have pe1 := p.e1; have pe2 := p.e2
  have pl := congrArg List.length pt; rw [List.length_append] at pl
  have HZ := Lib.hid (fun w st => ssize_any L T hg x (by omega) x1 B S G w st)
  have HZl := Lib.hid (fun w st => ssize_any L T hg l (by omega) (by omega) B S G w st)
  rw [← hm] at HZl
  obtain ⟨kd, lt_, tm, hR⟩ := p.rule hg x0 x1 B S G
  have HR := Lib.hid hR
  have hF1 : fc (k + 1) = fc k + 9 * k + 1 := rfl
  have xn := (hg.any (x := x) (by omega) x1).n2
  obtain ⟨q, hq⟩ : ∃ q, q = (tx T x).length := ⟨_, rfl⟩
  rw [← hq] at HZ hn
  have HP : Hid (∀ w1, Below w.heap.size w w1 → St w1 B S G L → Calls Try.prog 66 #[.pointer (some ⟨S, 0, none⟩), .int .i64 r, .int .i64 ((n : Int) - m)] w1 (IdOut B S G L T ((tx T x).drop n) 0 (2 * ((k + 1 : Nat) : Int)) (fc (k + 1)) w)) := Lib.hid fun w1 hb st1 =>
    idout_turn (idout_pre (HF w1 hb st1) hb) (by rw [pt, hm, List.drop_append, List.drop_eq_nil_of_le (show (tx T l).length ≤ n by omega), List.nil_append]) (by omega) (by omega) (by omega)
  have t1 : ((n : Int) == 0) = false := by rw [beq_eq_false_iff_ne]; omega
  have t2 : ((n : Int) == (q : Int)) = false := by rw [beq_eq_false_iff_ne]; omega
  have t2b : (n == q) = false := by rw [beq_eq_false_iff_ne]; omega
  have t3 : decide ((m : Int) ≤ (n : Int)) = true := by simp; omega
  have t3b : decide (m ≤ n) = true := by simp; omega
  have b1 : (n : Int) ≤ 1152921504606846976 := by omega
  have b2 : (m : Int) ≤ (n : Int) := by omega
  have HST := Lib.hid st
  clear hR pa0 pa1 pb0 pb1 pd pt pe1 pe2 pl hF1 xn hq p hm hnm hg x0 x1 hk hn0 hn hc st HF
  go_enter Try.func66, Try.ntmps66
  go_wp2_with fail
  (with_reducible refine (HZ.out _ HST.out).mono ?_)
  rintro e w1 ⟨rfl, B1⟩
  have HB1 := Lib.hid B1; have HS1 := Lib.hid (HST.out.below B1)
  clear B1
  go_wp2_with fail
  (with_reducible refine (HR.out _ HS1.out).mono ?_)
  rintro e w2 ⟨rfl, B2⟩
  have HB2 := Lib.hid (balloc (bkeep HB1.out B2) (.cells #[.int .i64 kd, .int .u8 lt_, .int .i64 l, .int .i64 r, .int .i64 tm] 147))
  have HS2 := Lib.hid (HST.out.below HB2.out)
  have X2 := Lib.hid (Box.new w2 147 #[.int .i64 kd, .int .u8 lt_, .int .i64 l, .int .i64 r, .int .i64 tm])
  have gB := (HS1.out.below B2).lt.2.2
  clear B2
  go_wp2_with fail
  (with_reducible refine (HZl.out _ HS2.out).mono ?_)
  rintro e w3 ⟨rfl, B3⟩
  have HB3 := Lib.hid (bkeep HB2.out B3); have HS3 := Lib.hid (HS2.out.below B3)
  have X3 := X2.out.below B3 X2.out.lt
  have x0 := X3.cell 0; have x1 := X3.cell 1; have x2 := X3.cell 2; have x3 := X3.cell 3; have x4 := X3.cell 4
  simp only [List.getElem?_toArray, List.getElem?_cons_zero, List.getElem?_cons_succ] at x0 x1 x2 x3 x4
  clear B3
  go_wp2_with fail
  (with_reducible refine (HP.out _ HB3.out HS3.out).mono ?_)
  rintro e w9 ⟨y, L2, T2, rfl, o2⟩
  have HO2 := Lib.hid o2
  clear o2
  go_wp2_with fail
  go_ret2
  exact ⟨y, L2, T2, rfl, HO2.out⟩
set_option maxRecDepth 100000 in
set_option maxHeartbeats 4000000 in
theorem rest_join (k : Nat) (L : List En) (T : List (List Int)) (hg : Good L T) (x : Int) (x0 : 1 ≤ x) (x1 : x ≤ L.length) (l r : Int) (p : PairOf L T x l r) (hk : (ent L x).dp ≤ k + 1) (n : Nat) (hn0 : n ≠ 0) (hn : n < (tx T x).length) (m : Nat) (hm : m = (tx T l).length) (hnm : n < m)
    (hc : L.length + fc (k + 1) ≤ 1048576) (B S G : Nat) (w : World) (st : St w B S G L) (HF : ∀ w1, Below w.heap.size w w1 → St w1 B S G L → Calls Try.prog 66 #[.pointer (some ⟨S, 0, none⟩), .int .i64 l, .int .i64 (n : Int)] w1 (IdOut B S G L T ((tx T l).drop n) 0 (2 * (k : Nat)) (fc k) w1)) :
    Calls Try.prog 66 #[.pointer (some ⟨S, 0, none⟩), .int .i64 x, .int .i64 (n : Int)] w (IdOut B S G L T ((tx T x).drop n) 0 (2 * ((k + 1 : Nat) : Int)) (fc (k + 1)) w) := by
  have pa0 := p.a0; have pa1 := p.a1; have pb0 := p.b0; have pb1 := p.b1; have pd := p.dp; have pt := p.tx; have pe1 := p.e1; have pe2 := p.e2
  have pl := congrArg List.length pt; rw [List.length_append] at pl
  have HZ := Lib.hid (fun w st => ssize_any L T hg x (by omega) x1 B S G w st)
  have HZl := Lib.hid (fun w st => ssize_any L T hg l (by omega) (by omega) B S G w st)
  rw [← hm] at HZl
  obtain ⟨kd, lt_, tm, hR⟩ := p.rule hg x0 x1 B S G
  have HR := Lib.hid hR
  have hF1 : fc (k + 1) = fc k + 9 * k + 1 := rfl
  have xn := (hg.any (x := x) (by omega) x1).n2
  obtain ⟨q, hq⟩ : ∃ q, q = (tx T x).length := ⟨_, rfl⟩
  rw [← hq] at HZ hn
  have HF' := Lib.hid HF
  have HJ : Hid (∀ y L1 T1 w1, IdO B S G L T ((tx T l).drop n) 0 (2 * (k : Nat)) (fc k) w w1 y L1 T1 →
      Calls Try.prog 52 #[.pointer (some ⟨S, 0, none⟩), .int .i64 y, .int .i64 r] w1 (IdOut B S G L T ((tx T x).drop n) 0 (2 * ((k + 1 : Nat) : Int)) (fc (k + 1)) w)) := Lib.hid fun y L1 T1 w1 o => by
    obtain ⟨e1, e2, e3⟩ := ido_old o hg (y := r) (by omega) (by omega)
    have l1 := o.lo; have l2 := o.hi; have l3 := o.cnt; have l4 := o.x0; have l5 := o.x1; have l6 := o.tx
    have tt : tx T1 y ++ tx T1 r = (tx T x).drop n := by rw [e2, l6]; symm; rw [pt, List.drop_append_of_le_length (by omega)]
    refine idout_after (aJoin_any (3 * k) L1 T1 o.good y r (by omega) (by omega) (by omega) (by omega) (by rw [tt]; simp; omega) (by rw [e1]; omega) (by omega) B S G w1 o.st) o tt (by rw [e1]; omega) (by rw [e1]; omega) (by omega)
  have t1 : ((n : Int) == 0) = false := by rw [beq_eq_false_iff_ne]; omega
  have t2 : ((n : Int) == (q : Int)) = false := by rw [beq_eq_false_iff_ne]; omega
  have t2b : (n == q) = false := by rw [beq_eq_false_iff_ne]; omega
  have t3 : decide ((m : Int) ≤ (n : Int)) = false := by simp; omega
  have t3b : decide (m ≤ n) = false := by simp; omega
  have HST := Lib.hid st
  clear hR pa0 pa1 pb0 pb1 pd pt pe1 pe2 pl hF1 xn hq p hm hnm hg x0 x1 hk hn0 hn hc st HF
  go_enter Try.func66, Try.ntmps66
  go_wp2_with fail
  (with_reducible refine (HZ.out _ HST.out).mono ?_)
  rintro e w1 ⟨rfl, B1⟩
  have HB1 := Lib.hid B1; have HS1 := Lib.hid (HST.out.below B1)
  clear B1
  go_wp2_with fail
  (with_reducible refine (HR.out _ HS1.out).mono ?_)
  rintro e w2 ⟨rfl, B2⟩
  have HB2 := Lib.hid (balloc (bkeep HB1.out B2) (.cells #[.int .i64 kd, .int .u8 lt_, .int .i64 l, .int .i64 r, .int .i64 tm] 147))
  have HS2 := Lib.hid (HST.out.below HB2.out)
  have X2 := Lib.hid (Box.new w2 147 #[.int .i64 kd, .int .u8 lt_, .int .i64 l, .int .i64 r, .int .i64 tm])
  have gB := (HS1.out.below B2).lt.2.2
  clear B2
  go_wp2_with fail
  (with_reducible refine (HZl.out _ HS2.out).mono ?_)
  rintro e w3 ⟨rfl, B3⟩
  have HB3 := Lib.hid (bkeep HB2.out B3); have HS3 := Lib.hid (HS2.out.below B3)
  have X3 := X2.out.below B3 X2.out.lt
  have x0 := X3.cell 0; have x1 := X3.cell 1; have x2 := X3.cell 2; have x3 := X3.cell 3; have x4 := X3.cell 4
  simp only [List.getElem?_toArray, List.getElem?_cons_zero, List.getElem?_cons_succ] at x0 x1 x2 x3 x4
  clear B3
  go_wp2_with fail
  (with_reducible refine (HF'.out _ HB3.out HS3.out).mono ?_)
  rintro e w4 ⟨y, L1, T1, rfl, o⟩
  have X4 := X3.sfr o.fr HS3.out gB (by decide)
  have HO := Lib.hid (IdO.pre HB3.out o)
  have y0 := X4.cell 0; have y1 := X4.cell 1; have y2 := X4.cell 2; have y3 := X4.cell 3; have y4 := X4.cell 4
  simp only [List.getElem?_toArray, List.getElem?_cons_zero, List.getElem?_cons_succ] at y0 y1 y2 y3 y4
  clear o
  go_wp2_with fail
  (with_reducible refine (HJ.out _ _ _ _ HO.out).mono ?_)
  rintro e w9 ⟨z, L2, T2, rfl, o2⟩
  have HO2 := Lib.hid o2
  clear o2
  go_wp2_with fail
  go_ret2
  exact ⟨z, L2, T2, rfl, HO2.out⟩
theorem rest_any (k : Nat) : ∀ (L : List En) (T : List (List Int)) (hg : Good L T) (x : Int) (x0 : 0 ≤ x) (x1 : x ≤ L.length) (hk : (ent L x).dp ≤ k) (n : Nat) (hn : n ≤ (tx T x).length)
    (hc : L.length + fc k ≤ 1048576) (B S G : Nat) (w : World) (st : St w B S G L), Calls Try.prog 66 #[.pointer (some ⟨S, 0, none⟩), .int .i64 x, .int .i64 (n : Int)] w (IdOut B S G L T ((tx T x).drop n) 0 (2 * (k : Nat)) (fc k) w) := by
  induction k with
  | zero =>
    intro L T hg x x0 x1 hk n hn hc B S G w st
    by_cases h0 : n = 0
    · subst h0; exact rest_zero 0 L T hg x x0 x1 hk B S G w st
    · have hx : 1 ≤ x := by
        by_cases e : x = 0
        · subst e; rw [tx_zero] at hn; simp at hn; omega
        · omega
      have h1 : n = (tx T x).length := by
        rcases (hg.ok x hx x1).r with ⟨_, _, _, _, _, _, k, _⟩ | ⟨_, _, _, k4, k5, k6, k7, k8, k9, k10, k11⟩
        · rw [k] at hn ⊢; simp at hn ⊢; omega
        · have := (hg.any (x := (ent L x).r.lf) (by omega) (by omega)).d0; omega
      have := rest_whole 0 L T hg x hx x1 hk n h1 B S G w st
      rw [List.drop_eq_nil_of_le (by omega)]; exact this
  | succ k ih =>
    intro L T hg x x0 x1 hk n hn hc B S G w st
    by_cases h0 : n = 0
    · subst h0; exact rest_zero (k + 1) L T hg x x0 x1 hk B S G w st
    · have hx : 1 ≤ x := by
        by_cases e : x = 0
        · subst e; rw [tx_zero] at hn; simp at hn; omega
        · omega
      by_cases h1 : n = (tx T x).length
      · have := rest_whole (k + 1) L T hg x hx x1 hk n h1 B S G w st
        rw [List.drop_eq_nil_of_le (by omega)]; exact this
      · have hd : (ent L x).dp ≠ 0 := fun e => by
          rcases (hg.ok x hx x1).r with ⟨_, _, _, _, _, _, k, _⟩ | ⟨_, _, _, k4, k5, k6, k7, k8, k9, k10, k11⟩
          · rw [k] at hn h1; simp at hn h1; omega
          · have := (hg.any (x := (ent L x).r.lf) (by omega) (by omega)).d0; omega
        obtain ⟨l, r, p⟩ := hg.pair x0 x1 hd
        have pa0 := p.a0; have pa1 := p.a1; have pb0 := p.b0; have pb1 := p.b1; have pd := p.dp; have pt := congrArg List.length p.tx
        rw [List.length_append] at pt
        have hF1 : fc (k + 1) = fc k + 9 * k + 1 := rfl
        by_cases h2 : (tx T l).length ≤ n
        · exact rest_one k L T hg x hx x1 l r p hk n h0 (by omega) _ rfl h2 hc B S G w st fun w1 _ st1 => by
            have := ih L T hg r (by omega) (by omega) (by omega) (n - (tx T l).length) (by omega) (by omega) B S G w1 st1
            rw [show ((n - (tx T l).length : Nat) : Int) = (n : Int) - (tx T l).length by omega] at this; exact this
        · exact rest_join k L T hg x hx x1 l r p hk n h0 (by omega) _ rfl (by omega) hc B S G w st fun w1 _ st1 => by
            have := ih L T hg l (by omega) (by omega) (by omega) (n) (by omega) (by omega) B S G w1 st1
            exact this
end Go.Proofs.Ytolhjkpekmmajaa
/- The walk of split.section. Written by wip/gen/section.py. -/
namespace Go.Proofs.Ytolhjkpekmmajaa
set_option linter.unusedVariables false
set_option linter.unusedSimpArgs false
open Go.RowKit Go.Lib Go.Maps
attribute [local go_sem ↓] Go.wp_at_zero Go.wp_at_succ
/-- how many rules section makes at most, for a depth -/
def sc_ (k : Nat) : Nat := 2 * fc k + 12 * k + 1
theorem fc_le (k : Nat) : fc k ≤ 9 * k * k := by
  induction k with
  | zero => exact Nat.le_refl _
  | succ k ih => show fc k + 9 * k + 1 ≤ _; simp only [Nat.mul_add, Nat.add_mul, Nat.mul_one, Nat.one_mul] at ih ⊢; omega
theorem fc_mono {a b : Nat} (h : a ≤ b) : fc a ≤ fc b := by
  induction b with
  | zero => have : a = 0 := by omega
            subst this; exact Nat.le_refl _
  | succ b ih =>
    by_cases e : a = b + 1
    · subst e; exact Nat.le_refl _
    · have := ih (by omega); show fc a ≤ fc b + 9 * b + 1; omega
theorem wk_full {l : List Int} {f n : Nat} (h : f + n ≤ l.length) (hn : n = l.length) : (l.drop f).take n = l := by
  have : f = 0 := by omega
  subst this; rw [List.drop_zero, List.take_of_length_le (by omega)]
theorem wk_left {a b : List Int} {f n : Nat} (h : f + n ≤ a.length) : ((a ++ b).drop f).take n = (a.drop f).take n := by
  rw [List.drop_append_of_le_length (by omega), List.take_append_of_le_length (by rw [List.length_drop]; omega)]
theorem wk_right {a b : List Int} {f n : Nat} (h : a.length ≤ f) : ((a ++ b).drop f).take n = (b.drop (f - a.length)).take n := by
  rw [List.drop_append, List.drop_eq_nil_of_le h, List.nil_append]
theorem wk_mid {a b : List Int} {f n : Nat} (h : f ≤ a.length) (h2 : a.length ≤ f + n) : ((a ++ b).drop f).take n = a.drop f ++ b.take (f + n - a.length) := by
  rw [List.drop_append_of_le_length h, List.take_append, List.take_of_length_le (by rw [List.length_drop]; omega), List.length_drop, show n - (a.length - f) = f + n - a.length by omega]
set_option maxRecDepth 100000 in
theorem section_zero (k : Nat) (L : List En) (T : List (List Int)) (hg : Good L T) (x f : Int) (B S G : Nat) (w : World) (st : St w B S G L) :
    Calls Try.prog 49 #[.pointer (some ⟨S, 0, none⟩), .int .i64 x, .int .i64 f, .int .i64 0] w (IdOut B S G L T [] 0 (2 * k) (sc_ k) w) := by
  have HR : Hid (∀ w1, w = w1 → IdO B S G L T [] 0 (2 * k) (sc_ k) w w1 0 L T) := Lib.hid fun w1 e => by
    subst e
    exact ⟨st, SFr.refl _ _ _ _, hg, Ext.refl _ _, by omega, by omega, by omega, tx_zero _, by rw [ent_zero]; exact Int.le_refl _, by rw [ent_zero]; show (0 : Int) ≤ _; omega⟩
  clear hg st
  go_enter Try.func49, Try.ntmps49
  go_wp2_with fail
  go_ret2
  exact ⟨_, L, T, rfl, HR.out _ rfl⟩
set_option maxRecDepth 100000 in
set_option maxHeartbeats 16000000 in
theorem section_some (k : Nat) (L : List En) (T : List (List Int)) (hg : Good L T) (x : Int) (x0 : 1 ≤ x) (x1 : x ≤ L.length) (hk : (ent L x).dp ≤ k) (f n : Nat) (hn0 : n ≠ 0) (hn : f + n ≤ (tx T x).length)
    (t : List Int) (ht : ((tx T x).drop f).take n = t) (hc : L.length + sc_ k ≤ 1048576) (B S G : Nat) (w : World) (st : St w B S G L) :
    Calls Try.prog 49 #[.pointer (some ⟨S, 0, none⟩), .int .i64 x, .int .i64 f, .int .i64 n] w (IdOut B S G L T t 0 (2 * k) (sc_ k) w) := by
  have HG := Lib.hid hg; have HST := Lib.hid st; have HC := Lib.hid hc; have HN0 := Lib.hid hn0
  have HX := Lib.hid (show 1 ≤ x ∧ x ≤ L.length ∧ (ent L x).dp ≤ k ∧ f + n ≤ (tx T x).length ∧ ((tx T x).drop f).take n = t from ⟨x0, x1, hk, hn, ht⟩)
  have t0 : ((n : Int) == 0) = false := by rw [beq_eq_false_iff_ne]; omega
  clear hg st hc hn0 x0 x1 hk hn ht
  go_enter Try.func49, Try.ntmps49
  go_wp2_with fail
  go_loopw [1, 2, 10, 11, 12, 13] (fun s1 s2 _ _ _ _ wr => ∃ (y : Int) (f : Nat), s1 = .int .i64 y ∧ s2 = .int .i64 f ∧ Hid (1 ≤ y ∧ y ≤ L.length ∧ (ent L y).dp ≤ k ∧ f + n ≤ (tx T y).length ∧ ((tx T y).drop f).take n = t) ∧ Hid (Below w.heap.size w wr)) (fun s1 _ _ _ _ _ _ => (ent L (intOf s1)).dp.toNat)
  case atStart => exact ⟨x, f, rfl, rfl, HX, Lib.hid (Below.refl _ _)⟩
  case round =>
    clear HX
    obtain ⟨y, g, rfl, rfl, HX, BW⟩ := hrel
    have HS0 := Lib.hid (HST.out.below BW.out)
    obtain ⟨y0, y1, hk, hn, ht⟩ := HX.out
    have yn := (HG.out.any (x := y) (by omega) y1).n2
    have HZ := Lib.hid (fun w st => ssize_any L T HG.out y (by omega) y1 B S G w st)
    have hn0 := HN0.out
    by_cases hw : n = (tx T y).length
    · have HR : Hid (∀ w1, Below w.heap.size w w1 → St w1 B S G L → IdO B S G L T t 0 (2 * k) (sc_ k) w w1 y L T) := Lib.hid fun w1 hb st => by
        have d0 := HG.out.one y0 y1
        exact ⟨st, SFr.of_below hb _ _ _, HG.out, Ext.refl _ _, by omega, by omega, y1, by rw [← ht, wk_full hn hw], by omega, by omega⟩
      rw [← hw] at HZ
      clear y0 y1 hk hn ht yn hw HX
      go_wp2_with fail
      (with_reducible refine (HZ.out _ HS0.out).mono ?_)
      rintro e w1 ⟨rfl, B1⟩
      have HB1 := Lib.hid (bkeep BW.out B1); have HS1 := Lib.hid (HST.out.below HB1.out)
      clear B1
      go_wp2_with fail
      go_ret2
      exact ⟨_, L, T, rfl, HR.out _ HB1.out HS1.out⟩
    · have hd : (ent L y).dp ≠ 0 := fun e => by
        rcases (HG.out.ok y y0 y1).r with ⟨_, _, _, _, _, _, k, _⟩ | ⟨_, _, _, k4, k5, k6, k7, k8, k9, k10, k11⟩
        · rw [k] at hn hw; simp at hn hw; omega
        · have := (HG.out.any (x := (ent L y).r.lf) (by omega) (by omega)).d0; omega
      obtain ⟨l, r, p⟩ := HG.out.pair (by omega) y1 hd
      have pa0 := p.a0; have pa1 := p.a1; have pb0 := p.b0; have pb1 := p.b1; have pd := p.dp; have pt := p.tx; have pe1 := p.e1; have pe2 := p.e2
      have pl := congrArg List.length pt; rw [List.length_append] at pl
      have HZl := Lib.hid (fun w st => ssize_any L T HG.out l (by omega) (by omega) B S G w st)
      obtain ⟨kd, lt_, tm, hR⟩ := p.rule HG.out y0 y1 B S G
      have HR := Lib.hid hR
      obtain ⟨q, hq⟩ : ∃ q, q = (tx T y).length := ⟨_, rfl⟩
      obtain ⟨m, hm⟩ : ∃ m, m = (tx T l).length := ⟨_, rfl⟩
      rw [← hq] at HZ hw yn hn
      rw [← hm] at HZl
      have t2 : ((n : Int) == (q : Int)) = false := by rw [beq_eq_false_iff_ne]; omega
      have t2b : (n == q) = false := by rw [beq_eq_false_iff_ne]; omega
      have b1 : (g : Int) + (n : Int) ≤ 1152921504606846976 := by omega
      have b2 : (m : Int) ≤ 1152921504606846976 := by omega
      have b3 : (g : Int) ≤ 1152921504606846976 := by omega
      have b4 : (n : Int) ≤ 1152921504606846976 := by omega
      by_cases hl : g + n ≤ m
      · have t3 : decide ((g : Int) + (n : Int) ≤ (m : Int)) = true := by simp; omega
        have HX2 := Lib.hid (show 1 ≤ l ∧ l ≤ L.length ∧ (ent L l).dp ≤ k ∧ g + n ≤ (tx T l).length ∧ ((tx T l).drop g).take n = t from ⟨pa0, by omega, by omega, by omega, by rw [← ht, pt, wk_left (by omega)]⟩)
        have HM := Lib.hid (show (ent L l).dp.toNat < (ent L y).dp.toNat by omega)
        clear hl hR y0 y1 hk hn ht yn hw HX hd p pa0 pa1 pb0 pb1 pd pt pe1 pe2 pl hq hm hn0
        go_wp2_with fail
        (with_reducible refine (HZ.out _ HS0.out).mono ?_)
        rintro e w1 ⟨rfl, B1⟩
        have HB1 := Lib.hid (bkeep BW.out B1); have HS1 := Lib.hid (HST.out.below HB1.out)
        clear B1
        go_wp2_with fail
        (with_reducible refine (HR.out _ HS1.out).mono ?_)
        rintro e w2 ⟨rfl, B2⟩
        have HB2 := Lib.hid (balloc (bkeep HB1.out B2) (.cells #[.int .i64 kd, .int .u8 lt_, .int .i64 l, .int .i64 r, .int .i64 tm] 147))
        have HS2 := Lib.hid (HST.out.below HB2.out)
        have X2 := Lib.hid (Box.new w2 147 #[.int .i64 kd, .int .u8 lt_, .int .i64 l, .int .i64 r, .int .i64 tm])
        have gB := (HS1.out.below B2).lt.2.2
        clear B2
        go_wp2_with fail
        (with_reducible refine (HZl.out _ HS2.out).mono ?_)
        rintro e w3 ⟨rfl, B3⟩
        have HB3 := Lib.hid (bkeep HB2.out B3); have HS3 := Lib.hid (HS2.out.below B3)
        have X3 := X2.out.below B3 X2.out.lt
        have x0 := X3.cell 0; have x1 := X3.cell 1; have x2 := X3.cell 2; have x3 := X3.cell 3; have x4 := X3.cell 4
        simp only [List.getElem?_toArray, List.getElem?_cons_zero, List.getElem?_cons_succ] at x0 x1 x2 x3 x4
        clear B3
        go_wp2_with fail
        go_roundw
        case rel => exact ⟨l, g, rfl, rfl, HX2, HB3⟩
        case measure => simp only [intOf]; exact HM.out
      · have t3 : decide ((g : Int) + (n : Int) ≤ (m : Int)) = false := by simp; omega
        by_cases hr : m ≤ g
        · have t4 : decide ((m : Int) ≤ (g : Int)) = true := by simp; omega
          have t4b : decide (m ≤ g) = true := by simp; omega
          have b5 : (m : Int) ≤ (g : Int) := by omega
          have HX2 := Lib.hid (show 1 ≤ r ∧ r ≤ L.length ∧ (ent L r).dp ≤ k ∧ (g - m) + n ≤ (tx T r).length ∧ ((tx T r).drop (g - m)).take n = t from ⟨pb0, by omega, by omega, by omega, by rw [← ht, pt, wk_right (by omega), hm]⟩)
          have HM := Lib.hid (show (ent L r).dp.toNat < (ent L y).dp.toNat by omega)
          have HGM := Lib.hid (show ((g - m : Nat) : Int) = (g : Int) - m by omega)
          clear hl hr hR y0 y1 hk hn ht yn hw HX hd p pa0 pa1 pb0 pb1 pd pt pe1 pe2 pl hq hm hn0
          go_wp2_with fail
          (with_reducible refine (HZ.out _ HS0.out).mono ?_)
          rintro e w1 ⟨rfl, B1⟩
          have HB1 := Lib.hid (bkeep BW.out B1); have HS1 := Lib.hid (HST.out.below HB1.out)
          clear B1
          go_wp2_with fail
          (with_reducible refine (HR.out _ HS1.out).mono ?_)
          rintro e w2 ⟨rfl, B2⟩
          have HB2 := Lib.hid (balloc (bkeep HB1.out B2) (.cells #[.int .i64 kd, .int .u8 lt_, .int .i64 l, .int .i64 r, .int .i64 tm] 147))
          have HS2 := Lib.hid (HST.out.below HB2.out)
          have X2 := Lib.hid (Box.new w2 147 #[.int .i64 kd, .int .u8 lt_, .int .i64 l, .int .i64 r, .int .i64 tm])
          have gB := (HS1.out.below B2).lt.2.2
          clear B2
          go_wp2_with fail
          (with_reducible refine (HZl.out _ HS2.out).mono ?_)
          rintro e w3 ⟨rfl, B3⟩
          have HB3 := Lib.hid (bkeep HB2.out B3); have HS3 := Lib.hid (HS2.out.below B3)
          have X3 := X2.out.below B3 X2.out.lt
          have x0 := X3.cell 0; have x1 := X3.cell 1; have x2 := X3.cell 2; have x3 := X3.cell 3; have x4 := X3.cell 4
          simp only [List.getElem?_toArray, List.getElem?_cons_zero, List.getElem?_cons_succ] at x0 x1 x2 x3 x4
          clear B3
          go_wp2_with fail
          go_roundw
          case rel => exact ⟨r, g - m, rfl, by rw [HGM.out], HX2, HB3⟩
          case measure => simp only [intOf]; exact HM.out
        · have t4 : decide ((m : Int) ≤ (g : Int)) = false := by simp; omega
          have t4b : decide (m ≤ g) = false := by simp; omega
          obtain ⟨j, hj⟩ : ∃ j, k = j + 1 := ⟨k - 1, by omega⟩
          have hF1 : fc k = fc j + 9 * j + 1 := by rw [hj]; rfl
          have hsc : sc_ k = 2 * fc k + 12 * k + 1 := rfl
          have hc := HC.out
          have HF1 := Lib.hid (fun w st => rest_any j L T HG.out l (by omega) (by omega) (by omega) g (by omega) (by omega) B S G w st)
          obtain ⟨h, hh⟩ : ∃ h, h = g + n - m := ⟨_, rfl⟩
          have HF2 : Hid (∀ y1 L1 T1 w1, IdO B S G L T ((tx T l).drop g) 0 (2 * (j : Nat)) (fc j) w w1 y1 L1 T1 → Calls Try.prog 67 #[.pointer (some ⟨S, 0, none⟩), .int .i64 r, .int .i64 ((g : Int) + n - m)] w1 (IdOut B S G L1 T1 ((tx T r).take h) 0 (2 * (j : Nat)) (fc j) w1)) := Lib.hid fun y1 L1 T1 w1 o => by
            obtain ⟨e1, e2, e3⟩ := ido_old o HG.out (y := r) (by omega) (by omega)
            have l3 := o.cnt
            have := front_any j L1 T1 o.good r (by omega) e3 (by rw [e1]; omega) h (by rw [e2]; omega) (by omega) B S G w1 o.st
            rw [e2, show ((h : Nat) : Int) = (g : Int) + n - m by omega] at this
            exact this
          have HJ : Hid (∀ y1 L1 T1 w1 y2 L2 T2 w2, IdO B S G L T ((tx T l).drop g) 0 (2 * (j : Nat)) (fc j) w w1 y1 L1 T1 → IdO B S G L1 T1 ((tx T r).take h) 0 (2 * (j : Nat)) (fc j) w1 w2 y2 L2 T2 →
              Calls Try.prog 52 #[.pointer (some ⟨S, 0, none⟩), .int .i64 y1, .int .i64 y2] w2 (IdOut B S G L T t 0 (2 * k) (sc_ k) w)) := Lib.hid fun y1 L1 T1 w1 y2 L2 T2 w2 o1 o2 => by
            obtain ⟨e1, e2, e3⟩ := ido_old o2 o1.good (y := y1) o1.x0 o1.x1
            have l1 := o1.lo; have l2 := o1.hi; have l3 := o1.cnt; have l4 := o1.x0; have l6 := o1.tx
            have m1 := o2.lo; have m2 := o2.hi; have m3 := o2.cnt; have m4 := o2.x0; have m5 := o2.x1; have m6 := o2.tx
            have tt : tx T2 y1 ++ tx T2 y2 = t := by rw [e2, l6, m6, ← ht, pt, wk_mid (by omega) (by omega), hh, hm]
            have tl : t.length ≤ n := by rw [← ht]; simp; omega
            refine idout_after (aJoin_any (4 * j) L2 T2 o2.good y1 y2 l4 e3 m4 m5 (by rw [tt]; omega) (by rw [e1]; omega) (by omega) B S G w2 o2.st) (o1.after o2 (Nat.le_refl _)) tt (by rw [e1]; omega) (by rw [e1]; omega) (by omega)
          clear hF1 hsc hc hh hj
          clear hl hr hR y0 y1 hk hn ht yn hw HX hd p pa0 pa1 pb0 pb1 pd pt pe1 pe2 pl hq hm hn0
          go_wp2_with fail
          (with_reducible refine (HZ.out _ HS0.out).mono ?_)
          rintro e w1 ⟨rfl, B1⟩
          have HB1 := Lib.hid (bkeep BW.out B1); have HS1 := Lib.hid (HST.out.below HB1.out)
          clear B1
          go_wp2_with fail
          (with_reducible refine (HR.out _ HS1.out).mono ?_)
          rintro e w2 ⟨rfl, B2⟩
          have HB2 := Lib.hid (balloc (bkeep HB1.out B2) (.cells #[.int .i64 kd, .int .u8 lt_, .int .i64 l, .int .i64 r, .int .i64 tm] 147))
          have HS2 := Lib.hid (HST.out.below HB2.out)
          have X2 := Lib.hid (Box.new w2 147 #[.int .i64 kd, .int .u8 lt_, .int .i64 l, .int .i64 r, .int .i64 tm])
          have gB := (HS1.out.below B2).lt.2.2
          clear B2
          go_wp2_with fail
          (with_reducible refine (HZl.out _ HS2.out).mono ?_)
          rintro e w3 ⟨rfl, B3⟩
          have HB3 := Lib.hid (bkeep HB2.out B3); have HS3 := Lib.hid (HS2.out.below B3)
          have X3 := X2.out.below B3 X2.out.lt
          have x0 := X3.cell 0; have x1 := X3.cell 1; have x2 := X3.cell 2; have x3 := X3.cell 3; have x4 := X3.cell 4
          simp only [List.getElem?_toArray, List.getElem?_cons_zero, List.getElem?_cons_succ] at x0 x1 x2 x3 x4
          clear B3
          go_wp2_with fail
          (with_reducible refine (HF1.out _ HS3.out).mono ?_)
          rintro e w4 ⟨y1, L1, T1, rfl, o⟩
          have X4 := X3.sfr o.fr HS3.out gB (by decide)
          have HO := Lib.hid (IdO.pre HB3.out o)
          have y0 := X4.cell 0; have y1 := X4.cell 1; have y2 := X4.cell 2; have y3 := X4.cell 3; have y4 := X4.cell 4
          simp only [List.getElem?_toArray, List.getElem?_cons_zero, List.getElem?_cons_succ] at y0 y1 y2 y3 y4
          clear o
          go_wp2_with fail
          (with_reducible refine (HF2.out _ _ _ _ HO.out).mono ?_)
          rintro e w5 ⟨y2, L2, T2, rfl, o2⟩
          have HO2 := Lib.hid o2
          clear o2
          go_wp2_with fail
          (with_reducible refine (HJ.out _ _ _ _ _ _ _ _ HO.out HO2.out).mono ?_)
          rintro e w9 ⟨z, L3, T3, rfl, o3⟩
          have HO3 := Lib.hid o3
          clear o3
          go_wp2_with fail
          go_ret2
          exact ⟨z, L3, T3, rfl, HO3.out⟩
theorem section_any (k : Nat) (L : List En) (T : List (List Int)) (hg : Good L T) (x : Int) (x0 : 0 ≤ x) (x1 : x ≤ L.length) (hk : (ent L x).dp ≤ k) (f n : Nat) (hn : f + n ≤ (tx T x).length) (hc : L.length + sc_ k ≤ 1048576) (B S G : Nat) (w : World) (st : St w B S G L) :
    Calls Try.prog 49 #[.pointer (some ⟨S, 0, none⟩), .int .i64 x, .int .i64 f, .int .i64 n] w (IdOut B S G L T (((tx T x).drop f).take n) 0 (2 * k) (sc_ k) w) := by
  by_cases h : n = 0
  · subst h; rw [List.take_zero]; exact section_zero k L T hg x f B S G w st
  · have hx : 1 ≤ x := by
      by_cases e : x = 0
      · subst e; rw [tx_zero] at hn; simp at hn; omega
      · omega
    exact section_some k L T hg x hx x1 hk f n h hn _ rfl hc B S G w st
end Go.Proofs.Ytolhjkpekmmajaa
/- What stays when the store grows: rows of one's own, variables; sums of lengths; rows of integers. -/
namespace Go.Proofs.Ytolhjkpekmmajaa
set_option linter.unusedVariables false
set_option linter.unusedSimpArgs false
open Go.RowKit Go.Lib Go.Maps
attribute [local go_sem ↓] Go.wp_at_zero Go.wp_at_succ
def vi (l : List Int) : List Value := l.map (.int .i64)
theorem vi_get {l : List Int} {k : Nat} (hk : k < l.length) : (vi l)[k]? = some (.int .i64 (l[k]'hk)) := by simp [vi, hk]
theorem vi_one (l : List Int) : ∀ u ∈ vi l, u.oneCell' = true := by
  intro u hu
  simp only [vi, List.mem_map] at hu
  obtain ⟨x, _, rfl⟩ := hu
  rfl
theorem vi_app (a b : List Int) : vi (a ++ b) = vi a ++ vi b := by simp [vi]
theorem info_int : (Try.prog.info? 3).map (fun i => (i.zero, i.size, i.bytes)) = some (some (.int .i64 0), 1, 8) := by kernel_rfl
theorem info_id : (Try.prog.info? 56).map (fun i => (i.zero, i.size, i.bytes)) = some (some (.int .i64 0), 1, 8) := by kernel_rfl
theorem own_typed {w : World} {base : Nat} {e : TypeId} {size n : Nat} {v : Value} {xs : List Value} (h : w.ownsRow base e size v n xs) {k : Nat} (hk : v.ownBlock = some k) {cs : Array Value} {t : TypeId} {fr : Nat × Nat} (hc : w.heap[k]? = some (.cells cs t fr)) : t = e := by
  rcases h.2 with ⟨rfl, _⟩ | ⟨g, cap, cur, rfl, hg, hc2, _⟩
  · simp [Value.ownBlock] at hk
  · simp [Value.ownBlock] at hk
    subst hk
    rw [show w.heap[g]? = some (.cells cur e (0, 0)) from hc2] at hc
    injection hc with hc; injection hc with _ hc
    exact hc.symm
theorem own_sfr {w w' : World} {base : Nat} {e : TypeId} {size n : Nat} {v : Value} {xs : List Value} {B S G : Nat} {L : List En} (h : w.ownsRow base e size v n xs) (fr : SFr w w' B S G) (st : St w B S G L) (hB : B ≤ base) (ht : e ≠ 149) : w'.ownsRow base e size v n xs := by
  have l := st.lt
  refine own_kept2 h fun k hk => fr.keep k (own_lt h k hk) ?_ ?_ fun cs fr2 e2 => ?_
  · have := own_ge h k hk; omega
  · have := own_ge h k hk; omega
  · exact absurd (own_typed h hk e2).symm ht
theorem own_setCell {w : World} {base : Nat} {e : TypeId} {size n : Nat} {v : Value} {xs : List Value} (h : w.ownsRow base e size v n xs) {p : Addr} (hp : p.block < base) (u : Value) : (w.setCell p u).ownsRow base e size v n xs :=
  own_kept2 h fun k hk => Below.heap_setCell w p u k (by have := own_ge h k hk; omega)
theorem own_grown2 {w w' : World} {base : Nat} {e : TypeId} {size n : Nat} {v : Value} {xs : List Value} {row : Option Nat} (h : w.ownsRow base e size v n xs) (gr : w.grownBy w' row) (hr : ∀ k, row = some k → k < base ∨ w.heap.size ≤ k) : w'.ownsRow base e size v n xs :=
  own_kept2 h fun k hk => gr.block k (own_lt h k hk) fun e => by
    have := hr k e.symm; have := own_ge h k hk; have := own_lt h k hk; omega
theorem SFr.below {w w1 w2 : World} {B S G : Nat} (h : SFr w w1 B S G) (hb : Below w1.heap.size w1 w2) : SFr w w2 B S G := h.trans (SFr.of_below hb _ _ _)
theorem SFr.alloc {w w1 : World} {B S G : Nat} (h : SFr w w1 B S G) (o : Obj) : SFr w (w1.alloc o) B S G := h.below (balloc (Below.refl _ _) _)
theorem SFr.grown {w w1 w2 : World} {B S G : Nat} {row : Option Nat} (h : SFr w w1 B S G) (gr : w1.grownBy w2 row) (hr : ∀ k, row = some k → w.heap.size ≤ k) : SFr w w2 B S G :=
  ⟨gr.os.trans h.os, gr.tape.trans h.tape, gr.output.trans h.output, Nat.le_trans h.size gr.size, fun k hk n1 n2 n3 =>
    (gr.block k (Nat.lt_of_lt_of_le hk h.size) (fun e => by have := hr k e.symm; omega)).trans (h.keep k hk n1 n2 n3)⟩
theorem SFr.setCell {w w1 : World} {B S G : Nat} (h : SFr w w1 B S G) {p : Addr} (hp : w.heap.size ≤ p.block) (u : Value) : SFr w (w1.setCell p u) B S G :=
  ⟨h.os, h.tape, h.output, by show _ ≤ (w1.setCell p u).heap.size; simp [World.setCell]; exact h.size, fun k hk n1 n2 n3 => (Below.heap_setCell w1 p u k (by omega)).trans (h.keep k hk n1 n2 n3)⟩
/-- the store stays where a row of another kind grows -/
theorem St.grown {w w' : World} {B S G : Nat} {L : List En} (st : St w B S G L) {base : Nat} {e : TypeId} {size n : Nat} {v : Value} {xs : List Value} (h : w.ownsRow base e size v n xs) (hB : B ≤ base) (ht : e ≠ 149) (gr : w.grownBy w' v.ownBlock) : St w' B S G L := by
  obtain ⟨⟨A, c, bo, ow⟩, fm, lt, ne⟩ := st
  refine ⟨⟨A, c, bo.grown gr fun q => ?_, own_kept2 ow fun k hk => gr.block k (own_lt ow k hk) fun q => ?_⟩, fm.grown gr fun q => ?_, ⟨lt.1, lt.2.1, Nat.le_trans lt.2.2 gr.size⟩, ne⟩
  · have := own_ge h _ q; omega
  · rcases ow.2 with ⟨hv, _⟩ | ⟨g, cap, cur, hv, hg, hc, _⟩
    · rw [hv] at hk; simp [Value.ownBlock] at hk
    · rw [hv] at hk; simp [Value.ownBlock] at hk; subst hk
      exact ht (own_typed h q.symm hc).symm
  · have := own_ge h _ q; omega
/-- .. or where a cell of a variable of another kind is set -/
theorem St.set {w : World} {B S G : Nat} {L : List En} (st : St w B S G L) {g : Nat} {t : TypeId} {cs : Array Value} (hx : Box w g t cs) (hB : B ≤ g) (ht : t ≠ 149) (i : Nat) (u : Value) : St (w.setCell ⟨g, i, none⟩ u) B S G L := by
  obtain ⟨⟨A, c, bo, ow⟩, fm, lt, ne⟩ := st
  refine ⟨⟨A, c, bo.far (by simp; omega) u, own_kept2 ow fun k hk => Below.heap_setCell w _ u k (by
      rcases ow.2 with ⟨hv, _⟩ | ⟨g2, cap, cur, hv, hg, hc, _⟩
      · rw [hv] at hk; simp [Value.ownBlock] at hk
      · rw [hv] at hk; simp [Value.ownBlock] at hk; subst hk
        intro q
        simp at q; subst q
        unfold Box at hx
        rw [hx] at hc
        injection hc with hc; injection hc with _ hc
        exact ht hc)⟩, fm.set (by simp; omega) u, ⟨lt.1, lt.2.1, by simp [World.setCell]; exact lt.2.2⟩, ne⟩
/-- a sum of valid lengths -/
def sumL (l : List Int) : Int := l.foldl (· + ·) 0
theorem foldl_add (l : List Int) : ∀ a : Int, l.foldl (· + ·) a = a + sumL l := by
  induction l with
  | nil => intro a; simp [sumL]
  | cons x l ih => intro a; show l.foldl (· + ·) (a + x) = a + (l.foldl (· + ·) (0 + x)); rw [ih, ih]; omega
theorem sumL_cons (x : Int) (l : List Int) : sumL (x :: l) = x + sumL l := by show l.foldl (· + ·) (0 + x) = _; rw [foldl_add]; omega
theorem sumL_pos {l : List Int} (h : ∀ x ∈ l, 0 ≤ x) : 0 ≤ sumL l := by
  induction l with
  | nil => exact Int.le_refl _
  | cons x l ih => rw [sumL_cons]; have := h x (by simp); have := ih fun y hy => h y (by simp [hy]); omega
theorem sumL_app (a b : List Int) : sumL (a ++ b) = sumL a + sumL b := by
  induction a with
  | nil => show sumL b = 0 + sumL b; omega
  | cons x a ih => rw [List.cons_append, sumL_cons, sumL_cons, ih]; omega
set_option maxHeartbeats 400000 in
theorem lensum_ok (l : List Int) (n c : Nat) (A : Option Addr) (hl : l.length = n) (hn : n ≤ 9223372036854775807) (hp : ∀ x ∈ l, 0 ≤ x) (hs : sumL l ≤ 1152921504606846976) (w : World) (ha : RowAt w A (vi l)) :
    Calls Try.prog 51 #[.slice A n c] w fun e w' => e = .returned (.tuple #[.int .i64 (sumL l), .nilIface]) ∧ w = w' := by
  have HA := Lib.hid ha; have HL := Lib.hid hl; have HP := Lib.hid hp; have HS := Lib.hid hs
  clear ha hl hp hs
  go_enter Try.func51, Try.ntmps51
  go_wp2_with fail
  go_loop [4, 11] (fun st si => ∃ (k : Nat) (t : Int), si = .int .i64 k ∧ k ≤ n ∧ st = .int .i64 t ∧ 0 ≤ t ∧ Hid (t + sumL (l.drop k) = sumL l)) (fun _ si => n - (RowKit.intOf si).toNat)
  case atStart => exact ⟨0, 0, rfl, by omega, rfl, by omega, Lib.hid (by rw [List.drop_zero]; omega)⟩
  case round =>
    obtain ⟨k, t, rfl, hk, rfl, ht, H⟩ := hrel
    by_cases hlt : k < n
    · have hkl : k < l.length := by rw [HL.out]; exact hlt
      obtain ⟨ad, rfl, _, c1⟩ := HA.out.get (vi_get hkl)
      have h1 := H.out
      rw [List.drop_eq_getElem_cons hkl, sumL_cons] at h1
      have h2 := HP.out _ (List.getElem_mem hkl)
      have h3 : 0 ≤ sumL (l.drop (k + 1)) := sumL_pos fun x hx => HP.out x (List.mem_of_mem_drop hx)
      have h4 := HS.out
      obtain ⟨z, hz⟩ : ∃ z, z = l[k] := ⟨_, rfl⟩
      rw [← hz] at c1 h1 h2
      have H2 := Lib.hid (show t + z + sumL (l.drop (k + 1)) = sumL l by omega)
      have C := Lib.hid (fun w => lenadd_yes t z ht (by omega) h2 (by omega) (by omega) w)
      have ht2 : 0 ≤ t + z := by omega
      clear hz h1 h2 h3 h4 H
      go_wp2_with fail
      (with_reducible refine (C.out _).mono ?_)
      rintro e w' ⟨rfl, rfl⟩
      go_wp2_with fail
      go_round
      case rel => exact ⟨k + 1, t + z, by go_num, by omega, rfl, ht2, H2⟩
      case measure => simp [RowKit.intOf]; omega
    · obtain rfl : k = n := by omega
      have E : Hid (sumL l = t) := Lib.hid (by rw [← H.out, List.drop_eq_nil_of_le (by rw [HL.out]; exact Nat.le_refl _)]; simp [sumL])
      clear H
      go_wp2_with fail
      go_ret2
      exact ⟨by rw [E.out]; rfl, rfl⟩
end Go.Proofs.Ytolhjkpekmmajaa
/- A slice of bytes cut at its front. -/
namespace Go.Proofs.Ytolhjkpekmmajaa
set_option linter.unusedVariables false
set_option linter.unusedSimpArgs false
open Go.RowKit Go.Lib
theorem u8_one : Try.prog.cellsOf 5 = 1 := by kernel_rfl
theorem row_drop {w : World} {A : Option Addr} {xs : List Value} (h : RowAt w A xs) (k : Nat) : RowAt w (A.map (·.add k)) (xs.drop k) := fun i u hu => by
  rw [List.getElem?_drop] at hu
  obtain ⟨a2, e, hc⟩ := h (k + i) u hu
  subst e
  exact ⟨_, rfl, by rw [add_add_]; exact hc⟩
theorem row_take {w : World} {A : Option Addr} {xs : List Value} (h : RowAt w A xs) (k : Nat) : RowAt w A (xs.take k) := fun i u hu => by
  rw [List.getElem?_take] at hu
  split at hu
  · exact h i u hu
  · cases hu
theorem cut_ex (xs : List Value) (A : Option Addr) (n c k : Nat) (x : Int) (hx : x = (k : Int)) (hk : k ≤ n) (hc : n ≤ c) (hl : xs.length = n) :
    ∃ A', (∀ w, (Instr.slice 100 (.slice A n c) (some (.int .i64 x)) none none).run Try.prog w = .ok (.slice A' (n - k) (c - k)) w) ∧ ∀ w, RowAt w A xs → RowAt w A' (xs.drop k) := by
  subst hx
  refine ⟨if c = k then A else A.map (·.add k), fun w => ?_, fun w h => ?_⟩
  · have := run_slice_l (P := Try.prog) (w := w) 100 A n c (by kernel_rfl) .i64 (k : Int) (by omega) (by omega)
    rw [this]
    have hs : (sizeOf (Try.prog.elem 100)).run Try.prog w = .ok 1 w := by kernel_rfl
    rw [hs]
    simp [Result.andThen, sliced]
  · by_cases e : c = k
    · have : xs.drop k = [] := List.drop_eq_nil_of_le (by omega)
      rw [this]; exact RowAt.nil _ _
    · rw [if_neg e]; exact row_drop h k
theorem cut_hi (A : Option Addr) (n c k : Nat) (x : Int) (hx : x = (k : Int)) (hk : k ≤ c) (w : World) :
    (Instr.slice 100 (.slice A n c) none (some (.int .i64 x)) none).run Try.prog w = .ok (.slice A k c) w := by
  subst hx
  have h2 : ¬ (c < k) := by omega
  simp [Instr.slice, sliced, h2, go_sem]
end Go.Proofs.Ytolhjkpekmmajaa
/- The walks of balance.text and balance.Text. -/
namespace Go.Proofs.Ytolhjkpekmmajaa
set_option linter.unusedVariables false
set_option linter.unusedSimpArgs false
open Go.RowKit Go.Lib Go.Maps
attribute [local go_sem ↓] Go.wp_at_zero Go.wp_at_succ
/-- a block that the store never touches -/
def Kp (w : World) (B S G k : Nat) : Prop := k ≠ S ∧ k ≠ G ∧ ∀ cs fr, w.heap[k]? = some (.cells cs 149 fr) → k < B
/-- a row that stays while the store grows -/
def RowK (w : World) (B S G : Nat) (A : Option Addr) (xs : List Value) : Prop := RowAt w A xs ∧ (xs ≠ [] → ∀ ad, A = some ad → Kp w B S G ad.block)
theorem RowK.nil (w : World) (B S G : Nat) (A : Option Addr) : RowK w B S G A [] := ⟨RowAt.nil _ _, fun h => absurd rfl h⟩
theorem RowK.sfr {w w' : World} {B S G : Nat} {A : Option Addr} {xs : List Value} (h : RowK w B S G A xs) (fr : SFr w w' B S G) : RowK w' B S G A xs := by
  by_cases hx : xs = []
  · subst hx; exact RowK.nil _ _ _ _ _
  · obtain ⟨x, xs, rfl⟩ := List.exists_cons_of_ne_nil hx
    obtain ⟨ad, hA, hl, _⟩ := h.1.get (k := 0) (u := x) rfl
    subst hA
    have k := h.2 hx ad rfl
    have hb := fr.keep ad.block hl k.1 k.2.1 k.2.2
    refine ⟨fun j u hu => ⟨ad, rfl, ?_⟩, fun _ ad2 e => ?_⟩
    · obtain ⟨ad2, e, hc⟩ := h.1 j u hu
      injection e with e; subst e
      exact (World.cell?_of_block (w := w) (by rw [block_add]; exact hb)).trans hc
    · injection e with e; subst e
      exact ⟨k.1, k.2.1, fun cs fr2 e => k.2.2 cs fr2 (by rw [← hb]; exact e)⟩
theorem RowK.drop {w : World} {B S G : Nat} {A : Option Addr} {xs : List Value} (h : RowK w B S G A xs) {A' : Option Addr} {k : Nat} (hA : RowAt w A xs → RowAt w A' (xs.drop k)) (he : ∀ a', A' = some a' → ∃ a, A = some a ∧ a'.block = a.block) : RowK w B S G A' (xs.drop k) := by
  refine ⟨hA h.1, fun hne ad e => ?_⟩
  have hx : xs ≠ [] := fun e => by rw [e] at hne; simp at hne
  obtain ⟨a, e1, e2⟩ := he ad e
  rw [e2]; exact h.2 hx a e1
theorem RowK.take {w : World} {B S G : Nat} {A : Option Addr} {xs : List Value} (h : RowK w B S G A xs) (k : Nat) : RowK w B S G A (xs.take k) :=
  ⟨row_take h.1 k, fun hne => h.2 fun e => by rw [e] at hne; simp at hne⟩
theorem cut_k (xs : List Value) (A : Option Addr) (n c k : Nat) (x : Int) (hx : x = (k : Int)) (hk : k ≤ n) (hc : n ≤ c) (hl : xs.length = n) :
    ∃ A', (∀ w, (Instr.slice 100 (.slice A n c) (some (.int .i64 x)) none none).run Try.prog w = .ok (.slice A' (n - k) (c - k)) w) ∧ (∀ w, RowAt w A xs → RowAt w A' (xs.drop k)) ∧ ∀ a', A' = some a' → ∃ a, A = some a ∧ a'.block = a.block := by
  subst hx
  refine ⟨if c = k then A else A.map (·.add k), fun w => ?_, fun w h => ?_, fun a' h => ?_⟩
  · have := run_slice_l (P := Try.prog) (w := w) 100 A n c (by kernel_rfl) .i64 (k : Int) (by omega) (by omega)
    rw [this]
    have hs : (sizeOf (Try.prog.elem 100)).run Try.prog w = .ok 1 w := by kernel_rfl
    rw [hs]
    simp [Result.andThen, sliced]
  · by_cases e : c = k
    · have : xs.drop k = [] := List.drop_eq_nil_of_le (by omega)
      rw [this]; exact RowAt.nil _ _
    · rw [if_neg e]; exact row_drop h k
  · by_cases e : c = k
    · rw [if_pos e] at h; exact ⟨a', h, rfl⟩
    · rw [if_neg e] at h
      cases A with
      | none => cases h
      | some a => simp at h; subst h; exact ⟨a, rfl, block_add _ _⟩
/-- the depth of a balanced text of n letters -/
def dpt (n : Nat) : Nat := if h : n ≤ 1 then 0 else 1 + max (dpt (n / 2)) (dpt (n - n / 2))
termination_by n
decreasing_by all_goals omega
theorem dpt_one {n : Nat} (h : n ≤ 1) : dpt n = 0 := by rw [dpt, dif_pos h]
theorem dpt_two {n : Nat} (h : 2 ≤ n) : dpt n = 1 + max (dpt (n / 2)) (dpt (n - n / 2)) := by rw [dpt, dif_neg (by omega)]
theorem dpt_step (n : Nat) : dpt n ≤ dpt (n + 1) ∧ dpt (n + 1) ≤ dpt n + 1 := by
  induction n using Nat.strongRecOn with
  | _ n ih =>
    by_cases h : n ≤ 1
    · rcases (show n = 0 ∨ n = 1 by omega) with rfl | rfl
      · rw [dpt_one (Nat.le_refl _), dpt_one (by omega)]; omega
      · rw [dpt_one (Nat.le_refl 1), dpt_two (n := 1 + 1) (by omega), show (1 + 1) / 2 = 1 by rfl, show 1 + 1 - 1 = 1 by rfl, dpt_one (Nat.le_refl 1)]; omega
    · rw [dpt_two (n := n) (by omega), dpt_two (n := n + 1) (by omega)]
      have h1 := ih (n / 2) (by omega)
      by_cases e : n % 2 = 0
      · rw [show (n + 1) / 2 = n / 2 by omega, show n - n / 2 = n / 2 by omega, show n + 1 - n / 2 = n / 2 + 1 by omega]; omega
      · rw [show (n + 1) / 2 = n / 2 + 1 by omega, show n - n / 2 = n / 2 + 1 by omega, show n + 1 - (n / 2 + 1) = n / 2 + 1 by omega]; omega
theorem dpt_half (n : Nat) : dpt (n / 2) ≤ dpt (n - n / 2) ∧ dpt (n - n / 2) ≤ dpt (n / 2) + 1 := by
  by_cases e : n % 2 = 0
  · rw [show n - n / 2 = n / 2 by omega]; omega
  · rw [show n - n / 2 = n / 2 + 1 by omega]; exact dpt_step _
theorem RowK.of_own {w : World} {B S G : Nat} {base : Nat} {e : TypeId} {size n c : Nat} {A : Option Addr} {xs : List Value} {L : List En} (h : w.ownsRow base e size (.slice A n c) n xs) (st : St w B S G L) (hB : B ≤ base) (ht : e ≠ 149) : RowK w B S G A xs := by
  have l := st.lt
  refine ⟨own_row _ h, fun _ ad e2 => ?_⟩
  subst e2
  rcases h.2 with ⟨hv, _⟩ | ⟨g, cap, cur, hv, hg, hc, _⟩
  · cases hv
  · injection hv with hv; injection hv with hv; subst hv
    refine ⟨by show g ≠ S; omega, by show g ≠ G; omega, fun cs fr e3 => ?_⟩
    rw [show w.heap[g]? = some (.cells cur e (0, 0)) from hc] at e3
    injection e3 with e3; injection e3 with _ e3
    exact absurd e3 ht
set_option maxRecDepth 100000 in
theorem btext_one (L : List En) (T : List (List Int)) (hg : Good L T) (b : Int) (hb : 0 ≤ b ∧ b ≤ 255) (c : Nat) (A : Option Addr) (hc : L.length < 1048576) (B S G : Nat) (w : World) (st : St w B S G L) (ha : RowAt w A (vb [b])) :
    Calls Try.prog 46 #[.pointer (some ⟨S, 0, none⟩), .slice A 1 c] w (IdOut B S G L T [b] 0 0 1 w) := by
  have HL := Lib.hid (sletter_any L T hg b hb.1 hb.2 hc B S G w st)
  obtain ⟨ad, rfl, _, c0⟩ := ha.get (k := 0) (u := .int .u8 b) rfl
  rw [show ad.add 0 = ad from rfl] at c0
  clear hg hb hc st ha
  go_enter Try.func46, Try.ntmps46
  go_wp2_with fail
  (with_reducible refine HL.out.mono ?_)
  rintro e w1 ⟨x, L1, T1, rfl, o⟩
  have HO := Lib.hid o
  clear o
  go_wp2_with fail
  go_ret2
  exact ⟨x, L1, T1, rfl, HO.out⟩
set_option maxRecDepth 100000 in
set_option maxHeartbeats 4000000 in
theorem btext_more (L : List En) (T : List (List Int)) (hg : Good L T) (b : List Int) (n c : Nat) (A : Option Addr) (hl : b.length = n) (h2 : 2 ≤ n) (hn : n ≤ 65536) (hnc : n ≤ c) (hc : L.length + 2 * n ≤ 1048576) (B S G : Nat) (w : World) (st : St w B S G L) (ha : RowK w B S G A (vb b))
    (HF : ∀ (L : List En) (T : List (List Int)), Good L T → ∀ (a : List Int) (m c : Nat) (A : Option Addr), a.length = m → 1 ≤ m → m < n → m ≤ c → (a = b.take m ∨ a = b.drop (n - m)) → L.length + 2 * m ≤ 1048576 → ∀ (w : World), St w B S G L → RowK w B S G A (vb a) → Calls Try.prog 46 #[.pointer (some ⟨S, 0, none⟩), .slice A m c] w (IdOut B S G L T a (dpt m) (dpt m) (2 * m - 1) w)) :
    Calls Try.prog 46 #[.pointer (some ⟨S, 0, none⟩), .slice A n c] w (IdOut B S G L T b (dpt n) (dpt n) (2 * n - 1) w) := by
  obtain ⟨h, hh⟩ : ∃ h, h = n / 2 := ⟨_, rfl⟩
  have e1 : (n : Int) / 2 = (h : Int) := by omega
  have dh := dpt_half n
  have dn := dpt_two h2
  rw [← hh] at dh dn
  have k1 := fun w => cut_hi A n c h _ e1 (by omega) w
  obtain ⟨A2, k2, r2, a2⟩ := cut_k (vb b) A n c h _ e1 (by omega) hnc (by rw [vb_len]; exact hl)
  have H1 : Hid (Calls Try.prog 46 #[.pointer (some ⟨S, 0, none⟩), .slice A h c] w (IdOut B S G L T (b.take h) (dpt h) (dpt h) (2 * h - 1) w)) := Lib.hid (by
    refine HF L T hg (b.take h) h c A (by rw [List.length_take]; omega) (by omega) (by omega) (by omega) (.inl rfl) (by omega) w st ?_
    have := ha.take h
    rwa [show (vb b).take h = vb (b.take h) by simp [vb]] at this)
  have H2 : Hid (∀ x L1 T1 w1, IdO B S G L T (b.take h) (dpt h) (dpt h) (2 * h - 1) w w1 x L1 T1 → Calls Try.prog 46 #[.pointer (some ⟨S, 0, none⟩), .slice A2 (n - h) (c - h)] w1 (IdOut B S G L1 T1 (b.drop h) (dpt (n - h)) (dpt (n - h)) (2 * (n - h) - 1) w1)) := Lib.hid fun x L1 T1 w1 o => by
    have := o.cnt
    refine HF L1 T1 o.good (b.drop h) (n - h) (c - h) A2 (by rw [List.length_drop]; omega) (by omega) (by omega) (by omega) (.inr (by rw [show n - (n - h) = h by omega])) (by omega) w1 o.st ?_
    have := (ha.sfr o.fr).drop (A' := A2) (k := h) (r2 w1) a2
    rwa [show (vb b).drop h = vb (b.drop h) by simp [vb]] at this
  have H3 : Hid (∀ x L1 T1 w1 y L2 T2 w2, IdO B S G L T (b.take h) (dpt h) (dpt h) (2 * h - 1) w w1 x L1 T1 → IdO B S G L1 T1 (b.drop h) (dpt (n - h)) (dpt (n - h)) (2 * (n - h) - 1) w1 w2 y L2 T2 →
      Calls Try.prog 63 #[.pointer (some ⟨S, 0, none⟩), .int .i64 x, .int .i64 y] w2 (IdOut B S G L T b (dpt n) (dpt n) (2 * n - 1) w)) := Lib.hid fun x L1 T1 w1 y L2 T2 w2 o1 o2 => by
    obtain ⟨e1, e2, e3⟩ := ido_old o2 o1.good (y := x) o1.x0 o1.x1
    have l1 := o1.lo; have l2 := o1.hi; have l3 := o1.cnt; have l6 := o1.tx
    have m1 := o2.lo; have m2 := o2.hi; have m3 := o2.cnt; have m5 := o2.x1; have m6 := o2.tx
    have x0 := o1.x_pos (fun e => by have h9 : (b.take h).length = 0 := (by rw [e]; rfl); rw [List.length_take] at h9; omega)
    have y0 := o2.x_pos (fun e => by have h9 : (b.drop h).length = 0 := (by rw [e]; rfl); rw [List.length_drop] at h9; omega)
    have tt : tx T2 x ++ tx T2 y = b := by rw [e2, l6, m6, List.take_append_drop]
    refine idout_after (spair_any L2 T2 o2.good x y x0 e3 y0 m5 (by rw [e1]; omega) (by rw [e1]; omega) (by rw [tt]; omega) (by omega) B S G w2 o2.st) (o1.after o2 (Nat.le_refl _)) tt (by rw [e1]; omega) (by rw [e1]; omega) (by omega)
  have t1 : ((n : Int) == 1) = false := by rw [beq_eq_false_iff_ne]; omega
  have t1b : (n == 1) = false := by rw [beq_eq_false_iff_ne]; omega
  clear hh e1 dh dn HF hg hl h2 hnc hc st ha r2 a2
  go_enter Try.func46, Try.ntmps46
  go_wp2_with fail
  (with_reducible refine H1.out.mono ?_)
  rintro e w1 ⟨x, L1, T1, rfl, o⟩
  have HO := Lib.hid o
  clear o
  go_wp2_with fail
  (with_reducible refine (H2.out _ _ _ _ HO.out).mono ?_)
  rintro e w2 ⟨y, L2, T2, rfl, o2⟩
  have HO2 := Lib.hid o2
  clear o2
  go_wp2_with fail
  (with_reducible refine (H3.out _ _ _ _ _ _ _ _ HO.out HO2.out).mono ?_)
  rintro e w3 ⟨z, L3, T3, rfl, o3⟩
  have HO3 := Lib.hid o3
  clear o3
  go_wp2_with fail
  go_ret2
  exact ⟨z, L3, T3, rfl, HO3.out⟩
theorem btext_any (k : Nat) : ∀ (L : List En) (T : List (List Int)) (hg : Good L T) (b : List Int) (n c : Nat) (A : Option Addr) (hl : b.length = n) (h1 : 1 ≤ n) (hk : n ≤ k) (hn : n ≤ 65536) (hnc : n ≤ c) (hb : U8s b) (hc : L.length + 2 * n ≤ 1048576) (B S G : Nat) (w : World) (st : St w B S G L) (ha : RowK w B S G A (vb b)),
    Calls Try.prog 46 #[.pointer (some ⟨S, 0, none⟩), .slice A n c] w (IdOut B S G L T b (dpt n) (dpt n) (2 * n - 1) w) := by
  induction k using Nat.strongRecOn with
  | _ k ih =>
    intro L T hg b n c A hl h1 hk hn hnc hb hc B S G w st ha
    by_cases h2 : n = 1
    · subst h2
      obtain ⟨x, rfl⟩ := List.length_eq_one_iff.1 hl
      rw [show ((dpt 1 : Nat) : Int) = 0 by rw [dpt_one (Nat.le_refl _)]; rfl]
      exact btext_one L T hg x (hb x (by simp)) c A (by omega) B S G w st ha.1
    · refine btext_more L T hg b n c A hl (by omega) hn hnc hc B S G w st ha fun L T hg a m c A hm m1 m2 m3 ho hc w st ha => ?_
      refine ih m (by omega) L T hg a m c A hm m1 (Nat.le_refl _) (by omega) m3 ?_ hc B S G w st ha
      rcases ho with rfl | rfl
      · exact hb.take _
      · exact hb.drop _
set_option maxRecDepth 100000 in
theorem bText_zero (L : List En) (T : List (List Int)) (hg : Good L T) (c : Nat) (A : Option Addr) (B S G : Nat) (w : World) (st : St w B S G L) :
    Calls Try.prog 30 #[.pointer (some ⟨S, 0, none⟩), .slice A 0 c] w (IdOut B S G L T [] 0 0 0 w) := by
  have HR : Hid (∀ w1, w = w1 → IdO B S G L T [] 0 0 0 w w1 0 L T) := Lib.hid fun w1 e => by
    subst e
    exact ⟨st, SFr.refl _ _ _ _, hg, Ext.refl _ _, by omega, by omega, by omega, tx_zero _, by rw [ent_zero]; exact Int.le_refl _, by rw [ent_zero]; exact Int.le_refl _⟩
  clear hg st
  go_enter Try.func30, Try.ntmps30
  go_wp2_with fail
  go_ret2
  exact ⟨_, L, T, rfl, HR.out _ rfl⟩
set_option maxRecDepth 100000 in
theorem bText_some (L : List En) (T : List (List Int)) (hg : Good L T) (b : List Int) (n c : Nat) (A : Option Addr) (hl : b.length = n) (h1 : 1 ≤ n) (hn : n ≤ 65536) (hnc : n ≤ c) (hb : U8s b) (hc : L.length + 2 * n ≤ 1048576) (B S G : Nat) (w : World) (st : St w B S G L) (ha : RowK w B S G A (vb b)) :
    Calls Try.prog 30 #[.pointer (some ⟨S, 0, none⟩), .slice A n c] w (IdOut B S G L T b (dpt n) (dpt n) (2 * n) w) := by
  have H1 := Lib.hid (idout_turn (btext_any n L T hg b n c A hl h1 (Nat.le_refl _) hn hnc hb hc B S G w st ha) rfl (Int.le_refl _) (Int.le_refl _) (show 2 * n - 1 ≤ 2 * n by omega))
  have t1 : ((n : Int) == 0) = false := by rw [beq_eq_false_iff_ne]; omega
  have t2 : decide ((65536 : Int) < (n : Int)) = false := by simp; omega
  have t2b : decide (65536 < n) = false := by simp; omega
  clear hg hl h1 hn hnc hb hc st ha
  go_enter Try.func30, Try.ntmps30
  go_wp2_with fail
  (with_reducible refine H1.out.mono ?_)
  rintro e w1 ⟨x, L1, T1, rfl, o⟩
  have HO := Lib.hid o
  clear o
  go_wp2_with fail
  go_ret2
  exact ⟨x, L1, T1, rfl, HO.out⟩
theorem bText_any (L : List En) (T : List (List Int)) (hg : Good L T) (b : List Int) (n c : Nat) (A : Option Addr) (hl : b.length = n) (hn : n ≤ 65536) (hnc : n ≤ c) (hb : U8s b) (hc : L.length + 2 * n ≤ 1048576) (B S G : Nat) (w : World) (st : St w B S G L) (ha : RowK w B S G A (vb b)) :
    Calls Try.prog 30 #[.pointer (some ⟨S, 0, none⟩), .slice A n c] w (IdOut B S G L T b (dpt n) (dpt n) (2 * n) w) := by
  by_cases h : n = 0
  · subst h
    have e := List.eq_nil_of_length_eq_zero hl
    subst e
    rw [show ((dpt 0 : Nat) : Int) = 0 by rw [dpt_one (by omega)]; rfl]
    exact bText_zero L T hg c A B S G w st
  · exact bText_some L T hg b n c A hl (by omega) hn hnc hb hc B S G w st ha
end Go.Proofs.Ytolhjkpekmmajaa
/- The walks of split's check, Section, Cut. Written by wip/gen/cut.py. -/
namespace Go.Proofs.Ytolhjkpekmmajaa
set_option linter.unusedVariables false
set_option linter.unusedSimpArgs false
open Go.RowKit Go.Lib Go.Maps
attribute [local go_sem ↓] Go.wp_at_zero Go.wp_at_succ
theorem made_one (z : Value) (hz : z.cells = #[z]) (n : Nat) : madeCells z.cells (n * 1) = (List.replicate n z).toArray := by
  rw [hz]
  refine Array.ext_getElem? fun i => ?_
  simp only [madeCells, Nat.mul_one, Array.getElem?_map]
  by_cases h : i < n
  · rw [Array.getElem?_eq_getElem (by simpa using h)]
    simp [h, Nat.mod_one]
  · rw [Array.getElem?_eq_none (by simp; omega)]
    simp [h]
theorem mk_ids0 (h : Nat) (hn : h ≤ 1000000) (c : Int) (hc : c = (h : Int)) (w : World) : (Instr.makeSlice 103 (.int .i64 0) (.int .i64 c)).run Try.prog w = .ok (.slice (some ⟨w.heap.size, 0, none⟩) 0 h) (w.alloc (.cells (vi (List.replicate h 0)).toArray 56)) := by
  obtain ⟨i0_, hi, hz0, hz1, hz2⟩ := info_parts5 info_id
  subst hc
  have h' := run_makeSlice (P := Try.prog) w 103 56 i0_ _ Try.underlying103 hi hz0 .i64 .i64 0 h (by omega) (by omega) (by rw [hz1]; omega) (by rw [hz2]; omega) (by omega)
  rw [h', hz1]
  have e := made_one (.int .i64 0) rfl h
  simp only [Int.toNat_natCast]
  rw [e]
  simp [vi]
theorem mk_ints0 (h : Nat) (hn : h ≤ 1000000) (c : Int) (hc : c = (h : Int)) (w : World) : (Instr.makeSlice 102 (.int .i64 0) (.int .i64 c)).run Try.prog w = .ok (.slice (some ⟨w.heap.size, 0, none⟩) 0 h) (w.alloc (.cells (vi (List.replicate h 0)).toArray 3)) := by
  obtain ⟨i0_, hi, hz0, hz1, hz2⟩ := info_parts5 info_int
  subst hc
  have h' := run_makeSlice (P := Try.prog) w 102 3 i0_ _ Try.underlying102 hi hz0 .i64 .i64 0 h (by omega) (by omega) (by rw [hz1]; omega) (by rw [hz2]; omega) (by omega)
  rw [h', hz1]
  have e := made_one (.int .i64 0) rfl h
  simp only [Int.toNat_natCast]
  rw [e]
  simp [vi]
theorem own_z (w : World) (h : Nat) (hn : h ≤ 1000000) (t : TypeId) : (w.alloc (.cells (vi (List.replicate h 0)).toArray t)).ownsRow w.heap.size t 1 (.slice (some ⟨w.heap.size, 0, none⟩) 0 h) 0 (vi []) :=
  ⟨by simp [vi], .inr ⟨w.heap.size, h, _, rfl, Nat.le_refl _, heap_alloc_new w _, Nat.zero_le _, by simp only [maxLen]; omega, by simp [vi], by simp [vi]⟩⟩
theorem own_low {w : World} {base base2 : Nat} {e : TypeId} {size n : Nat} {v : Value} {xs : List Value} (h : w.ownsRow base e size v n xs) (hb : base2 ≤ base) : w.ownsRow base2 e size v n xs := by
  refine ⟨h.1, ?_⟩
  rcases h.2 with h | ⟨g, cap, cur, hv, hg, hc, hr⟩
  · exact .inl h
  · exact .inr ⟨g, cap, cur, hv, by omega, hc, hr⟩
/-- the store as it is now, grown out of what it was by at most c rules -/
structure Now (B S G : Nat) (L : List En) (T : List (List Int)) (c : Nat) (w w' : World) (L' : List En) (T' : List (List Int)) : Prop where
  st : St w' B S G L'
  fr : SFr w w' B S G
  good : Good L' T'
  ext : Ext L T L' T'
  cnt : L'.length ≤ L.length + c
theorem Now.start {w : World} {B S G : Nat} {L : List En} {T : List (List Int)} (st : St w B S G L) (hg : Good L T) : Now B S G L T 0 w w L T := ⟨st, SFr.refl _ _ _ _, hg, Ext.refl _ _, by omega⟩
theorem Now.below {w w1 w2 : World} {B S G c : Nat} {L L1 : List En} {T T1 : List (List Int)} (h : Now B S G L T c w w1 L1 T1) (hb : Below w1.heap.size w1 w2) : Now B S G L T c w w2 L1 T1 := ⟨h.st.below hb, h.fr.below hb, h.good, h.ext, h.cnt⟩
theorem Now.alloc {w w1 : World} {B S G c : Nat} {L L1 : List En} {T T1 : List (List Int)} (h : Now B S G L T c w w1 L1 T1) (o : Obj) : Now B S G L T c w (w1.alloc o) L1 T1 := h.below (balloc (Below.refl _ _) _)
theorem Now.drew {w w1 : World} {B S G c : Nat} {L L1 : List En} {T T1 : List (List Int)} (h : Now B S G L T c w w1 L1 T1) : Now B S G L T c w w1.drew L1 T1 := h.below ⟨rfl, rfl, rfl, Nat.le_refl _, fun _ _ => rfl⟩
theorem Now.after {w w1 w2 : World} {B S G c d : Nat} {L L1 L2 : List En} {T T1 T2 : List (List Int)} (h : Now B S G L T c w w1 L1 T1) (k : Now B S G L1 T1 d w1 w2 L2 T2) {e : Nat} (he : c + d ≤ e) : Now B S G L T e w w2 L2 T2 :=
  ⟨k.st, h.fr.trans k.fr, k.good, h.ext.trans k.ext, by have := h.cnt; have := k.cnt; omega⟩
theorem Now.mono {w w1 : World} {B S G c e : Nat} {L L1 : List En} {T T1 : List (List Int)} (h : Now B S G L T c w w1 L1 T1) (he : c ≤ e) : Now B S G L T e w w1 L1 T1 := ⟨h.st, h.fr, h.good, h.ext, by have := h.cnt; omega⟩
theorem IdO.now {B S G : Nat} {L L2 : List En} {T T2 : List (List Int)} {t : List Int} {lo hi : Int} {c : Nat} {w w2 : World} {x : Int} (o : IdO B S G L T t lo hi c w w2 x L2 T2) : Now B S G L T c w w2 L2 T2 := ⟨o.st, o.fr, o.good, o.ext, o.cnt⟩
theorem Now.grown {w w1 w2 : World} {B S G c : Nat} {L L1 : List En} {T T1 : List (List Int)} (h : Now B S G L T c w w1 L1 T1) {base : Nat} {e : TypeId} {size n : Nat} {v : Value} {xs : List Value} (ow : w1.ownsRow base e size v n xs) (hB : B ≤ base) (hb : w.heap.size ≤ base) (ht : e ≠ 149) (gr : w1.grownBy w2 v.ownBlock) : Now B S G L T c w w2 L1 T1 :=
  ⟨h.st.grown ow hB ht gr, h.fr.grown gr (fun k hk => Nat.le_trans hb (own_ge ow k hk)), h.good, h.ext, h.cnt⟩
theorem IdO.from {B S G : Nat} {L L1 L2 : List En} {T T1 T2 : List (List Int)} {t : List Int} {lo hi : Int} {c c1 : Nat} {w w1 w2 : World} {x : Int}
    (h : Now B S G L T c1 w w1 L1 T1) (o2 : IdO B S G L1 T1 t lo hi c w1 w2 x L2 T2) {c2 : Nat} (hc : c1 + c ≤ c2) : IdO B S G L T t lo hi c2 w w2 x L2 T2 :=
  ⟨o2.st, h.fr.trans o2.fr, o2.good, h.ext.trans o2.ext, by have := h.cnt; have := o2.cnt; omega, o2.x0, o2.x1, o2.tx, o2.lo, o2.hi⟩
/-- IDs and their texts -/
structure Ids (L : List En) (T : List (List Int)) (ids : List Int) (ts : List (List Int)) : Prop where
  tx : ids.map (tx T) = ts
  ok : ∀ x ∈ ids, 0 ≤ x ∧ x ≤ L.length
theorem Ids.nil (L : List En) (T : List (List Int)) : Ids L T [] [] := ⟨rfl, fun x h => by simp at h⟩
theorem Ids.ext {L L' : List En} {T T' : List (List Int)} {ids : List Int} {ts : List (List Int)} (h : Ids L T ids ts) (hT : T.length = L.length) (k : Ext L T L' T') : Ids L' T' ids ts :=
  ⟨by rw [← h.tx]; exact List.map_congr_left fun x hx => k.tx hT (h.ok x hx).1 (h.ok x hx).2, fun x hx => ⟨(h.ok x hx).1, by have := (h.ok x hx).2; have := k.len; omega⟩⟩
theorem Ids.snoc {L : List En} {T : List (List Int)} {ids : List Int} {ts : List (List Int)} (h : Ids L T ids ts) {x : Int} {t : List Int} (h0 : 0 ≤ x) (h1 : x ≤ L.length) (e : Go.Proofs.Ytolhjkpekmmajaa.tx T x = t) : Ids L T (ids ++ [x]) (ts ++ [t]) :=
  ⟨by rw [List.map_append, h.tx]; simp [e], fun y hy => by
    rcases List.mem_append.1 hy with hy | hy
    · exact h.ok y hy
    · simp at hy; subst hy; exact ⟨h0, h1⟩⟩
theorem Ids.len {L : List En} {T : List (List Int)} {ids : List Int} {ts : List (List Int)} (h : Ids L T ids ts) : ids.length = ts.length := by rw [← h.tx, List.length_map]
set_option maxRecDepth 100000 in
theorem scheck_any (L : List En) (T : List (List Int)) (hg : Good L T) (x : Int) (h0 : 0 ≤ x) (h1 : x ≤ L.length) (B S G : Nat) (w : World) (st : St w B S G L) :
    Calls Try.prog 48 #[.pointer (some ⟨S, 0, none⟩), .int .i64 x] w fun r w' => r = .returned (.tuple #[.int .i64 (tx T x).length, .nilIface]) ∧ Below w.heap.size w w' := by
  have HB := Lib.hid (fun w st => balanced_any L T hg x h0 h1 B S G w st)
  have HZ := Lib.hid (fun w st => ssize_any L T hg x h0 h1 B S G w st)
  obtain ⟨q, hq⟩ : ∃ q, q = (tx T x).length := ⟨_, rfl⟩
  rw [← hq] at HZ ⊢
  have HST := Lib.hid st
  clear hg h0 h1 st hq
  go_enter Try.func48, Try.ntmps48
  go_wp2_with fail
  (with_reducible refine (HB.out _ HST.out).mono ?_)
  rintro e w1 ⟨rfl, B1⟩
  have HB1 := Lib.hid B1; have HS1 := Lib.hid (HST.out.below B1)
  clear B1
  go_wp2_with fail
  (with_reducible refine (HZ.out _ HS1.out).mono ?_)
  rintro e w2 ⟨rfl, B2⟩
  have HB2 := Lib.hid (bkeep HB1.out B2)
  clear B2
  go_wp2_with fail
  go_ret2
  exact ⟨rfl, HB2.out⟩
theorem range_yes (f n t : Int) (f0 : 0 ≤ f) (n0 : 0 ≤ n) (h : f + n ≤ t) (ht : t ≤ 1152921504606846976) (w : World) : Calls Try.prog 55 #[.int .i64 f, .int .i64 n, .int .i64 t] w fun r w' => r = .returned .nilIface ∧ w = w' := by
  have v := valid_any t
  rw [vld_yes t (by omega) ht] at v
  have t1 : decide (f < 0) = false := by simp; omega
  have t2 : decide (n < 0) = false := by simp; omega
  have t3 : decide (t < f) = false := by simp; omega
  have t4 : decide (t - f < n) = false := by simp; omega
  go_enter Try.func55, Try.ntmps55
  go_wp2_with fail
  (with_reducible refine (v _).mono ?_)
  rintro e w' ⟨rfl, rfl⟩
  go_wp2_with fail
  go_ret
  exact ⟨rfl, rfl⟩
set_option maxRecDepth 100000 in
theorem sSection_any (k : Nat) (L : List En) (T : List (List Int)) (hg : Good L T) (x : Int) (x0 : 0 ≤ x) (x1 : x ≤ L.length) (hk : (ent L x).dp ≤ k) (f n : Nat) (hn : f + n ≤ (tx T x).length) (hc : L.length + sc_ k ≤ 1048576) (B S G : Nat) (w : World) (st : St w B S G L) :
    Calls Try.prog 60 #[.pointer (some ⟨S, 0, none⟩), .int .i64 x, .int .i64 f, .int .i64 n] w (IdOut B S G L T (((tx T x).drop f).take n) 0 (2 * k) (sc_ k) w) := by
  have HC := Lib.hid (fun w st => scheck_any L T hg x x0 x1 B S G w st)
  have xn := (hg.any x0 x1).n2
  have HR := Lib.hid (fun w => range_yes f n (tx T x).length (by omega) (by omega) (by omega) (by omega) w)
  have HP : Hid (∀ w1, Below w.heap.size w w1 → St w1 B S G L → Calls Try.prog 49 #[.pointer (some ⟨S, 0, none⟩), .int .i64 x, .int .i64 f, .int .i64 n] w1 (IdOut B S G L T (((tx T x).drop f).take n) 0 (2 * k) (sc_ k) w)) := Lib.hid fun w1 hb st1 =>
    idout_pre (section_any k L T hg x x0 x1 hk f n hn hc B S G w1 st1) hb
  obtain ⟨q, hq⟩ : ∃ q, q = (tx T x).length := ⟨_, rfl⟩
  rw [← hq] at HC HR
  have HST := Lib.hid st
  clear hg x0 x1 st hq hk hn hc xn
  go_enter Try.func60, Try.ntmps60
  go_wp2_with fail
  (with_reducible refine (HC.out _ HST.out).mono ?_)
  rintro e w1 ⟨rfl, B1⟩
  have HB1 := Lib.hid B1; have HS1 := Lib.hid (HST.out.below B1)
  clear B1
  go_wp2_with fail
  (with_reducible refine (HR.out _).mono ?_)
  rintro e w' ⟨rfl, rfl⟩
  go_wp2_with fail
  (with_reducible refine (HP.out _ HB1.out HS1.out).mono ?_)
  rintro e w2 ⟨y, L2, T2, rfl, o2⟩
  have HO2 := Lib.hid o2
  clear o2
  go_wp2_with fail
  go_ret2
  exact ⟨y, L2, T2, rfl, HO2.out⟩
/-- place i of the cuts, the text's beginning ahead of them -/
def cz (ats : List Nat) (i : Nat) : Nat := (0 :: ats).getD i 0
/-- the end of part i -/
def ce (ats : List Nat) (q i : Nat) : Nat := if i < ats.length then cz ats (i + 1) else q
/-- part i -/
def pc (t : List Int) (ats : List Nat) (i : Nat) : List Int := (t.drop (cz ats i)).take (ce ats t.length i - cz ats i)
/-- the parts -/
def pcs (t : List Int) (ats : List Nat) (i : Nat) : List (List Int) := (List.range i).map (pc t ats)
theorem pcs_succ (t : List Int) (ats : List Nat) (i : Nat) : pcs t ats (i + 1) = pcs t ats i ++ [pc t ats i] := by simp [pcs, List.range_succ]
def CutOut (B S G : Nat) (L : List En) (T : List (List Int)) (ts : List (List Int)) (c : Nat) (w : World) (e : Ending) (w' : World) : Prop :=
  ∃ A c1 ids L' T', e = .returned (.tuple #[.slice A ts.length c1, .nilIface]) ∧ Now B S G L T c w w' L' T' ∧ Ids L' T' ids ts ∧ w'.ownsRow w.heap.size 56 1 (.slice A ts.length c1) ts.length (vi ids)
set_option maxRecDepth 100000 in
set_option maxHeartbeats 16000000 in
theorem sCut_any (k : Nat) (L : List En) (T : List (List Int)) (hg : Good L T) (x : Int) (x0 : 0 ≤ x) (x1 : x ≤ L.length) (hk : (ent L x).dp ≤ k) (ats : List Nat) (m c0 : Nat) (A0 : Option Addr) (hm : ats.length = m) (hm1 : m ≤ 100000)
    (hs : ∀ i, i < m → cz ats i ≤ cz ats (i + 1) ∧ cz ats (i + 1) ≤ (tx T x).length) (hc : L.length + (m + 1) * sc_ k ≤ 1048576) (B S G : Nat) (w : World) (st : St w B S G L) (ha : RowK w B S G A0 (vi (ats.map Int.ofNat))) :
    Calls Try.prog 32 #[.pointer (some ⟨S, 0, none⟩), .int .i64 x, .slice A0 m c0] w (CutOut B S G L T (pcs (tx T x) ats (m + 1)) ((m + 1) * sc_ k) w) := by
  obtain ⟨i0_, hi, hz0, hz1, hz2⟩ := info_parts5 info_id
  have HI := Lib.hid hi; have HZ := Lib.hid hz0; have HZ1 := Lib.hid hz1; have HZ2 := Lib.hid hz2
  have HC := Lib.hid (fun w st => scheck_any L T hg x x0 x1 B S G w st)
  have HN := Lib.hid (hg.any x0 x1).n2
  obtain ⟨t, ht⟩ : ∃ t, t = tx T x := ⟨_, rfl⟩
  obtain ⟨q, hq⟩ : ∃ q, q = t.length := ⟨_, rfl⟩
  rw [← ht] at HC HN hs ⊢
  rw [← hq] at HC HN hs
  have qn := HN.out
  have q0 : (0 : Int) ≤ q := by omega
  have HSC : Hid (∀ (c1 : Nat) L1 T1 w1 wb (i : Nat) (n : Int), Now B S G L T c1 w w1 L1 T1 → i ≤ m → c1 + sc_ k ≤ (m + 1) * sc_ k → n = ((ce ats q i - cz ats i : Nat) : Int) → Below w1.heap.size w1 wb →
      Calls Try.prog 49 #[.pointer (some ⟨S, 0, none⟩), .int .i64 x, .int .i64 (cz ats i), .int .i64 n] wb (IdOut B S G L1 T1 (pc t ats i) 0 (2 * k) (sc_ k) wb)) := Lib.hid fun c1 L1 T1 w1 wb i n nw hi hc1 hn hb => by
    have e := nw.ext.ent x0 x1
    have e2 := nw.ext.tx hg.len x0 x1
    have l := nw.ext.len
    have l2 := nw.cnt
    subst hn
    have := section_any k L1 T1 nw.good x x0 (by omega) (by rw [e]; exact hk) (cz ats i) (ce ats q i - cz ats i) (by
      rw [e2, ← ht, ← hq]
      unfold ce
      by_cases h : i < m
      · rw [if_pos (by omega)]; have := hs i h; omega
      · rw [if_neg (by omega)]
        have : cz ats i ≤ q := by
          by_cases h0 : i = 0
          · subst h0; show 0 ≤ q; omega
          · obtain ⟨j, rfl⟩ : ∃ j, i = j + 1 := ⟨i - 1, by omega⟩
            exact (hs j (by omega)).2
        omega) (by omega) B S G wb (nw.st.below hb)
    rw [e2, ← ht] at this
    unfold pc
    rw [← hq]
    exact this
  have HCZ : Hid (∀ i, i < m → ((vi (ats.map Int.ofNat))[i]? = some (.int .i64 (cz ats (i + 1))) ∧ cz ats i ≤ cz ats (i + 1) ∧ cz ats (i + 1) ≤ q)) := Lib.hid fun i h => by
    refine ⟨?_, (hs i h).1, (hs i h).2⟩
    unfold cz
    simp [vi, hm, h]
  have HCE : Hid (∀ i, i ≤ m → cz ats i ≤ q) := Lib.hid fun i h => by
    by_cases h0 : i = 0
    · subst h0; show 0 ≤ q; omega
    · obtain ⟨j, rfl⟩ : ∃ j, i = j + 1 := ⟨i - 1, by omega⟩
      exact (hs j (by omega)).2
  have HST := Lib.hid st; have HG := Lib.hid hg; have HA := Lib.hid ha; have HM := Lib.hid hm; have HQ := Lib.hid hq
  have bB := st.lt.2.2
  clear hi hz0 hz1 hz2 hg x0 x1 hk hs hc st ha ht hm hq
  go_enter Try.func32, Try.ntmps32
  go_wp2_with fail
  (with_reducible refine (HC.out _ HST.out).mono ?_)
  rintro e w1 ⟨rfl, B1⟩
  have NW1 := Lib.hid ((Now.start HST.out HG.out).below B1)
  clear B1
  go_wp2_with fail
  go_loop [10, 12, 30] (fun s10 _ si => ∃ i : Nat, si = .int .i64 (i : Int) ∧ i ≤ m ∧ s10 = .int .i64 (cz ats i)) (fun _ _ si => m - (intOf si).toNat)
  case atStart => exact ⟨0, rfl, by omega, rfl⟩
  case round =>
    obtain ⟨i, rfl, hi, rfl⟩ := hrel
    by_cases hlt : i < m
    · obtain ⟨z1, z2, z3⟩ := HCZ.out i hlt
      obtain ⟨ad, rfl, adl, c1⟩ := (HA.out.sfr NW1.out.fr).1.get z1
      obtain ⟨u, hu⟩ : ∃ u, u = cz ats i := ⟨_, rfl⟩
      obtain ⟨v, hv⟩ : ∃ v, v = cz ats (i + 1) := ⟨_, rfl⟩
      rw [← hv] at c1 z2 z3
      rw [← hu] at z2 ⊢
      have t1 : decide ((v : Int) < (u : Int)) = false := by simp; omega
      have t1b : decide (v < u) = false := by simp; omega
      have t2 : decide ((q : Int) < (v : Int)) = false := by simp; omega
      have t2b : decide (q < v) = false := by simp; omega
      have HV := Lib.hid hv
      clear hu hv z1 z2 z3
      go_wp2_with fail
      go_round
      case rel => exact ⟨i + 1, by go_num, by omega, by rw [HV.out]⟩
      case measure => simp [intOf] <;> omega
    · obtain rfl : i = m := by omega
      have mk := fun w => mk_ids0 (i + 1) (by omega) ((i : Int) + 1) (by omega) w
      go_wp2_with fail
      clear mk
      have NW2 := Lib.hid (NW1.out.alloc (.cells (vi (List.replicate (i + 1) 0)).toArray 56))
      have OW2 : Hid ((w1.alloc (.cells (vi (List.replicate (i + 1) 0)).toArray 56)).ownsRow w.heap.size 56 1 (.slice (some ⟨w1.heap.size, 0, none⟩) 0 (i + 1)) 0 (vi [])) := Lib.hid (own_low (own_z w1 (i + 1) (by omega) _) NW1.out.fr.size)
      go_loopw [13, 14, 15, 16, 17, 18] (fun s13 s14 s15 _ _ _ wr => ∃ (j c1 : Nat) (A1 : Option Addr) (ids : List Int) (L1 : List En) (T1 : List (List Int)) (f : Nat), s15 = .int .i64 (j : Int) ∧ j ≤ i + 1 ∧ s13 = .slice A1 j c1 ∧ s14 = .int .i64 (f : Int) ∧ Hid (j ≤ i → f = cz ats j) ∧ Hid (Ids L1 T1 ids (pcs t ats j)) ∧ Hid (Now B S G L T (j * sc_ k) w wr L1 T1) ∧ Hid (wr.ownsRow w.heap.size 56 1 (.slice A1 j c1) j (vi ids))) (fun _ _ s15 _ _ _ _ => i + 1 - (intOf s15).toNat)
      case atStart => exact ⟨0, _, _, [], L, T, cz ats 0, rfl, by omega, rfl, rfl, Lib.hid (fun _ => rfl), Lib.hid (Ids.nil _ _), Lib.hid (NW2.out.mono (by omega)), OW2⟩
      case round =>
        clear NW2 OW2 NW1
        obtain ⟨j, c1, A1, ids, L1, T1, f, rfl, hj, rfl, rfl, HF, HD, NW, OW⟩ := hrel
        by_cases hlt2 : j < i + 1
        · have hc1 : j * sc_ k + sc_ k ≤ (i + 1) * sc_ k := by rw [← Nat.succ_mul]; exact Nat.mul_le_mul_right _ hlt2
          have HB := Lib.hid bB
          have NB : Hid (j * sc_ k + sc_ k ≤ (j + 1) * sc_ k) := Lib.hid (by rw [Nat.add_mul, Nat.one_mul]; exact Nat.le_refl _)
          have hjq := HCE.out j (by omega)
          have hf := HF.out (by omega)
          subst hf
          obtain ⟨u, hu⟩ : ∃ u, u = cz ats j := ⟨_, rfl⟩
          by_cases hlt3 : j < i
          · obtain ⟨z1, z2, z3⟩ := HCZ.out j hlt3
            obtain ⟨ad, rfl, adl, d1⟩ := (HA.out.sfr NW.out.fr).1.get z1
            obtain ⟨v, hv⟩ : ∃ v, v = cz ats (j + 1) := ⟨_, rfl⟩
            rw [← hv] at d1 z2 z3
            have HS2 : Hid (∀ wb, Below wr.heap.size wr wb → Calls Try.prog 49 #[.pointer (some ⟨S, 0, none⟩), .int .i64 x, .int .i64 u, .int .i64 ((v : Int) - u)] wb (IdOut B S G L1 T1 (pc t ats j) 0 (2 * k) (sc_ k) wb)) := Lib.hid fun wb hb => by
              rw [hu]
              refine HSC.out _ L1 T1 wr wb j _ NW.out (by omega) (by omega) ?_ hb
              unfold ce
              rw [if_pos (by rw [HM.out]; omega), ← hv]; omega
            rw [← hu] at z2 ⊢
            have t1 : decide ((j : Int) ≤ (i : Int)) = true := by simp; omega
            have t1b : decide (j ≤ i) = true := by simp; omega
            have t2 : decide ((j : Int) < (i : Int)) = true := by simp; omega
            have t2b : decide (j < i) = true := by simp; omega
            have b1 : (u : Int) ≤ (v : Int) := by omega
            have b2 : (v : Int) ≤ 1152921504606846976 := by omega
            have HV := Lib.hid hv
            clear hu hv z1 z2 z3 hc1 hjq bB
            go_wp2_with fail
            (with_reducible refine (HS2.out _ (Below.refl _ _)).mono ?_)
            rintro e w4 ⟨y, L2, T2, rfl, o2⟩
            have OW4 := Lib.hid (own_alloc (own_sfr OW.out o2.fr NW.out.st (by have := HB.out; omega) (by decide)) (.cells #[.int .i64 y] 56))
            have HD4 := Lib.hid ((HD.out.ext NW.out.good.len o2.ext).snoc o2.x0 o2.x1 o2.tx)
            rw [← pcs_succ] at HD4
            have NW4 := Lib.hid ((NW.out.after o2.now NB.out).alloc (.cells #[.int .i64 y] 56))
            clear o2
            go_wp2_with (refine wpList_app _ (by rfl) (.tmp 77) (.tmp 79) _ rfl w.heap.size 56 i0_ _ 1 8 Try.underlying103 HI.out HZ.out HZ1.out HZ2.out rfl (by omega) (.slice A1 j c1) j (vi ids) rfl OW4.out (some ⟨w4.heap.size, 0, none⟩) 1 1 (vi [y]) rfl rfl ?row (vi_one _) (by simp only [maxLen]; omega) (by omega) ?size ?_)
            case row => exact RowAt.of_block (heap_alloc_new w4 _)
            case size => exact NW4.out.fr.size
            intro A5 c5 w5 own5 gr5 at5
            have NW5 := Lib.hid (NW4.out.grown OW4.out HB.out (Nat.le_refl _) (by decide) gr5)
            rw [← vi_app] at own5
            have OW5 := Lib.hid own5
            clear own5 gr5 at5 NW4 OW4
            go_wp2_with fail
            go_roundw
            case rel => exact ⟨j + 1, c5, A5, ids ++ [y], L2, T2, v, by go_num, by omega, rfl, rfl, Lib.hid (fun _ => HV.out), HD4, NW5, OW5⟩
            case measure => simp [intOf] <;> omega
          · obtain rfl : j = i := by omega
            have hv : q = ce ats q j := by unfold ce; rw [if_neg (by rw [HM.out]; omega)]
            have HS2 : Hid (∀ wb, Below wr.heap.size wr wb → Calls Try.prog 49 #[.pointer (some ⟨S, 0, none⟩), .int .i64 x, .int .i64 u, .int .i64 ((q : Int) - u)] wb (IdOut B S G L1 T1 (pc t ats j) 0 (2 * k) (sc_ k) wb)) := Lib.hid fun wb hb => by
              rw [hu]
              refine HSC.out _ L1 T1 wr wb j _ NW.out (by omega) (by omega) ?_ hb
              rw [← hv]; omega
            rw [← hu] at hjq ⊢
            have b1 : (u : Int) ≤ (q : Int) := by omega
            have b2 : (q : Int) ≤ 1152921504606846976 := by omega
            clear hu hv hc1 hjq bB
            go_wp2_with fail
            (with_reducible refine (HS2.out _ (Below.refl _ _)).mono ?_)
            rintro e w4 ⟨y, L2, T2, rfl, o2⟩
            have OW4 := Lib.hid (own_alloc (own_sfr OW.out o2.fr NW.out.st (by have := HB.out; omega) (by decide)) (.cells #[.int .i64 y] 56))
            have HD4 := Lib.hid ((HD.out.ext NW.out.good.len o2.ext).snoc o2.x0 o2.x1 o2.tx)
            rw [← pcs_succ] at HD4
            have NW4 := Lib.hid ((NW.out.after o2.now NB.out).alloc (.cells #[.int .i64 y] 56))
            clear o2
            go_wp2_with (refine wpList_app _ (by rfl) (.tmp 77) (.tmp 79) _ rfl w.heap.size 56 i0_ _ 1 8 Try.underlying103 HI.out HZ.out HZ1.out HZ2.out rfl (by omega) (.slice A1 j c1) j (vi ids) rfl OW4.out (some ⟨w4.heap.size, 0, none⟩) 1 1 (vi [y]) rfl rfl ?row (vi_one _) (by simp only [maxLen]; omega) (by omega) ?size ?_)
            case row => exact RowAt.of_block (heap_alloc_new w4 _)
            case size => exact NW4.out.fr.size
            intro A5 c5 w5 own5 gr5 at5
            have NW5 := Lib.hid (NW4.out.grown OW4.out HB.out (Nat.le_refl _) (by decide) gr5)
            rw [← vi_app] at own5
            have OW5 := Lib.hid own5
            clear own5 gr5 at5 NW4 OW4
            go_wp2_with fail
            go_roundw
            case rel => exact ⟨j + 1, c5, A5, ids ++ [y], L2, T2, q, by go_num, by omega, rfl, rfl, Lib.hid (fun h => by omega), HD4, NW5, OW5⟩
            case measure => simp [intOf] <;> omega
        · obtain rfl : j = i + 1 := by omega
          have t1 : decide (((i + 1 : Nat) : Int) ≤ (i : Int)) = false := by rw [decide_eq_false_iff_not]; omega
          have t1b : decide (i + 1 ≤ i) = false := by simp
          go_wp2_with fail
          go_ret2
          have e : (pcs t ats (i + 1)).length = i + 1 := by simp [pcs]
          exact ⟨A1, c1, ids, L1, T1, by rw [e]; rfl, NW.out, HD.out, by rw [e]; exact OW.out⟩
end Go.Proofs.Ytolhjkpekmmajaa
/- The walk of balance.Concat. -/
namespace Go.Proofs.Ytolhjkpekmmajaa
set_option linter.unusedVariables false
set_option linter.unusedSimpArgs false
open Go.RowKit Go.Lib Go.Maps
attribute [local go_sem ↓] Go.wp_at_zero Go.wp_at_succ
def lensOf (ts : List (List Int)) : List Int := ts.map fun t => (t.length : Int)
theorem lensOf_sum (ts : List (List Int)) : sumL (lensOf ts) = (ts.flatten.length : Int) := by
  induction ts with
  | nil => rfl
  | cons t ts ih => show sumL ((t.length : Int) :: lensOf ts) = _; rw [sumL_cons, ih]; simp
theorem lensOf_pos (ts : List (List Int)) : ∀ x ∈ lensOf ts, 0 ≤ x := by
  intro x hx
  simp only [lensOf, List.mem_map] at hx
  obtain ⟨t, _, rfl⟩ := hx
  omega
/-- how many rules Concat makes at most -/
def cc_ (n d : Nat) : Nat := n * (6 * d + 3 * n + 1)
set_option maxRecDepth 100000 in
set_option maxHeartbeats 16000000 in
theorem concat_any (d : Nat) (L : List En) (T : List (List Int)) (hg : Good L T) (ids : List Int) (ts : List (List Int)) (hi : Ids L T ids ts) (n c : Nat) (A : Option Addr) (hl : ids.length = n) (hn : n ≤ 100000) (hd : ∀ x ∈ ids, (ent L x).dp ≤ d)
    (ht : ts.flatten.length ≤ 1152921504606846976) (hc : L.length + cc_ n d ≤ 1048576) (B S G : Nat) (w : World) (st : St w B S G L) (ha : RowK w B S G A (vi ids)) :
    Calls Try.prog 33 #[.pointer (some ⟨S, 0, none⟩), .slice A n c] w (IdOut B S G L T ts.flatten 0 (d + n) (cc_ n d) w) := by
  obtain ⟨i0_, hi0, hz0, hz1, hz2⟩ := info_parts5 info_int
  have HI := Lib.hid hi0; have HZ := Lib.hid hz0; have HZ1 := Lib.hid hz1; have HZ2 := Lib.hid hz2
  have htl : ts.length = n := by rw [← hi.len]; exact hl
  have HE : Hid (∀ i (h : i < n), ∃ y t, ids[i]? = some y ∧ ts[i]? = some t ∧ 0 ≤ y ∧ y ≤ L.length ∧ tx T y = t ∧ (vi ids)[i]? = some (.int .i64 y) ∧ (ent L y).dp ≤ d) := Lib.hid fun i h => by
    have h1 : i < ids.length := by omega
    have h2 : i < ts.length := by omega
    have hm := List.getElem_mem h1
    refine ⟨ids[i], ts[i], List.getElem?_eq_getElem h1, List.getElem?_eq_getElem h2, (hi.ok _ hm).1, (hi.ok _ hm).2, ?_, vi_get h1, hd _ hm⟩
    have e : (ids.map (tx T))[i]? = ts[i]? := by rw [hi.tx]
    rw [List.getElem?_map, List.getElem?_eq_getElem h1, List.getElem?_eq_getElem h2] at e
    exact Option.some.inj e
  have HSu := Lib.hid (fun (A : Option Addr) (c : Nat) w (h : RowAt w A (vi (lensOf ts))) => lensum_ok (lensOf ts) n c A (by simp [lensOf, htl]) (by omega) (lensOf_pos ts) (by rw [lensOf_sum]; omega) w h)
  have HJ : Hid (∀ (i : Nat) (h : i < n) y t (_ : ids[i]? = some y) (_ : ts[i]? = some t) L1 T1 (r : Int) w1, Now B S G L T (i * (6 * d + 3 * n + 1)) w w1 L1 T1 → 0 ≤ r → r ≤ L1.length → tx T1 r = (ts.take i).flatten → (ent L1 r).dp ≤ d + i →
      Calls Try.prog 52 #[.pointer (some ⟨S, 0, none⟩), .int .i64 r, .int .i64 y] w1 (IdOut B S G L1 T1 (ts.take (i + 1)).flatten 0 (d + (i + 1 : Nat)) (6 * d + 3 * n + 1) w1)) := Lib.hid fun i h y t hy hts L1 T1 r w1 nw r0 r1 rt rd => by
    have hm := List.mem_of_getElem? hy
    have y0 := (hi.ok _ hm).1
    have y1 := (hi.ok _ hm).2
    have e1 := nw.ext.ent y0 y1
    have e2 := nw.ext.tx hg.len y0 y1
    have l := nw.ext.len
    have l2 := nw.cnt
    have ed := hd _ hm
    have d0 := (hg.any y0 y1).d0
    have et : tx T y = t := by
      have e : (ids.map (tx T))[i]? = ts[i]? := by rw [hi.tx]
      rw [List.getElem?_map, hy, hts] at e
      exact Option.some.inj e
    have tt : tx T1 r ++ tx T1 y = (ts.take (i + 1)).flatten := by
      rw [e2, et, rt, List.take_add_one, hts]; simp
    have hsub : (ts.take (i + 1)).flatten.length ≤ ts.flatten.length := by
      have e3 : ts.flatten = (ts.take (i + 1)).flatten ++ (ts.drop (i + 1)).flatten := by rw [← List.flatten_append, List.take_append_drop]
      rw [e3, List.length_append]; omega
    have hcc : i * (6 * d + 3 * n + 1) + (6 * d + 3 * n + 1) ≤ cc_ n d := by
      unfold cc_; rw [← Nat.succ_mul]; exact Nat.mul_le_mul_right _ h
    exact idout_turn (aJoin_any (2 * d + i) L1 T1 nw.good r y r0 r1 y0 (by omega) (by rw [tt]; omega) (by rw [e1]; omega) (by omega) B S G w1 nw.st) tt (by rw [e1]; omega) (by rw [e1]; omega) (by omega)
  have HST := Lib.hid st; have HG := Lib.hid hg; have HA := Lib.hid ha; have HN := Lib.hid htl
  have bB := st.lt.2.2
  clear hi0 hz0 hz1 hz2 hg hi hl hd ht hc st ha htl
  have mk := fun w => mk_ints0 n (by omega) (n : Int) rfl w
  go_enter Try.func33, Try.ntmps33
  go_wp2_with fail
  clear mk
  have BW1 := Lib.hid (balloc (Below.refl w.heap.size w) (.cells (vi (List.replicate n 0)).toArray 3))
  have OW1 := Lib.hid (own_z w n (by omega) 3)
  go_loopw [6, 8, 9, 10, 11, 27] (fun s6 _ _ _ _ si wr => ∃ (i c1 : Nat) (A1 : Option Addr), si = .int .i64 (i : Int) ∧ i ≤ n ∧ s6 = .slice A1 i c1 ∧ Hid (Below w.heap.size w wr) ∧ Hid (wr.ownsRow w.heap.size 3 1 (.slice A1 i c1) i (vi (lensOf (ts.take i))))) (fun _ _ _ _ _ si _ => n - (intOf si).toNat)
  case atStart => exact ⟨0, n, _, rfl, by omega, rfl, BW1, OW1⟩
  case round =>
    clear BW1 OW1
    obtain ⟨i, c1, A1, rfl, hi, rfl, BW, OW⟩ := hrel
    by_cases hlt : i < n
    · obtain ⟨y, t, hy, hts, y0, y1, et, hv, ed⟩ := HE.out i hlt
      obtain ⟨ad, rfl, adl, d1⟩ := (HA.out.1.below BW.out (Nat.le_refl _)).get hv
      have HB := Lib.hid (fun w st => balanced_any L T HG.out y y0 y1 B S G w st)
      have HW := Lib.hid (fun w st => weight_any L y y0 y1 HG.out.cap B S G w st)
      have e : (ent L y).w.n = (t.length : Int) := by rw [(HG.out.any y0 y1).w, et]; rfl
      obtain ⟨u, hu⟩ : ∃ u, u = (ent L y).w := ⟨_, rfl⟩
      rw [← hu] at HW e
      obtain ⟨u0, u1, u2, u3, u4, u5⟩ := u
      simp only at e
      have HW' : Hid (∀ w, St w B S G L → Calls Try.prog 34 #[.pointer (some ⟨S, 0, none⟩), .int .i64 y] w fun r w' => r = .returned (.tuple #[.agg #[.int .i64 u0, .int .i64 u1, .int .i64 u2, .int .i64 u3, .int .u64 u4, .int .u64 u5], .nilIface]) ∧ Below w.heap.size w w') := HW
      have HS := Lib.hid (HST.out.below BW.out)
      have HL : Hid (lensOf (ts.take i) ++ [u0] = lensOf (ts.take (i + 1))) := Lib.hid (by rw [List.take_add_one, hts, e]; simp [lensOf])
      clear hy hts y0 y1 et hv ed e hu HW
      go_wp2_with fail
      (with_reducible refine (HB.out _ HS.out).mono ?_)
      rintro e w1 ⟨rfl, B1⟩
      have HB1 := Lib.hid (bkeep BW.out B1); have HS1 := Lib.hid (HS.out.below B1); have OW1 := Lib.hid (own_below OW.out B1)
      clear B1
      go_wp2_with fail
      (with_reducible refine (HW'.out _ HS1.out).mono ?_)
      rintro e w2 ⟨rfl, B2⟩
      have HB2 := Lib.hid (balloc (balloc (bkeep HB1.out B2) (.cells #[.int .i64 u0, .int .i64 u1, .int .i64 u2, .int .i64 u3, .int .u64 u4, .int .u64 u5] 110)) (.cells #[.int .i64 u0] 3))
      have OW2 := Lib.hid (own_alloc (own_alloc (own_below OW1.out B2) (.cells #[.int .i64 u0, .int .i64 u1, .int .i64 u2, .int .i64 u3, .int .u64 u4, .int .u64 u5] 110)) (.cells #[.int .i64 u0] 3))
      clear B2
      go_wp2_with (refine wpList_app _ (by rfl) (.tmp 52) (.tmp 55) _ rfl w.heap.size 3 i0_ _ 1 8 Try.underlying102 HI.out HZ.out HZ1.out HZ2.out rfl (by omega) (.slice A1 i c1) i (vi (lensOf (ts.take i))) rfl OW2.out (some ⟨w2.heap.size + 1, 0, none⟩) 1 1 (vi [u0]) ?val rfl ?row (vi_one _) (by simp only [maxLen]; omega) (by omega) ?size ?_)
      case val => simp [go_sem]
      case row => exact RowAt.new _ _ _ (by simp) rfl
      case size => exact HB2.out.size
      intro A5 c5 w5 own5 gr5 at5
      have B5 := Lib.hid (HB2.out.grown gr5 HB2.out.size (own_ge OW2.out))
      rw [← vi_app, HL.out] at own5
      have OW5 := Lib.hid own5
      clear own5 gr5 at5
      go_wp2_with fail
      go_roundw
      case rel => exact ⟨i + 1, c5, A5, by go_num, by omega, rfl, B5, OW5⟩
      case measure => simp [intOf] <;> omega
    · obtain rfl : i = n := by omega
      have HSu2 := Lib.hid (HSu.out A1 c1 wr (by have := own_row _ OW.out; rwa [List.take_of_length_le (by rw [HN.out]; exact Nat.le_refl _)] at this))
      have NW0 := Lib.hid ((Now.start HST.out HG.out).below BW.out)
      clear OW BW
      go_wp2_with fail
      (with_reducible refine HSu2.out.mono ?_)
      rintro e w' ⟨rfl, rfl⟩
      go_wp2_with fail
      go_loopw [14, 16, 17, 18, 68] (fun s14 _ _ _ sj wr => ∃ (j : Nat) (r : Int) (L1 : List En) (T1 : List (List Int)), sj = .int .i64 (j : Int) ∧ j ≤ i ∧ s14 = .int .i64 r ∧ Hid (Now B S G L T (j * (6 * d + 3 * i + 1)) w wr L1 T1) ∧ Hid (0 ≤ r ∧ r ≤ L1.length ∧ tx T1 r = (ts.take j).flatten ∧ (ent L1 r).dp ≤ d + j)) (fun _ _ _ _ sj _ => i - (intOf sj).toNat)
      case atStart => exact ⟨0, 0, L, T, rfl, by omega, rfl, Lib.hid (NW0.out.mono (by omega)), Lib.hid ⟨by omega, by omega, by rw [tx_zero]; rfl, by rw [ent_zero]; show (0 : Int) ≤ _; omega⟩⟩
      case round =>
        clear NW0 HSu2
        obtain ⟨j, r, L1, T1, rfl, hj, rfl, NW, HR⟩ := hrel
        by_cases hlt2 : j < i
        · obtain ⟨y, t, hy, hts, y0, y1, et, hv, ed⟩ := HE.out j hlt2
          obtain ⟨ad, rfl, adl, d1⟩ := (HA.out.sfr NW.out.fr).1.get hv
          have HJ2 := Lib.hid (HJ.out j hlt2 y t hy hts L1 T1 r wr NW.out HR.out.1 HR.out.2.1 HR.out.2.2.1 HR.out.2.2.2)
          have NB : Hid (j * (6 * d + 3 * i + 1) + (6 * d + 3 * i + 1) ≤ (j + 1) * (6 * d + 3 * i + 1)) := Lib.hid (Nat.le_of_eq (Nat.succ_mul j _).symm)
          clear hy hts y0 y1 et hv ed
          go_wp2_with fail
          (with_reducible refine HJ2.out.mono ?_)
          rintro e w4 ⟨z, L2, T2, rfl, o2⟩
          have NW2 := Lib.hid (NW.out.after o2.now NB.out)
          have HR2 := Lib.hid (show 0 ≤ z ∧ z ≤ L2.length ∧ tx T2 z = (ts.take (j + 1)).flatten ∧ (ent L2 z).dp ≤ d + ((j + 1 : Nat) : Int) from ⟨o2.x0, o2.x1, o2.tx, o2.hi⟩)
          clear o2
          go_wp2_with fail
          go_roundw
          case rel => exact ⟨j + 1, z, L2, T2, by go_num, by omega, rfl, NW2, HR2⟩
          case measure => simp [intOf] <;> omega
        · obtain rfl : j = i := by omega
          go_wp2_with fail
          go_ret2
          have h := HR.out
          exact ⟨r, L1, T1, rfl, NW.out.st, NW.out.fr, NW.out.good, NW.out.ext, NW.out.cnt, h.1, h.2.1, by rw [h.2.2.1, List.take_of_length_le (by rw [HN.out]; exact Nat.le_refl _)], (NW.out.good.any h.1 h.2.1).d0, h.2.2.2⟩
end Go.Proofs.Ytolhjkpekmmajaa
/- More on rows of one's own: an element set, the last one taken off, rows of two kinds apart. -/
namespace Go.Proofs.Ytolhjkpekmmajaa
set_option linter.unusedVariables false
set_option linter.unusedSimpArgs false
open Go.RowKit Go.Lib Go.Maps
theorem own_set {w : World} {base : Nat} {e : TypeId} {size n g cap : Nat} {xs : List Value} (h : w.ownsRow base e size (.slice (some ⟨g, 0, none⟩) n cap) n xs) (i : Nat) (u : Value) :
    (w.setCell ⟨g, i, none⟩ u).ownsRow base e size (.slice (some ⟨g, 0, none⟩) n cap) n (xs.set i u) := by
  refine ⟨by rw [List.length_set]; exact h.1, ?_⟩
  rcases h.2 with ⟨hv, _⟩ | ⟨g2, cap2, cur, hv, hg, hc, hn, hm, hz, ht⟩
  · cases hv
  · injection hv with hv _ hcap; injection hv with hv; injection hv with hv; subst hv; subst hcap
    have hb : Box w g e cur := hc
    refine .inr ⟨g, cap, cur.setIfInBounds i u, rfl, hg, hb.set_ i u, hn, hm, by simp [hz], ?_⟩
    rw [← ht]
    refine List.ext_getElem? fun j => ?_
    simp only [Array.toList_setIfInBounds, List.getElem?_take, List.getElem?_set, List.length_take]
    by_cases hj : j < n * size
    · rw [if_pos hj, if_pos hj]
      by_cases e2 : i = j
      · subst e2
        rw [if_pos rfl, if_pos rfl]
        by_cases hl : i < cur.toList.length
        · rw [if_pos hl, if_pos (by omega)]
        · rw [if_neg hl, if_neg (by omega)]
      · rw [if_neg e2, if_neg e2]
    · rw [if_neg hj]
      by_cases e2 : i = j
      · subst e2; rw [if_pos rfl, if_neg (by omega)]
      · rw [if_neg e2, if_neg hj]
theorem own_addr {w : World} {base : Nat} {e : TypeId} {size n c : Nat} {A : Option Addr} {xs : List Value} (h : w.ownsRow base e size (.slice A n c) n xs) (hn : n ≠ 0) : ∃ g, A = some ⟨g, 0, none⟩ ∧ n ≤ c ∧ g < w.heap.size ∧ base ≤ g := by
  rcases h.2 with ⟨hv, h0⟩ | ⟨g2, cap2, cur, hv, hg, hc, hn2, _⟩
  · exact absurd h0 hn
  · injection hv with hv _ hcap; subst hv; subst hcap
    exact ⟨g2, rfl, hn2, Box.lt (cs := cur) (t := e) hc, hg⟩
theorem own_cellN {w : World} {base : Nat} {e : TypeId} {size n c g : Nat} {xs : List Value} (h : w.ownsRow base e size (.slice (some ⟨g, 0, none⟩) n c) n xs) {k : Nat} {u : Value} (hk : xs[k]? = some u) : w.cell? ⟨g, k, none⟩ = some u := by
  have := h.cells (g := g) rfl k u hk
  rwa [show (⟨g, 0, none⟩ : Addr).add k = ⟨g, k, none⟩ by unfold Addr.add; split <;> simp_all] at this
theorem own_frozen {w : World} {base : Nat} {e : TypeId} {size n c g : Nat} {xs : List Value} (h : w.ownsRow base e size (.slice (some ⟨g, 0, none⟩) n c) n xs) (k : Nat) : w.frozen? ⟨g, k, none⟩ = false := by
  rcases h.2 with ⟨hv, _⟩ | ⟨g2, cap2, cur, hv, hg, hc, _⟩
  · cases hv
  · injection hv with hv; injection hv with hv; injection hv with hv; subst hv
    exact Box.free (cs := cur) (t := e) hc k
/-- rows of two kinds lie apart -/
theorem own_apart {w : World} {b1 b2 : Nat} {e1 e2 : TypeId} {s1 s2 n1 n2 : Nat} {v1 v2 : Value} {x1 x2 : List Value} (h1 : w.ownsRow b1 e1 s1 v1 n1 x1) (h2 : w.ownsRow b2 e2 s2 v2 n2 x2) (ne : e1 ≠ e2) : ∀ k, v1.ownBlock = some k → v2.ownBlock ≠ some k := by
  intro k hk hk2
  rcases h1.2 with ⟨hv, _⟩ | ⟨g, cap, cur, hv, hg, hc, _⟩
  · rw [hv] at hk; simp [Value.ownBlock] at hk
  · rw [hv] at hk; simp [Value.ownBlock] at hk; subst hk
    exact ne (own_typed h2 hk2 hc)
theorem box_apart {w : World} {b1 : Nat} {e1 t : TypeId} {s1 n1 g : Nat} {v1 : Value} {x1 : List Value} {cs : Array Value} (h1 : w.ownsRow b1 e1 s1 v1 n1 x1) (h2 : Box w g t cs) (ne : t ≠ e1) : v1.ownBlock ≠ some g := fun hk => ne (own_typed h1 hk h2)
theorem own_grown3 {w w' : World} {b1 b2 : Nat} {e1 e2 : TypeId} {s1 s2 n1 n2 : Nat} {v1 v2 : Value} {x1 x2 : List Value} (h1 : w.ownsRow b1 e1 s1 v1 n1 x1) (h2 : w.ownsRow b2 e2 s2 v2 n2 x2) (ne : e1 ≠ e2) (gr : w.grownBy w' v2.ownBlock) : w'.ownsRow b1 e1 s1 v1 n1 x1 :=
  own_kept2 h1 fun k hk => gr.block k (own_lt h1 k hk) fun e => own_apart h1 h2 ne k hk e.symm
theorem box_grown3 {w w' : World} {b1 : Nat} {e1 t : TypeId} {s1 n1 g : Nat} {v1 : Value} {x1 : List Value} {cs : Array Value} (h2 : Box w g t cs) (h1 : w.ownsRow b1 e1 s1 v1 n1 x1) (ne : t ≠ e1) (gr : w.grownBy w' v1.ownBlock) : Box w' g t cs := h2.grown gr (box_apart h1 h2 ne)
theorem own_setBox {w : World} {b1 : Nat} {e1 t : TypeId} {s1 n1 g : Nat} {v1 : Value} {x1 : List Value} {cs : Array Value} (h1 : w.ownsRow b1 e1 s1 v1 n1 x1) (h2 : Box w g t cs) (ne : t ≠ e1) (i : Nat) (u : Value) : (w.setCell ⟨g, i, none⟩ u).ownsRow b1 e1 s1 v1 n1 x1 :=
  own_kept2 h1 fun k hk => Below.heap_setCell w _ u k fun e => box_apart h1 h2 ne (by rw [hk]; exact congrArg some e)
theorem own_setOwn {w : World} {b1 b2 : Nat} {e1 e2 : TypeId} {s1 s2 n1 n2 g c : Nat} {v1 : Value} {x1 x2 : List Value} (h1 : w.ownsRow b1 e1 s1 v1 n1 x1) (h2 : w.ownsRow b2 e2 s2 (.slice (some ⟨g, 0, none⟩) n2 c) n2 x2) (ne : e1 ≠ e2) (i : Nat) (u : Value) : (w.setCell ⟨g, i, none⟩ u).ownsRow b1 e1 s1 v1 n1 x1 :=
  own_kept2 h1 fun k hk => Below.heap_setCell w _ u k fun e => own_apart h1 h2 ne k hk (by subst e; rfl)
theorem box_setOwn {w : World} {b2 : Nat} {e2 t : TypeId} {s2 n2 g c b : Nat} {x2 : List Value} {cs : Array Value} (h1 : Box w b t cs) (h2 : w.ownsRow b2 e2 s2 (.slice (some ⟨g, 0, none⟩) n2 c) n2 x2) (ne : t ≠ e2) (i : Nat) (u : Value) : Box (w.setCell ⟨g, i, none⟩ u) b t cs :=
  h1.far (fun e => box_apart h2 h1 ne (by subst e; rfl)) u
theorem St.setOwn {w : World} {B S G : Nat} {L : List En} (st : St w B S G L) {b2 : Nat} {e2 : TypeId} {s2 n2 g c : Nat} {x2 : List Value} (h2 : w.ownsRow b2 e2 s2 (.slice (some ⟨g, 0, none⟩) n2 c) n2 x2) (hB : B ≤ b2) (ht : e2 ≠ 149) (i : Nat) (u : Value) : St (w.setCell ⟨g, i, none⟩ u) B S G L := by
  rcases h2.2 with ⟨hv, _⟩ | ⟨g2, cap2, cur, hv, hg, hc, _⟩
  · cases hv
  · injection hv with hv; injection hv with hv; injection hv with hv; subst hv
    exact st.set (t := e2) (cs := cur) hc (by omega) ht i u
theorem below_grown {B : Nat} {a w w' : World} (h : Below B a w) {b1 : Nat} {e1 : TypeId} {s1 n1 : Nat} {v1 : Value} {x1 : List Value} (ow : w.ownsRow b1 e1 s1 v1 n1 x1) (hb : B ≤ b1) (hs : B ≤ w.heap.size) (gr : w.grownBy w' v1.ownBlock) : Below B a w' :=
  h.grown gr hs fun k hk => Nat.le_trans hb (own_ge ow k hk)
end Go.Proofs.Ytolhjkpekmmajaa
