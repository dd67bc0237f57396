/- The walk of the store's Pair where the rule is new. Written by wip/gen/stpair.py. -/
import Derived.Test.YtolhjkpekmmajaaStLetter
import Derived.Test.YtolhjkpekmmajaaWgtJoin3
namespace Go.Proofs.Ytolhjkpekmmajaa
set_option linter.unusedVariables false
set_option linter.unusedSimpArgs false
open Go.RowKit Go.Lib Go.Maps
attribute [local go_sem ↓] Go.wp_at_zero Go.wp_at_succ
def pairE (a b : Nat) (ea eb : En) (v : Wt) : En := ⟨⟨2, 0, (a : Int) + 1, (b : Int) + 1, 0⟩, v, 1 + max ea.dp eb.dp, ea.ev && eb.ev && decide (-1 ≤ ea.dp - eb.dp) && decide (ea.dp - eb.dp ≤ 1)⟩
set_option maxRecDepth 100000 in
set_option maxHeartbeats 16000000 in
theorem pair_new (L : List En) (a b : Nat) (ea eb : En) (ha : L[a]? = some ea) (hb : L[b]? = some eb) (da0 : 0 ≤ ea.dp) (da1 : ea.dp ≤ 2000000) (db0 : 0 ≤ eb.dp) (db1 : eb.dp ≤ 2000000) (wa : WOk ea.w) (wb : WOk eb.w)
    (s : Int) (hs : lenAdd ea.w.n eb.w.n = (s, 0)) (v : Wt) (hj : joinW ea.w eb.w = (v, 0)) (hp : pos (L.map En.r) ⟨2, 0, (a : Int) + 1, (b : Int) + 1, 0⟩ = 0) (n : Nat) (hn : n = L.length) (hn1 : n < 1048576) (B S G : Nat) (w : World) (st : St w B S G L) :
    Calls Try.prog 63 #[.pointer (some ⟨S, 0, none⟩), .int .i64 ((a : Int) + 1), .int .i64 ((b : Int) + 1)] w fun r w' => r = .returned (.tuple #[.int .i64 ((n : Int) + 1), .nilIface]) ∧ St w' B S G (L ++ [pairE a b ea eb v]) ∧ SFr w w' B S G := by
  have hal := (List.getElem?_eq_some_iff.1 ha).1
  have hbl := (List.getElem?_eq_some_iff.1 hb).1
  have hr : (⟨2, 0, (a : Int) + 1, (b : Int) + 1, 0⟩ : Rl).Ok := by show RuleOk 2 0 ((a : Int) + 1) ((b : Int) + 1) 0; constructor <;> omega
  have HKa := Lib.hid (fun w st => known_yes L ((a : Int) + 1) (by omega) (by omega) B S G w st)
  have HKb := Lib.hid (fun w st => known_yes L ((b : Int) + 1) (by omega) (by omega) B S G w st)
  have HAa := Lib.hid (fun w st => at_rule L a ea ha (by omega) B S G w st)
  have HAb := Lib.hid (fun w st => at_rule L b eb hb (by omega) B S G w st)
  have HLa : Hid (∀ w, Calls Try.prog 40 #[.int .i64 ea.w.n, .int .i64 eb.w.n] w fun e w' => e = .returned (.tuple #[.int .i64 s, .nilIface]) ∧ w = w') := Lib.hid fun w => by
    have := lenadd_any ea.w.n eb.w.n w
    rw [hs] at this
    exact this
  have HJ : Hid (∀ w, Calls Try.prog 78 #[.agg #[.int .i64 ea.w.n, .int .i64 ea.w.l, .int .i64 ea.w.h, .int .i64 ea.w.t, .int .u64 ea.w.v, .int .u64 ea.w.s], .agg #[.int .i64 eb.w.n, .int .i64 eb.w.l, .int .i64 eb.w.h, .int .i64 eb.w.t, .int .u64 eb.w.v, .int .u64 eb.w.s]] w fun e w' => e = .returned (.tuple #[.agg #[.int .i64 v.n, .int .i64 v.l, .int .i64 v.h, .int .i64 v.t, .int .u64 v.v, .int .u64 v.s], .nilIface]) ∧ Below w.heap.size w w') := Lib.hid fun w => by
    have := wjoin_any ea.w eb.w wa wb w
    rw [hj] at this
    exact this
  obtain ⟨dv, hdv⟩ : ∃ dv, dv = 1 + max ea.dp eb.dp := ⟨_, rfl⟩
  obtain ⟨qv, hqv⟩ : ∃ qv, qv = (ea.ev && eb.ev && decide (-1 ≤ ea.dp - eb.dp) && decide (ea.dp - eb.dp ≤ 1)) := ⟨_, rfl⟩
  have HFi : Hid (∀ w, St w B S G L → Calls Try.prog 75 #[.pointer (some ⟨S, 0, none⟩), .agg #[.int .i64 2, .int .u8 0, .int .i64 ((a : Int) + 1), .int .i64 ((b : Int) + 1), .int .i64 0]] w fun e w' => e = .returned (.tuple #[.int .i64 0, .nilIface]) ∧ Below w.heap.size w w') := Lib.hid fun w st => find_new L ⟨2, 0, (a : Int) + 1, (b : Int) + 1, 0⟩ hr hp n hn hn1 B S G w st
  have HAd : Hid (∀ w d q, d = dv → q = qv → St w B S G L → Calls Try.prog 76 #[.pointer (some ⟨S, 0, none⟩), .agg #[.int .i64 2, .int .u8 0, .int .i64 ((a : Int) + 1), .int .i64 ((b : Int) + 1), .int .i64 0, .int .i64 v.n, .int .i64 v.l, .int .i64 v.h, .int .i64 v.t, .int .u64 v.v, .int .u64 v.s, .int .i64 d, .bool q]] w fun r w' => r = .returned (.int .i64 ((n : Int) + 1)) ∧ St w' B S G (L ++ [pairE a b ea eb v]) ∧ SFr w w' B S G) := Lib.hid fun w d q hd hq st => by rw [hd, hq, hdv, hqv]; exact sadd_any L (pairE a b ea eb v) hr hp n hn hn1 B S G w st
  have HST := Lib.hid st
  obtain ⟨⟨ka, ta, fa, ga, ma⟩, ⟨na, la, ha_, ea_, va, sa⟩, da, qa⟩ := ea
  obtain ⟨⟨kb, tb, fb, gb, mb⟩, ⟨nb, lb, hb_, eb_, vb_, sb⟩, db, qb⟩ := eb
  simp only at da0 da1 db0 db1 hdv hqv HLa HJ
  have HAa' : Hid (∀ w, St w B S G L → Calls Try.prog 54 #[.pointer (some ⟨S, 0, none⟩), .int .i64 ((a : Int) + 1)] w fun r w' => r = .returned (.agg #[.int .i64 ka, .int .u8 ta, .int .i64 fa, .int .i64 ga, .int .i64 ma, .int .i64 na, .int .i64 la, .int .i64 ha_, .int .i64 ea_, .int .u64 va, .int .u64 sa, .int .i64 da, .bool qa]) ∧ Below w.heap.size w w') := HAa
  have HAb' : Hid (∀ w, St w B S G L → Calls Try.prog 54 #[.pointer (some ⟨S, 0, none⟩), .int .i64 ((b : Int) + 1)] w fun r w' => r = .returned (.agg #[.int .i64 kb, .int .u8 tb, .int .i64 fb, .int .i64 gb, .int .i64 mb, .int .i64 nb, .int .i64 lb, .int .i64 hb_, .int .i64 eb_, .int .u64 vb_, .int .u64 sb, .int .i64 db, .bool qb]) ∧ Below w.heap.size w w') := HAb
  have az : ((a : Int) + 1 == 0) = false := by rw [beq_eq_false_iff_ne]; omega
  have bz : ((b : Int) + 1 == 0) = false := by rw [beq_eq_false_iff_ne]; omega
  have DV := Lib.hid hdv; have QV := Lib.hid hqv
  clear ha hb hal hbl hr hs hj hp hn st wa wb HAa HAb hdv hqv
  go_enter Try.func63, Try.ntmps63
  go_wp2_with fail
  (with_reducible refine (HKa.out _ HST.out).mono ?_)
  rintro e w' ⟨rfl, rfl⟩
  go_wp2_with fail
  (with_reducible refine (HKb.out _ HST.out).mono ?_)
  rintro e w' ⟨rfl, rfl⟩
  go_wp2_with fail
  (with_reducible refine (HAa'.out _ HST.out).mono ?_)
  rintro e w1 ⟨rfl, B1⟩
  have HS1 := Lib.hid (HST.out.below B1); have BW1 := Lib.hid B1
  clear B1
  go_wp2_with fail
  (with_reducible refine (HAb'.out _ HS1.out).mono ?_)
  rintro e w2 ⟨rfl, B2⟩
  have HS2 := Lib.hid (HS1.out.below B2); have BW2 := Lib.hid (bkeep BW1.out B2)
  clear B2
  go_wp2_with fail
  (with_reducible refine (HLa.out _).mono ?_)
  rintro e w' ⟨rfl, rfl⟩
  have BX := balloc (balloc (balloc (Below.refl w2.heap.size w2) (.cells #[.int .i64 ka, .int .u8 ta, .int .i64 fa, .int .i64 ga, .int .i64 ma, .int .i64 na, .int .i64 la, .int .i64 ha_, .int .i64 ea_, .int .u64 va, .int .u64 sa, .int .i64 da, .bool qa] 149)) (.cells #[.int .i64 kb, .int .u8 tb, .int .i64 fb, .int .i64 gb, .int .i64 mb, .int .i64 nb, .int .i64 lb, .int .i64 hb_, .int .i64 eb_, .int .u64 vb_, .int .u64 sb, .int .i64 db, .bool qb] 149)) (.cells #[.int .i64 2, .int .u8 0, .int .i64 ((a : Int) + 1), .int .i64 ((b : Int) + 1), .int .i64 0] 147)
  have HS3 := Lib.hid (HS2.out.below BX); have BW3 := Lib.hid (bkeep BW2.out BX)
  clear BX
  go_wp2_with fail
  (with_reducible refine (HFi.out _ HS3.out).mono ?_)
  rintro e w4 ⟨rfl, B4⟩
  have HS4 := Lib.hid (HS3.out.below B4); have BW4 := Lib.hid (bkeep BW3.out B4)
  have XA4 := (((Box.new w2 149 #[.int .i64 ka, .int .u8 ta, .int .i64 fa, .int .i64 ga, .int .i64 ma, .int .i64 na, .int .i64 la, .int .i64 ha_, .int .i64 ea_, .int .u64 va, .int .u64 sa, .int .i64 da, .bool qa]).alloc (.cells #[.int .i64 kb, .int .u8 tb, .int .i64 fb, .int .i64 gb, .int .i64 mb, .int .i64 nb, .int .i64 lb, .int .i64 hb_, .int .i64 eb_, .int .u64 vb_, .int .u64 sb, .int .i64 db, .bool qb] 149)).alloc (.cells #[.int .i64 2, .int .u8 0, .int .i64 ((a : Int) + 1), .int .i64 ((b : Int) + 1), .int .i64 0] 147)).below B4 (by simp; omega)
  have XB4 := ((box_new_ (w := w2.alloc (.cells #[.int .i64 ka, .int .u8 ta, .int .i64 fa, .int .i64 ga, .int .i64 ma, .int .i64 na, .int .i64 la, .int .i64 ha_, .int .i64 ea_, .int .u64 va, .int .u64 sa, .int .i64 da, .bool qa] 149)) (g := w2.heap.size + 1) (t := 149) (cs := #[.int .i64 kb, .int .u8 tb, .int .i64 fb, .int .i64 gb, .int .i64 mb, .int .i64 nb, .int .i64 lb, .int .i64 hb_, .int .i64 eb_, .int .u64 vb_, .int .u64 sb, .int .i64 db, .bool qb]) (by simp)).alloc (.cells #[.int .i64 2, .int .u8 0, .int .i64 ((a : Int) + 1), .int .i64 ((b : Int) + 1), .int .i64 0] 147)).below B4 (by simp)
  have XR4 := (box_new_ (w := (w2.alloc (.cells #[.int .i64 ka, .int .u8 ta, .int .i64 fa, .int .i64 ga, .int .i64 ma, .int .i64 na, .int .i64 la, .int .i64 ha_, .int .i64 ea_, .int .u64 va, .int .u64 sa, .int .i64 da, .bool qa] 149)).alloc (.cells #[.int .i64 kb, .int .u8 tb, .int .i64 fb, .int .i64 gb, .int .i64 mb, .int .i64 nb, .int .i64 lb, .int .i64 hb_, .int .i64 eb_, .int .u64 vb_, .int .u64 sb, .int .i64 db, .bool qb] 149)) (g := w2.heap.size + 1 + 1) (t := 147) (cs := #[.int .i64 2, .int .u8 0, .int .i64 ((a : Int) + 1), .int .i64 ((b : Int) + 1), .int .i64 0]) (by simp)).below B4 (by simp)
  clear B4
  have x0 := XA4.cell 0; have x1 := XA4.cell 1; have x2 := XA4.cell 2; have x3 := XA4.cell 3; have x4 := XA4.cell 4; have x5 := XA4.cell 5; have x6 := XA4.cell 6; have x7 := XA4.cell 7; have x8 := XA4.cell 8; have x9 := XA4.cell 9; have x10 := XA4.cell 10; have x11 := XA4.cell 11; have x12 := XA4.cell 12
  simp only [List.getElem?_toArray, List.getElem?_cons_zero, List.getElem?_cons_succ] at x0 x1 x2 x3 x4 x5 x6 x7 x8 x9 x10 x11 x12
  have y0 := XB4.cell 0; have y1 := XB4.cell 1; have y2 := XB4.cell 2; have y3 := XB4.cell 3; have y4 := XB4.cell 4; have y5 := XB4.cell 5; have y6 := XB4.cell 6; have y7 := XB4.cell 7; have y8 := XB4.cell 8; have y9 := XB4.cell 9; have y10 := XB4.cell 10; have y11 := XB4.cell 11; have y12 := XB4.cell 12
  simp only [List.getElem?_toArray, List.getElem?_cons_zero, List.getElem?_cons_succ] at y0 y1 y2 y3 y4 y5 y6 y7 y8 y9 y10 y11 y12
  have z0 := XR4.cell 0; have z1 := XR4.cell 1; have z2 := XR4.cell 2; have z3 := XR4.cell 3; have z4 := XR4.cell 4
  simp only [List.getElem?_toArray, List.getElem?_cons_zero, List.getElem?_cons_succ] at z0 z1 z2 z3 z4

  go_wp2_with fail
  (with_reducible refine (HJ.out _).mono ?_)
  rintro e w5 ⟨rfl, B5⟩
  have HS5 := Lib.hid (HS4.out.below B5); have BW5 := Lib.hid (bkeep BW4.out B5)
  have XA5 := XA4.below B5 XA4.lt; have XB5 := XB4.below B5 XB4.lt; have XR5 := XR4.below B5 XR4.lt
  have la5 := XA5.lt; have lb5 := XB5.lt; have lr5 := XR5.lt
  clear B5 XA4 XB4 XR4
  have xx0 := XA5.cell 0; have xx1 := XA5.cell 1; have xx2 := XA5.cell 2; have xx3 := XA5.cell 3; have xx4 := XA5.cell 4; have xx5 := XA5.cell 5; have xx6 := XA5.cell 6; have xx7 := XA5.cell 7; have xx8 := XA5.cell 8; have xx9 := XA5.cell 9; have xx10 := XA5.cell 10; have xx11 := XA5.cell 11; have xx12 := XA5.cell 12
  simp only [List.getElem?_toArray, List.getElem?_cons_zero, List.getElem?_cons_succ] at xx0 xx1 xx2 xx3 xx4 xx5 xx6 xx7 xx8 xx9 xx10 xx11 xx12
  have yy0 := XB5.cell 0; have yy1 := XB5.cell 1; have yy2 := XB5.cell 2; have yy3 := XB5.cell 3; have yy4 := XB5.cell 4; have yy5 := XB5.cell 5; have yy6 := XB5.cell 6; have yy7 := XB5.cell 7; have yy8 := XB5.cell 8; have yy9 := XB5.cell 9; have yy10 := XB5.cell 10; have yy11 := XB5.cell 11; have yy12 := XB5.cell 12
  simp only [List.getElem?_toArray, List.getElem?_cons_zero, List.getElem?_cons_succ] at yy0 yy1 yy2 yy3 yy4 yy5 yy6 yy7 yy8 yy9 yy10 yy11 yy12
  have zz0 := XR5.cell 0; have zz1 := XR5.cell 1; have zz2 := XR5.cell 2; have zz3 := XR5.cell 3; have zz4 := XR5.cell 4
  simp only [List.getElem?_toArray, List.getElem?_cons_zero, List.getElem?_cons_succ] at zz0 zz1 zz2 zz3 zz4

  have HS6 := Lib.hid (HS5.out.below (balloc (Below.refl w5.heap.size w5) (.cells #[.int .i64 v.n, .int .i64 v.l, .int .i64 v.h, .int .i64 v.t, .int .u64 v.v, .int .u64 v.s] 110)))
  have BW6 := Lib.hid (balloc BW5.out (.cells #[.int .i64 v.n, .int .i64 v.l, .int .i64 v.h, .int .i64 v.t, .int .u64 v.v, .int .u64 v.s] 110))
  go_wp2_with fail
  all_goals (with_reducible refine (HAd.out _ _ _ ?_ ?_ HS6.out).mono ?_)
  all_goals first
    | (rintro e w7 ⟨rfl, st7, fr7⟩
       go_wp2_with fail
       go_ret2
       exact ⟨rfl, st7, (SFr.of_below BW6.out _ _ _).trans fr7⟩)
    | (rw [DV.out, Int.max_def]; split <;> omega)
    | (rw [QV.out]; simp_all; done)
    | (rw [QV.out]; simp_all; omega)
end Go.Proofs.Ytolhjkpekmmajaa
