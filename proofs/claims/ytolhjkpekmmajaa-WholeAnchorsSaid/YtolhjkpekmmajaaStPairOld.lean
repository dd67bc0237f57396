/- The walk of the store's Pair where the rule is there. Written by wip/gen/stpairold.py. -/
import Derived.Test.YtolhjkpekmmajaaStPair
import Derived.Test.YtolhjkpekmmajaaWgtJoin3
namespace Go.Proofs.Ytolhjkpekmmajaa
set_option linter.unusedVariables false
set_option linter.unusedSimpArgs false
open Go.RowKit Go.Lib Go.Maps
attribute [local go_sem ↓] Go.wp_at_zero Go.wp_at_succ
set_option maxRecDepth 100000 in
set_option maxHeartbeats 16000000 in
theorem pair_old (L : List En) (a b : Nat) (ea eb : En) (ha : L[a]? = some ea) (hb : L[b]? = some eb) (da0 : 0 ≤ ea.dp) (da1 : ea.dp ≤ 2000000) (db0 : 0 ≤ eb.dp) (db1 : eb.dp ≤ 2000000)
    (s : Int) (hs : lenAdd ea.w.n eb.w.n = (s, 0)) (p : Nat) (hp : pos (L.map En.r) ⟨2, 0, (a : Int) + 1, (b : Int) + 1, 0⟩ = p) (hp0 : p ≠ 0) (hn1 : L.length ≤ 1048576) (B S G : Nat) (w : World) (st : St w B S G L) :
    Calls Try.prog 63 #[.pointer (some ⟨S, 0, none⟩), .int .i64 ((a : Int) + 1), .int .i64 ((b : Int) + 1)] w fun r w' => r = .returned (.tuple #[.int .i64 (p : Int), .nilIface]) ∧ St w' B S G L ∧ SFr w w' B S G := by
  have hal := (List.getElem?_eq_some_iff.1 ha).1
  have hbl := (List.getElem?_eq_some_iff.1 hb).1
  have hr : (⟨2, 0, (a : Int) + 1, (b : Int) + 1, 0⟩ : Rl).Ok := by show RuleOk 2 0 ((a : Int) + 1) ((b : Int) + 1) 0; constructor <;> omega
  have HKa := Lib.hid (fun w st => known_yes L ((a : Int) + 1) (by omega) (by omega) B S G w st)
  have HKb := Lib.hid (fun w st => known_yes L ((b : Int) + 1) (by omega) (by omega) B S G w st)
  have HAa := Lib.hid (fun w st => at_rule L a ea ha (by omega) B S G w st)
  have HAb := Lib.hid (fun w st => at_rule L b eb hb (by omega) B S G w st)
  have HLa : Hid (∀ w, Calls Try.prog 40 #[.int .i64 ea.w.n, .int .i64 eb.w.n] w fun e w' => e = .returned (.tuple #[.int .i64 s, .nilIface]) ∧ w = w') := Lib.hid fun w => by
    have := lenadd_any ea.w.n eb.w.n w
    rw [hs] at this
    exact this
  have HFi : Hid (∀ w, St w B S G L → Calls Try.prog 75 #[.pointer (some ⟨S, 0, none⟩), .agg #[.int .i64 2, .int .u8 0, .int .i64 ((a : Int) + 1), .int .i64 ((b : Int) + 1), .int .i64 0]] w fun e w' => e = .returned (.tuple #[.int .i64 (p : Int), .nilIface]) ∧ Below w.heap.size w w') := Lib.hid fun w st => find_old L ⟨2, 0, (a : Int) + 1, (b : Int) + 1, 0⟩ hr p hp hp0 B S G w st
  have pz : ((p : Int) != 0) = true := by rw [bne_iff_ne]; omega
  have HST := Lib.hid st
  obtain ⟨⟨ka, ta, fa, ga, ma⟩, ⟨na, la, ha_, ea_, va, sa⟩, da, qa⟩ := ea
  obtain ⟨⟨kb, tb, fb, gb, mb⟩, ⟨nb, lb, hb_, eb_, vb_, sb⟩, db, qb⟩ := eb
  simp only at da0 da1 db0 db1 HLa
  have HAa' : Hid (∀ w, St w B S G L → Calls Try.prog 54 #[.pointer (some ⟨S, 0, none⟩), .int .i64 ((a : Int) + 1)] w fun r w' => r = .returned (.agg #[.int .i64 ka, .int .u8 ta, .int .i64 fa, .int .i64 ga, .int .i64 ma, .int .i64 na, .int .i64 la, .int .i64 ha_, .int .i64 ea_, .int .u64 va, .int .u64 sa, .int .i64 da, .bool qa]) ∧ Below w.heap.size w w') := HAa
  have HAb' : Hid (∀ w, St w B S G L → Calls Try.prog 54 #[.pointer (some ⟨S, 0, none⟩), .int .i64 ((b : Int) + 1)] w fun r w' => r = .returned (.agg #[.int .i64 kb, .int .u8 tb, .int .i64 fb, .int .i64 gb, .int .i64 mb, .int .i64 nb, .int .i64 lb, .int .i64 hb_, .int .i64 eb_, .int .u64 vb_, .int .u64 sb, .int .i64 db, .bool qb]) ∧ Below w.heap.size w w') := HAb
  have az : ((a : Int) + 1 == 0) = false := by rw [beq_eq_false_iff_ne]; omega
  have bz : ((b : Int) + 1 == 0) = false := by rw [beq_eq_false_iff_ne]; omega
  clear ha hb hal hbl hr hs hp hp0 st HAa HAb
  go_enter Try.func63, Try.ntmps63
  go_wp2_with fail
  (with_reducible refine (HKa.out _ HST.out).mono ?_)
  rintro e w' ⟨rfl, rfl⟩
  go_wp2_with fail
  (with_reducible refine (HKb.out _ HST.out).mono ?_)
  rintro e w' ⟨rfl, rfl⟩
  go_wp2_with fail
  (with_reducible refine (HAa'.out _ HST.out).mono ?_)
  rintro e w1 ⟨rfl, B1⟩
  have HS1 := Lib.hid (HST.out.below B1); have BW1 := Lib.hid B1
  clear B1
  go_wp2_with fail
  (with_reducible refine (HAb'.out _ HS1.out).mono ?_)
  rintro e w2 ⟨rfl, B2⟩
  have HS2 := Lib.hid (HS1.out.below B2); have BW2 := Lib.hid (bkeep BW1.out B2)
  clear B2
  go_wp2_with fail
  (with_reducible refine (HLa.out _).mono ?_)
  rintro e w' ⟨rfl, rfl⟩
  have BX := balloc (balloc (balloc (Below.refl w2.heap.size w2) (.cells #[.int .i64 ka, .int .u8 ta, .int .i64 fa, .int .i64 ga, .int .i64 ma, .int .i64 na, .int .i64 la, .int .i64 ha_, .int .i64 ea_, .int .u64 va, .int .u64 sa, .int .i64 da, .bool qa] 149)) (.cells #[.int .i64 kb, .int .u8 tb, .int .i64 fb, .int .i64 gb, .int .i64 mb, .int .i64 nb, .int .i64 lb, .int .i64 hb_, .int .i64 eb_, .int .u64 vb_, .int .u64 sb, .int .i64 db, .bool qb] 149)) (.cells #[.int .i64 2, .int .u8 0, .int .i64 ((a : Int) + 1), .int .i64 ((b : Int) + 1), .int .i64 0] 147)
  have HS3 := Lib.hid (HS2.out.below BX); have BW3 := Lib.hid (bkeep BW2.out BX)
  clear BX
  go_wp2_with fail
  (with_reducible refine (HFi.out _ HS3.out).mono ?_)
  rintro e w4 ⟨rfl, B4⟩
  have HS4 := Lib.hid (HS3.out.below B4); have BW4 := Lib.hid (bkeep BW3.out B4)
  go_wp2_with fail
  go_ret2
  exact ⟨rfl, HST.out.below BW4.out, SFr.of_below BW4.out _ _ _⟩
end Go.Proofs.Ytolhjkpekmmajaa
