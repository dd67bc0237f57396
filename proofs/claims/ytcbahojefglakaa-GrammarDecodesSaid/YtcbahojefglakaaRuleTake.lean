/- The walk of rule.Take. Written by wip/gen/ruletake.py. -/
import Derived.Test.YtcbahojefglakaaRuleTk
namespace Go.Proofs.Ytcbahojefglakaa
set_option linter.unusedVariables false
set_option linter.unusedSimpArgs false
open Go.RowKit Go.Lib
set_option maxRecDepth 100000 in
set_option maxHeartbeats 8000000 in
theorem tk_any (l : List Int) (n c : Nat) (A : Option Addr) (hl : l.length = n) (hn : n ≤ 140737488355328) (hc : n ≤ c) (hb : U8s l) (N : Int) (N0 : -9223372036854775808 ≤ N) (N1 : N ≤ 9223372036854775807) (w : World) (ha : RowAt w A (vb l)) :
    Calls Try.prog 58 #[.slice A n c, .int .i64 N] w (TkOut w (tkR l N)) := by
  have hw := tk_way l N
  generalize tkR l N = R at hw ⊢
  have HA := Lib.hid ha; have HL := Lib.hid hl
  clear ha hl
  cases hw with
  | empty h =>
    obtain rfl : n = 0 := by rw [← HL.out, h]; rfl
    clear h
    go_enter Try.func58, Try.ntmps58
    go_wp2_with fail
    refine bodyPost_ret (v := .tuple #[.agg #[.int .i64 0, .int .u8 0, .int .i64 0, .int .i64 0, .int .i64 0], .int .i64 0, .iface 50 (.int .i64 4)]) ?_ rfl ⟨rfl, ?_⟩
    · simp only [results, Try.results58]
      simp [go_sem]
    · repeat (first | exact Below.refl _ _ | (with_reducible refine Below.drew ?_) | (with_reducible refine Below.alloc ?_ (by first | (simp; done) | (simp; omega)) _) | (with_reducible refine Below.setCell ?_ (by first | (simp; done) | (simp; omega)) _))
  | kind k h h1 h2 h3 =>
    have h0 : 0 < n := by have := (List.getElem?_eq_some_iff.1 h).1; rw [HL.out] at this; exact this
    have e0 : ((n : Int) == 0) = false := by rw [beq_eq_false_iff_ne]; omega
    have n0 : (0 : Int) < n := by omega
    obtain ⟨ad, rfl, hlt, c00⟩ := HA.out.get (k := 0) (u := .int .u8 k) (by simp [vb, h])
    have c0 : w.cell? ad = some (.int .u8 k) := by simpa [Addr.add] using c00
    clear c00
    have k0 := hb k (List.mem_of_getElem? h)
    have k1 := k0.1; have k2 := k0.2
    clear h k0
    go_enter Try.func58, Try.ntmps58
    go_wp2_with fail
    refine bodyPost_ret (v := .tuple #[.agg #[.int .i64 0, .int .u8 0, .int .i64 0, .int .i64 0, .int .i64 0], .int .i64 0, .iface 50 (.int .i64 4)]) ?_ rfl ⟨rfl, ?_⟩
    · simp only [results, Try.results58]
      simp [go_sem]
    · repeat (first | exact Below.refl _ _ | (with_reducible refine Below.drew ?_) | (with_reducible refine Below.alloc ?_ (by first | (simp; done) | (simp; omega)) _) | (with_reducible refine Below.setCell ?_ (by first | (simp; done) | (simp; omega)) _))
  | short h =>
    have h1 : l[0]? = some 1 := by rw [h]; rfl
    obtain rfl : n = 1 := by rw [← HL.out, h]; rfl
    obtain ⟨ad, rfl, hlt, c00⟩ := HA.out.get (k := 0) (u := .int .u8 1) (by simp [vb, h1])
    have c0 : w.cell? ad = some (.int .u8 1) := by simpa [Addr.add] using c00
    clear c00 h h1
    go_enter Try.func58, Try.ntmps58
    go_wp2_with fail
    refine bodyPost_ret (v := .tuple #[.agg #[.int .i64 0, .int .u8 0, .int .i64 0, .int .i64 0, .int .i64 0], .int .i64 0, .iface 50 (.int .i64 4)]) ?_ rfl ⟨rfl, ?_⟩
    · simp only [results, Try.results58]
      simp [go_sem]
    · repeat (first | exact Below.refl _ _ | (with_reducible refine Below.drew ?_) | (with_reducible refine Below.alloc ?_ (by first | (simp; done) | (simp; omega)) _) | (with_reducible refine Below.setCell ?_ (by first | (simp; done) | (simp; omega)) _))
  | letter b h h2 =>
    have h0 : 0 < n := by have := (List.getElem?_eq_some_iff.1 h).1; rw [HL.out] at this; exact this
    have e0 : ((n : Int) == 0) = false := by rw [beq_eq_false_iff_ne]; omega
    have n0 : (0 : Int) < n := by omega
    obtain ⟨ad, rfl, hlt, c00⟩ := HA.out.get (k := 0) (u := .int .u8 1) (by simp [vb, h])
    have c0 : w.cell? ad = some (.int .u8 1) := by simpa [Addr.add] using c00
    clear c00
    have hn2 : 1 < n := by have := (List.getElem?_eq_some_iff.1 h2).1; rw [HL.out] at this; exact this
    have nn : (1 : Int) < n := by omega
    have n2 : ¬ (n : Int) < 2 := by omega
    obtain ⟨ad2, e2, _, c10⟩ := HA.out.get (k := 1) (u := .int .u8 b) (by simp [vb, h2])
    cases e2
    have c1 := c10
    simp only [Addr.add] at c1
    simp at c1
    clear c10
    have k0 := hb b (List.mem_of_getElem? h2)
    have k1 := k0.1; have k2 := k0.2
    clear h h2 k0
    obtain ⟨R, hR⟩ : ∃ R, R = tfin ⟨1, b, 0, 0, 0⟩ 2 N := ⟨_, rfl⟩
    rw [← hR]
    have HR := Lib.hid hR
    clear hR
    cases hr : rangedB (refsOf 1 (0) (0)) N
    · have HQ := Lib.hid (HR.out.trans (tfin_no (r := ⟨1, b, 0, 0, 0⟩) hr))
      have HP := place_any 1 b (0) (0) (0) N N0 N1
      rw [place_no hr] at HP
      have HP2 := Lib.hid HP
      have Bs := (Box.new w 46 #[.int .i64 0, .int .u8 0, .int .i64 0, .int .i64 0, .int .i64 0]).alloc (.cells #[.int .i64 1, .int .u8 b, .int .i64 0, .int .i64 0, .int .i64 0] 46)
      have Br := Box.new (w.alloc (.cells #[.int .i64 0, .int .u8 0, .int .i64 0, .int .i64 0, .int .i64 0] 46)) 46 #[.int .i64 1, .int .u8 b, .int .i64 0, .int .i64 0, .int .i64 0]
      rw [World.size_alloc] at Br
      have BB := balloc (balloc (Below.refl w.heap.size w) (.cells #[.int .i64 0, .int .u8 0, .int .i64 0, .int .i64 0, .int .i64 0] 46)) (.cells #[.int .i64 1, .int .u8 b, .int .i64 0, .int .i64 0, .int .i64 0] 46)
      have HBs := Lib.hid Bs; have HBr := Lib.hid Br; have HBB := Lib.hid BB
      clear HP Bs Br BB hr HR
      go_enter Try.func58, Try.ntmps58
      go_wp2_with fail
      (with_reducible refine (HP2.out _).mono ?_)
      rintro e w1 ⟨rfl, B1⟩
      have BW := Lib.hid (bkeep HBB.out B1)
      have Ds := HBs.out.below B1 HBs.out.lt; have Dr := HBr.out.below B1 HBr.out.lt
      have d0 : w1.cell? ⟨w.heap.size, 0, none⟩ = some (.int .i64 0) := Ds.cell 0; have g0 := Ds.free 0
      have r0 : w1.cell? ⟨w.heap.size + 1, 0, none⟩ = some (.int .i64 (1)) := Dr.cell 0
      have d1 : w1.cell? ⟨w.heap.size, 1, none⟩ = some (.int .u8 0) := Ds.cell 1; have g1 := Ds.free 1
      have r1 : w1.cell? ⟨w.heap.size + 1, 1, none⟩ = some (.int .u8 (b)) := Dr.cell 1
      have d2 : w1.cell? ⟨w.heap.size, 2, none⟩ = some (.int .i64 0) := Ds.cell 2; have g2 := Ds.free 2
      have r2 : w1.cell? ⟨w.heap.size + 1, 2, none⟩ = some (.int .i64 (0)) := Dr.cell 2
      have d3 : w1.cell? ⟨w.heap.size, 3, none⟩ = some (.int .i64 0) := Ds.cell 3; have g3 := Ds.free 3
      have r3 : w1.cell? ⟨w.heap.size + 1, 3, none⟩ = some (.int .i64 (0)) := Dr.cell 3
      have d4 : w1.cell? ⟨w.heap.size, 4, none⟩ = some (.int .i64 0) := Ds.cell 4; have g4 := Ds.free 4
      have r4 : w1.cell? ⟨w.heap.size + 1, 4, none⟩ = some (.int .i64 (0)) := Dr.cell 4
      clear Ds Dr B1
      go_wp2_with fail
      refine bodyPost_ret (v := .tuple #[.agg #[.int .i64 0, .int .u8 0, .int .i64 0, .int .i64 0, .int .i64 0], .int .i64 0, .iface 50 (.int .i64 1)]) ?_ rfl ⟨by rw [HQ.out]; first | done | rfl, ?_⟩
      · simp only [results, Try.results58]
        simp [go_sem, d0, d1, d2, d3, d4]
      · repeat (first | (with_reducible exact BW.out) | (with_reducible refine Below.drew ?_) | (with_reducible refine Below.setCell ?_ (by simp) _))
    · have HQ := Lib.hid (HR.out.trans (tfin_yes (r := ⟨1, b, 0, 0, 0⟩) hr))
      have HP := place_any 1 b (0) (0) (0) N N0 N1
      rw [place_yes hr] at HP
      have HP2 := Lib.hid HP
      have Bs := (Box.new w 46 #[.int .i64 0, .int .u8 0, .int .i64 0, .int .i64 0, .int .i64 0]).alloc (.cells #[.int .i64 1, .int .u8 b, .int .i64 0, .int .i64 0, .int .i64 0] 46)
      have Br := Box.new (w.alloc (.cells #[.int .i64 0, .int .u8 0, .int .i64 0, .int .i64 0, .int .i64 0] 46)) 46 #[.int .i64 1, .int .u8 b, .int .i64 0, .int .i64 0, .int .i64 0]
      rw [World.size_alloc] at Br
      have BB := balloc (balloc (Below.refl w.heap.size w) (.cells #[.int .i64 0, .int .u8 0, .int .i64 0, .int .i64 0, .int .i64 0] 46)) (.cells #[.int .i64 1, .int .u8 b, .int .i64 0, .int .i64 0, .int .i64 0] 46)
      have HBs := Lib.hid Bs; have HBr := Lib.hid Br; have HBB := Lib.hid BB
      clear HP Bs Br BB hr HR
      go_enter Try.func58, Try.ntmps58
      go_wp2_with fail
      (with_reducible refine (HP2.out _).mono ?_)
      rintro e w1 ⟨rfl, B1⟩
      have BW := Lib.hid (bkeep HBB.out B1)
      have Ds := HBs.out.below B1 HBs.out.lt; have Dr := HBr.out.below B1 HBr.out.lt
      have d0 : w1.cell? ⟨w.heap.size, 0, none⟩ = some (.int .i64 0) := Ds.cell 0; have g0 := Ds.free 0
      have r0 : w1.cell? ⟨w.heap.size + 1, 0, none⟩ = some (.int .i64 (1)) := Dr.cell 0
      have d1 : w1.cell? ⟨w.heap.size, 1, none⟩ = some (.int .u8 0) := Ds.cell 1; have g1 := Ds.free 1
      have r1 : w1.cell? ⟨w.heap.size + 1, 1, none⟩ = some (.int .u8 (b)) := Dr.cell 1
      have d2 : w1.cell? ⟨w.heap.size, 2, none⟩ = some (.int .i64 0) := Ds.cell 2; have g2 := Ds.free 2
      have r2 : w1.cell? ⟨w.heap.size + 1, 2, none⟩ = some (.int .i64 (0)) := Dr.cell 2
      have d3 : w1.cell? ⟨w.heap.size, 3, none⟩ = some (.int .i64 0) := Ds.cell 3; have g3 := Ds.free 3
      have r3 : w1.cell? ⟨w.heap.size + 1, 3, none⟩ = some (.int .i64 (0)) := Dr.cell 3
      have d4 : w1.cell? ⟨w.heap.size, 4, none⟩ = some (.int .i64 0) := Ds.cell 4; have g4 := Ds.free 4
      have r4 : w1.cell? ⟨w.heap.size + 1, 4, none⟩ = some (.int .i64 (0)) := Dr.cell 4
      clear Ds Dr B1
      go_wp2_with fail
      refine bodyPost_ret (v := .tuple #[.agg #[.int .i64 1, .int .u8 b, .int .i64 0, .int .i64 0, .int .i64 0], .int .i64 2, .nilIface]) ?_ rfl ⟨by rw [HQ.out]; first | done | rfl, ?_⟩
      · simp only [results, Try.results58]
        simp [go_sem, d0, d1, d2, d3, d4, r0, r1, r2, r3, r4]
      · repeat (first | (with_reducible exact BW.out) | (with_reducible refine Below.drew ?_) | (with_reducible refine Below.setCell ?_ (by simp) _))
  | none2 h h2 =>
    have h0 : 0 < n := by have := (List.getElem?_eq_some_iff.1 h).1; rw [HL.out] at this; exact this
    have e0 : ((n : Int) == 0) = false := by rw [beq_eq_false_iff_ne]; omega
    have n0 : (0 : Int) < n := by omega
    obtain ⟨ad, rfl, hlt, c00⟩ := HA.out.get (k := 0) (u := .int .u8 2) (by simp [vb, h])
    have c0 : w.cell? ad = some (.int .u8 2) := by simpa [Addr.add] using c00
    clear c00
    have HT := Lib.hid (fun w ha => two_n l n c (some ad) HL.out hn h0 hc hb h2 w ha)
    clear h h2
    go_enter Try.func58, Try.ntmps58
    go_wp2_with fail
    (with_reducible refine (HT.out _ ?ra).mono ?_)
    case ra => exact HA.out.below (B := w.heap.size) (by repeat (first | exact Below.refl _ _ | (with_reducible refine Below.drew ?_) | (with_reducible refine Below.alloc ?_ (by first | (simp; done) | (simp; omega)) _) | (with_reducible refine Below.setCell ?_ (by first | (simp; done) | (simp; omega)) _))) (Nat.le_refl _)
    rintro e w' ⟨rfl, rfl⟩
    go_wp2_with fail
    refine bodyPost_ret (v := .tuple #[.agg #[.int .i64 0, .int .u8 0, .int .i64 0, .int .i64 0, .int .i64 0], .int .i64 0, .iface 50 (.int .i64 4)]) ?_ rfl ⟨rfl, ?_⟩
    · simp only [results, Try.results58]
      simp [go_sem]
    · repeat (first | exact Below.refl _ _ | (with_reducible refine Below.drew ?_) | (with_reducible refine Below.alloc ?_ (by first | (simp; done) | (simp; omega)) _) | (with_reducible refine Below.setCell ?_ (by first | (simp; done) | (simp; omega)) _))
  | none3 h h2 =>
    have h0 : 0 < n := by have := (List.getElem?_eq_some_iff.1 h).1; rw [HL.out] at this; exact this
    have e0 : ((n : Int) == 0) = false := by rw [beq_eq_false_iff_ne]; omega
    have n0 : (0 : Int) < n := by omega
    obtain ⟨ad, rfl, hlt, c00⟩ := HA.out.get (k := 0) (u := .int .u8 3) (by simp [vb, h])
    have c0 : w.cell? ad = some (.int .u8 3) := by simpa [Addr.add] using c00
    clear c00
    have HT := Lib.hid (fun w ha => two_n l n c (some ad) HL.out hn h0 hc hb h2 w ha)
    clear h h2
    go_enter Try.func58, Try.ntmps58
    go_wp2_with fail
    (with_reducible refine (HT.out _ ?ra).mono ?_)
    case ra => exact HA.out.below (B := w.heap.size) (by repeat (first | exact Below.refl _ _ | (with_reducible refine Below.drew ?_) | (with_reducible refine Below.alloc ?_ (by first | (simp; done) | (simp; omega)) _) | (with_reducible refine Below.setCell ?_ (by first | (simp; done) | (simp; omega)) _))) (Nat.le_refl _)
    rintro e w' ⟨rfl, rfl⟩
    go_wp2_with fail
    refine bodyPost_ret (v := .tuple #[.agg #[.int .i64 0, .int .u8 0, .int .i64 0, .int .i64 0, .int .i64 0], .int .i64 0, .iface 50 (.int .i64 4)]) ?_ rfl ⟨rfl, ?_⟩
    · simp only [results, Try.results58]
      simp [go_sem]
    · repeat (first | exact Below.refl _ _ | (with_reducible refine Below.drew ?_) | (with_reducible refine Below.alloc ?_ (by first | (simp; done) | (simp; omega)) _) | (with_reducible refine Below.setCell ?_ (by first | (simp; done) | (simp; omega)) _))
  | pair x y q h h2 =>
    have h0 : 0 < n := by have := (List.getElem?_eq_some_iff.1 h).1; rw [HL.out] at this; exact this
    have e0 : ((n : Int) == 0) = false := by rw [beq_eq_false_iff_ne]; omega
    have n0 : (0 : Int) < n := by omega
    obtain ⟨ad, rfl, hlt, c00⟩ := HA.out.get (k := 0) (u := .int .u8 2) (by simp [vb, h])
    have c0 : w.cell? ad = some (.int .u8 2) := by simpa [Addr.add] using c00
    clear c00
    obtain ⟨b1, b2, b3, b4⟩ := two_bd hb h2
    rw [HL.out] at b4
    have x0 : (x : Int) ≤ 9223372036854775807 := by omega
    have y0 : (y : Int) ≤ 9223372036854775807 := by omega
    have q0 : (q : Int) ≤ 140737488355328 := by omega
    have HT := Lib.hid (fun w ha => two_y l n c x y q (some ad) HL.out hn h0 hc hb h2 w ha)
    clear h h2 b1 b2 b3 b4
    by_cases hN : N < 1
    · rw [if_pos hN]
      obtain ⟨R, hR⟩ : ∃ R, R = rzero 1 := ⟨_, rfl⟩
      rw [← hR]
      have HR := Lib.hid hR
      clear hR
      go_enter Try.func58, Try.ntmps58
      go_wp2_with fail
      (with_reducible refine (HT.out _ ?ra).mono ?_)
      case ra => exact HA.out.below (B := w.heap.size) (by repeat (first | exact Below.refl _ _ | (with_reducible refine Below.drew ?_) | (with_reducible refine Below.alloc ?_ (by first | (simp; done) | (simp; omega)) _) | (with_reducible refine Below.setCell ?_ (by first | (simp; done) | (simp; omega)) _))) (Nat.le_refl _)
      rintro e w' ⟨rfl, rfl⟩
      go_wp2_with fail
      refine bodyPost_ret (v := .tuple #[.agg #[.int .i64 0, .int .u8 0, .int .i64 0, .int .i64 0, .int .i64 0], .int .i64 0, .iface 50 (.int .i64 1)]) ?_ rfl ⟨by rw [HR.out]; rfl, ?_⟩
      · simp only [results, Try.results58]
        simp [go_sem]
      · repeat (first | exact Below.refl _ _ | (with_reducible refine Below.drew ?_) | (with_reducible refine Below.alloc ?_ (by first | (simp; done) | (simp; omega)) _) | (with_reducible refine Below.setCell ?_ (by first | (simp; done) | (simp; omega)) _))
    · rw [if_neg hN]
      obtain ⟨R, hR⟩ : ∃ R, R = tfin ⟨2, 0, N - (x : Int), N - (y : Int), 0⟩ q N := ⟨_, rfl⟩
      rw [← hR]
      have HR := Lib.hid hR
      clear hR
      cases hr : rangedB (refsOf 2 (N - (x : Int)) (N - (y : Int))) N
      · have HQ := Lib.hid (HR.out.trans (tfin_no (r := ⟨2, 0, N - (x : Int), N - (y : Int), 0⟩) hr))
        have HP := place_any 2 0 (N - (x : Int)) (N - (y : Int)) (0) N N0 N1
        rw [place_no hr] at HP
        have HP2 := Lib.hid HP
        have Bs := (Box.new w 46 #[.int .i64 0, .int .u8 0, .int .i64 0, .int .i64 0, .int .i64 0]).alloc (.cells #[.int .i64 2, .int .u8 0, .int .i64 (N - (x : Int)), .int .i64 (N - (y : Int)), .int .i64 0] 46)
        have Br := Box.new (w.alloc (.cells #[.int .i64 0, .int .u8 0, .int .i64 0, .int .i64 0, .int .i64 0] 46)) 46 #[.int .i64 2, .int .u8 0, .int .i64 (N - (x : Int)), .int .i64 (N - (y : Int)), .int .i64 0]
        rw [World.size_alloc] at Br
        have BB := balloc (balloc (Below.refl w.heap.size w) (.cells #[.int .i64 0, .int .u8 0, .int .i64 0, .int .i64 0, .int .i64 0] 46)) (.cells #[.int .i64 2, .int .u8 0, .int .i64 (N - (x : Int)), .int .i64 (N - (y : Int)), .int .i64 0] 46)
        have HBs := Lib.hid Bs; have HBr := Lib.hid Br; have HBB := Lib.hid BB
        clear HP Bs Br BB hr HR
        go_enter Try.func58, Try.ntmps58
        go_wp2_with fail
        (with_reducible refine (HT.out _ ?ra).mono ?_)
        case ra => exact HA.out.below (B := w.heap.size) (by repeat (first | exact Below.refl _ _ | (with_reducible refine Below.drew ?_) | (with_reducible refine Below.alloc ?_ (by first | (simp; done) | (simp; omega)) _) | (with_reducible refine Below.setCell ?_ (by first | (simp; done) | (simp; omega)) _))) (Nat.le_refl _)
        rintro e w' ⟨rfl, rfl⟩
        go_wp2_with fail
        (with_reducible refine (HP2.out _).mono ?_)
        rintro e w1 ⟨rfl, B1⟩
        have BW := Lib.hid (bkeep HBB.out B1)
        have Ds := HBs.out.below B1 HBs.out.lt; have Dr := HBr.out.below B1 HBr.out.lt
        have d0 : w1.cell? ⟨w.heap.size, 0, none⟩ = some (.int .i64 0) := Ds.cell 0; have g0 := Ds.free 0
        have r0 : w1.cell? ⟨w.heap.size + 1, 0, none⟩ = some (.int .i64 (2)) := Dr.cell 0
        have d1 : w1.cell? ⟨w.heap.size, 1, none⟩ = some (.int .u8 0) := Ds.cell 1; have g1 := Ds.free 1
        have r1 : w1.cell? ⟨w.heap.size + 1, 1, none⟩ = some (.int .u8 (0)) := Dr.cell 1
        have d2 : w1.cell? ⟨w.heap.size, 2, none⟩ = some (.int .i64 0) := Ds.cell 2; have g2 := Ds.free 2
        have r2 : w1.cell? ⟨w.heap.size + 1, 2, none⟩ = some (.int .i64 (N - (x : Int))) := Dr.cell 2
        have d3 : w1.cell? ⟨w.heap.size, 3, none⟩ = some (.int .i64 0) := Ds.cell 3; have g3 := Ds.free 3
        have r3 : w1.cell? ⟨w.heap.size + 1, 3, none⟩ = some (.int .i64 (N - (y : Int))) := Dr.cell 3
        have d4 : w1.cell? ⟨w.heap.size, 4, none⟩ = some (.int .i64 0) := Ds.cell 4; have g4 := Ds.free 4
        have r4 : w1.cell? ⟨w.heap.size + 1, 4, none⟩ = some (.int .i64 (0)) := Dr.cell 4
        clear Ds Dr B1
        go_wp2_with fail
        refine bodyPost_ret (v := .tuple #[.agg #[.int .i64 0, .int .u8 0, .int .i64 0, .int .i64 0, .int .i64 0], .int .i64 0, .iface 50 (.int .i64 1)]) ?_ rfl ⟨by rw [HQ.out]; first | done | rfl, ?_⟩
        · simp only [results, Try.results58]
          simp [go_sem, d0, d1, d2, d3, d4]
        · repeat (first | (with_reducible exact BW.out) | (with_reducible refine Below.drew ?_) | (with_reducible refine Below.setCell ?_ (by simp) _))
      · have HQ := Lib.hid (HR.out.trans (tfin_yes (r := ⟨2, 0, N - (x : Int), N - (y : Int), 0⟩) hr))
        have HP := place_any 2 0 (N - (x : Int)) (N - (y : Int)) (0) N N0 N1
        rw [place_yes hr] at HP
        have HP2 := Lib.hid HP
        have Bs := (Box.new w 46 #[.int .i64 0, .int .u8 0, .int .i64 0, .int .i64 0, .int .i64 0]).alloc (.cells #[.int .i64 2, .int .u8 0, .int .i64 (N - (x : Int)), .int .i64 (N - (y : Int)), .int .i64 0] 46)
        have Br := Box.new (w.alloc (.cells #[.int .i64 0, .int .u8 0, .int .i64 0, .int .i64 0, .int .i64 0] 46)) 46 #[.int .i64 2, .int .u8 0, .int .i64 (N - (x : Int)), .int .i64 (N - (y : Int)), .int .i64 0]
        rw [World.size_alloc] at Br
        have BB := balloc (balloc (Below.refl w.heap.size w) (.cells #[.int .i64 0, .int .u8 0, .int .i64 0, .int .i64 0, .int .i64 0] 46)) (.cells #[.int .i64 2, .int .u8 0, .int .i64 (N - (x : Int)), .int .i64 (N - (y : Int)), .int .i64 0] 46)
        have HBs := Lib.hid Bs; have HBr := Lib.hid Br; have HBB := Lib.hid BB
        clear HP Bs Br BB hr HR
        go_enter Try.func58, Try.ntmps58
        go_wp2_with fail
        (with_reducible refine (HT.out _ ?ra).mono ?_)
        case ra => exact HA.out.below (B := w.heap.size) (by repeat (first | exact Below.refl _ _ | (with_reducible refine Below.drew ?_) | (with_reducible refine Below.alloc ?_ (by first | (simp; done) | (simp; omega)) _) | (with_reducible refine Below.setCell ?_ (by first | (simp; done) | (simp; omega)) _))) (Nat.le_refl _)
        rintro e w' ⟨rfl, rfl⟩
        go_wp2_with fail
        (with_reducible refine (HP2.out _).mono ?_)
        rintro e w1 ⟨rfl, B1⟩
        have BW := Lib.hid (bkeep HBB.out B1)
        have Ds := HBs.out.below B1 HBs.out.lt; have Dr := HBr.out.below B1 HBr.out.lt
        have d0 : w1.cell? ⟨w.heap.size, 0, none⟩ = some (.int .i64 0) := Ds.cell 0; have g0 := Ds.free 0
        have r0 : w1.cell? ⟨w.heap.size + 1, 0, none⟩ = some (.int .i64 (2)) := Dr.cell 0
        have d1 : w1.cell? ⟨w.heap.size, 1, none⟩ = some (.int .u8 0) := Ds.cell 1; have g1 := Ds.free 1
        have r1 : w1.cell? ⟨w.heap.size + 1, 1, none⟩ = some (.int .u8 (0)) := Dr.cell 1
        have d2 : w1.cell? ⟨w.heap.size, 2, none⟩ = some (.int .i64 0) := Ds.cell 2; have g2 := Ds.free 2
        have r2 : w1.cell? ⟨w.heap.size + 1, 2, none⟩ = some (.int .i64 (N - (x : Int))) := Dr.cell 2
        have d3 : w1.cell? ⟨w.heap.size, 3, none⟩ = some (.int .i64 0) := Ds.cell 3; have g3 := Ds.free 3
        have r3 : w1.cell? ⟨w.heap.size + 1, 3, none⟩ = some (.int .i64 (N - (y : Int))) := Dr.cell 3
        have d4 : w1.cell? ⟨w.heap.size, 4, none⟩ = some (.int .i64 0) := Ds.cell 4; have g4 := Ds.free 4
        have r4 : w1.cell? ⟨w.heap.size + 1, 4, none⟩ = some (.int .i64 (0)) := Dr.cell 4
        clear Ds Dr B1
        go_wp2_with fail
        refine bodyPost_ret (v := .tuple #[.agg #[.int .i64 2, .int .u8 0, .int .i64 (N - (x : Int)), .int .i64 (N - (y : Int)), .int .i64 0], .int .i64 ((q : Int)), .nilIface]) ?_ rfl ⟨by rw [HQ.out]; first | done | rfl, ?_⟩
        · simp only [results, Try.results58]
          simp [go_sem, d0, d1, d2, d3, d4, r0, r1, r2, r3, r4]
        · repeat (first | (with_reducible exact BW.out) | (with_reducible refine Below.drew ?_) | (with_reducible refine Below.setCell ?_ (by simp) _))
  | big x y q h h2 h3 =>
    have h0 : 0 < n := by have := (List.getElem?_eq_some_iff.1 h).1; rw [HL.out] at this; exact this
    have e0 : ((n : Int) == 0) = false := by rw [beq_eq_false_iff_ne]; omega
    have n0 : (0 : Int) < n := by omega
    obtain ⟨ad, rfl, hlt, c00⟩ := HA.out.get (k := 0) (u := .int .u8 3) (by simp [vb, h])
    have c0 : w.cell? ad = some (.int .u8 3) := by simpa [Addr.add] using c00
    clear c00
    obtain ⟨b1, b2, b3, b4⟩ := two_bd hb h2
    rw [HL.out] at b4
    have x0 : (x : Int) ≤ 9223372036854775807 := by omega
    have y0 : (y : Int) ≤ 9223372036854775807 := by omega
    have q0 : (q : Int) ≤ 140737488355328 := by omega
    have HT := Lib.hid (fun w ha => two_y l n c x y q (some ad) HL.out hn h0 hc hb h2 w ha)
    clear h h2 b1 b2 b3 b4
    go_enter Try.func58, Try.ntmps58
    go_wp2_with fail
    (with_reducible refine (HT.out _ ?ra).mono ?_)
    case ra => exact HA.out.below (B := w.heap.size) (by repeat (first | exact Below.refl _ _ | (with_reducible refine Below.drew ?_) | (with_reducible refine Below.alloc ?_ (by first | (simp; done) | (simp; omega)) _) | (with_reducible refine Below.setCell ?_ (by first | (simp; done) | (simp; omega)) _))) (Nat.le_refl _)
    rintro e w' ⟨rfl, rfl⟩
    go_wp2_with fail
    refine bodyPost_ret (v := .tuple #[.agg #[.int .i64 0, .int .u8 0, .int .i64 0, .int .i64 0, .int .i64 0], .int .i64 0, .iface 50 (.int .i64 4)]) ?_ rfl ⟨rfl, ?_⟩
    · simp only [results, Try.results58]
      simp [go_sem]
    · repeat (first | exact Below.refl _ _ | (with_reducible refine Below.drew ?_) | (with_reducible refine Below.alloc ?_ (by first | (simp; done) | (simp; omega)) _) | (with_reducible refine Below.setCell ?_ (by first | (simp; done) | (simp; omega)) _))
  | power x y q h h2 h3 =>
    have h0 : 0 < n := by have := (List.getElem?_eq_some_iff.1 h).1; rw [HL.out] at this; exact this
    have e0 : ((n : Int) == 0) = false := by rw [beq_eq_false_iff_ne]; omega
    have n0 : (0 : Int) < n := by omega
    obtain ⟨ad, rfl, hlt, c00⟩ := HA.out.get (k := 0) (u := .int .u8 3) (by simp [vb, h])
    have c0 : w.cell? ad = some (.int .u8 3) := by simpa [Addr.add] using c00
    clear c00
    obtain ⟨b1, b2, b3, b4⟩ := two_bd hb h2
    rw [HL.out] at b4
    have x0 : (x : Int) ≤ 9223372036854775807 := by omega
    have y0 : (y : Int) ≤ 9223372036854775807 := by omega
    have q0 : (q : Int) ≤ 140737488355328 := by omega
    have HT := Lib.hid (fun w ha => two_y l n c x y q (some ad) HL.out hn h0 hc hb h2 w ha)
    clear h h2 b1 b2 b3 b4
    have h3n : ¬ 9223372036854775805 < (y : Int) := by omega
    by_cases hN : N < 1
    · rw [if_pos hN]
      obtain ⟨R, hR⟩ : ∃ R, R = rzero 1 := ⟨_, rfl⟩
      rw [← hR]
      have HR := Lib.hid hR
      clear hR
      go_enter Try.func58, Try.ntmps58
      go_wp2_with fail
      (with_reducible refine (HT.out _ ?ra).mono ?_)
      case ra => exact HA.out.below (B := w.heap.size) (by repeat (first | exact Below.refl _ _ | (with_reducible refine Below.drew ?_) | (with_reducible refine Below.alloc ?_ (by first | (simp; done) | (simp; omega)) _) | (with_reducible refine Below.setCell ?_ (by first | (simp; done) | (simp; omega)) _))) (Nat.le_refl _)
      rintro e w' ⟨rfl, rfl⟩
      go_wp2_with fail
      refine bodyPost_ret (v := .tuple #[.agg #[.int .i64 0, .int .u8 0, .int .i64 0, .int .i64 0, .int .i64 0], .int .i64 0, .iface 50 (.int .i64 1)]) ?_ rfl ⟨by rw [HR.out]; rfl, ?_⟩
      · simp only [results, Try.results58]
        simp [go_sem]
      · repeat (first | exact Below.refl _ _ | (with_reducible refine Below.drew ?_) | (with_reducible refine Below.alloc ?_ (by first | (simp; done) | (simp; omega)) _) | (with_reducible refine Below.setCell ?_ (by first | (simp; done) | (simp; omega)) _))
    · rw [if_neg hN]
      obtain ⟨R, hR⟩ : ∃ R, R = tfin ⟨3, 0, N - (x : Int), 0, (y : Int) + 2⟩ q N := ⟨_, rfl⟩
      rw [← hR]
      have HR := Lib.hid hR
      clear hR
      cases hr : rangedB (refsOf 3 (N - (x : Int)) (0)) N
      · have HQ := Lib.hid (HR.out.trans (tfin_no (r := ⟨3, 0, N - (x : Int), 0, (y : Int) + 2⟩) hr))
        have HP := place_any 3 0 (N - (x : Int)) (0) ((y : Int) + 2) N N0 N1
        rw [place_no hr] at HP
        have HP2 := Lib.hid HP
        have Bs := (Box.new w 46 #[.int .i64 0, .int .u8 0, .int .i64 0, .int .i64 0, .int .i64 0]).alloc (.cells #[.int .i64 3, .int .u8 0, .int .i64 (N - (x : Int)), .int .i64 0, .int .i64 ((y : Int) + 2)] 46)
        have Br := Box.new (w.alloc (.cells #[.int .i64 0, .int .u8 0, .int .i64 0, .int .i64 0, .int .i64 0] 46)) 46 #[.int .i64 3, .int .u8 0, .int .i64 (N - (x : Int)), .int .i64 0, .int .i64 ((y : Int) + 2)]
        rw [World.size_alloc] at Br
        have BB := balloc (balloc (Below.refl w.heap.size w) (.cells #[.int .i64 0, .int .u8 0, .int .i64 0, .int .i64 0, .int .i64 0] 46)) (.cells #[.int .i64 3, .int .u8 0, .int .i64 (N - (x : Int)), .int .i64 0, .int .i64 ((y : Int) + 2)] 46)
        have HBs := Lib.hid Bs; have HBr := Lib.hid Br; have HBB := Lib.hid BB
        clear HP Bs Br BB hr HR
        go_enter Try.func58, Try.ntmps58
        go_wp2_with fail
        (with_reducible refine (HT.out _ ?ra).mono ?_)
        case ra => exact HA.out.below (B := w.heap.size) (by repeat (first | exact Below.refl _ _ | (with_reducible refine Below.drew ?_) | (with_reducible refine Below.alloc ?_ (by first | (simp; done) | (simp; omega)) _) | (with_reducible refine Below.setCell ?_ (by first | (simp; done) | (simp; omega)) _))) (Nat.le_refl _)
        rintro e w' ⟨rfl, rfl⟩
        go_wp2_with fail
        (with_reducible refine (HP2.out _).mono ?_)
        rintro e w1 ⟨rfl, B1⟩
        have BW := Lib.hid (bkeep HBB.out B1)
        have Ds := HBs.out.below B1 HBs.out.lt; have Dr := HBr.out.below B1 HBr.out.lt
        have d0 : w1.cell? ⟨w.heap.size, 0, none⟩ = some (.int .i64 0) := Ds.cell 0; have g0 := Ds.free 0
        have r0 : w1.cell? ⟨w.heap.size + 1, 0, none⟩ = some (.int .i64 (3)) := Dr.cell 0
        have d1 : w1.cell? ⟨w.heap.size, 1, none⟩ = some (.int .u8 0) := Ds.cell 1; have g1 := Ds.free 1
        have r1 : w1.cell? ⟨w.heap.size + 1, 1, none⟩ = some (.int .u8 (0)) := Dr.cell 1
        have d2 : w1.cell? ⟨w.heap.size, 2, none⟩ = some (.int .i64 0) := Ds.cell 2; have g2 := Ds.free 2
        have r2 : w1.cell? ⟨w.heap.size + 1, 2, none⟩ = some (.int .i64 (N - (x : Int))) := Dr.cell 2
        have d3 : w1.cell? ⟨w.heap.size, 3, none⟩ = some (.int .i64 0) := Ds.cell 3; have g3 := Ds.free 3
        have r3 : w1.cell? ⟨w.heap.size + 1, 3, none⟩ = some (.int .i64 (0)) := Dr.cell 3
        have d4 : w1.cell? ⟨w.heap.size, 4, none⟩ = some (.int .i64 0) := Ds.cell 4; have g4 := Ds.free 4
        have r4 : w1.cell? ⟨w.heap.size + 1, 4, none⟩ = some (.int .i64 ((y : Int) + 2)) := Dr.cell 4
        clear Ds Dr B1
        go_wp2_with fail
        refine bodyPost_ret (v := .tuple #[.agg #[.int .i64 0, .int .u8 0, .int .i64 0, .int .i64 0, .int .i64 0], .int .i64 0, .iface 50 (.int .i64 1)]) ?_ rfl ⟨by rw [HQ.out]; first | done | rfl, ?_⟩
        · simp only [results, Try.results58]
          simp [go_sem, d0, d1, d2, d3, d4]
        · repeat (first | (with_reducible exact BW.out) | (with_reducible refine Below.drew ?_) | (with_reducible refine Below.setCell ?_ (by simp) _))
      · have HQ := Lib.hid (HR.out.trans (tfin_yes (r := ⟨3, 0, N - (x : Int), 0, (y : Int) + 2⟩) hr))
        have HP := place_any 3 0 (N - (x : Int)) (0) ((y : Int) + 2) N N0 N1
        rw [place_yes hr] at HP
        have HP2 := Lib.hid HP
        have Bs := (Box.new w 46 #[.int .i64 0, .int .u8 0, .int .i64 0, .int .i64 0, .int .i64 0]).alloc (.cells #[.int .i64 3, .int .u8 0, .int .i64 (N - (x : Int)), .int .i64 0, .int .i64 ((y : Int) + 2)] 46)
        have Br := Box.new (w.alloc (.cells #[.int .i64 0, .int .u8 0, .int .i64 0, .int .i64 0, .int .i64 0] 46)) 46 #[.int .i64 3, .int .u8 0, .int .i64 (N - (x : Int)), .int .i64 0, .int .i64 ((y : Int) + 2)]
        rw [World.size_alloc] at Br
        have BB := balloc (balloc (Below.refl w.heap.size w) (.cells #[.int .i64 0, .int .u8 0, .int .i64 0, .int .i64 0, .int .i64 0] 46)) (.cells #[.int .i64 3, .int .u8 0, .int .i64 (N - (x : Int)), .int .i64 0, .int .i64 ((y : Int) + 2)] 46)
        have HBs := Lib.hid Bs; have HBr := Lib.hid Br; have HBB := Lib.hid BB
        clear HP Bs Br BB hr HR
        go_enter Try.func58, Try.ntmps58
        go_wp2_with fail
        (with_reducible refine (HT.out _ ?ra).mono ?_)
        case ra => exact HA.out.below (B := w.heap.size) (by repeat (first | exact Below.refl _ _ | (with_reducible refine Below.drew ?_) | (with_reducible refine Below.alloc ?_ (by first | (simp; done) | (simp; omega)) _) | (with_reducible refine Below.setCell ?_ (by first | (simp; done) | (simp; omega)) _))) (Nat.le_refl _)
        rintro e w' ⟨rfl, rfl⟩
        go_wp2_with fail
        (with_reducible refine (HP2.out _).mono ?_)
        rintro e w1 ⟨rfl, B1⟩
        have BW := Lib.hid (bkeep HBB.out B1)
        have Ds := HBs.out.below B1 HBs.out.lt; have Dr := HBr.out.below B1 HBr.out.lt
        have d0 : w1.cell? ⟨w.heap.size, 0, none⟩ = some (.int .i64 0) := Ds.cell 0; have g0 := Ds.free 0
        have r0 : w1.cell? ⟨w.heap.size + 1, 0, none⟩ = some (.int .i64 (3)) := Dr.cell 0
        have d1 : w1.cell? ⟨w.heap.size, 1, none⟩ = some (.int .u8 0) := Ds.cell 1; have g1 := Ds.free 1
        have r1 : w1.cell? ⟨w.heap.size + 1, 1, none⟩ = some (.int .u8 (0)) := Dr.cell 1
        have d2 : w1.cell? ⟨w.heap.size, 2, none⟩ = some (.int .i64 0) := Ds.cell 2; have g2 := Ds.free 2
        have r2 : w1.cell? ⟨w.heap.size + 1, 2, none⟩ = some (.int .i64 (N - (x : Int))) := Dr.cell 2
        have d3 : w1.cell? ⟨w.heap.size, 3, none⟩ = some (.int .i64 0) := Ds.cell 3; have g3 := Ds.free 3
        have r3 : w1.cell? ⟨w.heap.size + 1, 3, none⟩ = some (.int .i64 (0)) := Dr.cell 3
        have d4 : w1.cell? ⟨w.heap.size, 4, none⟩ = some (.int .i64 0) := Ds.cell 4; have g4 := Ds.free 4
        have r4 : w1.cell? ⟨w.heap.size + 1, 4, none⟩ = some (.int .i64 ((y : Int) + 2)) := Dr.cell 4
        clear Ds Dr B1
        go_wp2_with fail
        refine bodyPost_ret (v := .tuple #[.agg #[.int .i64 3, .int .u8 0, .int .i64 (N - (x : Int)), .int .i64 0, .int .i64 ((y : Int) + 2)], .int .i64 ((q : Int)), .nilIface]) ?_ rfl ⟨by rw [HQ.out]; first | done | rfl, ?_⟩
        · simp only [results, Try.results58]
          simp [go_sem, d0, d1, d2, d3, d4, r0, r1, r2, r3, r4]
        · repeat (first | (with_reducible exact BW.out) | (with_reducible refine Below.drew ?_) | (with_reducible refine Below.setCell ?_ (by simp) _))
end Go.Proofs.Ytcbahojefglakaa
