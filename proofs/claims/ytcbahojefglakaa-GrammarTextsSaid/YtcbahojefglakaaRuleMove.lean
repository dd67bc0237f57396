/- The walks of rule.Move and evergreenref09.Move. Written by wip/gen/move.py. -/
import Derived.Test.YtcbahojefglakaaRuleCheck
import Derived.RegionTactic
import Derived.ChangeAlike
namespace Go.Proofs.Ytcbahojefglakaa
set_option linter.unusedVariables false
set_option linter.unusedSimpArgs false
open Go.RowKit Go.Lib

theorem box_cell (w : World) (cs : Array Value) (t : TypeId) (o2 : Obj) (j : Nat) : ((w.alloc (.cells cs t)).alloc o2).cell? ⟨w.heap.size, j, none⟩ = cs[j]? := by
  apply cell_of_row _ _ _ _ t (0, 0)
  rw [Below.heap_alloc _ _ _ (by simp)]
  exact heap_alloc_new w _
theorem box_cell2 (w : World) (o1 : Obj) (cs : Array Value) (t : TypeId) (j : Nat) : ((w.alloc o1).alloc (.cells cs t)).cell? ⟨w.heap.size + 1, j, none⟩ = cs[j]? := by
  apply cell_of_row _ _ _ _ t (0, 0)
  have := heap_alloc_new (w.alloc o1) (.cells cs t)
  simpa using this
theorem far_set {w : World} {ad : Addr} {g j o : Nat} {u v : Value} (h : w.cell? (ad.add j) = some u) (hb : ad.block ≠ g) : (w.setCell ⟨g, o, none⟩ v).cell? (ad.add j) = some u :=
  (World.cell?_setCell_other w _ _ v (fun e => hb (by have := congrArg Addr.block e; rw [block_add] at this; exact this.symm))).trans h

/-- is each reference an index into a list of that length? -/
def mvOk (l : List Int) (len : Nat) : Bool := l.all fun x => decide (0 ≤ x) && decide (x < len)
theorem mv_get {l : List Int} {len : Nat} (h : mvOk l len = true) {x : Int} (hx : x ∈ l) : 0 ≤ x ∧ x < len := by
  have := List.all_eq_true.1 h x hx
  simpa using this
theorem mv_bad {l : List Int} {len : Nat} {x : Int} (hx : x ∈ l) (hb : ¬ (0 ≤ x ∧ x < len)) : mvOk l len = false := by
  cases h : mvOk l len
  · rfl
  · exact absurd (mv_get h hx) hb
def mvL (kd lf : Int) (to : List Int) : Int := if kd = 2 ∨ kd = 3 then to.getD lf.toNat 0 else lf
def mvR (kd rg : Int) (to : List Int) : Int := if kd = 2 then to.getD rg.toNat 0 else rg
theorem vi_at {to : List Int} {x : Int} (h0 : 0 ≤ x) (h1 : x < to.length) : (vi to)[x.toNat]? = some (.int .i64 (to.getD x.toNat 0)) := by
  have : x.toNat < to.length := by omega
  rw [vi_get this, List.getD_eq_getElem?_getD, List.getElem?_eq_getElem this]; rfl

set_option maxHeartbeats 2000000 in
theorem move_bad (kd lt lf rg tm : Int) (len cap : Nat) (A : Option Addr) (to : List Int) (hto : to.length = len) (hlen : len ≤ 9223372036854775807) (w : World) (ht : RowAt w A (vi to))
    (hok : mvOk (refsOf kd lf rg) len = false) :
    Calls Try.prog 51 #[.agg #[.int .i64 kd, .int .u8 lt, .int .i64 lf, .int .i64 rg, .int .i64 tm], .slice A len cap] w fun e w' => e = .returned (.tuple #[.agg #[.int .i64 0, .int .u8 0, .int .i64 0, .int .i64 0, .int .i64 0], .iface 50 (.int .i64 1)]) ∧ Below w.heap.size w w' := by
  obtain ⟨l, hl⟩ : ∃ l, l = refsOf kd lf rg := ⟨_, rfl⟩
  have hle : l.length ≤ 2 := by rw [hl]; exact refsOf_le kd lf rg
  have RR := refs_any kd lt lf rg tm
  rw [← hl] at RR hok
  have R2 := Lib.hid RR
  have HL := Lib.hid hl
  have OK := Lib.hid hok
  clear RR hl hok
  go_enter Try.func51, Try.ntmps51
  go_wp2_with fail
  (with_reducible refine (R2.out _).mono ?_)
  rintro e w1 ⟨A1, c1, rfl, R1, B1⟩
  have bw : Below w.heap.size w w1 := (((Below.refl _ _).alloc (Nat.le_refl _) _).alloc (by simp) _).trans (B1.mono (by simp; omega))
  have z1 : w.heap.size + 1 < w1.heap.size := by have hz := B1.size; simp at hz; omega
  obtain ⟨q1, f1⟩ := bcell B1
  have k0 : w1.cell? ⟨w.heap.size, 0, none⟩ = some (.int .i64 kd) := (q1 _ _ (by simp; omega)).trans (box_cell w _ 46 _ 0)
  have m0 : w1.cell? ⟨w.heap.size + 1, 0, none⟩ = some (.int .i64 0) := (q1 _ _ (by simp)).trans (box_cell2 w _ _ 46 0)
  have g0 : w1.frozen? ⟨w.heap.size, 0, none⟩ = false := (f1 _ _ (by simp; omega)).trans (by simp)
  have h0 : w1.frozen? ⟨w.heap.size + 1, 0, none⟩ = false := (f1 _ _ (by simp)).trans (by simp)
  have k1 : w1.cell? ⟨w.heap.size, 1, none⟩ = some (.int .u8 lt) := (q1 _ _ (by simp; omega)).trans (box_cell w _ 46 _ 1)
  have m1 : w1.cell? ⟨w.heap.size + 1, 1, none⟩ = some (.int .u8 0) := (q1 _ _ (by simp)).trans (box_cell2 w _ _ 46 1)
  have g1 : w1.frozen? ⟨w.heap.size, 1, none⟩ = false := (f1 _ _ (by simp; omega)).trans (by simp)
  have h1 : w1.frozen? ⟨w.heap.size + 1, 1, none⟩ = false := (f1 _ _ (by simp)).trans (by simp)
  have k2 : w1.cell? ⟨w.heap.size, 2, none⟩ = some (.int .i64 lf) := (q1 _ _ (by simp; omega)).trans (box_cell w _ 46 _ 2)
  have m2 : w1.cell? ⟨w.heap.size + 1, 2, none⟩ = some (.int .i64 0) := (q1 _ _ (by simp)).trans (box_cell2 w _ _ 46 2)
  have g2 : w1.frozen? ⟨w.heap.size, 2, none⟩ = false := (f1 _ _ (by simp; omega)).trans (by simp)
  have h2 : w1.frozen? ⟨w.heap.size + 1, 2, none⟩ = false := (f1 _ _ (by simp)).trans (by simp)
  have k3 : w1.cell? ⟨w.heap.size, 3, none⟩ = some (.int .i64 rg) := (q1 _ _ (by simp; omega)).trans (box_cell w _ 46 _ 3)
  have m3 : w1.cell? ⟨w.heap.size + 1, 3, none⟩ = some (.int .i64 0) := (q1 _ _ (by simp)).trans (box_cell2 w _ _ 46 3)
  have g3 : w1.frozen? ⟨w.heap.size, 3, none⟩ = false := (f1 _ _ (by simp; omega)).trans (by simp)
  have h3 : w1.frozen? ⟨w.heap.size + 1, 3, none⟩ = false := (f1 _ _ (by simp)).trans (by simp)
  have k4 : w1.cell? ⟨w.heap.size, 4, none⟩ = some (.int .i64 tm) := (q1 _ _ (by simp; omega)).trans (box_cell w _ 46 _ 4)
  have m4 : w1.cell? ⟨w.heap.size + 1, 4, none⟩ = some (.int .i64 0) := (q1 _ _ (by simp)).trans (box_cell2 w _ _ 46 4)
  have g4 : w1.frozen? ⟨w.heap.size, 4, none⟩ = false := (f1 _ _ (by simp; omega)).trans (by simp)
  have h4 : w1.frozen? ⟨w.heap.size + 1, 4, none⟩ = false := (f1 _ _ (by simp)).trans (by simp)
  have HR := Lib.hid R1; have BW := Lib.hid bw; have HT := Lib.hid (ht.below bw (Nat.le_refl _))
  clear R1 bw ht R2 q1 f1 B1
  go_wp2_with fail
  go_loop [11] (fun si => ∃ k : Nat, si = .int .i64 k ∧ k ≤ l.length ∧ Hid (∀ x ∈ l.take k, 0 ≤ x ∧ x < (len : Int))) (fun si => l.length - (intOf si).toNat)
  case atStart => exact ⟨0, rfl, by omega, Lib.hid (by simp)⟩
  case round =>
    obtain ⟨k, rfl, hk, H⟩ := hrel
    by_cases hlt : k < l.length
    · obtain ⟨ad, rfl, _, c1⟩ := HR.out.get (vi_get hlt)
      obtain ⟨z, hz⟩ : ∃ z, z = l[k] := ⟨_, rfl⟩
      rw [← hz] at c1
      have HZ := Lib.hid hz
      clear hz
      by_cases b0 : z < 0
      · go_wp2_with fail
        refine bodyPost_ret (v := .tuple #[.agg #[.int .i64 0, .int .u8 0, .int .i64 0, .int .i64 0, .int .i64 0], .iface 50 (.int .i64 1)]) ?_ rfl ⟨rfl, ?_⟩
        · simp only [results, Try.results51]
          simp [go_sem, k0, k1, k2, k3, k4, m0, m1, m2, m3, m4]
        · repeat (first | (with_reducible exact BW.out) | (with_reducible refine Below.drew ?_) | (with_reducible refine Below.setCell ?_ (by simp) _))
      · by_cases b1 : (len : Int) ≤ z
        · go_wp2_with fail
          refine bodyPost_ret (v := .tuple #[.agg #[.int .i64 0, .int .u8 0, .int .i64 0, .int .i64 0, .int .i64 0], .iface 50 (.int .i64 1)]) ?_ rfl ⟨rfl, ?_⟩
          · simp only [results, Try.results51]
            simp [go_sem, k0, k1, k2, k3, k4, m0, m1, m2, m3, m4]
          · repeat (first | (with_reducible exact BW.out) | (with_reducible refine Below.drew ?_) | (with_reducible refine Below.setCell ?_ (by simp) _))
        · have H2 : Hid (∀ x ∈ l.take (k + 1), 0 ≤ x ∧ x < (len : Int)) := Lib.hid (by
            rw [List.take_succ_eq_append_getElem hlt, ← HZ.out]
            intro x hx
            rcases List.mem_append.1 hx with h | h
            · exact H.out x h
            · simp at h; subst h; omega)
          clear H
          go_wp2_with fail
          go_round
          case rel => exact ⟨k + 1, by go_num, by omega, H2⟩
          case measure => simp [intOf]; omega
    · exfalso
      obtain rfl : k = l.length := by omega
      have h2 := H.out
      rw [List.take_length] at h2
      have h3 := OK.out
      have : mvOk l len = true := List.all_eq_true.2 fun x hx => by simpa using h2 x hx
      rw [this] at h3; cases h3

set_option maxHeartbeats 2000000 in
theorem move_two (lt lf rg tm : Int) (len cap : Nat) (A : Option Addr) (to : List Int) (hto : to.length = len) (hlen : len ≤ 9223372036854775807) (w : World) (ht : RowAt w A (vi to))
    (hok : mvOk (refsOf 2 lf rg) len = true) :
    Calls Try.prog 51 #[.agg #[.int .i64 2, .int .u8 lt, .int .i64 lf, .int .i64 rg, .int .i64 tm], .slice A len cap] w fun e w' => e = .returned (.tuple #[.agg #[.int .i64 2, .int .u8 lt, .int .i64 (to.getD lf.toNat 0), .int .i64 (to.getD rg.toNat 0), .int .i64 tm], .nilIface]) ∧ Below w.heap.size w w' := by
  obtain ⟨l0, l1⟩ := mv_get hok (x := lf) (by simp [refsOf])
  obtain ⟨r0, r1⟩ := mv_get hok (x := rg) (by simp [refsOf])
  obtain ⟨x, hx⟩ : ∃ x, x = to.getD lf.toNat 0 := ⟨_, rfl⟩
  obtain ⟨adr, rfl, hb, hl1⟩ := ht.get (vi_at l0 (by omega))
  rw [← hx] at hl1 ⊢
  have HX := Lib.hid hx
  clear hx
  obtain ⟨y, hy⟩ : ∃ y, y = to.getD rg.toNat 0 := ⟨_, rfl⟩
  obtain ⟨ad2, e2, _, hr1⟩ := ht.get (vi_at r0 (by omega))
  obtain rfl : adr = ad2 := by injection e2
  rw [← hy] at hr1 ⊢
  have HY := Lib.hid hy
  clear hy e2
  obtain ⟨l, hl⟩ : ∃ l, l = refsOf 2 lf rg := ⟨_, rfl⟩
  have hle : l.length ≤ 2 := by rw [hl]; exact refsOf_le 2 lf rg
  have RR := refs_any 2 lt lf rg tm
  rw [← hl] at RR hok
  have R2 := Lib.hid RR
  have HL := Lib.hid hl
  have OK := Lib.hid hok
  clear RR hl hok
  go_enter Try.func51, Try.ntmps51
  go_wp2_with fail
  (with_reducible refine (R2.out _).mono ?_)
  rintro e w1 ⟨A1, c1, rfl, R1, B1⟩
  have bw : Below w.heap.size w w1 := (((Below.refl _ _).alloc (Nat.le_refl _) _).alloc (by simp) _).trans (B1.mono (by simp; omega))
  have z1 : w.heap.size + 1 < w1.heap.size := by have hz := B1.size; simp at hz; omega
  have hl2 : w1.cell? (adr.add lf.toNat) = some (.int .i64 x) := (bw.cell (by rw [block_add]; exact hb)).trans hl1
  have o1 : ∀ (o : Nat) v, (w1.setCell ⟨w.heap.size, o, none⟩ v).cell? (adr.add lf.toNat) = some (.int .i64 x) := fun o v => far_set hl2 (by omega)
  clear hl1
  have hr2 : w1.cell? (adr.add rg.toNat) = some (.int .i64 y) := (bw.cell (by rw [block_add]; exact hb)).trans hr1
  have o2 : ∀ (o : Nat) v, (w1.setCell ⟨w.heap.size, o, none⟩ v).cell? (adr.add rg.toNat) = some (.int .i64 y) := fun o v => far_set hr2 (by omega)
  clear hr1
  obtain ⟨q1, f1⟩ := bcell B1
  have k0 : w1.cell? ⟨w.heap.size, 0, none⟩ = some (.int .i64 2) := (q1 _ _ (by simp; omega)).trans (box_cell w _ 46 _ 0)
  have m0 : w1.cell? ⟨w.heap.size + 1, 0, none⟩ = some (.int .i64 0) := (q1 _ _ (by simp)).trans (box_cell2 w _ _ 46 0)
  have g0 : w1.frozen? ⟨w.heap.size, 0, none⟩ = false := (f1 _ _ (by simp; omega)).trans (by simp)
  have h0 : w1.frozen? ⟨w.heap.size + 1, 0, none⟩ = false := (f1 _ _ (by simp)).trans (by simp)
  have k1 : w1.cell? ⟨w.heap.size, 1, none⟩ = some (.int .u8 lt) := (q1 _ _ (by simp; omega)).trans (box_cell w _ 46 _ 1)
  have m1 : w1.cell? ⟨w.heap.size + 1, 1, none⟩ = some (.int .u8 0) := (q1 _ _ (by simp)).trans (box_cell2 w _ _ 46 1)
  have g1 : w1.frozen? ⟨w.heap.size, 1, none⟩ = false := (f1 _ _ (by simp; omega)).trans (by simp)
  have h1 : w1.frozen? ⟨w.heap.size + 1, 1, none⟩ = false := (f1 _ _ (by simp)).trans (by simp)
  have k2 : w1.cell? ⟨w.heap.size, 2, none⟩ = some (.int .i64 lf) := (q1 _ _ (by simp; omega)).trans (box_cell w _ 46 _ 2)
  have m2 : w1.cell? ⟨w.heap.size + 1, 2, none⟩ = some (.int .i64 0) := (q1 _ _ (by simp)).trans (box_cell2 w _ _ 46 2)
  have g2 : w1.frozen? ⟨w.heap.size, 2, none⟩ = false := (f1 _ _ (by simp; omega)).trans (by simp)
  have h2 : w1.frozen? ⟨w.heap.size + 1, 2, none⟩ = false := (f1 _ _ (by simp)).trans (by simp)
  have k3 : w1.cell? ⟨w.heap.size, 3, none⟩ = some (.int .i64 rg) := (q1 _ _ (by simp; omega)).trans (box_cell w _ 46 _ 3)
  have m3 : w1.cell? ⟨w.heap.size + 1, 3, none⟩ = some (.int .i64 0) := (q1 _ _ (by simp)).trans (box_cell2 w _ _ 46 3)
  have g3 : w1.frozen? ⟨w.heap.size, 3, none⟩ = false := (f1 _ _ (by simp; omega)).trans (by simp)
  have h3 : w1.frozen? ⟨w.heap.size + 1, 3, none⟩ = false := (f1 _ _ (by simp)).trans (by simp)
  have k4 : w1.cell? ⟨w.heap.size, 4, none⟩ = some (.int .i64 tm) := (q1 _ _ (by simp; omega)).trans (box_cell w _ 46 _ 4)
  have m4 : w1.cell? ⟨w.heap.size + 1, 4, none⟩ = some (.int .i64 0) := (q1 _ _ (by simp)).trans (box_cell2 w _ _ 46 4)
  have g4 : w1.frozen? ⟨w.heap.size, 4, none⟩ = false := (f1 _ _ (by simp; omega)).trans (by simp)
  have h4 : w1.frozen? ⟨w.heap.size + 1, 4, none⟩ = false := (f1 _ _ (by simp)).trans (by simp)
  have HR := Lib.hid R1; have BW := Lib.hid bw; have HT := Lib.hid (ht.below bw (Nat.le_refl _))
  clear R1 bw ht R2 q1 f1 B1
  go_wp2_with fail
  go_loop [11] (fun si => ∃ k : Nat, si = .int .i64 k ∧ k ≤ l.length) (fun si => l.length - (intOf si).toNat)
  case atStart => exact ⟨0, rfl, by omega⟩
  case round =>
    obtain ⟨k, rfl, hk⟩ := hrel
    by_cases hlt : k < l.length
    · obtain ⟨ad, rfl, _, c1⟩ := HR.out.get (vi_get hlt)
      obtain ⟨b0, b1⟩ := mv_get OK.out (List.getElem_mem hlt)
      obtain ⟨z, hz⟩ : ∃ z, z = l[k] := ⟨_, rfl⟩
      rw [← hz] at c1 b0 b1
      clear hz
      go_wp2_with fail
      go_round
      case rel => exact ⟨k + 1, by go_num, by omega⟩
      case measure => simp [intOf]; omega
    · obtain rfl : k = l.length := by omega
      go_wp2_with fail
      go_region
      all_goals go_wp2
      all_goals
        refine bodyPost_ret (v := .tuple #[.agg #[.int .i64 2, .int .u8 lt, .int .i64 x, .int .i64 y, .int .i64 tm], .nilIface]) ?_ rfl ⟨rfl, ?_⟩
        · simp only [results, Try.results51]
          simp [go_sem, k0, k1, k2, k3, k4, m0, m1, m2, m3, m4]
        · repeat (first | (with_reducible exact BW.out) | (with_reducible refine Below.drew ?_) | (with_reducible refine Below.setCell ?_ (by simp) _))

set_option maxHeartbeats 2000000 in
theorem move_three (lt lf rg tm : Int) (len cap : Nat) (A : Option Addr) (to : List Int) (hto : to.length = len) (hlen : len ≤ 9223372036854775807) (w : World) (ht : RowAt w A (vi to))
    (hok : mvOk (refsOf 3 lf rg) len = true) :
    Calls Try.prog 51 #[.agg #[.int .i64 3, .int .u8 lt, .int .i64 lf, .int .i64 rg, .int .i64 tm], .slice A len cap] w fun e w' => e = .returned (.tuple #[.agg #[.int .i64 3, .int .u8 lt, .int .i64 (to.getD lf.toNat 0), .int .i64 (rg), .int .i64 tm], .nilIface]) ∧ Below w.heap.size w w' := by
  obtain ⟨l0, l1⟩ := mv_get hok (x := lf) (by simp [refsOf])
  obtain ⟨x, hx⟩ : ∃ x, x = to.getD lf.toNat 0 := ⟨_, rfl⟩
  obtain ⟨adr, rfl, hb, hl1⟩ := ht.get (vi_at l0 (by omega))
  rw [← hx] at hl1 ⊢
  have HX := Lib.hid hx
  clear hx
  obtain ⟨l, hl⟩ : ∃ l, l = refsOf 3 lf rg := ⟨_, rfl⟩
  have hle : l.length ≤ 2 := by rw [hl]; exact refsOf_le 3 lf rg
  have RR := refs_any 3 lt lf rg tm
  rw [← hl] at RR hok
  have R2 := Lib.hid RR
  have HL := Lib.hid hl
  have OK := Lib.hid hok
  clear RR hl hok
  go_enter Try.func51, Try.ntmps51
  go_wp2_with fail
  (with_reducible refine (R2.out _).mono ?_)
  rintro e w1 ⟨A1, c1, rfl, R1, B1⟩
  have bw : Below w.heap.size w w1 := (((Below.refl _ _).alloc (Nat.le_refl _) _).alloc (by simp) _).trans (B1.mono (by simp; omega))
  have z1 : w.heap.size + 1 < w1.heap.size := by have hz := B1.size; simp at hz; omega
  have hl2 : w1.cell? (adr.add lf.toNat) = some (.int .i64 x) := (bw.cell (by rw [block_add]; exact hb)).trans hl1
  have o1 : ∀ (o : Nat) v, (w1.setCell ⟨w.heap.size, o, none⟩ v).cell? (adr.add lf.toNat) = some (.int .i64 x) := fun o v => far_set hl2 (by omega)
  clear hl1
  obtain ⟨q1, f1⟩ := bcell B1
  have k0 : w1.cell? ⟨w.heap.size, 0, none⟩ = some (.int .i64 3) := (q1 _ _ (by simp; omega)).trans (box_cell w _ 46 _ 0)
  have m0 : w1.cell? ⟨w.heap.size + 1, 0, none⟩ = some (.int .i64 0) := (q1 _ _ (by simp)).trans (box_cell2 w _ _ 46 0)
  have g0 : w1.frozen? ⟨w.heap.size, 0, none⟩ = false := (f1 _ _ (by simp; omega)).trans (by simp)
  have h0 : w1.frozen? ⟨w.heap.size + 1, 0, none⟩ = false := (f1 _ _ (by simp)).trans (by simp)
  have k1 : w1.cell? ⟨w.heap.size, 1, none⟩ = some (.int .u8 lt) := (q1 _ _ (by simp; omega)).trans (box_cell w _ 46 _ 1)
  have m1 : w1.cell? ⟨w.heap.size + 1, 1, none⟩ = some (.int .u8 0) := (q1 _ _ (by simp)).trans (box_cell2 w _ _ 46 1)
  have g1 : w1.frozen? ⟨w.heap.size, 1, none⟩ = false := (f1 _ _ (by simp; omega)).trans (by simp)
  have h1 : w1.frozen? ⟨w.heap.size + 1, 1, none⟩ = false := (f1 _ _ (by simp)).trans (by simp)
  have k2 : w1.cell? ⟨w.heap.size, 2, none⟩ = some (.int .i64 lf) := (q1 _ _ (by simp; omega)).trans (box_cell w _ 46 _ 2)
  have m2 : w1.cell? ⟨w.heap.size + 1, 2, none⟩ = some (.int .i64 0) := (q1 _ _ (by simp)).trans (box_cell2 w _ _ 46 2)
  have g2 : w1.frozen? ⟨w.heap.size, 2, none⟩ = false := (f1 _ _ (by simp; omega)).trans (by simp)
  have h2 : w1.frozen? ⟨w.heap.size + 1, 2, none⟩ = false := (f1 _ _ (by simp)).trans (by simp)
  have k3 : w1.cell? ⟨w.heap.size, 3, none⟩ = some (.int .i64 rg) := (q1 _ _ (by simp; omega)).trans (box_cell w _ 46 _ 3)
  have m3 : w1.cell? ⟨w.heap.size + 1, 3, none⟩ = some (.int .i64 0) := (q1 _ _ (by simp)).trans (box_cell2 w _ _ 46 3)
  have g3 : w1.frozen? ⟨w.heap.size, 3, none⟩ = false := (f1 _ _ (by simp; omega)).trans (by simp)
  have h3 : w1.frozen? ⟨w.heap.size + 1, 3, none⟩ = false := (f1 _ _ (by simp)).trans (by simp)
  have k4 : w1.cell? ⟨w.heap.size, 4, none⟩ = some (.int .i64 tm) := (q1 _ _ (by simp; omega)).trans (box_cell w _ 46 _ 4)
  have m4 : w1.cell? ⟨w.heap.size + 1, 4, none⟩ = some (.int .i64 0) := (q1 _ _ (by simp)).trans (box_cell2 w _ _ 46 4)
  have g4 : w1.frozen? ⟨w.heap.size, 4, none⟩ = false := (f1 _ _ (by simp; omega)).trans (by simp)
  have h4 : w1.frozen? ⟨w.heap.size + 1, 4, none⟩ = false := (f1 _ _ (by simp)).trans (by simp)
  have HR := Lib.hid R1; have BW := Lib.hid bw; have HT := Lib.hid (ht.below bw (Nat.le_refl _))
  clear R1 bw ht R2 q1 f1 B1
  go_wp2_with fail
  go_loop [11] (fun si => ∃ k : Nat, si = .int .i64 k ∧ k ≤ l.length) (fun si => l.length - (intOf si).toNat)
  case atStart => exact ⟨0, rfl, by omega⟩
  case round =>
    obtain ⟨k, rfl, hk⟩ := hrel
    by_cases hlt : k < l.length
    · obtain ⟨ad, rfl, _, c1⟩ := HR.out.get (vi_get hlt)
      obtain ⟨b0, b1⟩ := mv_get OK.out (List.getElem_mem hlt)
      obtain ⟨z, hz⟩ : ∃ z, z = l[k] := ⟨_, rfl⟩
      rw [← hz] at c1 b0 b1
      clear hz
      go_wp2_with fail
      go_round
      case rel => exact ⟨k + 1, by go_num, by omega⟩
      case measure => simp [intOf]; omega
    · obtain rfl : k = l.length := by omega
      go_wp2_with fail
      all_goals
        refine bodyPost_ret (v := .tuple #[.agg #[.int .i64 3, .int .u8 lt, .int .i64 x, .int .i64 rg, .int .i64 tm], .nilIface]) ?_ rfl ⟨rfl, ?_⟩
        · simp only [results, Try.results51]
          simp [go_sem, k0, k1, k2, k3, k4, m0, m1, m2, m3, m4]
        · repeat (first | (with_reducible exact BW.out) | (with_reducible refine Below.drew ?_) | (with_reducible refine Below.setCell ?_ (by simp) _))

set_option maxHeartbeats 2000000 in
theorem move_one (kd lt lf rg tm : Int) (len cap : Nat) (A : Option Addr) (to : List Int) (hto : to.length = len) (hlen : len ≤ 9223372036854775807) (w : World) (ht : RowAt w A (vi to))
    (e1 : (kd == 2) = false) (e2 : (kd == 3) = false) (hok : mvOk (refsOf kd lf rg) len = true) :
    Calls Try.prog 51 #[.agg #[.int .i64 kd, .int .u8 lt, .int .i64 lf, .int .i64 rg, .int .i64 tm], .slice A len cap] w fun e w' => e = .returned (.tuple #[.agg #[.int .i64 kd, .int .u8 lt, .int .i64 (lf), .int .i64 (rg), .int .i64 tm], .nilIface]) ∧ Below w.heap.size w w' := by
  obtain ⟨l, hl⟩ : ∃ l, l = refsOf kd lf rg := ⟨_, rfl⟩
  have hle : l.length ≤ 2 := by rw [hl]; exact refsOf_le kd lf rg
  have RR := refs_any kd lt lf rg tm
  rw [← hl] at RR hok
  have R2 := Lib.hid RR
  have HL := Lib.hid hl
  have OK := Lib.hid hok
  clear RR hl hok
  go_enter Try.func51, Try.ntmps51
  go_wp2_with fail
  (with_reducible refine (R2.out _).mono ?_)
  rintro e w1 ⟨A1, c1, rfl, R1, B1⟩
  have bw : Below w.heap.size w w1 := (((Below.refl _ _).alloc (Nat.le_refl _) _).alloc (by simp) _).trans (B1.mono (by simp; omega))
  have z1 : w.heap.size + 1 < w1.heap.size := by have hz := B1.size; simp at hz; omega
  obtain ⟨q1, f1⟩ := bcell B1
  have k0 : w1.cell? ⟨w.heap.size, 0, none⟩ = some (.int .i64 kd) := (q1 _ _ (by simp; omega)).trans (box_cell w _ 46 _ 0)
  have m0 : w1.cell? ⟨w.heap.size + 1, 0, none⟩ = some (.int .i64 0) := (q1 _ _ (by simp)).trans (box_cell2 w _ _ 46 0)
  have g0 : w1.frozen? ⟨w.heap.size, 0, none⟩ = false := (f1 _ _ (by simp; omega)).trans (by simp)
  have h0 : w1.frozen? ⟨w.heap.size + 1, 0, none⟩ = false := (f1 _ _ (by simp)).trans (by simp)
  have k1 : w1.cell? ⟨w.heap.size, 1, none⟩ = some (.int .u8 lt) := (q1 _ _ (by simp; omega)).trans (box_cell w _ 46 _ 1)
  have m1 : w1.cell? ⟨w.heap.size + 1, 1, none⟩ = some (.int .u8 0) := (q1 _ _ (by simp)).trans (box_cell2 w _ _ 46 1)
  have g1 : w1.frozen? ⟨w.heap.size, 1, none⟩ = false := (f1 _ _ (by simp; omega)).trans (by simp)
  have h1 : w1.frozen? ⟨w.heap.size + 1, 1, none⟩ = false := (f1 _ _ (by simp)).trans (by simp)
  have k2 : w1.cell? ⟨w.heap.size, 2, none⟩ = some (.int .i64 lf) := (q1 _ _ (by simp; omega)).trans (box_cell w _ 46 _ 2)
  have m2 : w1.cell? ⟨w.heap.size + 1, 2, none⟩ = some (.int .i64 0) := (q1 _ _ (by simp)).trans (box_cell2 w _ _ 46 2)
  have g2 : w1.frozen? ⟨w.heap.size, 2, none⟩ = false := (f1 _ _ (by simp; omega)).trans (by simp)
  have h2 : w1.frozen? ⟨w.heap.size + 1, 2, none⟩ = false := (f1 _ _ (by simp)).trans (by simp)
  have k3 : w1.cell? ⟨w.heap.size, 3, none⟩ = some (.int .i64 rg) := (q1 _ _ (by simp; omega)).trans (box_cell w _ 46 _ 3)
  have m3 : w1.cell? ⟨w.heap.size + 1, 3, none⟩ = some (.int .i64 0) := (q1 _ _ (by simp)).trans (box_cell2 w _ _ 46 3)
  have g3 : w1.frozen? ⟨w.heap.size, 3, none⟩ = false := (f1 _ _ (by simp; omega)).trans (by simp)
  have h3 : w1.frozen? ⟨w.heap.size + 1, 3, none⟩ = false := (f1 _ _ (by simp)).trans (by simp)
  have k4 : w1.cell? ⟨w.heap.size, 4, none⟩ = some (.int .i64 tm) := (q1 _ _ (by simp; omega)).trans (box_cell w _ 46 _ 4)
  have m4 : w1.cell? ⟨w.heap.size + 1, 4, none⟩ = some (.int .i64 0) := (q1 _ _ (by simp)).trans (box_cell2 w _ _ 46 4)
  have g4 : w1.frozen? ⟨w.heap.size, 4, none⟩ = false := (f1 _ _ (by simp; omega)).trans (by simp)
  have h4 : w1.frozen? ⟨w.heap.size + 1, 4, none⟩ = false := (f1 _ _ (by simp)).trans (by simp)
  have HR := Lib.hid R1; have BW := Lib.hid bw; have HT := Lib.hid (ht.below bw (Nat.le_refl _))
  clear R1 bw ht R2 q1 f1 B1
  go_wp2_with fail
  go_loop [11] (fun si => ∃ k : Nat, si = .int .i64 k ∧ k ≤ l.length) (fun si => l.length - (intOf si).toNat)
  case atStart => exact ⟨0, rfl, by omega⟩
  case round =>
    obtain ⟨k, rfl, hk⟩ := hrel
    by_cases hlt : k < l.length
    · obtain ⟨ad, rfl, _, c1⟩ := HR.out.get (vi_get hlt)
      obtain ⟨b0, b1⟩ := mv_get OK.out (List.getElem_mem hlt)
      obtain ⟨z, hz⟩ : ∃ z, z = l[k] := ⟨_, rfl⟩
      rw [← hz] at c1 b0 b1
      clear hz
      go_wp2_with fail
      go_round
      case rel => exact ⟨k + 1, by go_num, by omega⟩
      case measure => simp [intOf]; omega
    · obtain rfl : k = l.length := by omega
      go_wp2_with fail
      all_goals
        refine bodyPost_ret (v := .tuple #[.agg #[.int .i64 kd, .int .u8 lt, .int .i64 lf, .int .i64 rg, .int .i64 tm], .nilIface]) ?_ rfl ⟨rfl, ?_⟩
        · simp only [results, Try.results51]
          simp [go_sem, k0, k1, k2, k3, k4, m0, m1, m2, m3, m4]
        · repeat (first | (with_reducible exact BW.out) | (with_reducible refine Below.drew ?_) | (with_reducible refine Below.setCell ?_ (by simp) _))

/-- a rule moved: its value and an error's number. -/
def mvVal (kd lt lf rg tm : Int) (to : List Int) : Value := if mvOk (refsOf kd lf rg) to.length then .agg #[.int .i64 kd, .int .u8 lt, .int .i64 (mvL kd lf to), .int .i64 (mvR kd rg to), .int .i64 tm] else .agg #[.int .i64 0, .int .u8 0, .int .i64 0, .int .i64 0, .int .i64 0]
def mvCode (kd lf rg : Int) (to : List Int) : Int := if mvOk (refsOf kd lf rg) to.length then 0 else 1

theorem move_any (kd lt lf rg tm : Int) (len cap : Nat) (A : Option Addr) (to : List Int) (hto : to.length = len) (hlen : len ≤ 9223372036854775807) (w : World) (ht : RowAt w A (vi to)) :
    Calls Try.prog 51 #[.agg #[.int .i64 kd, .int .u8 lt, .int .i64 lf, .int .i64 rg, .int .i64 tm], .slice A len cap] w fun e w' => e = .returned (.tuple #[mvVal kd lt lf rg tm to, errv (mvCode kd lf rg to)]) ∧ Below w.heap.size w w' := by
  subst hto
  cases hok : mvOk (refsOf kd lf rg) to.length
  · have := move_bad kd lt lf rg tm _ cap A to rfl hlen w ht hok
    unfold mvVal mvCode
    rw [hok]
    exact this
  · unfold mvVal mvCode mvL mvR
    rw [hok]
    by_cases h2 : kd = 2
    · subst h2
      exact move_two lt lf rg tm _ cap A to rfl hlen w ht hok
    · by_cases h3 : kd = 3
      · subst h3
        exact move_three lt lf rg tm _ cap A to rfl hlen w ht hok
      · have := move_one kd lt lf rg tm _ cap A to rfl hlen w ht (by rw [beq_eq_false_iff_ne]; exact h2) (by rw [beq_eq_false_iff_ne]; exact h3) hok
        rw [if_pos rfl, if_neg (by omega), if_neg h2]
        exact this

end Go.Proofs.Ytcbahojefglakaa
