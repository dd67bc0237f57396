/- The walk of the law DigestGroups. -/
import Derived.Test.YtebjdlimboifaaaDigAwake
import Derived.Test.YtebjdlimboifaaaOpenDigest
import Derived.Test.YtebjdlimboifaaaDigRef
import Derived.Test.YtebjdlimboifaaaRegLin
import Derived.Deep.DeepCutAuto
namespace Go.Proofs.Ytebjdlimboifaaa
set_option linter.unusedVariables false
set_option linter.unusedSimpArgs false
open Go.RowKit Go.Lib

theorem grp1 (a1 b1 b2 c1 c2 : Int) : red (red (a1 * b2 + b1) * c2 + c1) = red (a1 * red (b2 * c2) + red (b1 * c2 + c1)) := by
  rw [red_add_r, ← red_add_l, red_mul_l, red_add_l, ← red_add_l (a1 * red (b2 * c2)), red_mul_r, red_add_l, Int.add_mul, Int.mul_assoc, Int.add_assoc]
theorem grp2 (a2 b2 c2 : Int) : red (red (a2 * b2) * c2) = red (a2 * red (b2 * c2)) := by
  rw [red_mul_l, red_mul_r, Int.mul_assoc]

theorem Box.new_ {w : World} {g : Nat} {t : TypeId} {cs : Array Value} (hg : g = w.heap.size) : Box (w.alloc (.cells cs t)) g t cs := by subst hg; exact Box.new w t cs
theorem Box.keep {w w' : World} {g : Nat} {t : TypeId} {cs : Array Value} (h : Box w g t cs) (hb : Below w.heap.size w w') : Box w' g t cs := h.below hb h.lt
theorem Box.set2 {w : World} {g : Nat} {t : TypeId} {p q x y : Value} (h : Box w g t #[p, q]) : Box ((w.setCell ⟨g, 0, none⟩ x).setCell ⟨g, 1, none⟩ y) g t #[x, y] := (h.set_ 0 x).set_ 1 y
theorem Below.keep {a w w' : World} (h : Below a.heap.size a w) (hb : Below w.heap.size w w') : Below a.heap.size a w' := h.trans (hb.mono h.size)
theorem Below.al {a w : World} (h : Below a.heap.size a w) (o : Obj) : Below a.heap.size a (w.alloc o) := h.alloc h.size o
abbrev J (a1 a2 b1 b2 r1 r2 : Int) : Prop := ∀ W : World, Calls Try.prog 16 #[.agg #[.int .u64 a1, .int .u64 a2], .agg #[.int .u64 b1, .int .u64 b2]] W fun e w' => e = .returned (.agg #[.int .u64 r1, .int .u64 r2]) ∧ Below W.heap.size W w'

attribute [local go_sem ↓] Go.wp_at_zero Go.wp_at_succ
set_option maxHeartbeats 4000000 in
theorem groups_of (a1 a2 b1 b2 c1 c2 x1 x2 y1 y2 r1 r2 s1 s2 : Int) (w : World)
    (R : Hid (∀ W : World, Calls Try.prog 19 #[.agg #[.int .u64 a1, .int .u64 a2]] W fun e w' => e = .returned (.agg #[.int .u64 s1, .int .u64 s2]) ∧ Below W.heap.size W w'))
    (J1 : Hid (J a1 a2 b1 b2 x1 x2)) (J2 : Hid (J x1 x2 c1 c2 r1 r2)) (J3 : Hid (J b1 b2 c1 c2 y1 y2)) (J4 : Hid (J a1 a2 y1 y2 r1 r2)) (J5 : Hid (J 0 1 a1 a2 s1 s2)) (J6 : Hid (J a1 a2 0 1 s1 s2)) :
    Calls Try.prog 5 #[.agg #[.int .u64 a1, .int .u64 a2], .agg #[.int .u64 b1, .int .u64 b2], .agg #[.int .u64 c1, .int .u64 c2]] w fun e w' => e = .returned (.bool true) ∧ Below w.heap.size w w' := by
  have AW := Lib.hid awake_any
  go_enter Try.func5, Try.ntmps5
  go_wp2_with fail
  (with_reducible refine (AW.out _).mono ?_)
  rintro e w1 ⟨rfl, B1⟩
  have z1 : w.heap.size + 2 < w1.heap.size := by have hz := B1.size; (try simp at hz); omega
  have PAa := Lib.hid ((((Box.new w 26 #[.int .u64 a1, .int .u64 a2]).alloc _).alloc _).below B1 (by simp; omega))
  have PAb := Lib.hid (((Box.new (w.alloc (.cells #[.int .u64 a1, .int .u64 a2] 26)) 26 #[.int .u64 b1, .int .u64 b2]).alloc _).below B1 (by simp))
  have PAc := Lib.hid ((Box.new ((w.alloc (.cells #[.int .u64 a1, .int .u64 a2] 26)).alloc (.cells #[.int .u64 b1, .int .u64 b2] 26)) 26 #[.int .u64 c1, .int .u64 c2]).below B1 (by simp))
  have BWA := Lib.hid (((((Below.refl w.heap.size w).alloc (Nat.le_refl _) _).alloc (by simp) _).alloc (by simp; omega) _).trans (B1.mono (by simp; omega)))
  clear B1
  have PB : Box w1 (w.heap.size + 1) 26 #[.int .u64 b1, .int .u64 b2] := (by have h := PAb.out; simpa using h)
  have PC : Box w1 (w.heap.size + 1 + 1) 26 #[.int .u64 c1, .int .u64 c2] := (by have h := PAc.out; simpa using h)
  have hn3 : w.heap.size < w1.heap.size := by omega
  have hA : Box w1 w.heap.size 26 #[.int .u64 a1, .int .u64 a2] := PAa.out
  go_wp2_with fail
  refine region_lin [.val (fun v _ => v = .agg #[.int .u64 0, .int .u64 1]), .val (fun v _ => v = .agg #[.int .u64 a1, .int .u64 a2]), .val (fun v _ => v = .agg #[.int .u64 s1, .int .u64 s2]), .new 26 #[.int .u64 0, .int .u64 0] #[.int .u64 0, .int .u64 1] 5, .new 26 #[.int .u64 0, .int .u64 0] #[.int .u64 s1, .int .u64 s2] 6, .put 26 #[.int .u64 0, .int .u64 0] #[.int .u64 0, .int .u64 1] 7, .put 26 #[.int .u64 0, .int .u64 0] #[.int .u64 s1, .int .u64 s2] 8]
    [[], [], [(12, 1)], [], [], [(11, 0)], [(13, 2)]] [(0, 0), (0, 0), (0, 0), (1, 5), (1, 6), (2, 7), (2, 8)] 39 (by kernel_rfl) rfl rfl (by kernel_rfl) ⟨Stab.pure _ _ _, Stab.pure _ _ _, Stab.pure _ _ _, ⟨rfl, rfl, rfl⟩, ⟨rfl, rfl, rfl⟩, trivial⟩ ⟨?_, ?_, ?_, ?_, ?_, ?_, ?_, trivial⟩ ?_
  · intro wx hb
    intro K hK
    go_simp
    (with_reducible refine (unit_any _).mono ?_)
    rintro e wa ⟨rfl, Ba⟩
    exact hK _ _ rfl ⟨rfl, Ba⟩
  · intro wx hb
    intro K hK
    have mm := Box.below (hA) hb (by omega)
    have m0 : wx.cell? ⟨w.heap.size, 0, none⟩ = some (.int .u64 a1) := mm.cell 0
    have m1 : wx.cell? ⟨w.heap.size, 1, none⟩ = some (.int .u64 a2) := mm.cell 1
    clear mm
    go_simp
    exact hK _ _ rfl ⟨rfl, Below.refl _ _⟩
  · intro wx hb
    rintro _ rfl
    intro K hK
    go_simp
    (with_reducible refine (R.out _).mono ?_)
    rintro e wa ⟨rfl, Ba⟩
    exact hK _ _ rfl ⟨rfl, Ba⟩
  · intro wx hb
    intro K hK
    go_simp
    exact hK _ _ rfl ⟨rfl, rfl⟩
  · intro wx hb
    intro K hK
    go_simp
    exact hK _ _ rfl ⟨rfl, rfl⟩
  · intro wx hb
    intro g hg hbx
    rintro _ rfl
    intro K hK
    have c0 : wx.cell? ⟨g, 0, none⟩ = some (.int .u64 0) := hbx.cell 0
    have f0 := hbx.free 0
    have c1 : wx.cell? ⟨g, 1, none⟩ = some (.int .u64 0) := hbx.cell 1
    have f1 := hbx.free 1
    clear hb
    go_simp
    exact hK _ _ rfl ((((Stored.start hbx).set 0 _).set 1 _))
  · intro wx hb
    intro g hg hbx
    rintro _ rfl
    intro K hK
    have c0 : wx.cell? ⟨g, 0, none⟩ = some (.int .u64 0) := hbx.cell 0
    have f0 := hbx.free 0
    have c1 : wx.cell? ⟨g, 1, none⟩ = some (.int .u64 0) := hbx.cell 1
    have f1 := hbx.free 1
    clear hb
    go_simp
    exact hK _ _ rfl ((((Stored.start hbx).set 0 _).set 1 _))
  intro w3 B3
  rintro _ rfl
  rintro _ rfl
  rintro _ rfl
  intro gu hgu Bu
  intro gr hgr Br
  intro htwo
  simp only [Act.put, List.setIfInBounds_toArray, List.set_cons_zero, List.set_cons_succ]
  have hA3 : Box w3 w.heap.size 26 #[.int .u64 a1, .int .u64 a2] := PAa.out.below B3 hn3
  have hB3 : Box w3 (w.heap.size + 1) 26 #[.int .u64 b1, .int .u64 b2] := PB.below B3 (by omega)
  have hC3 : Box w3 (w.heap.size + 1 + 1) 26 #[.int .u64 c1, .int .u64 c2] := PC.below B3 (by omega)
  have BW3 := Lib.hid (bkeep BWA.out B3)
  have s3 := B3.size; have lu := Bu.lt; have lr := Br.lt
  go_wp2_with fail
  refine region_lin [.val (fun v _ => v = .agg #[.int .u64 a1, .int .u64 a2]), .val (fun v _ => v = .agg #[.int .u64 b1, .int .u64 b2]), .val (fun v _ => v = .agg #[.int .u64 x1, .int .u64 x2]), .val (fun v _ => v = .agg #[.int .u64 c1, .int .u64 c2]), .val (fun v _ => v = .agg #[.int .u64 r1, .int .u64 r2]), .val (fun v _ => v = .agg #[.int .u64 a1, .int .u64 a2]), .val (fun v _ => v = .agg #[.int .u64 b1, .int .u64 b2]), .val (fun v _ => v = .agg #[.int .u64 c1, .int .u64 c2]), .val (fun v _ => v = .agg #[.int .u64 y1, .int .u64 y2]), .val (fun v _ => v = .agg #[.int .u64 r1, .int .u64 r2]), .val (fun v _ => v = .bool true), .val (fun v _ => v = .bool true), .val (fun v _ => v = .agg #[.int .u64 0, .int .u64 1]), .val (fun v _ => v = .agg #[.int .u64 a1, .int .u64 a2]), .val (fun v _ => v = .agg #[.int .u64 s1, .int .u64 s2]), .val (fun v _ => v = .agg #[.int .u64 s1, .int .u64 s2]), .val (fun v _ => v = .bool true), .val (fun v _ => v = .bool true), .val (fun v _ => v = .bool true), .val (fun v _ => v = .agg #[.int .u64 a1, .int .u64 a2]), .val (fun v _ => v = .agg #[.int .u64 0, .int .u64 1]), .val (fun v _ => v = .agg #[.int .u64 s1, .int .u64 s2]), .val (fun v _ => v = .agg #[.int .u64 s1, .int .u64 s2]), .val (fun v _ => v = .bool true), .val (fun v _ => v = .bool true), .val (fun v _ => v = .bool true)]
    [[], [], [(14, 0), (15, 1)], [], [(16, 2), (17, 3)], [], [], [], [(20, 6), (21, 7)], [(19, 5), (22, 8)], [(18, 4), (23, 9)], [(24, 10)], [(25, 11)], [(25, 11)], [(26, 12), (27, 13), (25, 11)], [(25, 11)], [(28, 14), (29, 15), (25, 11)], [(25, 11), (30, 16)], [(31, 17)], [(32, 18)], [(32, 18)], [(33, 19), (34, 20), (32, 18)], [(32, 18)], [(35, 21), (36, 22), (32, 18)], [(32, 18), (37, 23)], [(38, 24)]] [(0, 0), (0, 0), (0, 0), (0, 0), (0, 0), (0, 0), (0, 0), (0, 0), (0, 0), (0, 0), (0, 0), (0, 0), (0, 0), (0, 0), (0, 0), (0, 0), (0, 0), (0, 0), (0, 0), (0, 0), (0, 0), (0, 0), (0, 0), (0, 0), (0, 0), (0, 0)] 39 (by kernel_rfl) rfl rfl (by kernel_rfl) ⟨Stab.pure _ _ _, Stab.pure _ _ _, Stab.pure _ _ _, Stab.pure _ _ _, Stab.pure _ _ _, Stab.pure _ _ _, Stab.pure _ _ _, Stab.pure _ _ _, Stab.pure _ _ _, Stab.pure _ _ _, Stab.pure _ _ _, Stab.pure _ _ _, Stab.pure _ _ _, Stab.pure _ _ _, Stab.pure _ _ _, Stab.pure _ _ _, Stab.pure _ _ _, Stab.pure _ _ _, Stab.pure _ _ _, Stab.pure _ _ _, Stab.pure _ _ _, Stab.pure _ _ _, Stab.pure _ _ _, Stab.pure _ _ _, Stab.pure _ _ _, Stab.pure _ _ _, trivial⟩ ⟨?_, ?_, ?_, ?_, ?_, ?_, ?_, ?_, ?_, ?_, ?_, ?_, ?_, ?_, ?_, ?_, ?_, ?_, ?_, ?_, ?_, ?_, ?_, ?_, ?_, ?_, trivial⟩ ?_
  · intro wx hb
    intro K hK
    have mm := Box.below (hA3) hb (by omega)
    have m0 : wx.cell? ⟨w.heap.size, 0, none⟩ = some (.int .u64 a1) := mm.cell 0
    have m1 : wx.cell? ⟨w.heap.size, 1, none⟩ = some (.int .u64 a2) := mm.cell 1
    clear mm
    go_simp
    exact hK _ _ rfl ⟨rfl, Below.refl _ _⟩
  · intro wx hb
    intro K hK
    have mm := Box.below (hB3) hb (by omega)
    have m0 : wx.cell? ⟨(w.heap.size + 1), 0, none⟩ = some (.int .u64 b1) := mm.cell 0
    have m1 : wx.cell? ⟨(w.heap.size + 1), 1, none⟩ = some (.int .u64 b2) := mm.cell 1
    clear mm
    go_simp
    exact hK _ _ rfl ⟨rfl, Below.refl _ _⟩
  · intro wx hb
    rintro _ rfl
    rintro _ rfl
    intro K hK
    go_simp
    (with_reducible refine (J1.out _).mono ?_)
    rintro e wa ⟨rfl, Ba⟩
    exact hK _ _ rfl ⟨rfl, Ba⟩
  · intro wx hb
    intro K hK
    have mm := Box.below (hC3) hb (by omega)
    have m0 : wx.cell? ⟨(w.heap.size + 1 + 1), 0, none⟩ = some (.int .u64 c1) := mm.cell 0
    have m1 : wx.cell? ⟨(w.heap.size + 1 + 1), 1, none⟩ = some (.int .u64 c2) := mm.cell 1
    clear mm
    go_simp
    exact hK _ _ rfl ⟨rfl, Below.refl _ _⟩
  · intro wx hb
    rintro _ rfl
    rintro _ rfl
    intro K hK
    go_simp
    (with_reducible refine (J2.out _).mono ?_)
    rintro e wa ⟨rfl, Ba⟩
    exact hK _ _ rfl ⟨rfl, Ba⟩
  · intro wx hb
    intro K hK
    have mm := Box.below (hA3) hb (by omega)
    have m0 : wx.cell? ⟨w.heap.size, 0, none⟩ = some (.int .u64 a1) := mm.cell 0
    have m1 : wx.cell? ⟨w.heap.size, 1, none⟩ = some (.int .u64 a2) := mm.cell 1
    clear mm
    go_simp
    exact hK _ _ rfl ⟨rfl, Below.refl _ _⟩
  · intro wx hb
    intro K hK
    have mm := Box.below (hB3) hb (by omega)
    have m0 : wx.cell? ⟨(w.heap.size + 1), 0, none⟩ = some (.int .u64 b1) := mm.cell 0
    have m1 : wx.cell? ⟨(w.heap.size + 1), 1, none⟩ = some (.int .u64 b2) := mm.cell 1
    clear mm
    go_simp
    exact hK _ _ rfl ⟨rfl, Below.refl _ _⟩
  · intro wx hb
    intro K hK
    have mm := Box.below (hC3) hb (by omega)
    have m0 : wx.cell? ⟨(w.heap.size + 1 + 1), 0, none⟩ = some (.int .u64 c1) := mm.cell 0
    have m1 : wx.cell? ⟨(w.heap.size + 1 + 1), 1, none⟩ = some (.int .u64 c2) := mm.cell 1
    clear mm
    go_simp
    exact hK _ _ rfl ⟨rfl, Below.refl _ _⟩
  · intro wx hb
    rintro _ rfl
    rintro _ rfl
    intro K hK
    go_simp
    (with_reducible refine (J3.out _).mono ?_)
    rintro e wa ⟨rfl, Ba⟩
    exact hK _ _ rfl ⟨rfl, Ba⟩
  · intro wx hb
    rintro _ rfl
    rintro _ rfl
    intro K hK
    go_simp
    (with_reducible refine (J4.out _).mono ?_)
    rintro e wa ⟨rfl, Ba⟩
    exact hK _ _ rfl ⟨rfl, Ba⟩
  · intro wx hb
    rintro _ rfl
    rintro _ rfl
    intro K hK
    go_simp
    exact hK _ _ rfl ⟨rfl, Below.refl _ _⟩
  · intro wx hb
    rintro _ rfl
    intro K hK
    go_simp
    exact hK _ _ rfl ⟨rfl, Below.refl _ _⟩
  · intro wx hb
    rintro _ rfl
    refine ⟨fun _ => ?_, fun h => absurd (show true = false from h) (by decide)⟩
    intro K hK
    have mm := Box.below (Bu) hb (by omega)
    have m0 : wx.cell? ⟨gu, 0, none⟩ = some (.int .u64 0) := mm.cell 0
    have m1 : wx.cell? ⟨gu, 1, none⟩ = some (.int .u64 1) := mm.cell 1
    clear mm
    go_simp
    exact hK _ _ rfl ⟨rfl, Below.refl _ _⟩
  · intro wx hb
    rintro _ rfl
    refine ⟨fun _ => ?_, fun h => absurd (show true = false from h) (by decide)⟩
    intro K hK
    have mm := Box.below (hA3) hb (by omega)
    have m0 : wx.cell? ⟨w.heap.size, 0, none⟩ = some (.int .u64 a1) := mm.cell 0
    have m1 : wx.cell? ⟨w.heap.size, 1, none⟩ = some (.int .u64 a2) := mm.cell 1
    clear mm
    go_simp
    exact hK _ _ rfl ⟨rfl, Below.refl _ _⟩
  · intro wx hb
    rintro _ rfl
    rintro _ rfl
    rintro _ rfl
    refine ⟨fun _ => ?_, fun h => absurd (show true = false from h) (by decide)⟩
    intro K hK
    go_simp
    (with_reducible refine (J5.out _).mono ?_)
    rintro e wa ⟨rfl, Ba⟩
    exact hK _ _ rfl ⟨rfl, Ba⟩
  · intro wx hb
    rintro _ rfl
    refine ⟨fun _ => ?_, fun h => absurd (show true = false from h) (by decide)⟩
    intro K hK
    have mm := Box.below (Br) hb (by omega)
    have m0 : wx.cell? ⟨gr, 0, none⟩ = some (.int .u64 s1) := mm.cell 0
    have m1 : wx.cell? ⟨gr, 1, none⟩ = some (.int .u64 s2) := mm.cell 1
    clear mm
    go_simp
    exact hK _ _ rfl ⟨rfl, Below.refl _ _⟩
  · intro wx hb
    rintro _ rfl
    rintro _ rfl
    rintro _ rfl
    refine ⟨fun _ => ?_, fun h => absurd (show true = false from h) (by decide)⟩
    intro K hK
    go_simp
    exact hK _ _ rfl ⟨rfl, Below.refl _ _⟩
  · intro wx hb
    rintro _ rfl
    rintro _ rfl
    intro K hK
    go_simp
    exact hK _ _ rfl ⟨rfl, Below.refl _ _⟩
  · intro wx hb
    rintro _ rfl
    intro K hK
    go_simp
    exact hK _ _ rfl ⟨rfl, Below.refl _ _⟩
  · intro wx hb
    rintro _ rfl
    refine ⟨fun _ => ?_, fun h => absurd (show true = false from h) (by decide)⟩
    intro K hK
    have mm := Box.below (hA3) hb (by omega)
    have m0 : wx.cell? ⟨w.heap.size, 0, none⟩ = some (.int .u64 a1) := mm.cell 0
    have m1 : wx.cell? ⟨w.heap.size, 1, none⟩ = some (.int .u64 a2) := mm.cell 1
    clear mm
    go_simp
    exact hK _ _ rfl ⟨rfl, Below.refl _ _⟩
  · intro wx hb
    rintro _ rfl
    refine ⟨fun _ => ?_, fun h => absurd (show true = false from h) (by decide)⟩
    intro K hK
    have mm := Box.below (Bu) hb (by omega)
    have m0 : wx.cell? ⟨gu, 0, none⟩ = some (.int .u64 0) := mm.cell 0
    have m1 : wx.cell? ⟨gu, 1, none⟩ = some (.int .u64 1) := mm.cell 1
    clear mm
    go_simp
    exact hK _ _ rfl ⟨rfl, Below.refl _ _⟩
  · intro wx hb
    rintro _ rfl
    rintro _ rfl
    rintro _ rfl
    refine ⟨fun _ => ?_, fun h => absurd (show true = false from h) (by decide)⟩
    intro K hK
    go_simp
    (with_reducible refine (J6.out _).mono ?_)
    rintro e wa ⟨rfl, Ba⟩
    exact hK _ _ rfl ⟨rfl, Ba⟩
  · intro wx hb
    rintro _ rfl
    refine ⟨fun _ => ?_, fun h => absurd (show true = false from h) (by decide)⟩
    intro K hK
    have mm := Box.below (Br) hb (by omega)
    have m0 : wx.cell? ⟨gr, 0, none⟩ = some (.int .u64 s1) := mm.cell 0
    have m1 : wx.cell? ⟨gr, 1, none⟩ = some (.int .u64 s2) := mm.cell 1
    clear mm
    go_simp
    exact hK _ _ rfl ⟨rfl, Below.refl _ _⟩
  · intro wx hb
    rintro _ rfl
    rintro _ rfl
    rintro _ rfl
    refine ⟨fun _ => ?_, fun h => absurd (show true = false from h) (by decide)⟩
    intro K hK
    go_simp
    exact hK _ _ rfl ⟨rfl, Below.refl _ _⟩
  · intro wx hb
    rintro _ rfl
    rintro _ rfl
    intro K hK
    go_simp
    exact hK _ _ rfl ⟨rfl, Below.refl _ _⟩
  · intro wx hb
    rintro _ rfl
    intro K hK
    go_simp
    exact hK _ _ rfl ⟨rfl, Below.refl _ _⟩
  intro w4 B4
  rintro _ rfl
  rintro _ rfl
  rintro _ rfl
  rintro _ rfl
  rintro _ rfl
  rintro _ rfl
  rintro _ rfl
  rintro _ rfl
  rintro _ rfl
  rintro _ rfl
  rintro _ rfl
  rintro _ rfl
  rintro _ rfl
  rintro _ rfl
  rintro _ rfl
  rintro _ rfl
  rintro _ rfl
  rintro _ rfl
  rintro _ rfl
  rintro _ rfl
  rintro _ rfl
  rintro _ rfl
  rintro _ rfl
  rintro _ rfl
  rintro _ rfl
  rintro _ rfl
  intro htwo
  simp only [Act.put, List.setIfInBounds_toArray, List.set_cons_zero, List.set_cons_succ]
  go_wp2_with fail
  go_ret
  exact ⟨rfl, bkeep BW3.out B4⟩

theorem law_groups (a1 a2 b1 b2 c1 c2 : Int) (ha : DigOk a1 a2) (hb : DigOk b1 b2) (hc : DigOk c1 c2) (w : World) :
    Calls Try.prog 5 #[.agg #[.int .u64 a1, .int .u64 a2], .agg #[.int .u64 b1, .int .u64 b2], .agg #[.int .u64 c1, .int .u64 c2]] w fun e w' => e = .returned (.bool true) ∧ Below w.heap.size w w' := by
  refine groups_of a1 a2 b1 b2 c1 c2 (red (a1 * b2 + b1)) (red (a2 * b2)) (red (b1 * c2 + c1)) (red (b2 * c2)) (red (red (a1 * b2 + b1) * c2 + c1)) (red (red (a2 * b2) * c2)) (red a1) (red a2) w
    (Lib.hid fun W => rred_any _ _ ha.va ha.sc W) (Lib.hid fun W => join_any _ _ _ _ ha.va ha.sc hb.va hb.sc W) (Lib.hid fun W => join_any _ _ _ _ (u_red _) (u_red _) hc.va hc.sc W)
    (Lib.hid fun W => join_any _ _ _ _ hb.va hb.sc hc.va hc.sc W) (Lib.hid fun W => ?_) (Lib.hid fun W => ?_) (Lib.hid fun W => ?_)
  · rw [grp1, grp2]; exact join_any _ _ _ _ ha.va ha.sc (u_red _) (u_red _) W
  · have := join_any 0 1 a1 a2 ⟨by omega, by omega⟩ ⟨by omega, by omega⟩ ha.va ha.sc W
    simpa using this
  · have := join_any a1 a2 0 1 ha.va ha.sc ⟨by omega, by omega⟩ ⟨by omega, by omega⟩ W
    simpa using this
end Go.Proofs.Ytebjdlimboifaaa
