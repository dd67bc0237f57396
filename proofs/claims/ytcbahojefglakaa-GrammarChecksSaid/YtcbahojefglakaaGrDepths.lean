/- Depths, its reference, Ints, and the walk of the law GrammarDepths. Written by wip/gen/grdep.py. -/
import Derived.Test.YtcbahojefglakaaGrExpands
namespace Go.Proofs.Ytcbahojefglakaa
set_option linter.unusedVariables false
set_option linter.unusedSimpArgs false
open Go.RowKit Go.Lib
attribute [local go_sem ↓] Go.wp_at_zero Go.wp_at_succ
def maxI (x y : Int) : Int := if y > x then y else x
def dep1 (acc : List Int) (r : Rl) : Int :=
  if r.kd = 1 then 0 else if r.kd = 2 then 1 + maxI (acc.getD (r.lf - 1).toNat 0) (acc.getD (r.rg - 1).toNat 0) else 1 + acc.getD (r.lf - 1).toNat 0
def deps (g : List Rl) : List Int := fwd dep1 [] g
theorem deps_len (g : List Rl) : (deps g).length = g.length := by unfold deps; rw [fwd_len]; simp
theorem dep_step {acc : List Int} {g : List Rl} {i : Nat} {r : Rl} (h : g[i]? = some r) : fwd dep1 acc (g.drop i) = fwd dep1 (acc ++ [dep1 acc r]) (g.drop (i + 1)) := by rw [drop_of h]; rfl
def DB (acc : List Int) : Prop := ∀ j, j < acc.length → 0 ≤ acc.getD j 0 ∧ acc.getD j 0 ≤ j
theorem DB.snoc {acc : List Int} {v : Int} (h : DB acc) (h0 : 0 ≤ v) (h1 : v ≤ acc.length) : DB (acc ++ [v]) := by
  intro j hj
  rw [List.getD_eq_getElem?_getD]
  by_cases hl : j < acc.length
  · rw [List.getElem?_append_left hl, ← List.getD_eq_getElem?_getD]; exact h j hl
  · have : j = acc.length := by simp at hj; omega
    subst this
    rw [List.getElem?_append_right (Nat.le_refl _), Nat.sub_self]
    exact ⟨h0, h1⟩
theorem arr_pad {acc : List Int} {n : Nat} (h : acc.length < n) : arr (acc ++ [0]) n = arr acc n := by
  unfold arr
  have e : n - acc.length = (n - (acc ++ [0]).length) + 1 := by simp; omega
  rw [e, List.replicate_succ, List.append_assoc]
  rfl
theorem max_ints (ats : Array TypeId) (ty : TypeId) (x y : Int) : Builtin.max_ ats ty #[.int .i64 x, .int .i64 y] = pure (.int .i64 (maxI x y)) := rfl
set_option maxRecDepth 100000 in
set_option maxHeartbeats 8000000 in
theorem depths_ok (g : List Rl) (n c : Nat) (A : Option Addr) (hl : g.length = n) (hn : n ≤ 1000000) (h0 : gcode 0 g = 0) (cells : List Value) (hcells : cells = gc g) (L : List Int)
    (HC : Hid (∀ w, RowAt w A cells → Calls Try.prog 45 #[.slice A n c] w (IntsOut L .nilIface w))) (w : World) (ha : RowAt w A cells) :
    Calls Try.prog 23 #[.slice A n c] w (IntsOut (deps g) .nilIface w) := by
  obtain ⟨D, hD⟩ : ∃ D, D = deps g := ⟨_, rfl⟩
  rw [← hD]
  have HA := Lib.hid ha; have HL := Lib.hid hl; have H0 := Lib.hid h0; have HD := Lib.hid hD; have HCE := Lib.hid hcells
  clear ha hl h0 hD hcells
  go_enter Try.func23, Try.ntmps23
  go_wp2_with fail
  (with_reducible refine (HC.out _ HA.out).mono ?_)
  rintro e w1 ⟨A1, c1, rfl, R1, B1⟩
  have BW1 := Lib.hid B1
  have HA1 := Lib.hid (HCE.out ▸ HA.out.below B1 (Nat.le_refl _))
  have mk := fun w => mk_ints n (by omega) w
  clear R1 B1
  go_wp2_with fail
  clear mk
  have BG := Lib.hid (Box.new w1 3 (arr [] n))
  have B0 := Lib.hid (balloc BW1.out (.cells (arr [] n) 3))
  have HA2 := Lib.hid (HA1.out.below (balloc (Below.refl w1.heap.size w1) (.cells (arr [] n) 3)) (Nat.le_refl _))
  have zg : w.heap.size ≤ w1.heap.size := BW1.out.size
  go_loopw [7, 8, 22] (fun _ _ si wr => ∃ (i : Nat) (acc : List Int), si = .int .i64 (i : Int) ∧ i ≤ n ∧ Hid (acc.length = i ∧ fwd dep1 acc (g.drop i) = D ∧ DB acc) ∧ Hid (Box wr w1.heap.size 3 (arr acc n)) ∧ Hid (Below w1.heap.size w1 wr)) (fun _ _ si _ => n - (intOf si).toNat)
  case atStart => exact ⟨0, [], rfl, by omega, Lib.hid ⟨rfl, HD.out.symm, fun j hj => by simp at hj⟩, BG, Lib.hid ((Below.refl w1.heap.size w1).alloc (Nat.le_refl _) _)⟩
  case round =>
    obtain ⟨i, acc, rfl, hi, HG, HB, BW⟩ := hrel
    by_cases hlt : i < n
    · have hil : i < g.length := by rw [HL.out]; exact hlt
      obtain ⟨r, hr⟩ : ∃ r, g[i]? = some r := ⟨_, List.getElem?_eq_getElem hil⟩
      have hway := rule_way H0.out hr
      obtain ⟨ad, rfl, hadl, c0, c1, c2, c3, c4⟩ := row_rl (HA1.out.below BW.out (Nat.le_refl _)) hr
      have HR := Lib.hid hr
      obtain ⟨kd, lt, lf, rg, tm⟩ := r
      simp only at c0 c1 c2 c3 c4 hway
      have i0 : (0 : Int) ≤ i := by omega
      have i1 : (i : Int) < (n : Int) := by omega
      have zw : w1.heap.size < wr.heap.size := HB.out.lt
      have zn : w1.heap.size ≠ wr.heap.size := by omega
      have v0 : wr.cell? ⟨w1.heap.size, i, none⟩ = some (.int .i64 0) := (HB.out.cell i).trans (arr_zero (by rw [HG.out.1]; exact Nat.le_refl _) hlt)
      have f0 := HB.out.free i
      clear hr
      rcases hway with ⟨rfl, rfl, rfl, rfl⟩ | ⟨rfl, rfl, rfl, p1, p2, q1, q2⟩ | ⟨rfl, rfl, rfl, t2, p1, p2⟩
      · have HG2 : Hid ((acc ++ [(0 : Int)]).length = i + 1 ∧ fwd dep1 (acc ++ [0]) (g.drop (i + 1)) = D ∧ DB (acc ++ [0])) := Lib.hid ⟨by simp [HG.out.1], (dep_step HR.out).symm.trans HG.out.2.1, HG.out.2.2.snoc (Int.le_refl _) (by omega)⟩
        have HB2 : Hid (Box wr w1.heap.size 3 (arr (acc ++ [0]) n)) := Lib.hid (by rw [arr_pad (by rw [HG.out.1]; exact hlt)]; exact HB.out)
        go_wp2_with fail
        go_roundw
        case rel => exact ⟨i + 1, acc ++ [0], by go_num, by omega, HG2, Lib.hid (HB2.out.alloc _), Lib.hid (balloc BW.out _)⟩
        case measure => simp [intOf]; omega
      · obtain ⟨a, rfl⟩ : ∃ a : Nat, lf = (a : Int) + 1 := ⟨(lf - 1).toNat, by omega⟩
        obtain ⟨b, rfl⟩ : ∃ b : Nat, rg = (b : Int) + 1 := ⟨(rg - 1).toNat, by omega⟩
        have ai : a < i := by omega
        have an : (a : Int) < n := by omega
        have a0 : (0 : Int) ≤ a := by omega
        have bi : b < i := by omega
        have bn : (b : Int) < n := by omega
        have b0 : (0 : Int) ≤ b := by omega
        obtain ⟨x, hx⟩ : ∃ x, x = acc.getD a 0 := ⟨_, rfl⟩
        obtain ⟨y, hy⟩ : ∃ y, y = acc.getD b 0 := ⟨_, rfl⟩
        have cx : wr.cell? ⟨w1.heap.size, a, none⟩ = some (.int .i64 x) := (HB.out.cell a).trans ((arr_get (by rw [HG.out.1]; exact ai)).trans (by rw [hx]))
        obtain ⟨xlo, xhi⟩ : 0 ≤ x ∧ x ≤ a := by rw [hx]; exact HG.out.2.2 a (by rw [HG.out.1]; exact ai)
        have cy : wr.cell? ⟨w1.heap.size, b, none⟩ = some (.int .i64 y) := (HB.out.cell b).trans ((arr_get (by rw [HG.out.1]; exact bi)).trans (by rw [hy]))
        obtain ⟨ylo, yhi⟩ : 0 ≤ y ∧ y ≤ b := by rw [hy]; exact HG.out.2.2 b (by rw [HG.out.1]; exact bi)
        obtain ⟨m, hm⟩ : ∃ m, m = maxI x y := ⟨_, rfl⟩
        have hmax : ∀ ats ty, Builtin.max_ ats ty #[.int .i64 x, .int .i64 y] = pure (.int .i64 m) := fun ats ty => by rw [hm]; exact max_ints ats ty x y
        obtain ⟨mlo, mhi⟩ : 0 ≤ m ∧ m < i := by rw [hm]; unfold maxI; split <;> omega
        obtain ⟨vv, hv⟩ : ∃ vv, vv = 1 + m := ⟨_, rfl⟩
        have wv : IntKind.i64.wrap (1 + m) = vv := by rw [hv]; exact IntWalk.i64_in _ ⟨by omega, by omega⟩
        have HE : Hid (dep1 acc ⟨2, 0, (a : Int) + 1, (b : Int) + 1, 0⟩ = vv) := Lib.hid (by
          have ea : ((a : Int) + 1 - 1).toNat = a := by omega
          have eb : ((b : Int) + 1 - 1).toNat = b := by omega
          show 1 + maxI (acc.getD ((a : Int) + 1 - 1).toNat 0) (acc.getD ((b : Int) + 1 - 1).toNat 0) = vv
          rw [ea, eb, ← hx, ← hy, hv, hm])
        have HG2 : Hid ((acc ++ [vv]).length = i + 1 ∧ fwd dep1 (acc ++ [vv]) (g.drop (i + 1)) = D ∧ DB (acc ++ [vv])) := Lib.hid ⟨by simp [HG.out.1], by rw [← HE.out]; exact (dep_step HR.out).symm.trans HG.out.2.1, HG.out.2.2.snoc (by omega) (by rw [HG.out.1]; omega)⟩
        have wa : IntKind.i64.wrap (a : Int) = a := IntWalk.i64_in _ ⟨by omega, by omega⟩
        have wb : IntKind.i64.wrap (b : Int) = b := IntWalk.i64_in _ ⟨by omega, by omega⟩
        have HB2 : Hid (Box (wr.setCell ⟨w1.heap.size, i, none⟩ (.int .i64 vv)) w1.heap.size 3 (arr (acc ++ [vv]) n)) := Lib.hid (by
          have h1 := HB.out.set_ i (.int .i64 vv)
          have h2 := arr_set (acc := acc) (n := n) vv (by rw [HG.out.1]; exact hlt)
          rw [HG.out.1] at h2
          rw [h2] at h1
          exact h1)
        have HBw := Lib.hid (HB.out.alloc (.cells #[.int .i64 2, .int .u8 0, .int .i64 ((a : Int) + 1), .int .i64 ((b : Int) + 1), .int .i64 0] 46))
        have BW0 := balloc BW.out (.cells #[.int .i64 2, .int .u8 0, .int .i64 ((a : Int) + 1), .int .i64 ((b : Int) + 1), .int .i64 0] 46)
        have BX := Box.new wr 46 #[.int .i64 2, .int .u8 0, .int .i64 ((a : Int) + 1), .int .i64 ((b : Int) + 1), .int .i64 0]
        clear hx hy hm hv
        go_upto_region 10 with fail
        refine Rs.region_st (sx := 17) (px := ⟨w1.heap.size, i, none⟩) (ux := (.int .i64 vv)) (bs := [true, true, true, true, true, true, true, true, true, true, true, true, true, true, true, true, true, true]) (.val (fun v _ => v = .slice (some ⟨w1.heap.size, 0, none⟩) n n) :: .val (fun v _ => v = .int .i64 (i : Int)) :: .val (fun v _ => v = .slice (some ⟨w1.heap.size, 0, none⟩) n n) :: .val (fun v _ => v = .pointer (some ⟨wr.heap.size, 2, none⟩)) :: .val (fun v _ => v = .int .i64 ((a : Int) + 1)) :: .val (fun v _ => v = .int .i64 (a : Int)) :: .val (fun v _ => v = .pointer (some ⟨w1.heap.size, a, none⟩)) :: .val (fun v _ => v = .int .i64 x) :: .val (fun v _ => v = .slice (some ⟨w1.heap.size, 0, none⟩) n n) :: .val (fun v _ => v = .pointer (some ⟨wr.heap.size, 3, none⟩)) :: .val (fun v _ => v = .int .i64 ((b : Int) + 1)) :: .val (fun v _ => v = .int .i64 (b : Int)) :: .val (fun v _ => v = .pointer (some ⟨w1.heap.size, b, none⟩)) :: .val (fun v _ => v = .int .i64 y) :: .val (fun v _ => v = .int .i64 m) :: .val (fun v _ => v = .int .i64 vv) :: .val (fun v _ => v = .pointer (some ⟨w1.heap.size, i, none⟩)) :: .st ⟨w1.heap.size, i, none⟩ ((.int .i64 vv)) :: [])
          ([] :: [] :: [] :: [] :: [(34, 3)] :: [(35, 4)] :: [(33, 2), (36, 5)] :: [(37, 6)] :: [] :: [] :: [(40, 9)] :: [(41, 10)] :: [(39, 8), (42, 11)] :: [(43, 12)] :: [(38, 7), (44, 13)] :: [(45, 14)] :: [(31, 0), (32, 1)] :: [(47, 16), (46, 15)] :: []) ((0, 0) :: (0, 0) :: (0, 0) :: (0, 0) :: (0, 0) :: (0, 0) :: (0, 0) :: (0, 0) :: (0, 0) :: (0, 0) :: (0, 0) :: (0, 0) :: (0, 0) :: (0, 0) :: (0, 0) :: (0, 0) :: (0, 0) :: (3, 0) :: []) 62 (by kernel_rfl) rfl rfl (by kernel_rfl) (by kernel_rfl) rfl (by first | omega | (simp; omega)) ⟨⟨rfl, rfl⟩, trivial⟩ (by decide) ⟨⟨Rs.Stab.pure _ _ _, fun _ _ h => h⟩, ⟨Rs.Stab.pure _ _ _, fun _ _ h => h⟩, ⟨Rs.Stab.pure _ _ _, fun _ _ h => h⟩, ⟨Rs.Stab.pure _ _ _, fun _ _ h => h⟩, ⟨Rs.Stab.pure _ _ _, fun _ _ h => h⟩, ⟨Rs.Stab.pure _ _ _, fun _ _ h => h⟩, ⟨Rs.Stab.pure _ _ _, fun _ _ h => h⟩, ⟨Rs.Stab.pure _ _ _, fun _ _ h => h⟩, ⟨Rs.Stab.pure _ _ _, fun _ _ h => h⟩, ⟨Rs.Stab.pure _ _ _, fun _ _ h => h⟩, ⟨Rs.Stab.pure _ _ _, fun _ _ h => h⟩, ⟨Rs.Stab.pure _ _ _, fun _ _ h => h⟩, ⟨Rs.Stab.pure _ _ _, fun _ _ h => h⟩, ⟨Rs.Stab.pure _ _ _, fun _ _ h => h⟩, ⟨Rs.Stab.pure _ _ _, fun _ _ h => h⟩, ⟨Rs.Stab.pure _ _ _, fun _ _ h => h⟩, ⟨Rs.Stab.pure _ _ _, fun _ _ h => h⟩, trivial⟩ ⟨?_, ?_, ?_, ?_, ?_, ?_, ?_, ?_, ?_, ?_, ?_, ?_, ?_, ?_, ?_, ?_, ?_, ?_, trivial⟩ ?_
        · intro wx hb0
          have hb : Below _ _ wx := hb0
          intro K hK
          go_simp
          exact hK _ _ rfl ⟨rfl, Below.refl _ _⟩
        · intro wx hb0
          have hb : Below _ _ wx := hb0
          intro K hK
          go_simp
          exact hK _ _ rfl ⟨rfl, Below.refl _ _⟩
        · intro wx hb0
          have hb : Below _ _ wx := hb0
          intro K hK
          go_simp
          exact hK _ _ rfl ⟨rfl, Below.refl _ _⟩
        · intro wx hb0
          have hb : Below _ _ wx := hb0
          intro K hK
          go_simp
          exact hK _ _ rfl ⟨rfl, Below.refl _ _⟩
        · intro wx hb0
          have hb : Below _ _ wx := hb0
          rintro _ rfl
          intro K hK
          have mm := Box.below (BX) hb (Box.lt (BX))
          have m0 : wx.cell? ⟨wr.heap.size, 0, none⟩ = some (.int .i64 2) := mm.cell 0
          have m1 : wx.cell? ⟨wr.heap.size, 1, none⟩ = some (.int .u8 0) := mm.cell 1
          have m2 : wx.cell? ⟨wr.heap.size, 2, none⟩ = some (.int .i64 ((a : Int) + 1)) := mm.cell 2
          have m3 : wx.cell? ⟨wr.heap.size, 3, none⟩ = some (.int .i64 ((b : Int) + 1)) := mm.cell 3
          have m4 : wx.cell? ⟨wr.heap.size, 4, none⟩ = some (.int .i64 0) := mm.cell 4
          clear mm
          go_simp
          exact hK _ _ rfl ⟨rfl, Below.refl _ _⟩
        · intro wx hb0
          have hb : Below _ _ wx := hb0
          rintro _ rfl
          intro K hK
          go_simp
          exact hK _ _ rfl ⟨rfl, Below.refl _ _⟩
        · intro wx hb0
          have hb : Below _ _ wx := hb0
          rintro _ rfl
          rintro _ rfl
          intro K hK
          go_simp
          exact hK _ _ rfl ⟨rfl, Below.refl _ _⟩
        · intro wx hb0
          have hb : Below _ _ wx := hb0
          rintro _ rfl
          intro K hK
          have zz := (hb.cell (p := ⟨w1.heap.size, a, none⟩) HBw.out.lt).trans ((HBw.out.cell a).trans ((HB.out.cell a).symm.trans cx)); go_simp; exact hK _ _ rfl ⟨rfl, Below.refl _ _⟩
        · intro wx hb0
          have hb : Below _ _ wx := hb0
          intro K hK
          go_simp
          exact hK _ _ rfl ⟨rfl, Below.refl _ _⟩
        · intro wx hb0
          have hb : Below _ _ wx := hb0
          intro K hK
          go_simp
          exact hK _ _ rfl ⟨rfl, Below.refl _ _⟩
        · intro wx hb0
          have hb : Below _ _ wx := hb0
          rintro _ rfl
          intro K hK
          have mm := Box.below (BX) hb (Box.lt (BX))
          have m0 : wx.cell? ⟨wr.heap.size, 0, none⟩ = some (.int .i64 2) := mm.cell 0
          have m1 : wx.cell? ⟨wr.heap.size, 1, none⟩ = some (.int .u8 0) := mm.cell 1
          have m2 : wx.cell? ⟨wr.heap.size, 2, none⟩ = some (.int .i64 ((a : Int) + 1)) := mm.cell 2
          have m3 : wx.cell? ⟨wr.heap.size, 3, none⟩ = some (.int .i64 ((b : Int) + 1)) := mm.cell 3
          have m4 : wx.cell? ⟨wr.heap.size, 4, none⟩ = some (.int .i64 0) := mm.cell 4
          clear mm
          go_simp
          exact hK _ _ rfl ⟨rfl, Below.refl _ _⟩
        · intro wx hb0
          have hb : Below _ _ wx := hb0
          rintro _ rfl
          intro K hK
          go_simp
          exact hK _ _ rfl ⟨rfl, Below.refl _ _⟩
        · intro wx hb0
          have hb : Below _ _ wx := hb0
          rintro _ rfl
          rintro _ rfl
          intro K hK
          go_simp
          exact hK _ _ rfl ⟨rfl, Below.refl _ _⟩
        · intro wx hb0
          have hb : Below _ _ wx := hb0
          rintro _ rfl
          intro K hK
          have zz := (hb.cell (p := ⟨w1.heap.size, b, none⟩) HBw.out.lt).trans ((HBw.out.cell b).trans ((HB.out.cell b).symm.trans cy)); go_simp; exact hK _ _ rfl ⟨rfl, Below.refl _ _⟩
        · intro wx hb0
          have hb : Below _ _ wx := hb0
          rintro _ rfl
          rintro _ rfl
          intro K hK
          go_simp
          exact hK _ _ rfl ⟨rfl, Below.refl _ _⟩
        · intro wx hb0
          have hb : Below _ _ wx := hb0
          rintro _ rfl
          intro K hK
          go_simp
          exact hK _ _ rfl ⟨rfl, Below.refl _ _⟩
        · intro wx hb0
          have hb : Below _ _ wx := hb0
          rintro _ rfl
          rintro _ rfl
          intro K hK
          go_simp
          exact hK _ _ rfl ⟨rfl, Below.refl _ _⟩
        · intro wx hb0
          have hb : Below _ _ wx := hb0
          rintro _ rfl
          rintro _ rfl
          intro K hK
          have zc := (hb.cell (p := ⟨w1.heap.size, i, none⟩) HBw.out.lt).trans ((HBw.out.cell i).trans ((HB.out.cell i).symm.trans v0)); have zf := (Box.below HBw.out hb HBw.out.lt).free i
          go_simp
          exact hK _ _ rfl rfl
        intro w3 B3
        rintro _ rfl
        rintro _ rfl
        rintro _ rfl
        rintro _ rfl
        rintro _ rfl
        rintro _ rfl
        rintro _ rfl
        rintro _ rfl
        rintro _ rfl
        rintro _ rfl
        rintro _ rfl
        rintro _ rfl
        rintro _ rfl
        rintro _ rfl
        rintro _ rfl
        rintro _ rfl
        rintro _ rfl
        rintro -
        simp only [Act.put, List.setIfInBounds_toArray, List.set_cons_zero, List.set_cons_succ, List.toList_toArray, List.length_cons, List.length_nil, List.drop_succ_cons, List.drop_zero, List.drop_nil, Nat.zero_add, wpList]
        have HB4 : Hid (Box w3 w1.heap.size 3 (arr (acc ++ [vv]) n)) := Lib.hid (by
          have h1 := HBw.out.set_ i (.int .i64 vv)
          have h2 := arr_set (acc := acc) (n := n) vv (by rw [HG.out.1]; exact hlt)
          rw [HG.out.1] at h2
          rw [h2] at h1
          exact h1.below B3 HBw.out.lt)
        have BW4 := Lib.hid ((BW0.setCell (p := ⟨w1.heap.size, i, none⟩) (Nat.le_refl _) (.int .i64 vv)).trans (B3.mono BW0.size))
        clear B3 BW0 BX HB2
        go_wp2_with fail
        go_roundw
        case rel => exact ⟨i + 1, acc ++ [vv], by go_num, by omega, HG2, HB4, BW4⟩
        case measure => simp [intOf]; omega
      · obtain ⟨a, rfl⟩ : ∃ a : Nat, lf = (a : Int) + 1 := ⟨(lf - 1).toNat, by omega⟩
        have ai : a < i := by omega
        have an : (a : Int) < n := by omega
        have a0 : (0 : Int) ≤ a := by omega
        obtain ⟨x, hx⟩ : ∃ x, x = acc.getD a 0 := ⟨_, rfl⟩
        have cx : wr.cell? ⟨w1.heap.size, a, none⟩ = some (.int .i64 x) := (HB.out.cell a).trans ((arr_get (by rw [HG.out.1]; exact ai)).trans (by rw [hx]))
        obtain ⟨xlo, xhi⟩ : 0 ≤ x ∧ x ≤ a := by rw [hx]; exact HG.out.2.2 a (by rw [HG.out.1]; exact ai)
        obtain ⟨vv, hv⟩ : ∃ vv, vv = 1 + x := ⟨_, rfl⟩
        have wv : IntKind.i64.wrap (1 + x) = vv := by rw [hv]; exact IntWalk.i64_in _ ⟨by omega, by omega⟩
        have HE : Hid (dep1 acc ⟨3, 0, (a : Int) + 1, 0, tm⟩ = vv) := Lib.hid (by
          have ea : ((a : Int) + 1 - 1).toNat = a := by omega
          show 1 + acc.getD ((a : Int) + 1 - 1).toNat 0 = vv
          rw [ea, ← hx, hv])
        have HG2 : Hid ((acc ++ [vv]).length = i + 1 ∧ fwd dep1 (acc ++ [vv]) (g.drop (i + 1)) = D ∧ DB (acc ++ [vv])) := Lib.hid ⟨by simp [HG.out.1], by rw [← HE.out]; exact (dep_step HR.out).symm.trans HG.out.2.1, HG.out.2.2.snoc (by omega) (by rw [HG.out.1]; omega)⟩
        have wa : IntKind.i64.wrap (a : Int) = a := IntWalk.i64_in _ ⟨by omega, by omega⟩
        have HB2 : Hid (Box (wr.setCell ⟨w1.heap.size, i, none⟩ (.int .i64 vv)) w1.heap.size 3 (arr (acc ++ [vv]) n)) := Lib.hid (by
          have h1 := HB.out.set_ i (.int .i64 vv)
          have h2 := arr_set (acc := acc) (n := n) vv (by rw [HG.out.1]; exact hlt)
          rw [HG.out.1] at h2
          rw [h2] at h1
          exact h1)
        have HBw := Lib.hid (HB.out.alloc (.cells #[.int .i64 3, .int .u8 0, .int .i64 ((a : Int) + 1), .int .i64 0, .int .i64 tm] 46))
        have BW0 := balloc BW.out (.cells #[.int .i64 3, .int .u8 0, .int .i64 ((a : Int) + 1), .int .i64 0, .int .i64 tm] 46)
        clear hx hv
        have BW2 := Lib.hid (BW.out.setCell (p := ⟨w1.heap.size, i, none⟩) (Nat.le_refl _) (.int .i64 vv))
        have HB4 : Hid (Box ((wr.alloc (.cells #[.int .i64 3, .int .u8 0, .int .i64 ((a : Int) + 1), .int .i64 0, .int .i64 tm] 46)).setCell ⟨w1.heap.size, i, none⟩ (.int .i64 vv)) w1.heap.size 3 (arr (acc ++ [vv]) n)) := Lib.hid (by
          have h1 := HBw.out.set_ i (.int .i64 vv)
          have h2 := arr_set (acc := acc) (n := n) vv (by rw [HG.out.1]; exact hlt)
          rw [HG.out.1] at h2
          rw [h2] at h1
          exact h1)
        have BW4 := Lib.hid (BW0.setCell (p := ⟨w1.heap.size, i, none⟩) (Nat.le_refl _) (.int .i64 vv))
        clear BW0
        go_wp2_with fail
        go_roundw
        case rel => first | exact ⟨i + 1, acc ++ [vv], by go_num, by omega, HG2, HB4, BW4⟩ | exact ⟨i + 1, acc ++ [vv], by go_num, by omega, HG2, Lib.hid (HB2.out.alloc _), Lib.hid (balloc BW2.out _)⟩
        case measure => simp [intOf]; omega
    · obtain rfl : i = n := by omega
      have HG2 : Hid (acc = D) := Lib.hid (by
        have h := HG.out.2.1
        rw [List.drop_of_length_le (by rw [HL.out]; exact Nat.le_refl _)] at h
        exact h)
      go_wp2_with fail
      go_ret2
      refine ⟨some ⟨w1.heap.size, 0, none⟩, i, by rw [← HG2.out, HG.out.1]; rfl, by rw [← HG2.out]; exact arr_row HB.out HG.out.1, ?_⟩
      exact BW1.out.trans (BW.out.mono BW1.out.size)
end Go.Proofs.Ytcbahojefglakaa
