/- The closure of grammar.Text: a rule's number, put out if it is new. -/
import Derived.Test.YtcbahojefglakaaGrTrim
namespace Go.Proofs.Ytcbahojefglakaa
set_option linter.unusedVariables false
set_option linter.unusedSimpArgs false
open Go.RowKit Go.Lib
attribute [local go_sem ↓] Go.wp_at_zero Go.wp_at_succ
def inOut (out : List Rl) (r : Rl) : List Rl := if pos out r = 0 then out ++ [r] else out
def inId (out : List Rl) (r : Rl) : Int := if pos out r = 0 then (out.length : Int) + 1 else pos out r
/-- what the closure's variables hold: the rules put out, and the map from each to its number -/
structure TSt (w : World) (base Bo Bm G : Nat) (out : List Rl) : Prop where
  bo : ∃ A c, Box w Bo 22 #[.slice A out.length c] ∧ w.ownsRow base 46 5 (.slice A out.length c) out.length (gc out)
  bm : Box w Bm 81 #[.map (some G)]
  fm : FirstMap w G out.length out
  lt : Bo < base ∧ Bm < base ∧ G < base ∧ base ≤ w.heap.size
  ne : Bo ≠ Bm ∧ Bo ≠ G ∧ Bm ≠ G
/-- what else is there stays -/
structure TFr (w w' : World) (base Bo G : Nat) : Prop where
  os : w'.os = w.os
  tape : w'.tape = w.tape
  output : w'.output = w.output
  size : w.heap.size ≤ w'.heap.size
  keep : ∀ k, k < w.heap.size → k ≠ Bo → k ≠ G → (∀ cs fr, w.heap[k]? = some (.cells cs 46 fr) → k < base) → w'.heap[k]? = w.heap[k]?
theorem TFr.box {w w' : World} {base Bo G g : Nat} {t : TypeId} {cs : Array Value} (h : TFr w w' base Bo G) (hb : Box w g t cs) (h1 : g ≠ Bo) (h2 : g ≠ G) (h3 : t ≠ 46 ∨ g < base) : Box w' g t cs :=
  (h.keep g hb.lt h1 h2 (fun cs' fr e => h3.elim (fun h3 => absurd (by have := hb; unfold Box at this; rw [this] at e; injection e with e; injection e with _ e _) h3) id)).trans hb
theorem TFr.below {w w' : World} {base Bo G B : Nat} (h : TFr w w' base Bo G) {a : World} (hb : Below B a w) (h1 : B ≤ Bo) (h2 : B ≤ G) (h3 : B ≤ base) (h4 : B ≤ w.heap.size) : Below B a w' :=
  hb.trans ⟨h.os, h.tape, h.output, h.size, fun k hk => h.keep k (by omega) (by omega) (by omega) (fun _ _ _ => by omega)⟩
theorem TFr.refl (w : World) (base Bo G : Nat) : TFr w w base Bo G := ⟨rfl, rfl, rfl, Nat.le_refl _, fun _ _ _ _ _ => rfl⟩
theorem TFr.of_below {w w' : World} (h : Below w.heap.size w w') (base Bo G : Nat) : TFr w w' base Bo G := ⟨h.os, h.tape, h.output, h.size, fun k hk _ _ _ => h.block k hk⟩
set_option maxRecDepth 100000 in
set_option maxHeartbeats 8000000 in
theorem intern_old (out : List Rl) (r : Rl) (hr : r.Ok) (p : Nat) (hp : pos out r = p) (hp0 : p ≠ 0) (base Bo Bm G : Nat) (w : World) (st : TSt w base Bo Bm G out) :
    Calls Try.prog 48 #[r.val, .pointer (some ⟨Bm, 0, none⟩), .pointer (some ⟨Bo, 0, none⟩)] w fun e w' => e = .returned (.int .i64 p) ∧ TSt w' base Bo Bm G out ∧ TFr w w' base Bo G := by
  obtain ⟨⟨A, c, bo, ow⟩, bm, fm, lt, ne⟩ := st
  obtain ⟨m, hm⟩ : ∃ m, m = out.length := ⟨_, rfl⟩
  rw [← hm] at bo ow fm
  have HP := Lib.hid hp; have HP0 := Lib.hid hp0; have HR := Lib.hid hr; have HM := Lib.hid hm
  have cm : w.cell? ⟨Bm, 0, none⟩ = some (.map (some G)) := bm.cell 0
  have blt := bm.lt
  obtain ⟨kd, lt_, lf, rg, tm⟩ := r
  have HB := Lib.hid (bo.alloc (.cells #[.int .i64 kd, .int .u8 lt_, .int .i64 lf, .int .i64 rg, .int .i64 tm] 46))
  have HO := Lib.hid (own_alloc ow (.cells #[.int .i64 kd, .int .u8 lt_, .int .i64 lf, .int .i64 rg, .int .i64 tm] 46))
  have HBm := Lib.hid (bm.alloc (.cells #[.int .i64 kd, .int .u8 lt_, .int .i64 lf, .int .i64 rg, .int .i64 tm] 46))
  have HF := Lib.hid (fm.alloc (.cells #[.int .i64 kd, .int .u8 lt_, .int .i64 lf, .int .i64 rg, .int .i64 tm] 46))
  have HFr := Lib.hid (TFr.of_below (balloc (Below.refl w.heap.size w) (.cells #[.int .i64 kd, .int .u8 lt_, .int .i64 lf, .int .i64 rg, .int .i64 tm] 46)) base Bo G)
  have HL := Lib.hid lt; have HN := Lib.hid ne
  clear hp hp0 hr hm bo ow bm fm lt ne
  go_enter Try.func48, Try.ntmps48
  go_wp2_with (at_lookup; refine wpList_first_look rfl (.tmp 8) (.tmp 9) rfl G m out rfl HF.out ⟨kd, lt_, lf, rg, tm⟩ HR.out rfl (p : Int) true (by rw [HP.out]) (by rw [HP.out]; simp [HP0.out]) ?_)
  go_ret
  refine ⟨rfl, ⟨⟨A, c, by rw [← HM.out]; exact HB.out, by rw [← HM.out]; exact HO.out⟩, HBm.out, by rw [← HM.out]; exact HF.out, ?_, HN.out⟩, HFr.out⟩
  have h1 := HL.out
  exact ⟨h1.1, h1.2.1, h1.2.2.1, by simp; omega⟩
set_option maxRecDepth 100000 in
set_option maxHeartbeats 8000000 in
theorem intern_new (out : List Rl) (r : Rl) (hr : r.Ok) (hp : pos out r = 0) (m : Nat) (hm : m = out.length) (hm1 : m ≤ 1000000) (base Bo Bm G : Nat) (w : World) (st : TSt w base Bo Bm G out) :
    Calls Try.prog 48 #[r.val, .pointer (some ⟨Bm, 0, none⟩), .pointer (some ⟨Bo, 0, none⟩)] w fun e w' => e = .returned (.int .i64 ((m : Int) + 1)) ∧ TSt w' base Bo Bm G (out ++ [r]) ∧ TFr w w' base Bo G := by
  obtain ⟨i0_, hi, hz0, hz1, hz2⟩ := info_parts5 info_rule
  have HI := Lib.hid hi; have HZ := Lib.hid hz0; have HZ1 := Lib.hid hz1; have HZ2 := Lib.hid hz2
  obtain ⟨⟨A, c, bo, ow⟩, bm, fm, lt, ne⟩ := st
  rw [← hm] at bo ow fm
  have HP := Lib.hid hp; have HR := Lib.hid hr; have HM := Lib.hid hm
  have cm : w.cell? ⟨Bm, 0, none⟩ = some (.map (some G)) := bm.cell 0
  have co : w.cell? ⟨Bo, 0, none⟩ = some (.slice A m c) := bo.cell 0
  have blt := bm.lt; have olt := bo.lt; have glt := fm.lt
  obtain ⟨l1, l2, l3, l4⟩ := lt
  obtain ⟨n1, n2, n3⟩ := ne
  obtain ⟨kd, lt_, lf, rg, tm⟩ := r
  have hob : ∀ k, (Value.slice A m c).ownBlock = some k → base ≤ k := own_ge ow
  have hol := own_lt ow
  have HX := Lib.hid (Box.new w 46 #[.int .i64 kd, .int .u8 lt_, .int .i64 lf, .int .i64 rg, .int .i64 tm])
  have HB := Lib.hid (bo.alloc (.cells #[.int .i64 kd, .int .u8 lt_, .int .i64 lf, .int .i64 rg, .int .i64 tm] 46))
  have HO := Lib.hid (own_alloc ow (.cells #[.int .i64 kd, .int .u8 lt_, .int .i64 lf, .int .i64 rg, .int .i64 tm] 46))
  have HBm := Lib.hid (bm.alloc (.cells #[.int .i64 kd, .int .u8 lt_, .int .i64 lf, .int .i64 rg, .int .i64 tm] 46))
  have HF := Lib.hid (fm.alloc (.cells #[.int .i64 kd, .int .u8 lt_, .int .i64 lf, .int .i64 rg, .int .i64 tm] 46))
  have HOB := Lib.hid hob; have HOL := Lib.hid hol
  have HOw := Lib.hid ow
  clear hp hr hm bo ow bm fm hob hol hi hz0 hz1 hz2
  go_enter Try.func48, Try.ntmps48
  go_wp2_with (first | (at_lookup; refine wpList_first_look rfl (.tmp 8) (.tmp 9) rfl G m out rfl HF.out ⟨kd, lt_, lf, rg, tm⟩ HR.out rfl 0 false (by rw [HP.out]; rfl) (by rw [HP.out]; rfl) ?_) | (refine wpList_app _ (by rfl) (.tmp 15) (.tmp 17) _ rfl base 46 i0_ _ 5 40 Try.underlying22 HI.out HZ.out HZ1.out HZ2.out rfl (by omega) (.slice A m c) m (gc out) rfl ?own _ 1 1 ((⟨kd, lt_, lf, rg, tm⟩ : Rl).cells) rfl rfl ?row (cells_one _) (by simp only [maxLen]; omega) (by omega) ?size ?_))
  case own => exact own_alloc HO.out _
  case row => exact RowAt.of_block (box_new_ (by simp))
  case size => simp; omega
  intro A7 c7 w7 own7 gr7 at7
  rw [gc_snoc] at own7
  have hob := HOB.out; have hol := HOL.out
  have zb7 : w.heap.size + 2 ≤ w7.heap.size := by have := gr7.size; simp at this; omega
  have HX7 := (HX.out.alloc _).grown gr7 (fun e => by have := hol _ e; omega)
  have HB7 := (HB.out.alloc _).grown gr7 (fun e => by have := hob _ e; omega)
  have HBm7 := (HBm.out.alloc _).grown gr7 (fun e => by have := hob _ e; omega)
  have HF7 := (HF.out.alloc _).grown gr7 (fun e => by have := hob _ e; omega)
  have hob7 : ∀ k, (Value.slice A7 (m + 1) c7).ownBlock = some k → base ≤ k := own_ge own7
  have hol7 := own_lt own7
  have y0 : w7.cell? ⟨w.heap.size, 0, none⟩ = some (.int .i64 kd) := HX7.cell 0
  have y1 : w7.cell? ⟨w.heap.size, 1, none⟩ = some (.int .u8 lt_) := HX7.cell 1
  have y2 : w7.cell? ⟨w.heap.size, 2, none⟩ = some (.int .i64 lf) := HX7.cell 2
  have y3 : w7.cell? ⟨w.heap.size, 3, none⟩ = some (.int .i64 rg) := HX7.cell 3
  have y4 : w7.cell? ⟨w.heap.size, 4, none⟩ = some (.int .i64 tm) := HX7.cell 4
  have co7 : w7.cell? ⟨Bo, 0, none⟩ = some (.slice A m c) := HB7.cell 0
  have fo7 := HB7.free 0
  have cm7 : w7.cell? ⟨Bm, 0, none⟩ = some (.map (some G)) := HBm7.cell 0
  have n1' : Bo ≠ w.heap.size := by omega
  have n4' : Bm ≠ Bo := fun e => n1 e.symm
  -- the world behind the store into the variable
  have HB8 : Hid (Box (w7.setCell ⟨Bo, 0, none⟩ (.slice A7 (m + 1) c7)) Bo 22 #[.slice A7 (m + 1) c7]) := Lib.hid (HB7.set_ 0 _)
  have HBm8 := Lib.hid (HBm7.far (p := ⟨Bo, 0, none⟩) n4' (.slice A7 (m + 1) c7))
  have HF8 := Lib.hid (HF7.set (p := ⟨Bo, 0, none⟩) (fun e => n2 e.symm) (.slice A7 (m + 1) c7))
  have HO8 := Lib.hid (own_set own7 (p := ⟨Bo, 0, none⟩) (by simp; omega) (.slice A7 (m + 1) c7))
  have HFr8 : Hid (TFr w (w7.setCell ⟨Bo, 0, none⟩ (.slice A7 (m + 1) c7)) base Bo G) := Lib.hid ⟨gr7.os, gr7.tape, gr7.output, by simp [World.setCell]; omega, fun k hk h1 h2 h3 => by
    rw [Below.heap_setCell _ _ _ _ h1]
    rw [gr7.block k (by simp; omega) (fun e => by
      rcases HOw.out.2 with ⟨hv, _⟩ | ⟨g, cap, cur, hv, hg, hc, _⟩
      · rw [hv] at e; simp [Value.ownBlock] at e
      · rw [hv] at e
        simp [Value.ownBlock] at e
        subst e
        have := h3 cur (0, 0) hc
        omega)]
    rw [Below.heap_alloc _ _ _ (by simp; omega), Below.heap_alloc _ _ _ hk]⟩
  have zb8 : Hid (base ≤ (w7.setCell ⟨Bo, 0, none⟩ (.slice A7 (m + 1) c7)).heap.size) := Lib.hid (by simp [World.setCell]; omega)
  have HOB7 := Lib.hid hob7
  clear own7 gr7 at7 hob hol HX7 HB7 HBm7 HF7 hob7 hol7
  go_wp2_with (at_mapUpdate; refine wpList_first_store rfl (.tmp 21) (.tmp 22) (.tmp 23) rfl G m out rfl HF8.out (by simp only [maxLen]; omega) ⟨kd, lt_, lf, rg, tm⟩ HR.out rfl HP.out ((m : Int) + 1) (by rw [← HM.out]; rfl) (by omega) rfl ?_)
  intro w9 hF9 gr9
  have hs9 := gr9.size
  have HO9 := Lib.hid (own_kept HO8.out gr9 (fun k hk e => by have := HOB7.out k hk; injection e with e; omega))
  have HB9 := Lib.hid (HB8.out.grown gr9 (fun e => by injection e with e; omega))
  have HBm9 := Lib.hid (HBm8.out.grown gr9 (fun e => by injection e with e; omega))
  have HFr9 : Hid (TFr w w9 base Bo G) := Lib.hid ⟨gr9.os.trans HFr8.out.os, gr9.tape.trans HFr8.out.tape, gr9.output.trans HFr8.out.output, Nat.le_trans HFr8.out.size hs9, fun k hk h1 h2 h3 => by
    rw [gr9.block k (Nat.lt_of_lt_of_le hk HFr8.out.size) (fun e => h2 (by injection e))]
    exact HFr8.out.keep k hk h1 h2 h3⟩
  have zb9 : base ≤ w9.heap.size := Nat.le_trans zb8.out hs9
  have HF9 := Lib.hid hF9
  clear hF9 gr9 y0 y1 y2 y3 y4
  go_wp2_with fail
  go_ret
  have e : (out ++ [(⟨kd, lt_, lf, rg, tm⟩ : Rl)]).length = m + 1 := by rw [List.length_append, ← HM.out]; rfl
  exact ⟨rfl, ⟨⟨A7, c7, by rw [e]; exact HB9.out, by rw [e]; exact HO9.out⟩, HBm9.out, by rw [e]; exact HF9.out, ⟨l1, l2, l3, zb9⟩, ⟨n1, n2, n3⟩⟩, HFr9.out⟩
theorem intern_any (out : List Rl) (r : Rl) (hr : r.Ok) (hm1 : out.length ≤ 1000000) (base Bo Bm G : Nat) (w : World) (st : TSt w base Bo Bm G out) :
    Calls Try.prog 48 #[r.val, .pointer (some ⟨Bm, 0, none⟩), .pointer (some ⟨Bo, 0, none⟩)] w fun e w' => e = .returned (.int .i64 (inId out r)) ∧ TSt w' base Bo Bm G (inOut out r) ∧ TFr w w' base Bo G := by
  unfold inId inOut
  by_cases h : pos out r = 0
  · rw [if_pos h, if_pos h]
    exact intern_new out r hr h _ rfl hm1 base Bo Bm G w st
  · rw [if_neg h, if_neg h]
    exact intern_old out r hr _ rfl h base Bo Bm G w st
end Go.Proofs.Ytcbahojefglakaa
