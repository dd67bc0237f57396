import Derived.Test.YtolhjkpekmmajaaRegLin
import Derived.Test.YtolhjkpekmmajaaTbC
import Derived.Test.YtolhjkpekmmajaaTbB
import Derived.Deep.LoopGhost
/- The law of XRegLin, where an operation of the tail waits for all before it by a chain of edges. Printed by wip/gen/mkregtr.py. -/
namespace Go.Proofs.Ytolhjkpekmmajaa.Rt
set_option linter.unusedVariables false
set_option linter.unusedSimpArgs false
open Go.RowKit Go.Proofs.Ytolhjkpekmmajaa

/-- What an operation of the region does: it yields a value of which p holds (memory may be made); it makes a variable (cells z, of type ty), which operation number si fills with cs; it fills the variable in slot t. -/
inductive RK
  | val (p : Value → World → Prop)
  | new (ty : TypeId) (z cs : Array Value) (si : Nat)
  | put (ty : TypeId) (z cs : Array Value) (t : Tmp)

def readT (a : Act) : Option Tmp → Value
  | some d => a.tmps.getD d undef
  | none => undef
def rvT (d : Option Tmp) (v : Value) : Value := match d with
  | some _ => v
  | none => undef
def NoQ : Exit → Act → World → Prop := fun _ _ _ => False

def RK.post (g : Nat) (w : World) : RK → Value → World → Prop
  | .val p, v, w' => p v w' ∧ Below w.heap.size w w'
  | .new ty z _ _, v, w' => v = .pointer (some ⟨w.heap.size, 0, none⟩) ∧ w' = w.alloc (.cells z ty)
  | .put ty _ cs _, _, w' => Stored w g ty cs w'

def Run (P : Program) (o : Oper) (k : RK) (D : List Deferred) (g : Nat) (w : World) (A' : Act) : Prop :=
  ∀ K : Act → World → Prop, (∀ a' w', a'.defers = D → k.post g w (readT a' o.dst) w' → K a' w') → o.wp P A' w K NoQ

def Run' (P : Program) (ops : Array Oper) (o : Oper) (k : RK) (D : List Deferred) (g : Nat) (w : World) (A' : Act) : Prop :=
  match o.guard with
  | none => Run P o k D g w A'
  | some _ => (Region.wanted o (yielded ops A'.tmps) = true → Run P o k D g w A') ∧ (Region.wanted o (yielded ops A'.tmps) = false → k.post g w undef w)

def Reads (sp : List RK) (w : World) (G : Act → Prop) : List (Tmp × Nat) → Act → Prop
  | [], A => G A
  | (t, j) :: r, A => match sp[j]? with
    | some (.val p) => ∀ v, p v w → Reads sp w G r (A.put (some t) v)
    | _ => False

def Ob1 (P : Program) (ops : Array Oper) (sp : List RK) (A : Act) (w0 : World) (o : Oper) (k : RK) (rd : List (Tmp × Nat)) : Prop :=
  ∀ w, Below w0.heap.size w0 w → match k with
    | .put ty z _ t => ∀ g, w0.heap.size ≤ g → Box w g ty z → Reads sp w (Run P o k A.defers g w) rd (A.put (some t) (.pointer (some ⟨g, 0, none⟩)))
    | _ => Reads sp w (Run' P ops o k A.defers 0 w) rd A

def Obs (P : Program) (ops : Array Oper) (sp : List RK) (A : Act) (w0 : World) : List Oper → List RK → List (List (Tmp × Nat)) → Prop
  | o :: os, k :: ks, r :: rs => Ob1 P ops sp A w0 o k r ∧ Obs P ops sp A w0 os ks rs
  | _, _, _ => True

def Fin (h0 : Nat) (w : World) (G : Act → Prop) : List Oper → List RK → Act → Prop
  | o :: os, k :: ks, A => match o.dst, k with
    | some t, .val p => ∀ v, p v w → Fin h0 w G os ks (A.put (some t) v)
    | some t, .new ty _ cs _ => ∀ g, h0 ≤ g → Box w g ty cs → Fin h0 w G os ks (A.put (some t) (.pointer (some ⟨g, 0, none⟩)))
    | _, _ => Fin h0 w G os ks A
  | _, _, A => G A

/-- The predicates are stable; a variable and its filling agree. -/
def Stabs (h0 : Nat) (tys : List TypeId) (sp : List RK) : List RK → Prop
  | .val p :: ks => Stab h0 tys p ∧ Stabs h0 tys sp ks
  | .new ty z cs si :: ks => (match sp[si]? with | some (.put ty' z' cs' _) => ty = ty' ∧ z = z' ∧ cs = cs' | _ => False) ∧ Stabs h0 tys sp ks
  | .put _ _ _ _ :: ks => Stabs h0 tys sp ks
  | [] => True
def tysOf : List RK → List TypeId
  | .new ty _ _ _ :: ks => ty :: tysOf ks
  | _ :: ks => tysOf ks
  | [] => []

def bindsTo (o : Oper) (j : Nat) : Bool := o.after.any fun e => Region.binds .any e && e.on == j
/-- The kind of an operation without its predicates: 0 a value, 1 a new variable (filled by the second number), 2 a filling (of the slot that the second number names). -/
def RK.code : RK → Nat × Nat
  | .val _ => (0, 0)
  | .new _ _ _ si => (1, si)
  | .put _ _ _ t => (2, t)
def okAt (ops : Array Oper) (m : Nat) (codes : List (Nat × Nat)) (i : Nat) (o : Oper) (c : Nat × Nat) (r : List (Tmp × Nat)) : Bool :=
  (o.after.all fun e => !Region.binds .any e || decide (e.on < i)) && (match o.op with | .select .. => false | _ => true) &&
  (match o.dst with | some d => decide (d < m) && (List.range ops.size).all (fun j => j == i || (ops[j]?.bind (·.dst)) != some d) | none => true) &&
  ((o.looksAt ops).all fun t => r.any (fun q => q.1 == t) || (c.1 == 2 && c.2 == t) || (List.range ops.size).all fun j => match ops[j]? with | some oj => oj.dst != some t || (bindsTo oj i && j != i) | none => true) &&
  (r.all fun q => ((ops[q.2]?.bind (·.dst)) == some q.1) && bindsTo o q.2) &&
  (match c with
   | (0, _) => true
   | (1, si) => o.guard.isNone && o.dst.isSome && (match ops[si]? with | some s => bindsTo s i | none => false) && codes[si]? == o.dst.map (fun d => (2, d))
   | (_, t) => o.guard.isNone && o.dst.isNone && (List.range ops.size).any fun j => (ops[j]?.bind (·.dst)) == some t && bindsTo o j && codes[j]? == some (1, i))
/-- operation i waits for operation j, by a chain of f + 1 edges at most -/
def reachB (ops : Array Oper) : Nat → Nat → Nat → Bool
  | 0, i, j => match ops[i]? with | some o => bindsTo o j | none => false
  | f + 1, i, j => (match ops[i]? with | some o => bindsTo o j | none => false) || (List.range i).any fun k => (match ops[i]? with | some o => bindsTo o k | none => false) && reachB ops f k j
/-- The operations from number 'codes.length' on are the tail: each of them waits for all before it. -/
def okB (ops : Array Oper) (m : Nat) (codes : List (Nat × Nat)) (rd : List (List (Tmp × Nat))) : Bool :=
  decide (codes.length ≤ ops.size) && rd.length == codes.length &&
  ((List.range codes.length).all fun i => match ops[i]?, codes[i]?, rd[i]? with
    | some o, some c, some r => okAt ops m codes i o c r
    | _, _, _ => false) &&
  (List.range ops.size).all fun i => decide (i < codes.length) || match ops[i]? with
    | some o => (o.after.all fun e => !Region.binds .any e || decide (e.on < i)) && (List.range i).all fun j => reachB ops 12 i j
    | none => false
section
variable {P : Program} {ops : Array Oper} {sp : List RK} {A : Act} {w0 : World} {h0 : Nat} {tys : List TypeId} {rd : List (List (Tmp × Nat))} {m : Nat}

theorem put_getD_ne (a : Act) {d t : Tmp} (v : Value) (h : d ≠ t) : (a.put (some d) v).tmps.getD t undef = a.tmps.getD t undef := by
  simp [Act.put, Array.getElem?_setIfInBounds_ne h]
theorem put_getD_eq (a : Act) {d : Tmp} (v : Value) (h : d < a.tmps.size) : (a.put (some d) v).tmps.getD d undef = v := by
  simp [Act.put, h]
theorem put_size (a : Act) (d : Option Tmp) (v : Value) : (a.put d v).tmps.size = a.tmps.size := by
  cases d <;> simp [Act.put]
theorem put_def (a : Act) (d : Option Tmp) (v : Value) : (a.put d v).defers = a.defers := by
  cases d <;> simp [Act.put]
theorem eval_tmp (a : Act) (t : Tmp) : a.eval (.tmp t) = a.tmps.getD t undef := rfl

theorem Obs.get : ∀ {os : List Oper} {ks : List RK} {rs : List (List (Tmp × Nat))} {i : Nat} {o : Oper} {k : RK} {r : List (Tmp × Nat)},
    Obs P ops sp A w0 os ks rs → os[i]? = some o → ks[i]? = some k → rs[i]? = some r → Ob1 P ops sp A w0 o k r
  | o' :: os, k' :: ks, r' :: rs, 0, o, k, r, h, h1, h2, h3 => by
    simp at h1 h2 h3; subst h1 h2 h3; exact h.1
  | o' :: os, k' :: ks, r' :: rs, i + 1, o, k, r, h, h1, h2, h3 => Obs.get (i := i) h.2 (by simpa using h1) (by simpa using h2) (by simpa using h3)
  | [], _, _, i, o, k, r, h, h1, h2, h3 => by simp at h1
  | _ :: _, [], _, i, o, k, r, h, h1, h2, h3 => by simp at h2
  | _ :: _, _ :: _, [], i, o, k, r, h, h1, h2, h3 => by simp at h3

theorem Stabs.val_at : ∀ {ks : List RK} {i : Nat} {p : Value → World → Prop}, Stabs h0 tys sp ks → ks[i]? = some (.val p) → Stab h0 tys p
  | .val q :: ks, 0, p, h, e => by simp at e; subst e; exact h.1
  | .new .. :: ks, 0, p, h, e => by simp at e
  | .put .. :: ks, 0, p, h, e => by simp at e
  | .val q :: ks, i + 1, p, h, e => Stabs.val_at (i := i) h.2 (by simpa using e)
  | .new .. :: ks, i + 1, p, h, e => Stabs.val_at (i := i) h.2 (by simpa using e)
  | .put .. :: ks, i + 1, p, h, e => Stabs.val_at (ks := ks) (i := i) h (by simpa using e)
  | [], i, p, h, e => by simp at e
theorem Stabs.new_at : ∀ {ks : List RK} {i : Nat} {ty : TypeId} {z cs : Array Value} {si : Nat}, Stabs h0 tys sp ks → ks[i]? = some (.new ty z cs si) →
    ∀ {ty' z' cs' t}, sp[si]? = some (.put ty' z' cs' t) → ty = ty' ∧ z = z' ∧ cs = cs'
  | .val q :: ks, 0, _, _, _, _, h, e => by simp at e
  | .put .. :: ks, 0, _, _, _, _, h, e => by simp at e
  | .new .. :: ks, 0, _, _, _, _, h, e => by
    simp at e
    obtain ⟨rfl, rfl, rfl, rfl⟩ := e
    intro hs
    have h1 := h.1
    rw [hs] at h1
    exact h1
  | .val q :: ks, i + 1, _, _, _, _, h, e => Stabs.new_at (i := i) h.2 (by simpa using e)
  | .new .. :: ks, i + 1, _, _, _, _, h, e => Stabs.new_at (i := i) h.2 (by simpa using e)
  | .put .. :: ks, i + 1, _, _, _, _, h, e => Stabs.new_at (ks := ks) (i := i) h (by simpa using e)
  | [], i, _, _, _, _, h, e => by simp at e
theorem mem_tysOf : ∀ {ks : List RK} {i : Nat} {ty : TypeId} {z cs : Array Value} {si : Nat}, ks[i]? = some (.new ty z cs si) → ty ∈ tysOf ks
  | .val q :: ks, 0, _, _, _, _, e => by simp at e
  | .put .. :: ks, 0, _, _, _, _, e => by simp at e
  | .new .. :: ks, 0, _, _, _, _, e => by simp at e; simp [tysOf, e.1]
  | .val q :: ks, i + 1, _, _, _, _, e => mem_tysOf (ks := ks) (i := i) (by simpa using e)
  | .new .. :: ks, i + 1, _, _, _, _, e => List.mem_cons_of_mem _ (mem_tysOf (ks := ks) (i := i) (by simpa using e))
  | .put .. :: ks, i + 1, _, _, _, _, e => mem_tysOf (ks := ks) (i := i) (by simpa using e)
  | [], i, _, _, _, _, e => by simp at e

/-- What an operation does at a state that agrees with the one of its obligation on all that it looks at. -/
theorem Run.use {o : Oper} {k : RK} {D : List Deferred} {g : Nat} {w : World} {A' a : Act} {K : Act → World → Prop} {Q : Exit → Act → World → Prop}
    (h : Run P o k D g w A') (hs : ∀ cs b, o.op ≠ .select cs b) (he : ∀ x ∈ o.op.operands, a.eval x = A'.eval x) (hd : ∀ d, o.dst = some d → d < A'.tmps.size) (hA : A'.defers = D)
    (hK : ∀ v w', k.post g w (rvT o.dst v) w' → K (a.put o.dst v) w') : o.wp P a w K Q := by
  have h1 := h (fun a' w' => a'.defers = D ∧ k.post g w (readT a' o.dst) w') (fun _ _ x y => ⟨x, y⟩)
  have hr : ∀ v, readT (A'.put o.dst v) o.dst = rvT o.dst v := by
    intro v
    cases hdst : o.dst with
    | none => rfl
    | some d => exact put_getD_eq A' v (hd d hdst)
  unfold Oper.wp at *
  rw [execOp_congr o hs he]
  generalize (execOp A'.eval o).run P w = r at *
  cases r with
  | ok n w' =>
    cases n <;> simp only [Oper.upon] at h1 ⊢
    case value v => exact hK v w' (by rw [← hr v]; exact h1.2)
    case skip => exact hK _ w' (by rw [← hr]; exact h1.2)
    case defer d =>
      have := h1.1
      rw [put_def] at this
      simp only [hA] at this
      exact absurd (congrArg List.length this) (by simp)
    case enter f args =>
      refine Calls.mono h1 fun e w'' he => ?_
      cases e with
      | returned v => exact hK v w'' (by rw [← hr v]; exact he.2)
      | panicked c => exact he.elim
      | outgrown => obtain ⟨_, _, hf⟩ := he; exact hf.elim
    case row row args => exact Rows.mono h1 fun v w'' he => hK v w'' (by rw [← hr v]; exact he.2)
  | halt x w' =>
    cases x <;> simp only [Oper.upon] at h1
    case panic u => exact h1.elim

/-- The state of an obligation, its slots filled from a's. -/
def over (a : Act) : List (Tmp × Nat) → Act → Act
  | [], A => A
  | (t, _) :: r, A => over a r (A.put (some t) (a.tmps.getD t undef))
theorem over_size (a : Act) : ∀ (r : List (Tmp × Nat)) (A : Act), (over a r A).tmps.size = A.tmps.size
  | [], A => rfl
  | (t, j) :: r, A => (over_size a r _).trans (put_size _ _ _)
theorem over_defers (a : Act) : ∀ (r : List (Tmp × Nat)) (A : Act), (over a r A).defers = A.defers
  | [], A => rfl
  | (t, j) :: r, A => (over_defers a r _).trans (put_def _ _ _)
theorem over_keep (a : Act) : ∀ (r : List (Tmp × Nat)) (A : Act) (t : Tmp), A.tmps.size = a.tmps.size → A.tmps.getD t undef = a.tmps.getD t undef → (over a r A).tmps.getD t undef = a.tmps.getD t undef
  | [], A, t, _, h => h
  | (s, j) :: r, A, t, hs, h => by
    refine over_keep a r _ t ((put_size _ _ _).trans hs) ?_
    by_cases e : s = t
    · subst e
      rcases Nat.lt_or_ge s A.tmps.size with hl | hl
      · exact put_getD_eq _ _ hl
      · rw [← h]; simp [Act.put, Array.getElem?_eq_none (Nat.le_trans (by simp) hl : (A.tmps.setIfInBounds s _).size ≤ s), Array.getElem?_eq_none hl]
    · rw [put_getD_ne _ _ e]; exact h
theorem over_hit (a : Act) : ∀ (r : List (Tmp × Nat)) (A : Act) (t : Tmp), A.tmps.size = a.tmps.size → (r.any fun q => q.1 == t) = true → (over a r A).tmps.getD t undef = a.tmps.getD t undef
  | [], A, t, _, h => by simp at h
  | (s, j) :: r, A, t, hs, h => by
    by_cases e : s = t
    · subst e
      refine over_keep a r _ s ((put_size _ _ _).trans hs) ?_
      rcases Nat.lt_or_ge s A.tmps.size with hl | hl
      · exact put_getD_eq _ _ hl
      · have hl' : a.tmps.size ≤ s := hs ▸ hl
        simp [Act.put, Array.getElem?_eq_none (Nat.le_trans (by simp) hl : (A.tmps.setIfInBounds s _).size ≤ s), Array.getElem?_eq_none hl']
    · refine over_hit a r _ t ((put_size _ _ _).trans hs) ?_
      simpa [e] using h

theorem Reads.use {w : World} {G : Act → Prop} {a : Act} : ∀ {r : List (Tmp × Nat)} {A : Act}, Reads sp w G r A →
    (∀ q ∈ r, ∀ p, sp[q.2]? = some (.val p) → p (a.tmps.getD q.1 undef) w) → G (over a r A)
  | [], A, h, _ => h
  | (t, j) :: r, A, h, hp => by
    unfold Reads at h
    split at h
    · rename_i p hj
      exact Reads.use (r := r) (h _ (hp (t, j) List.mem_cons_self p hj)) fun q hq => hp q (List.mem_cons_of_mem _ hq)
    · exact h.elim

theorem yields_eq {a b : Act} {g : Nat} (hs : a.tmps.size = b.tmps.size) (h : ∀ t, (ops[g]?).bind (·.dst) = some t → a.tmps.getD t undef = b.tmps.getD t undef) : yielded ops a.tmps g = yielded ops b.tmps g := by
  unfold yielded
  cases ht : (ops[g]?).bind (·.dst) with
  | none => rfl
  | some t =>
    have h1 := h t ht
    have e : a.tmps[t]? = b.tmps[t]? := by
      rcases Nat.lt_or_ge t a.tmps.size with hl | hl
      · have hl' : t < b.tmps.size := hs ▸ hl
        simp [hl, hl'] at h1 ⊢
        exact h1
      · rw [Array.getElem?_eq_none hl, Array.getElem?_eq_none (hs ▸ hl)]
    simp only [Option.bind_some, e]

structure OkAt (ops : Array Oper) (m : Nat) (codes : List (Nat × Nat)) (i : Nat) (o : Oper) (c : Nat × Nat) (r : List (Tmp × Nat)) : Prop where
  fwd : ∀ e ∈ o.after, Region.binds .any e = true → e.on < i
  sel : ∀ cs b, o.op ≠ .select cs b
  dst : ∀ d, o.dst = some d → d < m ∧ ∀ (j : Nat) (oj : Oper), ops[j]? = some oj → oj.dst = some d → j = i
  looks : ∀ t ∈ o.looksAt ops, (r.any (fun q => q.1 == t) = true) ∨ (c = (2, t)) ∨ ∀ (j : Nat) (oj : Oper), ops[j]? = some oj → oj.dst = some t → bindsTo oj i = true
  reads : ∀ q ∈ r, (ops[q.2]?.bind (·.dst)) = some q.1 ∧ bindsTo o q.2 = true
  new : ∀ si, c = (1, si) → o.guard = none ∧ (∃ s, ops[si]? = some s ∧ bindsTo s i = true) ∧ ∃ d, o.dst = some d ∧ codes[si]? = some (2, d)
  put : ∀ t, c = (2, t) → o.guard = none ∧ o.dst = none ∧ ∃ (j : Nat) (oj : Oper), ops[j]? = some oj ∧ oj.dst = some t ∧ bindsTo o j = true ∧ codes[j]? = some (1, i)

theorem lt_of_some {α : Type} {xs : Array α} {i : Nat} {x : α} (h : xs[i]? = some x) : i < xs.size := (Array.getElem?_eq_some_iff.1 h).1
theorem ok_at {codes : List (Nat × Nat)} (h : okB ops m codes rd = true) {i : Nat} {o : Oper} (ho : ops[i]? = some o) {c : Nat × Nat} (hck : codes[i]? = some c) : ∃ r, rd[i]? = some r ∧ OkAt ops m codes i o c r := by
  unfold okB at h
  simp only [Bool.and_eq_true, beq_iff_eq, List.all_eq_true, List.mem_range, decide_eq_true_eq] at h
  obtain ⟨⟨⟨hc, hr⟩, h⟩, _⟩ := h
  have hci : i < codes.length := (List.getElem?_eq_some_iff.1 hck).1
  have h1 := h i hci
  have hri : i < rd.length := by omega
  rw [ho, hck, List.getElem?_eq_getElem hri] at h1
  refine ⟨_, List.getElem?_eq_getElem hri, ?_⟩
  generalize rd[i] = r at *
  simp only [okAt, Bool.and_eq_true] at h1
  obtain ⟨⟨⟨⟨⟨k1, k2⟩, k3⟩, k4⟩, k5⟩, k6⟩ := h1
  refine ⟨?_, ?_, ?_, ?_, ?_, ?_, ?_⟩
  · intro e he hb
    have := Array.all_eq_true_iff_forall_mem.1 k1 e he
    simpa [hb] using this
  · intro cs b e
    rw [e] at k2
    cases k2
  · intro d hd
    rw [hd] at k3
    simp only [Bool.and_eq_true, decide_eq_true_eq, List.all_eq_true, List.mem_range, Bool.or_eq_true, beq_iff_eq, bne_iff_ne, ne_eq] at k3
    refine ⟨k3.1, fun j oj hj hdj => ?_⟩
    rcases k3.2 j (lt_of_some hj) with e | e
    · exact e
    · exact absurd (by rw [hj]; exact hdj) e
  · intro t ht
    simp only [List.all_eq_true, Bool.or_eq_true] at k4
    rcases k4 t ht with (e | e) | e
    · exact .inl e
    · simp only [Bool.and_eq_true, beq_iff_eq] at e
      exact .inr (.inl (Prod.ext e.1 e.2))
    · refine .inr (.inr fun j oj hj hdj => ?_)
      have := e j (List.mem_range.2 (lt_of_some hj))
      simp only [hj, hdj, bne_self_eq_false, Bool.false_or, Bool.and_eq_true] at this
      exact this.1
  · intro q hq
    have := List.all_eq_true.1 k5 q hq
    simp only [Bool.and_eq_true, beq_iff_eq] at this
    exact this
  · rintro si rfl
    simp only [Bool.and_eq_true, Option.isNone_iff_eq_none, Option.isSome_iff_exists, beq_iff_eq] at k6
    obtain ⟨⟨⟨a1, d, a2⟩, a3⟩, a4⟩ := k6
    refine ⟨a1, ?_, d, a2, by rw [a4, a2]; rfl⟩
    split at a3
    · rename_i s hs; exact ⟨s, hs, a3⟩
    · cases a3
  · rintro t rfl
    simp only [Bool.and_eq_true, Option.isNone_iff_eq_none, List.any_eq_true, List.mem_range, beq_iff_eq] at k6
    obtain ⟨⟨a1, a2⟩, j, hj, ⟨a3, a4⟩, a5⟩ := k6
    cases hoj : ops[j]? with
    | none => rw [hoj] at a3; cases a3
    | some oj => rw [hoj] at a3; exact ⟨a1, a2, j, oj, hoj, a3, a4, a5⟩

theorem ok_fwd {codes : List (Nat × Nat)} (h : okB ops m codes rd = true) {i : Nat} {o : Oper} (ho : ops[i]? = some o) : ∀ e ∈ o.after, Region.binds .any e = true → e.on < i := by
  by_cases hi : i < codes.length
  · obtain ⟨_, _, ok⟩ := ok_at h ho (List.getElem?_eq_getElem hi)
    exact ok.fwd
  · unfold okB at h
    simp only [Bool.and_eq_true, List.all_eq_true, List.mem_range] at h
    have h1 := h.2 i (lt_of_some ho)
    rw [ho] at h1
    simp only [hi, decide_false, Bool.false_or, Bool.and_eq_true] at h1
    intro e he hb
    have := Array.all_eq_true_iff_forall_mem.1 h1.1 e he
    simpa [hb] using this
theorem ok_tail {codes : List (Nat × Nat)} (h : okB ops m codes rd = true) {i : Nat} {o : Oper} (ho : ops[i]? = some o) (hi : codes.length ≤ i) : ∀ j, j < i → reachB ops 12 i j = true := by
  unfold okB at h
  simp only [Bool.and_eq_true, List.all_eq_true, List.mem_range] at h
  have h1 := h.2 i (lt_of_some ho)
  rw [ho] at h1
  have hn : ¬ i < codes.length := by omega
  simp only [hn, decide_false, Bool.false_or, Bool.and_eq_true] at h1
  intro j hj
  exact List.all_eq_true.1 h1.2 j (List.mem_range.2 hj)
/-- what is closed under waiting holds of all that a chain leads to -/
theorem reach_of {S : Nat → Prop} (hS : ∀ (i : Nat) (o : Oper) j, ops[i]? = some o → bindsTo o j = true → S i → S j) : ∀ (f i j : Nat), reachB ops f i j = true → S i → S j
  | 0, i, j, h, hi => by
    unfold reachB at h
    cases ho : ops[i]? with
    | none => rw [ho] at h; cases h
    | some o => rw [ho] at h; exact hS i o j ho h hi
  | f + 1, i, j, h, hi => by
    unfold reachB at h
    simp only [Bool.or_eq_true, List.any_eq_true, Bool.and_eq_true] at h
    rcases h with h | ⟨k, _, h1, h2⟩
    · cases ho : ops[i]? with
      | none => rw [ho] at h; cases h
      | some o => rw [ho] at h; exact hS i o j ho h hi
    · cases ho : ops[i]? with
      | none => rw [ho] at h1; cases h1
      | some o => rw [ho] at h1; exact reach_of hS f k j h2 (hS i o k ho h1 hi)
/-- the same, the first operation itself not known to hold -/
theorem reach_from {S : Nat → Prop} (hS : ∀ (i : Nat) (o : Oper) j, ops[i]? = some o → bindsTo o j = true → S i → S j) {i : Nat} {o : Oper} (ho : ops[i]? = some o) (h0 : ∀ j, bindsTo o j = true → S j) : ∀ (f j : Nat), reachB ops f i j = true → S j
  | 0, j, h => by unfold reachB at h; rw [ho] at h; exact h0 j h
  | f + 1, j, h => by
    unfold reachB at h
    simp only [Bool.or_eq_true, List.any_eq_true, Bool.and_eq_true] at h
    rcases h with h | ⟨k, _, h1, h2⟩
    · rw [ho] at h; exact h0 j h
    · rw [ho] at h1; exact reach_of hS f k j h2 (h0 k h1)
theorem ok_sp {codes : List (Nat × Nat)} (hc : sp.map RK.code = codes) (h : okB ops m codes rd = true) {i : Nat} {o : Oper} (ho : ops[i]? = some o) {k : RK} (hk : sp[i]? = some k) : ∃ r, rd[i]? = some r ∧ OkAt ops m codes i o k.code r :=
  ok_at h ho (by rw [← hc, List.getElem?_map, hk]; rfl)

/-- What holds of a state in which the listed operations are done. -/
structure Inv (ops : Array Oper) (sp : List RK) (A : Act) (w0 : World) (listed : Array Bool) (a : Act) (w : World) : Prop where
  len : listed.size = ops.size
  defers : a.defers = A.defers
  size : a.tmps.size = A.tmps.size
  below : Below w0.heap.size w0 w
  vals : ∀ (i : Nat) (o : Oper) t p, ops[i]? = some o → o.dst = some t → sp[i]? = some (.val p) → listed.getD i false = true → p (a.tmps.getD t undef) w
  olds : ∀ t, (∀ (i : Nat) (o : Oper), ops[i]? = some o → o.dst = some t → listed.getD i false = false) → a.tmps.getD t undef = A.tmps.getD t undef
  news : ∀ (i : Nat) (o : Oper) t ty z cs si, ops[i]? = some o → o.dst = some t → sp[i]? = some (.new ty z cs si) → listed.getD i false = true →
    ∃ g, a.tmps.getD t undef = .pointer (some ⟨g, 0, none⟩) ∧ w0.heap.size ≤ g ∧ Box w g ty (if listed.getD si false = true then cs else z)
  apart : ∀ (i j : Nat) (o o' : Oper) t t' ty z cs si ty' z' cs' si', ops[i]? = some o → o.dst = some t → sp[i]? = some (.new ty z cs si) → listed.getD i false = true →
    ops[j]? = some o' → o'.dst = some t' → sp[j]? = some (.new ty' z' cs' si') → listed.getD j false = true → i ≠ j → a.tmps.getD t undef ≠ a.tmps.getD t' undef
  down : ∀ (i : Nat) (o : Oper), ops[i]? = some o → listed.getD i false = true → ∀ e ∈ o.after, Region.binds .any e = true → listed.getD e.on false = true

theorem set_getD {listed : Array Bool} {i : Nat} (hi : i < listed.size) (j : Nat) : (listed.setIfInBounds i true).getD j false = true ↔ j = i ∨ listed.getD j false = true := by
  by_cases h : i = j
  · subst h; simp [hi]
  · simp [Array.getElem?_setIfInBounds_ne h, Ne.symm h]
theorem set_getD_ne {listed : Array Bool} {i j : Nat} (h : j ≠ i) : (listed.setIfInBounds i true).getD j false = listed.getD j false := by
  simp [Array.getElem?_setIfInBounds_ne (Ne.symm h)]
theorem getD_false {listed : Array Bool} {i : Nat} (h : listed.getD i true = false) : listed.getD i false = false := by
  rcases Nat.lt_or_ge i listed.size with hl | hl
  · simp [hl] at h ⊢; exact h
  · simp [Array.getElem?_eq_none hl]

theorem bindsTo_spec {o : Oper} {j : Nat} (h : bindsTo o j = true) : ∃ e ∈ o.after, Region.binds .any e = true ∧ e.on = j := by
  obtain ⟨e, he, hb⟩ := Array.any_eq_true'.1 h
  simp only [Bool.and_eq_true, beq_iff_eq] at hb
  exact ⟨e, he, hb.1, hb.2⟩

theorem inv_step {codes : List (Nat × Nat)} (hc : sp.map RK.code = codes) (hm : A.tmps.size = m) (hok : okB ops m codes rd = true) (hst : Stabs w0.heap.size (tysOf sp) sp sp)
    (hob : Obs P ops sp A w0 ops.toList sp rd) {Q : Exit → Act → World → Prop} {listed : Array Bool} {a : Act} {w : World} (I : Inv ops sp A w0 listed a w) {i : Nat} (hi : i ∈ Region.ready .any ops listed) (hlin : i < codes.length) :
    wpOp P ops Q i (Inv ops sp A w0 (listed.setIfInBounds i true)) a w := by
  obtain ⟨hl0, o, ho, hall⟩ := mem_ready.1 hi
  have hl := getD_false hl0
  have hci : codes[i]? = some codes[i] := List.getElem?_eq_getElem hlin
  obtain ⟨r, hri, ok⟩ := ok_at hok ho hci
  generalize codes[i] = c at *
  have hil : i < listed.size := by rw [I.len]; exact lt_of_some ho
  obtain ⟨k, hk, hkc⟩ : ∃ k, sp[i]? = some k ∧ k.code = c := by
    rw [← hc, List.getElem?_map] at hci
    cases hs : sp[i]? with
    | none => rw [hs] at hci; cases hci
    | some k => rw [hs] at hci; exact ⟨k, rfl, by simpa using hci⟩
  have hOb := hob.get (by simpa using ho) hk hri
  have hpred : ∀ j, bindsTo o j = true → listed.getD j false = true := fun j hj => by
    obtain ⟨e, he, hb, rfl⟩ := bindsTo_spec hj
    exact hall e he hb
  -- the values read are those of a
  have hrd : ∀ q ∈ r, ∀ p, sp[q.2]? = some (.val p) → p (a.tmps.getD q.1 undef) w := fun q hq p hp => by
    obtain ⟨e1, e2⟩ := ok.reads q hq
    cases hoq : ops[q.2]? with
    | none => rw [hoq] at e1; cases e1
    | some oq => rw [hoq] at e1; exact I.vals q.2 oq q.1 p hoq e1 hp (hpred _ e2)
  have hold : ∀ t, (∀ (j : Nat) (oj : Oper), ops[j]? = some oj → oj.dst = some t → bindsTo oj i = true) → a.tmps.getD t undef = A.tmps.getD t undef := fun t ht => by
    refine I.olds t fun j oj hj hdj => ?_
    cases hlj : listed.getD j false with
    | false => rfl
    | true =>
      obtain ⟨e, he, hb, rfl⟩ := bindsTo_spec (ht j oj hj hdj)
      rw [I.down j oj hj hlj e he hb] at hl
      cases hl
  -- how the invariant goes on
  have downs : ∀ (j : Nat) (oj : Oper), ops[j]? = some oj → (listed.setIfInBounds i true).getD j false = true → ∀ e ∈ oj.after, Region.binds .any e = true → (listed.setIfInBounds i true).getD e.on false = true := by
    intro j oj hj hlj e he hb
    rw [set_getD hil] at hlj ⊢
    rcases hlj with rfl | hlj
    · rw [ho] at hj; cases hj; exact .inr (hall e he hb)
    · exact .inr (I.down j oj hj hlj e he hb)
  have mdst : ∀ d, o.dst = some d → d < a.tmps.size := fun d hd => by rw [I.size, hm]; exact (ok.dst d hd).1
  have other : ∀ (j : Nat) (oj : Oper) t v, ops[j]? = some oj → oj.dst = some t → j ≠ i → (a.put o.dst v).tmps.getD t undef = a.tmps.getD t undef := by
    intro j oj t v hj hdj hne
    cases hd : o.dst with
    | none => rfl
    | some d => exact put_getD_ne a v fun e => hne ((ok.dst d hd).2 j oj hj (e ▸ hdj))
  have olds : ∀ v t, (∀ (j : Nat) (oj : Oper), ops[j]? = some oj → oj.dst = some t → (listed.setIfInBounds i true).getD j false = false) → (a.put o.dst v).tmps.getD t undef = A.tmps.getD t undef := by
    intro v t ht
    have hne : o.dst ≠ some t := fun e => by
      have := ht i o ho e
      rw [(set_getD hil i).2 (.inl rfl)] at this
      cases this
    have h1 : (a.put o.dst v).tmps.getD t undef = a.tmps.getD t undef := by
      cases hd : o.dst with
      | none => rfl
      | some d => exact put_getD_ne a v fun e => hne (by rw [hd, e])
    rw [h1]
    refine I.olds t fun j oj hj hdj => ?_
    cases hlj : listed.getD j false with
    | false => rfl
    | true => rw [← ht j oj hj hdj, (set_getD hil j).2 (.inr hlj)]
  -- the three kinds
  have valK : ∀ p, k = .val p → ∀ v w', k.post 0 w (rvT o.dst v) w' → Inv ops sp A w0 (listed.setIfInBounds i true) (a.put o.dst v) w' := by
    rintro p rfl v w' ⟨hp, hb⟩
    refine ⟨by simpa using I.len, (put_def _ _ _).trans I.defers, (put_size _ _ _).trans I.size, I.below.trans (hb.mono I.below.size), ?_, olds v, ?_, ?_, downs⟩
    · intro j oj t q hj hdj hq hlj
      by_cases hji : j = i
      · subst hji
        rw [ho] at hj; cases hj
        rw [hk] at hq; cases hq
        rw [hdj, put_getD_eq _ _ (mdst t hdj)]
        rw [hdj] at hp
        exact hp
      · rw [other j oj t v hj hdj hji]
        rw [set_getD_ne hji] at hlj
        exact hst.val_at hq _ _ _ (Gr.of_below hb) (I.vals j oj t q hj hdj hq hlj)
    · intro j oj t ty z cs si hj hdj hq hlj
      have hji : j ≠ i := fun e => by subst e; rw [hk] at hq; cases hq
      rw [set_getD_ne hji] at hlj
      obtain ⟨g, hg, hg0, hbx⟩ := I.news j oj t ty z cs si hj hdj hq hlj
      refine ⟨g, (other j oj t v hj hdj hji).trans hg, hg0, ?_⟩
      have hsi : si ≠ i := fun e => by
        obtain ⟨r2, _, ok2⟩ := ok_sp hc hok hj hq
        obtain ⟨_, _, d, _, hd2⟩ := ok2.new si rfl
        rw [← hc, List.getElem?_map, e, hk] at hd2
        simp [RK.code] at hd2
      rw [set_getD_ne hsi]
      exact hbx.below hb hbx.lt
    · intro j j' oj oj' t t' ty z cs si ty' z' cs' si' hj hdj hq hlj hj' hdj' hq' hlj' hne
      have hji : j ≠ i := fun e => by subst e; rw [hk] at hq; cases hq
      have hji' : j' ≠ i := fun e => by subst e; rw [hk] at hq'; cases hq'
      rw [other j oj t v hj hdj hji, other j' oj' t' v hj' hdj' hji']
      rw [set_getD_ne hji] at hlj
      rw [set_getD_ne hji'] at hlj'
      exact I.apart j j' oj oj' t t' ty z cs si ty' z' cs' si' hj hdj hq hlj hj' hdj' hq' hlj' hne
  have newK : ∀ ty z cs si, k = .new ty z cs si → ∀ v w', k.post 0 w (rvT o.dst v) w' → Inv ops sp A w0 (listed.setIfInBounds i true) (a.put o.dst v) w' := by
    rintro ty z cs si rfl v w' ⟨hv, rfl⟩
    obtain ⟨hgd, ⟨s, hs, hsb⟩, d, hd, hsd⟩ := ok.new si hkc.symm
    have hlsi : listed.getD si false = false := by
      cases e : listed.getD si false with
      | false => rfl
      | true =>
        obtain ⟨e1, he1, hb1, e2⟩ := bindsTo_spec hsb
        have := I.down si s hs e e1 he1 hb1
        rw [e2, hl] at this
        cases this
    have hsine : si ≠ i := fun e => by
      obtain ⟨e1, he1, hb1, e2⟩ := bindsTo_spec hsb
      have := ok_fwd hok hs e1 he1 hb1
      omega
    rw [hd] at hv
    have hv : v = .pointer (some ⟨w.heap.size, 0, none⟩) := hv
    have hb : Below w.heap.size w (w.alloc (.cells z ty)) := (Below.refl _ _).alloc (Nat.le_refl _) _
    refine ⟨by simpa using I.len, (put_def _ _ _).trans I.defers, (put_size _ _ _).trans I.size, I.below.trans (hb.mono I.below.size), ?_, olds v, ?_, ?_, downs⟩
    · intro j oj t q hj hdj hq hlj
      have hji : j ≠ i := fun e => by subst e; rw [hk] at hq; cases hq
      rw [other j oj t v hj hdj hji]
      rw [set_getD_ne hji] at hlj
      exact hst.val_at hq _ _ _ (Gr.of_below hb) (I.vals j oj t q hj hdj hq hlj)
    · intro j oj t ty' z' cs' si' hj hdj hq hlj
      by_cases hji : j = i
      · subst hji
        rw [ho] at hj; cases hj
        rw [hk] at hq; cases hq
        rw [hd] at hdj; cases hdj
        refine ⟨w.heap.size, ?_, I.below.size, ?_⟩
        · rw [hd, put_getD_eq _ _ (mdst _ hd)]; exact hv
        · rw [set_getD_ne hsine, hlsi]
          exact Box.new w ty z
      · rw [set_getD_ne hji] at hlj
        obtain ⟨g, hg, hg0, hbx⟩ := I.news j oj t ty' z' cs' si' hj hdj hq hlj
        refine ⟨g, (other j oj t v hj hdj hji).trans hg, hg0, ?_⟩
        have hsi : si' ≠ i := fun e => by
          obtain ⟨r2, _, ok2⟩ := ok_sp hc hok hj hq
          obtain ⟨_, _, d2, _, hd2⟩ := ok2.new si' rfl
          rw [← hc, List.getElem?_map, e, hk] at hd2
          simp [RK.code] at hd2
        rw [set_getD_ne hsi]
        exact hbx.below hb hbx.lt
    · have fresh : ∀ (j : Nat) (oj : Oper) t ty' z' cs' si', ops[j]? = some oj → oj.dst = some t → sp[j]? = some (.new ty' z' cs' si') → listed.getD j false = true → a.tmps.getD t undef ≠ v := by
        intro j oj t ty' z' cs' si' hj hdj hq hlj e
        obtain ⟨g, hg, _, hbx⟩ := I.news j oj t ty' z' cs' si' hj hdj hq hlj
        have := hbx.lt
        rw [hg, hv] at e
        injection e with e
        injection e with e
        injection e with e
        omega
      intro j j' oj oj' t t' ty1 z1 cs1 si1 ty2 z2 cs2 si2 hj hdj hq hlj hj' hdj' hq' hlj' hne
      by_cases hji : j = i
      · subst hji
        have hji' : j' ≠ j := Ne.symm hne
        rw [ho] at hj; cases hj
        rw [other j' oj' t' v hj' hdj' hji', hdj, put_getD_eq _ _ (mdst _ hdj)]
        rw [set_getD_ne hji'] at hlj'
        exact Ne.symm (fresh j' oj' t' _ _ _ _ hj' hdj' hq' hlj')
      · by_cases hji' : j' = i
        · subst hji'
          rw [ho] at hj'; cases hj'
          rw [other j oj t v hj hdj hji, hdj', put_getD_eq _ _ (mdst _ hdj')]
          rw [set_getD_ne hji] at hlj
          exact fresh j oj t _ _ _ _ hj hdj hq hlj
        · rw [other j oj t v hj hdj hji, other j' oj' t' v hj' hdj' hji']
          rw [set_getD_ne hji] at hlj
          rw [set_getD_ne hji'] at hlj'
          exact I.apart j j' oj oj' t t' _ _ _ _ _ _ _ _ hj hdj hq hlj hj' hdj' hq' hlj' hne
  unfold wpOp
  simp only [ho]
  cases k with
  | val p =>
    have hG := Reads.use (a := a) (hOb w I.below) hrd
    have hlk : ∀ t ∈ o.looksAt ops, a.tmps.getD t undef = (over a r A).tmps.getD t undef := fun t ht => by
      rcases ok.looks t ht with h | h | h
      · exact (over_hit a r A t I.size.symm h).symm
      · rw [← hkc] at h; simp [RK.code] at h
      · exact (over_keep a r A t I.size.symm (hold t h).symm).symm
    have hev : ∀ x ∈ o.op.operands, a.eval x = (over a r A).eval x := fun x hx => by
      cases x with
      | tmp t => exact hlk t (List.mem_append_left _ (List.mem_filterMap.2 ⟨.tmp t, by simpa using hx, rfl⟩))
      | _ => rfl
    have hsz : a.tmps.size = (over a r A).tmps.size := by rw [over_size, I.size]
    have run : Run P o (.val p) A.defers 0 w (over a r A) → o.wp P a w (Inv ops sp A w0 (listed.setIfInBounds i true)) Q := fun h =>
      h.use ok.sel hev (fun d hd => by rw [← hsz]; exact mdst d hd) (over_defers _ _ _) fun v w' hp => valK p rfl v w' hp
    unfold Run' at hG
    cases hgd : o.guard with
    | none =>
      rw [hgd] at hG
      have : Region.wanted o (yielded ops a.tmps) = true := by unfold Region.wanted; rw [hgd]
      simp only [this, if_true]
      exact .inl (run hG)
    | some gw =>
      rw [hgd] at hG
      have hwa : Region.wanted o (yielded ops a.tmps) = Region.wanted o (yielded ops (over a r A).tmps) := by
        obtain ⟨gi, want⟩ := gw
        unfold Region.wanted
        simp only [hgd]
        rw [yields_eq hsz fun t ht => hlk t (List.mem_append_right _ (by rw [hgd]; simp [ht]))]
      split
      · rename_i hw
        exact .inl (run (hG.1 (by rw [← hwa]; exact hw)))
      · rename_i hw
        have := hG.2 (by rw [← hwa]; simpa using hw)
        refine valK p rfl undef w ?_
        cases hd : o.dst with
        | none => exact this
        | some d => exact this
  | new ty z cs si =>
    obtain ⟨hgd, _, d, hd, _⟩ := ok.new si hkc.symm
    have hG := Reads.use (a := a) (hOb w I.below) hrd
    have hlk : ∀ t ∈ o.looksAt ops, a.tmps.getD t undef = (over a r A).tmps.getD t undef := fun t ht => by
      rcases ok.looks t ht with h | h | h
      · exact (over_hit a r A t I.size.symm h).symm
      · rw [← hkc] at h; simp [RK.code] at h
      · exact (over_keep a r A t I.size.symm (hold t h).symm).symm
    have hev : ∀ x ∈ o.op.operands, a.eval x = (over a r A).eval x := fun x hx => by
      cases x with
      | tmp t => exact hlk t (List.mem_append_left _ (List.mem_filterMap.2 ⟨.tmp t, by simpa using hx, rfl⟩))
      | _ => rfl
    have hsz : a.tmps.size = (over a r A).tmps.size := by rw [over_size, I.size]
    unfold Run' at hG
    rw [hgd] at hG
    have : Region.wanted o (yielded ops a.tmps) = true := by unfold Region.wanted; rw [hgd]
    simp only [this, if_true]
    exact .inl (Run.use hG ok.sel hev (fun d hd => by rw [← hsz]; exact mdst d hd) (over_defers _ _ _) fun v w' hp => newK ty z cs si rfl v w' hp)
  | put ty z cs t =>
    obtain ⟨hgd, hdn, j, oj, hj, hdj, hbj, hcj⟩ := ok.put t hkc.symm
    obtain ⟨kj, hkj, hkjc⟩ : ∃ kj, sp[j]? = some kj ∧ kj.code = (1, i) := by
      rw [← hc, List.getElem?_map] at hcj
      cases hs : sp[j]? with
      | none => rw [hs] at hcj; cases hcj
      | some kj => rw [hs] at hcj; exact ⟨kj, rfl, by simpa using hcj⟩
    cases kj with
    | val _ => simp [RK.code] at hkjc
    | put _ _ _ _ => simp [RK.code] at hkjc
    | new ty' z' cs' si =>
      obtain rfl : si = i := by simpa [RK.code] using hkjc
      obtain ⟨rfl, rfl, rfl⟩ := hst.new_at hkj hk
      obtain ⟨g, hg, hg0, hbx⟩ := I.news j oj t _ _ _ _ hj hdj hkj (hpred j hbj)
      rw [hl] at hbx
      simp only [Bool.false_eq_true, if_false] at hbx
      have hG := Reads.use (a := a) (hOb w I.below g hg0 hbx) hrd
      generalize hA' : A.put (some t) (.pointer (some ⟨g, 0, none⟩)) = A' at hG
      have hsA : A'.tmps.size = a.tmps.size := by rw [← hA', put_size, I.size]
      have htA : A'.tmps.getD t undef = a.tmps.getD t undef := by
        rw [hg, ← hA']
        exact put_getD_eq _ _ (by
          obtain ⟨_, _, ok2⟩ := ok_sp hc hok hj hkj
          rw [hm]; exact (ok2.dst t hdj).1)
      have hnA : ∀ u, u ≠ t → A'.tmps.getD u undef = A.tmps.getD u undef := fun u hu => by rw [← hA']; exact put_getD_ne _ _ (Ne.symm hu)
      have hlk : ∀ u ∈ o.looksAt ops, a.tmps.getD u undef = (over a r A').tmps.getD u undef := fun u hu => by
        rcases ok.looks u hu with h | h | h
        · exact (over_hit a r A' u hsA h).symm
        · rw [← hkc] at h
          obtain rfl : t = u := by simpa [RK.code] using h
          exact (over_keep a r A' t hsA htA).symm
        · refine (over_keep a r A' u hsA ?_).symm
          by_cases hu' : u = t
          · subst hu'; exact htA
          · rw [hnA u hu', hold u h]
      have hev : ∀ x ∈ o.op.operands, a.eval x = (over a r A').eval x := fun x hx => by
        cases x with
        | tmp u => exact hlk u (List.mem_append_left _ (List.mem_filterMap.2 ⟨.tmp u, by simpa using hx, rfl⟩))
        | _ => rfl
      have : Region.wanted o (yielded ops a.tmps) = true := by unfold Region.wanted; rw [hgd]
      simp only [this, if_true]
      refine .inl (Run.use hG ok.sel hev (fun d hd => by rw [hdn] at hd; cases hd) (by rw [over_defers, ← hA', put_def]) fun v w' hp => ?_)
      have hS : Stored w g _ _ w' := hp
      refine ⟨by simpa using I.len, (put_def _ _ _).trans I.defers, (put_size _ _ _).trans I.size, hS.below I.below hg0, ?_, olds v, ?_, ?_, downs⟩
      · intro j' oj' t' q hj' hdj' hq hlj'
        have hji : j' ≠ si := fun e => by subst e; rw [hk] at hq; cases hq
        rw [other j' oj' t' v hj' hdj' hji]
        rw [set_getD_ne hji] at hlj'
        exact hst.val_at hq _ _ _ (Gr.of_stored hS hbx hg0 (mem_tysOf hkj)) (I.vals j' oj' t' q hj' hdj' hq hlj')
      · intro j' oj' t' ty' z' cs' si' hj' hdj' hq hlj'
        have hji : j' ≠ si := fun e => by subst e; rw [hk] at hq; cases hq
        rw [set_getD_ne hji] at hlj'
        by_cases hjj : j' = j
        · subst hjj
          rw [hj] at hj'; cases hj'
          rw [hkj] at hq; cases hq
          rw [hdj] at hdj'; cases hdj'
          refine ⟨g, (other j' oj t v hj hdj hji).trans hg, hg0, ?_⟩
          rw [(set_getD hil si).2 (.inl rfl)]
          exact hS.box
        · obtain ⟨g', hg', hg0', hbx'⟩ := I.news j' oj' t' ty' z' cs' si' hj' hdj' hq hlj'
          have hsi : si' ≠ si := fun e => by
            obtain ⟨r2, _, ok2⟩ := ok_sp hc hok hj' hq
            obtain ⟨_, _, d2, hd3, hd2⟩ := ok2.new si' rfl
            rw [← hc, List.getElem?_map, e, hk] at hd2
            have e2 : t = d2 := by simpa [RK.code] using hd2
            obtain ⟨_, _, ok3⟩ := ok_sp hc hok hj hkj
            exact hjj ((ok3.dst t hdj).2 j' oj' hj' (e2 ▸ hd3))
          refine ⟨g', (other j' oj' t' v hj' hdj' hji).trans hg', hg0', ?_⟩
          rw [set_getD_ne hsi]
          have hgg : g' ≠ g := fun e => by
            have := I.apart j' j oj' oj t' t _ _ _ _ _ _ _ _ hj' hdj' hq hlj' hj hdj hkj (hpred j hbj) hjj
            rw [hg', hg, e] at this
            exact this rfl
          exact (hS.rest g' hgg).trans hbx'
      · intro j1 j2 o1 o2 t1 t2 ty1 z1 cs1 si1 ty2 z2 cs2 si2 h1 hd1 hq1 hl1 h2 hd2 hq2 hl2 hne
        have n1 : j1 ≠ si := fun e => by subst e; rw [hk] at hq1; cases hq1
        have n2 : j2 ≠ si := fun e => by subst e; rw [hk] at hq2; cases hq2
        rw [other j1 o1 t1 v h1 hd1 n1, other j2 o2 t2 v h2 hd2 n2]
        rw [set_getD_ne n1] at hl1
        rw [set_getD_ne n2] at hl2
        exact I.apart j1 j2 o1 o2 t1 t2 _ _ _ _ _ _ _ _ h1 hd1 hq1 hl1 h2 hd2 hq2 hl2 hne

def unl (listed : Array Bool) : Nat := listed.toList.countP (· == false)
theorem countP_set_true : ∀ (l : List Bool) (i : Nat), l[i]? = some false → (l.set i true).countP (· == false) + 1 = l.countP (· == false)
  | [], i, h => by simp at h
  | x :: l, 0, h => by simp at h; subst h; simp
  | x :: l, i + 1, h => by
    have := countP_set_true l i (by simpa using h)
    simp only [List.set_cons_succ, List.countP_cons]
    omega
theorem unl_set {listed : Array Bool} {i : Nat} (h : listed.getD i true = false) : unl (listed.setIfInBounds i true) + 1 = unl listed := by
  unfold unl
  have hi : i < listed.size := by
    rcases Nat.lt_or_ge i listed.size with hl | hl
    · exact hl
    · simp [Array.getElem?_eq_none hl] at h
  rw [Array.toList_setIfInBounds]
  exact countP_set_true _ _ (by simpa [hi] using h)
theorem rep_false (n i : Nat) : ¬ (Array.replicate n false).getD i false = true := by
  rcases Nat.lt_or_ge i n with h | h
  · simp [h]
  · simp [Array.getElem?_eq_none (show (Array.replicate n false).size ≤ i by simpa using h)]
theorem ready_nil {listed : Array Bool} (hlen : listed.size = ops.size) (hf : ∀ (i : Nat) (o : Oper), ops[i]? = some o → ∀ e ∈ o.after, Region.binds .any e = true → e.on < i) (h : Region.ready .any ops listed = []) :
    ∀ (i : Nat) (o : Oper), ops[i]? = some o → listed.getD i false = true := by
  intro i
  induction i using Nat.strongRecOn with
  | ind i ih =>
    intro o ho
    cases hl : listed.getD i false with
    | true => rfl
    | false =>
      have hi : i < listed.size := by rw [hlen]; exact lt_of_some ho
      have : i ∈ Region.ready .any ops listed := mem_ready.2 ⟨by simp [hi] at hl ⊢; exact hl, o, ho, fun e he hb => by
        have hlt := hf i o ho e he hb
        obtain ⟨o2, ho2⟩ : ∃ o2, ops[e.on]? = some o2 := ⟨_, Array.getElem?_eq_getElem (by have := lt_of_some ho; omega)⟩
        exact ih e.on hlt o2 ho2⟩
      rw [h] at this
      cases this

theorem any_of_inv {I : Array Bool → Act → World → Prop} {Q : Exit → Act → World → Prop} (hlen : ∀ l a w, I l a w → l.size = ops.size)
    (hstep : ∀ l a w i, I l a w → i ∈ Region.ready .any ops l → wpOp P ops Q i (I (l.setIfInBounds i true)) a w)
    (hend : ∀ l a w, I l a w → Region.ready .any ops l = [] → Q .normal a w) :
    ∀ fuel l a w, unl l ≤ fuel → I l a w → wpAny P .any ops Q fuel l a w := by
  intro fuel
  induction fuel with
  | zero =>
    intro l a w hu h
    have hr : Region.ready .any ops l = [] := by
      cases hr : Region.ready .any ops l with
      | nil => rfl
      | cons i r =>
        have hi : i ∈ Region.ready .any ops l := by rw [hr]; exact List.mem_cons_self
        have := unl_set (mem_ready.1 hi).1
        omega
    exact ⟨hr, hend l a w h hr⟩
  | succ fuel ih =>
    intro l a w hu h
    refine ⟨hend l a w h, fun i hi => ?_⟩
    have := unl_set (mem_ready.1 hi).1
    exact wpOp_mono (fun a' w' h' => ih _ a' w' (by omega) h') (hstep l a w i h hi)

/-- The state behind the region, its slots filled from a's. -/
def overO (a : Act) : List Oper → Act → Act
  | [], A => A
  | o :: os, A => overO a os (match o.dst with | some t => A.put (some t) (a.tmps.getD t undef) | none => A)
theorem overO_size (a : Act) : ∀ (os : List Oper) (A : Act), (overO a os A).tmps.size = A.tmps.size
  | [], A => rfl
  | o :: os, A => by
    unfold overO
    rw [overO_size a os]
    cases o.dst <;> simp [put_size]
theorem overO_defers (a : Act) : ∀ (os : List Oper) (A : Act), (overO a os A).defers = A.defers
  | [], A => rfl
  | o :: os, A => by
    unfold overO
    rw [overO_defers a os]
    cases o.dst <;> simp [put_def]
theorem overO_keep (a : Act) : ∀ (os : List Oper) (A : Act) (t : Tmp), A.tmps.size = a.tmps.size → A.tmps.getD t undef = a.tmps.getD t undef → (overO a os A).tmps.getD t undef = a.tmps.getD t undef
  | [], A, t, _, h => h
  | o :: os, A, t, hs, h => by
    unfold overO
    cases hd : o.dst with
    | none => exact overO_keep a os _ t hs h
    | some s =>
      have := over_keep a [(s, 0)] A t hs h
      exact overO_keep a os _ t ((put_size _ _ _).trans hs) this
theorem overO_hit (a : Act) : ∀ (os : List Oper) (A : Act) (t : Tmp), A.tmps.size = a.tmps.size → (∃ o ∈ os, o.dst = some t) → (overO a os A).tmps.getD t undef = a.tmps.getD t undef
  | [], A, t, _, h => by obtain ⟨_, h, _⟩ := h; cases h
  | o :: os, A, t, hs, h => by
    unfold overO
    by_cases e : o.dst = some t
    · rw [e]
      exact overO_keep a os _ t ((put_size _ _ _).trans hs) (over_hit a [(t, 0)] A t hs (by simp))
    · have h' : ∃ o ∈ os, o.dst = some t := by
        obtain ⟨o', ho', hd'⟩ := h
        rcases List.mem_cons.1 ho' with rfl | ho'
        · exact absurd hd' e
        · exact ⟨o', ho', hd'⟩
      cases hd : o.dst with
      | none => exact overO_hit a os _ t hs h'
      | some s => exact overO_hit a os _ t ((put_size _ _ _).trans hs) h'
theorem Act.same {a b : Act} (hd : a.defers = b.defers) (hs : a.tmps.size = b.tmps.size) (h : ∀ t, a.tmps.getD t undef = b.tmps.getD t undef) : a = b := by
  obtain ⟨at_, ad⟩ := a
  obtain ⟨bt, bd⟩ := b
  simp only at hd hs h
  subst hd
  have : at_ = bt := by
    refine Array.ext hs fun i h1 h2 => ?_
    have := h i
    simpa [h1, h2] using this
  rw [this]
theorem Fin.use {w : World} {G : Act → Prop} {a : Act} : ∀ {os : List Oper} {ks : List RK} {A : Act}, os.length = ks.length → Fin h0 w G os ks A →
    (∀ (i : Nat) (o : Oper) t p, os[i]? = some o → o.dst = some t → ks[i]? = some (.val p) → p (a.tmps.getD t undef) w) →
    (∀ (i : Nat) (o : Oper) t ty z cs si, os[i]? = some o → o.dst = some t → ks[i]? = some (.new ty z cs si) → ∃ g, a.tmps.getD t undef = .pointer (some ⟨g, 0, none⟩) ∧ h0 ≤ g ∧ Box w g ty cs) →
    (∀ (i : Nat) (o : Oper) t ty z cs t', os[i]? = some o → o.dst = some t → ks[i]? = some (.put ty z cs t') → False) → G (overO a os A)
  | [], [], A, _, h, _, _, _ => h
  | o :: os, k :: ks, A, hl, h, hv, hn, hp => by
    have hl' : os.length = ks.length := by simpa using hl
    have hv' := fun i o' t p h1 h2 h3 => hv (i + 1) o' t p (by simpa using h1) h2 (by simpa using h3)
    have hn' := fun i o' t ty z cs si h1 h2 h3 => hn (i + 1) o' t ty z cs si (by simpa using h1) h2 (by simpa using h3)
    have hp' := fun i o' t ty z cs t' h1 h2 h3 => hp (i + 1) o' t ty z cs t' (by simpa using h1) h2 (by simpa using h3)
    unfold Fin at h
    unfold overO
    cases hd : o.dst with
    | none =>
      rw [hd] at h
      exact Fin.use (os := os) (ks := ks) hl' (by cases k <;> exact h) hv' hn' hp'
    | some t =>
      rw [hd] at h
      cases k with
      | val p => exact Fin.use (os := os) (ks := ks) hl' (h _ (hv 0 o t p rfl hd rfl)) hv' hn' hp'
      | new ty z cs si =>
        obtain ⟨g, hg, hg0, hb⟩ := hn 0 o t ty z cs si rfl hd rfl
        have h2 := h g hg0 hb
        rw [← hg] at h2
        exact Fin.use (os := os) (ks := ks) hl' h2 hv' hn' hp'
      | put ty z cs t' => exact (hp 0 o t ty z cs t' rfl hd rfl).elim
  | [], _ :: _, _, hl, _, _, _, _ => by simp at hl
  | _ :: _, [], _, hl, _, _, _, _ => by simp at hl

/-- Two variables that the region makes are two. -/
def Twos (ops : Array Oper) (codes : List (Nat × Nat)) (a : Act) : Prop := ∀ (i j : Nat) (o o' : Oper) t t' s s', ops[i]? = some o → o.dst = some t → codes[i]? = some (1, s) → ops[j]? = some o' → o'.dst = some t' → codes[j]? = some (1, s') → i ≠ j → a.tmps.getD t undef ≠ a.tmps.getD t' undef

/-- How far a run of the region has come: some of the operations ahead of the tail, or all of them and the tail up to number k. -/
def Stage (P : Program) (ops : Array Oper) (sp : List RK) (A : Act) (w0 : World) (n : Nat) (Q : Exit → Act → World → Prop) (listed : Array Bool) (a : Act) (w : World) : Prop :=
  listed.size = ops.size ∧ ((Inv ops sp A w0 listed a w ∧ ∀ i, n ≤ i → listed.getD i false = false) ∨
  ∃ k, n ≤ k ∧ (∀ i, i < ops.size → (listed.getD i false = true ↔ i < k)) ∧ wpOps P ops Q (List.range' k (ops.size - k)) a w)

theorem lin_core {Q : Exit → Act → World → Prop} (sp : List RK) (rd : List (List (Tmp × Nat))) (codes : List (Nat × Nat)) (m : Nat)
    (hc : sp.map RK.code = codes) (hm : A.tmps.size = m) (hok : okB ops m codes rd = true) (hst : Stabs w0.heap.size (tysOf sp) sp sp)
    (hob : Obs P ops sp A w0 ops.toList sp rd)
    (hfin : ∀ w, Below w0.heap.size w0 w → Fin w0.heap.size w (fun A' => Twos ops codes A' → wpList P ops Q (ops.toList.drop codes.length) A' w) ops.toList sp A) : ∃ I : Array Bool → Act → World → Prop, (∀ l a w, I l a w → l.size = ops.size) ∧ (∀ l a w i, I l a w → i ∈ Region.ready .any ops l → wpOp P ops Q i (I (l.setIfInBounds i true)) a w) ∧
      (∀ l a w, I l a w → Region.ready .any ops l = [] → Q .normal a w) ∧ ∀ w, Below w0.heap.size w0 w → I (Array.replicate ops.size false) A w := by
  have hlen : codes.length ≤ ops.size := by
    unfold okB at hok
    simp only [Bool.and_eq_true, decide_eq_true_eq] at hok
    exact hok.1.1.1
  have hspl : sp.length = codes.length := by rw [← hc]; simp
  -- what the operations ahead of the tail come to
  have fin : ∀ l a w, Inv ops sp A w0 l a w → (∀ (i : Nat) (o : Oper), ops[i]? = some o → (l.getD i false = true ↔ i < codes.length)) → wpOps P ops Q (List.range' codes.length (ops.size - codes.length)) a w := by
    intro l a w I hall
    have hlt : ∀ (i : Nat) k, sp[i]? = some k → i < codes.length := fun i k hk => by rw [← hspl]; exact (List.getElem?_eq_some_iff.1 hk).1
    have htk : ∀ (i : Nat) (o : Oper), (ops.toList.take codes.length)[i]? = some o → ops[i]? = some o := fun i o h => by
      rw [List.getElem?_take] at h
      split at h
      · simpa using h
      · cases h
    have cutfin : ∀ {h0 : Nat} {w : World} {G : Act → Prop} {ks : List RK} {os : List Oper} {A : Act}, Fin h0 w G os ks A → Fin h0 w G (os.take ks.length) ks A := by
      intro h0 w G ks
      induction ks with
      | nil => intro os A h; cases os <;> exact h
      | cons k ks ih =>
        intro os A h
        cases os with
        | nil => exact h
        | cons o os =>
          simp only [List.length_cons, List.take_succ_cons]
          unfold Fin at h ⊢
          cases hd : o.dst with
          | none => rw [hd] at h; cases k <;> exact ih h
          | some t =>
            rw [hd] at h
            cases k with
            | val p => exact fun v hv => ih (h v hv)
            | new ty z cs si => exact fun g hg hb => ih (h g hg hb)
            | put ty z cs t' => exact ih h
    have hF := Fin.use (a := a) (h0 := w0.heap.size) (os := ops.toList.take codes.length) (by simp [hspl, hlen]) (hspl ▸ cutfin (hfin w I.below))
      (fun i o t p h1 h2 h3 => I.vals i o t p (htk i o h1) h2 h3 ((hall i o (htk i o h1)).2 (hlt i _ h3)))
      (fun i o t ty z cs si h1 h2 h3 => by
        have h1' := htk i o h1
        obtain ⟨g, hg, hg0, hb⟩ := I.news i o t ty z cs si h1' h2 h3 ((hall i o h1').2 (hlt i _ h3))
        refine ⟨g, hg, hg0, ?_⟩
        obtain ⟨r, _, ok⟩ := ok_sp hc hok h1' h3
        obtain ⟨_, ⟨s, hs, _⟩, d, _, hsd⟩ := ok.new si rfl
        have : si < codes.length := (List.getElem?_eq_some_iff.1 hsd).1
        rw [(hall si s hs).2 this] at hb
        simpa using hb)
      (fun i o t ty z cs t' h1 h2 h3 => by
        have h1' := htk i o h1
        obtain ⟨r, _, ok⟩ := ok_sp hc hok h1' h3
        obtain ⟨_, hn, _⟩ := ok.put t' rfl
        rw [hn] at h2
        cases h2)
    have e : overO a (ops.toList.take codes.length) A = a := by
      refine Act.same ((overO_defers _ _ _).trans I.defers.symm) ((overO_size _ _ _).trans I.size.symm) fun t => ?_
      by_cases h : ∃ o ∈ ops.toList.take codes.length, o.dst = some t
      · exact overO_hit a _ A t I.size.symm h
      · refine overO_keep a _ A t I.size.symm (I.olds t fun i o ho hd => ?_).symm
        cases hl : l.getD i false with
        | false => rfl
        | true =>
          have hi := (hall i o ho).1 hl
          exact absurd ⟨o, List.mem_of_getElem? (i := i) (by rw [List.getElem?_take_of_lt hi]; simpa using ho), hd⟩ h
    rw [e] at hF
    have hW := hF fun i j o o' t t' s s' h1 h2 h3 h4 h5 h6 hne => by
      have get : ∀ (i : Nat) s, codes[i]? = some (1, s) → ∃ ty z cs, sp[i]? = some (.new ty z cs s) := by
        intro i s h
        rw [← hc, List.getElem?_map] at h
        cases hk : sp[i]? with
        | none => rw [hk] at h; cases h
        | some k =>
          rw [hk] at h
          cases k with
          | new ty z cs si =>
            have e2 : si = s := by simpa [RK.code] using h
            subst e2
            exact ⟨_, _, _, rfl⟩
          | val _ => simp [RK.code] at h
          | put _ _ _ _ => simp [RK.code] at h
      obtain ⟨ty, z, cs, hk⟩ := get i s h3
      obtain ⟨ty', z', cs', hk'⟩ := get j s' h6
      exact I.apart i j o o' t t' _ _ _ _ _ _ _ _ h1 h2 hk ((hall i o h1).2 (hlt i _ hk)) h4 h5 hk' ((hall j o' h4).2 (hlt j _ hk')) hne
    have hr := wpOps_eq_wpList (P := P) (ops := ops) (Q := Q) (ops.toList.drop codes.length) codes.length (fun j => by simp [List.getElem?_drop])
    simp only [List.length_drop, Array.length_toList] at hr
    rw [hr]
    exact hW
  refine ⟨Stage P ops sp A w0 codes.length Q, fun _ _ _ I => I.1, ?_, ?_, fun w hbw => ?_⟩
  · rintro l a w i ⟨hsz, hI⟩ hi
    obtain ⟨hl0, o, ho, hall⟩ := mem_ready.1 hi
    have hio := lt_of_some ho
    have hpred : ∀ j, bindsTo o j = true → l.getD j false = true := fun j hj => by
      obtain ⟨e, he, hb, rfl⟩ := bindsTo_spec hj
      exact hall e he hb
    have tailstep : ∀ k, codes.length ≤ k → (∀ i, i < ops.size → (l.getD i false = true ↔ i < k)) → wpOps P ops Q (List.range' k (ops.size - k)) a w → wpOp P ops Q i (Stage P ops sp A w0 codes.length Q (l.setIfInBounds i true)) a w := by
      intro k hk hlk hW
      have hik : ¬ i < k := fun h => by
        have := (hlk i hio).2 h
        rw [getD_false hl0] at this
        cases this
      have hki : i = k := by
        rcases Nat.lt_or_ge k i with h | h
        · have h2 := reach_from (ops := ops) (S := fun j => j < k) (fun i' o' j' ho' hb' hi' => by
            obtain ⟨e', he', hbb', rfl⟩ := bindsTo_spec hb'
            have := ok_fwd hok ho' e' he' hbb'
            show e'.on < k
            have hi'' : i' < k := hi'
            omega) ho (fun j hj => (hlk j (by
              obtain ⟨e', he', hbb', rfl⟩ := bindsTo_spec hj
              have := ok_fwd hok ho e' he' hbb'
              omega)).1 (hpred j hj)) 12 k (ok_tail hok ho (by omega) k h)
          exact absurd h2 (Nat.lt_irrefl _)
        · omega
      subst hki
      have hn : ops.size - i = (ops.size - (i + 1)) + 1 := by omega
      rw [hn, List.range'_succ, wpOps_cons] at hW
      refine wpOp_mono (fun a' w' h => ⟨by simpa using hsz, .inr ⟨i + 1, by omega, fun j hj => ?_, h⟩⟩) hW
      rw [set_getD (by omega), hlk j hj]
      omega
    rcases hI with ⟨I, hn⟩ | ⟨k, hk, hlk, hW⟩
    · by_cases hlin : i < codes.length
      · refine wpOp_mono (fun a' w' h => ⟨by simpa using hsz, .inl ⟨h, fun j hj => ?_⟩⟩) (inv_step hc hm hok hst hob I hi hlin)
        rw [set_getD_ne (by omega)]
        exact hn j hj
      · have hlk : ∀ j, j < ops.size → (l.getD j false = true ↔ j < codes.length) := fun j hj => by
          constructor
          · intro h
            rcases Nat.lt_or_ge j codes.length with h' | h'
            · exact h'
            · rw [hn j h'] at h; cases h
          · intro h
            exact reach_from (ops := ops) (S := fun j => l.getD j false = true) (fun i' o' j' ho' hb' hi' => by
              obtain ⟨e', he', hbb', rfl⟩ := bindsTo_spec hb'
              exact I.down i' o' ho' hi' e' he' hbb') ho hpred 12 j (ok_tail hok ho (by omega) j (by omega))
        exact tailstep codes.length (Nat.le_refl _) hlk (fin l a w I fun j oj hj => hlk j (lt_of_some hj))
    · exact tailstep k hk hlk hW
  · rintro l a w ⟨hsz, hI⟩ hr
    have hall := ready_nil hsz (fun i o ho => ok_fwd hok ho) hr
    rcases hI with ⟨I, hn⟩ | ⟨k, hk, hlk, hW⟩
    · have hcs : codes.length = ops.size := by
        rcases Nat.lt_or_ge codes.length ops.size with h | h
        · have := hall codes.length _ (Array.getElem?_eq_getElem h)
          rw [hn _ (Nat.le_refl _)] at this
          cases this
        · omega
      have hW := fin l a w I (fun i o ho => ⟨fun _ => by rw [hcs]; exact lt_of_some ho, fun _ => hall i o ho⟩)
      rw [hcs, Nat.sub_self] at hW
      exact hW
    · have hks : ops.size ≤ k := by
        rcases Nat.lt_or_ge k ops.size with h | h
        · have := (hlk k h).1 (hall k _ (Array.getElem?_eq_getElem h))
          omega
        · exact h
      have e : ops.size - k = 0 := by omega
      rw [e] at hW
      exact hW
  · exact ⟨by simp, .inl ⟨⟨by simp, rfl, rfl, hbw, fun _ _ _ _ _ _ _ h => absurd h (rep_false _ _), fun _ _ => rfl, fun _ _ _ _ _ _ _ _ _ _ h => absurd h (rep_false _ _), fun _ _ _ _ _ _ _ _ _ _ _ _ _ _ _ _ _ h => absurd h (rep_false _ _), fun _ _ _ h => absurd h (rep_false _ _)⟩, fun i _ => by
      cases h : (Array.replicate ops.size false).getD i false with
      | false => rfl
      | true => exact absurd h (rep_false _ _)⟩⟩

/-- THE LAW: a region that draws its order, by one obligation an operation; the tail is walked in its own order. -/
theorem region_lin {id : Nat} {Q : Exit → Act → World → Prop} (sp : List RK) (rd : List (List (Tmp × Nat))) (codes : List (Nat × Nat)) (m : Nat) (hmx : P.follows .mixedOrders = true)
    (hc : sp.map RK.code = codes) (hm : A.tmps.size = m) (hok : okB ops m codes rd = true) (hst : Stabs w0.heap.size (tysOf sp) sp sp)
    (hob : Obs P ops sp A w0 ops.toList sp rd)
    (hfin : ∀ w, Below w0.heap.size w0 w → Fin w0.heap.size w (fun A' => Twos ops codes A' → wpList P ops Q (ops.toList.drop codes.length) A' w) ops.toList sp A) : (Code.region id ops true).wp P Q A w0 := by
  obtain ⟨I, h1, h2, h3, h4⟩ := lin_core (Q := Q) sp rd codes m hc hm hok hst hob hfin
  exact wp_region_any hmx (any_of_inv h1 h2 h3 _ _ _ _ (by unfold unl; exact Nat.le_trans List.countP_le_length (by simp)) (h4 _ (Below.refl _ _).drew))

def firsts (n k : Nat) : Array Bool := Array.ofFn (n := n) fun i => decide (i.1 < k)
theorem firsts_getD (n k i : Nat) : (firsts n k).getD i false = true ↔ i < n ∧ i < k := by
  unfold firsts
  rcases Nat.lt_or_ge i n with h | h
  · simp [h]
  · have : ¬ i < n := by omega
    simp [this]
theorem firsts_at (n k i : Nat) (h : i < n) : (firsts n k)[i]? = some (decide (i < k)) := by simp [firsts, h]
theorem firsts_size (n k : Nat) : (firsts n k).size = n := by simp [firsts]
theorem firsts_set {n k : Nat} (h : k < n) : (firsts n k).setIfInBounds k true = firsts n (k + 1) := by
  refine Array.ext_getElem? fun i => ?_
  rcases Nat.lt_or_ge i n with hi | hi
  · by_cases e : k = i
    · subst e
      rw [firsts_at _ _ _ hi, Array.getElem?_setIfInBounds_self_of_lt (by rw [firsts_size]; exact hi)]
      simp
    · rw [Array.getElem?_setIfInBounds_ne e, firsts_at _ _ _ hi, firsts_at _ _ _ hi]
      congr 1
      rw [decide_eq_decide]
      omega
  · rw [Array.getElem?_eq_none (by simp [firsts_size, hi]), Array.getElem?_eq_none (by rw [firsts_size]; exact hi)]
theorem firsts_zero (n : Nat) : firsts n 0 = Array.replicate n false := by
  refine Array.ext (by simp [firsts]) fun i h1 h2 => ?_
  simp [firsts]
theorem ops_of_inv {I : Array Bool → Act → World → Prop} {Q : Exit → Act → World → Prop} (hf : ∀ (i : Nat) (o : Oper), ops[i]? = some o → ∀ e ∈ o.after, Region.binds .any e = true → e.on < i)
    (hstep : ∀ l a w i, I l a w → i ∈ Region.ready .any ops l → wpOp P ops Q i (I (l.setIfInBounds i true)) a w)
    (hend : ∀ l a w, I l a w → Region.ready .any ops l = [] → Q .normal a w) :
    ∀ j k a w, k + j = ops.size → I (firsts ops.size k) a w → wpOps P ops Q (List.range' k j) a w := by
  intro j
  induction j with
  | zero =>
    intro k a w hk h
    refine hend _ a w h ?_
    cases hr : Region.ready .any ops (firsts ops.size k) with
    | nil => rfl
    | cons i r =>
      have hi : i ∈ Region.ready .any ops (firsts ops.size k) := by rw [hr]; exact List.mem_cons_self
      obtain ⟨h0, o, ho, _⟩ := mem_ready.1 hi
      have := getD_false h0
      rw [(firsts_getD _ _ _).2 ⟨lt_of_some ho, by have := lt_of_some ho; omega⟩] at this
      cases this
  | succ j ih =>
    intro k a w hk h
    rw [List.range'_succ, wpOps_cons]
    have hkn : k < ops.size := by omega
    have hr : k ∈ Region.ready .any ops (firsts ops.size k) := mem_ready.2 ⟨by simp [firsts, hkn], _, Array.getElem?_eq_getElem hkn, fun e he hb => by
      have := hf k _ (Array.getElem?_eq_getElem hkn) e he hb
      exact (firsts_getD _ _ _).2 ⟨by omega, this⟩⟩
    refine wpOp_mono (fun a' w' h' => ih (k + 1) a' w' (by omega) ?_) (hstep _ a w k h hr)
    rw [firsts_set hkn] at h'
    exact h'
/-- The same of a region that draws no order. -/
theorem region_lin0 {id : Nat} {Q : Exit → Act → World → Prop} (sp : List RK) (rd : List (List (Tmp × Nat))) (codes : List (Nat × Nat)) (m : Nat) (hmx : P.follows .mixedOrders = true)
    (hc : sp.map RK.code = codes) (hm : A.tmps.size = m) (hok : okB ops m codes rd = true) (hst : Stabs w0.heap.size (tysOf sp) sp sp)
    (hob : Obs P ops sp A w0 ops.toList sp rd)
    (hfin : ∀ w, Below w0.heap.size w0 w → Fin w0.heap.size w (fun A' => Twos ops codes A' → wpList P ops Q (ops.toList.drop codes.length) A' w) ops.toList sp A) : (Code.region id ops false).wp P Q A w0 := by
  obtain ⟨I, h1, h2, h3, h4⟩ := lin_core (Q := Q) sp rd codes m hc hm hok hst hob hfin
  refine wp_region ?_
  rw [List.range_eq_range']
  exact ops_of_inv (fun i o ho => ok_fwd hok ho) h2 h3 _ 0 _ _ (by omega) (by rw [firsts_zero]; exact h4 _ (Below.refl _ _))
end
end Go.Proofs.Ytolhjkpekmmajaa.Rt
/- Pieces, plainly: reading them, replacing ranges of them. A piece (text, from, n) is written ⟨text, from, n⟩ as a Cg. -/
namespace Go.Proofs.Ytolhjkpekmmajaa
set_option linter.unusedVariables false
set_option linter.unusedSimpArgs false
open Go.RowKit Go.Lib
/-- the letters of a piece: of the text before all changes where they stood, of another text nothing -/
def exo (c : Cg) : List (Option Nat) := if c.ad = 0 then (List.range c.x.toNat).map fun j => some (c.n.toNat + j) else List.replicate c.x.toNat none
def exl (q : List Cg) : List (Option Nat) := q.flatMap exo
theorem exo_len (c : Cg) : (exo c).length = c.x.toNat := by unfold exo; split <;> simp
theorem exl_nil : exl [] = [] := rfl
theorem exl_cons (c : Cg) (q : List Cg) : exl (c :: q) = exo c ++ exl q := rfl
theorem exl_app (a b : List Cg) : exl (a ++ b) = exl a ++ exl b := by simp [exl]
theorem exl_one (c : Cg) : exl [c] = exo c := by simp [exl]
/-- a part of a piece -/
theorem exo_part (c : Cg) (u m : Nat) (hf : 0 ≤ c.n) (hu : (u : Int) + m ≤ c.x) : exo ⟨c.ad, c.n + u, m⟩ = ((exo c).drop u).take m := by
  unfold exo
  simp only
  split
  · refine List.ext_getElem? fun i => ?_
    rw [List.getElem?_take]
    by_cases hi : i < m
    · rw [if_pos hi, List.getElem?_drop, List.getElem?_map, List.getElem?_map, List.getElem?_range (by omega), List.getElem?_range (by omega)]
      simp; omega
    · rw [if_neg hi, List.getElem?_eq_none (by simp; omega)]
  · rw [List.drop_replicate, List.take_replicate]
    congr 1; omega
/-- the pieces' ranges lie within their texts -/
structure PcV (N : Int) (L : List En) (T : List (List Int)) (c : Cg) : Prop where
  f0 : 0 ≤ c.n
  n0 : 0 ≤ c.x
  t0 : 0 ≤ c.ad
  t1 : c.ad ≤ L.length
  w0 : c.ad = 0 → c.n + c.x ≤ N
  w1 : c.ad ≠ 0 → c.n + c.x ≤ (tx T c.ad).length ∧ (tx T c.ad).length ≤ 20
theorem PcV.part {N : Int} {L : List En} {T : List (List Int)} {c : Cg} (h : PcV N L T c) (u m : Int) (h0 : 0 ≤ u) (h1 : 1 ≤ m) (h2 : u + m ≤ c.x) : PcV N L T ⟨c.ad, c.n + u, m⟩ :=
  ⟨by have := h.f0; show 0 ≤ c.n + u; omega, by show 0 ≤ m; omega, h.t0, h.t1, fun e => by have := h.w0 e; show c.n + u + m ≤ N; omega, fun e => by have := h.w1 e; exact ⟨by show c.n + u + m ≤ ((tx T c.ad).length : Int); omega, this.2⟩⟩
theorem PcV.ext {N : Int} {L L' : List En} {T T' : List (List Int)} {c : Cg} (h : PcV N L T c) (k : Ext L T L' T') (hT : T.length = L.length) : PcV N L' T' c :=
  ⟨h.f0, h.n0, h.t0, by have := h.t1; have := k.len; omega, h.w0, fun e => by rw [k.tx hT h.t0 h.t1]; exact h.w1 e⟩
/-- reading up to t: what is read, what is left, how much of its first piece is read, how far -/
def rdp (t : Int) : List Cg → Int → Int → List Cg × List Cg × Int × Int
  | [], u, a => ([], [], u, a)
  | c :: q, u, a =>
    if a < t then
      (if u + min (c.x - u) (t - a) = c.x then
        ((if 0 < min (c.x - u) (t - a) then [⟨c.ad, c.n + u, min (c.x - u) (t - a)⟩] else []) ++ (rdp t q 0 (a + min (c.x - u) (t - a))).1, (rdp t q 0 (a + min (c.x - u) (t - a))).2)
       else ((if 0 < min (c.x - u) (t - a) then [⟨c.ad, c.n + u, min (c.x - u) (t - a)⟩] else []), c :: q, u + min (c.x - u) (t - a), a + min (c.x - u) (t - a)))
    else ([], c :: q, u, a)
/-- where a reader stands: u letters of the first piece are read -/
structure RdOk (q : List Cg) (u : Int) : Prop where
  n1 : ∀ c ∈ q, 0 ≤ c.x ∧ 0 ≤ c.n
  u0 : 0 ≤ u
  u1 : ∀ c r, q = c :: r → u < c.x ∨ u = 0
  un : q = [] → u = 0
theorem RdOk.tail {c : Cg} {q : List Cg} {u : Int} (h : RdOk (c :: q) u) : RdOk q 0 := ⟨fun d hd => h.n1 d (by simp [hd]), Int.le_refl _, fun d r e => .inr rfl, fun _ => rfl⟩
theorem rdp_ok (t : Int) : ∀ (q : List Cg) (u a : Int), RdOk q u → RdOk (rdp t q u a).2.1 (rdp t q u a).2.2.1
  | [], u, a, h => h
  | c :: q, u, a, h => by
    have hu := h.u1 c q rfl
    have h0 := h.u0
    unfold rdp
    split
    · split
      · exact rdp_ok t q 0 _ h.tail
      · exact ⟨h.n1, by simp only; have := h.n1 c (by simp); omega, fun d r e => by
          have e : c :: q = d :: r := e
          injection e with e1 e2
          subst e1
          refine .inl ?_
          show u + min (c.x - u) (t - a) < c.x
          have := h.n1 c (by simp)
          omega, fun e => by cases e⟩
    · exact h
theorem rdp_ex (t : Int) : ∀ (q : List Cg) (u a : Int), RdOk q u → a ≤ t →
    exl (rdp t q u a).1 = ((exl q).drop u.toNat).take (t - a).toNat ∧ (exl (rdp t q u a).2.1).drop (rdp t q u a).2.2.1.toNat = ((exl q).drop u.toNat).drop (t - a).toNat ∧
      (rdp t q u a).2.2.2 = a + min (t - a) (((exl q).drop u.toNat).length : Int)
  | [], u, a, h, ha => by simp [rdp, exl]; omega
  | c :: q, u, a, h, ha => by
    have hu := h.u1 c q rfl
    have h0 := h.u0
    obtain ⟨hn, hf⟩ := h.n1 c (by simp)
    have le := exo_len c
    obtain ⟨un, rfl⟩ : ∃ un : Nat, u = (un : Int) := ⟨u.toNat, by omega⟩
    obtain ⟨m, hm⟩ : ∃ m : Nat, (m : Int) = min (c.x - (un : Int)) (t - a) := ⟨(min (c.x - (un : Int)) (t - a)).toNat, by omega⟩
    rw [Int.toNat_natCast]
    have hdrop : (exl (c :: q)).drop un = (exo c).drop un ++ exl q := by rw [exl_cons, List.drop_append_of_le_length (by omega)]
    have hdl : ((exo c).drop un).length = c.x.toNat - un := by rw [List.length_drop, le]
    unfold rdp
    rw [← hm]
    by_cases hat : a < t
    · rw [if_pos hat]
      have hp : exl (if 0 < (m : Int) then [(⟨c.ad, c.n + (un : Int), (m : Int)⟩ : Cg)] else []) = ((exo c).drop un).take m := by
        split
        · rw [exl_one]; exact exo_part c un m hf (by omega)
        · have : m = 0 := by omega
          subst this; simp [exl]
      by_cases hw : (un : Int) + m = c.x
      · rw [if_pos hw]
        obtain ⟨i1, i2, i3⟩ := rdp_ex t q 0 (a + m) h.tail (by omega)
        simp only [Int.toNat_zero, List.drop_zero] at i1 i2 i3
        rw [hdrop]
        have e1 : ((exo c).drop un).take m = (exo c).drop un := List.take_of_length_le (by omega)
        refine ⟨?_, ?_, ?_⟩
        · rw [exl_app, hp, e1, i1, List.take_append, List.take_of_length_le (l := (exo c).drop un) (i := (t - a).toNat) (by rw [hdl]; omega)]
          congr 2; rw [hdl]; omega
        · show (exl (rdp t q 0 (a + m)).2.1).drop _ = _
          have hd0 : ((exo c).drop un).drop (t - a).toNat = [] := List.drop_eq_nil_of_le (by rw [hdl]; omega)
          rw [i2, List.drop_append, hd0, List.nil_append]
          congr 1; rw [hdl]; omega
        · show (rdp t q 0 (a + m)).2.2.2 = _
          rw [i3, List.length_append, hdl]; omega
      · rw [if_neg hw]
        rw [hdrop]
        have em : (m : Int) = t - a := by omega
        refine ⟨?_, ?_, ?_⟩
        · simp only
          rw [hp, List.take_append_of_le_length (by omega)]
          congr 1; omega
        · simp only
          rw [show ((un : Int) + m).toNat = un + m by omega, exl_cons, List.drop_append_of_le_length (by omega), List.drop_append_of_le_length (by omega), List.drop_drop]
          congr 2; omega
        · simp only
          rw [List.length_append, hdl]; omega
    · rw [if_neg hat]
      have : (t - a).toNat = 0 := by omega
      rw [this]
      simp only [Int.toNat_natCast, List.take_zero, List.drop_zero, exl_nil, true_and]
      omega
theorem rdp_all {t : Int} : ∀ (q : List Cg) (u a : Int), ∀ d ∈ (rdp t q u a).2.1, d ∈ q
  | [], u, a, d, h => by simp [rdp] at h
  | c :: q, u, a, d, h => by
    unfold rdp at h
    split at h
    · split at h
      · exact List.mem_cons_of_mem _ (rdp_all q 0 _ d h)
      · exact h
    · exact h
theorem rdp_v {N : Int} {L : List En} {T : List (List Int)} {t : Int} : ∀ (q : List Cg) (u a : Int), RdOk q u → (∀ c ∈ q, PcV N L T c) → ∀ d ∈ (rdp t q u a).1, PcV N L T d ∧ 1 ≤ d.x
  | [], u, a, h, hv, d, hd => by simp [rdp] at hd
  | c :: q, u, a, h, hv, d, hd => by
    have hu := h.u1 c q rfl
    have h0 := h.u0
    have one : ∀ d, d ∈ (if 0 < min (c.x - u) (t - a) then [(⟨c.ad, c.n + u, min (c.x - u) (t - a)⟩ : Cg)] else []) → PcV N L T d ∧ 1 ≤ d.x := fun d hd => by
      split at hd
      · simp at hd; subst hd
        exact ⟨(hv c (by simp)).part _ _ h0 (by omega) (by omega), by show (1 : Int) ≤ min (c.x - u) (t - a); omega⟩
      · simp at hd
    unfold rdp at hd
    split at hd
    · split at hd
      · rcases List.mem_append.1 hd with hd | hd
        · exact one d hd
        · exact rdp_v q 0 _ h.tail (fun e he => hv e (by simp [he])) d hd
      · exact one d hd
    · simp at hd
theorem rdp_count {t : Int} : ∀ (q : List Cg) (u a : Int), (rdp t q u a).1.length + (rdp t q u a).2.1.length ≤ q.length + 1
  | [], u, a => by simp [rdp]
  | c :: q, u, a => by
    have := rdp_count (t := t) q 0 (a + min (c.x - u) (t - a))
    unfold rdp
    split
    · split
      · rw [List.length_append]
        show _ + _ + (rdp t q 0 _).2.1.length ≤ _
        split <;> simp <;> omega
      · split <;> simp <;> omega
    · simp
/-- reading to the end leaves nothing -/
theorem rdp_end {t : Int} : ∀ (q : List Cg) (u a : Int), RdOk q u → a + ((exl q).length : Int) - u < t → (rdp t q u a).2.1 = [] ∧ (rdp t q u a).1.length ≤ q.length
  | [], u, a, h, ht => by simp [rdp]
  | c :: q, u, a, h, ht => by
    have hu := h.u1 c q rfl
    have h0 := h.u0
    have le := exo_len c
    rw [exl_cons, List.length_append, le] at ht
    have hn0 := h.n1 c (by simp)
    have em : min (c.x - u) (t - a) = c.x - u := by omega
    have := rdp_end (t := t) q 0 (a + (c.x - u)) h.tail (by omega)
    unfold rdp
    have hn := h.n1 c (by simp)
    rw [em, if_pos (by omega), if_pos (by omega)]
    refine ⟨this.1, ?_⟩
    have := this.2
    split <;> simp <;> omega
end Go.Proofs.Ytolhjkpekmmajaa
/- Replacing ranges of pieces, plainly. -/
namespace Go.Proofs.Ytolhjkpekmmajaa
set_option linter.unusedVariables false
set_option linter.unusedSimpArgs false
open Go.RowKit Go.Lib
abbrev RSt := List Cg × List Cg × Int × Int
/-- one change -/
def rpS (T : List (List Int)) (c : Cg) (st : RSt) : RSt :=
  ((st.1 ++ (rdp c.ad st.2.1 st.2.2.1 st.2.2.2).1) ++ (if 0 < ((tx T c.x).length : Int) then [⟨c.x, 0, (tx T c.x).length⟩] else []),
    (rdp (c.ad + c.n) (rdp c.ad st.2.1 st.2.2.1 st.2.2.2).2.1 (rdp c.ad st.2.1 st.2.2.1 st.2.2.2).2.2.1 (rdp c.ad st.2.1 st.2.2.1 st.2.2.2).2.2.2).2)
/-- the first i changes -/
def rpk (T : List (List Int)) (q p : List Cg) (i : Nat) : RSt := (p.take i).foldl (fun st c => rpS T c st) ([], q, 0, 0)
theorem rpk_zero (T : List (List Int)) (q p : List Cg) : rpk T q p 0 = ([], q, 0, 0) := by simp [rpk]
theorem rpk_succ (T : List (List Int)) (q : List Cg) {p : List Cg} {i : Nat} {c : Cg} (h : p[i]? = some c) : rpk T q p (i + 1) = rpS T c (rpk T q p i) := by
  unfold rpk; rw [List.take_add_one, h]; simp
def maxI : Int := 9223372036854775807
/-- the pieces behind all changes -/
def rpl (T : List (List Int)) (q p : List Cg) : List Cg := (rpk T q p p.length).1 ++ (rdp maxI (rpk T q p p.length).2.1 (rpk T q p p.length).2.2.1 (rpk T q p p.length).2.2.2).1
/-- what a change puts in, as letters that come from nowhere -/
def nul (T : List (List Int)) (c : Cg) (_ : Nat) : List (Option Nat) := List.replicate (ilT T c) none
theorem nul_len (T : List (List Int)) (c : Cg) (q : Nat) : (nul T c q).length = ilT T c := by simp [nul]
theorem gsp_nul (T : List (List Int)) (X : List (Option Nat)) : ∀ (p : List Cg) (f q q' : Nat), gsp X (ilT T) (nul T) p f q = gsp X (ilT T) (nul T) p f q'
  | [], f, q, q' => rfl
  | c :: p, f, q, q' => by rw [gsp_cons, gsp_cons, gsp_nul T X p _ _ (q' + (c.ad.toNat - f) + ilT T c)]; rfl
structure RpI (N : Nat) (M : Int) (L : List En) (T : List (List Int)) (q p : List Cg) (i f : Nat) (st : RSt) : Prop where
  rd : RdOk st.2.1 st.2.2.1
  a : st.2.2.2 = (f : Int)
  rem : (exl st.2.1).drop st.2.2.1.toNat = (exl q).drop f
  ex : exl st.1 ++ gsp (exl q) (ilT T) (nul T) (p.drop i) f 0 = gsp (exl q) (ilT T) (nul T) p 0 0
  ord : Ordd N f (p.drop i)
  v1 : ∀ c ∈ st.1, PcV M L T c ∧ 1 ≤ c.x
  v2 : ∀ c ∈ st.2.1, PcV M L T c
  ct : st.1.length + st.2.1.length ≤ q.length + 3 * i
theorem RdOk.start {M : Int} {L : List En} {T : List (List Int)} {q : List Cg} (h : ∀ c ∈ q, PcV M L T c) : RdOk q 0 := ⟨fun c hc => ⟨(h c hc).n0, (h c hc).f0⟩, Int.le_refl _, fun c r e => .inr rfl, fun _ => rfl⟩
theorem rpi_start {N : Nat} {M : Int} {L : List En} {T : List (List Int)} {q p : List Cg} (hv : ∀ c ∈ q, PcV M L T c) {K : Int} (hp : POk N K p) : RpI N M L T q p 0 0 (rpk T q p 0) := by
  rw [rpk_zero]
  exact ⟨RdOk.start hv, rfl, by simp, by simp [exl], by simpa using pok_ordd hp, fun c h => by simp at h, hv, by simp⟩
theorem rpi_step {N : Nat} {M : Int} {L : List En} {T : List (List Int)} {q p : List Cg} (hX : (exl q).length = N) {i f : Nat} {st : RSt} (h : RpI N M L T q p i f st) {c : Cg} (hc : p[i]? = some c) (x0 : 0 ≤ c.x) (x1 : c.x ≤ L.length) (h20 : (tx T c.x).length ≤ 20) :
    RpI N M L T q p (i + 1) (c.ad + c.n).toNat (rpS T c st) ∧ (f : Int) ≤ c.ad ∧ RdOk (rdp c.ad st.2.1 st.2.2.1 st.2.2.2).2.1 (rdp c.ad st.2.1 st.2.2.1 st.2.2.2).2.2.1 ∧ (rdp c.ad st.2.1 st.2.2.1 st.2.2.2).2.2.2 = c.ad := by
  obtain ⟨hil, e⟩ := List.getElem?_eq_some_iff.1 hc
  have ord := h.ord
  rw [List.drop_eq_getElem_cons hil, e] at ord
  obtain ⟨o1, o2, o3, o4, o5⟩ := ord
  have ha := h.a
  have hXl : (((exl st.2.1).drop st.2.2.1.toNat).length : Int) = N - f := by rw [h.rem, List.length_drop, hX]; omega
  obtain ⟨r1, r2, r3⟩ := rdp_ex c.ad st.2.1 st.2.2.1 st.2.2.2 h.rd (by omega)
  have k1 := rdp_ok c.ad st.2.1 st.2.2.1 st.2.2.2 h.rd
  have v1 := rdp_v (t := c.ad) st.2.1 st.2.2.1 st.2.2.2 h.rd h.v2
  have a1 := fun d hd => h.v2 d (rdp_all (t := c.ad) st.2.1 st.2.2.1 st.2.2.2 d hd)
  have c1 := rdp_count (t := c.ad) st.2.1 st.2.2.1 st.2.2.2
  rw [hXl, ha] at r3
  rw [ha] at r1 r2
  rw [h.rem] at r1 r2
  rw [List.drop_drop] at r2
  have r3' : (rdp c.ad st.2.1 st.2.2.1 st.2.2.2).2.2.2 = c.ad := by rw [ha, r3]; omega
  rw [ha] at k1 v1 a1 c1
  have hS : rpS T c st = ((st.1 ++ (rdp c.ad st.2.1 st.2.2.1 (f : Int)).1) ++ (if 0 < ((tx T c.x).length : Int) then [⟨c.x, 0, (tx T c.x).length⟩] else []),
    (rdp (c.ad + c.n) (rdp c.ad st.2.1 st.2.2.1 (f : Int)).2.1 (rdp c.ad st.2.1 st.2.2.1 (f : Int)).2.2.1 c.ad).2) := by
    unfold rpS; rw [r3', ha]
  refine ⟨?_, o2, by rw [ha]; exact k1, r3'⟩
  rw [hS]
  clear hS
  generalize rdp c.ad st.2.1 st.2.2.1 (f : Int) = R at *
  obtain ⟨s1, s2, s3⟩ := rdp_ex (c.ad + c.n) R.2.1 R.2.2.1 c.ad k1 (by omega)
  have k2 := rdp_ok (c.ad + c.n) R.2.1 R.2.2.1 c.ad k1
  have a2 := fun d hd => a1 d (rdp_all (t := c.ad + c.n) R.2.1 R.2.2.1 c.ad d hd)
  have c2 := rdp_count (t := c.ad + c.n) R.2.1 R.2.2.1 c.ad
  rw [r2] at s2 s3
  rw [List.length_drop, hX] at s3
  rw [List.drop_drop] at s2
  generalize rdp (c.ad + c.n) R.2.1 R.2.2.1 c.ad = S at *
  refine ⟨k2, by rw [s3]; omega, by rw [s2]; congr 1; omega, ?_, ?_, ?_, a2, ?_⟩
  · have hex := h.ex
    rw [List.drop_eq_getElem_cons hil, e, gsp_cons] at hex
    rw [← hex, exl_app, exl_app, r1]
    have ei : exl (if 0 < ((tx T c.x).length : Int) then [(⟨c.x, 0, (tx T c.x).length⟩ : Cg)] else []) = nul T c (0 + (c.ad.toNat - f)) := by
      unfold nul ilT
      split
      · rename_i hpos
        rw [exl_one]; unfold exo
        rw [if_neg (fun hx => by simp only at hx; rw [hx, tx_zero] at hpos; simp at hpos)]
        simp
      · have h0 : (tx T c.x).length = 0 := by omega
        rw [h0]; rfl
    rw [ei, show (c.ad - (f : Int)).toNat = c.ad.toNat - f by omega, gsp_nul T (exl q) (p.drop (i + 1)) _ 0 (0 + (c.ad.toNat - f) + ilT T c)]
    simp only [List.append_assoc]
  · exact o5
  · intro d hd
    rcases List.mem_append.1 hd with hd | hd
    · rcases List.mem_append.1 hd with hd | hd
      · exact h.v1 d hd
      · exact v1 d hd
    · split at hd
      · rename_i hpos
        simp at hd; subst hd
        exact ⟨⟨Int.le_refl _, by show (0 : Int) ≤ ((tx T c.x).length : Int); omega, x0, x1, fun hx => by simp only at hx; rw [hx, tx_zero] at hpos; simp at hpos, fun _ => ⟨by simp, h20⟩⟩, by show (1 : Int) ≤ ((tx T c.x).length : Int); omega⟩
      · simp at hd
  · have := h.ct
    simp only [List.length_append]
    have : (if 0 < ((tx T c.x).length : Int) then [(⟨c.x, 0, (tx T c.x).length⟩ : Cg)] else []).length ≤ 1 := by split <;> simp
    omega
theorem rpk_ok {N : Nat} {M : Int} {L : List En} {T : List (List Int)} {q p : List Cg} (hX : (exl q).length = N) (hv : ∀ c ∈ q, PcV M L T c) (hp : POk N L.length p) (h20 : ∀ c ∈ p, (tx T c.x).length ≤ 20) : ∀ i, i ≤ p.length → ∃ f, RpI N M L T q p i f (rpk T q p i)
  | 0, _ => ⟨0, rpi_start hv hp⟩
  | i + 1, hi => by
    obtain ⟨f, h⟩ := rpk_ok hX hv hp h20 i (by omega)
    have hc := List.getElem?_eq_getElem (show i < p.length by omega)
    obtain ⟨_, _, _, _, x0, x1, _⟩ := hp i _ hc
    rw [rpk_succ T q hc]
    exact ⟨_, (rpi_step hX h hc x0 x1 (h20 _ (List.getElem_mem _))).1⟩
theorem rpl_ok {N : Nat} {M : Int} {L : List En} {T : List (List Int)} {q p : List Cg} (hX : (exl q).length = N) (hN : N ≤ 1000000) (hv : ∀ c ∈ q, PcV M L T c) (hp : POk N L.length p) (h20 : ∀ c ∈ p, (tx T c.x).length ≤ 20) :
    exl (rpl T q p) = gsp (exl q) (ilT T) (nul T) p 0 0 ∧ (∀ c ∈ rpl T q p, PcV M L T c ∧ 1 ≤ c.x) ∧ (rpl T q p).length ≤ q.length + 3 * p.length := by
  obtain ⟨f, h⟩ := rpk_ok hX hv hp h20 p.length (Nat.le_refl _)
  unfold rpl
  generalize rpk T q p p.length = st at *
  have ha := h.a
  have hf := h.ord.le
  have hXl : ((exl st.2.1).drop st.2.2.1.toNat).length = N - f := by rw [h.rem, List.length_drop, hX]
  have hl := List.length_drop (l := exl st.2.1) (i := st.2.2.1.toNat)
  have u0 := h.rd.u0
  obtain ⟨r1, r2, r3⟩ := rdp_ex maxI st.2.1 st.2.2.1 st.2.2.2 h.rd (by unfold maxI; omega)
  have e1 := rdp_end (t := maxI) st.2.1 st.2.2.1 st.2.2.2 h.rd (by unfold maxI; omega)
  have hex := h.ex
  rw [List.drop_length] at hex
  refine ⟨?_, fun c hc => ?_, ?_⟩
  · rw [exl_app, r1, ← hex, h.rem, ha, List.take_of_length_le (by rw [List.length_drop, hX]; unfold maxI; omega)]
    rfl
  · rcases List.mem_append.1 hc with hc | hc
    · exact h.v1 c hc
    · exact rdp_v st.2.1 st.2.2.1 st.2.2.2 h.rd h.v2 c hc
  · rw [List.length_append]; have := h.ct; omega
end Go.Proofs.Ytolhjkpekmmajaa
/- The patch that pieces make, plainly. -/
namespace Go.Proofs.Ytolhjkpekmmajaa
set_option linter.unusedVariables false
set_option linter.unusedSimpArgs false
open Go.RowKit Go.Lib
/-- all letters of a text of N letters -/
def x0 (N : Nat) : List (Option Nat) := (List.range N).map some
theorem x0_len (N : Nat) : (x0 N).length = N := by simp [x0]
theorem exo_x0 (N : Nat) : exl [⟨0, 0, (N : Int)⟩] = x0 N := by
  rw [exl_one]; unfold exo x0
  rw [if_pos rfl]
  simp
theorem x0_part {N a n : Nat} (h : a + n ≤ N) : ((x0 N).drop a).take n = (List.range n).map fun j => some (a + j) := by
  refine List.ext_getElem? fun i => ?_
  rw [List.getElem?_take]
  by_cases hi : i < n
  · rw [if_pos hi, List.getElem?_drop]; unfold x0
    rw [List.getElem?_map, List.getElem?_map, List.getElem?_range (by omega), List.getElem?_range (by omega)]; rfl
  · rw [if_neg hi, List.getElem?_eq_none (by simp; omega)]
/-- what changes make of a row of letters, up to the end of the last change -/
def gpre (T : List (List Int)) (X : List (Option Nat)) : List Cg → Nat → List (Option Nat)
  | [], _ => []
  | c :: p, f => (X.drop f).take (c.ad.toNat - f) ++ (nul T c 0 ++ gpre T X p (c.ad + c.n).toNat)
def endR : List Cg → Nat → Nat
  | [], f => f
  | c :: p, _ => endR p (c.ad + c.n).toNat
theorem gsp_gpre (T : List (List Int)) (X : List (Option Nat)) : ∀ (p : List Cg) (f q : Nat), gsp X (ilT T) (nul T) p f q = gpre T X p f ++ X.drop (endR p f)
  | [], f, q => rfl
  | c :: p, f, q => by
    rw [gsp_cons, gsp_gpre T X p]
    show _ = (_ ++ (_ ++ _)) ++ _
    simp only [List.append_assoc]; rfl
theorem gpre_snoc (T : List (List Int)) (X : List (Option Nat)) (d : Cg) : ∀ (p : List Cg) (f : Nat), gpre T X (p ++ [d]) f = gpre T X p f ++ ((X.drop (endR p f)).take (d.ad.toNat - endR p f) ++ nul T d 0)
  | [], f => by show _ ++ (_ ++ []) = _; simp [endR, gpre]
  | c :: p, f => by
    show _ ++ (_ ++ gpre T X (p ++ [d]) _) = (_ ++ (_ ++ gpre T X p _)) ++ _
    rw [gpre_snoc T X d p]
    simp only [List.append_assoc]; rfl
theorem endR_snoc (d : Cg) : ∀ (p : List Cg) (f : Nat), endR (p ++ [d]) f = (d.ad + d.n).toNat
  | [], _ => rfl
  | _ :: p, _ => endR_snoc d p _
theorem endR_lst : ∀ (p : List Cg), p ≠ [] → (endR p 0 : Int) = max 0 (lst p p.length) := fun p hp => by
  obtain ⟨l, b, rfl⟩ := (List.eq_nil_or_concat p).resolve_left hp
  rw [List.concat_eq_append, endR_snoc]
  have : lst (l ++ [b]) (l ++ [b]).length = b.ad + b.n := by
    rw [List.length_append]; exact lst_succ (by simp)
  rw [this]; omega
theorem gpre_ext {L L' : List En} {T T' : List (List Int)} (k : Ext L T L' T') (hT : T.length = L.length) (X : List (Option Nat)) : ∀ (p : List Cg) (f : Nat), (∀ c ∈ p, 0 ≤ c.x ∧ c.x ≤ L.length) → gpre T' X p f = gpre T X p f
  | [], f, _ => rfl
  | c :: p, f, h => by
    obtain ⟨h0, h1⟩ := h c (by simp)
    show _ ++ (nul T' c 0 ++ gpre T' X p _) = _ ++ (nul T c 0 ++ gpre T X p _)
    rw [gpre_ext k hT X p _ fun d hd => h d (by simp [hd])]
    unfold nul ilT; rw [k.tx hT h0 h1]
/-- how far the making of a patch has come: behind the pieces q1; the changes r; a the end of the last kept letters; m letters wait -/
structure ColI (N : Nat) (L : List En) (T : List (List Int)) (q1 r : List Cg) (a m : Nat) : Prop where
  ex : exl q1 = gpre T (x0 N) r 0 ++ (((x0 N).drop (endR r 0)).take (a - endR r 0) ++ List.replicate m none)
  pok : POk N L.length r
  la : lst r r.length < (a : Int)
  ea : endR r 0 ≤ a
  an : a ≤ N
theorem POk.xs {N K : Int} {p : List Cg} (h : POk N K p) : ∀ c ∈ p, 0 ≤ c.x ∧ c.x ≤ K := fun c hc => by
  obtain ⟨k, hk, rfl⟩ := List.mem_iff_getElem.1 hc
  obtain ⟨_, _, _, _, h5, h6, _⟩ := h k _ (List.getElem?_eq_getElem hk)
  exact ⟨h5, h6⟩
theorem ColI.ext {N : Nat} {L L' : List En} {T T' : List (List Int)} {q1 r : List Cg} {a m : Nat} (h : ColI N L T q1 r a m) (k : Ext L T L' T') (hT : T.length = L.length) : ColI N L' T' q1 r a m :=
  ⟨by rw [gpre_ext k hT _ _ _ h.pok.xs]; exact h.ex, h.pok.mono (by have := k.len; omega), h.la, h.ea, h.an⟩
theorem ColI.start (N : Nat) (L : List En) (T : List (List Int)) : ColI N L T [] [] 0 0 := ⟨by simp [exl, gpre], POk.nil _ _, by show (-1 : Int) < 0; omega, Nat.le_refl _, Nat.zero_le _⟩
theorem ColI.text {N : Nat} {L : List En} {T : List (List Int)} {q1 r : List Cg} {a m : Nat} (h : ColI N L T q1 r a m) {c : Cg} (hc : c.ad ≠ 0) : ColI N L T (q1 ++ [c]) r a (m + c.x.toNat) := by
  refine ⟨?_, h.pok, h.la, h.ea, h.an⟩
  have : exo c = List.replicate c.x.toNat none := by unfold exo; rw [if_neg hc]
  rw [exl_app, exl_one, this, h.ex, ← List.replicate_append_replicate]
  simp only [List.append_assoc]
theorem exo_keep {N a n : Nat} (h : a + n ≤ N) : exo ⟨0, (a : Int), (n : Int)⟩ = ((x0 N).drop a).take n := by
  rw [x0_part h]; unfold exo; rw [if_pos rfl]; simp
theorem ColI.keep {N : Nat} {L : List En} {T : List (List Int)} {q1 r : List Cg} {a : Nat} (h : ColI N L T q1 r a 0) {n : Nat} (hn : a + n ≤ N) : ColI N L T (q1 ++ [⟨0, (a : Int), (n : Int)⟩]) r (a + n) 0 := by
  refine ⟨?_, h.pok, by have := h.la; omega, by have := h.ea; omega, hn⟩
  rw [exl_app, exl_one, exo_keep hn, h.ex]
  have hea := h.ea
  have e : ((x0 N).drop (endR r 0)).take (a + n - endR r 0) = ((x0 N).drop (endR r 0)).take (a - endR r 0) ++ ((x0 N).drop a).take n := by
    rw [show a + n - endR r 0 = (a - endR r 0) + n by omega, List.take_add, List.drop_drop]
    congr 3; omega
  rw [e]; simp
theorem ColI.change {N : Nat} {L : List En} {T : List (List Int)} {q1 r : List Cg} {a m : Nat} (h : ColI N L T q1 r a m) {f : Nat} (hf : a ≤ f) (hN : f ≤ N) {y : Int} (y0 : 0 ≤ y) (y1 : y ≤ L.length) (hy : (tx T y).length = m) (hz : a < f ∨ m ≠ 0) :
    POk N L.length (r ++ [⟨(a : Int), (f : Int) - a, y⟩]) ∧ gpre T (x0 N) (r ++ [⟨(a : Int), (f : Int) - a, y⟩]) 0 = exl q1 ∧ endR (r ++ [⟨(a : Int), (f : Int) - a, y⟩]) 0 = f ∧ lst (r ++ [⟨(a : Int), (f : Int) - a, y⟩]) (r ++ [(⟨(a : Int), (f : Int) - a, y⟩ : Cg)]).length = f := by
  refine ⟨h.pok.snoc _ h.la (by simp only; omega) (by simp only; omega) (by simp only; omega) y0 y1 ?_, ?_, ?_, ?_⟩
  · rcases hz with hz | hz
    · left; simp only; omega
    · right; intro e; simp only at e; rw [e, tx_zero] at hy; exact hz hy.symm
  · rw [gpre_snoc, h.ex]
    simp only [Int.toNat_natCast]
    unfold nul ilT; rw [hy]
  · rw [endR_snoc]; simp only; omega
  · rw [List.length_append]; rw [show r.length + [(⟨(a : Int), (f : Int) - a, y⟩ : Cg)].length = r.length + 1 from rfl, lst_succ (c := ⟨(a : Int), (f : Int) - a, y⟩) (by simp)]; simp only; omega
theorem ColI.cut {N : Nat} {L : List En} {T : List (List Int)} {q1 r : List Cg} {a m : Nat} (h : ColI N L T q1 r a m) {f n : Nat} (hf : a ≤ f) (hn : 1 ≤ n) (hN : f + n ≤ N) {y : Int} (y0 : 0 ≤ y) (y1 : y ≤ L.length) (hy : (tx T y).length = m) (hz : a < f ∨ m ≠ 0) :
    ColI N L T (q1 ++ [⟨0, (f : Int), (n : Int)⟩]) (r ++ [⟨(a : Int), (f : Int) - a, y⟩]) (f + n) 0 := by
  obtain ⟨k1, k2, k3, k4⟩ := h.change hf (by omega) y0 y1 hy hz
  refine ⟨?_, k1, by rw [k4]; omega, by rw [k3]; omega, hN⟩
  rw [exl_app, exl_one, exo_keep hN, k2, k3, show f + n - f = n by omega]; simp
/-- the whole: r leads to the pieces -/
structure ColF (N : Nat) (L : List En) (T : List (List Int)) (q r : List Cg) : Prop where
  pok : POk N L.length r
  ex : gsp (x0 N) (ilT T) (nul T) r 0 0 = exl q
theorem ColI.fin {N : Nat} {L : List En} {T : List (List Int)} {q r : List Cg} (h : ColI N L T q r N 0) : ColF N L T q r := by
  refine ⟨h.pok, ?_⟩
  rw [gsp_gpre, h.ex]
  have hea := h.ea
  rw [List.take_of_length_le (by rw [List.length_drop, x0_len]; omega)]; simp
theorem ColI.fin2 {N : Nat} {L : List En} {T : List (List Int)} {q r : List Cg} {a m : Nat} (h : ColI N L T q r a m) {y : Int} (y0 : 0 ≤ y) (y1 : y ≤ L.length) (hy : (tx T y).length = m) (hz : a < N ∨ m ≠ 0) :
    ColF N L T q (r ++ [⟨(a : Int), (N : Int) - a, y⟩]) := by
  obtain ⟨k1, k2, k3, k4⟩ := h.change h.an (Nat.le_refl _) y0 y1 hy hz
  refine ⟨k1, ?_⟩
  rw [gsp_gpre, k2, k3, List.drop_eq_nil_of_le (by rw [x0_len]; exact Nat.le_refl _), List.append_nil]
/-- kept letters in order -/
theorem gsp_sub {N : Nat} (T : List (List Int)) (X : List (Option Nat)) : ∀ (p : List Cg) (f q : Nat), Ordd N f p → ((gsp X (ilT T) (nul T) p f q).filterMap id).Sublist ((X.drop f).filterMap id)
  | [], f, q, _ => List.Sublist.refl _
  | c :: p, f, q, h => by
    obtain ⟨h0, h1, h2, h3, h4⟩ := h
    have ih := gsp_sub T X p (c.ad + c.n).toNat (q + (c.ad.toNat - f) + ilT T c) h4
    have en : (nul T c (q + (c.ad.toNat - f))).filterMap id = [] := by unfold nul; simp [List.filterMap_replicate]
    rw [gsp_cons, List.filterMap_append, List.filterMap_append, en, List.nil_append]
    have e : X.drop f = (X.drop f).take (c.ad.toNat - f) ++ X.drop c.ad.toNat := by
      have := (List.take_append_drop (c.ad.toNat - f) (X.drop f)).symm
      rw [List.drop_drop] at this
      rw [show f + (c.ad.toNat - f) = c.ad.toNat by omega] at this
      exact this
    rw [e, List.filterMap_append, ← e]
    refine List.Sublist.append (List.Sublist.refl _) (ih.trans (List.Sublist.filterMap _ ?_))
    rw [show (c.ad + c.n).toNat = c.ad.toNat + c.n.toNat by omega, ← List.drop_drop]
    exact List.drop_sublist _ _
theorem x0_kept (N : Nat) : (x0 N).filterMap id = List.range N := by unfold x0; rw [List.filterMap_map]; simp
/-- the pieces' kept letters are in order -/
def Mono (N : Nat) (q : List Cg) : Prop := ((exl q).filterMap id).Sublist (List.range N)
theorem Mono.lt {N : Nat} {q : List Cg} (h : Mono N q) : ((exl q).filterMap id).Pairwise (· < ·) := List.Pairwise.sublist h List.pairwise_lt_range
theorem ColI.le {N : Nat} {L : List En} {T : List (List Int)} {q1 q2 r : List Cg} {a m : Nat} (h : ColI N L T q1 r a m) {f n : Nat} (hn : 1 ≤ n) (hM : Mono N (q1 ++ ⟨0, (f : Int), (n : Int)⟩ :: q2)) : a ≤ f := by
  by_cases ha : a = 0
  · omega
  · have hea := h.ea; have hla := h.la; have han := h.an
    have hlt : endR r 0 < a := by
      by_cases hr : r = []
      · subst hr; show 0 < a; omega
      · have := endR_lst r hr; omega
    have m1 : some (a - 1) ∈ exl q1 := by
      rw [h.ex]
      refine List.mem_append_right _ (List.mem_append_left _ (List.mem_iff_getElem?.2 ⟨a - 1 - endR r 0, ?_⟩))
      rw [List.getElem?_take, if_pos (by omega), List.getElem?_drop]
      unfold x0
      rw [List.getElem?_map, List.getElem?_range (by omega)]; simp; omega
    have m2 : some f ∈ exo ⟨0, (f : Int), (n : Int)⟩ := by
      unfold exo; rw [if_pos rfl]
      exact List.mem_map.2 ⟨0, by simp; omega, by simp⟩
    have hp := hM.lt
    rw [exl_app, exl_cons, List.filterMap_append, List.filterMap_append, List.pairwise_append] at hp
    have := hp.2.2 (a - 1) (List.mem_filterMap.2 ⟨_, m1, rfl⟩) f (List.mem_append_left _ (List.mem_filterMap.2 ⟨_, m2, rfl⟩))
    omega
end Go.Proofs.Ytolhjkpekmmajaa
/- Anchors, plainly: where a letter goes; two patches and their composition. -/
namespace Go.Proofs.Ytolhjkpekmmajaa
set_option linter.unusedVariables false
set_option linter.unusedSimpArgs false
open Go.RowKit Go.Lib
/-- where a letter goes: twice its place, and true; or the range of the text that replaces it -/
def fwl (il : Cg → Nat) : List Cg → Int → Int → Int × Int × Bool
  | [], s, a => (a + s, a + s, true)
  | c :: p, s, a => if a < c.ad then (a + s, a + s, true) else if a < c.ad + c.n then (c.ad + s, c.ad + s + il c, false) else fwl il p (s + (il c - c.n)) a
theorem fw_bk (il : Cg → Nat) {N : Nat} : ∀ (p : List Cg) (f : Nat) (s a : Int), Ordd N f p → (f : Int) ≤ a → (fwl il p s a).2.2 = true → bkr il p s (fwl il p s a).1 = some a ∧ (f : Int) + s ≤ (fwl il p s a).1 ∧ (fwl il p s a).1 = (fwl il p s a).2.1
  | [], f, s, a, ho, ha, h => ⟨by show some (a + s - s) = some a; congr 1; omega, by show (f : Int) + s ≤ a + s; omega, rfl⟩
  | c :: p, f, s, a, ho, ha, h => by
    obtain ⟨h0, h1, h2, h3, h4⟩ := ho
    unfold fwl at h ⊢
    split at h
    · rename_i c1
      rw [if_pos c1]
      unfold bkr
      exact ⟨by simp only; rw [if_pos (by omega)]; congr 1; omega, by simp only; omega, rfl⟩
    · rename_i c1
      rw [if_neg c1]
      split at h
      · simp at h
      · rename_i c2
        rw [if_neg c2]
        obtain ⟨i1, i2, i3⟩ := fw_bk il p (c.ad + c.n).toNat (s + (il c - c.n)) a h4 (by omega) h
        refine ⟨?_, by omega, i3⟩
        unfold bkr
        rw [if_neg (by omega), if_neg (by omega)]
        exact i1
theorem bk_fw (il : Cg → Nat) {N : Nat} : ∀ (p : List Cg) (f : Nat) (s b a : Int), Ordd N f p → (f : Int) + s ≤ b → bkr il p s b = some a → (f : Int) ≤ a ∧ fwl il p s a = (b, b, true)
  | [], f, s, b, a, ho, hb, h => by
    have h : some (b - s) = some a := h
    injection h with h
    exact ⟨by omega, by show (a + s, a + s, true) = _; rw [show a + s = b by omega]⟩
  | c :: p, f, s, b, a, ho, hb, h => by
    obtain ⟨h0, h1, h2, h3, h4⟩ := ho
    unfold bkr at h
    split at h
    · injection h with h
      unfold fwl
      exact ⟨by omega, by rw [if_pos (by omega), show a + s = b by omega]⟩
    · split at h
      · cases h
      · obtain ⟨i1, i2⟩ := bk_fw il p (c.ad + c.n).toNat (s + (il c - c.n)) b a h4 (by omega) h
        refine ⟨by omega, ?_⟩
        unfold fwl
        rw [if_neg (by omega), if_neg (by omega)]
        exact i2
theorem fwl_bnd (T : List (List Int)) {N : Nat} : ∀ (p : List Cg) (f : Nat) (s a : Int), Ordd N f p → (f : Int) ≤ a → a < N →
    (f : Int) + s ≤ (fwl (ilT T) p s a).1 ∧ (fwl (ilT T) p s a).1 ≤ (fwl (ilT T) p s a).2.1 ∧ (fwl (ilT T) p s a).2.1 ≤ N + s - dn p p.length + up T p p.length ∧ ((fwl (ilT T) p s a).2.2 = true → (fwl (ilT T) p s a).2.1 < N + s - dn p p.length + up T p p.length)
  | [], f, s, a, ho, ha, hN => by
    have e1 : dn [] ([] : List Cg).length = 0 := rfl
    have e2 : up T [] ([] : List Cg).length = 0 := rfl
    rw [e1, e2]
    show (f : Int) + s ≤ a + s ∧ a + s ≤ a + s ∧ a + s ≤ _ ∧ (_ → a + s < _)
    omega
  | c :: p, f, s, a, ho, ha, hN => by
    obtain ⟨h0, h1, h2, h3, h4⟩ := ho
    rw [dn_cons, up_cons]
    have hil : ((ilT T c : Nat) : Int) = ((tx T c.x).length : Int) := rfl
    have key : ∀ (p : List Cg) (f : Nat), Ordd N f p → 0 ≤ up T p p.length ∧ dn p p.length ≤ (N : Int) - f := fun p => by
      induction p with
      | nil => intro f h; have := h.le; exact ⟨Int.le_refl _, by show (0 : Int) ≤ _; omega⟩
      | cons d p ih =>
        intro f h
        obtain ⟨g0, g1, g2, g3, g4⟩ := h
        have := ih _ g4
        rw [dn_cons, up_cons]; omega
    have hk := key p _ h4
    unfold fwl
    split
    · rename_i c1; simp only; omega
    · split
      · rename_i c1 c2; simp only
        refine ⟨by omega, by omega, by omega, fun h => by cases h⟩
      · obtain ⟨i1, i2, i3, i4⟩ := fwl_bnd T p (c.ad + c.n).toNat (s + (ilT T c - c.n)) a h4 (by omega) hN
        refine ⟨by omega, i2, by omega, fun h => ?_⟩
        have := i4 h; omega
/-- letters kept by both are kept by the composition, and go to the same place -/
theorem fw_comp {T : List (List Int)} {N : Nat} {p q r : List Cg} (hp : Ordd N 0 p) (hq : Ordd (gsp (x0 N) (ilT T) (nul T) p 0 0).length 0 q) (hr : Ordd N 0 r)
    (he : gsp (x0 N) (ilT T) (nul T) r 0 0 = gsp (gsp (x0 N) (ilT T) (nul T) p 0 0) (ilT T) (nul T) q 0 0) {a : Nat} (ha : a < N) (h1 : (fwl (ilT T) p 0 a).2.2 = true) (h2 : (fwl (ilT T) q 0 (fwl (ilT T) p 0 a).1).2.2 = true) :
    fwl (ilT T) r 0 a = ((fwl (ilT T) q 0 (fwl (ilT T) p 0 a).1).1, (fwl (ilT T) q 0 (fwl (ilT T) p 0 a).1).1, true) := by
  obtain ⟨b1, b2, b3⟩ := fw_bk (ilT T) p 0 0 a hp (by omega) h1
  generalize (fwl (ilT T) p 0 a).1 = b at *
  obtain ⟨b, rfl⟩ : ∃ n : Nat, b = (n : Int) := ⟨b.toNat, by omega⟩
  obtain ⟨c1, c2, c3⟩ := fw_bk (ilT T) q 0 0 b hq (by omega) h2
  generalize (fwl (ilT T) q 0 b).1 = c at *
  obtain ⟨c, rfl⟩ : ∃ n : Nat, c = (n : Int) := ⟨c.toNat, by omega⟩
  have xa : (x0 N)[a]? = some (some a) := by unfold x0; rw [List.getElem?_map, List.getElem?_range ha]; rfl
  have g1 := (gsp_get (X := x0 N) (il := ilT T) (ins := nul T) (nul_len T) (fun _ _ => True) (fun _ _ _ _ => trivial) (x0_len N) p 0 0 0 hp rfl b (Nat.zero_le _)).1 _ b1
  have g2 := (gsp_get (X := gsp (x0 N) (ilT T) (nul T) p 0 0) (il := ilT T) (ins := nul T) (nul_len T) (fun _ _ => True) (fun _ _ _ _ => trivial) rfl q 0 0 0 hq rfl c (Nat.zero_le _)).1 _ c1
  have g3 := gsp_get (X := x0 N) (il := ilT T) (ins := nul T) (nul_len T) (fun _ u => u = some none) (fun d q j hj => by unfold nul; rw [List.getElem?_replicate, if_pos hj]) (x0_len N) r 0 0 0 hr rfl c (Nat.zero_le _)
  rw [Nat.sub_zero, Int.toNat_natCast] at g1 g2
  rw [Nat.sub_zero] at g3
  rw [he, g2.2, g1.2, xa] at g3
  cases hb : bkr (ilT T) r 0 c with
  | none => have := g3.2 hb; simp at this
  | some x =>
    obtain ⟨x0_, g4⟩ := g3.1 x hb
    have hx : x.toNat = a := by
      unfold x0 at g4
      rw [List.getElem?_map] at g4
      cases hr2 : (List.range N)[x.toNat]? with
      | none => rw [hr2] at g4; simp at g4
      | some y =>
        rw [hr2] at g4
        simp at g4
        obtain ⟨hl, e⟩ := List.getElem?_eq_some_iff.1 hr2
        simp at e; omega
    have : x = (a : Int) := by have := x0_; simp at this; omega
    subst this
    exact (bk_fw (ilT T) r 0 0 c a hr (by omega) hb).2
theorem mvs_lof (T : List (List Int)) {N : Nat} : ∀ (p : List Cg) (f : Nat) (s : Int), Ordd N f p → ∀ (i : Nat) (m : Mv), (mvs T s p)[i]? = some m → (f : Int) ≤ m.f
  | [], f, s, _, i, m, h => by simp [mvs] at h
  | c :: p, f, s, ho, i, m, h => by
    obtain ⟨h0, h1, h2, h3, h4⟩ := ho
    match i with
    | 0 => simp [mvs] at h; subst h; simp only; omega
    | i + 1 =>
      have := mvs_lof T p _ (s + ((tx T c.x).length - c.n)) h4 i m (by simpa [mvs] using h)
      omega
theorem fw_ex (T : List (List Int)) {N : Nat} (a : Int) : ∀ (p : List Cg) (f : Nat) (s : Int), Ordd N f p → ∃ k, k ≤ p.length ∧ (∀ (i : Nat) (m : Mv), (mvs T s p)[i]? = some m → i < k → m.f ≤ a) ∧ (∀ (i : Nat) (m : Mv), (mvs T s p)[i]? = some m → k ≤ i → a < m.f) ∧
      ((k = 0 ∧ fwl (ilT T) p s a = (a + s, a + s, true)) ∨ ∃ j m, k = j + 1 ∧ (mvs T s p)[j]? = some m ∧ fwl (ilT T) p s a = if a < m.t then (m.nf, m.nt, false) else (a + (m.nt - m.t), a + (m.nt - m.t), true))
  | [], f, s, _ => ⟨0, Nat.le_refl _, fun i m h => by simp [mvs] at h, fun i m h => by simp [mvs] at h, .inl ⟨rfl, rfl⟩⟩
  | c :: p, f, s, ho => by
    obtain ⟨h0, h1, h2, h3, h4⟩ := ho
    have lo := mvs_lof T p _ (s + ((tx T c.x).length - c.n)) h4
    have m0 : (mvs T s (c :: p))[0]? = some ⟨c.ad, c.ad + c.n, c.ad + s, c.ad + s + (tx T c.x).length⟩ := rfl
    have ms : ∀ i, (mvs T s (c :: p))[i + 1]? = (mvs T (s + ((tx T c.x).length - c.n)) p)[i]? := fun i => rfl
    unfold fwl
    by_cases c1 : a < c.ad
    · refine ⟨0, Nat.zero_le _, fun i m _ h => by omega, fun i m h _ => ?_, .inl ⟨rfl, by rw [if_pos c1]⟩⟩
      match i with
      | 0 => rw [m0] at h; injection h with h; subst h; exact c1
      | i + 1 => rw [ms] at h; have := lo i m h; omega
    · rw [if_neg c1]
      by_cases c2 : a < c.ad + c.n
      · rw [if_pos c2]
        refine ⟨1, by simp, fun i m h hi => ?_, fun i m h hi => ?_, .inr ⟨0, _, rfl, m0, ?_⟩⟩
        · obtain rfl : i = 0 := by omega
          rw [m0] at h; injection h with h; subst h; simp only; omega
        · match i, hi with
          | i + 1, _ => rw [ms] at h; have := lo i m h; omega
        · rw [if_pos (by exact c2)]; rfl
      · rw [if_neg c2]
        obtain ⟨k, k1, k2, k3, k4⟩ := fw_ex T a p _ (s + ((tx T c.x).length - c.n)) h4
        refine ⟨k + 1, by simp; exact k1, fun i m h hi => ?_, fun i m h hi => ?_, .inr ?_⟩
        · match i with
          | 0 => rw [m0] at h; injection h with h; subst h; simp only; omega
          | i + 1 => rw [ms] at h; exact k2 i m h (by omega)
        · match i, hi with
          | i + 1, hi => rw [ms] at h; exact k3 i m h (by omega)
        · rcases k4 with ⟨rfl, k4⟩ | ⟨j, m, rfl, k4, k5⟩
          · refine ⟨0, _, rfl, m0, ?_⟩
            rw [if_neg (by exact c2)]
            refine k4.trans ?_
            simp only
            rw [show a + (c.ad + s + ((tx T c.x).length : Int) - (c.ad + c.n)) = a + (s + (((tx T c.x).length : Int) - c.n)) by omega]
          · exact ⟨j + 1, m, rfl, by rw [ms]; exact k4, k5⟩
/-- what the first k moves make of a letter -/
def ltv (M : List Mv) (a : Int) : Nat → Int × Int × Bool
  | 0 => (a, a, true)
  | k + 1 => match M[k]? with
    | none => (0, 0, false)
    | some m => if a < m.t then (m.nf, m.nt, false) else (a + (m.nt - m.t), a + (m.nt - m.t), true)
theorem ltv_ex (T : List (List Int)) {N : Nat} {p : List Cg} (ho : Ordd N 0 p) (a : Int) : ∃ k, k ≤ p.length ∧ (∀ (i : Nat) (m : Mv), (mvs T 0 p)[i]? = some m → i < k → m.f ≤ a) ∧ (∀ (i : Nat) (m : Mv), (mvs T 0 p)[i]? = some m → k ≤ i → a < m.f) ∧
    ltv (mvs T 0 p) a k = fwl (ilT T) p 0 a := by
  obtain ⟨k, k1, k2, k3, k4⟩ := fw_ex T a p 0 0 ho
  refine ⟨k, k1, k2, k3, ?_⟩
  rcases k4 with ⟨rfl, k4⟩ | ⟨j, m, rfl, k4, k5⟩
  · rw [k4]; simp [ltv]
  · unfold ltv; simp only [k4, k5]
/-- where an anchor goes, and whether its letter stays -/
def ancV (T : List (List Int)) (N : Int) (p : List Cg) (a : Int) : Bool → Int × Bool
  | true => if a = N then (newLen T N p, true) else ((fwl (ilT T) p 0 a).2.1, (fwl (ilT T) p 0 a).2.2)
  | false => if a = 0 then (0, true) else if (fwl (ilT T) p 0 (a - 1)).2.2 then ((fwl (ilT T) p 0 (a - 1)).1 + 1, true) else ((fwl (ilT T) p 0 (a - 1)).1, false)
theorem ancV_t (T : List (List Int)) (N : Int) (p : List Cg) (a : Int) : ancV T N p a true = if a = N then (newLen T N p, true) else ((fwl (ilT T) p 0 a).2.1, (fwl (ilT T) p 0 a).2.2) := rfl
theorem ancV_f (T : List (List Int)) (N : Int) (p : List Cg) (a : Int) : ancV T N p a false = if a = 0 then (0, true) else if (fwl (ilT T) p 0 (a - 1)).2.2 then ((fwl (ilT T) p 0 (a - 1)).1 + 1, true) else ((fwl (ilT T) p 0 (a - 1)).1, false) := rfl
theorem gsp_newLen {T : List (List Int)} {N : Nat} {p : List Cg} (hp : Ordd N 0 p) {X : List (Option Nat)} (hX : X.length = N) : ((gsp X (ilT T) (nul T) p 0 0).length : Int) = newLen T N p := by
  rw [gsp_len T (nul_len T) hX p 0 0 hp]; unfold newLen; omega
theorem ancV_bnd {T : List (List Int)} {N : Nat} {p : List Cg} (hp : Ordd N 0 p) (n0 : 0 ≤ newLen T N p) (a : Int) (a0 : 0 ≤ a) (a1 : a ≤ N) (r : Bool) : 0 ≤ (ancV T N p a r).1 ∧ (ancV T N p a r).1 ≤ newLen T N p := by
  cases r with
  | true =>
    rw [ancV_t]
    split
    · exact ⟨n0, Int.le_refl _⟩
    · obtain ⟨i1, i2, i3, i4⟩ := fwl_bnd T p 0 0 a hp (by omega) (by omega)
      unfold newLen; simp only; omega
  | false =>
    rw [ancV_f]
    split
    · exact ⟨Int.le_refl _, n0⟩
    · obtain ⟨i1, i2, i3, i4⟩ := fwl_bnd T p 0 0 (a - 1) hp (by omega) (by omega)
      unfold newLen
      split
      · rename_i h; have := i4 h; simp only; omega
      · simp only; omega
theorem anc_comp {T : List (List Int)} {N M : Nat} {p q r : List Cg} (hp : Ordd N 0 p) (hM : (gsp (x0 N) (ilT T) (nul T) p 0 0).length = M) (hq : Ordd M 0 q) (hr : Ordd N 0 r)
    (he : gsp (x0 N) (ilT T) (nul T) r 0 0 = gsp (gsp (x0 N) (ilT T) (nul T) p 0 0) (ilT T) (nul T) q 0 0) (a : Int) (a0 : 0 ≤ a) (a1 : a ≤ N) (d : Bool) (h1 : (ancV T N p a d).2 = true) (h2 : (ancV T M q (ancV T N p a d).1 d).2 = true) :
    ancV T N r a d = ((ancV T M q (ancV T N p a d).1 d).1, true) := by
  have eM : (M : Int) = newLen T N p := by rw [← hM]; exact gsp_newLen hp (x0_len N)
  have eR : newLen T N r = newLen T M q := by rw [← gsp_newLen hr (x0_len N), he, gsp_newLen (X := gsp (x0 N) (ilT T) (nul T) p 0 0) hq hM]
  cases d with
  | true =>
    by_cases ha : a = N
    · have e1 : ancV T N p a true = (newLen T N p, true) := by rw [ancV_t, if_pos ha]
      have e2 : ancV T N r a true = (newLen T N r, true) := by rw [ancV_t, if_pos ha]
      rw [e1, e2]
      have e3 : ancV T M q (newLen T N p) true = (newLen T M q, true) := by rw [ancV_t, if_pos eM.symm]
      simp only [e3, eR]
    · have e1 : ancV T N p a true = ((fwl (ilT T) p 0 a).2.1, (fwl (ilT T) p 0 a).2.2) := by rw [ancV_t, if_neg ha]
      have e2 : ancV T N r a true = ((fwl (ilT T) r 0 a).2.1, (fwl (ilT T) r 0 a).2.2) := by rw [ancV_t, if_neg ha]
      obtain ⟨i1, i2, i3, i4⟩ := fwl_bnd T p 0 0 a hp (by omega) (by omega)
      rw [e1] at h1 h2 ⊢
      rw [e2]
      simp only at h1 h2 ⊢
      obtain ⟨j1, j2, j3⟩ := fw_bk (ilT T) p 0 0 a hp (by omega) h1
      have i5 := i4 h1
      rw [← j3] at h2 i5 ⊢
      have hne : (fwl (ilT T) p 0 a).1 ≠ M := by rw [eM]; unfold newLen; omega
      have e3 : ancV T M q (fwl (ilT T) p 0 a).1 true = ((fwl (ilT T) q 0 (fwl (ilT T) p 0 a).1).2.1, (fwl (ilT T) q 0 (fwl (ilT T) p 0 a).1).2.2) := by rw [ancV_t, if_neg hne]
      rw [e3] at h2 ⊢
      simp only at h2 ⊢
      obtain ⟨l1, l2, l3⟩ := fw_bk (ilT T) q 0 0 _ hq (by omega) h2
      obtain ⟨x, hx⟩ : ∃ x : Nat, a = (x : Int) := ⟨a.toNat, by omega⟩
      subst hx
      have hc := fw_comp hp (by rw [hM]; exact hq) hr he (a := x) (by omega) h1 h2
      rw [hc, ← l3]
  | false =>
    by_cases ha : a = 0
    · have e1 : ancV T N p a false = (0, true) := by rw [ancV_f, if_pos ha]
      have e2 : ancV T N r a false = (0, true) := by rw [ancV_f, if_pos ha]
      rw [e1, e2]
      have e3 : ancV T M q 0 false = (0, true) := by rw [ancV_f, if_pos rfl]
      simp only [e3]
    · obtain ⟨i1, i2, i3, i4⟩ := fwl_bnd T p 0 0 (a - 1) hp (by omega) (by omega)
      have hk : (fwl (ilT T) p 0 (a - 1)).2.2 = true := by
        rw [ancV_f] at h1; rw [if_neg ha] at h1
        split at h1
        · rename_i h; exact h
        · simp at h1
      have e1 : ancV T N p a false = ((fwl (ilT T) p 0 (a - 1)).1 + 1, true) := by rw [ancV_f, if_neg ha, if_pos hk]
      obtain ⟨j1, j2, j3⟩ := fw_bk (ilT T) p 0 0 (a - 1) hp (by omega) hk
      rw [e1] at h2 ⊢
      simp only at h2 ⊢
      have hne : (fwl (ilT T) p 0 (a - 1)).1 + 1 ≠ 0 := by omega
      have hk2 : (fwl (ilT T) q 0 (fwl (ilT T) p 0 (a - 1)).1).2.2 = true := by
        rw [ancV_f] at h2; rw [if_neg hne] at h2
        rw [show (fwl (ilT T) p 0 (a - 1)).1 + 1 - 1 = (fwl (ilT T) p 0 (a - 1)).1 by omega] at h2
        split at h2
        · rename_i h; exact h
        · simp at h2
      have e3 : ancV T M q ((fwl (ilT T) p 0 (a - 1)).1 + 1) false = ((fwl (ilT T) q 0 (fwl (ilT T) p 0 (a - 1)).1).1 + 1, true) := by
        rw [ancV_f, if_neg hne, show (fwl (ilT T) p 0 (a - 1)).1 + 1 - 1 = (fwl (ilT T) p 0 (a - 1)).1 by omega, if_pos hk2]
      rw [e3]
      obtain ⟨x, hx⟩ : ∃ x : Nat, a - 1 = (x : Int) := ⟨(a - 1).toNat, by omega⟩
      rw [hx] at hk hk2 ⊢
      have hc := fw_comp hp (by rw [hM]; exact hq) hr he (a := x) (by omega) hk hk2
      rw [ancV_f]
      rw [if_neg ha, hx, hc]
      simp
end Go.Proofs.Ytolhjkpekmmajaa
/- The walk of the reader of pieces. -/
namespace Go.Proofs.Ytolhjkpekmmajaa
set_option linter.unusedVariables false
set_option linter.unusedSimpArgs false
open Go.RowKit Go.Lib Go.Maps Go.Deep
attribute [local go_sem ↓] Go.wp_at_zero Go.wp_at_succ
theorem info_piece : (Try.prog.info? 92).map (fun i => (i.zero, i.size, i.bytes)) = some (some (.agg #[.int .i64 0, .int .i64 0, .int .i64 0]), 3, 24) := by kernel_rfl
/-- all stays but block Q and a row of one's own -/
structure FrQ (Q : Nat) (row : Option Nat) (w w' : World) : Prop where
  os : w'.os = w.os
  tape : w'.tape = w.tape
  output : w'.output = w.output
  size : w.heap.size ≤ w'.heap.size
  keep : ∀ k, k < w.heap.size → k ≠ Q → row ≠ some k → w'.heap[k]? = w.heap[k]?
theorem FrQ.refl (Q : Nat) (row : Option Nat) (w : World) : FrQ Q row w w := ⟨rfl, rfl, rfl, Nat.le_refl _, fun _ _ _ _ => rfl⟩
theorem FrQ.below {Q : Nat} {row : Option Nat} {w w1 w2 : World} (h : FrQ Q row w w1) (hb : Below w1.heap.size w1 w2) : FrQ Q row w w2 :=
  ⟨hb.os.trans h.os, hb.tape.trans h.tape, hb.output.trans h.output, Nat.le_trans h.size hb.size, fun k h1 h2 h3 => (hb.block k (Nat.lt_of_lt_of_le h1 h.size)).trans (h.keep k h1 h2 h3)⟩
theorem FrQ.set {Q : Nat} {row : Option Nat} {w w1 : World} (h : FrQ Q row w w1) (i : Nat) (u : Value) : FrQ Q row w (w1.setCell ⟨Q, i, none⟩ u) :=
  ⟨h.os, h.tape, h.output, by simp [World.setCell]; exact h.size, fun k h1 h2 h3 => (Below.heap_setCell w1 ⟨Q, i, none⟩ u k h2).trans (h.keep k h1 h2 h3)⟩
theorem FrQ.grown {Q : Nat} {row r2 : Option Nat} {w w1 w2 : World} (h : FrQ Q row w w1) (gr : w1.grownBy w2 r2) (hr : ∀ k, r2 = some k → row = some k ∨ w.heap.size ≤ k) : FrQ Q row w w2 :=
  ⟨gr.os.trans h.os, gr.tape.trans h.tape, gr.output.trans h.output, Nat.le_trans h.size gr.size, fun k h1 h2 h3 => (gr.block k (Nat.lt_of_lt_of_le h1 h.size) (fun e => by
    rcases hr k e.symm with e2 | e2
    · exact h3 e2
    · omega)).trans (h.keep k h1 h2 h3)⟩
theorem FrQ.low {Q N0 : Nat} {row : Option Nat} {w w' : World} (h : FrQ Q row w w') (hQ : N0 ≤ Q) (hr : ∀ k, row = some k → N0 ≤ k) (hN : N0 ≤ w.heap.size) : Below N0 w w' :=
  ⟨h.os, h.tape, h.output, h.size, fun k hk => h.keep k (by omega) (by omega) (fun e => by have := hr k e; omega)⟩
/-- a row that stays while blocks from base on turn -/
def RowL (w : World) (base : Nat) (A : Option Addr) (xs : List Value) : Prop := RowAt w A xs ∧ (xs ≠ [] → ∀ ad, A = some ad → ad.block < base)
theorem RowL.below {w w' : World} {base : Nat} {A : Option Addr} {xs : List Value} (h : RowL w base A xs) (hb : Below base w w') : RowL w' base A xs := by
  by_cases hx : xs = []
  · subst hx; exact ⟨RowAt.nil _ _, fun h => absurd rfl h⟩
  · obtain ⟨x, ys, rfl⟩ := List.exists_cons_of_ne_nil hx
    obtain ⟨ad, hA, hl, _⟩ := h.1.get (k := 0) (u := x) rfl
    subst hA
    have k := h.2 hx ad rfl
    refine ⟨fun j u hu => ⟨ad, rfl, ?_⟩, h.2⟩
    obtain ⟨ad2, e, hc⟩ := h.1 j u hu
    injection e with e; subst e
    exact (hb.cell (by rw [block_add]; exact k)).trans hc
theorem cut_pcs (xs : List Value) (A : Option Addr) (n c : Nat) (hn : 1 ≤ n) (hc : n ≤ c) (hl : xs.length = n * 3) :
    ∃ A', (∀ w, (Instr.slice 93 (.slice A n c) (some (.int .i64 1)) none none).run Try.prog w = .ok (.slice A' (n - 1) (c - 1)) w) ∧ ∀ w base, RowL w base A xs → RowL w base A' (xs.drop 3) := by
  refine ⟨if c = 1 then A else A.map (·.add 3), fun w => ?_, fun w base h => ?_⟩
  · have := run_slice_l (P := Try.prog) (w := w) 93 A n c (by kernel_rfl) .i64 (1 : Int) (by omega) (by omega)
    rw [this]
    have hs : (sizeOf (Try.prog.elem 93)).run Try.prog w = .ok 3 w := by kernel_rfl
    rw [hs]
    simp [Result.andThen, sliced]
  · by_cases e : c = 1
    · have : xs.drop 3 = [] := List.drop_eq_nil_of_le (by omega)
      rw [this]; exact ⟨RowAt.nil _ _, fun h => absurd rfl h⟩
    · rw [if_neg e]
      refine ⟨row_drop h.1 3, fun hne ad hA => ?_⟩
      cases A with
      | none => cases hA
      | some a =>
        simp at hA; subst hA
        rw [block_add]
        exact h.2 (fun e => by rw [e] at hne; simp at hne) a rfl
theorem cgc_get0 {p : List Cg} {r : Cg} {j : Nat} {u : Value} (hu : r.cells[j]? = some u) : (cgc (r :: p))[j]? = some u := by
  have h := cgc_get (p := r :: p) (i := 0) (j := j) (c := r) rfl hu
  simpa using h
theorem row_cg0 {w : World} {A : Option Addr} {p : List Cg} {c : Cg} (h : RowAt w A (cgc (c :: p))) :
    ∃ ad, A = some ad ∧ ad.block < w.heap.size ∧ w.cell? ad = some (.int .i64 c.ad) ∧ w.cell? ⟨ad.block, ad.off + 1, none⟩ = some (.int .i64 c.n) ∧ w.cell? ⟨ad.block, ad.off + 2, none⟩ = some (.int .i64 c.x) := by
  obtain ⟨ad, e, hl, k0, k1, k2⟩ := row_cg (i := 0) h rfl
  have e0 : ad.add (0 * 3) = ad := by simp [Addr.add]
  rw [e0] at hl k0 k1 k2
  exact ⟨ad, e, hl, k0, k1, k2⟩
theorem Sl.fresh (w : World) (e : TypeId) (cs : Array Value) (n c : Nat) : Sl e cs.toList n (.slice (some ⟨w.heap.size, 0, none⟩) n c) (w.alloc (.cells cs e)) := by
  refine ⟨_, _, rfl, fun k u hk => ⟨_, rfl, ?_, _, _, heap_alloc_new w _⟩⟩
  obtain ⟨ad, e1, h1⟩ := RowAt.of_block (heap_alloc_new w (.cells cs e)) k u hk
  cases e1; exact h1
/-- how a reading ends -/
def RdOut (N0 Q : Nat) (R : List Cg × List Cg × Int × Int) (row : Option Nat) (w : World) (e : Ending) (w' : World) : Prop :=
  ∃ A c RA rc, e = .returned (.slice A R.1.length c) ∧ Box w' Q 134 #[.slice RA R.2.1.length rc, .int .i64 R.2.2.1, .int .i64 R.2.2.2] ∧ RowL w' N0 RA (cgc R.2.1) ∧ R.2.1.length ≤ rc ∧ w'.ownsRow N0 92 3 (.slice A R.1.length c) R.1.length (cgc R.1) ∧ FrQ Q row w w'
/-- the numbers of pieces are small -/
def PcB (q : List Cg) : Prop := ∀ c ∈ q, c.x ≤ 100000 ∧ c.n ≤ 100000 ∧ -9223372036854775808 ≤ c.ad ∧ c.ad ≤ 9223372036854775807
set_option maxRecDepth 100000 in
set_option maxHeartbeats 32000000 in
theorem pread_any (N0 Q : Nat) (hQ : N0 ≤ Q) (t : Int) (t0 : 0 ≤ t) (t1 : t ≤ 9223372036854775807) (q : List Cg) (u a : Int) (hq : RdOk q u) (hb : PcB q) (a0 : 0 ≤ a) (a1 : a ≤ 9223372036854775807) (res : List Cg) (k c : Nat) (A : Option Addr) (hk : res.length = k) (hkq : k + q.length ≤ 9999)
    (rn rc : Nat) (RA : Option Addr) (hrn : q.length = rn) (hrc : rn ≤ rc) (w : World) (h0 : N0 ≤ w.heap.size) (hB : Box w Q 134 #[.slice RA rn rc, .int .i64 u, .int .i64 a]) (hR : RowL w N0 RA (cgc q)) (hO : w.ownsRow N0 92 3 (.slice A k c) k (cgc res)) :
    Calls Try.prog 42 #[.pointer (some ⟨Q, 0, none⟩), .slice A k c, .int .i64 t] w (RdOut N0 Q (res ++ (rdp t q u a).1, (rdp t q u a).2) (Value.slice A k c).ownBlock w) := by
  obtain ⟨i0_, hi0, hz0, hz1, hz2⟩ := info_parts5 info_piece
  have HI := Lib.hid hi0; have HZ := Lib.hid hz0; have HZ1 := Lib.hid hz1; have HZ2 := Lib.hid hz2
  obtain ⟨R, hR0⟩ : ∃ R, R = (res ++ (rdp t q u a).1, (rdp t q u a).2) := ⟨_, rfl⟩
  rw [← hR0]
  obtain ⟨row, hrow⟩ : ∃ row, row = (Value.slice A k c).ownBlock := ⟨_, rfl⟩
  rw [← hrow]
  have H0 := Lib.hid (show R = (res ++ (rdp t q u a).1, (rdp t q u a).2) ∧ res.length = k ∧ q.length = rn ∧ rn ≤ rc ∧ RdOk q u ∧ PcB q ∧ k + rn + (if a < t then 1 else 0) ≤ 10000 ∧ (∀ j, (Value.slice A k c).ownBlock = some j → row = some j ∨ w.heap.size ≤ j) from ⟨hR0, hk, hrn, hrc, hq, hb, by split <;> omega, fun j hj => .inl (by rw [hrow]; exact hj)⟩)
  have HB0 := Lib.hid hB; have HR0 := Lib.hid hR; have HO0 := Lib.hid hO; have HQ := Lib.hid hQ; have HN := Lib.hid h0
  have HRW : Hid (∀ j, row = some j → N0 ≤ j) := Lib.hid fun j hj => own_ge hO j (by rw [← hrow]; exact hj)
  have hau := hq.u0
  clear hi0 hz0 hz1 hz2 hR0 hrow hk hrn hrc hq hb hB hR hO hQ h0 hkq
  go_enter Try.func42, Try.ntmps42
  go_wp2_with fail
  go_loopg [1, 7, 8] (2 * rn + (if a < t then 1 else 0)) (fun gk s1 _ _ wr => ∃ (q : List Cg) (u a : Int) (res : List Cg) (k c rn rc : Nat) (A RA : Option Addr), s1 = .slice A k c ∧ gk = 2 * rn + (if a < t then 1 else 0) ∧ 0 ≤ a ∧ a ≤ 9223372036854775807 ∧ k ≤ 10000 ∧
     Hid (R = (res ++ (rdp t q u a).1, (rdp t q u a).2) ∧ res.length = k ∧ q.length = rn ∧ rn ≤ rc ∧ RdOk q u ∧ PcB q ∧ k + rn + (if a < t then 1 else 0) ≤ 10000 ∧ (∀ j, (Value.slice A k c).ownBlock = some j → row = some j ∨ w.heap.size ≤ j)) ∧
     Hid (Box wr Q 134 #[.slice RA rn rc, .int .i64 u, .int .i64 a]) ∧ Hid (RowL wr N0 RA (cgc q)) ∧ Hid (wr.ownsRow N0 92 3 (.slice A k c) k (cgc res)) ∧ Hid (FrQ Q row w wr))
  case atStart => exact ⟨q, u, a, res, k, c, rn, rc, A, RA, rfl, rfl, a0, a1, by have := H0.out; omega, H0, HB0, HR0, HO0, Lib.hid (FrQ.refl _ _ _)⟩
  case round =>
    clear H0 HB0 HR0 HO0 a0 a1 hau
    obtain ⟨q, u, a, res, k, c, rn, rc, A, RA, rfl, hgk, a0, a1, k1, H, HB, HR, HO, FR⟩ := hrel
    have HE : Hid ((rn = 0 ∨ t ≤ a) → RdOut N0 Q R row w (.returned (.slice A k c)) wr) := Lib.hid fun hor => by
      obtain ⟨h1, h2, h3, h4, h5, h6, h7, h8⟩ := H.out
      have e : rdp t q u a = ([], q, u, a) := by
        rcases hor with hor | hor
        · subst hor
          have := List.eq_nil_of_length_eq_zero h3
          subst this; rfl
        · cases q with
          | nil => rfl
          | cons d q => unfold rdp; rw [if_neg (by omega)]
      rw [e] at h1
      simp only [List.append_nil] at h1
      rw [h1]
      refine ⟨A, c, RA, rc, by rw [h2], by rw [h3]; exact HB.out, HR.out, by rw [h3]; exact h4, by rw [h2]; exact HO.out, FR.out⟩
    have b0 := HB.out.cell 0; have b1 := HB.out.cell 1; have b2 := HB.out.cell 2
    have f0 := HB.out.free 0; have f1 := HB.out.free 1; have f2 := HB.out.free 2
    simp only [List.getElem?_toArray, List.getElem?_cons_zero, List.getElem?_cons_succ] at b0 b1 b2
    have bl := HB.out.lt
    by_cases hrn : rn = 0
    · have HE2 := Lib.hid (HE.out (.inl hrn))
      subst hrn
      clear H HB HR HO FR HE
      go_wp2_with fail
      go_ret
      exact HE2.out
    · by_cases hat : a < t
      · skip
        -- round
        obtain ⟨h1, h2, h3, h4, h5, h6, h7, h8⟩ := H.out
        obtain ⟨d, q2, rfl⟩ : ∃ d q2, q = d :: q2 := by
          cases q with
          | nil => exact absurd h3.symm hrn
          | cons d q2 => exact ⟨d, q2, rfl⟩
        obtain ⟨rn, rfl⟩ : ∃ r, rn = r + 1 := ⟨rn - 1, by omega⟩
        obtain ⟨ad, rfl, adl, c0, c1, c2⟩ := row_cg0 HR.out.1
        obtain ⟨dt, df, dx⟩ := d
        simp only at c0 c1 c2
        have hu0 := h5.u0
        have hn1 := h5.n1 _ (List.mem_cons_self)
        have hux := h5.u1 _ _ rfl
        have hb1 := h6 _ (List.mem_cons_self)
        simp only at hn1 hux hb1
        obtain ⟨m, hm⟩ : ∃ m, m = min (dx - u) (t - a) := ⟨_, rfl⟩
        have m0 : 0 ≤ m := by omega
        have m1 : m ≤ 100000 := by omega
        have m2 : a + m ≤ t := by omega
        have m3 : u + m ≤ dx := by omega
        have hmt : u + m ≠ dx → a + m = t := by omega
        have e : rdp t (⟨dt, df, dx⟩ :: q2) u a = if u + m = dx then ((if 0 < m then [(⟨dt, df + u, m⟩ : Cg)] else []) ++ (rdp t q2 0 (a + m)).1, (rdp t q2 0 (a + m)).2) else ((if 0 < m then [(⟨dt, df + u, m⟩ : Cg)] else []), ⟨dt, df, dx⟩ :: q2, u + m, a + m) := by rw [rdp, if_pos hat, ← hm]
        have h3' : q2.length = rn := by simpa using h3
        have H2 : Hid (RdOk q2 0 ∧ PcB q2 ∧ RdOk (⟨dt, df, dx⟩ :: q2) (u + m) ∨ True) := Lib.hid (.inr trivial)
        have hq2 : RdOk q2 0 := h5.tail
        have hp2 : PcB q2 := fun c hc => h6 c (List.mem_cons_of_mem _ hc)
        have hq3 : u + m ≠ dx → RdOk (⟨dt, df, dx⟩ :: q2) (u + m) := fun hne => ⟨h5.n1, by omega, fun c r e => by injection e with e1 e2; subst e1; left; simp only; omega, fun e => by cases e⟩
        have X1 := Box.new wr 92 #[.int .i64 dt, .int .i64 df, .int .i64 dx]
        have BQ := HB.out.alloc (.cells #[.int .i64 dt, .int .i64 df, .int .i64 dx] 92)
        have BB := balloc (Below.refl wr.heap.size wr) (.cells #[.int .i64 dt, .int .i64 df, .int .i64 dx] 92)
        have HOL := Lib.hid (own_lt HO.out)
        have t3 : decide (a < t) = true := by simp; exact hat
        have t4 : decide ((0 : Int) < (rn : Int) + 1) = true := by simp <;> omega
        rw [if_pos hat] at hgk
        have wa : IntKind.i64.wrap (dx - u) = dx - u := IntWalk.i64_in _ ⟨by omega, by omega⟩
        have wt : IntKind.i64.wrap (t - a) = t - a := IntWalk.i64_in _ ⟨by omega, by omega⟩
        have wf : IntKind.i64.wrap (df + u) = df + u := IntWalk.i64_in _ ⟨by omega, by omega⟩
        have wam : IntKind.i64.wrap (a + m) = a + m := IntWalk.i64_in _ ⟨by omega, by omega⟩
        have wum : IntKind.i64.wrap (u + m) = u + m := IntWalk.i64_in _ ⟨by omega, by omega⟩
        obtain ⟨A9, cut9, row9⟩ := cut_pcs (cgc (⟨dt, df, dx⟩ :: q2)) (some ad) (rn + 1) rc (by omega) h4 (by rw [cgc_len]; simp; omega)
        have HR9 : Hid (∀ w base, RowL w base (some ad) (cgc (⟨dt, df, dx⟩ :: q2)) → RowL w base A9 (cgc q2)) := Lib.hid row9
        have k2 : k + rn + 2 ≤ 10000 := by rw [if_pos hat] at h7; omega
        have rrc : rn + 1 ≤ rc := h4
        have HH := Lib.hid (And.intro h1 (And.intro h2 (And.intro h3' (And.intro hq2 (And.intro hp2 (And.intro hq3 (And.intro h6 (And.intro h8 e))))))))
        have HHM := Lib.hid (And.intro hmt (show (if t - a < dx - u then t - a else dx - u) = m by rw [hm]; split <;> omega))
        clear h1 h2 h3 h4 h5 h6 h7 h8 hn1 hux e h3' H2 hq2 hp2 hq3 row9 HE H hmt hm
        by_cases hmp : 0 < m
        · have tm : decide (0 < m) = true := by simp; exact hmp
          have X1' := X1; have BQ' := BQ
          go_wp2_with fail
          go_upto_region 3 with fail
          refine region_lin (.val (fun v _ => v = .pointer (some ⟨wr.heap.size, 2, none⟩)) :: .val (fun v _ => v = .int .i64 dx) :: .val (fun v _ => v = .pointer (some ⟨Q, 0, none⟩)) :: .val (fun v _ => v = .pointer (some ⟨Q, 0, none⟩)) :: .val (fun v _ => v = .pointer (some ⟨Q, 1, none⟩)) :: .val (fun v _ => v = .int .i64 u) :: .val (fun v _ => v = .int .i64 (dx - u)) :: .val (fun v _ => v = .int .i64 t) :: .val (fun v _ => v = .pointer (some ⟨Q, 0, none⟩)) :: .val (fun v _ => v = .pointer (some ⟨Q, 0, none⟩)) :: .val (fun v _ => v = .pointer (some ⟨Q, 2, none⟩)) :: .val (fun v _ => v = .int .i64 a) :: .val (fun v _ => v = .int .i64 (t - a)) :: .val (fun v _ => v = .int .i64 m) :: .val (fun v _ => v = .int .i64 m) :: [])
            ([] :: [(29, 0)] :: [] :: [(31, 2)] :: [(32, 3)] :: [(33, 4)] :: [(30, 1), (34, 5)] :: [] :: [] :: [(37, 8)] :: [(38, 9)] :: [(39, 10)] :: [(36, 7), (40, 11)] :: [(35, 6), (41, 12)] :: [(42, 13)] :: []) ((0, 0) :: (0, 0) :: (0, 0) :: (0, 0) :: (0, 0) :: (0, 0) :: (0, 0) :: (0, 0) :: (0, 0) :: (0, 0) :: (0, 0) :: (0, 0) :: (0, 0) :: (0, 0) :: (0, 0) :: []) 94 (by kernel_rfl) rfl rfl (by kernel_rfl) ⟨Stab.pure _ _ _, Stab.pure _ _ _, Stab.pure _ _ _, Stab.pure _ _ _, Stab.pure _ _ _, Stab.pure _ _ _, Stab.pure _ _ _, Stab.pure _ _ _, Stab.pure _ _ _, Stab.pure _ _ _, Stab.pure _ _ _, Stab.pure _ _ _, Stab.pure _ _ _, Stab.pure _ _ _, Stab.pure _ _ _, trivial⟩ ⟨?_, ?_, ?_, ?_, ?_, ?_, ?_, ?_, ?_, ?_, ?_, ?_, ?_, ?_, ?_, trivial⟩ ?_
          · intro wx hb
            intro K hK
            go_simp
            exact hK _ _ rfl ⟨rfl, Below.refl _ _⟩
          · intro wx hb
            rintro _ rfl
            intro K hK
            have mm := Box.below (X1') hb (Box.lt (X1'))
            have m0 : wx.cell? ⟨wr.heap.size, 0, none⟩ = some (.int .i64 dt) := mm.cell 0
            have m1 : wx.cell? ⟨wr.heap.size, 1, none⟩ = some (.int .i64 df) := mm.cell 1
            have m2 : wx.cell? ⟨wr.heap.size, 2, none⟩ = some (.int .i64 dx) := mm.cell 2
            clear mm
            go_simp
            exact hK _ _ rfl ⟨rfl, Below.refl _ _⟩
          · intro wx hb
            intro K hK
            go_simp
            exact hK _ _ rfl ⟨rfl, Below.refl _ _⟩
          · intro wx hb
            rintro _ rfl
            intro K hK
            go_simp
            exact hK _ _ rfl ⟨rfl, Below.refl _ _⟩
          · intro wx hb
            rintro _ rfl
            intro K hK
            go_simp
            exact hK _ _ rfl ⟨rfl, Below.refl _ _⟩
          · intro wx hb
            rintro _ rfl
            intro K hK
            have mm := Box.below (BQ') hb (Box.lt (BQ'))
            have m0 : wx.cell? ⟨Q, 0, none⟩ = some (.slice (some ad) (rn + 1) rc) := mm.cell 0
            have m1 : wx.cell? ⟨Q, 1, none⟩ = some (.int .i64 u) := mm.cell 1
            have m2 : wx.cell? ⟨Q, 2, none⟩ = some (.int .i64 a) := mm.cell 2
            clear mm
            go_simp
            exact hK _ _ rfl ⟨rfl, Below.refl _ _⟩
          · intro wx hb
            rintro _ rfl
            rintro _ rfl
            intro K hK
            go_simp
            exact hK _ _ rfl ⟨rfl, Below.refl _ _⟩
          · intro wx hb
            intro K hK
            go_simp
            exact hK _ _ rfl ⟨rfl, Below.refl _ _⟩
          · intro wx hb
            intro K hK
            go_simp
            exact hK _ _ rfl ⟨rfl, Below.refl _ _⟩
          · intro wx hb
            rintro _ rfl
            intro K hK
            go_simp
            exact hK _ _ rfl ⟨rfl, Below.refl _ _⟩
          · intro wx hb
            rintro _ rfl
            intro K hK
            go_simp
            exact hK _ _ rfl ⟨rfl, Below.refl _ _⟩
          · intro wx hb
            rintro _ rfl
            intro K hK
            have mm := Box.below (BQ') hb (Box.lt (BQ'))
            have m0 : wx.cell? ⟨Q, 0, none⟩ = some (.slice (some ad) (rn + 1) rc) := mm.cell 0
            have m1 : wx.cell? ⟨Q, 1, none⟩ = some (.int .i64 u) := mm.cell 1
            have m2 : wx.cell? ⟨Q, 2, none⟩ = some (.int .i64 a) := mm.cell 2
            clear mm
            go_simp
            exact hK _ _ rfl ⟨rfl, Below.refl _ _⟩
          · intro wx hb
            rintro _ rfl
            rintro _ rfl
            intro K hK
            go_simp
            exact hK _ _ rfl ⟨rfl, Below.refl _ _⟩
          · intro wx hb
            rintro _ rfl
            rintro _ rfl
            intro K hK
            go_simp; rw [HHM.out.2]; exact hK _ _ rfl ⟨rfl, Below.refl _ _⟩
          · intro wx hb
            rintro _ rfl
            intro K hK
            go_simp
            exact hK _ _ rfl ⟨rfl, Below.refl _ _⟩
          intro w2 B2
          have X1' := Box.below X1' B2 (Box.lt X1')
          have BQ' := Box.below BQ' B2 (Box.lt BQ')
          rintro _ rfl
          rintro _ rfl
          rintro _ rfl
          rintro _ rfl
          rintro _ rfl
          rintro _ rfl
          rintro _ rfl
          rintro _ rfl
          rintro _ rfl
          rintro _ rfl
          rintro _ rfl
          rintro _ rfl
          rintro _ rfl
          rintro _ rfl
          rintro _ rfl
          rintro -
          simp only [Act.put, List.setIfInBounds_toArray, List.set_cons_zero, List.set_cons_succ, List.toList_toArray, List.length_cons, List.length_nil, List.drop_succ_cons, List.drop_zero, List.drop_nil, Nat.zero_add, wpList]
          have BB2 := Lib.hid (BB.trans (B2.mono (by simp)))
          go_wp2_with fail
          go_upto_region 5 with fail
          refine Rt.region_lin (.val (fun v _ => v = .slice A k c) :: .val (fun v _ => v = .pointer (some ⟨wr.heap.size, 0, none⟩)) :: .val (fun v _ => v = .int .i64 dt) :: .val (fun v _ => v = .pointer (some ⟨wr.heap.size, 1, none⟩)) :: .val (fun v _ => v = .int .i64 df) :: .val (fun v _ => v = .pointer (some ⟨Q, 0, none⟩)) :: .val (fun v _ => v = .pointer (some ⟨Q, 0, none⟩)) :: .val (fun v _ => v = .pointer (some ⟨Q, 1, none⟩)) :: .val (fun v _ => v = .int .i64 u) :: .val (fun v _ => v = .int .i64 (df + u)) :: .val (fun v _ => v = .int .i64 m) :: .val (fun v _ => v = .agg #[.int .i64 dt, .int .i64 (df + u), .int .i64 m]) :: .val (Sl 92 [.int .i64 dt, .int .i64 (df + u), .int .i64 m] 1) :: [])
            ([] :: [] :: [(46, 1)] :: [] :: [(48, 3)] :: [] :: [(50, 5)] :: [(51, 6)] :: [(52, 7)] :: [(49, 4), (53, 8)] :: [] :: [(47, 2), (54, 9), (55, 10)] :: [(56, 11)] :: []) ((0, 0) :: (0, 0) :: (0, 0) :: (0, 0) :: (0, 0) :: (0, 0) :: (0, 0) :: (0, 0) :: (0, 0) :: (0, 0) :: (0, 0) :: (0, 0) :: (0, 0) :: []) 94 (by kernel_rfl) rfl rfl (by kernel_rfl) ⟨Stab.pure _ _ _, Stab.pure _ _ _, Stab.pure _ _ _, Stab.pure _ _ _, Stab.pure _ _ _, Stab.pure _ _ _, Stab.pure _ _ _, Stab.pure _ _ _, Stab.pure _ _ _, Stab.pure _ _ _, Stab.pure _ _ _, Stab.pure _ _ _, (Sl.stab (by simp [Rt.tysOf])), trivial⟩ ⟨?_, ?_, ?_, ?_, ?_, ?_, ?_, ?_, ?_, ?_, ?_, ?_, ?_, trivial⟩ ?_
          · intro wx hb
            intro K hK
            go_simp
            exact hK _ _ rfl ⟨rfl, Below.refl _ _⟩
          · intro wx hb
            intro K hK
            go_simp
            exact hK _ _ rfl ⟨rfl, Below.refl _ _⟩
          · intro wx hb
            rintro _ rfl
            intro K hK
            have mm := Box.below (X1') hb (Box.lt (X1'))
            have m0 : wx.cell? ⟨wr.heap.size, 0, none⟩ = some (.int .i64 dt) := mm.cell 0
            have m1 : wx.cell? ⟨wr.heap.size, 1, none⟩ = some (.int .i64 df) := mm.cell 1
            have m2 : wx.cell? ⟨wr.heap.size, 2, none⟩ = some (.int .i64 dx) := mm.cell 2
            clear mm
            go_simp
            exact hK _ _ rfl ⟨rfl, Below.refl _ _⟩
          · intro wx hb
            intro K hK
            go_simp
            exact hK _ _ rfl ⟨rfl, Below.refl _ _⟩
          · intro wx hb
            rintro _ rfl
            intro K hK
            have mm := Box.below (X1') hb (Box.lt (X1'))
            have m0 : wx.cell? ⟨wr.heap.size, 0, none⟩ = some (.int .i64 dt) := mm.cell 0
            have m1 : wx.cell? ⟨wr.heap.size, 1, none⟩ = some (.int .i64 df) := mm.cell 1
            have m2 : wx.cell? ⟨wr.heap.size, 2, none⟩ = some (.int .i64 dx) := mm.cell 2
            clear mm
            go_simp
            exact hK _ _ rfl ⟨rfl, Below.refl _ _⟩
          · intro wx hb
            intro K hK
            go_simp
            exact hK _ _ rfl ⟨rfl, Below.refl _ _⟩
          · intro wx hb
            rintro _ rfl
            intro K hK
            go_simp
            exact hK _ _ rfl ⟨rfl, Below.refl _ _⟩
          · intro wx hb
            rintro _ rfl
            intro K hK
            go_simp
            exact hK _ _ rfl ⟨rfl, Below.refl _ _⟩
          · intro wx hb
            rintro _ rfl
            intro K hK
            have mm := Box.below (BQ') hb (Box.lt (BQ'))
            have m0 : wx.cell? ⟨Q, 0, none⟩ = some (.slice (some ad) (rn + 1) rc) := mm.cell 0
            have m1 : wx.cell? ⟨Q, 1, none⟩ = some (.int .i64 u) := mm.cell 1
            have m2 : wx.cell? ⟨Q, 2, none⟩ = some (.int .i64 a) := mm.cell 2
            clear mm
            go_simp
            exact hK _ _ rfl ⟨rfl, Below.refl _ _⟩
          · intro wx hb
            rintro _ rfl
            rintro _ rfl
            intro K hK
            go_simp
            exact hK _ _ rfl ⟨rfl, Below.refl _ _⟩
          · intro wx hb
            intro K hK
            go_simp
            exact hK _ _ rfl ⟨rfl, Below.refl _ _⟩
          · intro wx hb
            rintro _ rfl
            rintro _ rfl
            rintro _ rfl
            intro K hK
            go_simp
            exact hK _ _ rfl ⟨rfl, Below.refl _ _⟩
          · intro wx hb
            rintro _ rfl
            intro K hK
            go_simp; exact hK _ _ rfl ⟨Sl.fresh _ _ #[.int .i64 dt, .int .i64 (df + u), .int .i64 m] 1 1, balloc (Below.refl _ _) _⟩
          intro w3 B3
          have X1' := Box.below X1' B3 (Box.lt X1')
          have BQ' := Box.below BQ' B3 (Box.lt BQ')
          rintro _ rfl
          rintro _ rfl
          rintro _ rfl
          rintro _ rfl
          rintro _ rfl
          rintro _ rfl
          rintro _ rfl
          rintro _ rfl
          rintro _ rfl
          rintro _ rfl
          rintro _ rfl
          rintro _ rfl
          intro v57 h57
          rintro -
          simp only [Act.put, List.setIfInBounds_toArray, List.set_cons_zero, List.set_cons_succ, List.toList_toArray, List.length_cons, List.length_nil, List.drop_succ_cons, List.drop_zero, List.drop_nil, Nat.zero_add]
          have BB3 := Lib.hid (BB2.out.trans (B3.mono BB2.out.size))
          obtain ⟨A7, c7, rfl, r7⟩ := h57.row
          have HR7 := Lib.hid r7
          have HO3 := Lib.hid (own_below HO.out BB3.out)
          have FR3 := Lib.hid (FR.out.below BB3.out)
          have RL3 := Lib.hid (HR.out.below (BB3.out.mono (by have := FR.out.size; have := HN.out; omega)))
          have HX3 := Lib.hid X1'; have HBQ3 := Lib.hid BQ'
          have HNE : Hid (wr.heap.size ≠ Q) := Lib.hid (by omega)
          have HN3 : Hid (N0 ≤ w3.heap.size) := Lib.hid (by have := BB3.out.size; have := FR.out.size; have := HN.out; omega)
          clear B3 B2 BB2 X1' BQ' X1 BQ BB r7 h57 HO FR HR HB b0 b1 b2 f0 f1 f2 c0 c1 c2
          go_wp2_with (refine wpList_app _ (by rfl) (.tmp 45) (.tmp 57) _ rfl N0 92 i0_ _ 3 24 Try.underlying93 HI.out HZ.out HZ1.out HZ2.out rfl (by omega) (.slice A k c) k (cgc res) rfl HO3.out A7 1 c7 (cgc [⟨dt, df + u, m⟩]) rfl rfl HR7.out (cgc_one _) (by simp only [maxLen]; omega) (by omega) HN3.out ?_)
          intro A8 c8 w8 own8 gr8 at8
          rw [← cgc_app] at own8
          have HO8 := Lib.hid own8
          have BQ8 := box_grown3 HBQ3.out HO3.out (by decide) gr8
          have X8 := HX3.out.grown gr8 (fun e => by have := HOL.out _ e; omega)
          have FR8 := Lib.hid (FR3.out.grown gr8 HH.out.2.2.2.2.2.2.2.1)
          have RL8 := Lib.hid (RL3.out.below (below_grown (Below.refl N0 w3) HO3.out (Nat.le_refl _) HN3.out gr8))
          have HAT : Hid (∀ j, (Value.slice A8 (k + 1) c8).ownBlock = some j → row = some j ∨ w.heap.size ≤ j) := Lib.hid fun j hj => by
            rcases at8 with at8 | at8
            · rw [at8] at hj; exact HH.out.2.2.2.2.2.2.2.1 j hj
            · rw [at8] at hj; injection hj with hj; right; rw [← hj]; exact FR3.out.size
          have HN9 : Hid (N0 ≤ w8.heap.size) := Lib.hid (Nat.le_trans HN3.out gr8.size)
          clear own8 gr8 at8 HO3 FR3 RL3 HX3 HBQ3 HR7
          have q8 := BQ8.cell 0; have q9 := BQ8.cell 1; have q10 := BQ8.cell 2; have g8 := BQ8.free 0; have g9 := BQ8.free 1; have g10 := BQ8.free 2
          simp only [List.getElem?_toArray, List.getElem?_cons_zero, List.getElem?_cons_succ] at q8 q9 q10
          have bl8 := BQ8.lt
          have BQ9 : Box ((w8.setCell ⟨Q, 2, none⟩ (.int .i64 (a + m))).setCell ⟨Q, 1, none⟩ (.int .i64 (u + m))) Q 134 #[.slice (some ad) (rn + 1) rc, .int .i64 (u + m), .int .i64 (a + m)] := (BQ8.set_ 2 (.int .i64 (a + m))).set_ 1 (.int .i64 (u + m))
          have X9 := (X8.far (p := ⟨Q, 2, none⟩) HNE.out (.int .i64 (a + m))).far (p := ⟨Q, 1, none⟩) HNE.out (.int .i64 (u + m))
          have FR9 := Lib.hid ((FR8.out.set 2 (.int .i64 (a + m))).set 1 (.int .i64 (u + m)))
          have OW9 := Lib.hid (own_setBox (own_setBox HO8.out BQ8 (by decide) 2 (.int .i64 (a + m))) (BQ8.set_ 2 (.int .i64 (a + m))) (by decide) 1 (.int .i64 (u + m)))
          have RL9 := Lib.hid (RL8.out.below ((((Below.refl N0 _).setCell (p := ⟨Q, 2, none⟩) HQ.out (.int .i64 (a + m))).setCell (p := ⟨Q, 1, none⟩) HQ.out (.int .i64 (u + m)))))
          have BQ9' := BQ9
          go_wp2_with fail
          replace HN9 : Hid (N0 ≤ ((w8.setCell ⟨Q, 2, none⟩ (.int .i64 (a + m))).setCell ⟨Q, 1, none⟩ (.int .i64 (u + m))).heap.size) := Lib.hid (by simp [World.setCell]; exact HN9.out)
          clear q8 q9 q10 g8 g9 g10 bl8 BQ8 X8 HO8 FR8 RL8
          by_cases hw : u + m = dx
          · have te : (u + m == dx) = true := by simp; exact hw
            have HW := Lib.hid hw
            clear hw

            go_upto_region 8 with fail
            refine region_lin (.val (fun v _ => v = .pointer (some ⟨Q, 0, none⟩)) :: .val (fun v _ => v = .pointer (some ⟨Q, 0, none⟩)) :: .val (fun v _ => v = .pointer (some ⟨Q, 1, none⟩)) :: .val (fun v _ => v = .int .i64 (u + m)) :: .val (fun v _ => v = .pointer (some ⟨wr.heap.size, 2, none⟩)) :: .val (fun v _ => v = .int .i64 dx) :: .val (fun v _ => v = .bool true) :: [])
              ([] :: [(75, 0)] :: [(76, 1)] :: [(77, 2)] :: [] :: [(79, 4)] :: [(78, 3), (80, 5)] :: []) ((0, 0) :: (0, 0) :: (0, 0) :: (0, 0) :: (0, 0) :: (0, 0) :: (0, 0) :: []) 94 (by kernel_rfl) rfl rfl (by kernel_rfl) ⟨Stab.pure _ _ _, Stab.pure _ _ _, Stab.pure _ _ _, Stab.pure _ _ _, Stab.pure _ _ _, Stab.pure _ _ _, Stab.pure _ _ _, trivial⟩ ⟨?_, ?_, ?_, ?_, ?_, ?_, ?_, trivial⟩ ?_
            · intro wx hb
              intro K hK
              go_simp
              exact hK _ _ rfl ⟨rfl, Below.refl _ _⟩
            · intro wx hb
              rintro _ rfl
              intro K hK
              go_simp
              exact hK _ _ rfl ⟨rfl, Below.refl _ _⟩
            · intro wx hb
              rintro _ rfl
              intro K hK
              go_simp
              exact hK _ _ rfl ⟨rfl, Below.refl _ _⟩
            · intro wx hb
              rintro _ rfl
              intro K hK
              have mm := Box.below (BQ9') hb (Box.lt (BQ9'))
              have m0 : wx.cell? ⟨Q, 0, none⟩ = some (.slice (some ad) (rn + 1) rc) := mm.cell 0
              have m1 : wx.cell? ⟨Q, 1, none⟩ = some (.int .i64 (u + m)) := mm.cell 1
              have m2 : wx.cell? ⟨Q, 2, none⟩ = some (.int .i64 (a + m)) := mm.cell 2
              clear mm
              go_simp
              exact hK _ _ rfl ⟨rfl, Below.refl _ _⟩
            · intro wx hb
              intro K hK
              go_simp
              exact hK _ _ rfl ⟨rfl, Below.refl _ _⟩
            · intro wx hb
              rintro _ rfl
              intro K hK
              have mm := Box.below (X9) hb (Box.lt (X9))
              have m0 : wx.cell? ⟨wr.heap.size, 0, none⟩ = some (.int .i64 dt) := mm.cell 0
              have m1 : wx.cell? ⟨wr.heap.size, 1, none⟩ = some (.int .i64 df) := mm.cell 1
              have m2 : wx.cell? ⟨wr.heap.size, 2, none⟩ = some (.int .i64 dx) := mm.cell 2
              clear mm
              go_simp
              exact hK _ _ rfl ⟨rfl, Below.refl _ _⟩
            · intro wx hb
              rintro _ rfl
              rintro _ rfl
              intro K hK
              go_simp
              exact hK _ _ rfl ⟨rfl, Below.refl _ _⟩
            intro w10 B10
            have BQ9' := Box.below BQ9' B10 (Box.lt BQ9')
            rintro _ rfl
            rintro _ rfl
            rintro _ rfl
            rintro _ rfl
            rintro _ rfl
            rintro _ rfl
            rintro _ rfl
            rintro -
            simp only [Act.put, List.setIfInBounds_toArray, List.set_cons_zero, List.set_cons_succ, List.toList_toArray, List.length_cons, List.length_nil, List.drop_succ_cons, List.drop_zero, List.drop_nil, Nat.zero_add, wpList]
            have FR10 := Lib.hid (FR9.out.below B10)
            have OW10 := Lib.hid (own_below OW9.out B10)
            have RL10 := Lib.hid (RL9.out.below (B10.mono HN9.out))
            have HN10 : Hid (N0 ≤ w10.heap.size) := Lib.hid (Nat.le_trans HN9.out B10.size)
            clear FR9 OW9 RL9 B10 BQ9 X9

            have p0 := BQ9'.cell 0; have p1 := BQ9'.cell 1; have p2 := BQ9'.cell 2; have r0 := BQ9'.free 0; have r1 := BQ9'.free 1; have r2 := BQ9'.free 2
            simp only [List.getElem?_toArray, List.getElem?_cons_zero, List.getElem?_cons_succ] at p0 p1 p2
            have pl := BQ9'.lt
            have BQ11 : Hid (Box ((w10.setCell ⟨Q, 0, none⟩ (.slice A9 rn (rc - 1))).setCell ⟨Q, 1, none⟩ (.int .i64 0)) Q 134 #[.slice A9 rn (rc - 1), .int .i64 0, .int .i64 (a + m)]) := Lib.hid ((BQ9'.set_ 0 (.slice A9 rn (rc - 1))).set_ 1 (.int .i64 0))
            have FR11 := Lib.hid ((FR10.out.set 0 (.slice A9 rn (rc - 1))).set 1 (.int .i64 0))
            have OW11 := Lib.hid (own_setBox (own_setBox OW10.out BQ9' (by decide) 0 (.slice A9 rn (rc - 1))) (BQ9'.set_ 0 (.slice A9 rn (rc - 1))) (by decide) 1 (.int .i64 0))
            have RL11 := Lib.hid (HR9.out _ _ (RL10.out.below (((Below.refl N0 _).setCell (p := ⟨Q, 0, none⟩) HQ.out (.slice A9 rn (rc - 1))).setCell (p := ⟨Q, 1, none⟩) HQ.out (.int .i64 0))))
            have HF : Hid (R = (res ++ [(⟨dt, df + u, m⟩ : Cg)] ++ (rdp t q2 0 (a + m)).1, (rdp t q2 0 (a + m)).2) ∧ (res ++ [(⟨dt, df + u, m⟩ : Cg)]).length = k + 1 ∧ q2.length = rn ∧ rn ≤ rc - 1 ∧ RdOk q2 0 ∧ PcB q2 ∧ k + 1 + rn + (if a + m < t then 1 else 0) ≤ 10000 ∧ (∀ j, (Value.slice A8 (k + 1) c8).ownBlock = some j → row = some j ∨ w.heap.size ≤ j)) := Lib.hid (by
              obtain ⟨h1, h2, h3, h4, h5, h6, h7, h8, e⟩ := HH.out
              rw [e, if_pos HW.out, if_pos hmp] at h1
              exact ⟨by rw [h1]; simp, by simp [h2], h3, by omega, h4, h5, by split <;> omega, HAT.out⟩)
            clear BQ9' FR10 OW10 RL10 HH HAT HHM HN10
            go_wp2_with fail
            go_roundg (2 * rn + (if a + m < t then 1 else 0))
            case measure => split <;> omega
            case rel => exact ⟨q2, 0, a + m, res ++ [(⟨dt, df + u, m⟩ : Cg)], k + 1, c8, rn, rc - 1, A8, A9, rfl, rfl, by omega, by omega, by omega, HF, BQ11, RL11, OW11, FR11⟩
          · have te : (u + m == dx) = false := by simp; exact hw
            have HW := Lib.hid hw
            clear hw

            go_upto_region 8 with fail
            refine region_lin (.val (fun v _ => v = .pointer (some ⟨Q, 0, none⟩)) :: .val (fun v _ => v = .pointer (some ⟨Q, 0, none⟩)) :: .val (fun v _ => v = .pointer (some ⟨Q, 1, none⟩)) :: .val (fun v _ => v = .int .i64 (u + m)) :: .val (fun v _ => v = .pointer (some ⟨wr.heap.size, 2, none⟩)) :: .val (fun v _ => v = .int .i64 dx) :: .val (fun v _ => v = .bool false) :: [])
              ([] :: [(75, 0)] :: [(76, 1)] :: [(77, 2)] :: [] :: [(79, 4)] :: [(78, 3), (80, 5)] :: []) ((0, 0) :: (0, 0) :: (0, 0) :: (0, 0) :: (0, 0) :: (0, 0) :: (0, 0) :: []) 94 (by kernel_rfl) rfl rfl (by kernel_rfl) ⟨Stab.pure _ _ _, Stab.pure _ _ _, Stab.pure _ _ _, Stab.pure _ _ _, Stab.pure _ _ _, Stab.pure _ _ _, Stab.pure _ _ _, trivial⟩ ⟨?_, ?_, ?_, ?_, ?_, ?_, ?_, trivial⟩ ?_
            · intro wx hb
              intro K hK
              go_simp
              exact hK _ _ rfl ⟨rfl, Below.refl _ _⟩
            · intro wx hb
              rintro _ rfl
              intro K hK
              go_simp
              exact hK _ _ rfl ⟨rfl, Below.refl _ _⟩
            · intro wx hb
              rintro _ rfl
              intro K hK
              go_simp
              exact hK _ _ rfl ⟨rfl, Below.refl _ _⟩
            · intro wx hb
              rintro _ rfl
              intro K hK
              have mm := Box.below (BQ9') hb (Box.lt (BQ9'))
              have m0 : wx.cell? ⟨Q, 0, none⟩ = some (.slice (some ad) (rn + 1) rc) := mm.cell 0
              have m1 : wx.cell? ⟨Q, 1, none⟩ = some (.int .i64 (u + m)) := mm.cell 1
              have m2 : wx.cell? ⟨Q, 2, none⟩ = some (.int .i64 (a + m)) := mm.cell 2
              clear mm
              go_simp
              exact hK _ _ rfl ⟨rfl, Below.refl _ _⟩
            · intro wx hb
              intro K hK
              go_simp
              exact hK _ _ rfl ⟨rfl, Below.refl _ _⟩
            · intro wx hb
              rintro _ rfl
              intro K hK
              have mm := Box.below (X9) hb (Box.lt (X9))
              have m0 : wx.cell? ⟨wr.heap.size, 0, none⟩ = some (.int .i64 dt) := mm.cell 0
              have m1 : wx.cell? ⟨wr.heap.size, 1, none⟩ = some (.int .i64 df) := mm.cell 1
              have m2 : wx.cell? ⟨wr.heap.size, 2, none⟩ = some (.int .i64 dx) := mm.cell 2
              clear mm
              go_simp
              exact hK _ _ rfl ⟨rfl, Below.refl _ _⟩
            · intro wx hb
              rintro _ rfl
              rintro _ rfl
              intro K hK
              go_simp
              exact hK _ _ rfl ⟨rfl, Below.refl _ _⟩
            intro w10 B10
            have BQ9' := Box.below BQ9' B10 (Box.lt BQ9')
            rintro _ rfl
            rintro _ rfl
            rintro _ rfl
            rintro _ rfl
            rintro _ rfl
            rintro _ rfl
            rintro _ rfl
            rintro -
            simp only [Act.put, List.setIfInBounds_toArray, List.set_cons_zero, List.set_cons_succ, List.toList_toArray, List.length_cons, List.length_nil, List.drop_succ_cons, List.drop_zero, List.drop_nil, Nat.zero_add, wpList]
            have FR10 := Lib.hid (FR9.out.below B10)
            have OW10 := Lib.hid (own_below OW9.out B10)
            have RL10 := Lib.hid (RL9.out.below (B10.mono HN9.out))
            have HN10 : Hid (N0 ≤ w10.heap.size) := Lib.hid (Nat.le_trans HN9.out B10.size)
            clear FR9 OW9 RL9 B10 BQ9 X9

            have BQ11 := Lib.hid BQ9'
            have HF : Hid (R = (res ++ [(⟨dt, df + u, m⟩ : Cg)] ++ (rdp t (⟨dt, df, dx⟩ :: q2) (u + m) (a + m)).1, (rdp t (⟨dt, df, dx⟩ :: q2) (u + m) (a + m)).2) ∧ (res ++ [(⟨dt, df + u, m⟩ : Cg)]).length = k + 1 ∧ (⟨dt, df, dx⟩ :: q2 : List Cg).length = rn + 1 ∧ rn + 1 ≤ rc ∧ RdOk (⟨dt, df, dx⟩ :: q2) (u + m) ∧ PcB (⟨dt, df, dx⟩ :: q2) ∧ k + 1 + (rn + 1) + (if a + m < t then 1 else 0) ≤ 10000 ∧ (∀ j, (Value.slice A8 (k + 1) c8).ownBlock = some j → row = some j ∨ w.heap.size ≤ j)) := Lib.hid (by
              obtain ⟨h1, h2, h3, h4, h5, h6, h7, h8, e⟩ := HH.out
              have e2 : rdp t (⟨dt, df, dx⟩ :: q2) (u + m) (a + m) = ([], ⟨dt, df, dx⟩ :: q2, u + m, a + m) := by rw [rdp, if_neg (by have := HHM.out.1 HW.out; omega)]
              rw [e, if_neg HW.out, if_pos hmp] at h1
              rw [e2]
              exact ⟨by rw [h1]; simp, by simp [h2], by simp [h3], rrc, h6 HW.out, h7, by rw [if_neg (by have := HHM.out.1 HW.out; omega)]; omega, HAT.out⟩)
            have hat2 : a + m = t := HHM.out.1 HW.out
            clear BQ9' HH HAT HHM HN10
            go_wp2_with fail
            go_roundg (2 * (rn + 1) + (if a + m < t then 1 else 0))
            case measure => rw [if_neg (by omega)]; omega
            case rel => exact ⟨⟨dt, df, dx⟩ :: q2, u + m, a + m, res ++ [(⟨dt, df + u, m⟩ : Cg)], k + 1, c8, rn + 1, rc, A8, some ad, rfl, rfl, by omega, by omega, by omega, HF, BQ11, RL10, OW10, FR10⟩
        · have tm : decide (0 < m) = false := by simp; omega
          have HZ0 := Lib.hid (show m = 0 by omega)
          clear hmp
          have X1' := X1; have BQ' := BQ
          go_wp2_with fail
          go_upto_region 3 with fail
          refine region_lin (.val (fun v _ => v = .pointer (some ⟨wr.heap.size, 2, none⟩)) :: .val (fun v _ => v = .int .i64 dx) :: .val (fun v _ => v = .pointer (some ⟨Q, 0, none⟩)) :: .val (fun v _ => v = .pointer (some ⟨Q, 0, none⟩)) :: .val (fun v _ => v = .pointer (some ⟨Q, 1, none⟩)) :: .val (fun v _ => v = .int .i64 u) :: .val (fun v _ => v = .int .i64 (dx - u)) :: .val (fun v _ => v = .int .i64 t) :: .val (fun v _ => v = .pointer (some ⟨Q, 0, none⟩)) :: .val (fun v _ => v = .pointer (some ⟨Q, 0, none⟩)) :: .val (fun v _ => v = .pointer (some ⟨Q, 2, none⟩)) :: .val (fun v _ => v = .int .i64 a) :: .val (fun v _ => v = .int .i64 (t - a)) :: .val (fun v _ => v = .int .i64 m) :: .val (fun v _ => v = .int .i64 m) :: [])
            ([] :: [(29, 0)] :: [] :: [(31, 2)] :: [(32, 3)] :: [(33, 4)] :: [(30, 1), (34, 5)] :: [] :: [] :: [(37, 8)] :: [(38, 9)] :: [(39, 10)] :: [(36, 7), (40, 11)] :: [(35, 6), (41, 12)] :: [(42, 13)] :: []) ((0, 0) :: (0, 0) :: (0, 0) :: (0, 0) :: (0, 0) :: (0, 0) :: (0, 0) :: (0, 0) :: (0, 0) :: (0, 0) :: (0, 0) :: (0, 0) :: (0, 0) :: (0, 0) :: (0, 0) :: []) 94 (by kernel_rfl) rfl rfl (by kernel_rfl) ⟨Stab.pure _ _ _, Stab.pure _ _ _, Stab.pure _ _ _, Stab.pure _ _ _, Stab.pure _ _ _, Stab.pure _ _ _, Stab.pure _ _ _, Stab.pure _ _ _, Stab.pure _ _ _, Stab.pure _ _ _, Stab.pure _ _ _, Stab.pure _ _ _, Stab.pure _ _ _, Stab.pure _ _ _, Stab.pure _ _ _, trivial⟩ ⟨?_, ?_, ?_, ?_, ?_, ?_, ?_, ?_, ?_, ?_, ?_, ?_, ?_, ?_, ?_, trivial⟩ ?_
          · intro wx hb
            intro K hK
            go_simp
            exact hK _ _ rfl ⟨rfl, Below.refl _ _⟩
          · intro wx hb
            rintro _ rfl
            intro K hK
            have mm := Box.below (X1') hb (Box.lt (X1'))
            have m0 : wx.cell? ⟨wr.heap.size, 0, none⟩ = some (.int .i64 dt) := mm.cell 0
            have m1 : wx.cell? ⟨wr.heap.size, 1, none⟩ = some (.int .i64 df) := mm.cell 1
            have m2 : wx.cell? ⟨wr.heap.size, 2, none⟩ = some (.int .i64 dx) := mm.cell 2
            clear mm
            go_simp
            exact hK _ _ rfl ⟨rfl, Below.refl _ _⟩
          · intro wx hb
            intro K hK
            go_simp
            exact hK _ _ rfl ⟨rfl, Below.refl _ _⟩
          · intro wx hb
            rintro _ rfl
            intro K hK
            go_simp
            exact hK _ _ rfl ⟨rfl, Below.refl _ _⟩
          · intro wx hb
            rintro _ rfl
            intro K hK
            go_simp
            exact hK _ _ rfl ⟨rfl, Below.refl _ _⟩
          · intro wx hb
            rintro _ rfl
            intro K hK
            have mm := Box.below (BQ') hb (Box.lt (BQ'))
            have m0 : wx.cell? ⟨Q, 0, none⟩ = some (.slice (some ad) (rn + 1) rc) := mm.cell 0
            have m1 : wx.cell? ⟨Q, 1, none⟩ = some (.int .i64 u) := mm.cell 1
            have m2 : wx.cell? ⟨Q, 2, none⟩ = some (.int .i64 a) := mm.cell 2
            clear mm
            go_simp
            exact hK _ _ rfl ⟨rfl, Below.refl _ _⟩
          · intro wx hb
            rintro _ rfl
            rintro _ rfl
            intro K hK
            go_simp
            exact hK _ _ rfl ⟨rfl, Below.refl _ _⟩
          · intro wx hb
            intro K hK
            go_simp
            exact hK _ _ rfl ⟨rfl, Below.refl _ _⟩
          · intro wx hb
            intro K hK
            go_simp
            exact hK _ _ rfl ⟨rfl, Below.refl _ _⟩
          · intro wx hb
            rintro _ rfl
            intro K hK
            go_simp
            exact hK _ _ rfl ⟨rfl, Below.refl _ _⟩
          · intro wx hb
            rintro _ rfl
            intro K hK
            go_simp
            exact hK _ _ rfl ⟨rfl, Below.refl _ _⟩
          · intro wx hb
            rintro _ rfl
            intro K hK
            have mm := Box.below (BQ') hb (Box.lt (BQ'))
            have m0 : wx.cell? ⟨Q, 0, none⟩ = some (.slice (some ad) (rn + 1) rc) := mm.cell 0
            have m1 : wx.cell? ⟨Q, 1, none⟩ = some (.int .i64 u) := mm.cell 1
            have m2 : wx.cell? ⟨Q, 2, none⟩ = some (.int .i64 a) := mm.cell 2
            clear mm
            go_simp
            exact hK _ _ rfl ⟨rfl, Below.refl _ _⟩
          · intro wx hb
            rintro _ rfl
            rintro _ rfl
            intro K hK
            go_simp
            exact hK _ _ rfl ⟨rfl, Below.refl _ _⟩
          · intro wx hb
            rintro _ rfl
            rintro _ rfl
            intro K hK
            go_simp; rw [HHM.out.2]; exact hK _ _ rfl ⟨rfl, Below.refl _ _⟩
          · intro wx hb
            rintro _ rfl
            intro K hK
            go_simp
            exact hK _ _ rfl ⟨rfl, Below.refl _ _⟩
          intro w2 B2
          have X1' := Box.below X1' B2 (Box.lt X1')
          have BQ' := Box.below BQ' B2 (Box.lt BQ')
          rintro _ rfl
          rintro _ rfl
          rintro _ rfl
          rintro _ rfl
          rintro _ rfl
          rintro _ rfl
          rintro _ rfl
          rintro _ rfl
          rintro _ rfl
          rintro _ rfl
          rintro _ rfl
          rintro _ rfl
          rintro _ rfl
          rintro _ rfl
          rintro _ rfl
          rintro -
          simp only [Act.put, List.setIfInBounds_toArray, List.set_cons_zero, List.set_cons_succ, List.toList_toArray, List.length_cons, List.length_nil, List.drop_succ_cons, List.drop_zero, List.drop_nil, Nat.zero_add, wpList]
          have BB2 := Lib.hid (BB.trans (B2.mono (by simp)))
          have HO3 := Lib.hid (own_below HO.out BB2.out)
          have FR8 := Lib.hid (FR.out.below BB2.out)
          have RL8 := Lib.hid (HR.out.below (BB2.out.mono (by have := FR.out.size; have := HN.out; omega)))
          have HO8 := HO3
          have X8 := X1'; have BQ8 := BQ'
          have HNE : Hid (wr.heap.size ≠ Q) := Lib.hid (by omega)
          have HN9 : Hid (N0 ≤ w2.heap.size) := Lib.hid (by have := BB2.out.size; have := FR.out.size; have := HN.out; omega)
          have HAT : Hid (∀ j, (Value.slice A k c).ownBlock = some j → row = some j ∨ w.heap.size ≤ j) := Lib.hid HH.out.2.2.2.2.2.2.2.1
          clear B2 BB2 X1' BQ' X1 BQ BB HO FR HR HB b0 b1 b2 f0 f1 f2 c0 c1 c2 HO3
          have q8 := BQ8.cell 0; have q9 := BQ8.cell 1; have q10 := BQ8.cell 2; have g8 := BQ8.free 0; have g9 := BQ8.free 1; have g10 := BQ8.free 2
          simp only [List.getElem?_toArray, List.getElem?_cons_zero, List.getElem?_cons_succ] at q8 q9 q10
          have bl8 := BQ8.lt
          have BQ9 : Box ((w2.setCell ⟨Q, 2, none⟩ (.int .i64 (a + m))).setCell ⟨Q, 1, none⟩ (.int .i64 (u + m))) Q 134 #[.slice (some ad) (rn + 1) rc, .int .i64 (u + m), .int .i64 (a + m)] := (BQ8.set_ 2 (.int .i64 (a + m))).set_ 1 (.int .i64 (u + m))
          have X9 := (X8.far (p := ⟨Q, 2, none⟩) HNE.out (.int .i64 (a + m))).far (p := ⟨Q, 1, none⟩) HNE.out (.int .i64 (u + m))
          have FR9 := Lib.hid ((FR8.out.set 2 (.int .i64 (a + m))).set 1 (.int .i64 (u + m)))
          have OW9 := Lib.hid (own_setBox (own_setBox HO8.out BQ8 (by decide) 2 (.int .i64 (a + m))) (BQ8.set_ 2 (.int .i64 (a + m))) (by decide) 1 (.int .i64 (u + m)))
          have RL9 := Lib.hid (RL8.out.below ((((Below.refl N0 _).setCell (p := ⟨Q, 2, none⟩) HQ.out (.int .i64 (a + m))).setCell (p := ⟨Q, 1, none⟩) HQ.out (.int .i64 (u + m)))))
          have BQ9' := BQ9
          go_wp2_with fail
          replace HN9 : Hid (N0 ≤ ((w2.setCell ⟨Q, 2, none⟩ (.int .i64 (a + m))).setCell ⟨Q, 1, none⟩ (.int .i64 (u + m))).heap.size) := Lib.hid (by simp [World.setCell]; exact HN9.out)
          clear q8 q9 q10 g8 g9 g10 bl8 BQ8 X8 HO8 FR8 RL8
          by_cases hw : u + m = dx
          · have te : (u + m == dx) = true := by simp; exact hw
            have HW := Lib.hid hw
            clear hw

            go_upto_region 8 with fail
            refine region_lin (.val (fun v _ => v = .pointer (some ⟨Q, 0, none⟩)) :: .val (fun v _ => v = .pointer (some ⟨Q, 0, none⟩)) :: .val (fun v _ => v = .pointer (some ⟨Q, 1, none⟩)) :: .val (fun v _ => v = .int .i64 (u + m)) :: .val (fun v _ => v = .pointer (some ⟨wr.heap.size, 2, none⟩)) :: .val (fun v _ => v = .int .i64 dx) :: .val (fun v _ => v = .bool true) :: [])
              ([] :: [(75, 0)] :: [(76, 1)] :: [(77, 2)] :: [] :: [(79, 4)] :: [(78, 3), (80, 5)] :: []) ((0, 0) :: (0, 0) :: (0, 0) :: (0, 0) :: (0, 0) :: (0, 0) :: (0, 0) :: []) 94 (by kernel_rfl) rfl rfl (by kernel_rfl) ⟨Stab.pure _ _ _, Stab.pure _ _ _, Stab.pure _ _ _, Stab.pure _ _ _, Stab.pure _ _ _, Stab.pure _ _ _, Stab.pure _ _ _, trivial⟩ ⟨?_, ?_, ?_, ?_, ?_, ?_, ?_, trivial⟩ ?_
            · intro wx hb
              intro K hK
              go_simp
              exact hK _ _ rfl ⟨rfl, Below.refl _ _⟩
            · intro wx hb
              rintro _ rfl
              intro K hK
              go_simp
              exact hK _ _ rfl ⟨rfl, Below.refl _ _⟩
            · intro wx hb
              rintro _ rfl
              intro K hK
              go_simp
              exact hK _ _ rfl ⟨rfl, Below.refl _ _⟩
            · intro wx hb
              rintro _ rfl
              intro K hK
              have mm := Box.below (BQ9') hb (Box.lt (BQ9'))
              have m0 : wx.cell? ⟨Q, 0, none⟩ = some (.slice (some ad) (rn + 1) rc) := mm.cell 0
              have m1 : wx.cell? ⟨Q, 1, none⟩ = some (.int .i64 (u + m)) := mm.cell 1
              have m2 : wx.cell? ⟨Q, 2, none⟩ = some (.int .i64 (a + m)) := mm.cell 2
              clear mm
              go_simp
              exact hK _ _ rfl ⟨rfl, Below.refl _ _⟩
            · intro wx hb
              intro K hK
              go_simp
              exact hK _ _ rfl ⟨rfl, Below.refl _ _⟩
            · intro wx hb
              rintro _ rfl
              intro K hK
              have mm := Box.below (X9) hb (Box.lt (X9))
              have m0 : wx.cell? ⟨wr.heap.size, 0, none⟩ = some (.int .i64 dt) := mm.cell 0
              have m1 : wx.cell? ⟨wr.heap.size, 1, none⟩ = some (.int .i64 df) := mm.cell 1
              have m2 : wx.cell? ⟨wr.heap.size, 2, none⟩ = some (.int .i64 dx) := mm.cell 2
              clear mm
              go_simp
              exact hK _ _ rfl ⟨rfl, Below.refl _ _⟩
            · intro wx hb
              rintro _ rfl
              rintro _ rfl
              intro K hK
              go_simp
              exact hK _ _ rfl ⟨rfl, Below.refl _ _⟩
            intro w10 B10
            have BQ9' := Box.below BQ9' B10 (Box.lt BQ9')
            rintro _ rfl
            rintro _ rfl
            rintro _ rfl
            rintro _ rfl
            rintro _ rfl
            rintro _ rfl
            rintro _ rfl
            rintro -
            simp only [Act.put, List.setIfInBounds_toArray, List.set_cons_zero, List.set_cons_succ, List.toList_toArray, List.length_cons, List.length_nil, List.drop_succ_cons, List.drop_zero, List.drop_nil, Nat.zero_add, wpList]
            have FR10 := Lib.hid (FR9.out.below B10)
            have OW10 := Lib.hid (own_below OW9.out B10)
            have RL10 := Lib.hid (RL9.out.below (B10.mono HN9.out))
            have HN10 : Hid (N0 ≤ w10.heap.size) := Lib.hid (Nat.le_trans HN9.out B10.size)
            clear FR9 OW9 RL9 B10 BQ9 X9

            have p0 := BQ9'.cell 0; have p1 := BQ9'.cell 1; have p2 := BQ9'.cell 2; have r0 := BQ9'.free 0; have r1 := BQ9'.free 1; have r2 := BQ9'.free 2
            simp only [List.getElem?_toArray, List.getElem?_cons_zero, List.getElem?_cons_succ] at p0 p1 p2
            have pl := BQ9'.lt
            have BQ11 : Hid (Box ((w10.setCell ⟨Q, 0, none⟩ (.slice A9 rn (rc - 1))).setCell ⟨Q, 1, none⟩ (.int .i64 0)) Q 134 #[.slice A9 rn (rc - 1), .int .i64 0, .int .i64 (a + m)]) := Lib.hid ((BQ9'.set_ 0 (.slice A9 rn (rc - 1))).set_ 1 (.int .i64 0))
            have FR11 := Lib.hid ((FR10.out.set 0 (.slice A9 rn (rc - 1))).set 1 (.int .i64 0))
            have OW11 := Lib.hid (own_setBox (own_setBox OW10.out BQ9' (by decide) 0 (.slice A9 rn (rc - 1))) (BQ9'.set_ 0 (.slice A9 rn (rc - 1))) (by decide) 1 (.int .i64 0))
            have RL11 := Lib.hid (HR9.out _ _ (RL10.out.below (((Below.refl N0 _).setCell (p := ⟨Q, 0, none⟩) HQ.out (.slice A9 rn (rc - 1))).setCell (p := ⟨Q, 1, none⟩) HQ.out (.int .i64 0))))
            have HF : Hid (R = (res ++ (rdp t q2 0 (a + m)).1, (rdp t q2 0 (a + m)).2) ∧ (res).length = k ∧ q2.length = rn ∧ rn ≤ rc - 1 ∧ RdOk q2 0 ∧ PcB q2 ∧ k + rn + (if a + m < t then 1 else 0) ≤ 10000 ∧ (∀ j, (Value.slice A (k) c).ownBlock = some j → row = some j ∨ w.heap.size ≤ j)) := Lib.hid (by
              obtain ⟨h1, h2, h3, h4, h5, h6, h7, h8, e⟩ := HH.out
              rw [e, if_pos HW.out, if_neg (by have := HZ0.out; omega)] at h1
              exact ⟨by rw [h1]; simp, by simp [h2], h3, by omega, h4, h5, by split <;> omega, HAT.out⟩)
            clear BQ9' FR10 OW10 RL10 HH HAT HHM HN10
            go_wp2_with fail
            go_roundg (2 * rn + (if a + m < t then 1 else 0))
            case measure => split <;> omega
            case rel => exact ⟨q2, 0, a + m, res, k, c, rn, rc - 1, A, A9, rfl, rfl, by omega, by omega, by omega, HF, BQ11, RL11, OW11, FR11⟩
          · exact absurd (HHM.out.1 hw) (by have := HZ0.out; omega)
        -- end
      · have HE2 := Lib.hid (HE.out (.inr (by omega)))
        have t3 : decide (a < t) = false := by simp; omega
        have t4 : decide ((0 : Int) < (rn : Int)) = true := by simp; omega
        clear H HB HR HO FR HE
        go_wp2_with fail
        go_ret
        exact HE2.out
end Go.Proofs.Ytolhjkpekmmajaa
/- The walk of patch.replace. -/
namespace Go.Proofs.Ytolhjkpekmmajaa
set_option linter.unusedVariables false
set_option linter.unusedSimpArgs false
open Go.RowKit Go.Lib Go.Maps Go.Deep
attribute [local go_sem ↓] Go.wp_at_zero Go.wp_at_succ
theorem PcV.pcb {M : Int} {L : List En} {T : List (List Int)} {q : List Cg} (h : ∀ c ∈ q, PcV M L T c) (hM : M ≤ 100000) (hL : L.length ≤ 1048576) : PcB q := fun c hc => by
  have k := h c hc
  have f0 := k.f0; have n0 := k.n0; have t0 := k.t0; have t1 := k.t1
  by_cases e : c.ad = 0
  · have := k.w0 e; exact ⟨by omega, by omega, by omega, by omega⟩
  · have := k.w1 e; exact ⟨by omega, by omega, by omega, by omega⟩
theorem own_frq {Q : Nat} {row : Option Nat} {w w' : World} (fr : FrQ Q row w w') {base : Nat} {e : TypeId} {size n : Nat} {v : Value} {xs : List Value} (h : w.ownsRow base e size v n xs) (h1 : v.ownBlock ≠ some Q) (h2 : ∀ k, v.ownBlock = some k → row ≠ some k) : w'.ownsRow base e size v n xs :=
  own_kept2 h fun k hk => fr.keep k (own_lt h k hk) (fun e => h1 (by rw [hk, e])) (h2 k hk)
theorem Box.frq {Q g : Nat} {row : Option Nat} {w w' : World} (fr : FrQ Q row w w') {t : TypeId} {cs : Array Value} (h : Box w g t cs) (h1 : g ≠ Q) (h2 : row ≠ some g) : Box w' g t cs := (fr.keep g h.lt h1 h2).trans h
theorem own_nil_pc (w : World) (b : Nat) (e : TypeId) (size : Nat) : w.ownsRow b e size (.slice none 0 0) 0 [] := ⟨by simp, .inl ⟨rfl, rfl⟩⟩
def RplOut (q : List Cg) (w : World) (e : Ending) (w' : World) : Prop := ∃ A c, e = .returned (.tuple #[.slice A q.length c, .nilIface]) ∧ Below w.heap.size w w' ∧ w'.ownsRow w.heap.size 92 3 (.slice A q.length c) q.length (cgc q)
set_option maxRecDepth 100000 in
set_option maxHeartbeats 32000000 in
theorem prepl_any (L : List En) (T : List (List Int)) (hg : Good L T) (N : Nat) (hN : N ≤ 100000) (M : Int) (hM : M ≤ 100000) (q : List Cg) (hX : (exl q).length = N) (hv : ∀ c ∈ q, PcV M L T c) (p : List Cg) (hp : POk N L.length p) (h20 : ∀ c ∈ p, (tx T c.x).length ≤ 20)
    (qn qc : Nat) (QA : Option Addr) (hqn : q.length = qn) (hqc : qn ≤ qc) (hqb : qn ≤ 1000) (pn pc : Nat) (PA : Option Addr) (hpn : p.length = pn) (hpb : pn ≤ 1000) (B S G : Nat) (w : World) (st : St w B S G L) (hq : RowAt w QA (cgc q)) (hpr : RowAt w PA (cgc p)) :
    Calls Try.prog 27 #[.pointer (some ⟨S, 0, none⟩), .slice QA qn qc, .slice PA pn pc] w (RplOut (rpl T q p) w) := by
  obtain ⟨i0_, hi0, hz0, hz1, hz2⟩ := info_parts5 info_piece
  have HI := Lib.hid hi0; have HZ := Lib.hid hz0; have HZ1 := Lib.hid hz1; have HZ2 := Lib.hid hz2
  have HG := Lib.hid hg; have HX := Lib.hid hX; have HV := Lib.hid hv; have HP := Lib.hid hp; have H20 := Lib.hid h20; have HST := Lib.hid st; have HPR := Lib.hid hpr
  have HQN := Lib.hid hqn; have HPN := Lib.hid hpn; have HM := Lib.hid hM
  have BW0 := Lib.hid (balloc (Below.refl w.heap.size w) (.cells #[.slice QA qn qc, .int .i64 0, .int .i64 0] 134))
  have BX0 := Lib.hid (Box.new w 134 #[.slice QA qn qc, .int .i64 0, .int .i64 0])
  have RL0 : Hid (RowL (w.alloc (.cells #[.slice QA qn qc, .int .i64 0, .int .i64 0] 134)) w.heap.size QA (cgc q)) := Lib.hid (RowL.below ⟨hq, fun hne ad e => by
    obtain ⟨x, xs, e2⟩ := List.exists_cons_of_ne_nil hne
    obtain ⟨a2, e3, hl, _⟩ := hq.get (k := 0) (u := x) (by rw [e2]; rfl)
    rw [e] at e3; cases e3; exact hl⟩ BW0.out)
  have HI0 := Lib.hid (rpi_start (L := L) (T := T) hv hp)
  obtain ⟨Q, hQ⟩ : ∃ Q, Q = w.heap.size := ⟨_, rfl⟩
  rw [← hQ] at BX0
  have HQ := Lib.hid hQ.symm
  have hqb0 := hqb
  clear hi0 hz0 hz1 hz2 hg hX hv hp h20 st hq hpr hqn hpn hM hQ
  go_enter Try.func27, Try.ntmps27
  go_wp2_with fail
  rw [HQ.out]
  go_loopw [8, 11, 12, 13, 18] (fun s8 _ _ _ s18 wr => ∃ (i f k c rn rc : Nat) (u a : Int) (A RA : Option Addr) (r1 r2 : List Cg), s18 = .int .i64 (i : Int) ∧ i ≤ pn ∧ s8 = .slice A k c ∧ k ≤ 9000 ∧ Hid (rpk T q p i = (r1, r2, u, a) ∧ RpI N M L T q p i f (r1, r2, u, a) ∧ r1.length = k ∧ r2.length = rn ∧ rn ≤ rc) ∧
     Hid (Below w.heap.size w wr) ∧ Hid (Box wr Q 134 #[.slice RA rn rc, .int .i64 u, .int .i64 a]) ∧ Hid (RowL wr w.heap.size RA (cgc r2)) ∧ Hid (wr.ownsRow w.heap.size 92 3 (.slice A k c) k (cgc r1))) (fun _ _ _ _ s18 _ => pn - (intOf s18).toNat)
  case atStart => exact ⟨0, 0, 0, 0, qn, qc, 0, 0, none, QA, [], q, rfl, by omega, rfl, by omega, Lib.hid ⟨rpk_zero T q p, by have := HI0.out; rw [rpk_zero] at this; exact this, rfl, HQN.out, hqc⟩, BW0, BX0, RL0, Lib.hid (own_nil_pc _ _ _ _)⟩
  case round =>
    clear BW0 BX0 RL0 HI0
    obtain ⟨i, f, k, c, rn, rc, u, a, A, RA, r1, r2, rfl, hi, rfl, hk9, H, BW, BX, RL, OW⟩ := hrel
    have HIA : Hid ((a : Int) = f ∧ f ≤ N ∧ k + rn ≤ qn + 3 * i) := Lib.hid ⟨H.out.2.1.a, H.out.2.1.ord.le, by have := H.out.2.1.ct; rw [← HQN.out, ← H.out.2.2.1, ← H.out.2.2.2.1]; exact this⟩
    by_cases hlt : i < pn
    · have hil : i < p.length := by rw [HPN.out]; exact hlt
      have hc := List.getElem?_eq_getElem hil
      obtain ⟨k1, k2, k3, k4, x0, x1, k7⟩ := HP.out i _ hc
      have h20 := H20.out _ (List.getElem_mem hil)
      obtain ⟨hst1, hst2, hst3, hst4⟩ := rpi_step HX.out H.out.2.1 hc x0 x1 h20
      have hrk := rpk_succ T q hc
      rw [H.out.1] at hrk
      simp only at hst2 hst3 hst4
      obtain ⟨d, hd⟩ : ∃ d, d = p[i] := ⟨_, rfl⟩
      rw [← hd] at hc k2 k3 k4 x0 x1 h20 hst1 hst2 hst3 hst4 hrk
      obtain ⟨ad, rfl, adl, c0, c1, c2⟩ := row_cg (HPR.out.below BW.out (Nat.le_refl _)) hc
      obtain ⟨da, dn_, dx⟩ := d
      simp only at c0 c1 c2 k2 k3 k4 x0 x1 h20 hst1 hst2 hst3 hst4
      have HSz := Lib.hid (fun w st => psize_any L T HG.out dx x0 x1 B S G w st)
      obtain ⟨y, hy⟩ : ∃ y, y = (tx T dx).length := ⟨_, rfl⟩
      rw [← hy] at HSz h20
      have hia := HIA.out
      have HR1 := Lib.hid (fun w1 h0 hB hR hO => pread_any w.heap.size Q (by rw [HQ.out]; exact Nat.le_refl _) da k2 (by omega) r2 u a H.out.2.1.rd (PcV.pcb H.out.2.1.v2 HM.out HG.out.cap) (by omega) (by omega) r1 k c A H.out.2.2.1 (by rw [H.out.2.2.2.1]; omega) rn rc RA H.out.2.2.2.1 H.out.2.2.2.2 w1 h0 hB hR hO)
      obtain ⟨P1, P2, v, b, hR1⟩ : ∃ P1 P2 v b, rdp da r2 u a = (P1, P2, v, b) := ⟨_, _, _, _, rfl⟩
      have hcn := rdp_count (t := da) r2 u a
      have hal := rdp_all (t := da) r2 u a
      rw [hR1] at HR1 hst3 hst4 hcn hal
      simp only at hst3 hst4 hcn hal
      subst hst4
      obtain ⟨n1, hn1⟩ : ∃ n1, n1 = (r1 ++ P1).length := ⟨_, rfl⟩
      obtain ⟨m1, hm1⟩ : ∃ m1, m1 = P2.length := ⟨_, rfl⟩
      have hn1' : n1 = k + P1.length := by rw [hn1, List.length_append, H.out.2.2.1]
      have hpc2 : PcB P2 := fun c hc => PcV.pcb H.out.2.1.v2 HM.out HG.out.cap c (hal c hc)
      have HR2 := Lib.hid (fun rc RA hrc w1 h0 hB hR hO => pread_any w.heap.size Q (by rw [HQ.out]; exact Nat.le_refl _) (b + dn_) (by omega) (by omega) P2 v b hst3 hpc2 k2 (by omega) [] 0 0 none rfl (by have := H.out.2.2.2.1; omega) m1 rc RA hm1.symm hrc w1 h0 hB hR hO)
      obtain ⟨S1, S2, v2, b2, hR2⟩ : ∃ S1 S2 v2 b2, rdp (b + dn_) P2 v b = (S1, S2, v2, b2) := ⟨_, _, _, _, rfl⟩
      rw [hR2] at HR2
      obtain ⟨m2, hm2⟩ : ∃ m2, m2 = S2.length := ⟨_, rfl⟩
      have hrk2 : rpk T q p (i + 1) = (r1 ++ P1 ++ (if 0 < (y : Int) then [⟨dx, 0, (y : Int)⟩] else []), S2, v2, b2) := by
        rw [hrk]; unfold rpS; simp only [hR1, hR2, ← hy]
      rw [← hrk, hrk2] at hst1
      have HR1' : Hid (∀ w1, w.heap.size ≤ w1.heap.size → Box w1 Q 134 #[.slice RA rn rc, .int .i64 u, .int .i64 a] → RowL w1 w.heap.size RA (cgc r2) → w1.ownsRow w.heap.size 92 3 (.slice A k c) k (cgc r1) →
          Calls Try.prog 42 #[.pointer (some ⟨Q, 0, none⟩), .slice A k c, .int .i64 b] w1 fun e w' => ∃ A' c' RA' rc', e = .returned (.slice A' n1 c') ∧ Box w' Q 134 #[.slice RA' m1 rc', .int .i64 v, .int .i64 b] ∧ RowL w' w.heap.size RA' (cgc P2) ∧ m1 ≤ rc' ∧ w'.ownsRow w.heap.size 92 3 (.slice A' n1 c') n1 (cgc (r1 ++ P1)) ∧ FrQ Q (Value.slice A k c).ownBlock w1 w') := by rw [hn1, hm1]; exact HR1
      have HR2' : Hid (∀ rc RA, m1 ≤ rc → ∀ w1, w.heap.size ≤ w1.heap.size → Box w1 Q 134 #[.slice RA m1 rc, .int .i64 v, .int .i64 b] → RowL w1 w.heap.size RA (cgc P2) → w1.ownsRow w.heap.size 92 3 (.slice none 0 0) 0 (cgc []) →
          Calls Try.prog 42 #[.pointer (some ⟨Q, 0, none⟩), .slice none 0 0, .int .i64 (b + dn_)] w1 fun e w' => ∃ A' c' RA' rc', e = .returned (.slice A' S1.length c') ∧ Box w' Q 134 #[.slice RA' m2 rc', .int .i64 v2, .int .i64 b2] ∧ RowL w' w.heap.size RA' (cgc S2) ∧ m2 ≤ rc' ∧ w'.ownsRow w.heap.size 92 3 (.slice A' S1.length c') S1.length (cgc S1) ∧ FrQ Q none w1 w') := by rw [hm2]; exact HR2
      have HN1 : Hid (m2 = S2.length ∧ n1 = (r1 ++ P1).length) := Lib.hid ⟨hm2, hn1⟩
      have HRK := Lib.hid hrk2
      have HS1 := Lib.hid hst1
      have n1b : n1 ≤ 8900 := by have := H.out.2.2.2.1; omega
      have yb : y ≤ 20 := h20
      have dab : b ≤ 100000 := by omega
      have dnb : dn_ ≤ 100000 := by omega
      have da0 : 0 ≤ b := k2
      have dn0 : 0 ≤ dn_ := k3
      have B1 := Lib.hid (balloc BW.out (.cells #[.int .i64 b, .int .i64 dn_, .int .i64 dx] 71))
      have X1 := Lib.hid (Box.new wr 71 #[.int .i64 b, .int .i64 dn_, .int .i64 dx])
      have BX1 := Lib.hid (BX.out.alloc (.cells #[.int .i64 b, .int .i64 dn_, .int .i64 dx] 71))
      have RL1 := Lib.hid (RL.out.below ((Below.refl w.heap.size wr).alloc BW.out.size (.cells #[.int .i64 b, .int .i64 dn_, .int .i64 dx] 71)))
      have OW1 := Lib.hid (own_alloc OW.out (.cells #[.int .i64 b, .int .i64 dn_, .int .i64 dx] 71))
      have OL := Lib.hid (own_lt OW.out)
      have OG := Lib.hid (own_ge OW.out)
      have HSA := Lib.hid (HST.out.below B1.out)
      have HQL : Hid (Q < wr.heap.size) := Lib.hid BX.out.lt
      clear hil hc hd k1 k4 k7 x0 x1 hst1 hst2 hst3 hrk hrk2 hR1 hR2 HR1 HR2 hcn hal hpc2 hn1 hm1 hm2 hn1' hia hy k2 k3 H BX RL OW
      have wbd : IntKind.i64.wrap (b + dn_) = b + dn_ := IntWalk.i64_in _ ⟨by omega, by omega⟩
      go_wp2_with fail
      (with_reducible refine (HSz.out _ HSA.out).mono ?_)
      rintro e w2 ⟨rfl, B2⟩
      have BW2 := Lib.hid (bkeep B1.out B2)
      have X2 := X1.out.below B2 X1.out.lt
      have BX2 := Lib.hid (BX1.out.below B2 BX1.out.lt)
      have RL2 := Lib.hid (RL1.out.below (B2.mono B1.out.size))
      have OW2 := Lib.hid (own_below OW1.out B2)
      have HX2 := Lib.hid X2
      have z0 := X2.cell 0; have z1 := X2.cell 1; have z2 := X2.cell 2
      simp only [List.getElem?_toArray, List.getElem?_cons_zero, List.getElem?_cons_succ] at z0 z1 z2
      have z3 := X2.lt
      clear B2 B1 X1 BX1 RL1 OW1 HSA HSz X2
      go_wp2_with fail
      (with_reducible refine (HR1'.out _ BW2.out.size BX2.out RL2.out OW2.out).mono ?_)
      rintro e w3 ⟨A3, c3, RA3, rc3, rfl, bx3, rl3, hm3, ow3, fr3⟩
      have B3 := fr3.low (N0 := w.heap.size) (by rw [HQ.out]; exact Nat.le_refl _) OG.out BW2.out.size
      have BW3 := Lib.hid (BW2.out.trans B3)
      have X3 := HX2.out.frq fr3 (by have := HQL.out; omega) (fun e => by have := OL.out _ e; omega)
      have BX3 := Lib.hid bx3; have RL3 := Lib.hid rl3; have OW3 := Lib.hid ow3; have HX3 := Lib.hid X3
      have HM3 := Lib.hid hm3
      clear z0 z1 z2 z3
      have z0 := X3.cell 0; have z1 := X3.cell 1; have z2 := X3.cell 2
      simp only [List.getElem?_toArray, List.getElem?_cons_zero, List.getElem?_cons_succ] at z0 z1 z2
      have z3 := X3.lt
      clear bx3 rl3 ow3 fr3 B3 X3 BW2 BX2 RL2 OW2 HX2 hm3
      go_wp2_with fail
      (with_reducible refine (HR2'.out rc3 RA3 HM3.out _ BW3.out.size BX3.out RL3.out (own_nil_pc _ _ _ _)).mono ?_)
      rintro e w4 ⟨A4, c4, RA4, rc4, rfl, bx4, rl4, hm4, ow4, fr4⟩
      have B4 := fr4.low (N0 := w.heap.size) (by rw [HQ.out]; exact Nat.le_refl _) (fun j hj => by cases hj) BW3.out.size
      have BW4 := Lib.hid (BW3.out.trans B4)
      have X4 := HX3.out.frq fr4 (by have := HQL.out; omega) (fun e => by cases e)
      have OW4 := Lib.hid (own_frq fr4 OW3.out (box_apart OW3.out BX3.out (by decide)) (fun _ _ e => by cases e))
      have BX4 := Lib.hid bx4; have RL4 := Lib.hid rl4; have HM4 := Lib.hid hm4
      clear z0 z1 z2 z3
      have z0 := X4.cell 0; have z1 := X4.cell 1; have z2 := X4.cell 2
      simp only [List.getElem?_toArray, List.getElem?_cons_zero, List.getElem?_cons_succ] at z0 z1 z2
      have z3 := X4.lt
      clear bx4 rl4 ow4 fr4 B4 X4 BW3 BX3 RL3 OW3 HX3 hm4 HM3
      by_cases hy0 : 0 < (y : Int)
      · skip
        have g3 : decide ((0 : Int) < (y : Int)) = true := by simp; omega
        have B5 := Lib.hid (BW4.out.alloc BW4.out.size (.cells #[.int .i64 dx, .int .i64 0, .int .i64 (y : Int)] 92))
        have BX5 := Lib.hid (BX4.out.alloc (.cells #[.int .i64 dx, .int .i64 0, .int .i64 (y : Int)] 92))
        have RL5 := Lib.hid (RL4.out.below ((Below.refl w.heap.size w4).alloc BW4.out.size (.cells #[.int .i64 dx, .int .i64 0, .int .i64 (y : Int)] 92)))
        have OW5 := Lib.hid (own_alloc OW4.out (.cells #[.int .i64 dx, .int .i64 0, .int .i64 (y : Int)] 92))
        have HE : Hid (r1 ++ P1 ++ (if 0 < (y : Int) then [(⟨dx, 0, (y : Int)⟩ : Cg)] else []) = r1 ++ P1 ++ [(⟨dx, 0, (y : Int)⟩ : Cg)]) := Lib.hid (by rw [if_pos hy0])
        clear BW4 BX4 RL4 OW4
        go_wp2_with (refine wpList_app _ (by rfl) (.tmp 44) (.tmp 49) _ rfl w.heap.size 92 i0_ _ 3 24 Try.underlying93 HI.out HZ.out HZ1.out HZ2.out rfl (by omega) (.slice A3 n1 c3) n1 (cgc (r1 ++ P1)) rfl OW5.out (some ⟨w4.heap.size, 0, none⟩) 1 1 (cgc [⟨dx, 0, (y : Int)⟩]) rfl rfl ?row (cgc_one _) (by simp only [maxLen]; omega) (by omega) ?size ?_)
        case row => exact RowAt.new _ _ _ rfl rfl
        case size => exact B5.out.size
        intro A6 c6 w6 own6 gr6 at6
        rw [← cgc_app] at own6
        have OW6 := Lib.hid own6
        have BW6 := Lib.hid (below_grown B5.out OW5.out (Nat.le_refl _) B5.out.size gr6)
        have BX6 := Lib.hid (box_grown3 BX5.out OW5.out (by decide) gr6)
        have RL6 := Lib.hid (RL5.out.below (below_grown (Below.refl w.heap.size _) OW5.out (Nat.le_refl _) B5.out.size gr6))
        clear own6 gr6 at6 B5 BX5 RL5 OW5
        have HF : Hid (rpk T q p (i + 1) = (r1 ++ P1 ++ [(⟨dx, 0, (y : Int)⟩ : Cg)], S2, v2, b2) ∧ RpI N M L T q p (i + 1) (b + dn_).toNat (r1 ++ P1 ++ [(⟨dx, 0, (y : Int)⟩ : Cg)], S2, v2, b2) ∧ (r1 ++ P1 ++ [(⟨dx, 0, (y : Int)⟩ : Cg)]).length = n1 + 1 ∧ S2.length = m2 ∧ m2 ≤ rc4) := Lib.hid (by
          have h1 := HRK.out; have h2 := HS1.out
          rw [HE.out] at h1 h2
          exact ⟨h1, h2, by rw [List.length_append, ← HN1.out.2]; rfl, HN1.out.1.symm, HM4.out⟩)
        go_wp2_with fail
        go_roundw
        case rel => exact ⟨i + 1, (b + dn_).toNat, n1 + 1, c6, m2, rc4, v2, b2, A6, RA4, _, S2, by go_num, by omega, rfl, by omega, HF, BW6, BX6, RL6, OW6⟩
        case measure => simp [intOf] <;> omega

      · have g3 : decide ((0 : Int) < (y : Int)) = false := by simp; omega
        have HE : Hid (r1 ++ P1 ++ (if 0 < (y : Int) then [(⟨dx, 0, (y : Int)⟩ : Cg)] else []) = r1 ++ P1) := Lib.hid (by rw [if_neg hy0, List.append_nil])
        have HF : Hid (rpk T q p (i + 1) = (r1 ++ P1, S2, v2, b2) ∧ RpI N M L T q p (i + 1) (b + dn_).toNat (r1 ++ P1, S2, v2, b2) ∧ (r1 ++ P1).length = n1 ∧ S2.length = m2 ∧ m2 ≤ rc4) := Lib.hid (by
          have h1 := HRK.out; have h2 := HS1.out
          rw [HE.out] at h1 h2
          exact ⟨h1, h2, HN1.out.2.symm, HN1.out.1.symm, HM4.out⟩)
        clear HE
        obtain rfl : y = 0 := by omega
        go_wp2_with fail
        go_roundw
        case rel => exact ⟨i + 1, (b + dn_).toNat, n1, c3, m2, rc4, v2, b2, A3, RA4, _, S2, by go_num, by omega, rfl, by omega, HF, BW4, BX4, RL4, OW4⟩
        case measure => simp [intOf] <;> omega
    · obtain rfl : i = pn := by omega
      have hia := HIA.out
      have HR1 := Lib.hid (fun w1 h0 hB hR hO => pread_any w.heap.size Q (by rw [HQ.out]; exact Nat.le_refl _) 9223372036854775807 (by omega) (by omega) r2 u a H.out.2.1.rd (PcV.pcb H.out.2.1.v2 HM.out HG.out.cap) (by omega) (by omega) r1 k c A H.out.2.2.1 (by rw [H.out.2.2.2.1]; omega) rn rc RA H.out.2.2.2.1 H.out.2.2.2.2 w1 h0 hB hR hO)
      have hrp : rpl T q p = r1 ++ (rdp 9223372036854775807 r2 u a).1 := by
        unfold rpl maxI; rw [HPN.out, H.out.1]
      have HRP := Lib.hid hrp
      have HC := Lib.hid (HR1.out wr BW.out.size BX.out RL.out OW.out)
      have OG := Lib.hid (own_ge OW.out)
      clear hrp HR1 hia H BX RL OW
      go_wp2_with fail
      (with_reducible refine HC.out.mono ?_)
      rintro e w3 ⟨A3, c3, RA3, rc3, rfl, bx3, rl3, hm3, ow3, fr3⟩
      have B3 := fr3.low (N0 := w.heap.size) (by rw [HQ.out]; exact Nat.le_refl _) OG.out BW.out.size
      have BW3 := Lib.hid (BW.out.trans B3)
      have OW3 := Lib.hid ow3
      clear bx3 rl3 hm3 ow3 fr3 B3 HC
      go_wp2_with fail
      go_ret2
      refine ⟨A3, c3, ?_, BW3.out, ?_⟩
      · rw [HRP.out, List.length_append]; rfl
      · rw [HRP.out]; exact OW3.out
end Go.Proofs.Ytolhjkpekmmajaa
/- The walks of patch.section and patch.concat. -/
namespace Go.Proofs.Ytolhjkpekmmajaa
set_option linter.unusedVariables false
set_option linter.unusedSimpArgs false
open Go.RowKit Go.Lib Go.Maps Go.Deep
attribute [local go_sem ↓] Go.wp_at_zero Go.wp_at_succ
/-- an ID of the text t; at most c rules were made -/
def PidOut (B S G : Nat) (L : List En) (T : List (List Int)) (t : List Int) (c : Nat) (w : World) (e : Ending) (w' : World) : Prop :=
  ∃ y L' T', e = .returned (.tuple #[.int .i64 y, .nilIface]) ∧ Now B S G L T c w w' L' T' ∧ 0 ≤ y ∧ y ≤ L'.length ∧ tx T' y = t
theorem idout_pid {P : Program} {f : FuncId} {args : Array Value} {B S G : Nat} {L : List En} {T : List (List Int)} {t : List Int} {lo hi : Int} {c c' : Nat} {w w1 : World}
    (h : Calls P f args w1 (IdOut B S G L T t lo hi c w)) (hc : c ≤ c') : Calls P f args w1 (PidOut B S G L T t c' w) :=
  h.mono fun _ _ ⟨x, L2, T2, he, o⟩ => ⟨x, L2, T2, he, o.now.mono hc, o.x0, o.x1, o.tx⟩
set_option maxRecDepth 100000 in
set_option maxHeartbeats 4000000 in
theorem bsection_any (L : List En) (T : List (List Int)) (hg : Good L T) (x : Int) (x0 : 1 ≤ x) (x1 : x ≤ L.length) (f n : Nat) (hn : f + n ≤ (tx T x).length) (h20 : (tx T x).length ≤ 20) (hc : L.length + sc_ 20 ≤ 1048576) (B S G : Nat) (w : World) (st : St w B S G L) :
    Calls Try.prog 60 #[.pointer (some ⟨S, 0, none⟩), .int .i64 x, .int .i64 (f : Int), .int .i64 (n : Int)] w (PidOut B S G L T (((tx T x).drop f).take n) (sc_ 20) w) := by
  have HCk := Lib.hid (scheck_any L T hg x (by omega) x1 B S G w st)
  have hdk := (hg.any (x := x) (by omega) x1).dk
  have HSe := Lib.hid (fun w1 (hb : Below w.heap.size w w1) => idout_pid (section_any 20 L T hg x (by omega) x1 (by omega) f n hn hc B S G w1 (st.below hb)) (Nat.le_refl _))
  have HR := Lib.hid (fun w => range_yes (f : Int) (n : Int) ((tx T x).length : Int) (by omega) (by omega) (by omega) (by omega) w)
  have HNow := Lib.hid (Now.start st hg)
  obtain ⟨q, hq⟩ : ∃ q, q = (tx T x).length := ⟨_, rfl⟩
  rw [← hq] at HCk HR
  clear hg st hn hq hdk x0 x1 h20
  go_enter Try.func60, Try.ntmps60
  go_wp2_with fail
  (with_reducible refine HCk.out.mono ?_)
  rintro e w1 ⟨rfl, B1⟩
  have HB1 := Lib.hid B1
  have HS2 := Lib.hid (HSe.out w1 B1)
  clear B1 HSe
  go_wp2_with fail
  (with_reducible refine (HR.out _).mono ?_)
  rintro e w' ⟨rfl, rfl⟩
  go_wp2_with fail
  (with_reducible refine HS2.out.mono ?_)
  rintro e w2 ⟨y, L2, T2, rfl, nw, y0, y1, yt⟩
  have HNW := Lib.hid (HNow.out.below HB1.out |>.after nw (show 0 + sc_ 20 ≤ sc_ 20 by omega))
  have HY := Lib.hid (And.intro y0 (And.intro y1 yt))
  clear nw y0 y1 yt
  go_wp2_with fail
  go_ret2
  exact ⟨y, L2, T2, rfl, HNW.out, HY.out.1, HY.out.2.1, HY.out.2.2⟩
set_option maxRecDepth 100000 in
set_option maxHeartbeats 4000000 in
theorem psection_any (L : List En) (T : List (List Int)) (hg : Good L T) (x : Int) (x0 : 1 ≤ x) (x1 : x ≤ L.length) (f n : Nat) (hn0 : 1 ≤ n) (hn : f + n ≤ (tx T x).length) (h20 : (tx T x).length ≤ 20) (hc : L.length + sc_ 20 ≤ 1048576) (B S G : Nat) (w : World) (st : St w B S G L) :
    Calls Try.prog 43 #[.pointer (some ⟨S, 0, none⟩), .int .i64 x, .int .i64 (f : Int), .int .i64 (n : Int)] w (PidOut B S G L T (((tx T x).drop f).take n) (sc_ 20) w) := by
  have HSz := Lib.hid (psize_any L T hg x (by omega) x1 B S G w st)
  have hdk := (hg.any (x := x) (by omega) x1).dk
  have HSe := Lib.hid (fun w1 (hb : Below w.heap.size w w1) => bsection_any L T hg x x0 x1 f n hn h20 hc B S G w1 (st.below hb))
  have HNow := Lib.hid (Now.start st hg)
  have HW := Lib.hid (show f + n ≤ (tx T x).length → n = (tx T x).length → ((tx T x).drop f).take n = tx T x from fun h1 h2 => wk_full h1 h2)
  have HN := Lib.hid hn
  obtain ⟨q, hq⟩ : ∃ q, q = (tx T x).length := ⟨_, rfl⟩
  rw [← hq] at HSz h20
  have HQ := Lib.hid hq
  have HX := Lib.hid (show 0 ≤ x ∧ x ≤ L.length by omega)
  have hn20 : n ≤ 20 := by omega
  have t1 : ((n : Int) == 0) = false := by rw [beq_eq_false_iff_ne]; omega
  have t1b : (n == 0) = false := by rw [beq_eq_false_iff_ne]; omega
  by_cases hw : n = q
  · have t2 : ((n : Int) == (q : Int)) = true := by simp; omega
    have HE := Lib.hid (HW.out HN.out (by rw [← HQ.out]; exact hw))
    clear hg st hn hq hw hdk HSe x0 x1
    go_enter Try.func43, Try.ntmps43
    go_wp2_with fail
    (with_reducible refine HSz.out.mono ?_)
    rintro e w1 ⟨rfl, B1⟩
    have HB1 := Lib.hid B1
    clear B1
    go_wp2_with fail
    go_ret2
    exact ⟨x, L, T, rfl, (HNow.out.below HB1.out).mono (by omega), HX.out.1, HX.out.2, HE.out.symm⟩
  · have t2 : ((n : Int) == (q : Int)) = false := by rw [beq_eq_false_iff_ne]; omega
    have t2b : (n == q) = false := by rw [beq_eq_false_iff_ne]; omega
    clear hg st hn hq hw hdk x0 x1
    go_enter Try.func43, Try.ntmps43
    go_wp2_with fail
    (with_reducible refine HSz.out.mono ?_)
    rintro e w1 ⟨rfl, B1⟩
    have HB1 := Lib.hid B1
    have HS2 := Lib.hid (HSe.out w1 B1)
    clear B1
    go_wp2_with fail
    (with_reducible refine HS2.out.mono ?_)
    rintro e w2 ⟨y, L2, T2, rfl, nw, y0, y1, yt⟩
    have HNW := Lib.hid (HNow.out.below HB1.out |>.after nw (show 0 + sc_ 20 ≤ sc_ 20 by omega))
    have HY := Lib.hid (And.intro y0 (And.intro y1 yt))
    clear nw y0 y1 yt
    go_wp2_with fail
    go_ret2
    exact ⟨y, L2, T2, rfl, HNW.out, HY.out.1, HY.out.2.1, HY.out.2.2⟩
set_option maxRecDepth 100000 in
set_option maxHeartbeats 4000000 in
theorem pconcat_any (L : List En) (T : List (List Int)) (hg : Good L T) (ids : List Int) (ts : List (List Int)) (hi : Ids L T ids ts) (n c : Nat) (A : Option Addr) (hl : ids.length = n) (hn : n ≤ 1000) (h20 : ∀ t ∈ ts, t.length ≤ 20) (hc : L.length + cc_ n 20 ≤ 1048576)
    (B S G : Nat) (w : World) (st : St w B S G L) (ha : RowK w B S G A (vi ids)) :
    Calls Try.prog 44 #[.pointer (some ⟨S, 0, none⟩), .slice A n c] w (PidOut B S G L T ts.flatten (cc_ n 20) w) := by
  have hd : ∀ x ∈ ids, (ent L x).dp ≤ (20 : Nat) := fun x hx => by
    have k := (hg.any (hi.ok x hx).1 (hi.ok x hx).2).dk
    have : tx T x ∈ ts := by rw [← hi.tx]; exact List.mem_map.2 ⟨x, hx, rfl⟩
    have := h20 _ this
    omega
  have hfl : ∀ ts : List (List Int), (∀ t ∈ ts, t.length ≤ 20) → ts.flatten.length ≤ 20 * ts.length := by
    intro ts
    induction ts with
    | nil => intro _; simp
    | cons t ts ih => intro h; have := ih fun u hu => h u (by simp [hu]); have := h t (by simp); rw [List.flatten_cons, List.length_append, List.length_cons]; omega
  have hf := hfl ts h20
  have hlt : ts.length = n := by rw [← hi.len]; exact hl
  have HNow := Lib.hid (Now.start st hg)
  match n, hl, hlt with
  | 0, hl, hlt =>
    have e : ts = [] := List.eq_nil_of_length_eq_zero hlt
    subst e
    clear hg st hi ha hd hf hfl h20 hc hlt hn
    go_enter Try.func44, Try.ntmps44
    go_wp2_with fail
    go_ret2
    exact ⟨0, L, T, rfl, HNow.out.mono (by omega), Int.le_refl _, by omega, tx_zero _⟩
  | 1, hl, hlt =>
    obtain ⟨x, rfl⟩ : ∃ x, ids = [x] := by
      match ids, hl with
      | [x], _ => exact ⟨x, rfl⟩
    obtain ⟨ad, rfl, adl, c0⟩ := ha.1.get (k := 0) (u := .int .i64 x) rfl
    have e0 : ad.add 0 = ad := by simp [Addr.add]
    rw [e0] at c0
    have HX := Lib.hid (hi.ok x (by simp))
    have HE : Hid (tx T x = ts.flatten) := Lib.hid (by rw [← hi.tx]; simp)
    clear hg st hi ha hd hf hfl h20 hc hlt e0 hn
    go_enter Try.func44, Try.ntmps44
    go_wp2_with fail
    go_ret2
    exact ⟨x, L, T, rfl, HNow.out.mono (by omega), HX.out.1, HX.out.2, HE.out⟩
  | n + 2, hl, hlt =>
    have HC := Lib.hid (idout_pid (concat_any 20 L T hg ids ts hi (n + 2) c A hl (by omega) hd (by rw [hlt] at hf; omega) hc B S G w st ha) (Nat.le_refl _))
    have t1 : (((n + 2 : Nat) : Int) == 0) = false := by rw [beq_eq_false_iff_ne]; omega
    have t2 : (((n + 2 : Nat) : Int) == 1) = false := by rw [beq_eq_false_iff_ne]; omega
    have t3 : ((n : Int) + 2 == 0) = false := by rw [beq_eq_false_iff_ne]; omega
    have t4 : ((n : Int) + 2 == 1) = false := by rw [beq_eq_false_iff_ne]; omega
    clear hg st hi ha hd hf hfl h20 hc hlt
    go_enter Try.func44, Try.ntmps44
    go_wp2_with fail
    (with_reducible refine HC.out.mono ?_)
    rintro e w2 ⟨y, L2, T2, rfl, nw, y0, y1, yt⟩
    have HNW := Lib.hid nw
    have HY := Lib.hid (And.intro y0 (And.intro y1 yt))
    clear nw y0 y1 yt
    go_wp2_with fail
    go_ret2
    exact ⟨y, L2, T2, rfl, HNW.out, HY.out.1, HY.out.2.1, HY.out.2.2⟩
end Go.Proofs.Ytolhjkpekmmajaa
/- The steps of collect, plainly. -/
namespace Go.Proofs.Ytolhjkpekmmajaa
set_option linter.unusedVariables false
set_option linter.unusedSimpArgs false
open Go.RowKit Go.Lib
/-- behind j of the pieces q and the end mark -/
def ColS (N : Nat) (q : List Cg) (j : Nat) (L : List En) (T : List (List Int)) (r : List Cg) (a m : Nat) : Prop :=
  (j ≤ q.length ∧ ColI N L T (q.take j) r a m) ∨ (j = q.length + 1 ∧ m = 0 ∧ ColF N L T q r)
theorem ColF.ext {N : Nat} {L L' : List En} {T T' : List (List Int)} {q r : List Cg} (h : ColF N L T q r) (k : Ext L T L' T') (hT : T.length = L.length) : ColF N L' T' q r :=
  ⟨h.pok.mono (by have := k.len; omega), by rw [gsp_gpre, gpre_ext k hT _ _ _ h.pok.xs, ← gsp_gpre T (x0 N) r 0 0]; exact h.ex⟩
theorem ColS.ext {N : Nat} {L L' : List En} {T T' : List (List Int)} {q r : List Cg} {j a m : Nat} (h : ColS N q j L T r a m) (k : Ext L T L' T') (hT : T.length = L.length) : ColS N q j L' T' r a m := by
  rcases h with ⟨h1, h2⟩ | ⟨h1, h2, h3⟩
  · exact .inl ⟨h1, h2.ext k hT⟩
  · exact .inr ⟨h1, h2, h3.ext k hT⟩
theorem ColS.start (N : Nat) (q : List Cg) (L : List En) (T : List (List Int)) : ColS N q 0 L T [] 0 0 := .inl ⟨Nat.zero_le _, by simpa using ColI.start N L T⟩
theorem ColS.end_ {N : Nat} {L : List En} {T : List (List Int)} {q r : List Cg} {a m : Nat} (h : ColS N q (q.length + 1) L T r a m) : ColF N L T q r := by
  rcases h with ⟨h1, _⟩ | ⟨_, _, h3⟩
  · omega
  · exact h3
theorem take_snoc {q : List Cg} {j : Nat} {d : Cg} (h : q[j]? = some d) : q.take (j + 1) = q.take j ++ [d] := by rw [List.take_add_one, h]; rfl
theorem ColS.text {N : Nat} {L : List En} {T : List (List Int)} {q r : List Cg} {j a m : Nat} (h : ColS N q j L T r a m) {d : Cg} (hd : (q ++ [(⟨0, (N : Int), 0⟩ : Cg)])[j]? = some d) (hz : d.ad ≠ 0) : d ∈ q ∧ ColS N q (j + 1) L T r a (m + d.x.toNat) := by
  by_cases hj : j < q.length
  · rw [List.getElem?_append_left hj] at hd
    refine ⟨List.mem_of_getElem? hd, .inl ⟨hj, ?_⟩⟩
    rw [take_snoc hd]
    rcases h with ⟨_, h2⟩ | ⟨h1, _, _⟩
    · exact h2.text hz
    · omega
  · have hl := (List.getElem?_eq_some_iff.1 hd).1
    simp at hl
    obtain rfl : j = q.length := by omega
    rw [List.getElem?_append_right (Nat.le_refl _), Nat.sub_self] at hd
    simp at hd; subst hd
    exact absurd rfl hz
theorem ColS.kept {N : Nat} {L : List En} {T : List (List Int)} {q r : List Cg} {j a m : Nat} (h : ColS N q j L T r a m) (hT : T.length = L.length) {L0 : List En} {T0 : List (List Int)} (hv : ∀ c ∈ q, PcV N L0 T0 c ∧ 1 ≤ c.x) (hM : Mono N q) {d : Cg} (hd : (q ++ [(⟨0, (N : Int), 0⟩ : Cg)])[j]? = some d) (hz : d.ad = 0) :
    ∃ f n : Nat, d = ⟨0, (f : Int), (n : Int)⟩ ∧ a ≤ f ∧ f + n ≤ N ∧
      (∀ L2 T2 (y : Int), Ext L T L2 T2 → 0 ≤ y → y ≤ L2.length → (tx T2 y).length = m → (a < f ∨ m ≠ 0) → ColS N q (j + 1) L2 T2 (r ++ [⟨(a : Int), (f : Int) - a, y⟩]) (f + n) 0) ∧
      (a = f → m = 0 → ColS N q (j + 1) L T r (f + n) 0) := by
  by_cases hj : j < q.length
  · rw [List.getElem?_append_left hj] at hd
    obtain ⟨pv, px⟩ := hv d (List.mem_of_getElem? hd)
    have f0 := pv.f0; have w0 := pv.w0 hz
    obtain ⟨f, hf⟩ : ∃ f : Nat, d.n = (f : Int) := ⟨d.n.toNat, by omega⟩
    obtain ⟨n, hn⟩ : ∃ n : Nat, d.x = (n : Int) := ⟨d.x.toNat, by omega⟩
    have ed : d = ⟨0, (f : Int), (n : Int)⟩ := by
      obtain ⟨d1, d2, d3⟩ := d
      simp only at hz hf hn; rw [hz, hf, hn]
    have hI : ColI N L T (q.take j) r a m := by
      rcases h with ⟨_, h2⟩ | ⟨h1, _, _⟩
      · exact h2
      · omega
    have hq : q = q.take j ++ ⟨0, (f : Int), (n : Int)⟩ :: q.drop (j + 1) := by
      obtain ⟨hl, e⟩ := List.getElem?_eq_some_iff.1 hd
      have := List.take_append_drop j q
      rw [List.drop_eq_getElem_cons hl, e, ed] at this
      exact this.symm
    have ha := hI.le (n := n) (by omega) (by rw [← hq]; exact hM)
    refine ⟨f, n, ed, ha, by omega, fun L2 T2 y k y0 y1 hy hz2 => .inl ⟨hj, ?_⟩, fun e1 e2 => .inl ⟨hj, ?_⟩⟩
    · rw [take_snoc hd, ed]
      exact (hI.ext k hT).cut ha (by omega) (by omega) y0 y1 hy hz2
    · subst e1; subst e2
      rw [take_snoc hd, ed]
      exact hI.keep (by omega)
  · have hl := (List.getElem?_eq_some_iff.1 hd).1
    simp at hl
    obtain rfl : j = q.length := by omega
    rw [List.getElem?_append_right (Nat.le_refl _), Nat.sub_self] at hd
    simp at hd; subst hd
    have hI : ColI N L T q r a m := by
      rcases h with ⟨_, h2⟩ | ⟨h1, _, _⟩
      · rwa [List.take_length] at h2
      · omega
    refine ⟨N, 0, rfl, hI.an, by omega, fun L2 T2 y k y0 y1 hy hz2 => .inr ⟨rfl, rfl, ?_⟩, fun e1 e2 => .inr ⟨rfl, rfl, ?_⟩⟩
    · exact (hI.ext k hT).fin2 y0 y1 hy hz2
    · subst e1; subst e2; exact hI.fin
end Go.Proofs.Ytolhjkpekmmajaa
/- The walk of patch.collect. Written by wip/gen/pccol.py. -/
namespace Go.Proofs.Ytolhjkpekmmajaa
set_option linter.unusedVariables false
set_option linter.unusedSimpArgs false
open Go.RowKit Go.Lib Go.Maps Go.Deep
attribute [local go_sem ↓] Go.wp_at_zero Go.wp_at_succ
theorem sc20 : sc_ 20 = 3701 := by decide
theorem cc_le (n : Nat) (h : n ≤ 80) : cc_ n 20 ≤ n * 361 := by unfold cc_; exact Nat.mul_le_mul_left _ (by omega)
def ColOut (B S G : Nat) (L0 : List En) (T0 : List (List Int)) (c : Nat) (N : Nat) (q : List Cg) (D : Nat) (w0 : World) (e : Ending) (w' : World) : Prop :=
  ∃ A k r L' T', e = .returned (.tuple #[.slice A r.length k, .nilIface]) ∧ Now B S G L0 T0 c w0 w' L' T' ∧ ColF N L' T' q r ∧ r.length ≤ 81 ∧ w'.ownsRow D 71 3 (.slice A r.length k) r.length (cgc r)
set_option maxRecDepth 100000 in
set_option maxHeartbeats 32000000 in
theorem pcol_any (L0 : List En) (T0 : List (List Int)) (c0 : Nat) (w0 : World) (L : List En) (T : List (List Int)) (N : Nat) (hN : N ≤ 100000) (q : List Cg) (hv : ∀ c ∈ q, PcV N L T c ∧ 1 ≤ c.x) (hM : Mono N q) (qn qc : Nat) (QA : Option Addr) (hqn : q.length = qn) (hqb : qn ≤ 79)
    (hc : L0.length + c0 + 80 * 4062 ≤ 1048576) (B S G : Nat) (w : World) (nw : Now B S G L0 T0 c0 w0 w L T) (QB : Nat) (hQB : B ≤ QB) (hQ0 : w0.heap.size ≤ QB) (hQw : QB ≤ w.heap.size) (hq : w.ownsRow QB 92 3 (.slice QA qn qc) qn (cgc q)) :
    Calls Try.prog 28 #[.pointer (some ⟨S, 0, none⟩), .int .i64 (N : Int), .slice QA qn qc] w (ColOut B S G L0 T0 (c0 + 80 * 4062) N q w.heap.size w0) := by
  obtain ⟨i0_, hi0, hz0, hz1, hz2⟩ := info_parts5 info_piece
  have HI := Lib.hid hi0; have HZ := Lib.hid hz0; have HZ1 := Lib.hid hz1; have HZ2 := Lib.hid hz2
  obtain ⟨j0_, hj0, hy0, hy1, hy2⟩ := info_parts5 info_change
  have HJ := Lib.hid hj0; have HY := Lib.hid hy0; have HY1 := Lib.hid hy1; have HY2 := Lib.hid hy2
  obtain ⟨k0_, hk0, hx0, hx1, hx2⟩ := info_parts5 info_id
  have HK := Lib.hid hk0; have HXx := Lib.hid hx0; have HX1 := Lib.hid hx1; have HX2 := Lib.hid hx2
  have HV := Lib.hid hv; have HMo := Lib.hid hM; have HQN := Lib.hid hqn; have HC := Lib.hid hc
  have lB := nw.st.lt.2.2
  obtain ⟨D, hD⟩ : ∃ D, D = w.heap.size := ⟨_, rfl⟩
  have HBD : Hid (B ≤ D) := Lib.hid (by omega)
  have H0D : Hid (w0.heap.size ≤ D) := Lib.hid (by have := nw.fr.size; omega)
  have HQB := Lib.hid hQB; have HQ0 := Lib.hid hQ0
  have HDW := Lib.hid hD
  have NW1 := Lib.hid (nw.alloc (.cells #[.int .i64 0, .int .i64 (N : Int), .int .i64 0] 92))
  have OQ1 := Lib.hid (own_alloc hq (.cells #[.int .i64 0, .int .i64 (N : Int), .int .i64 0] 92))
  have HQS : Hid (QB ≤ w.heap.size + 1) := Lib.hid (by omega)
  have HT : Hid (T.length = L.length) := Lib.hid nw.good.len
  rw [← hD]
  clear hi0 hz0 hz1 hz2 hj0 hy0 hy1 hy2 hk0 hx0 hx1 hx2 hv hM hqn hc nw hq hQB hQ0 hQw lB
  go_enter Try.func28, Try.ntmps28
  go_wp2_with (refine wpList_app _ (by rfl) (.tmp 17) (.tmp 20) _ rfl QB 92 i0_ _ 3 24 Try.underlying93 HI.out HZ.out HZ1.out HZ2.out rfl (by omega) (.slice QA qn qc) qn (cgc q) rfl OQ1.out (some ⟨w.heap.size, 0, none⟩) 1 1 (cgc [⟨0, (N : Int), 0⟩]) rfl rfl ?row (cgc_one _) (by simp only [maxLen]; omega) (by omega) ?size ?_)
  case row => exact RowAt.new _ _ _ rfl rfl
  case size => have := HQS.out; simp; omega
  intro A4 c4 w4 own4 gr4 at4
  rw [← cgc_app] at own4
  have OQ4 := Lib.hid own4
  have NW4 := Lib.hid (NW1.out.grown OQ1.out HQB.out HQ0.out (by decide) gr4)
  have HD4 : Hid (D ≤ w4.heap.size) := Lib.hid (by have := gr4.size; have := HDW.out; simp at *; omega)
  clear own4 gr4 at4 NW1 OQ1 HQS
  clear hD
  go_wp2_with fail
  go_loopw [8, 9, 10, 12, 13, 14, 15, 16, 23] (fun s8 s9 s10 _ _ _ _ _ s23 wr => ∃ (j kp kt a m cp ct : Nat) (PA TA : Option Addr) (r : List Cg) (ids : List Int) (ts : List (List Int)) (L1 : List En) (T1 : List (List Int)), s23 = .int .i64 (j : Int) ∧ j ≤ qn + 1 ∧ s8 = .slice PA kp cp ∧ s9 = .slice TA kt ct ∧ s10 = .int .i64 (a : Int) ∧ kp ≤ j ∧ kt ≤ j ∧ a ≤ 100000 ∧
     Hid (ColS N q j L1 T1 r a m ∧ r.length = kp ∧ Ids L1 T1 ids ts ∧ ids.length = kt ∧ ts.flatten.length = m ∧ (kt = 0 ↔ m = 0) ∧ (∀ t ∈ ts, t.length ≤ 20) ∧ Ext L T L1 T1) ∧
     Hid (Now B S G L0 T0 (c0 + (j * 3701 + (j - kt) * 361)) w0 wr L1 T1) ∧ Hid (wr.ownsRow QB 92 3 (.slice A4 (qn + 1) c4) (qn + 1) (cgc (q ++ [⟨0, (N : Int), 0⟩]))) ∧ Hid (wr.ownsRow D 71 3 (.slice PA kp cp) kp (cgc r)) ∧ Hid (wr.ownsRow D 56 1 (.slice TA kt ct) kt (vi ids)) ∧ Hid (D ≤ wr.heap.size)) (fun _ _ _ _ _ _ _ _ s23 _ => qn + 1 - (intOf s23).toNat)
  case atStart => exact ⟨0, 0, 0, 0, 0, 0, 0, none, none, [], [], [], L, T, rfl, by omega, rfl, rfl, rfl, by omega, by omega, by omega, Lib.hid ⟨ColS.start N q L T, rfl, Ids.nil _ _, rfl, rfl, ⟨fun _ => rfl, fun _ => rfl⟩, fun t h => by simp at h, Ext.refl _ _⟩, Lib.hid (NW4.out.mono (by omega)), OQ4, Lib.hid (own_nil_pc _ _ _ _), Lib.hid ⟨by simp [vi], .inl ⟨rfl, rfl⟩⟩, HD4⟩
  case round =>
    clear NW4 OQ4 HD4
    obtain ⟨j, kp, kt, a, m, cp, ct, PA, TA, r, ids, ts, L1, T1, rfl, hj, rfl, rfl, rfl, hkp, hkt, ha5, H, NW, OQ, OP, OT, DW⟩ := hrel
    by_cases hlt : j < qn + 1
    · have hjl : j < (q ++ [(⟨0, (N : Int), 0⟩ : Cg)]).length := by rw [List.length_append, HQN.out]; exact hlt
      have hd := List.getElem?_eq_getElem hjl
      obtain ⟨d, hde⟩ : ∃ d, d = (q ++ [(⟨0, (N : Int), 0⟩ : Cg)])[j] := ⟨_, rfl⟩
      rw [← hde] at hd
      obtain ⟨ad, rfl, adl, y0, y1, y2⟩ := row_cg (own_row _ OQ.out) hd
      have hcap : L1.length + sc_ 20 ≤ 1048576 ∧ L1.length + kt * 361 ≤ 1048576 := by
        have h1 := NW.out.cnt; have h2 := HC.out
        rw [sc20]
        omega
      have hT1 := NW.out.good.len
      obtain ⟨g1, g2, g3, g4, g5, g6, g7, g8⟩ := H.out
      obtain ⟨dt, df, dx⟩ := d
      simp only at y0 y1 y2
      by_cases hz : dt = 0
      · obtain ⟨f, n, ed, haf, hfn, hS1, hS2⟩ := g1.kept hT1 HV.out HMo.out hd hz
        have e2 : df = (f : Int) := congrArg Cg.n ed
        have e3 : dx = (n : Int) := congrArg Cg.x ed
        subst hz; subst e2; subst e3
        have BX1 := Lib.hid (Box.new wr 92 #[.int .i64 0, .int .i64 (f : Int), .int .i64 (n : Int)])
        have NW1 := Lib.hid (NW.out.alloc (.cells #[.int .i64 0, .int .i64 (f : Int), .int .i64 (n : Int)] 92))
        have OQ1 := Lib.hid (own_alloc OQ.out (.cells #[.int .i64 0, .int .i64 (f : Int), .int .i64 (n : Int)] 92))
        have OP1 := Lib.hid (own_alloc OP.out (.cells #[.int .i64 0, .int .i64 (f : Int), .int .i64 (n : Int)] 92))
        have OT1 := Lib.hid (own_alloc OT.out (.cells #[.int .i64 0, .int .i64 (f : Int), .int .i64 (n : Int)] 92))
        have HS1 := Lib.hid hS1; have HS2 := Lib.hid hS2
        have hn5 : f + n ≤ 100000 := by omega
        have HBW : Hid (B ≤ wr.heap.size) := Lib.hid (by have := HBD.out; have := DW.out; omega)
        have HDW1 : Hid (D ≤ wr.heap.size) := Lib.hid DW.out
        by_cases hn0 : a = f ∧ kt = 0
        · obtain ⟨hn1, hn2⟩ := hn0
          subst hn1; subst hn2
          have hm0 := g6.1 rfl
          have HF := Lib.hid (HS2.out rfl hm0)
          have t1 : decide ((a : Int) < (a : Int)) = false := by simp
          have HR : Hid (r.length = kp ∧ Ext L T L1 T1) := Lib.hid ⟨g2, g8⟩
          have NW2 : Hid (Now B S G L0 T0 (c0 + ((j + 1) * 3701 + (j + 1 - 0) * 361)) w0 (wr.alloc (.cells #[.int .i64 0, .int .i64 (a : Int), .int .i64 (n : Int)] 92)) L1 T1) := Lib.hid (NW1.out.mono (by omega))
          have DW2 : Hid (D ≤ (wr.alloc (.cells #[.int .i64 0, .int .i64 (a : Int), .int .i64 (n : Int)] 92)).heap.size) := Lib.hid (by have := HDW1.out; simp; omega)
          clear hjl hd hde hcap hT1 H g1 g2 g3 g4 g5 g6 g7 g8 ed haf hS1 hS2 HS1 HS2 hm0 NW OQ OP OT DW NW1
          go_wp2_with fail
          go_roundw
          case rel => exact ⟨j + 1, kp, 0, a + n, 0, cp, 0, PA, none, r, [], [], L1, T1, by go_num, by omega, rfl, rfl, by simp, by omega, by omega, by omega, Lib.hid ⟨HF.out, HR.out.1, Ids.nil _ _, rfl, rfl, ⟨fun _ => rfl, fun _ => rfl⟩, fun t h => by simp at h, HR.out.2⟩, NW2, OQ1, OP1, Lib.hid ⟨by simp [vi], .inl ⟨rfl, rfl⟩⟩, DW2⟩
          case measure => simp [intOf] <;> omega
        · have HCc := Lib.hid (pconcat_any L1 T1 NW.out.good ids ts g3 kt ct TA g4 (by omega) g7 (by have := cc_le kt (by omega); omega) B S G _ NW1.out.st (RowK.of_own OT1.out NW1.out.st HBD.out (by decide)))
          have hor : a < f ∨ m ≠ 0 := by
            by_cases hk0 : kt = 0
            · left; omega
            · right; intro e; exact hk0 (g6.2 e)
          have HR : Hid (r.length = kp ∧ Ext L T L1 T1 ∧ ts.flatten.length = m ∧ (a < f ∨ m ≠ 0) ∧ cc_ kt 20 ≤ kt * 361) := Lib.hid ⟨g2, g8, g5, hor, cc_le kt (by omega)⟩
          clear hjl hd hde hcap hT1 H g1 g2 g3 g4 g5 g6 g7 g8 ed hS1 hS2 HS2 hor NW OQ OP OT DW
          by_cases hlaf : a < f
          · have t1 : decide ((a : Int) < (f : Int)) = true := by simp; exact hlaf
            go_wp2_with fail
            (with_reducible refine HCc.out.mono ?_)
            rintro e w2 ⟨y, L2, T2, rfl, nw2, yy0, yy1, yt⟩
            have NW2 := NW1.out.after nw2 (show c0 + (j * 3701 + (j - kt) * 361) + cc_ kt 20 ≤ c0 + ((j + 1) * 3701 + (j + 1 - 0) * 361) by have := HR.out.2.2.2.2; omega)
            have X2 := BX1.out.sfr nw2.fr NW1.out.st HBW.out (by decide)
            have OQ2 := own_sfr OQ1.out nw2.fr NW1.out.st HQB.out (by decide)
            have OP2 := own_sfr OP1.out nw2.fr NW1.out.st HBD.out (by decide)
            have HF := Lib.hid (HS1.out L2 T2 y nw2.ext yy0 yy1 (by rw [yt]; exact HR.out.2.2.1) HR.out.2.2.2.1)
            have HE2 : Hid (Ext L T L2 T2) := Lib.hid (HR.out.2.1.trans nw2.ext)
            have S2 : D ≤ w2.heap.size := by have h1 := nw2.fr.size; simp at h1; have := HDW1.out; omega
            have HNW2 := Lib.hid NW2
            have NW3 := Lib.hid (NW2.alloc (.cells #[.int .i64 (a : Int), .int .i64 ((f : Int) - (a : Int)), .int .i64 y] 71))
            have OQ3 := Lib.hid (own_alloc OQ2 (.cells #[.int .i64 (a : Int), .int .i64 ((f : Int) - (a : Int)), .int .i64 y] 71))
            have OP3 := Lib.hid (own_alloc OP2 (.cells #[.int .i64 (a : Int), .int .i64 ((f : Int) - (a : Int)), .int .i64 y] 71))
            have X3 := Lib.hid (X2.alloc (.cells #[.int .i64 (a : Int), .int .i64 ((f : Int) - (a : Int)), .int .i64 y] 71))
            have HS2 := Lib.hid S2
            have wfa : IntKind.i64.wrap ((f : Int) - (a : Int)) = (f : Int) - (a : Int) := IntWalk.i64_in _ ⟨by omega, by omega⟩
            have wfn : IntKind.i64.wrap ((f : Int) + (n : Int)) = (f : Int) + (n : Int) := IntWalk.i64_in _ ⟨by omega, by omega⟩
            have z0 := X2.cell 0; have z1 := X2.cell 1; have z2 := X2.cell 2
            simp only [List.getElem?_toArray, List.getElem?_cons_zero, List.getElem?_cons_succ] at z0 z1 z2
            have z3 := X2.lt
            clear nw2 yy0 yy1 yt X2 OQ2 OP2 S2 NW2 NW1 OQ1 OP1 OT1 BX1 HCc HS1
            go_wp2_with (refine wpList_app _ (by rfl) (.tmp 66) (.tmp 74) _ rfl D 71 j0_ _ 3 24 Try.underlying32 HJ.out HY.out HY1.out HY2.out rfl (by omega) (.slice PA kp cp) kp (cgc r) rfl OP3.out (some ⟨w2.heap.size, 0, none⟩) 1 1 (cgc [⟨(a : Int), (f : Int) - (a : Int), y⟩]) rfl rfl ?row (cgc_one _) (by simp only [maxLen]; omega) (by omega) ?size ?_)
            case row => exact RowAt.new _ _ _ rfl rfl
            case size => have := HS2.out; simp; omega
            intro A6 c6 w6 own6 gr6 at6
            rw [← cgc_app] at own6
            have OP6 := Lib.hid own6
            have NW6 := Lib.hid (NW3.out.grown OP3.out HBD.out H0D.out (by decide) gr6)
            have OQ6 := Lib.hid (own_grown3 OQ3.out OP3.out (by decide) gr6)
            have X6 := box_grown3 X3.out OP3.out (by decide) gr6
            have DW6 : Hid (D ≤ w6.heap.size) := Lib.hid (by have := gr6.size; have := HS2.out; simp at *; omega)
            clear z0 z1 z2 z3
            have z0 := X6.cell 0; have z1 := X6.cell 1; have z2 := X6.cell 2
            simp only [List.getElem?_toArray, List.getElem?_cons_zero, List.getElem?_cons_succ] at z0 z1 z2
            have z3 := X6.lt
            clear own6 gr6 at6 X6 X3 NW3 OQ3 OP3 HNW2 HS2
            go_wp2_with fail
            go_roundw
            case rel => exact ⟨j + 1, kp + 1, 0, f + n, 0, c6, 0, A6, none, _, [], [], L2, T2, by go_num, by omega, rfl, rfl, by simp, by omega, by omega, by omega, Lib.hid ⟨HF.out, by simp [HR.out.1], Ids.nil _ _, rfl, rfl, ⟨fun _ => rfl, fun _ => rfl⟩, fun t h => by simp at h, HE2.out⟩, NW6, OQ6, OP6, Lib.hid ⟨by simp [vi], .inl ⟨rfl, rfl⟩⟩, DW6⟩
            case measure => simp [intOf] <;> omega
          · have t1 : decide ((a : Int) < (f : Int)) = false := by simp; omega
            have t2 : decide ((0 : Int) < (kt : Int)) = true := by simp; omega
            have kt0 : 0 < kt := by omega
            go_wp2_with fail
            (with_reducible refine HCc.out.mono ?_)
            rintro e w2 ⟨y, L2, T2, rfl, nw2, yy0, yy1, yt⟩
            have NW2 := NW1.out.after nw2 (show c0 + (j * 3701 + (j - kt) * 361) + cc_ kt 20 ≤ c0 + ((j + 1) * 3701 + (j + 1 - 0) * 361) by have := HR.out.2.2.2.2; omega)
            have X2 := BX1.out.sfr nw2.fr NW1.out.st HBW.out (by decide)
            have OQ2 := own_sfr OQ1.out nw2.fr NW1.out.st HQB.out (by decide)
            have OP2 := own_sfr OP1.out nw2.fr NW1.out.st HBD.out (by decide)
            have HF := Lib.hid (HS1.out L2 T2 y nw2.ext yy0 yy1 (by rw [yt]; exact HR.out.2.2.1) HR.out.2.2.2.1)
            have HE2 : Hid (Ext L T L2 T2) := Lib.hid (HR.out.2.1.trans nw2.ext)
            have S2 : D ≤ w2.heap.size := by have h1 := nw2.fr.size; simp at h1; have := HDW1.out; omega
            have HNW2 := Lib.hid NW2
            have NW3 := Lib.hid (NW2.alloc (.cells #[.int .i64 (a : Int), .int .i64 ((f : Int) - (a : Int)), .int .i64 y] 71))
            have OQ3 := Lib.hid (own_alloc OQ2 (.cells #[.int .i64 (a : Int), .int .i64 ((f : Int) - (a : Int)), .int .i64 y] 71))
            have OP3 := Lib.hid (own_alloc OP2 (.cells #[.int .i64 (a : Int), .int .i64 ((f : Int) - (a : Int)), .int .i64 y] 71))
            have X3 := Lib.hid (X2.alloc (.cells #[.int .i64 (a : Int), .int .i64 ((f : Int) - (a : Int)), .int .i64 y] 71))
            have HS2 := Lib.hid S2
            have wfa : IntKind.i64.wrap ((f : Int) - (a : Int)) = (f : Int) - (a : Int) := IntWalk.i64_in _ ⟨by omega, by omega⟩
            have wfn : IntKind.i64.wrap ((f : Int) + (n : Int)) = (f : Int) + (n : Int) := IntWalk.i64_in _ ⟨by omega, by omega⟩
            have z0 := X2.cell 0; have z1 := X2.cell 1; have z2 := X2.cell 2
            simp only [List.getElem?_toArray, List.getElem?_cons_zero, List.getElem?_cons_succ] at z0 z1 z2
            have z3 := X2.lt
            clear nw2 yy0 yy1 yt X2 OQ2 OP2 S2 NW2 NW1 OQ1 OP1 OT1 BX1 HCc HS1
            go_wp2_with (refine wpList_app _ (by rfl) (.tmp 66) (.tmp 74) _ rfl D 71 j0_ _ 3 24 Try.underlying32 HJ.out HY.out HY1.out HY2.out rfl (by omega) (.slice PA kp cp) kp (cgc r) rfl OP3.out (some ⟨w2.heap.size, 0, none⟩) 1 1 (cgc [⟨(a : Int), (f : Int) - (a : Int), y⟩]) rfl rfl ?row (cgc_one _) (by simp only [maxLen]; omega) (by omega) ?size ?_)
            case row => exact RowAt.new _ _ _ rfl rfl
            case size => have := HS2.out; simp; omega
            intro A6 c6 w6 own6 gr6 at6
            rw [← cgc_app] at own6
            have OP6 := Lib.hid own6
            have NW6 := Lib.hid (NW3.out.grown OP3.out HBD.out H0D.out (by decide) gr6)
            have OQ6 := Lib.hid (own_grown3 OQ3.out OP3.out (by decide) gr6)
            have X6 := box_grown3 X3.out OP3.out (by decide) gr6
            have DW6 : Hid (D ≤ w6.heap.size) := Lib.hid (by have := gr6.size; have := HS2.out; simp at *; omega)
            clear z0 z1 z2 z3
            have z0 := X6.cell 0; have z1 := X6.cell 1; have z2 := X6.cell 2
            simp only [List.getElem?_toArray, List.getElem?_cons_zero, List.getElem?_cons_succ] at z0 z1 z2
            have z3 := X6.lt
            clear own6 gr6 at6 X6 X3 NW3 OQ3 OP3 HNW2 HS2
            go_wp2_with fail
            go_roundw
            case rel => exact ⟨j + 1, kp + 1, 0, f + n, 0, c6, 0, A6, none, _, [], [], L2, T2, by go_num, by omega, rfl, rfl, by simp, by omega, by omega, by omega, Lib.hid ⟨HF.out, by simp [HR.out.1], Ids.nil _ _, rfl, rfl, ⟨fun _ => rfl, fun _ => rfl⟩, fun t h => by simp at h, HE2.out⟩, NW6, OQ6, OP6, Lib.hid ⟨by simp [vi], .inl ⟨rfl, rfl⟩⟩, DW6⟩
            case measure => simp [intOf] <;> omega
      · obtain ⟨hm, hSt⟩ := g1.text hd hz
        obtain ⟨pv0, px⟩ := HV.out _ hm
        have pv := pv0.ext g8 HT.out
        have f0 := pv.f0; have t0 := pv.t0; have t1_ := pv.t1
        obtain ⟨w1a, w1b⟩ := pv.w1 hz
        simp only at f0 t0 t1_ w1a w1b px
        obtain ⟨f, hf⟩ : ∃ f : Nat, df = (f : Int) := ⟨df.toNat, by omega⟩
        obtain ⟨n, hn⟩ : ∃ n : Nat, dx = (n : Int) := ⟨dx.toNat, by omega⟩
        subst hf; subst hn
        have NW1 := Lib.hid (NW.out.alloc (.cells #[.int .i64 dt, .int .i64 (f : Int), .int .i64 (n : Int)] 92))
        have OQ1 := Lib.hid (own_alloc OQ.out (.cells #[.int .i64 dt, .int .i64 (f : Int), .int .i64 (n : Int)] 92))
        have OP1 := Lib.hid (own_alloc OP.out (.cells #[.int .i64 dt, .int .i64 (f : Int), .int .i64 (n : Int)] 92))
        have OT1 := Lib.hid (own_alloc OT.out (.cells #[.int .i64 dt, .int .i64 (f : Int), .int .i64 (n : Int)] 92))
        have HSe := Lib.hid (psection_any L1 T1 NW.out.good dt (by omega) t1_ f n (by omega) (by omega) w1b hcap.1 B S G _ NW1.out.st)
        have tl : (((tx T1 dt).drop f).take n).length = n := by rw [List.length_take, List.length_drop]; omega
        have HR : Hid (r.length = kp ∧ Ext L T L1 T1 ∧ Ids L1 T1 ids ts ∧ ids.length = kt ∧ ts.flatten.length = m ∧ (∀ t ∈ ts, t.length ≤ 20) ∧ (((tx T1 dt).drop f).take n).length = n ∧ n ≤ 20 ∧ 1 ≤ n) := Lib.hid ⟨g2, g8, g3, g4, g5, g7, tl, by omega, by omega⟩
        have HSt : Hid (ColS N q (j + 1) L1 T1 r a (m + n)) := Lib.hid (by simpa using hSt)
        have HT1 := Lib.hid hT1
        have HDW1 : Hid (D ≤ wr.heap.size) := Lib.hid DW.out
        have tz : (dt == 0) = false := by rw [beq_eq_false_iff_ne]; exact hz
        clear hjl hd hde hcap hT1 H g1 g2 g3 g4 g5 g6 g7 g8 hSt hm pv0 px pv f0 t0 t1_ w1a w1b tl NW OQ OP OT DW hz
        go_wp2_with fail
        (with_reducible refine HSe.out.mono ?_)
        rintro e w2 ⟨y, L2, T2, rfl, nw2, yy0, yy1, yt⟩
        have NW2 := NW1.out.after nw2 (show c0 + (j * 3701 + (j - kt) * 361) + sc_ 20 ≤ c0 + ((j + 1) * 3701 + (j + 1 - (kt + 1)) * 361) by rw [sc20]; omega)
        have OQ2 := own_sfr OQ1.out nw2.fr NW1.out.st HQB.out (by decide)
        have OP2 := own_sfr OP1.out nw2.fr NW1.out.st HBD.out (by decide)
        have OT2 := own_sfr OT1.out nw2.fr NW1.out.st HBD.out (by decide)
        have S2 : D ≤ w2.heap.size := by have h1 := nw2.fr.size; simp at h1; have := HDW1.out; omega
        have HF : Hid (ColS N q (j + 1) L2 T2 r a (m + n) ∧ r.length = kp ∧ Ids L2 T2 (ids ++ [y]) (ts ++ [((tx T1 dt).drop f).take n]) ∧ (ids ++ [y]).length = kt + 1 ∧ (ts ++ [((tx T1 dt).drop f).take n]).flatten.length = m + n ∧ (kt + 1 = 0 ↔ m + n = 0) ∧ (∀ t ∈ ts ++ [((tx T1 dt).drop f).take n], t.length ≤ 20) ∧ Ext L T L2 T2) := Lib.hid (by
          obtain ⟨h1, h2, h3, h4, h5, h6, h7, h8, h9⟩ := HR.out
          refine ⟨HSt.out.ext nw2.ext HT1.out, h1, (h3.ext HT1.out nw2.ext).snoc yy0 yy1 yt, by simp [h4], by rw [List.flatten_append, List.length_append, h5]; simp [h7], by omega, fun t ht => ?_, h2.trans nw2.ext⟩
          rcases List.mem_append.1 ht with ht | ht
          · exact h6 t ht
          · obtain rfl := List.mem_singleton.1 ht; omega)
        have NW3 := Lib.hid (NW2.alloc (.cells #[.int .i64 y] 56))
        have OQ3 := Lib.hid (own_alloc OQ2 (.cells #[.int .i64 y] 56))
        have OP3 := Lib.hid (own_alloc OP2 (.cells #[.int .i64 y] 56))
        have OT3 := Lib.hid (own_alloc OT2 (.cells #[.int .i64 y] 56))
        have HS2 := Lib.hid S2
        clear nw2 yy0 yy1 yt OQ2 OP2 OT2 S2 NW2 NW1 OQ1 OP1 OT1 HSe
        go_wp2_with (refine wpList_app _ (by rfl) (.tmp 44) (.tmp 46) _ rfl D 56 k0_ _ 1 8 Try.underlying103 HK.out HXx.out HX1.out HX2.out rfl (by omega) (.slice TA kt ct) kt (vi ids) rfl OT3.out (some ⟨w2.heap.size, 0, none⟩) 1 1 (vi [y]) rfl rfl ?row (vi_one _) (by simp only [maxLen]; omega) (by omega) ?size ?_)
        case row => exact RowAt.new _ _ _ rfl rfl
        case size => have := HS2.out; simp; omega
        intro A6 c6 w6 own6 gr6 at6
        rw [← vi_app] at own6
        have OT6 := Lib.hid own6
        have NW6 := Lib.hid (NW3.out.grown OT3.out HBD.out H0D.out (by decide) gr6)
        have OQ6 := Lib.hid (own_grown3 OQ3.out OT3.out (by decide) gr6)
        have OP6 := Lib.hid (own_grown3 OP3.out OT3.out (by decide) gr6)
        have DW6 : Hid (D ≤ w6.heap.size) := Lib.hid (by have := gr6.size; have := HS2.out; simp at *; omega)
        clear own6 gr6 at6 NW3 OQ3 OP3 OT3 HS2
        go_wp2_with fail
        go_roundw
        case rel => exact ⟨j + 1, kp, kt + 1, a, m + n, cp, c6, PA, A6, r, _, _, L2, T2, by go_num, by omega, rfl, rfl, rfl, by omega, by omega, by omega, HF, NW6, OQ6, OP6, OT6, DW6⟩
        case measure => simp [intOf] <;> omega
    · obtain rfl : j = qn + 1 := by omega
      have HF : Hid (ColF N L1 T1 q r ∧ r.length = kp) := Lib.hid ⟨by have h := H.out.1; rw [← HQN.out] at h; exact h.end_, H.out.2.1⟩
      have NW2 := Lib.hid (NW.out.mono (show c0 + ((qn + 1) * 3701 + (qn + 1 - kt) * 361) ≤ c0 + 80 * 4062 by omega))
      clear H NW
      go_wp2_with fail
      go_ret2
      exact ⟨PA, cp, r, L1, T1, by rw [HF.out.2]; rfl, NW2.out, HF.out.1, by rw [HF.out.2]; omega, by rw [HF.out.2]; exact OP.out⟩
end Go.Proofs.Ytolhjkpekmmajaa
/- The walk of patch.Compose. -/
namespace Go.Proofs.Ytolhjkpekmmajaa
set_option linter.unusedVariables false
set_option linter.unusedSimpArgs false
open Go.RowKit Go.Lib Go.Maps Go.Deep
attribute [local go_sem ↓] Go.wp_at_zero Go.wp_at_succ
theorem own_box3 {w : World} {R : Nat} {t : TypeId} {x y z : Value} (h : Box w R t #[x, y, z]) : w.ownsRow R t 3 (.slice (some ⟨R, 0, none⟩) 1 1) 1 [x, y, z] :=
  ⟨rfl, .inr ⟨R, 1, _, rfl, Nat.le_refl _, h, Nat.le_refl _, by simp only [maxLen]; omega, by simp, by simp⟩⟩
theorem own_cap2_ {w : World} {base : Nat} {e : TypeId} {size n c : Nat} {A : Option Addr} {xs : List Value} (h : w.ownsRow base e size (.slice A n c) n xs) : n ≤ c := by
  rcases h.2 with ⟨hv, h0⟩ | ⟨g, cap, cur, hv, _, _, hn, _⟩
  · injection hv with _ h1 h2; omega
  · injection hv with _ h1 h2; omega
/-- the pieces behind both patches -/
def two (T : List (List Int)) (N : Nat) (p q : List Cg) (i : Nat) : List Cg := if i = 0 then [⟨0, 0, (N : Int)⟩] else if i = 1 then rpl T [⟨0, 0, (N : Int)⟩] p else rpl T (rpl T [⟨0, 0, (N : Int)⟩] p) q
structure TwoOk (L : List En) (T : List (List Int)) (N N2 : Nat) (p q : List Cg) : Prop where
  v : ∀ i, i ≤ 2 → ∀ c ∈ two T N p q i, PcV N L T c
  v2 : ∀ c ∈ two T N p q 2, PcV N L T c ∧ 1 ≤ c.x
  e0 : (exl (two T N p q 0)).length = N
  e1 : (exl (two T N p q 1)).length = N2
  e2 : exl (two T N p q 2) = gsp (gsp (x0 N) (ilT T) (nul T) p 0 0) (ilT T) (nul T) q 0 0
  mono : Mono N (two T N p q 2)
  n1 : (two T N p q 1).length ≤ 37
  n2 : (two T N p q 2).length ≤ 73
theorem two_ok {L : List En} {T : List (List Int)} {N N2 : Nat} (hN : N ≤ 100000) {p q : List Cg} (hp : POk N L.length p) (hp20 : ∀ c ∈ p, (tx T c.x).length ≤ 20) (hpl : p.length ≤ 12) (h2 : (N2 : Int) = newLen T N p) (hN2 : N2 ≤ 100000) (hq : POk N2 L.length q) (hq20 : ∀ c ∈ q, (tx T c.x).length ≤ 20) (hql : q.length ≤ 12) : TwoOk L T N N2 p q := by
  have e0 : exl (two T N p q 0) = x0 N := exo_x0 N
  have l0 : (exl (two T N p q 0)).length = N := by rw [e0, x0_len]
  have v0 : ∀ c ∈ two T N p q 0, PcV N L T c := fun c hc => by
    obtain rfl : c = ⟨0, 0, (N : Int)⟩ := by simpa [two] using hc
    exact ⟨Int.le_refl _, by show (0 : Int) ≤ N; omega, Int.le_refl _, by show (0 : Int) ≤ _; omega, fun _ => by show (0 : Int) + N ≤ N; omega, fun h => absurd rfl h⟩
  obtain ⟨a1, a2, a3⟩ := rpl_ok l0 (by omega) v0 hp hp20
  have t1 : rpl T (two T N p q 0) p = two T N p q 1 := rfl
  rw [t1] at a1 a2 a3
  rw [e0] at a1
  have l1 : (exl (two T N p q 1)).length = N2 := by
    have := gsp_newLen (T := T) (pok_ordd hp) (x0_len N)
    rw [a1]; omega
  obtain ⟨b1, b2, b3⟩ := rpl_ok l1 (by omega) (fun c hc => (a2 c hc).1) hq hq20
  have t2 : rpl T (two T N p q 1) q = two T N p q 2 := rfl
  rw [t2] at b1 b2 b3
  rw [a1] at b1
  have z0 : (two T N p q 0).length = 1 := rfl
  refine ⟨fun i hi => ?_, b2, l0, l1, b1, ?_, by omega, by omega⟩
  · match i, hi with
    | 0, _ => exact v0
    | 1, _ => exact fun c hc => (a2 c hc).1
    | 2, _ => exact fun c hc => (b2 c hc).1
  · unfold Mono
    rw [b1]
    have s1 := gsp_sub T (gsp (x0 N) (ilT T) (nul T) p 0 0) q 0 0 (pok_ordd hq)
    have s2 := gsp_sub T (x0 N) p 0 0 (pok_ordd hp)
    rw [List.drop_zero] at s1 s2
    rw [x0_kept] at s2
    exact s1.trans s2
def CmpOut (B S G : Nat) (L : List En) (T : List (List Int)) (N : Nat) (q2 : List Cg) (w : World) (e : Ending) (w' : World) : Prop :=
  ∃ A k r L' T', e = .returned (.tuple #[.slice A r.length k, .nilIface]) ∧ Now B S G L T (80 * 4062) w w' L' T' ∧ ColF N L' T' q2 r ∧ r.length ≤ 81 ∧ w'.ownsRow w.heap.size 71 3 (.slice A r.length k) r.length (cgc r)
set_option maxRecDepth 100000 in
set_option maxHeartbeats 32000000 in
theorem pcomp_any (L : List En) (T : List (List Int)) (hg : Good L T) (N N2 : Nat) (hN : N ≤ 10000) (p q : List Cg) (hp : POk N L.length p) (hp20 : ∀ c ∈ p, (tx T c.x).length ≤ 20) (h2 : (N2 : Int) = newLen T N p) (hN2 : N2 ≤ 10000) (hq : POk N2 L.length q) (hq20 : ∀ c ∈ q, (tx T c.x).length ≤ 20)
    (hpu : up T p p.length ≤ 10000) (hqu : up T q q.length ≤ 10000) (pn pc qn qc : Nat) (PA QA : Option Addr) (hpn : p.length = pn) (hqn : q.length = qn) (hpl : pn ≤ 12) (hql : qn ≤ 12) (hc : L.length + 80 * 4062 ≤ 1048576)
    (B S G : Nat) (w : World) (st : St w B S G L) (ha : RowAt w PA (cgc p)) (hb : RowAt w QA (cgc q)) :
    Calls Try.prog 11 #[.pointer (some ⟨S, 0, none⟩), .int .i64 (N : Int), .slice PA pn pc, .slice QA qn qc] w (CmpOut B S G L T N (two T N p q 2) w) := by
  have TO := Lib.hid (two_ok (N2 := N2) (by omega) hp hp20 (by omega) h2 (by omega) hq hq20 (by omega))
  have HL1 := Lib.hid (fun w st ha => plength_any L T hg (N : Int) (by omega) (by omega) p pn pc PA hpn (by omega) hp (by rw [← hpn]; omega) B S G w st ha)
  have HL2 := Lib.hid (fun w st ha => plength_any L T hg (N2 : Int) (by omega) (by omega) q qn qc QA hqn (by omega) hq (by rw [← hqn]; omega) B S G w st ha)
  obtain ⟨N3, hN3⟩ : ∃ N3, N3 = newLen T N2 q := ⟨_, rfl⟩
  rw [← h2] at HL1
  rw [← hN3] at HL2
  have HR0 := Lib.hid (fun c A qn hqn hqc hqb w st hq hpr => prepl_any L T hg N (by omega) N (by omega) (two T N p q 0) TO.out.e0 (TO.out.v 0 (by omega)) p hp hp20 qn c A hqn hqc hqb pn pc PA hpn (by omega) B S G w st hq hpr)
  have HR1 := Lib.hid (fun c A n hn hc hb w st hq' hpr => prepl_any L T hg N2 (by omega) N (by omega) (two T N p q 1) TO.out.e1 (TO.out.v 1 (by omega)) q hq hq20 n c A hn hc hb qn qc QA hqn (by omega) B S G w st hq' hpr)
  have HST := Lib.hid st; have HA := Lib.hid ha; have HB := Lib.hid hb; have HG := Lib.hid hg; have HC := Lib.hid hc
  have HBW : Hid (B ≤ w.heap.size) := Lib.hid st.lt.2.2
  clear hg hp hp20 h2 hq hq20 hpu hqu hpn hqn hc st ha hb hN3
  go_enter Try.func11, Try.ntmps11
  go_wp2_with fail
  (with_reducible refine (HL1.out _ HST.out HA.out).mono ?_)
  rintro e w1 ⟨rfl, B1⟩
  have BW1 := Lib.hid B1
  have HS1 := Lib.hid (HST.out.below B1)
  have HB1 := Lib.hid (HB.out.below B1 (Nat.le_refl _))
  clear B1
  go_wp2_with fail
  (with_reducible refine (HL2.out _ HS1.out HB1.out).mono ?_)
  rintro e w2 ⟨rfl, B2⟩
  have BW2 := Lib.hid (balloc (balloc (bkeep BW1.out B2) (.cells #[.int .i64 0, .int .i64 0, .int .i64 (N : Int)] 92)) (.cells #[.slice PA pn pc, .slice QA qn qc] 32))
  have OW2 : Hid (((w2.alloc (.cells #[.int .i64 0, .int .i64 0, .int .i64 (N : Int)] 92)).alloc (.cells #[.slice PA pn pc, .slice QA qn qc] 32)).ownsRow w.heap.size 92 3 (.slice (some ⟨w2.heap.size, 0, none⟩) 1 1) 1 (cgc (two T N p q 0))) :=
    Lib.hid (own_low (own_alloc (own_box3 (Box.new w2 92 #[.int .i64 0, .int .i64 0, .int .i64 (N : Int)])) _) (bkeep BW1.out B2).size)
  have BX2 := Lib.hid (Box.new (w2.alloc (.cells #[.int .i64 0, .int .i64 0, .int .i64 (N : Int)] 92)) 32 #[.slice PA pn pc, .slice QA qn qc])
  obtain ⟨g, hg⟩ : ∃ g, g = (w2.alloc (.cells #[.int .i64 0, .int .i64 0, .int .i64 (N : Int)] 92)).heap.size := ⟨_, rfl⟩
  rw [← hg] at BX2
  have hg2 : w2.heap.size + 1 = g := by rw [hg]; simp
  have HGG := Lib.hid hg2
  clear B2 HL1 HL2 HS1 HB1 hg hg2 BW1
  go_wp2_with fail
  rw [HGG.out]
  go_loopw [11, 14, 16, 44] (fun _ s14 _ s44 wr => ∃ (i k c : Nat) (A : Option Addr), s44 = .int .i64 (i : Int) ∧ i ≤ 2 ∧ s14 = .slice A k c ∧ Hid ((two T N p q i).length = k) ∧ Hid (Below w.heap.size w wr) ∧ Hid (wr.ownsRow w.heap.size 92 3 (.slice A k c) k (cgc (two T N p q i))) ∧ Hid (Box wr g 32 #[.slice PA pn pc, .slice QA qn qc])) (fun _ _ _ s44 _ => 2 - (intOf s44).toNat)
  case atStart => exact ⟨0, 1, 1, _, rfl, by omega, rfl, Lib.hid rfl, BW2, OW2, BX2⟩
  case round =>
    clear BW2 OW2 BX2
    obtain ⟨i, k, c, A, rfl, hi, rfl, HK, BW, OW, BX⟩ := hrel
    have b0 := BX.out.cell 0; have b1 := BX.out.cell 1
    simp only [List.getElem?_toArray, List.getElem?_cons_zero, List.getElem?_cons_succ] at b0 b1
    have bl := BX.out.lt
    match i, hi with
    | 0, _ =>
      have HCl := Lib.hid (HR0.out c A k HK.out (own_cap2_ OW.out) (by have h := HK.out; have : (two T N p q 0).length = 1 := rfl; omega) wr (HST.out.below BW.out) (own_row _ OW.out) (HA.out.below BW.out (Nat.le_refl _)))
      have HL0 := Lib.hid BW.out.size
      clear OW
      go_wp2_with fail
      (with_reducible refine HCl.out.mono ?_)
      rintro e w3 ⟨A3, c3, rfl, B3, own3⟩
      have BW3 := Lib.hid (bkeep BW.out B3)
      have BX3 := Lib.hid (BX.out.below B3 BX.out.lt)
      have OW3 : Hid (w3.ownsRow w.heap.size 92 3 (.slice A3 (two T N p q 1).length c3) (two T N p q 1).length (cgc (two T N p q 1))) := Lib.hid (own_low own3 HL0.out)
      clear B3 own3 HCl
      go_wp2_with fail
      go_roundw
      case rel => exact ⟨1, (two T N p q 1).length, c3, A3, by go_num, by omega, rfl, Lib.hid rfl, BW3, OW3, BX3⟩
      case measure => simp [intOf] <;> omega
    | 1, _ =>
      have HCl := Lib.hid (HR1.out c A k HK.out (own_cap2_ OW.out) (by have h := HK.out; have := TO.out.n1; omega) wr (HST.out.below BW.out) (own_row _ OW.out) (HB.out.below BW.out (Nat.le_refl _)))
      have HL0 := Lib.hid BW.out.size
      clear OW
      go_wp2_with fail
      (with_reducible refine HCl.out.mono ?_)
      rintro e w3 ⟨A3, c3, rfl, B3, own3⟩
      have BW3 := Lib.hid (bkeep BW.out B3)
      have BX3 := Lib.hid (BX.out.below B3 BX.out.lt)
      have OW3 : Hid (w3.ownsRow w.heap.size 92 3 (.slice A3 (two T N p q 2).length c3) (two T N p q 2).length (cgc (two T N p q 2))) := Lib.hid (own_low own3 HL0.out)
      clear B3 own3 HCl
      go_wp2_with fail
      go_roundw
      case rel => exact ⟨2, (two T N p q 2).length, c3, A3, by go_num, by omega, rfl, Lib.hid rfl, BW3, OW3, BX3⟩
      case measure => simp [intOf] <;> omega
    | 2, _ =>
      have HCl := Lib.hid (pcol_any L T 0 w L T N (by omega) (two T N p q 2) TO.out.v2 TO.out.mono k c A HK.out (by have h := HK.out; have := TO.out.n2; omega) (by have := HC.out; omega) B S G wr ((Now.start HST.out HG.out).below BW.out) w.heap.size HBW.out (Nat.le_refl _) BW.out.size OW.out)
      have HL0 := Lib.hid BW.out.size
      clear OW
      go_wp2_with fail
      (with_reducible refine HCl.out.mono ?_)
      rintro e w3 ⟨A3, c3, r, L3, T3, rfl, nw3, cf, rl, own3⟩
      have NW3 := Lib.hid (nw3.mono (show 0 + 80 * 4062 ≤ 80 * 4062 by omega))
      have HF := Lib.hid cf
      have OW3 := Lib.hid (own_low own3 HL0.out)
      clear nw3 cf own3 HCl
      go_wp2_with fail
      go_ret2
      exact ⟨A3, c3, r, L3, T3, rfl, NW3.out, HF.out, rl, OW3.out⟩
end Go.Proofs.Ytolhjkpekmmajaa
/- The walk of anchor.prepare, with one anchor. Written by wip/gen/prepone.py from XPrep. -/
namespace Go.Proofs.Ytolhjkpekmmajaa
set_option linter.unusedVariables false
set_option linter.unusedSimpArgs false
open Go.RowKit Go.Lib Go.Maps
attribute [local go_sem ↓] Go.wp_at_zero Go.wp_at_succ
set_option maxRecDepth 100000 in
set_option maxHeartbeats 16000000 in
theorem prep1_any (L : List En) (T : List (List Int)) (hg : Good L T) (N : Nat) (p : List Cg) (n c : Nat) (A : Option Addr) (hl : p.length = n) (hn : n ≤ 100000) (hp : POk N L.length p) (hv : (N : Int) + up T p p.length ≤ 20000)
    (B S G : Nat) (w : World) (st : St w B S G L) (ha : RowAt w A (cgc p)) (a : Int) (rt : Bool) (a0 : 0 ≤ a) (a1 : a ≤ N) (LA : Option Addr) (hla : RowAt w LA [.int .i64 a, .bool rt]) :
    Calls Try.prog 24 #[.pointer (some ⟨S, 0, none⟩), .int .i64 (N : Int), .slice A n c, .slice LA 1 1] w (PrepOut T N p w) := by
  obtain ⟨i0_, hi0, hz0, hz1, hz2⟩ := info_parts5 info_move
  have HI := Lib.hid hi0; have HZ := Lib.hid hz0; have HZ1 := Lib.hid hz1; have HZ2 := Lib.hid hz2
  have up0 := up_pos T p p.length
  have dnb := dn_bound hp (by omega)
  have HV := Lib.hid (fun w => valid_any (N : Int) w)
  rw [vld_yes N (by omega) (by omega)] at HV
  have HPL := Lib.hid (fun w st ha => plength_any L T hg N (by omega) (by omega) p n c A hl hn hp (by rw [← hl]; omega) B S G w st ha)
  obtain ⟨nl, hnl⟩ : ∃ nl, nl = newLen T N p := ⟨_, rfl⟩
  have nl0 : 0 ≤ nl ∧ nl ≤ 20000 := by have := dnb p.length (Nat.le_refl _); rw [hnl]; unfold newLen; omega
  rw [← hnl] at HPL
  have HNL := Lib.hid hnl.symm
  have BW0 := Lib.hid (balloc (Below.refl w.heap.size w) (.cells #[.slice none 0 0, .int .i64 0] 84))
  have BX0 := Lib.hid (Box.new w 84 #[.slice none 0 0, .int .i64 0])
  obtain ⟨w0, hw0⟩ : ∃ w0, w0 = w.alloc (.cells #[.slice none 0 0, .int .i64 0] 84) := ⟨_, rfl⟩
  obtain ⟨Q, hQ⟩ : ∃ Q, Q = w.heap.size := ⟨_, rfl⟩
  rw [← hw0] at BW0 BX0
  rw [← hQ] at BX0
  have HW0 := Lib.hid hw0.symm
  have HQ := Lib.hid hQ.symm
  have HG := Lib.hid hg; have HST := Lib.hid st; have HA := Lib.hid ha; have HL := Lib.hid hl; have HP := Lib.hid hp; have HVV := Lib.hid hv
  have HDN := Lib.hid dnb
  have HLA := Lib.hid hla
  have N0 : (0 : Int) ≤ (N : Int) := Int.natCast_nonneg N
  have N1 : (N : Int) ≤ 20000 := by omega
  clear hi0 hz0 hz1 hz2 up0 dnb hnl hw0 hQ hg st ha hl hp hv hla
  go_enter Try.func24, Try.ntmps24
  go_wp2_with fail
  (with_reducible refine (HV.out _).mono ?_)
  rintro e w' ⟨rfl, rfl⟩
  go_wp2_with fail
  rw [HW0.out, HQ.out]
  go_loopw [11, 32] (fun _ si wr => ∃ (li : Nat), si = .int .i64 (li : Int) ∧ li ≤ 1 ∧ Hid (Below w.heap.size w wr) ∧ Hid (Box wr Q 84 #[.slice none 0 0, .int .i64 0])) (fun _ si _ => 1 - (intOf si).toNat)
  case atStart => exact ⟨0, rfl, by omega, BW0, BX0⟩
  case round =>
    clear BW0 BX0 HW0
    obtain ⟨li, rfl, hli, BW0, BX0⟩ := hrel
    by_cases hl1 : li < 1
    · obtain rfl : li = 0 := by omega
      obtain ⟨lad, rfl, ladl, v0⟩ := (HLA.out.below BW0.out (Nat.le_refl _)).get (k := 0) (u := .int .i64 a) rfl
      obtain ⟨lad2, e2, _, v1⟩ := (HLA.out.below BW0.out (Nat.le_refl _)).get (k := 1) (u := .bool rt) rfl
      cases e2
      have e0 : lad.add 0 = lad := by simp [Addr.add]
      have e1 : lad.add 1 = ⟨lad.block, lad.off + 1, none⟩ := by simpa using add_succ_ lad 0
      rw [e0] at v0
      rw [e1] at v1
      have t1 : decide (a < 0) = false := by simp; omega
      have t2 : decide ((N : Int) < a) = false := by simp; omega
      have BW1 := Lib.hid (balloc BW0.out (.cells #[.int .i64 a, .bool rt] 50))
      have BX1 := Lib.hid (BX0.out.alloc (.cells #[.int .i64 a, .bool rt] 50))
      clear e0 e1 BW0 BX0
      go_wp2_with fail
      go_roundw
      case rel => exact ⟨1, by go_num, by omega, BW1, BX1⟩
      case measure => simp [intOf]
    · obtain rfl : li = 1 := by omega
      have HS0 := Lib.hid (HST.out.below BW0.out)
      have HA0 := Lib.hid (HA.out.below BW0.out (Nat.le_refl _))
      go_wp2_with fail
      (with_reducible refine (HPL.out _ HS0.out HA0.out).mono ?_)
      rintro e w2 ⟨rfl, B2⟩
      have BW2 := Lib.hid (balloc (bkeep BW0.out B2) (.cells #[.slice none 0 0, .int .i64 nl] 84))
      have BX2 := Lib.hid ((BX0.out.below B2 BX0.out.lt).alloc (.cells #[.slice none 0 0, .int .i64 nl] 84))
      have BD2 := Lib.hid (Box.new w2 84 #[.slice none 0 0, .int .i64 nl])
      obtain ⟨D, hD⟩ : ∃ D, D = w2.heap.size := ⟨_, rfl⟩
      rw [← hD] at BD2
      have HD := Lib.hid hD.symm
      have HQD : Hid (Q < D) := Lib.hid (by rw [hD]; exact (BX0.out.below B2 BX0.out.lt).lt)
      clear B2 BW0 BX0 hD HS0 HA0
      go_wp2_with fail
      rw [HD.out]
      go_loopw [15, 17, 18, 19, 20, 63] (fun s15 _ _ _ _ si wr => ∃ (i c1 : Nat) (sh : Int) (A1 : Option Addr) (M : List Mv), si = .int .i64 (i : Int) ∧ i ≤ n ∧ s15 = .int .i64 sh ∧ Hid (M ++ mvs T sh (p.drop i) = mvs T 0 p ∧ M.length = i ∧ sh = up T p i - dn p i) ∧ Hid (Below w.heap.size w wr) ∧ Hid (Box wr Q 84 #[.slice none 0 0, .int .i64 0]) ∧ Hid (Box wr D 84 #[.slice A1 i c1, .int .i64 nl]) ∧ Hid (wr.ownsRow Q 89 4 (.slice A1 i c1) i (mvc M))) (fun _ _ _ _ _ si _ => n - (intOf si).toNat)
      case atStart => exact ⟨0, 0, 0, none, [], rfl, by omega, rfl, Lib.hid ⟨rfl, rfl, by rw [up_zero, dn_zero]; rfl⟩, BW2, BX2, BD2, Lib.hid ⟨rfl, .inl ⟨rfl, rfl⟩⟩⟩
      case round =>
        clear BW2 BX2 BD2
        obtain ⟨i, c1, sh, A1, M, rfl, hi, rfl, HM, BW, BX, BD, OW⟩ := hrel
        by_cases hlt : i < n
        · have hil : i < p.length := by rw [HL.out]; exact hlt
          have hc := List.getElem?_eq_getElem hil
          obtain ⟨k1, k2, k3, k4, x0, x1, k7⟩ := HP.out i _ hc
          obtain ⟨hm1, hm2, hm3⟩ := HM.out
          have us := up_succ T hc
          have ds := dn_succ hc
          have d1 := HDN.out i (by omega); have d2 := HDN.out (i + 1) (by omega)
          have u0 := up_pos T p i; have u1 := up_mono T p (show i + 1 ≤ p.length by omega)
          have hvv := HVV.out
          have ms := mvs_step T sh hc
          obtain ⟨cg, hcg⟩ : ∃ cg, cg = p[i] := ⟨_, rfl⟩
          rw [← hcg] at hc x0 x1 k2 k3 k4 us ds ms
          obtain ⟨ad, rfl, adl, c0_, c1_, c2_⟩ := row_cg (HA.out.below BW.out (Nat.le_refl _)) hc
          obtain ⟨ca, cn, cx⟩ := cg
          simp only at c0_ c1_ c2_ x0 x1 k2 k3 k4 us ds ms
          have HW := Lib.hid (fun w st => weight_any L cx x0 x1 HG.out.cap B S G w st)
          have e : (ent L cx).w.n = (tx T cx).length := by rw [(HG.out.any x0 x1).w]; rfl
          obtain ⟨u, hu⟩ : ∃ u, u = (ent L cx).w := ⟨_, rfl⟩
          rw [← hu] at HW e
          obtain ⟨y0, y1, y2, y3, y4, y5⟩ := u
          simp only at e
          rw [← e] at us ms
          have HW' : Hid (∀ w, St w B S G L → Calls Try.prog 34 #[.pointer (some ⟨S, 0, none⟩), .int .i64 cx] w fun r w' => r = .returned (.tuple #[.agg #[.int .i64 y0, .int .i64 y1, .int .i64 y2, .int .i64 y3, .int .u64 y4, .int .u64 y5], .nilIface]) ∧ Below w.heap.size w w') := HW
          have yb : 0 ≤ y0 ∧ y0 ≤ 20000 := by omega
          have cab : 0 ≤ ca ∧ ca ≤ 20000 := by
            constructor
            · by_cases hi0 : i = 0
              · subst hi0; omega
              · omega
            · omega
          have cnb : 0 ≤ cn ∧ cn ≤ 20000 := by omega
          have shb : -20000 ≤ sh ∧ sh ≤ 20000 := by omega
          have HMS : Hid ((M ++ [(⟨ca, ca + cn, ca + sh, ca + sh + y0⟩ : Mv)]) ++ mvs T (sh + (y0 - cn)) (p.drop (i + 1)) = mvs T 0 p ∧ (M ++ [(⟨ca, ca + cn, ca + sh, ca + sh + y0⟩ : Mv)]).length = i + 1 ∧ sh + (y0 - cn) = up T p (i + 1) - dn p (i + 1)) := Lib.hid ⟨by rw [← hm1, ms]; simp, by simp [hm2], by omega⟩
          have BA := Lib.hid (balloc BW.out (.cells #[.int .i64 ca, .int .i64 cn, .int .i64 cx] 71))
          have X1 := Lib.hid (Box.new wr 71 #[.int .i64 ca, .int .i64 cn, .int .i64 cx])
          have HSA := Lib.hid (HST.out.below BA.out)
          have ib : i ≤ 100000 := by omega
          have HDL := Lib.hid BD.out.lt
          obtain ⟨yb0, yb1⟩ := yb; obtain ⟨ca0, ca1⟩ := cab; obtain ⟨cn0, cn1⟩ := cnb; obtain ⟨sh0, sh1⟩ := shb
          clear hc hcg x0 x1 k1 k2 k3 k4 k7 hm1 hm2 hm3 us ds d1 d2 u0 u1 hvv ms HW e hu HM
          go_wp2_with fail
          (with_reducible refine (HW'.out _ HSA.out).mono ?_)
          rintro e w2 ⟨rfl, B2⟩
          have wq : Hid (wr.heap.size < w2.heap.size) := Lib.hid (by have := B2.size; simp at this; omega)
          have X2 := (X1.out.below B2 X1.out.lt).alloc (.cells #[.int .i64 y0, .int .i64 y1, .int .i64 y2, .int .i64 y3, .int .u64 y4, .int .u64 y5] 110)
          have Y2 := Box.new w2 110 #[.int .i64 y0, .int .i64 y1, .int .i64 y2, .int .i64 y3, .int .u64 y4, .int .u64 y5]
          have D2 := ((BD.out.alloc (.cells #[.int .i64 ca, .int .i64 cn, .int .i64 cx] 71)).below B2 (by have := BD.out.lt; simp; omega)).alloc (.cells #[.int .i64 y0, .int .i64 y1, .int .i64 y2, .int .i64 y3, .int .u64 y4, .int .u64 y5] 110)
          have Q2 := ((BX.out.alloc (.cells #[.int .i64 ca, .int .i64 cn, .int .i64 cx] 71)).below B2 (by have := BX.out.lt; simp; omega)).alloc (.cells #[.int .i64 y0, .int .i64 y1, .int .i64 y2, .int .i64 y3, .int .u64 y4, .int .u64 y5] 110)
          have BW2 := balloc (bkeep BA.out B2) (.cells #[.int .i64 y0, .int .i64 y1, .int .i64 y2, .int .i64 y3, .int .u64 y4, .int .u64 y5] 110)
          have OW2 := own_alloc (own_below (own_alloc OW.out (.cells #[.int .i64 ca, .int .i64 cn, .int .i64 cx] 71)) B2) (.cells #[.int .i64 y0, .int .i64 y1, .int .i64 y2, .int .i64 y3, .int .u64 y4, .int .u64 y5] 110)
          have X3 := Lib.hid (X2.alloc (.cells #[.int .i64 ca, .int .i64 (ca + cn), .int .i64 (ca + sh), .int .i64 (ca + sh + y0)] 89))
          have Y3 := Lib.hid (Y2.alloc (.cells #[.int .i64 ca, .int .i64 (ca + cn), .int .i64 (ca + sh), .int .i64 (ca + sh + y0)] 89))
          have D3 := Lib.hid (D2.alloc (.cells #[.int .i64 ca, .int .i64 (ca + cn), .int .i64 (ca + sh), .int .i64 (ca + sh + y0)] 89))
          have Q3 := Lib.hid (Q2.alloc (.cells #[.int .i64 ca, .int .i64 (ca + cn), .int .i64 (ca + sh), .int .i64 (ca + sh + y0)] 89))
          have BW3 := Lib.hid (balloc BW2 (.cells #[.int .i64 ca, .int .i64 (ca + cn), .int .i64 (ca + sh), .int .i64 (ca + sh + y0)] 89))
          have OW3 := Lib.hid (own_alloc OW2 (.cells #[.int .i64 ca, .int .i64 (ca + cn), .int .i64 (ca + sh), .int .i64 (ca + sh + y0)] 89))
          have BW2' := Lib.hid BW2
          have x0 := X2.cell 0; have x1 := X2.cell 1; have x2 := X2.cell 2
          simp only [List.getElem?_toArray, List.getElem?_cons_zero, List.getElem?_cons_succ] at x0 x1 x2
          have z0 := Y2.cell 0; have z1 := Y2.cell 1; have z2 := Y2.cell 2; have z3 := Y2.cell 3; have z4 := Y2.cell 4; have z5 := Y2.cell 5
          simp only [List.getElem?_toArray, List.getElem?_cons_zero, List.getElem?_cons_succ] at z0 z1 z2 z3 z4 z5
          have d0 := D2.cell 0; have d1 := D2.cell 1
          simp only [List.getElem?_toArray, List.getElem?_cons_zero, List.getElem?_cons_succ] at d0 d1
          have xl := X2.lt; have yl := Y2.lt; have dl := D2.lt
          clear B2 X2 Y2 D2 Q2 BW2 OW2 X1 BA BX BD OW BW
          go_wp2_with (refine wpList_app _ (by rfl) (.tmp 83) (.tmp 97) _ rfl Q 89 i0_ _ 4 32 Try.underlying82 HI.out HZ.out HZ1.out HZ2.out rfl (by omega) (.slice A1 i c1) i (mvc M) rfl OW3.out (some ⟨w2.heap.size + 1, 0, none⟩) 1 1 (mvc [⟨ca, ca + cn, ca + sh, ca + sh + y0⟩]) rfl rfl ?row (mvc_one _) (by simp only [maxLen]; omega) (by omega) ?size ?_)
          case row => exact RowAt.of_block (Box.new_ (by simp))
          case size => have := BW3.out.size; have := HQ.out; omega
          intro A5 c5 w5 own5 gr5 at5
          have BW5 := Lib.hid (below_grown BW3.out OW3.out (by rw [HQ.out]; exact Nat.le_refl _) BW3.out.size gr5)
          have X5 := box_grown3 X3.out OW3.out (by decide) gr5
          have Y5 := box_grown3 Y3.out OW3.out (by decide) gr5
          have D5 := box_grown3 D3.out OW3.out (by decide) gr5
          have Q5 := box_grown3 Q3.out OW3.out (by decide) gr5
          rw [← mvc_app] at own5
          have ne1 : ∀ k, wr.heap.size ≤ k → D ≠ k := fun k hk => by have := HDL.out; omega
          have ne2 : D ≠ Q := by have := HQD.out; omega
          have D6 := D5.set_ 0 (.slice A5 (i + 1) c5)
          have X6 := X5.far (p := ⟨D, 0, none⟩) (ne1 _ (Nat.le_refl _)).symm (.slice A5 (i + 1) c5)
          have Y6 := Y5.far (p := ⟨D, 0, none⟩) (ne1 _ (Nat.le_of_lt wq.out)).symm (.slice A5 (i + 1) c5)
          have Q6 := Lib.hid (Q5.far (p := ⟨D, 0, none⟩) ne2.symm (.slice A5 (i + 1) c5))
          have OW6 := Lib.hid (own_setBox own5 D5 (by decide) 0 (.slice A5 (i + 1) c5))
          have BW6 := Lib.hid (BW5.out.setCell (p := ⟨D, 0, none⟩) (by show w.heap.size ≤ D; have := HQD.out; have := HQ.out; omega) (.slice A5 (i + 1) c5))
          have D6' := Lib.hid D6
          have f5 := D5.free 0; have dl5 := D5.lt
          have g0 := D5.cell 0; have g1 := D5.cell 1
          simp only [List.getElem?_toArray, List.getElem?_cons_zero, List.getElem?_cons_succ] at g0 g1
          have h0 := X6.cell 0; have h1 := X6.cell 1; have h2 := X6.cell 2
          simp only [List.getElem?_toArray, List.getElem?_cons_zero, List.getElem?_cons_succ] at h0 h1 h2
          have k0 := Y6.cell 0; have k1 := Y6.cell 1; have k2 := Y6.cell 2; have k3 := Y6.cell 3; have k4 := Y6.cell 4; have k5 := Y6.cell 5
          simp only [List.getElem?_toArray, List.getElem?_cons_zero, List.getElem?_cons_succ] at k0 k1 k2 k3 k4 k5
          clear own5 gr5 at5 X5 Y5 D5 Q5 ne1 ne2 D6 X6 Y6 X3 Y3 D3 Q3 OW3 BW3 x0 x1 x2 z0 z1 z2 z3 z4 z5 d0 d1
          go_wp2_with fail
          go_roundw
          case rel => exact ⟨i + 1, c5, _, A5, _, by go_num, by omega, rfl, HMS, BW6, Q6, D6', OW6⟩
          case measure => simp [intOf]; omega
        · obtain rfl : i = n := by omega
          have b0 := BD.out.cell 0; have b1 := BD.out.cell 1; have q0 := BX.out.cell 0; have q1 := BX.out.cell 1; have f0 := BX.out.free 0; have f1 := BX.out.free 1
          have ql := BX.out.lt; have dl := BD.out.lt
          simp only [List.getElem?_toArray, List.getElem?_cons_zero, List.getElem?_cons_succ] at b0 b1 q0 q1
          have ro := own_row _ OW.out
          go_wp2_with fail
          refine bodyPost_ret (v := .tuple #[.agg #[.slice A1 i c1, .int .i64 nl], .nilIface]) ?_ rfl ⟨A1, c1, ?_, ?_, ?_⟩
          · simp only [results, Try.results24]
            simp [go_sem, q0, q1]
          · rw [HL.out, HNL.out]
          · exact (BW.out.setCell (p := ⟨Q, 0, none⟩) (by show w.heap.size ≤ Q; rw [HQ.out]; exact Nat.le_refl _) _).setCell (p := ⟨Q, 1, none⟩) (by show w.heap.size ≤ Q; rw [HQ.out]; exact Nat.le_refl _) _
          · have hm := HM.out.1
            have hend : p.drop i = [] := List.drop_eq_nil_of_le (by rw [HL.out]; exact Nat.le_refl _)
            rw [hend] at hm
            have hm : M ++ [] = mvs T 0 p := hm
            rw [← hm, List.append_nil]
            exact own_row _ (own_setBox (own_setBox OW.out BX.out (by decide) 0 _) (BX.out.set_ 0 _) (by decide) 1 _)
end Go.Proofs.Ytolhjkpekmmajaa
/- The walks of sort.Search with letter$1, of letter$1, of letter. Written by wip/gen/letter.py. -/
namespace Go.Proofs.Ytolhjkpekmmajaa
set_option linter.unusedVariables false
set_option linter.unusedSimpArgs false
open Go.RowKit Go.Lib Go.Maps
attribute [local go_sem ↓] Go.wp_at_zero Go.wp_at_succ
set_option maxRecDepth 100000 in
set_option maxHeartbeats 4000000 in
theorem search2_any (P1 P2 : Option Addr) (n k : Nat) (hn : n ≤ 100000) (hk : k ≤ n) (f : Nat → Bool) (f0 : ∀ i, i < k → f i = false) (f1 : ∀ i, k ≤ i → i < n → f i = true) (w : World)
    (HF : ∀ i, i < n → ∀ j, Calls Try.prog 61 #[.int .i64 (i : Int), .pointer P1, .pointer P2] (w.drewN j) (Quiet (.bool (f i)) (w.drewN j))) :
    Calls Try.prog 25 #[.int .i64 (n : Int), .func (.func 61) #[] #[.pointer P1, .pointer P2]] w (Quiet (.int .i64 (k : Int)) w) := by
  have H := Lib.hid HF; have H0 := Lib.hid f0; have H1 := Lib.hid f1
  clear HF f0 f1
  go_enter Try.func25, Try.ntmps25
  go_wp2_with fail
  go_loopw [5, 6, 7] (fun s5 s6 _ wr => ∃ (i j : Nat), s5 = .int .i64 (i : Int) ∧ s6 = .int .i64 (j : Int) ∧ i ≤ k ∧ k ≤ j ∧ j ≤ n ∧ Hid (∃ m, wr = w.drewN m)) (fun s5 s6 _ _ => (intOf s6).toNat - (intOf s5).toNat)
  case atStart => exact ⟨0, n, rfl, rfl, by omega, by omega, by omega, Lib.hid ⟨0, rfl⟩⟩
  case round =>
    obtain ⟨i, j, rfl, rfl, hi, hj, hjn, HM⟩ := hrel
    by_cases hlt : i < j
    · have t1 : decide ((i : Int) < (j : Int)) = true := by simp; exact hlt
      obtain ⟨m, hm⟩ := HM.out
      subst hm
      obtain ⟨h, hh⟩ : ∃ h, h = (i + j) / 2 := ⟨_, rfl⟩
      have he : ((i : Int) + (j : Int)) / 2 = (h : Int) := by omega
      have HE := Lib.hid he
      have HC := Lib.hid (H.out h (by omega) m)
      obtain ⟨q, hq⟩ : ∃ q, q = f h := ⟨_, rfl⟩
      rw [← hq] at HC
      have HQ := Lib.hid hq
      have HB := Lib.hid (show i ≤ h ∧ h < j by omega)
      have HT : Hid (q = true → k ≤ h) := Lib.hid fun e => by
        by_cases hkh : k ≤ h
        · exact hkh
        · have := H0.out h (by omega); rw [← hq, e] at this; cases this
      have HFa : Hid (q = false → h + 1 ≤ k) := Lib.hid fun e => by
        by_cases hkh : h + 1 ≤ k
        · exact hkh
        · have := H1.out h (by omega) (by omega); rw [← hq, e] at this; cases this
      have hb : (h : Int) ≤ 100000 := by omega
      have hb0 : (0 : Int) ≤ (h : Int) := by omega
      clear he hh hq
      go_upto_region 4 with fail
      rw [HE.out]
      go_wp2_with fail
      (with_reducible refine HC.out.mono ?_)
      rintro e w2 ⟨rfl, m2, rfl⟩
      have HM2 : Hid (∃ m3, w.drewN (m + m2) = w.drewN m3) := Lib.hid ⟨m + m2, rfl⟩
      cases q with
      | true =>
        go_wp2_with fail
        go_roundw
        case rel => exact ⟨i, h, rfl, rfl, hi, HT.out trivial, by have := HB.out; omega, HM2⟩
        case measure => simp [intOf]; have := HB.out; omega
      | false =>
        go_wp2_with fail
        go_roundw
        case rel => exact ⟨h + 1, j, by go_num, rfl, HFa.out trivial, hj, hjn, HM2⟩
        case measure => simp [intOf]; have := HB.out; omega
    · obtain rfl : i = j := by omega
      obtain rfl : k = i := by omega
      go_wp2_with fail
      go_ret
      exact ⟨rfl, HM.out⟩
set_option maxRecDepth 100000 in
theorem lett1_any (P Q n c i : Nat) (A : Option Addr) (L : List Mv) (hl : L.length = n) (hn : n ≤ 100000) (hi : i < n) (len at_ : Int) (m : Mv) (hm : L[i]? = some m) (w : World) (hP : Box w P 84 #[.slice A n c, .int .i64 len]) (hR : RowAt w A (mvc L)) (hQ : Box w Q 3 #[.int .i64 at_]) :
    Calls Try.prog 61 #[.int .i64 (i : Int), .pointer (some ⟨P, 0, none⟩), .pointer (some ⟨Q, 0, none⟩)] w (Quiet (.bool (decide (at_ < m.f))) w) := by
  obtain ⟨ad, rfl, adl, c0, c1, c2, c3⟩ := row_mv hR hm
  have p0 := hP.cell 0; have q0 := hQ.cell 0
  simp only [List.getElem?_toArray, List.getElem?_cons_zero] at p0 q0
  have i0 : (0 : Int) ≤ (i : Int) := Int.natCast_nonneg i
  have i1 : (i : Int) < (n : Int) := by omega
  obtain ⟨nf, hnf⟩ : ∃ nf, nf = m.f := ⟨_, rfl⟩
  rw [← hnf] at c0 ⊢
  clear hP hQ hR hm hl hnf c1 c2 c3
  go_enter Try.func61, Try.ntmps61
  go_wp2_with fail
  go_quiet (fail)
  go_wp2_with fail
  go_ret
  exact ⟨rfl, nq, rfl⟩
def LetOut (v : Int × Int × Bool) (w : World) (e : Ending) (w' : World) : Prop := e = .returned (.tuple #[.int .i64 v.1, .int .i64 v.2.1, .bool v.2.2]) ∧ Below w.heap.size w w'
set_option maxRecDepth 100000 in
set_option maxHeartbeats 16000000 in
theorem mletter_any (n c : Nat) (A : Option Addr) (M : List Mv) (hml : M.length = n) (hn : n ≤ 100000) (len at_ : Int) (hmb : ∀ (i : Nat) (m : Mv), M[i]? = some m → -100000 ≤ m.t ∧ m.t ≤ 100000 ∧ -100000 ≤ m.nt ∧ m.nt ≤ 100000) (a0 : 0 ≤ at_) (a1 : at_ ≤ 100000) (k : Nat) (hk : k ≤ n)
    (f0 : ∀ (i : Nat) (m : Mv), M[i]? = some m → i < k → m.f ≤ at_) (f1 : ∀ (i : Nat) (m : Mv), M[i]? = some m → k ≤ i → at_ < m.f) (w : World) (ha : RowAt w A (mvc M)) :
    Calls Try.prog 45 #[.agg #[.slice A n c, .int .i64 len], .int .i64 at_] w (LetOut (ltv M at_ k) w) := by
  have hmf : ∀ fn first cap w, (Instr.makeFunc fn first cap).run Try.prog w = .ok (.func fn first cap) w := fun _ _ _ _ => rfl
  have HML := Lib.hid hml; have HMB := Lib.hid hmb; have F0 := Lib.hid f0; have F1 := Lib.hid f1
  have BW := Lib.hid (balloc (balloc (Below.refl w.heap.size w) (.cells #[.slice A n c, .int .i64 len] 84)) (.cells #[.int .i64 at_] 3))
  have P2 := (Box.new w 84 #[.slice A n c, .int .i64 len]).alloc (.cells #[.int .i64 at_] 3)
  have Q2 := Box.new (w.alloc (.cells #[.slice A n c, .int .i64 len] 84)) 3 #[.int .i64 at_]
  have R2 := ha.below BW.out (Nat.le_refl _)
  obtain ⟨w2, hw2⟩ : ∃ w2, w2 = (w.alloc (.cells #[.slice A n c, .int .i64 len] 84)).alloc (.cells #[.int .i64 at_] 3) := ⟨_, rfl⟩
  obtain ⟨P, hP⟩ : ∃ P, P = w.heap.size := ⟨_, rfl⟩
  have e1 : (w.alloc (.cells #[.slice A n c, .int .i64 len] 84)).heap.size = P + 1 := by simp [hP]
  rw [e1] at Q2
  obtain ⟨Q, hQ⟩ : ∃ Q, Q = P + 1 := ⟨_, rfl⟩
  rw [← hQ] at Q2
  rw [← hw2] at BW P2 Q2 R2
  rw [← hP] at P2
  have HW2 := Lib.hid hw2.symm; have HPP := Lib.hid hP.symm; have HQQ := Lib.hid hQ.symm
  have HP2 := Lib.hid P2; have HQ2 := Lib.hid Q2; have HR2 := Lib.hid R2
  have HSr := Lib.hid (search2_any (some ⟨P, 0, none⟩) (some ⟨Q, 0, none⟩) n k hn hk (fun i => match M[i]? with | some m => decide (at_ < m.f) | none => false)
    (fun i hi => by
      have hil : i < M.length := by rw [HML.out]; omega
      have hm := List.getElem?_eq_getElem hil
      simp only [hm]
      have := F0.out i _ hm hi
      simp; omega)
    (fun i h1 h2 => by
      have hil : i < M.length := by rw [HML.out]; omega
      have hm := List.getElem?_eq_getElem hil
      simp only [hm]
      have := F1.out i _ hm h1
      simp; omega) w2
    (fun i hi j => by
      have hil : i < M.length := by rw [HML.out]; omega
      have hm := List.getElem?_eq_getElem hil
      simp only [hm]
      exact lett1_any P Q n c i A M HML.out hn hi len at_ _ hm (w2.drewN j) (HP2.out.drewN j) (HR2.out.drewN j) (HQ2.out.drewN j)))
  have p0 := P2.cell 0; have p1 := P2.cell 1; have q0 := Q2.cell 0; have g0 := Q2.free 0
  simp only [List.getElem?_toArray, List.getElem?_cons_zero, List.getElem?_cons_succ] at p0 p1 q0
  have pl := P2.lt; have ql := Q2.lt
  clear hw2 hP hQ P2 Q2 R2 F0 F1 e1 f0 f1 hml hmb ha
  go_enter Try.func45, Try.ntmps45
  go_upto_region 1 with fail
  rw [HPP.out, HQQ.out, HW2.out]
  cases k with
  | zero =>
    go_wp2_with fail
    (with_reducible refine HSr.out.mono ?_)
    rintro e w3 ⟨rfl, m3, hw3⟩
    have BWd : Below w.heap.size w w3 := by rw [hw3]; exact below_drewN BW.out m3
    replace q0 : w3.cell? ⟨Q, 0, none⟩ = some (.int .i64 at_) := by rw [hw3]; exact q0
    replace ql : Q < w3.heap.size := by rw [hw3]; exact ql
    have HBd := Lib.hid BWd
    clear hw3 BWd p0 p1 pl g0
    go_wp2_with fail
    go_quiet (fail)
    go_wp2_with fail
    go_ret3
    exact ⟨rfl, below_drewN HBd.out nq⟩
  | succ k =>
    have hkl : k < M.length := by rw [HML.out]; omega
    have hm := List.getElem?_eq_getElem hkl
    obtain ⟨m, hmm⟩ : ∃ m, m = M[k] := ⟨_, rfl⟩
    rw [← hmm] at hm
    obtain ⟨b1, b2, b3, b4⟩ := HMB.out k m hm
    have eb : ltv M at_ (k + 1) = if at_ < m.t then (m.nf, m.nt, false) else (at_ + (m.nt - m.t), at_ + (m.nt - m.t), true) := by unfold ltv; simp only [hm]
    have EB := Lib.hid eb
    have kn : k < n := by omega
    have HMK := Lib.hid hm
    have t3 : (((k + 1 : Nat) : Int) == 0) = false := by rw [beq_eq_false_iff_ne]; omega
    clear hmm eb hm hkl
    go_wp2_with fail
    (with_reducible refine HSr.out.mono ?_)
    rintro e w3 ⟨rfl, m3, hw3⟩
    have R3 : RowAt w3 A (mvc M) := by rw [hw3]; exact HR2.out.drewN m3
    have BWd : Below w.heap.size w w3 := by rw [hw3]; exact below_drewN BW.out m3
    have QX3 : Box w3 Q 3 #[.int .i64 at_] := by rw [hw3]; exact HQ2.out.drewN m3
    replace p0 : w3.cell? ⟨P, 0, none⟩ = some (.slice A n c) := by rw [hw3]; exact p0
    replace q0 : w3.cell? ⟨Q, 0, none⟩ = some (.int .i64 at_) := by rw [hw3]; exact q0
    replace g0 : w3.frozen? ⟨Q, 0, none⟩ = false := by rw [hw3]; exact g0
    replace pl : P < w3.heap.size := by rw [hw3]; exact pl
    replace ql : Q < w3.heap.size := by rw [hw3]; exact ql
    obtain ⟨ad, rfl, adl, c0, c1, c2, c3⟩ := row_mv R3 HMK.out
    obtain ⟨mf, mt, mnf, mnt⟩ := m
    simp only at c0 c1 c2 c3 b1 b2 b3 b4 EB
    have HBd := Lib.hid BWd
    have BW3 := Lib.hid (balloc BWd (.cells #[.int .i64 mf, .int .i64 mt, .int .i64 mnf, .int .i64 mnt] 89))
    have X3 := Box.new w3 89 #[.int .i64 mf, .int .i64 mt, .int .i64 mnf, .int .i64 mnt]
    have QX4 := QX3.alloc (.cells #[.int .i64 mf, .int .i64 mt, .int .i64 mnf, .int .i64 mnt] 89)
    have HQW : Hid (w.heap.size ≤ Q) := Lib.hid (by have := HQQ.out; have := HPP.out; omega)
    clear hw3 R3 BWd p1 QX3
    by_cases hat : at_ < mt
    · have t5 : decide (at_ < mt) = true := by simp; omega
      have EB' : Hid (ltv M at_ (k + 1) = (mnf, mnt, false)) := Lib.hid (by rw [EB.out, if_pos hat])
      have x0 := X3.cell 0; have x1 := X3.cell 1; have x2 := X3.cell 2; have x3 := X3.cell 3
      simp only [List.getElem?_toArray, List.getElem?_cons_zero, List.getElem?_cons_succ] at x0 x1 x2 x3
      have xl := X3.lt
      clear QX4 X3
      go_wp2_with fail
      go_quiet (fail)
      go_wp2_with fail
      go_ret3
      rw [EB'.out]
      exact ⟨rfl, below_drewN BW3.out nq⟩
    · have t5 : decide (at_ < mt) = false := by simp; omega
      have EB' : Hid (ltv M at_ (k + 1) = (at_ + (mnt - mt), at_ + (mnt - mt), true)) := Lib.hid (by rw [EB.out, if_neg hat])
      have QX5 : Box ((w3.alloc (.cells #[.int .i64 mf, .int .i64 mt, .int .i64 mnf, .int .i64 mnt] 89)).setCell ⟨Q, 0, none⟩ (.int .i64 (at_ + (mnt - mt)))) Q 3 #[.int .i64 (at_ + (mnt - mt))] := QX4.set_ 0 _
      have q5 := QX5.cell 0
      simp only [List.getElem?_toArray, List.getElem?_cons_zero] at q5
      have q5l := QX5.lt
      have BW5 := Lib.hid (balloc (HBd.out.setCell (p := ⟨Q, 0, none⟩) HQW.out (.int .i64 (at_ + (mnt - mt)))) (.cells #[.int .i64 mf, .int .i64 mt, .int .i64 mnf, .int .i64 mnt] 89))
      have w1 : IntKind.i64.wrap (mnt - mt) = mnt - mt := IntWalk.i64_in _ ⟨by omega, by omega⟩
      have w5 : IntKind.i64.wrap (at_ + (mnt - mt)) = at_ + (mnt - mt) := IntWalk.i64_in _ ⟨by omega, by omega⟩
      have x0 := X3.cell 0; have x1 := X3.cell 1; have x2 := X3.cell 2; have x3 := X3.cell 3
      simp only [List.getElem?_toArray, List.getElem?_cons_zero, List.getElem?_cons_succ] at x0 x1 x2 x3
      have xl := X3.lt
      clear QX4 X3 QX5
      go_wp2_with fail
      go_quiet (fail)
      go_wp2_with fail
      go_ret3
      rw [EB'.out]
      exact ⟨rfl, below_drewN BW5.out nq⟩
end Go.Proofs.Ytolhjkpekmmajaa
/- The walks of moves.anchor and of anchor.Map. Written by wip/gen/anchor.py. -/
namespace Go.Proofs.Ytolhjkpekmmajaa
set_option linter.unusedVariables false
set_option linter.unusedSimpArgs false
open Go.RowKit Go.Lib Go.Maps
attribute [local go_sem ↓] Go.wp_at_zero Go.wp_at_succ
theorem mvs_bnd {T : List (List Int)} {N : Nat} {M : Int} {p : List Cg} (hp : POk N M p) (hv : (N : Int) + up T p p.length ≤ 20000) : ∀ (i : Nat) (m : Mv), (mvs T 0 p)[i]? = some m → -100000 ≤ m.t ∧ m.t ≤ 100000 ∧ -100000 ≤ m.nt ∧ m.nt ≤ 100000 := by
  intro i m hm
  have up0 := up_pos T p p.length
  have dnb := dn_bound hp (show (0 : Int) ≤ (N : Int) by omega)
  have hil : i < p.length := by have := (List.getElem?_eq_some_iff.1 hm).1; rwa [mvs_len] at this
  have hc := List.getElem?_eq_getElem hil
  obtain ⟨k1, k2, k3, k4, x0, x1, k7⟩ := hp i _ hc
  rw [mvs_get T hc] at hm
  injection hm with hm
  subst hm
  have us := up_succ T hc
  have d1 := dnb i (by omega); have u0 := up_pos T p i; have u1 := up_mono T p (show i + 1 ≤ p.length by omega)
  by_cases hi0 : i = 0
  · subst hi0; have z1 := dn_zero p; have z2 := up_zero T p; simp only; omega
  · have := d1.2.1 hi0; simp only; omega
theorem mletter_fw {T : List (List Int)} {N : Nat} {M : Int} {p : List Cg} (hp : POk N M p) (hpl : p.length ≤ 1000) (hv : (N : Int) + up T p p.length ≤ 20000) (n c : Nat) (A : Option Addr) (hn : p.length = n) (len x : Int) (x0 : 0 ≤ x) (x1 : x ≤ 100000) (w : World) (ha : RowAt w A (mvc (mvs T 0 p))) :
    Calls Try.prog 45 #[.agg #[.slice A n c, .int .i64 len], .int .i64 x] w (LetOut (fwl (ilT T) p 0 x) w) := by
  obtain ⟨k, k1, k2, k3, k4⟩ := ltv_ex T (pok_ordd hp) x
  rw [← k4]
  exact mletter_any n c A (mvs T 0 p) (by rw [mvs_len]; exact hn) (by omega) len x (mvs_bnd hp hv) x0 x1 k (by omega) k2 k3 w ha
def AncOut (v : Int × Bool) (r : Bool) (w : World) (e : Ending) (w' : World) : Prop := e = .returned (.tuple #[.agg #[.int .i64 v.1, .bool r], .bool v.2]) ∧ Below w.heap.size w w'
set_option maxRecDepth 100000 in
set_option maxHeartbeats 16000000 in
theorem manchor_l {T : List (List Int)} {N : Nat} {M : Int} {p : List Cg} (hp : POk N M p) (hpl : p.length ≤ 1000) (hv : (N : Int) + up T p p.length ≤ 20000) (n c : Nat) (A : Option Addr) (hn : p.length = n) (a : Int) (a0 : 0 ≤ a) (a1 : a ≤ N) (w : World) (ha : RowAt w A (mvc (mvs T 0 p))) :
    Calls Try.prog 29 #[.agg #[.slice A n c, .int .i64 (newLen T N p)], .int .i64 (N : Int), .agg #[.int .i64 a, .bool false]] w (AncOut (ancV T N p a false) false w) := by
  have N2 : (N : Int) ≤ 20000 := by have := up_pos T p p.length; omega
  have HLt := Lib.hid (fun len x x0 x1 w ha => mletter_fw hp hpl hv n c A hn len x x0 x1 w ha)
  have hfb := fun (x : Int) (h0 : 0 ≤ x) (h1 : x < N) => fwl_bnd T p 0 0 x (pok_ordd hp) (by omega) h1
  have dnb := dn_bound hp (show (0 : Int) ≤ (N : Int) by omega) p.length (Nat.le_refl _)
  have upb := up_pos T p p.length
  obtain ⟨len, hlen⟩ : ∃ len, len = newLen T N p := ⟨_, rfl⟩
  rw [← hlen]
  have W1 := balloc (balloc (balloc (Below.refl w.heap.size w) (.cells #[.slice A n c, .int .i64 len] 84)) (.cells #[.int .i64 a, .bool false] 50)) (.cells #[.int .i64 0, .bool false] 50)
  have P1 := ((Box.new w 84 #[.slice A n c, .int .i64 len]).alloc (.cells #[.int .i64 a, .bool false] 50)).alloc (.cells #[.int .i64 0, .bool false] 50)
  have A1 := (Box.new (w.alloc (.cells #[.slice A n c, .int .i64 len] 84)) 50 #[.int .i64 a, .bool false]).alloc (.cells #[.int .i64 0, .bool false] 50)
  have R1 := Box.new ((w.alloc (.cells #[.slice A n c, .int .i64 len] 84)).alloc (.cells #[.int .i64 a, .bool false] 50)) 50 #[.int .i64 0, .bool false]
  obtain ⟨w1, hw1⟩ : ∃ w1, w1 = ((w.alloc (.cells #[.slice A n c, .int .i64 len] 84)).alloc (.cells #[.int .i64 a, .bool false] 50)).alloc (.cells #[.int .i64 0, .bool false] 50) := ⟨_, rfl⟩
  rw [← hw1] at W1 P1 A1 R1
  obtain ⟨P, hP⟩ : ∃ P, P = w.heap.size := ⟨_, rfl⟩
  have e1 : (w.alloc (.cells #[.slice A n c, .int .i64 len] 84)).heap.size = P + 1 := by simp [hP]
  have e2 : ((w.alloc (.cells #[.slice A n c, .int .i64 len] 84)).alloc (.cells #[.int .i64 a, .bool false] 50)).heap.size = P + 1 + 1 := by simp [hP]
  rw [e1] at A1
  rw [e2] at R1
  rw [← hP] at P1
  have HW := Lib.hid hw1.symm; have HP := Lib.hid hP.symm; have HB := Lib.hid W1
  have HRA := Lib.hid (ha.below W1 (Nat.le_refl _))
  have HR1 := Lib.hid R1; have HA1 := Lib.hid A1; have HP1 := Lib.hid P1
  have HLen := Lib.hid hlen
  have hv2 := hv
  have p0 := P1.cell 0; have p1 := P1.cell 1
  simp only [List.getElem?_toArray, List.getElem?_cons_zero, List.getElem?_cons_succ] at p0 p1
  have q0 := A1.cell 0; have q1 := A1.cell 1
  simp only [List.getElem?_toArray, List.getElem?_cons_zero, List.getElem?_cons_succ] at q0 q1
  have r0 := R1.cell 0; have r1 := R1.cell 1; have rf0 := R1.free 0; have rf1 := R1.free 1
  simp only [List.getElem?_toArray, List.getElem?_cons_zero, List.getElem?_cons_succ] at r0 r1
  have pl := P1.lt; have ql := A1.lt; have rl := R1.lt
  have HPw : Hid (w.heap.size ≤ P + 1 + 1) := Lib.hid (by omega)
  clear hp hpl hv hn ha W1 P1 A1 R1 hw1 hP e1 e2 hlen
  by_cases ha : a = 0
  · have HV : Hid (ancV T N p a false = (0, true)) := Lib.hid (by rw [ancV_f, if_pos ha])
    subst ha
    clear hfb hv2 dnb upb
    go_enter Try.func29, Try.ntmps29
    go_upto_region 1 with fail
    rw [HP.out, HW.out]
    go_wp2_with fail
    refine bodyPost_ret (v := .tuple #[.agg #[.int .i64 0, .bool false], .bool true]) ?_ rfl ⟨?_, ?_⟩
    · have E : Box _ (P + 1 + 1) 50 #[.int .i64 0, .bool false] := (HR1.out.set_ 0 (.int .i64 0)).set_ 1 (.bool false)
      have E0 := E.cell 0; have E1 := E.cell 1
      simp only [List.getElem?_toArray, List.getElem?_cons_zero, List.getElem?_cons_succ] at E0 E1
      simp only [results, Try.results29]
      simp [go_sem, E0, E1]
    · rw [HV.out]
    · exact (HB.out.setCell (p := ⟨P + 1 + 1, 0, none⟩) HPw.out (.int .i64 0)).setCell (p := ⟨P + 1 + 1, 1, none⟩) HPw.out (.bool false)
  · obtain ⟨i1, i2, i3, i4⟩ := hfb (a - 1) (by omega) (by omega)
    have hc := HLt.out len (a - 1) (by omega) (by omega) w1 HRA.out
    have hV := ancV_f T N p a
    rw [if_neg ha] at hV
    obtain ⟨fr, to_, kp, hf⟩ : ∃ fr to_ kp, fwl (ilT T) p 0 (a - 1) = (fr, to_, kp) := ⟨_, _, _, rfl⟩
    rw [hf] at hc hV i1 i2 i3 i4
    simp only at hV i1 i2 i3 i4
    have HC : Hid (Calls Try.prog 45 #[.agg #[.slice A n c, .int .i64 len], .int .i64 (a - 1)] w1 fun e w' => e = .returned (.tuple #[.int .i64 fr, .int .i64 to_, .bool kp]) ∧ Below w1.heap.size w1 w') := Lib.hid hc
    have ta : (a == 0) = false := by rw [beq_eq_false_iff_ne]; exact ha
    have wa : IntKind.i64.wrap (a - 1) = a - 1 := IntWalk.i64_in _ ⟨by omega, by omega⟩
    have fb : 0 ≤ fr ∧ fr ≤ 40000 := by unfold newLen at *; omega
    obtain ⟨fb0, fb1⟩ := fb
    have wf : IntKind.i64.wrap (fr + 1) = fr + 1 := IntWalk.i64_in _ ⟨by omega, by omega⟩
    clear hv2 dnb upb hfb hc hf i1 i2 i3 i4 HLt
    go_enter Try.func29, Try.ntmps29
    go_upto_region 1 with fail
    rw [HP.out, HW.out]
    cases kp with
    | true =>
      have HV : Hid (ancV T N p a false = ((fr + 1), true)) := Lib.hid (by rw [hV]; simp)
      clear hV
      go_wp2_with fail
      (with_reducible refine HC.out.mono ?_)
      rintro e w2 ⟨rfl, B2⟩
      have R2 := HR1.out.below B2 HR1.out.lt
      have HB2 := Lib.hid (bkeep HB.out B2); have HR2 := Lib.hid R2
      have s0 := R2.cell 0; have s1 := R2.cell 1; have sf0 := R2.free 0; have sf1 := R2.free 1
      simp only [List.getElem?_toArray, List.getElem?_cons_zero, List.getElem?_cons_succ] at s0 s1
      have sl := R2.lt
      clear B2 R2
      go_wp2_with fail
      refine bodyPost_ret (v := .tuple #[.agg #[.int .i64 (fr + 1), .bool false], .bool true]) ?_ rfl ⟨?_, ?_⟩
      · have E : Box _ (P + 1 + 1) 50 #[.int .i64 (fr + 1), .bool false] := (HR2.out.set_ 0 (.int .i64 (fr + 1))).set_ 1 (.bool false)
        have E0 := E.cell 0; have E1 := E.cell 1
        simp only [List.getElem?_toArray, List.getElem?_cons_zero, List.getElem?_cons_succ] at E0 E1
        simp only [results, Try.results29]
        simp [go_sem, E0, E1]
      · rw [HV.out]
      · exact (HB2.out.setCell (p := ⟨P + 1 + 1, 0, none⟩) HPw.out (.int .i64 (fr + 1))).setCell (p := ⟨P + 1 + 1, 1, none⟩) HPw.out (.bool false)
    | false =>
      have HV : Hid (ancV T N p a false = (fr, false)) := Lib.hid (by rw [hV]; simp)
      clear hV
      go_wp2_with fail
      (with_reducible refine HC.out.mono ?_)
      rintro e w2 ⟨rfl, B2⟩
      have R2 := HR1.out.below B2 HR1.out.lt
      have HB2 := Lib.hid (bkeep HB.out B2); have HR2 := Lib.hid R2
      have s0 := R2.cell 0; have s1 := R2.cell 1; have sf0 := R2.free 0; have sf1 := R2.free 1
      simp only [List.getElem?_toArray, List.getElem?_cons_zero, List.getElem?_cons_succ] at s0 s1
      have sl := R2.lt
      clear B2 R2
      go_wp2_with fail
      refine bodyPost_ret (v := .tuple #[.agg #[.int .i64 fr, .bool false], .bool false]) ?_ rfl ⟨?_, ?_⟩
      · have E : Box _ (P + 1 + 1) 50 #[.int .i64 fr, .bool false] := (HR2.out.set_ 0 (.int .i64 fr)).set_ 1 (.bool false)
        have E0 := E.cell 0; have E1 := E.cell 1
        simp only [List.getElem?_toArray, List.getElem?_cons_zero, List.getElem?_cons_succ] at E0 E1
        simp only [results, Try.results29]
        simp [go_sem, E0, E1]
      · rw [HV.out]
      · exact (HB2.out.setCell (p := ⟨P + 1 + 1, 0, none⟩) HPw.out (.int .i64 fr)).setCell (p := ⟨P + 1 + 1, 1, none⟩) HPw.out (.bool false)
set_option maxRecDepth 100000 in
set_option maxHeartbeats 16000000 in
theorem manchor_r {T : List (List Int)} {N : Nat} {M : Int} {p : List Cg} (hp : POk N M p) (hpl : p.length ≤ 1000) (hv : (N : Int) + up T p p.length ≤ 20000) (n c : Nat) (A : Option Addr) (hn : p.length = n) (a : Int) (a0 : 0 ≤ a) (a1 : a ≤ N) (w : World) (ha : RowAt w A (mvc (mvs T 0 p))) :
    Calls Try.prog 29 #[.agg #[.slice A n c, .int .i64 (newLen T N p)], .int .i64 (N : Int), .agg #[.int .i64 a, .bool true]] w (AncOut (ancV T N p a true) true w) := by
  have N2 : (N : Int) ≤ 20000 := by have := up_pos T p p.length; omega
  have HLt := Lib.hid (fun len x x0 x1 w ha => mletter_fw hp hpl hv n c A hn len x x0 x1 w ha)
  have hfb := fun (x : Int) (h0 : 0 ≤ x) (h1 : x < N) => fwl_bnd T p 0 0 x (pok_ordd hp) (by omega) h1
  have dnb := dn_bound hp (show (0 : Int) ≤ (N : Int) by omega) p.length (Nat.le_refl _)
  have upb := up_pos T p p.length
  obtain ⟨len, hlen⟩ : ∃ len, len = newLen T N p := ⟨_, rfl⟩
  rw [← hlen]
  have W1 := balloc (balloc (balloc (Below.refl w.heap.size w) (.cells #[.slice A n c, .int .i64 len] 84)) (.cells #[.int .i64 a, .bool true] 50)) (.cells #[.int .i64 0, .bool false] 50)
  have P1 := ((Box.new w 84 #[.slice A n c, .int .i64 len]).alloc (.cells #[.int .i64 a, .bool true] 50)).alloc (.cells #[.int .i64 0, .bool false] 50)
  have A1 := (Box.new (w.alloc (.cells #[.slice A n c, .int .i64 len] 84)) 50 #[.int .i64 a, .bool true]).alloc (.cells #[.int .i64 0, .bool false] 50)
  have R1 := Box.new ((w.alloc (.cells #[.slice A n c, .int .i64 len] 84)).alloc (.cells #[.int .i64 a, .bool true] 50)) 50 #[.int .i64 0, .bool false]
  obtain ⟨w1, hw1⟩ : ∃ w1, w1 = ((w.alloc (.cells #[.slice A n c, .int .i64 len] 84)).alloc (.cells #[.int .i64 a, .bool true] 50)).alloc (.cells #[.int .i64 0, .bool false] 50) := ⟨_, rfl⟩
  rw [← hw1] at W1 P1 A1 R1
  obtain ⟨P, hP⟩ : ∃ P, P = w.heap.size := ⟨_, rfl⟩
  have e1 : (w.alloc (.cells #[.slice A n c, .int .i64 len] 84)).heap.size = P + 1 := by simp [hP]
  have e2 : ((w.alloc (.cells #[.slice A n c, .int .i64 len] 84)).alloc (.cells #[.int .i64 a, .bool true] 50)).heap.size = P + 1 + 1 := by simp [hP]
  rw [e1] at A1
  rw [e2] at R1
  rw [← hP] at P1
  have HW := Lib.hid hw1.symm; have HP := Lib.hid hP.symm; have HB := Lib.hid W1
  have HRA := Lib.hid (ha.below W1 (Nat.le_refl _))
  have HR1 := Lib.hid R1; have HA1 := Lib.hid A1; have HP1 := Lib.hid P1
  have HLen := Lib.hid hlen
  have hv2 := hv
  have p0 := P1.cell 0; have p1 := P1.cell 1
  simp only [List.getElem?_toArray, List.getElem?_cons_zero, List.getElem?_cons_succ] at p0 p1
  have q0 := A1.cell 0; have q1 := A1.cell 1
  simp only [List.getElem?_toArray, List.getElem?_cons_zero, List.getElem?_cons_succ] at q0 q1
  have r0 := R1.cell 0; have r1 := R1.cell 1; have rf0 := R1.free 0; have rf1 := R1.free 1
  simp only [List.getElem?_toArray, List.getElem?_cons_zero, List.getElem?_cons_succ] at r0 r1
  have pl := P1.lt; have ql := A1.lt; have rl := R1.lt
  have HPw : Hid (w.heap.size ≤ P + 1 + 1) := Lib.hid (by omega)
  clear hp hpl hv hn ha W1 P1 A1 R1 hw1 hP e1 e2 hlen
  by_cases ha : a = N
  · have HV : Hid (ancV T N p a true = (len, true)) := Lib.hid (by rw [ancV_t, if_pos ha, HLen.out])
    have ta : (a == (N : Int)) = true := by simp; exact ha
    clear hfb ha hv2 dnb upb
    go_enter Try.func29, Try.ntmps29
    go_upto_region 1 with fail
    rw [HP.out, HW.out]
    go_wp2_with fail
    refine bodyPost_ret (v := .tuple #[.agg #[.int .i64 len, .bool true], .bool true]) ?_ rfl ⟨?_, ?_⟩
    · have E : Box _ (P + 1 + 1) 50 #[.int .i64 len, .bool true] := (HR1.out.set_ 0 (.int .i64 len)).set_ 1 (.bool true)
      have E0 := E.cell 0; have E1 := E.cell 1
      simp only [List.getElem?_toArray, List.getElem?_cons_zero, List.getElem?_cons_succ] at E0 E1
      simp only [results, Try.results29]
      simp [go_sem, E0, E1]
    · rw [HV.out]
    · exact (HB.out.setCell (p := ⟨P + 1 + 1, 0, none⟩) HPw.out (.int .i64 len)).setCell (p := ⟨P + 1 + 1, 1, none⟩) HPw.out (.bool true)
  · have hc := HLt.out len a a0 (by omega) w1 HRA.out
    have hV := ancV_t T N p a
    rw [if_neg ha] at hV
    obtain ⟨fr, to_, kp, hf⟩ : ∃ fr to_ kp, fwl (ilT T) p 0 a = (fr, to_, kp) := ⟨_, _, _, rfl⟩
    rw [hf] at hc hV
    simp only at hV
    have HC : Hid (Calls Try.prog 45 #[.agg #[.slice A n c, .int .i64 len], .int .i64 a] w1 fun e w' => e = .returned (.tuple #[.int .i64 fr, .int .i64 to_, .bool kp]) ∧ Below w1.heap.size w1 w') := Lib.hid hc
    have ta : (a == (N : Int)) = false := by rw [beq_eq_false_iff_ne]; exact ha
    have HV : Hid (ancV T N p a true = (to_, kp)) := Lib.hid hV
    clear hv2 dnb upb hfb hc hf HLt ha hV
    go_enter Try.func29, Try.ntmps29
    go_upto_region 1 with fail
    rw [HP.out, HW.out]
    go_wp2_with fail
    (with_reducible refine HC.out.mono ?_)
    rintro e w2 ⟨rfl, B2⟩
    have R2 := HR1.out.below B2 HR1.out.lt
    have HB2 := Lib.hid (bkeep HB.out B2); have HR2 := Lib.hid R2
    have s0 := R2.cell 0; have s1 := R2.cell 1; have sf0 := R2.free 0; have sf1 := R2.free 1
    simp only [List.getElem?_toArray, List.getElem?_cons_zero, List.getElem?_cons_succ] at s0 s1
    have sl := R2.lt
    clear B2 R2
    go_wp2_with fail
    refine bodyPost_ret (v := .tuple #[.agg #[.int .i64 to_, .bool true], .bool kp]) ?_ rfl ⟨?_, ?_⟩
    · have E : Box _ (P + 1 + 1) 50 #[.int .i64 to_, .bool true] := (HR2.out.set_ 0 (.int .i64 to_)).set_ 1 (.bool true)
      have E0 := E.cell 0; have E1 := E.cell 1
      simp only [List.getElem?_toArray, List.getElem?_cons_zero, List.getElem?_cons_succ] at E0 E1
      simp only [results, Try.results29]
      simp [go_sem, E0, E1]
    · rw [HV.out]
    · exact (HB2.out.setCell (p := ⟨P + 1 + 1, 0, none⟩) HPw.out (.int .i64 to_)).setCell (p := ⟨P + 1 + 1, 1, none⟩) HPw.out (.bool true)
theorem manchor_any {T : List (List Int)} {N : Nat} {M : Int} {p : List Cg} (hp : POk N M p) (hpl : p.length ≤ 1000) (hv : (N : Int) + up T p p.length ≤ 20000) (n c : Nat) (A : Option Addr) (hn : p.length = n) (a : Int) (a0 : 0 ≤ a) (a1 : a ≤ N) (r : Bool) (w : World) (ha : RowAt w A (mvc (mvs T 0 p))) :
    Calls Try.prog 29 #[.agg #[.slice A n c, .int .i64 (newLen T N p)], .int .i64 (N : Int), .agg #[.int .i64 a, .bool r]] w (AncOut (ancV T N p a r) r w) := by
  cases r with
  | true => exact manchor_r hp hpl hv n c A hn a a0 a1 w ha
  | false => exact manchor_l hp hpl hv n c A hn a a0 a1 w ha
end Go.Proofs.Ytolhjkpekmmajaa
/- The walk of anchor.Map. -/
namespace Go.Proofs.Ytolhjkpekmmajaa
set_option linter.unusedVariables false
set_option linter.unusedSimpArgs false
open Go.RowKit Go.Lib Go.Maps
attribute [local go_sem ↓] Go.wp_at_zero Go.wp_at_succ
def MapOut (v : Int × Bool) (r : Bool) (w : World) (e : Ending) (w' : World) : Prop := e = .returned (.tuple #[.agg #[.int .i64 v.1, .bool r], .bool v.2, .nilIface]) ∧ Below w.heap.size w w'
set_option maxRecDepth 100000 in
set_option maxHeartbeats 16000000 in
theorem amap_any (L : List En) (T : List (List Int)) (hg : Good L T) (N : Nat) (p : List Cg) (n c : Nat) (A : Option Addr) (hl : p.length = n) (hn : n ≤ 1000) (hp : POk N L.length p) (hv : (N : Int) + up T p p.length ≤ 20000)
    (B S G : Nat) (w : World) (st : St w B S G L) (ha : RowAt w A (cgc p)) (a : Int) (r : Bool) (a0 : 0 ≤ a) (a1 : a ≤ N) :
    Calls Try.prog 12 #[.pointer (some ⟨S, 0, none⟩), .int .i64 (N : Int), .slice A n c, .agg #[.int .i64 a, .bool r]] w (MapOut (ancV T N p a r) r w) := by
  have HPr := Lib.hid (fun w st ha LA hla => prep1_any L T hg N p n c A hl (by omega) hp hv B S G w st ha a r a0 a1 LA hla)
  have HAn := Lib.hid (fun n c A hn w ha => manchor_any hp (by omega) hv n c A hn a a0 a1 r w ha)
  obtain ⟨len, hlen⟩ : ∃ len, len = newLen T N p := ⟨_, rfl⟩
  rw [← hlen] at HAn
  have HLen := Lib.hid hlen.symm
  obtain ⟨x, kp, hx⟩ : ∃ x kp, ancV T N p a r = (x, kp) := ⟨_, _, rfl⟩
  rw [hx] at HAn ⊢
  have HL := Lib.hid hl
  have W1 := balloc (balloc (balloc (Below.refl w.heap.size w) (.cells #[.int .i64 a, .bool r] 50)) (.cells #[.int .i64 0, .bool false] 50)) (.cells #[.int .i64 a, .bool r] 50)
  have A1 := ((Box.new w 50 #[.int .i64 a, .bool r]).alloc (.cells #[.int .i64 0, .bool false] 50)).alloc (.cells #[.int .i64 a, .bool r] 50)
  have R1 := (Box.new (w.alloc (.cells #[.int .i64 a, .bool r] 50)) 50 #[.int .i64 0, .bool false]).alloc (.cells #[.int .i64 a, .bool r] 50)
  have LA1 := RowAt.of_block (Box.new ((w.alloc (.cells #[.int .i64 a, .bool r] 50)).alloc (.cells #[.int .i64 0, .bool false] 50)) 50 #[.int .i64 a, .bool r])
  obtain ⟨P, hP⟩ : ∃ P, P = w.heap.size := ⟨_, rfl⟩
  have e1 : (w.alloc (.cells #[.int .i64 a, .bool r] 50)).heap.size = P + 1 := by simp [hP]
  have e2 : ((w.alloc (.cells #[.int .i64 a, .bool r] 50)).alloc (.cells #[.int .i64 0, .bool false] 50)).heap.size = P + 1 + 1 := by simp [hP]
  rw [← hP] at A1
  rw [e1] at R1
  rw [e2] at LA1
  have HP := Lib.hid hP.symm
  have HC := HPr.out _ (st.below W1) (ha.below W1 (Nat.le_refl _)) (some ⟨P + 1 + 1, 0, none⟩) LA1
  have HCx := Lib.hid HC
  have HB := Lib.hid W1; have HA1 := Lib.hid A1; have HR1 := Lib.hid R1
  have HPw : Hid (w.heap.size ≤ P + 1) := Lib.hid (by omega)
  clear hg hl hp hv st ha hlen hx W1 A1 R1 LA1 hP e1 e2 HC HPr
  go_enter Try.func12, Try.ntmps12
  go_wp2_with fail
  rw [HP.out]
  (with_reducible refine HCx.out.mono ?_)
  rintro e w2 ⟨A2, c2, rfl, B2, R2⟩
  rw [HL.out, HLen.out]
  have HB2 := Lib.hid (balloc (bkeep HB.out B2) (.cells #[.slice A2 n c2, .int .i64 len] 84))
  have HA2 := Lib.hid ((HA1.out.below B2 HA1.out.lt).alloc (.cells #[.slice A2 n c2, .int .i64 len] 84))
  have HR2 := Lib.hid ((HR1.out.below B2 HR1.out.lt).alloc (.cells #[.slice A2 n c2, .int .i64 len] 84))
  have M2 := Box.new w2 84 #[.slice A2 n c2, .int .i64 len]
  have HC2 := Lib.hid (HAn.out n c2 A2 HL.out _ (R2.below (balloc (Below.refl w2.heap.size w2) (.cells #[.slice A2 n c2, .int .i64 len] 84)) (Nat.le_refl _)))
  have a2 := HA2.out.cell 0; have a3 := HA2.out.cell 1
  simp only [List.getElem?_toArray, List.getElem?_cons_zero, List.getElem?_cons_succ] at a2 a3
  have al := HA2.out.lt
  clear B2 R2 M2 HB HCx HA1 HR1
  go_wp2_with fail
  (with_reducible refine HC2.out.mono ?_)
  rintro e w3 ⟨rfl, B3⟩
  have HB3 := Lib.hid (balloc (bkeep HB2.out B3) (.cells #[.int .i64 x, .bool r] 50))
  have R3 := (HR2.out.below B3 HR2.out.lt).alloc (.cells #[.int .i64 x, .bool r] 50)
  have HR3 := Lib.hid R3
  have s0 := R3.cell 0; have s1 := R3.cell 1; have sf0 := R3.free 0; have sf1 := R3.free 1
  simp only [List.getElem?_toArray, List.getElem?_cons_zero, List.getElem?_cons_succ] at s0 s1
  have sl := R3.lt
  clear B3 R3 HB2 HR2 HA2 a2 a3 al HC2
  go_wp2_with fail
  refine bodyPost_ret (v := .tuple #[.agg #[.int .i64 x, .bool r], .bool kp, .nilIface]) ?_ rfl ⟨?_, ?_⟩
  · have E : Box _ (P + 1) 50 #[.int .i64 x, .bool r] := (HR3.out.set_ 0 (.int .i64 x)).set_ 1 (.bool r)
    have E0 := E.cell 0; have E1 := E.cell 1
    simp only [List.getElem?_toArray, List.getElem?_cons_zero, List.getElem?_cons_succ] at E0 E1
    simp only [results, Try.results12]
    simp [go_sem, E0, E1]
  · rfl
  · exact (HB3.out.setCell (p := ⟨P + 1, 0, none⟩) HPw.out (.int .i64 x)).setCell (p := ⟨P + 1, 1, none⟩) HPw.out (.bool r)
end Go.Proofs.Ytolhjkpekmmajaa
/- A patch of the statement, plainly: its facts; two patches and their composition. -/
namespace Go.Proofs.Ytolhjkpekmmajaa
set_option linter.unusedVariables false
set_option linter.unusedSimpArgs false
open Go.RowKit Go.Lib
structure PrF (L : List En) (T : List (List Int)) (s m : ByteArray) (p : List Cg) : Prop where
  ok : POk s.size L.length p
  nl : (m.size : Int) = newLen T s.size p
  l20 : ∀ c ∈ p, (tx T c.x).length ≤ 20
  ln : p.length ≤ 12
  up : up T p p.length ≤ 240
  gs : bi m = gsp (bi s) (ilT T) (fun c _ => tx T c.x) p 0 0
theorem pr_facts {L : List En} {T : List (List Int)} (hg : Good L T) {s : ByteArray} {l : List Ch} {p : List Cg} (h : PR L T p (mkOut s l)) : PrF L T s (mkTxt s l) p := by
  obtain ⟨m1, m2, m3⟩ := mk_ok s l
  have ok := pr_pok hg h m1
  have hl := h.len
  have hu := pr_up h m1 p.length (Nat.le_refl _)
  have g : bi (mkTxt s l) = gsp (bi s) (ilT T) (fun c _ => tx T c.x) p 0 0 := by
    rw [m3, ← h.q]; exact splice_gsp T (bi s) _ 0 0 ok.pos
  refine ⟨ok, ?_, fun c hc => ?_, by omega, by omega, g⟩
  · have e := gsp_len T (X := bi s) (ins := fun c _ => tx T c.x) (fun _ _ => rfl) (bi_len s) p 0 0 (pok_ordd ok)
    rw [← g, bi_len] at e
    unfold newLen; omega
  · obtain ⟨k, hk⟩ := List.mem_iff_getElem?.1 hc
    have hq := qs_get (T := T) hk
    rw [h.q] at hq
    exact (m1 k _ hq).2.2.2
theorem PrF.ext {L L' : List En} {T T' : List (List Int)} {s m : ByteArray} {p : List Cg} (h : PrF L T s m p) (k : Ext L T L' T') (hT : T.length = L.length) : PrF L' T' s m p := by
  have e : ∀ c ∈ p, tx T' c.x = tx T c.x := fun c hc => k.tx hT (h.ok.xs c hc).1 (h.ok.xs c hc).2
  refine ⟨h.ok.mono (by have := k.len; omega), by rw [newLen_ext k hT h.ok]; exact h.nl, fun c hc => by rw [e c hc]; exact h.l20 c hc, h.ln, by rw [up_ext k hT h.ok]; exact h.up, ?_⟩
  rw [h.gs]
  have key : ∀ (p : List Cg) (f q : Nat), (∀ c ∈ p, tx T' c.x = tx T c.x) → gsp (bi s) (ilT T) (fun c _ => tx T c.x) p f q = gsp (bi s) (ilT T') (fun c _ => tx T' c.x) p f q := by
    intro p
    induction p with
    | nil => intro f q _; rfl
    | cons c p ih =>
      intro f q h
      have hc := h c (by simp)
      have hi : ilT T' c = ilT T c := by unfold ilT; rw [hc]
      rw [gsp_cons, gsp_cons, ih _ _ fun d hd => h d (by simp [hd]), hi, hc]
  exact key p 0 0 e
theorem gsp_x0_ext {L L' : List En} {T T' : List (List Int)} (k : Ext L T L' T') (hT : T.length = L.length) (X : List (Option Nat)) (p : List Cg) (h : ∀ c ∈ p, 0 ≤ c.x ∧ c.x ≤ L.length) : gsp X (ilT T') (nul T') p 0 0 = gsp X (ilT T) (nul T) p 0 0 := by
  rw [gsp_gpre, gsp_gpre, gpre_ext k hT X p 0 h]
/-- the whole law, plainly -/
structure AncF (T : List (List Int)) (N M : Nat) (p q r : List Cg) (a : Int) (d : Bool) : Prop where
  b0 : 0 ≤ (ancV T N p a d).1
  b1 : (ancV T N p a d).1 ≤ M
  up : (N : Int) + up T r r.length ≤ 20000
  cmp : (ancV T N p a d).2 = true → (ancV T M q (ancV T N p a d).1 d).2 = true → ancV T N r a d = ((ancV T M q (ancV T N p a d).1 d).1, true)
theorem anc_f {L2 L3 : List En} {T2 T3 : List (List Int)} (k : Ext L2 T2 L3 T3) (hT : T2.length = L2.length) {s m e : ByteArray} {p q r : List Cg} (hp : PrF L2 T2 s m p) (hq : PrF L2 T2 m e q) (hs : s.size ≤ 120) (hm : m.size ≤ 1000) (he : e.size ≤ 1000)
    (hr : ColF s.size L3 T3 (two T2 s.size p q 2) r) (a : Int) (a0 : 0 ≤ a) (a1 : a ≤ s.size) (d : Bool) : AncF T3 s.size m.size p q r a d := by
  have hp3 := hp.ext k hT
  have hq3 := hq.ext k hT
  have op := pok_ordd hp3.ok; have oq := pok_ordd hq3.ok; have or_ := pok_ordd hr.pok
  have hM : (gsp (x0 s.size) (ilT T3) (nul T3) p 0 0).length = m.size := by
    have := gsp_newLen (T := T3) op (x0_len s.size)
    have := hp3.nl
    omega
  have TO := two_ok (N := s.size) (N2 := m.size) (by omega) hp.ok hp.l20 hp.ln hp.nl (by omega) hq.ok hq.l20 hq.ln
  have heq : gsp (x0 s.size) (ilT T3) (nul T3) r 0 0 = gsp (gsp (x0 s.size) (ilT T3) (nul T3) p 0 0) (ilT T3) (nul T3) q 0 0 := by
    rw [hr.ex, TO.e2, gsp_x0_ext k hT _ p hp.ok.xs, gsp_x0_ext k hT _ q hq.ok.xs]
  have hb := ancV_bnd op (by rw [← hp3.nl]; omega) a a0 a1 d
  refine ⟨hb.1, by rw [hp3.nl]; exact hb.2, ?_, fun h1 h2 => anc_comp op hM oq or_ heq a a0 a1 d h1 h2⟩
  have n1 := gsp_newLen (T := T3) or_ (x0_len s.size)
  have n2 := gsp_newLen (T := T3) (X := gsp (x0 s.size) (ilT T3) (nul T3) p 0 0) oq hM
  rw [heq] at n1
  have n3 := hq3.nl
  have n4 := dn_bound hr.pok (show (0 : Int) ≤ (s.size : Int) by omega) r.length (Nat.le_refl _)
  unfold newLen at n1
  omega
/-- what Back says of a letter -/
theorem back_f {L : List En} {T : List (List Int)} {s m : ByteArray} {p : List Cg} (h : PrF L T s m p) {i : Nat} (hi : i < m.size) {b : Int} (hb : bkr (ilT T) p 0 i = some b) : 0 ≤ b ∧ b < s.size ∧ (bi s)[b.toNat]? = (bi m)[i]? := by
  have g2 := gsp_get (X := bi s) (il := ilT T) (ins := fun c _ => tx T c.x) (fun c q => rfl) (fun _ _ => True) (fun _ _ _ _ => trivial) (bi_len s) p 0 0 0 (pok_ordd h.ok) rfl i (Nat.zero_le _)
  rw [Nat.sub_zero, ← h.gs] at g2
  obtain ⟨b0, gb2⟩ := g2.1 b hb
  have b0 : 0 ≤ b := by simpa using b0
  have hil : i < (bi m).length := by rw [bi_len]; exact hi
  have e := gb2
  rw [List.getElem?_eq_getElem hil] at e
  have := (List.getElem?_eq_some_iff.1 e.symm).1
  rw [bi_len] at this
  exact ⟨b0, by omega, gb2.symm⟩
theorem str_at (s : ByteArray) (k z : Nat) (bv : Int) (hz : s.size = z) (h : k < z) (hb : (bi s)[k]? = some bv) (w : World) : (Instr.index 9 (.string s) (.int .i64 (k : Int))).run Try.prog w = .ok (.int .u8 bv) w := by
  have h1 : k < s.size := by omega
  have e : ((s[k].toNat : Nat) : Int) = bv := by
    have hk : (bi s)[k]? = some ((s[k].toNat : Nat) : Int) := by
      unfold bi
      rw [List.getElem?_map, List.getElem?_eq_getElem (by simpa using h1)]
      rfl
    rw [hb] at hk
    injection hk with hk
    exact hk.symm
  simp [Instr.index, go_sem, hz, h]
  exact e
end Go.Proofs.Ytolhjkpekmmajaa
