/- A region that draws its order, by one obligation for each operation: whatever the order, the operations that run and make memory, the variables that are made and filled, come to the same. -/
import Derived.Test.YtolhjkpekmmajaaWords
import Derived.Orders
import Derived.RegionTactic
namespace Go.Proofs.Ytolhjkpekmmajaa
set_option linter.unusedVariables false
set_option linter.unusedSimpArgs false
open Go.RowKit

/-- What an operation of the region does: it yields a value of which p holds (memory may be made); it makes a variable (cells z, of type ty), which operation number si fills with cs; it fills the variable in slot t. -/
inductive RK
  | val (p : Value → World → Prop)
  | new (ty : TypeId) (z cs : Array Value) (si : Nat)
  | put (ty : TypeId) (z cs : Array Value) (t : Tmp)

structure Stored (w : World) (g : Nat) (ty : TypeId) (cs : Array Value) (w' : World) : Prop where
  os : w'.os = w.os
  tape : w'.tape = w.tape
  output : w'.output = w.output
  size : w'.heap.size = w.heap.size
  rest : ∀ k, k ≠ g → w'.heap[k]? = w.heap[k]?
  box : Box w' g ty cs

structure Gr (h0 : Nat) (tys : List TypeId) (w w' : World) : Prop where
  size : w.heap.size ≤ w'.heap.size
  block : ∀ k, k < w.heap.size → (k < h0 ∨ ∀ cs ty fr, w.heap[k]? = some (.cells cs ty fr) → ty ∉ tys) → w'.heap[k]? = w.heap[k]?

theorem Gr.of_below {h0 : Nat} {tys : List TypeId} {w w' : World} (h : Below w.heap.size w w') : Gr h0 tys w w' := ⟨h.size, fun k hk _ => h.block k hk⟩
theorem Gr.of_stored {h0 g : Nat} {tys : List TypeId} {w w' : World} {ty : TypeId} {z cs : Array Value} (h : Stored w g ty cs w') (hz : Box w g ty z) (hg : h0 ≤ g) (ht : ty ∈ tys) : Gr h0 tys w w' :=
  ⟨Nat.le_of_eq h.size.symm, fun k _ hk => h.rest k (by
    rintro rfl
    rcases hk with hk | hk
    · omega
    · exact hk _ _ _ hz ht)⟩
theorem Stored.below {B g : Nat} {a w w' : World} {ty : TypeId} {cs : Array Value} (h : Below B a w) (s : Stored w g ty cs w') (hg : B ≤ g) : Below B a w' :=
  h.trans ⟨s.os, s.tape, s.output, Nat.le_of_eq s.size.symm, fun k hk => s.rest k (by omega)⟩

theorem Stored.start {w : World} {g : Nat} {ty : TypeId} {cs : Array Value} (h : Box w g ty cs) : Stored w g ty cs w := ⟨rfl, rfl, rfl, rfl, fun _ _ => rfl, h⟩
theorem Stored.set {w w' : World} {g : Nat} {ty : TypeId} {cs : Array Value} (h : Stored w g ty cs w') (i : Nat) (u : Value) : Stored w g ty (cs.setIfInBounds i u) (w'.setCell ⟨g, i, none⟩ u) :=
  ⟨h.os, h.tape, h.output, by simpa [World.setCell] using h.size, fun k hk => (Below.heap_setCell _ _ _ _ hk).trans (h.rest k hk), h.box.set_ i u⟩
def readT (a : Act) : Option Tmp → Value
  | some d => a.tmps.getD d undef
  | none => undef
def rvT (d : Option Tmp) (v : Value) : Value := match d with
  | some _ => v
  | none => undef
def NoQ : Exit → Act → World → Prop := fun _ _ _ => False

def RK.post (g : Nat) (w : World) : RK → Value → World → Prop
  | .val p, v, w' => p v w' ∧ Below w.heap.size w w'
  | .new ty z _ _, v, w' => v = .pointer (some ⟨w.heap.size, 0, none⟩) ∧ w' = w.alloc (.cells z ty)
  | .put ty _ cs _, _, w' => Stored w g ty cs w'

def Run (P : Program) (o : Oper) (k : RK) (D : List Deferred) (g : Nat) (w : World) (A' : Act) : Prop :=
  ∀ K : Act → World → Prop, (∀ a' w', a'.defers = D → k.post g w (readT a' o.dst) w' → K a' w') → o.wp P A' w K NoQ

def Run' (P : Program) (ops : Array Oper) (o : Oper) (k : RK) (D : List Deferred) (g : Nat) (w : World) (A' : Act) : Prop :=
  match o.guard with
  | none => Run P o k D g w A'
  | some _ => (Region.wanted o (yielded ops A'.tmps) = true → Run P o k D g w A') ∧ (Region.wanted o (yielded ops A'.tmps) = false → k.post g w undef w)

def Reads (sp : List RK) (w : World) (G : Act → Prop) : List (Tmp × Nat) → Act → Prop
  | [], A => G A
  | (t, j) :: r, A => match sp[j]? with
    | some (.val p) => ∀ v, p v w → Reads sp w G r (A.put (some t) v)
    | _ => False

def Ob1 (P : Program) (ops : Array Oper) (sp : List RK) (A : Act) (w0 : World) (o : Oper) (k : RK) (rd : List (Tmp × Nat)) : Prop :=
  ∀ w, Below w0.heap.size w0 w → match k with
    | .put ty z _ t => ∀ g, w0.heap.size ≤ g → Box w g ty z → Reads sp w (Run P o k A.defers g w) rd (A.put (some t) (.pointer (some ⟨g, 0, none⟩)))
    | _ => Reads sp w (Run' P ops o k A.defers 0 w) rd A

def Obs (P : Program) (ops : Array Oper) (sp : List RK) (A : Act) (w0 : World) : List Oper → List RK → List (List (Tmp × Nat)) → Prop
  | o :: os, k :: ks, r :: rs => Ob1 P ops sp A w0 o k r ∧ Obs P ops sp A w0 os ks rs
  | _, _, _ => True

def Fin (h0 : Nat) (w : World) (G : Act → Prop) : List Oper → List RK → Act → Prop
  | o :: os, k :: ks, A => match o.dst, k with
    | some t, .val p => ∀ v, p v w → Fin h0 w G os ks (A.put (some t) v)
    | some t, .new ty _ cs _ => ∀ g, h0 ≤ g → Box w g ty cs → Fin h0 w G os ks (A.put (some t) (.pointer (some ⟨g, 0, none⟩)))
    | _, _ => Fin h0 w G os ks A
  | _, _, A => G A

def Stab (h0 : Nat) (tys : List TypeId) (p : Value → World → Prop) : Prop := ∀ v w w', Gr h0 tys w w' → p v w → p v w'
theorem Stab.pure (h0 : Nat) (tys : List TypeId) (c : Value) : Stab h0 tys (fun v _ => v = c) := fun _ _ _ _ h => h
/-- The predicates are stable; a variable and its filling agree. -/
def Stabs (h0 : Nat) (tys : List TypeId) (sp : List RK) : List RK → Prop
  | .val p :: ks => Stab h0 tys p ∧ Stabs h0 tys sp ks
  | .new ty z cs si :: ks => (match sp[si]? with | some (.put ty' z' cs' _) => ty = ty' ∧ z = z' ∧ cs = cs' | _ => False) ∧ Stabs h0 tys sp ks
  | .put _ _ _ _ :: ks => Stabs h0 tys sp ks
  | [] => True
def tysOf : List RK → List TypeId
  | .new ty _ _ _ :: ks => ty :: tysOf ks
  | _ :: ks => tysOf ks
  | [] => []

def bindsTo (o : Oper) (j : Nat) : Bool := o.after.any fun e => Region.binds .any e && e.on == j
/-- The kind of an operation without its predicates: 0 a value, 1 a new variable (filled by the second number), 2 a filling (of the slot that the second number names). -/
def RK.code : RK → Nat × Nat
  | .val _ => (0, 0)
  | .new _ _ _ si => (1, si)
  | .put _ _ _ t => (2, t)
def okAt (ops : Array Oper) (m : Nat) (codes : List (Nat × Nat)) (i : Nat) (o : Oper) (c : Nat × Nat) (r : List (Tmp × Nat)) : Bool :=
  (o.after.all fun e => !Region.binds .any e || decide (e.on < i)) && (match o.op with | .select .. => false | _ => true) &&
  (match o.dst with | some d => decide (d < m) && (List.range ops.size).all (fun j => j == i || (ops[j]?.bind (·.dst)) != some d) | none => true) &&
  ((o.looksAt ops).all fun t => r.any (fun q => q.1 == t) || (c.1 == 2 && c.2 == t) || (List.range ops.size).all fun j => match ops[j]? with | some oj => oj.dst != some t || (bindsTo oj i && j != i) | none => true) &&
  (r.all fun q => ((ops[q.2]?.bind (·.dst)) == some q.1) && bindsTo o q.2) &&
  (match c with
   | (0, _) => true
   | (1, si) => o.guard.isNone && o.dst.isSome && (match ops[si]? with | some s => bindsTo s i | none => false) && codes[si]? == o.dst.map (fun d => (2, d))
   | (_, t) => o.guard.isNone && o.dst.isNone && (List.range ops.size).any fun j => (ops[j]?.bind (·.dst)) == some t && bindsTo o j && codes[j]? == some (1, i))
/-- The operations from number 'codes.length' on are the tail: each of them waits for all before it. -/
def okB (ops : Array Oper) (m : Nat) (codes : List (Nat × Nat)) (rd : List (List (Tmp × Nat))) : Bool :=
  decide (codes.length ≤ ops.size) && rd.length == codes.length &&
  ((List.range codes.length).all fun i => match ops[i]?, codes[i]?, rd[i]? with
    | some o, some c, some r => okAt ops m codes i o c r
    | _, _, _ => false) &&
  (List.range ops.size).all fun i => decide (i < codes.length) || match ops[i]? with
    | some o => (o.after.all fun e => !Region.binds .any e || decide (e.on < i)) && (List.range i).all fun j => bindsTo o j || (bindsTo o (i - 1) && match ops[i - 1]? with | some o' => bindsTo o' j | none => false)
    | none => false
section
variable {P : Program} {ops : Array Oper} {sp : List RK} {A : Act} {w0 : World} {h0 : Nat} {tys : List TypeId} {rd : List (List (Tmp × Nat))} {m : Nat}

theorem put_getD_ne (a : Act) {d t : Tmp} (v : Value) (h : d ≠ t) : (a.put (some d) v).tmps.getD t undef = a.tmps.getD t undef := by
  simp [Act.put, Array.getElem?_setIfInBounds_ne h]
theorem put_getD_eq (a : Act) {d : Tmp} (v : Value) (h : d < a.tmps.size) : (a.put (some d) v).tmps.getD d undef = v := by
  simp [Act.put, h]
theorem put_size (a : Act) (d : Option Tmp) (v : Value) : (a.put d v).tmps.size = a.tmps.size := by
  cases d <;> simp [Act.put]
theorem put_def (a : Act) (d : Option Tmp) (v : Value) : (a.put d v).defers = a.defers := by
  cases d <;> simp [Act.put]
theorem eval_tmp (a : Act) (t : Tmp) : a.eval (.tmp t) = a.tmps.getD t undef := rfl

theorem Obs.get : ∀ {os : List Oper} {ks : List RK} {rs : List (List (Tmp × Nat))} {i : Nat} {o : Oper} {k : RK} {r : List (Tmp × Nat)},
    Obs P ops sp A w0 os ks rs → os[i]? = some o → ks[i]? = some k → rs[i]? = some r → Ob1 P ops sp A w0 o k r
  | o' :: os, k' :: ks, r' :: rs, 0, o, k, r, h, h1, h2, h3 => by
    simp at h1 h2 h3; subst h1 h2 h3; exact h.1
  | o' :: os, k' :: ks, r' :: rs, i + 1, o, k, r, h, h1, h2, h3 => Obs.get (i := i) h.2 (by simpa using h1) (by simpa using h2) (by simpa using h3)
  | [], _, _, i, o, k, r, h, h1, h2, h3 => by simp at h1
  | _ :: _, [], _, i, o, k, r, h, h1, h2, h3 => by simp at h2
  | _ :: _, _ :: _, [], i, o, k, r, h, h1, h2, h3 => by simp at h3

theorem Stabs.val_at : ∀ {ks : List RK} {i : Nat} {p : Value → World → Prop}, Stabs h0 tys sp ks → ks[i]? = some (.val p) → Stab h0 tys p
  | .val q :: ks, 0, p, h, e => by simp at e; subst e; exact h.1
  | .new .. :: ks, 0, p, h, e => by simp at e
  | .put .. :: ks, 0, p, h, e => by simp at e
  | .val q :: ks, i + 1, p, h, e => Stabs.val_at (i := i) h.2 (by simpa using e)
  | .new .. :: ks, i + 1, p, h, e => Stabs.val_at (i := i) h.2 (by simpa using e)
  | .put .. :: ks, i + 1, p, h, e => Stabs.val_at (ks := ks) (i := i) h (by simpa using e)
  | [], i, p, h, e => by simp at e
theorem Stabs.new_at : ∀ {ks : List RK} {i : Nat} {ty : TypeId} {z cs : Array Value} {si : Nat}, Stabs h0 tys sp ks → ks[i]? = some (.new ty z cs si) →
    ∀ {ty' z' cs' t}, sp[si]? = some (.put ty' z' cs' t) → ty = ty' ∧ z = z' ∧ cs = cs'
  | .val q :: ks, 0, _, _, _, _, h, e => by simp at e
  | .put .. :: ks, 0, _, _, _, _, h, e => by simp at e
  | .new .. :: ks, 0, _, _, _, _, h, e => by
    simp at e
    obtain ⟨rfl, rfl, rfl, rfl⟩ := e
    intro hs
    have h1 := h.1
    rw [hs] at h1
    exact h1
  | .val q :: ks, i + 1, _, _, _, _, h, e => Stabs.new_at (i := i) h.2 (by simpa using e)
  | .new .. :: ks, i + 1, _, _, _, _, h, e => Stabs.new_at (i := i) h.2 (by simpa using e)
  | .put .. :: ks, i + 1, _, _, _, _, h, e => Stabs.new_at (ks := ks) (i := i) h (by simpa using e)
  | [], i, _, _, _, _, h, e => by simp at e
theorem mem_tysOf : ∀ {ks : List RK} {i : Nat} {ty : TypeId} {z cs : Array Value} {si : Nat}, ks[i]? = some (.new ty z cs si) → ty ∈ tysOf ks
  | .val q :: ks, 0, _, _, _, _, e => by simp at e
  | .put .. :: ks, 0, _, _, _, _, e => by simp at e
  | .new .. :: ks, 0, _, _, _, _, e => by simp at e; simp [tysOf, e.1]
  | .val q :: ks, i + 1, _, _, _, _, e => mem_tysOf (ks := ks) (i := i) (by simpa using e)
  | .new .. :: ks, i + 1, _, _, _, _, e => List.mem_cons_of_mem _ (mem_tysOf (ks := ks) (i := i) (by simpa using e))
  | .put .. :: ks, i + 1, _, _, _, _, e => mem_tysOf (ks := ks) (i := i) (by simpa using e)
  | [], i, _, _, _, _, e => by simp at e

/-- What an operation does at a state that agrees with the one of its obligation on all that it looks at. -/
theorem Run.use {o : Oper} {k : RK} {D : List Deferred} {g : Nat} {w : World} {A' a : Act} {K : Act → World → Prop} {Q : Exit → Act → World → Prop}
    (h : Run P o k D g w A') (hs : ∀ cs b, o.op ≠ .select cs b) (he : ∀ x ∈ o.op.operands, a.eval x = A'.eval x) (hd : ∀ d, o.dst = some d → d < A'.tmps.size) (hA : A'.defers = D)
    (hK : ∀ v w', k.post g w (rvT o.dst v) w' → K (a.put o.dst v) w') : o.wp P a w K Q := by
  have h1 := h (fun a' w' => a'.defers = D ∧ k.post g w (readT a' o.dst) w') (fun _ _ x y => ⟨x, y⟩)
  have hr : ∀ v, readT (A'.put o.dst v) o.dst = rvT o.dst v := by
    intro v
    cases hdst : o.dst with
    | none => rfl
    | some d => exact put_getD_eq A' v (hd d hdst)
  unfold Oper.wp at *
  rw [execOp_congr o hs he]
  generalize (execOp A'.eval o).run P w = r at *
  cases r with
  | ok n w' =>
    cases n <;> simp only [Oper.upon] at h1 ⊢
    case value v => exact hK v w' (by rw [← hr v]; exact h1.2)
    case skip => exact hK _ w' (by rw [← hr]; exact h1.2)
    case defer d =>
      have := h1.1
      rw [put_def] at this
      simp only [hA] at this
      exact absurd (congrArg List.length this) (by simp)
    case enter f args =>
      refine Calls.mono h1 fun e w'' he => ?_
      cases e with
      | returned v => exact hK v w'' (by rw [← hr v]; exact he.2)
      | panicked c => exact he.elim
      | outgrown => obtain ⟨_, _, hf⟩ := he; exact hf.elim
    case row row args => exact Rows.mono h1 fun v w'' he => hK v w'' (by rw [← hr v]; exact he.2)
  | halt x w' =>
    cases x <;> simp only [Oper.upon] at h1
    case panic u => exact h1.elim

/-- The state of an obligation, its slots filled from a's. -/
def over (a : Act) : List (Tmp × Nat) → Act → Act
  | [], A => A
  | (t, _) :: r, A => over a r (A.put (some t) (a.tmps.getD t undef))
theorem over_size (a : Act) : ∀ (r : List (Tmp × Nat)) (A : Act), (over a r A).tmps.size = A.tmps.size
  | [], A => rfl
  | (t, j) :: r, A => (over_size a r _).trans (put_size _ _ _)
theorem over_defers (a : Act) : ∀ (r : List (Tmp × Nat)) (A : Act), (over a r A).defers = A.defers
  | [], A => rfl
  | (t, j) :: r, A => (over_defers a r _).trans (put_def _ _ _)
theorem over_keep (a : Act) : ∀ (r : List (Tmp × Nat)) (A : Act) (t : Tmp), A.tmps.size = a.tmps.size → A.tmps.getD t undef = a.tmps.getD t undef → (over a r A).tmps.getD t undef = a.tmps.getD t undef
  | [], A, t, _, h => h
  | (s, j) :: r, A, t, hs, h => by
    refine over_keep a r _ t ((put_size _ _ _).trans hs) ?_
    by_cases e : s = t
    · subst e
      rcases Nat.lt_or_ge s A.tmps.size with hl | hl
      · exact put_getD_eq _ _ hl
      · rw [← h]; simp [Act.put, Array.getElem?_eq_none (Nat.le_trans (by simp) hl : (A.tmps.setIfInBounds s _).size ≤ s), Array.getElem?_eq_none hl]
    · rw [put_getD_ne _ _ e]; exact h
theorem over_hit (a : Act) : ∀ (r : List (Tmp × Nat)) (A : Act) (t : Tmp), A.tmps.size = a.tmps.size → (r.any fun q => q.1 == t) = true → (over a r A).tmps.getD t undef = a.tmps.getD t undef
  | [], A, t, _, h => by simp at h
  | (s, j) :: r, A, t, hs, h => by
    by_cases e : s = t
    · subst e
      refine over_keep a r _ s ((put_size _ _ _).trans hs) ?_
      rcases Nat.lt_or_ge s A.tmps.size with hl | hl
      · exact put_getD_eq _ _ hl
      · have hl' : a.tmps.size ≤ s := hs ▸ hl
        simp [Act.put, Array.getElem?_eq_none (Nat.le_trans (by simp) hl : (A.tmps.setIfInBounds s _).size ≤ s), Array.getElem?_eq_none hl']
    · refine over_hit a r _ t ((put_size _ _ _).trans hs) ?_
      simpa [e] using h

theorem Reads.use {w : World} {G : Act → Prop} {a : Act} : ∀ {r : List (Tmp × Nat)} {A : Act}, Reads sp w G r A →
    (∀ q ∈ r, ∀ p, sp[q.2]? = some (.val p) → p (a.tmps.getD q.1 undef) w) → G (over a r A)
  | [], A, h, _ => h
  | (t, j) :: r, A, h, hp => by
    unfold Reads at h
    split at h
    · rename_i p hj
      exact Reads.use (r := r) (h _ (hp (t, j) List.mem_cons_self p hj)) fun q hq => hp q (List.mem_cons_of_mem _ hq)
    · exact h.elim

theorem yields_eq {a b : Act} {g : Nat} (hs : a.tmps.size = b.tmps.size) (h : ∀ t, (ops[g]?).bind (·.dst) = some t → a.tmps.getD t undef = b.tmps.getD t undef) : yielded ops a.tmps g = yielded ops b.tmps g := by
  unfold yielded
  cases ht : (ops[g]?).bind (·.dst) with
  | none => rfl
  | some t =>
    have h1 := h t ht
    have e : a.tmps[t]? = b.tmps[t]? := by
      rcases Nat.lt_or_ge t a.tmps.size with hl | hl
      · have hl' : t < b.tmps.size := hs ▸ hl
        simp [hl, hl'] at h1 ⊢
        exact h1
      · rw [Array.getElem?_eq_none hl, Array.getElem?_eq_none (hs ▸ hl)]
    simp only [Option.bind_some, e]

structure OkAt (ops : Array Oper) (m : Nat) (codes : List (Nat × Nat)) (i : Nat) (o : Oper) (c : Nat × Nat) (r : List (Tmp × Nat)) : Prop where
  fwd : ∀ e ∈ o.after, Region.binds .any e = true → e.on < i
  sel : ∀ cs b, o.op ≠ .select cs b
  dst : ∀ d, o.dst = some d → d < m ∧ ∀ (j : Nat) (oj : Oper), ops[j]? = some oj → oj.dst = some d → j = i
  looks : ∀ t ∈ o.looksAt ops, (r.any (fun q => q.1 == t) = true) ∨ (c = (2, t)) ∨ ∀ (j : Nat) (oj : Oper), ops[j]? = some oj → oj.dst = some t → bindsTo oj i = true
  reads : ∀ q ∈ r, (ops[q.2]?.bind (·.dst)) = some q.1 ∧ bindsTo o q.2 = true
  new : ∀ si, c = (1, si) → o.guard = none ∧ (∃ s, ops[si]? = some s ∧ bindsTo s i = true) ∧ ∃ d, o.dst = some d ∧ codes[si]? = some (2, d)
  put : ∀ t, c = (2, t) → o.guard = none ∧ o.dst = none ∧ ∃ (j : Nat) (oj : Oper), ops[j]? = some oj ∧ oj.dst = some t ∧ bindsTo o j = true ∧ codes[j]? = some (1, i)

theorem lt_of_some {α : Type} {xs : Array α} {i : Nat} {x : α} (h : xs[i]? = some x) : i < xs.size := (Array.getElem?_eq_some_iff.1 h).1
theorem ok_at {codes : List (Nat × Nat)} (h : okB ops m codes rd = true) {i : Nat} {o : Oper} (ho : ops[i]? = some o) {c : Nat × Nat} (hck : codes[i]? = some c) : ∃ r, rd[i]? = some r ∧ OkAt ops m codes i o c r := by
  unfold okB at h
  simp only [Bool.and_eq_true, beq_iff_eq, List.all_eq_true, List.mem_range, decide_eq_true_eq] at h
  obtain ⟨⟨⟨hc, hr⟩, h⟩, _⟩ := h
  have hci : i < codes.length := (List.getElem?_eq_some_iff.1 hck).1
  have h1 := h i hci
  have hri : i < rd.length := by omega
  rw [ho, hck, List.getElem?_eq_getElem hri] at h1
  refine ⟨_, List.getElem?_eq_getElem hri, ?_⟩
  generalize rd[i] = r at *
  simp only [okAt, Bool.and_eq_true] at h1
  obtain ⟨⟨⟨⟨⟨k1, k2⟩, k3⟩, k4⟩, k5⟩, k6⟩ := h1
  refine ⟨?_, ?_, ?_, ?_, ?_, ?_, ?_⟩
  · intro e he hb
    have := Array.all_eq_true_iff_forall_mem.1 k1 e he
    simpa [hb] using this
  · intro cs b e
    rw [e] at k2
    cases k2
  · intro d hd
    rw [hd] at k3
    simp only [Bool.and_eq_true, decide_eq_true_eq, List.all_eq_true, List.mem_range, Bool.or_eq_true, beq_iff_eq, bne_iff_ne, ne_eq] at k3
    refine ⟨k3.1, fun j oj hj hdj => ?_⟩
    rcases k3.2 j (lt_of_some hj) with e | e
    · exact e
    · exact absurd (by rw [hj]; exact hdj) e
  · intro t ht
    simp only [List.all_eq_true, Bool.or_eq_true] at k4
    rcases k4 t ht with (e | e) | e
    · exact .inl e
    · simp only [Bool.and_eq_true, beq_iff_eq] at e
      exact .inr (.inl (Prod.ext e.1 e.2))
    · refine .inr (.inr fun j oj hj hdj => ?_)
      have := e j (List.mem_range.2 (lt_of_some hj))
      simp only [hj, hdj, bne_self_eq_false, Bool.false_or, Bool.and_eq_true] at this
      exact this.1
  · intro q hq
    have := List.all_eq_true.1 k5 q hq
    simp only [Bool.and_eq_true, beq_iff_eq] at this
    exact this
  · rintro si rfl
    simp only [Bool.and_eq_true, Option.isNone_iff_eq_none, Option.isSome_iff_exists, beq_iff_eq] at k6
    obtain ⟨⟨⟨a1, d, a2⟩, a3⟩, a4⟩ := k6
    refine ⟨a1, ?_, d, a2, by rw [a4, a2]; rfl⟩
    split at a3
    · rename_i s hs; exact ⟨s, hs, a3⟩
    · cases a3
  · rintro t rfl
    simp only [Bool.and_eq_true, Option.isNone_iff_eq_none, List.any_eq_true, List.mem_range, beq_iff_eq] at k6
    obtain ⟨⟨a1, a2⟩, j, hj, ⟨a3, a4⟩, a5⟩ := k6
    cases hoj : ops[j]? with
    | none => rw [hoj] at a3; cases a3
    | some oj => rw [hoj] at a3; exact ⟨a1, a2, j, oj, hoj, a3, a4, a5⟩

theorem ok_fwd {codes : List (Nat × Nat)} (h : okB ops m codes rd = true) {i : Nat} {o : Oper} (ho : ops[i]? = some o) : ∀ e ∈ o.after, Region.binds .any e = true → e.on < i := by
  by_cases hi : i < codes.length
  · obtain ⟨_, _, ok⟩ := ok_at h ho (List.getElem?_eq_getElem hi)
    exact ok.fwd
  · unfold okB at h
    simp only [Bool.and_eq_true, List.all_eq_true, List.mem_range] at h
    have h1 := h.2 i (lt_of_some ho)
    rw [ho] at h1
    simp only [hi, decide_false, Bool.false_or, Bool.and_eq_true] at h1
    intro e he hb
    have := Array.all_eq_true_iff_forall_mem.1 h1.1 e he
    simpa [hb] using this
theorem ok_tail {codes : List (Nat × Nat)} (h : okB ops m codes rd = true) {i : Nat} {o : Oper} (ho : ops[i]? = some o) (hi : codes.length ≤ i) : ∀ j, j < i → bindsTo o j = true ∨ (bindsTo o (i - 1) = true ∧ ∃ o', ops[i - 1]? = some o' ∧ bindsTo o' j = true) := by
  unfold okB at h
  simp only [Bool.and_eq_true, List.all_eq_true, List.mem_range] at h
  have h1 := h.2 i (lt_of_some ho)
  rw [ho] at h1
  have hn : ¬ i < codes.length := by omega
  simp only [hn, decide_false, Bool.false_or, Bool.and_eq_true] at h1
  intro j hj
  have h2 := List.all_eq_true.1 h1.2 j (List.mem_range.2 hj)
  simp only [Bool.or_eq_true, Bool.and_eq_true] at h2
  rcases h2 with h2 | ⟨h2, h3⟩
  · exact .inl h2
  · refine .inr ⟨h2, ?_⟩
    split at h3
    · rename_i o' ho'; exact ⟨o', ho', h3⟩
    · cases h3
theorem ok_sp {codes : List (Nat × Nat)} (hc : sp.map RK.code = codes) (h : okB ops m codes rd = true) {i : Nat} {o : Oper} (ho : ops[i]? = some o) {k : RK} (hk : sp[i]? = some k) : ∃ r, rd[i]? = some r ∧ OkAt ops m codes i o k.code r :=
  ok_at h ho (by rw [← hc, List.getElem?_map, hk]; rfl)

/-- What holds of a state in which the listed operations are done. -/
structure Inv (ops : Array Oper) (sp : List RK) (A : Act) (w0 : World) (listed : Array Bool) (a : Act) (w : World) : Prop where
  len : listed.size = ops.size
  defers : a.defers = A.defers
  size : a.tmps.size = A.tmps.size
  below : Below w0.heap.size w0 w
  vals : ∀ (i : Nat) (o : Oper) t p, ops[i]? = some o → o.dst = some t → sp[i]? = some (.val p) → listed.getD i false = true → p (a.tmps.getD t undef) w
  olds : ∀ t, (∀ (i : Nat) (o : Oper), ops[i]? = some o → o.dst = some t → listed.getD i false = false) → a.tmps.getD t undef = A.tmps.getD t undef
  news : ∀ (i : Nat) (o : Oper) t ty z cs si, ops[i]? = some o → o.dst = some t → sp[i]? = some (.new ty z cs si) → listed.getD i false = true →
    ∃ g, a.tmps.getD t undef = .pointer (some ⟨g, 0, none⟩) ∧ w0.heap.size ≤ g ∧ Box w g ty (if listed.getD si false = true then cs else z)
  apart : ∀ (i j : Nat) (o o' : Oper) t t' ty z cs si ty' z' cs' si', ops[i]? = some o → o.dst = some t → sp[i]? = some (.new ty z cs si) → listed.getD i false = true →
    ops[j]? = some o' → o'.dst = some t' → sp[j]? = some (.new ty' z' cs' si') → listed.getD j false = true → i ≠ j → a.tmps.getD t undef ≠ a.tmps.getD t' undef
  down : ∀ (i : Nat) (o : Oper), ops[i]? = some o → listed.getD i false = true → ∀ e ∈ o.after, Region.binds .any e = true → listed.getD e.on false = true

theorem set_getD {listed : Array Bool} {i : Nat} (hi : i < listed.size) (j : Nat) : (listed.setIfInBounds i true).getD j false = true ↔ j = i ∨ listed.getD j false = true := by
  by_cases h : i = j
  · subst h; simp [hi]
  · simp [Array.getElem?_setIfInBounds_ne h, Ne.symm h]
theorem set_getD_ne {listed : Array Bool} {i j : Nat} (h : j ≠ i) : (listed.setIfInBounds i true).getD j false = listed.getD j false := by
  simp [Array.getElem?_setIfInBounds_ne (Ne.symm h)]
theorem getD_false {listed : Array Bool} {i : Nat} (h : listed.getD i true = false) : listed.getD i false = false := by
  rcases Nat.lt_or_ge i listed.size with hl | hl
  · simp [hl] at h ⊢; exact h
  · simp [Array.getElem?_eq_none hl]

theorem bindsTo_spec {o : Oper} {j : Nat} (h : bindsTo o j = true) : ∃ e ∈ o.after, Region.binds .any e = true ∧ e.on = j := by
  obtain ⟨e, he, hb⟩ := Array.any_eq_true'.1 h
  simp only [Bool.and_eq_true, beq_iff_eq] at hb
  exact ⟨e, he, hb.1, hb.2⟩

theorem inv_step {codes : List (Nat × Nat)} (hc : sp.map RK.code = codes) (hm : A.tmps.size = m) (hok : okB ops m codes rd = true) (hst : Stabs w0.heap.size (tysOf sp) sp sp)
    (hob : Obs P ops sp A w0 ops.toList sp rd) {Q : Exit → Act → World → Prop} {listed : Array Bool} {a : Act} {w : World} (I : Inv ops sp A w0 listed a w) {i : Nat} (hi : i ∈ Region.ready .any ops listed) (hlin : i < codes.length) :
    wpOp P ops Q i (Inv ops sp A w0 (listed.setIfInBounds i true)) a w := by
  obtain ⟨hl0, o, ho, hall⟩ := mem_ready.1 hi
  have hl := getD_false hl0
  have hci : codes[i]? = some codes[i] := List.getElem?_eq_getElem hlin
  obtain ⟨r, hri, ok⟩ := ok_at hok ho hci
  generalize codes[i] = c at *
  have hil : i < listed.size := by rw [I.len]; exact lt_of_some ho
  obtain ⟨k, hk, hkc⟩ : ∃ k, sp[i]? = some k ∧ k.code = c := by
    rw [← hc, List.getElem?_map] at hci
    cases hs : sp[i]? with
    | none => rw [hs] at hci; cases hci
    | some k => rw [hs] at hci; exact ⟨k, rfl, by simpa using hci⟩
  have hOb := hob.get (by simpa using ho) hk hri
  have hpred : ∀ j, bindsTo o j = true → listed.getD j false = true := fun j hj => by
    obtain ⟨e, he, hb, rfl⟩ := bindsTo_spec hj
    exact hall e he hb
  -- the values read are those of a
  have hrd : ∀ q ∈ r, ∀ p, sp[q.2]? = some (.val p) → p (a.tmps.getD q.1 undef) w := fun q hq p hp => by
    obtain ⟨e1, e2⟩ := ok.reads q hq
    cases hoq : ops[q.2]? with
    | none => rw [hoq] at e1; cases e1
    | some oq => rw [hoq] at e1; exact I.vals q.2 oq q.1 p hoq e1 hp (hpred _ e2)
  have hold : ∀ t, (∀ (j : Nat) (oj : Oper), ops[j]? = some oj → oj.dst = some t → bindsTo oj i = true) → a.tmps.getD t undef = A.tmps.getD t undef := fun t ht => by
    refine I.olds t fun j oj hj hdj => ?_
    cases hlj : listed.getD j false with
    | false => rfl
    | true =>
      obtain ⟨e, he, hb, rfl⟩ := bindsTo_spec (ht j oj hj hdj)
      rw [I.down j oj hj hlj e he hb] at hl
      cases hl
  -- how the invariant goes on
  have downs : ∀ (j : Nat) (oj : Oper), ops[j]? = some oj → (listed.setIfInBounds i true).getD j false = true → ∀ e ∈ oj.after, Region.binds .any e = true → (listed.setIfInBounds i true).getD e.on false = true := by
    intro j oj hj hlj e he hb
    rw [set_getD hil] at hlj ⊢
    rcases hlj with rfl | hlj
    · rw [ho] at hj; cases hj; exact .inr (hall e he hb)
    · exact .inr (I.down j oj hj hlj e he hb)
  have mdst : ∀ d, o.dst = some d → d < a.tmps.size := fun d hd => by rw [I.size, hm]; exact (ok.dst d hd).1
  have other : ∀ (j : Nat) (oj : Oper) t v, ops[j]? = some oj → oj.dst = some t → j ≠ i → (a.put o.dst v).tmps.getD t undef = a.tmps.getD t undef := by
    intro j oj t v hj hdj hne
    cases hd : o.dst with
    | none => rfl
    | some d => exact put_getD_ne a v fun e => hne ((ok.dst d hd).2 j oj hj (e ▸ hdj))
  have olds : ∀ v t, (∀ (j : Nat) (oj : Oper), ops[j]? = some oj → oj.dst = some t → (listed.setIfInBounds i true).getD j false = false) → (a.put o.dst v).tmps.getD t undef = A.tmps.getD t undef := by
    intro v t ht
    have hne : o.dst ≠ some t := fun e => by
      have := ht i o ho e
      rw [(set_getD hil i).2 (.inl rfl)] at this
      cases this
    have h1 : (a.put o.dst v).tmps.getD t undef = a.tmps.getD t undef := by
      cases hd : o.dst with
      | none => rfl
      | some d => exact put_getD_ne a v fun e => hne (by rw [hd, e])
    rw [h1]
    refine I.olds t fun j oj hj hdj => ?_
    cases hlj : listed.getD j false with
    | false => rfl
    | true => rw [← ht j oj hj hdj, (set_getD hil j).2 (.inr hlj)]
  -- the three kinds
  have valK : ∀ p, k = .val p → ∀ v w', k.post 0 w (rvT o.dst v) w' → Inv ops sp A w0 (listed.setIfInBounds i true) (a.put o.dst v) w' := by
    rintro p rfl v w' ⟨hp, hb⟩
    refine ⟨by simpa using I.len, (put_def _ _ _).trans I.defers, (put_size _ _ _).trans I.size, I.below.trans (hb.mono I.below.size), ?_, olds v, ?_, ?_, downs⟩
    · intro j oj t q hj hdj hq hlj
      by_cases hji : j = i
      · subst hji
        rw [ho] at hj; cases hj
        rw [hk] at hq; cases hq
        rw [hdj, put_getD_eq _ _ (mdst t hdj)]
        rw [hdj] at hp
        exact hp
      · rw [other j oj t v hj hdj hji]
        rw [set_getD_ne hji] at hlj
        exact hst.val_at hq _ _ _ (Gr.of_below hb) (I.vals j oj t q hj hdj hq hlj)
    · intro j oj t ty z cs si hj hdj hq hlj
      have hji : j ≠ i := fun e => by subst e; rw [hk] at hq; cases hq
      rw [set_getD_ne hji] at hlj
      obtain ⟨g, hg, hg0, hbx⟩ := I.news j oj t ty z cs si hj hdj hq hlj
      refine ⟨g, (other j oj t v hj hdj hji).trans hg, hg0, ?_⟩
      have hsi : si ≠ i := fun e => by
        obtain ⟨r2, _, ok2⟩ := ok_sp hc hok hj hq
        obtain ⟨_, _, d, _, hd2⟩ := ok2.new si rfl
        rw [← hc, List.getElem?_map, e, hk] at hd2
        simp [RK.code] at hd2
      rw [set_getD_ne hsi]
      exact hbx.below hb hbx.lt
    · intro j j' oj oj' t t' ty z cs si ty' z' cs' si' hj hdj hq hlj hj' hdj' hq' hlj' hne
      have hji : j ≠ i := fun e => by subst e; rw [hk] at hq; cases hq
      have hji' : j' ≠ i := fun e => by subst e; rw [hk] at hq'; cases hq'
      rw [other j oj t v hj hdj hji, other j' oj' t' v hj' hdj' hji']
      rw [set_getD_ne hji] at hlj
      rw [set_getD_ne hji'] at hlj'
      exact I.apart j j' oj oj' t t' ty z cs si ty' z' cs' si' hj hdj hq hlj hj' hdj' hq' hlj' hne
  have newK : ∀ ty z cs si, k = .new ty z cs si → ∀ v w', k.post 0 w (rvT o.dst v) w' → Inv ops sp A w0 (listed.setIfInBounds i true) (a.put o.dst v) w' := by
    rintro ty z cs si rfl v w' ⟨hv, rfl⟩
    obtain ⟨hgd, ⟨s, hs, hsb⟩, d, hd, hsd⟩ := ok.new si hkc.symm
    have hlsi : listed.getD si false = false := by
      cases e : listed.getD si false with
      | false => rfl
      | true =>
        obtain ⟨e1, he1, hb1, e2⟩ := bindsTo_spec hsb
        have := I.down si s hs e e1 he1 hb1
        rw [e2, hl] at this
        cases this
    have hsine : si ≠ i := fun e => by
      obtain ⟨e1, he1, hb1, e2⟩ := bindsTo_spec hsb
      have := ok_fwd hok hs e1 he1 hb1
      omega
    rw [hd] at hv
    have hv : v = .pointer (some ⟨w.heap.size, 0, none⟩) := hv
    have hb : Below w.heap.size w (w.alloc (.cells z ty)) := (Below.refl _ _).alloc (Nat.le_refl _) _
    refine ⟨by simpa using I.len, (put_def _ _ _).trans I.defers, (put_size _ _ _).trans I.size, I.below.trans (hb.mono I.below.size), ?_, olds v, ?_, ?_, downs⟩
    · intro j oj t q hj hdj hq hlj
      have hji : j ≠ i := fun e => by subst e; rw [hk] at hq; cases hq
      rw [other j oj t v hj hdj hji]
      rw [set_getD_ne hji] at hlj
      exact hst.val_at hq _ _ _ (Gr.of_below hb) (I.vals j oj t q hj hdj hq hlj)
    · intro j oj t ty' z' cs' si' hj hdj hq hlj
      by_cases hji : j = i
      · subst hji
        rw [ho] at hj; cases hj
        rw [hk] at hq; cases hq
        rw [hd] at hdj; cases hdj
        refine ⟨w.heap.size, ?_, I.below.size, ?_⟩
        · rw [hd, put_getD_eq _ _ (mdst _ hd)]; exact hv
        · rw [set_getD_ne hsine, hlsi]
          exact Box.new w ty z
      · rw [set_getD_ne hji] at hlj
        obtain ⟨g, hg, hg0, hbx⟩ := I.news j oj t ty' z' cs' si' hj hdj hq hlj
        refine ⟨g, (other j oj t v hj hdj hji).trans hg, hg0, ?_⟩
        have hsi : si' ≠ i := fun e => by
          obtain ⟨r2, _, ok2⟩ := ok_sp hc hok hj hq
          obtain ⟨_, _, d2, _, hd2⟩ := ok2.new si' rfl
          rw [← hc, List.getElem?_map, e, hk] at hd2
          simp [RK.code] at hd2
        rw [set_getD_ne hsi]
        exact hbx.below hb hbx.lt
    · have fresh : ∀ (j : Nat) (oj : Oper) t ty' z' cs' si', ops[j]? = some oj → oj.dst = some t → sp[j]? = some (.new ty' z' cs' si') → listed.getD j false = true → a.tmps.getD t undef ≠ v := by
        intro j oj t ty' z' cs' si' hj hdj hq hlj e
        obtain ⟨g, hg, _, hbx⟩ := I.news j oj t ty' z' cs' si' hj hdj hq hlj
        have := hbx.lt
        rw [hg, hv] at e
        injection e with e
        injection e with e
        injection e with e
        omega
      intro j j' oj oj' t t' ty1 z1 cs1 si1 ty2 z2 cs2 si2 hj hdj hq hlj hj' hdj' hq' hlj' hne
      by_cases hji : j = i
      · subst hji
        have hji' : j' ≠ j := Ne.symm hne
        rw [ho] at hj; cases hj
        rw [other j' oj' t' v hj' hdj' hji', hdj, put_getD_eq _ _ (mdst _ hdj)]
        rw [set_getD_ne hji'] at hlj'
        exact Ne.symm (fresh j' oj' t' _ _ _ _ hj' hdj' hq' hlj')
      · by_cases hji' : j' = i
        · subst hji'
          rw [ho] at hj'; cases hj'
          rw [other j oj t v hj hdj hji, hdj', put_getD_eq _ _ (mdst _ hdj')]
          rw [set_getD_ne hji] at hlj
          exact fresh j oj t _ _ _ _ hj hdj hq hlj
        · rw [other j oj t v hj hdj hji, other j' oj' t' v hj' hdj' hji']
          rw [set_getD_ne hji] at hlj
          rw [set_getD_ne hji'] at hlj'
          exact I.apart j j' oj oj' t t' _ _ _ _ _ _ _ _ hj hdj hq hlj hj' hdj' hq' hlj' hne
  unfold wpOp
  simp only [ho]
  cases k with
  | val p =>
    have hG := Reads.use (a := a) (hOb w I.below) hrd
    have hlk : ∀ t ∈ o.looksAt ops, a.tmps.getD t undef = (over a r A).tmps.getD t undef := fun t ht => by
      rcases ok.looks t ht with h | h | h
      · exact (over_hit a r A t I.size.symm h).symm
      · rw [← hkc] at h; simp [RK.code] at h
      · exact (over_keep a r A t I.size.symm (hold t h).symm).symm
    have hev : ∀ x ∈ o.op.operands, a.eval x = (over a r A).eval x := fun x hx => by
      cases x with
      | tmp t => exact hlk t (List.mem_append_left _ (List.mem_filterMap.2 ⟨.tmp t, by simpa using hx, rfl⟩))
      | _ => rfl
    have hsz : a.tmps.size = (over a r A).tmps.size := by rw [over_size, I.size]
    have run : Run P o (.val p) A.defers 0 w (over a r A) → o.wp P a w (Inv ops sp A w0 (listed.setIfInBounds i true)) Q := fun h =>
      h.use ok.sel hev (fun d hd => by rw [← hsz]; exact mdst d hd) (over_defers _ _ _) fun v w' hp => valK p rfl v w' hp
    unfold Run' at hG
    cases hgd : o.guard with
    | none =>
      rw [hgd] at hG
      have : Region.wanted o (yielded ops a.tmps) = true := by unfold Region.wanted; rw [hgd]
      simp only [this, if_true]
      exact .inl (run hG)
    | some gw =>
      rw [hgd] at hG
      have hwa : Region.wanted o (yielded ops a.tmps) = Region.wanted o (yielded ops (over a r A).tmps) := by
        obtain ⟨gi, want⟩ := gw
        unfold Region.wanted
        simp only [hgd]
        rw [yields_eq hsz fun t ht => hlk t (List.mem_append_right _ (by rw [hgd]; simp [ht]))]
      split
      · rename_i hw
        exact .inl (run (hG.1 (by rw [← hwa]; exact hw)))
      · rename_i hw
        have := hG.2 (by rw [← hwa]; simpa using hw)
        refine valK p rfl undef w ?_
        cases hd : o.dst with
        | none => exact this
        | some d => exact this
  | new ty z cs si =>
    obtain ⟨hgd, _, d, hd, _⟩ := ok.new si hkc.symm
    have hG := Reads.use (a := a) (hOb w I.below) hrd
    have hlk : ∀ t ∈ o.looksAt ops, a.tmps.getD t undef = (over a r A).tmps.getD t undef := fun t ht => by
      rcases ok.looks t ht with h | h | h
      · exact (over_hit a r A t I.size.symm h).symm
      · rw [← hkc] at h; simp [RK.code] at h
      · exact (over_keep a r A t I.size.symm (hold t h).symm).symm
    have hev : ∀ x ∈ o.op.operands, a.eval x = (over a r A).eval x := fun x hx => by
      cases x with
      | tmp t => exact hlk t (List.mem_append_left _ (List.mem_filterMap.2 ⟨.tmp t, by simpa using hx, rfl⟩))
      | _ => rfl
    have hsz : a.tmps.size = (over a r A).tmps.size := by rw [over_size, I.size]
    unfold Run' at hG
    rw [hgd] at hG
    have : Region.wanted o (yielded ops a.tmps) = true := by unfold Region.wanted; rw [hgd]
    simp only [this, if_true]
    exact .inl (Run.use hG ok.sel hev (fun d hd => by rw [← hsz]; exact mdst d hd) (over_defers _ _ _) fun v w' hp => newK ty z cs si rfl v w' hp)
  | put ty z cs t =>
    obtain ⟨hgd, hdn, j, oj, hj, hdj, hbj, hcj⟩ := ok.put t hkc.symm
    obtain ⟨kj, hkj, hkjc⟩ : ∃ kj, sp[j]? = some kj ∧ kj.code = (1, i) := by
      rw [← hc, List.getElem?_map] at hcj
      cases hs : sp[j]? with
      | none => rw [hs] at hcj; cases hcj
      | some kj => rw [hs] at hcj; exact ⟨kj, rfl, by simpa using hcj⟩
    cases kj with
    | val _ => simp [RK.code] at hkjc
    | put _ _ _ _ => simp [RK.code] at hkjc
    | new ty' z' cs' si =>
      obtain rfl : si = i := by simpa [RK.code] using hkjc
      obtain ⟨rfl, rfl, rfl⟩ := hst.new_at hkj hk
      obtain ⟨g, hg, hg0, hbx⟩ := I.news j oj t _ _ _ _ hj hdj hkj (hpred j hbj)
      rw [hl] at hbx
      simp only [Bool.false_eq_true, if_false] at hbx
      have hG := Reads.use (a := a) (hOb w I.below g hg0 hbx) hrd
      generalize hA' : A.put (some t) (.pointer (some ⟨g, 0, none⟩)) = A' at hG
      have hsA : A'.tmps.size = a.tmps.size := by rw [← hA', put_size, I.size]
      have htA : A'.tmps.getD t undef = a.tmps.getD t undef := by
        rw [hg, ← hA']
        exact put_getD_eq _ _ (by
          obtain ⟨_, _, ok2⟩ := ok_sp hc hok hj hkj
          rw [hm]; exact (ok2.dst t hdj).1)
      have hnA : ∀ u, u ≠ t → A'.tmps.getD u undef = A.tmps.getD u undef := fun u hu => by rw [← hA']; exact put_getD_ne _ _ (Ne.symm hu)
      have hlk : ∀ u ∈ o.looksAt ops, a.tmps.getD u undef = (over a r A').tmps.getD u undef := fun u hu => by
        rcases ok.looks u hu with h | h | h
        · exact (over_hit a r A' u hsA h).symm
        · rw [← hkc] at h
          obtain rfl : t = u := by simpa [RK.code] using h
          exact (over_keep a r A' t hsA htA).symm
        · refine (over_keep a r A' u hsA ?_).symm
          by_cases hu' : u = t
          · subst hu'; exact htA
          · rw [hnA u hu', hold u h]
      have hev : ∀ x ∈ o.op.operands, a.eval x = (over a r A').eval x := fun x hx => by
        cases x with
        | tmp u => exact hlk u (List.mem_append_left _ (List.mem_filterMap.2 ⟨.tmp u, by simpa using hx, rfl⟩))
        | _ => rfl
      have : Region.wanted o (yielded ops a.tmps) = true := by unfold Region.wanted; rw [hgd]
      simp only [this, if_true]
      refine .inl (Run.use hG ok.sel hev (fun d hd => by rw [hdn] at hd; cases hd) (by rw [over_defers, ← hA', put_def]) fun v w' hp => ?_)
      have hS : Stored w g _ _ w' := hp
      refine ⟨by simpa using I.len, (put_def _ _ _).trans I.defers, (put_size _ _ _).trans I.size, hS.below I.below hg0, ?_, olds v, ?_, ?_, downs⟩
      · intro j' oj' t' q hj' hdj' hq hlj'
        have hji : j' ≠ si := fun e => by subst e; rw [hk] at hq; cases hq
        rw [other j' oj' t' v hj' hdj' hji]
        rw [set_getD_ne hji] at hlj'
        exact hst.val_at hq _ _ _ (Gr.of_stored hS hbx hg0 (mem_tysOf hkj)) (I.vals j' oj' t' q hj' hdj' hq hlj')
      · intro j' oj' t' ty' z' cs' si' hj' hdj' hq hlj'
        have hji : j' ≠ si := fun e => by subst e; rw [hk] at hq; cases hq
        rw [set_getD_ne hji] at hlj'
        by_cases hjj : j' = j
        · subst hjj
          rw [hj] at hj'; cases hj'
          rw [hkj] at hq; cases hq
          rw [hdj] at hdj'; cases hdj'
          refine ⟨g, (other j' oj t v hj hdj hji).trans hg, hg0, ?_⟩
          rw [(set_getD hil si).2 (.inl rfl)]
          exact hS.box
        · obtain ⟨g', hg', hg0', hbx'⟩ := I.news j' oj' t' ty' z' cs' si' hj' hdj' hq hlj'
          have hsi : si' ≠ si := fun e => by
            obtain ⟨r2, _, ok2⟩ := ok_sp hc hok hj' hq
            obtain ⟨_, _, d2, hd3, hd2⟩ := ok2.new si' rfl
            rw [← hc, List.getElem?_map, e, hk] at hd2
            have e2 : t = d2 := by simpa [RK.code] using hd2
            obtain ⟨_, _, ok3⟩ := ok_sp hc hok hj hkj
            exact hjj ((ok3.dst t hdj).2 j' oj' hj' (e2 ▸ hd3))
          refine ⟨g', (other j' oj' t' v hj' hdj' hji).trans hg', hg0', ?_⟩
          rw [set_getD_ne hsi]
          have hgg : g' ≠ g := fun e => by
            have := I.apart j' j oj' oj t' t _ _ _ _ _ _ _ _ hj' hdj' hq hlj' hj hdj hkj (hpred j hbj) hjj
            rw [hg', hg, e] at this
            exact this rfl
          exact (hS.rest g' hgg).trans hbx'
      · intro j1 j2 o1 o2 t1 t2 ty1 z1 cs1 si1 ty2 z2 cs2 si2 h1 hd1 hq1 hl1 h2 hd2 hq2 hl2 hne
        have n1 : j1 ≠ si := fun e => by subst e; rw [hk] at hq1; cases hq1
        have n2 : j2 ≠ si := fun e => by subst e; rw [hk] at hq2; cases hq2
        rw [other j1 o1 t1 v h1 hd1 n1, other j2 o2 t2 v h2 hd2 n2]
        rw [set_getD_ne n1] at hl1
        rw [set_getD_ne n2] at hl2
        exact I.apart j1 j2 o1 o2 t1 t2 _ _ _ _ _ _ _ _ h1 hd1 hq1 hl1 h2 hd2 hq2 hl2 hne

def unl (listed : Array Bool) : Nat := listed.toList.countP (· == false)
theorem countP_set_true : ∀ (l : List Bool) (i : Nat), l[i]? = some false → (l.set i true).countP (· == false) + 1 = l.countP (· == false)
  | [], i, h => by simp at h
  | x :: l, 0, h => by simp at h; subst h; simp
  | x :: l, i + 1, h => by
    have := countP_set_true l i (by simpa using h)
    simp only [List.set_cons_succ, List.countP_cons]
    omega
theorem unl_set {listed : Array Bool} {i : Nat} (h : listed.getD i true = false) : unl (listed.setIfInBounds i true) + 1 = unl listed := by
  unfold unl
  have hi : i < listed.size := by
    rcases Nat.lt_or_ge i listed.size with hl | hl
    · exact hl
    · simp [Array.getElem?_eq_none hl] at h
  rw [Array.toList_setIfInBounds]
  exact countP_set_true _ _ (by simpa [hi] using h)
theorem rep_false (n i : Nat) : ¬ (Array.replicate n false).getD i false = true := by
  rcases Nat.lt_or_ge i n with h | h
  · simp [h]
  · simp [Array.getElem?_eq_none (show (Array.replicate n false).size ≤ i by simpa using h)]
theorem ready_nil {listed : Array Bool} (hlen : listed.size = ops.size) (hf : ∀ (i : Nat) (o : Oper), ops[i]? = some o → ∀ e ∈ o.after, Region.binds .any e = true → e.on < i) (h : Region.ready .any ops listed = []) :
    ∀ (i : Nat) (o : Oper), ops[i]? = some o → listed.getD i false = true := by
  intro i
  induction i using Nat.strongRecOn with
  | ind i ih =>
    intro o ho
    cases hl : listed.getD i false with
    | true => rfl
    | false =>
      have hi : i < listed.size := by rw [hlen]; exact lt_of_some ho
      have : i ∈ Region.ready .any ops listed := mem_ready.2 ⟨by simp [hi] at hl ⊢; exact hl, o, ho, fun e he hb => by
        have hlt := hf i o ho e he hb
        obtain ⟨o2, ho2⟩ : ∃ o2, ops[e.on]? = some o2 := ⟨_, Array.getElem?_eq_getElem (by have := lt_of_some ho; omega)⟩
        exact ih e.on hlt o2 ho2⟩
      rw [h] at this
      cases this

theorem any_of_inv {I : Array Bool → Act → World → Prop} {Q : Exit → Act → World → Prop} (hlen : ∀ l a w, I l a w → l.size = ops.size)
    (hstep : ∀ l a w i, I l a w → i ∈ Region.ready .any ops l → wpOp P ops Q i (I (l.setIfInBounds i true)) a w)
    (hend : ∀ l a w, I l a w → Region.ready .any ops l = [] → Q .normal a w) :
    ∀ fuel l a w, unl l ≤ fuel → I l a w → wpAny P .any ops Q fuel l a w := by
  intro fuel
  induction fuel with
  | zero =>
    intro l a w hu h
    have hr : Region.ready .any ops l = [] := by
      cases hr : Region.ready .any ops l with
      | nil => rfl
      | cons i r =>
        have hi : i ∈ Region.ready .any ops l := by rw [hr]; exact List.mem_cons_self
        have := unl_set (mem_ready.1 hi).1
        omega
    exact ⟨hr, hend l a w h hr⟩
  | succ fuel ih =>
    intro l a w hu h
    refine ⟨hend l a w h, fun i hi => ?_⟩
    have := unl_set (mem_ready.1 hi).1
    exact wpOp_mono (fun a' w' h' => ih _ a' w' (by omega) h') (hstep l a w i h hi)

/-- The state behind the region, its slots filled from a's. -/
def overO (a : Act) : List Oper → Act → Act
  | [], A => A
  | o :: os, A => overO a os (match o.dst with | some t => A.put (some t) (a.tmps.getD t undef) | none => A)
theorem overO_size (a : Act) : ∀ (os : List Oper) (A : Act), (overO a os A).tmps.size = A.tmps.size
  | [], A => rfl
  | o :: os, A => by
    unfold overO
    rw [overO_size a os]
    cases o.dst <;> simp [put_size]
theorem overO_defers (a : Act) : ∀ (os : List Oper) (A : Act), (overO a os A).defers = A.defers
  | [], A => rfl
  | o :: os, A => by
    unfold overO
    rw [overO_defers a os]
    cases o.dst <;> simp [put_def]
theorem overO_keep (a : Act) : ∀ (os : List Oper) (A : Act) (t : Tmp), A.tmps.size = a.tmps.size → A.tmps.getD t undef = a.tmps.getD t undef → (overO a os A).tmps.getD t undef = a.tmps.getD t undef
  | [], A, t, _, h => h
  | o :: os, A, t, hs, h => by
    unfold overO
    cases hd : o.dst with
    | none => exact overO_keep a os _ t hs h
    | some s =>
      have := over_keep a [(s, 0)] A t hs h
      exact overO_keep a os _ t ((put_size _ _ _).trans hs) this
theorem overO_hit (a : Act) : ∀ (os : List Oper) (A : Act) (t : Tmp), A.tmps.size = a.tmps.size → (∃ o ∈ os, o.dst = some t) → (overO a os A).tmps.getD t undef = a.tmps.getD t undef
  | [], A, t, _, h => by obtain ⟨_, h, _⟩ := h; cases h
  | o :: os, A, t, hs, h => by
    unfold overO
    by_cases e : o.dst = some t
    · rw [e]
      exact overO_keep a os _ t ((put_size _ _ _).trans hs) (over_hit a [(t, 0)] A t hs (by simp))
    · have h' : ∃ o ∈ os, o.dst = some t := by
        obtain ⟨o', ho', hd'⟩ := h
        rcases List.mem_cons.1 ho' with rfl | ho'
        · exact absurd hd' e
        · exact ⟨o', ho', hd'⟩
      cases hd : o.dst with
      | none => exact overO_hit a os _ t hs h'
      | some s => exact overO_hit a os _ t ((put_size _ _ _).trans hs) h'
theorem Act.same {a b : Act} (hd : a.defers = b.defers) (hs : a.tmps.size = b.tmps.size) (h : ∀ t, a.tmps.getD t undef = b.tmps.getD t undef) : a = b := by
  obtain ⟨at_, ad⟩ := a
  obtain ⟨bt, bd⟩ := b
  simp only at hd hs h
  subst hd
  have : at_ = bt := by
    refine Array.ext hs fun i h1 h2 => ?_
    have := h i
    simpa [h1, h2] using this
  rw [this]
theorem Fin.use {w : World} {G : Act → Prop} {a : Act} : ∀ {os : List Oper} {ks : List RK} {A : Act}, os.length = ks.length → Fin h0 w G os ks A →
    (∀ (i : Nat) (o : Oper) t p, os[i]? = some o → o.dst = some t → ks[i]? = some (.val p) → p (a.tmps.getD t undef) w) →
    (∀ (i : Nat) (o : Oper) t ty z cs si, os[i]? = some o → o.dst = some t → ks[i]? = some (.new ty z cs si) → ∃ g, a.tmps.getD t undef = .pointer (some ⟨g, 0, none⟩) ∧ h0 ≤ g ∧ Box w g ty cs) →
    (∀ (i : Nat) (o : Oper) t ty z cs t', os[i]? = some o → o.dst = some t → ks[i]? = some (.put ty z cs t') → False) → G (overO a os A)
  | [], [], A, _, h, _, _, _ => h
  | o :: os, k :: ks, A, hl, h, hv, hn, hp => by
    have hl' : os.length = ks.length := by simpa using hl
    have hv' := fun i o' t p h1 h2 h3 => hv (i + 1) o' t p (by simpa using h1) h2 (by simpa using h3)
    have hn' := fun i o' t ty z cs si h1 h2 h3 => hn (i + 1) o' t ty z cs si (by simpa using h1) h2 (by simpa using h3)
    have hp' := fun i o' t ty z cs t' h1 h2 h3 => hp (i + 1) o' t ty z cs t' (by simpa using h1) h2 (by simpa using h3)
    unfold Fin at h
    unfold overO
    cases hd : o.dst with
    | none =>
      rw [hd] at h
      exact Fin.use (os := os) (ks := ks) hl' (by cases k <;> exact h) hv' hn' hp'
    | some t =>
      rw [hd] at h
      cases k with
      | val p => exact Fin.use (os := os) (ks := ks) hl' (h _ (hv 0 o t p rfl hd rfl)) hv' hn' hp'
      | new ty z cs si =>
        obtain ⟨g, hg, hg0, hb⟩ := hn 0 o t ty z cs si rfl hd rfl
        have h2 := h g hg0 hb
        rw [← hg] at h2
        exact Fin.use (os := os) (ks := ks) hl' h2 hv' hn' hp'
      | put ty z cs t' => exact (hp 0 o t ty z cs t' rfl hd rfl).elim
  | [], _ :: _, _, hl, _, _, _, _ => by simp at hl
  | _ :: _, [], _, hl, _, _, _, _ => by simp at hl

/-- Two variables that the region makes are two. -/
def Twos (ops : Array Oper) (codes : List (Nat × Nat)) (a : Act) : Prop := ∀ (i j : Nat) (o o' : Oper) t t' s s', ops[i]? = some o → o.dst = some t → codes[i]? = some (1, s) → ops[j]? = some o' → o'.dst = some t' → codes[j]? = some (1, s') → i ≠ j → a.tmps.getD t undef ≠ a.tmps.getD t' undef

/-- How far a run of the region has come: some of the operations ahead of the tail, or all of them and the tail up to number k. -/
def Stage (P : Program) (ops : Array Oper) (sp : List RK) (A : Act) (w0 : World) (n : Nat) (Q : Exit → Act → World → Prop) (listed : Array Bool) (a : Act) (w : World) : Prop :=
  listed.size = ops.size ∧ ((Inv ops sp A w0 listed a w ∧ ∀ i, n ≤ i → listed.getD i false = false) ∨
  ∃ k, n ≤ k ∧ (∀ i, i < ops.size → (listed.getD i false = true ↔ i < k)) ∧ wpOps P ops Q (List.range' k (ops.size - k)) a w)

theorem lin_core {Q : Exit → Act → World → Prop} (sp : List RK) (rd : List (List (Tmp × Nat))) (codes : List (Nat × Nat)) (m : Nat)
    (hc : sp.map RK.code = codes) (hm : A.tmps.size = m) (hok : okB ops m codes rd = true) (hst : Stabs w0.heap.size (tysOf sp) sp sp)
    (hob : Obs P ops sp A w0 ops.toList sp rd)
    (hfin : ∀ w, Below w0.heap.size w0 w → Fin w0.heap.size w (fun A' => Twos ops codes A' → wpList P ops Q (ops.toList.drop codes.length) A' w) ops.toList sp A) : ∃ I : Array Bool → Act → World → Prop, (∀ l a w, I l a w → l.size = ops.size) ∧ (∀ l a w i, I l a w → i ∈ Region.ready .any ops l → wpOp P ops Q i (I (l.setIfInBounds i true)) a w) ∧
      (∀ l a w, I l a w → Region.ready .any ops l = [] → Q .normal a w) ∧ ∀ w, Below w0.heap.size w0 w → I (Array.replicate ops.size false) A w := by
  have hlen : codes.length ≤ ops.size := by
    unfold okB at hok
    simp only [Bool.and_eq_true, decide_eq_true_eq] at hok
    exact hok.1.1.1
  have hspl : sp.length = codes.length := by rw [← hc]; simp
  -- what the operations ahead of the tail come to
  have fin : ∀ l a w, Inv ops sp A w0 l a w → (∀ (i : Nat) (o : Oper), ops[i]? = some o → (l.getD i false = true ↔ i < codes.length)) → wpOps P ops Q (List.range' codes.length (ops.size - codes.length)) a w := by
    intro l a w I hall
    have hlt : ∀ (i : Nat) k, sp[i]? = some k → i < codes.length := fun i k hk => by rw [← hspl]; exact (List.getElem?_eq_some_iff.1 hk).1
    have htk : ∀ (i : Nat) (o : Oper), (ops.toList.take codes.length)[i]? = some o → ops[i]? = some o := fun i o h => by
      rw [List.getElem?_take] at h
      split at h
      · simpa using h
      · cases h
    have cutfin : ∀ {h0 : Nat} {w : World} {G : Act → Prop} {ks : List RK} {os : List Oper} {A : Act}, Fin h0 w G os ks A → Fin h0 w G (os.take ks.length) ks A := by
      intro h0 w G ks
      induction ks with
      | nil => intro os A h; cases os <;> exact h
      | cons k ks ih =>
        intro os A h
        cases os with
        | nil => exact h
        | cons o os =>
          simp only [List.length_cons, List.take_succ_cons]
          unfold Fin at h ⊢
          cases hd : o.dst with
          | none => rw [hd] at h; cases k <;> exact ih h
          | some t =>
            rw [hd] at h
            cases k with
            | val p => exact fun v hv => ih (h v hv)
            | new ty z cs si => exact fun g hg hb => ih (h g hg hb)
            | put ty z cs t' => exact ih h
    have hF := Fin.use (a := a) (h0 := w0.heap.size) (os := ops.toList.take codes.length) (by simp [hspl, hlen]) (hspl ▸ cutfin (hfin w I.below))
      (fun i o t p h1 h2 h3 => I.vals i o t p (htk i o h1) h2 h3 ((hall i o (htk i o h1)).2 (hlt i _ h3)))
      (fun i o t ty z cs si h1 h2 h3 => by
        have h1' := htk i o h1
        obtain ⟨g, hg, hg0, hb⟩ := I.news i o t ty z cs si h1' h2 h3 ((hall i o h1').2 (hlt i _ h3))
        refine ⟨g, hg, hg0, ?_⟩
        obtain ⟨r, _, ok⟩ := ok_sp hc hok h1' h3
        obtain ⟨_, ⟨s, hs, _⟩, d, _, hsd⟩ := ok.new si rfl
        have : si < codes.length := (List.getElem?_eq_some_iff.1 hsd).1
        rw [(hall si s hs).2 this] at hb
        simpa using hb)
      (fun i o t ty z cs t' h1 h2 h3 => by
        have h1' := htk i o h1
        obtain ⟨r, _, ok⟩ := ok_sp hc hok h1' h3
        obtain ⟨_, hn, _⟩ := ok.put t' rfl
        rw [hn] at h2
        cases h2)
    have e : overO a (ops.toList.take codes.length) A = a := by
      refine Act.same ((overO_defers _ _ _).trans I.defers.symm) ((overO_size _ _ _).trans I.size.symm) fun t => ?_
      by_cases h : ∃ o ∈ ops.toList.take codes.length, o.dst = some t
      · exact overO_hit a _ A t I.size.symm h
      · refine overO_keep a _ A t I.size.symm (I.olds t fun i o ho hd => ?_).symm
        cases hl : l.getD i false with
        | false => rfl
        | true =>
          have hi := (hall i o ho).1 hl
          exact absurd ⟨o, List.mem_of_getElem? (i := i) (by rw [List.getElem?_take_of_lt hi]; simpa using ho), hd⟩ h
    rw [e] at hF
    have hW := hF fun i j o o' t t' s s' h1 h2 h3 h4 h5 h6 hne => by
      have get : ∀ (i : Nat) s, codes[i]? = some (1, s) → ∃ ty z cs, sp[i]? = some (.new ty z cs s) := by
        intro i s h
        rw [← hc, List.getElem?_map] at h
        cases hk : sp[i]? with
        | none => rw [hk] at h; cases h
        | some k =>
          rw [hk] at h
          cases k with
          | new ty z cs si =>
            have e2 : si = s := by simpa [RK.code] using h
            subst e2
            exact ⟨_, _, _, rfl⟩
          | val _ => simp [RK.code] at h
          | put _ _ _ _ => simp [RK.code] at h
      obtain ⟨ty, z, cs, hk⟩ := get i s h3
      obtain ⟨ty', z', cs', hk'⟩ := get j s' h6
      exact I.apart i j o o' t t' _ _ _ _ _ _ _ _ h1 h2 hk ((hall i o h1).2 (hlt i _ hk)) h4 h5 hk' ((hall j o' h4).2 (hlt j _ hk')) hne
    have hr := wpOps_eq_wpList (P := P) (ops := ops) (Q := Q) (ops.toList.drop codes.length) codes.length (fun j => by simp [List.getElem?_drop])
    simp only [List.length_drop, Array.length_toList] at hr
    rw [hr]
    exact hW
  refine ⟨Stage P ops sp A w0 codes.length Q, fun _ _ _ I => I.1, ?_, ?_, fun w hbw => ?_⟩
  · rintro l a w i ⟨hsz, hI⟩ hi
    obtain ⟨hl0, o, ho, hall⟩ := mem_ready.1 hi
    have hio := lt_of_some ho
    have hpred : ∀ j, bindsTo o j = true → l.getD j false = true := fun j hj => by
      obtain ⟨e, he, hb, rfl⟩ := bindsTo_spec hj
      exact hall e he hb
    have tailstep : ∀ k, codes.length ≤ k → (∀ i, i < ops.size → (l.getD i false = true ↔ i < k)) → wpOps P ops Q (List.range' k (ops.size - k)) a w → wpOp P ops Q i (Stage P ops sp A w0 codes.length Q (l.setIfInBounds i true)) a w := by
      intro k hk hlk hW
      have hik : ¬ i < k := fun h => by
        have := (hlk i hio).2 h
        rw [getD_false hl0] at this
        cases this
      have hki : i = k := by
        rcases Nat.lt_or_ge k i with h | h
        · rcases ok_tail hok ho (by omega) k h with h2 | ⟨h2, _⟩
          · have := (hlk k (by omega)).1 (hpred k h2)
            omega
          · have := (hlk (i - 1) (by omega)).1 (hpred (i - 1) h2)
            omega
        · omega
      subst hki
      have hn : ops.size - i = (ops.size - (i + 1)) + 1 := by omega
      rw [hn, List.range'_succ, wpOps_cons] at hW
      refine wpOp_mono (fun a' w' h => ⟨by simpa using hsz, .inr ⟨i + 1, by omega, fun j hj => ?_, h⟩⟩) hW
      rw [set_getD (by omega), hlk j hj]
      omega
    rcases hI with ⟨I, hn⟩ | ⟨k, hk, hlk, hW⟩
    · by_cases hlin : i < codes.length
      · refine wpOp_mono (fun a' w' h => ⟨by simpa using hsz, .inl ⟨h, fun j hj => ?_⟩⟩) (inv_step hc hm hok hst hob I hi hlin)
        rw [set_getD_ne (by omega)]
        exact hn j hj
      · have hlk : ∀ j, j < ops.size → (l.getD j false = true ↔ j < codes.length) := fun j hj => by
          constructor
          · intro h
            rcases Nat.lt_or_ge j codes.length with h' | h'
            · exact h'
            · rw [hn j h'] at h; cases h
          · intro h
            rcases ok_tail hok ho (by omega) j (by omega) with h2 | ⟨h2, o', ho', h3⟩
            · exact hpred j h2
            · obtain ⟨e, he, hb, rfl⟩ := bindsTo_spec h3
              exact I.down (i - 1) o' ho' (hpred (i - 1) h2) e he hb
        exact tailstep codes.length (Nat.le_refl _) hlk (fin l a w I fun j oj hj => hlk j (lt_of_some hj))
    · exact tailstep k hk hlk hW
  · rintro l a w ⟨hsz, hI⟩ hr
    have hall := ready_nil hsz (fun i o ho => ok_fwd hok ho) hr
    rcases hI with ⟨I, hn⟩ | ⟨k, hk, hlk, hW⟩
    · have hcs : codes.length = ops.size := by
        rcases Nat.lt_or_ge codes.length ops.size with h | h
        · have := hall codes.length _ (Array.getElem?_eq_getElem h)
          rw [hn _ (Nat.le_refl _)] at this
          cases this
        · omega
      have hW := fin l a w I (fun i o ho => ⟨fun _ => by rw [hcs]; exact lt_of_some ho, fun _ => hall i o ho⟩)
      rw [hcs, Nat.sub_self] at hW
      exact hW
    · have hks : ops.size ≤ k := by
        rcases Nat.lt_or_ge k ops.size with h | h
        · have := (hlk k h).1 (hall k _ (Array.getElem?_eq_getElem h))
          omega
        · exact h
      have e : ops.size - k = 0 := by omega
      rw [e] at hW
      exact hW
  · exact ⟨by simp, .inl ⟨⟨by simp, rfl, rfl, hbw, fun _ _ _ _ _ _ _ h => absurd h (rep_false _ _), fun _ _ => rfl, fun _ _ _ _ _ _ _ _ _ _ h => absurd h (rep_false _ _), fun _ _ _ _ _ _ _ _ _ _ _ _ _ _ _ _ _ h => absurd h (rep_false _ _), fun _ _ _ h => absurd h (rep_false _ _)⟩, fun i _ => by
      cases h : (Array.replicate ops.size false).getD i false with
      | false => rfl
      | true => exact absurd h (rep_false _ _)⟩⟩

/-- THE LAW: a region that draws its order, by one obligation an operation; the tail is walked in its own order. -/
theorem region_lin {id : Nat} {Q : Exit → Act → World → Prop} (sp : List RK) (rd : List (List (Tmp × Nat))) (codes : List (Nat × Nat)) (m : Nat) (hmx : P.follows .mixedOrders = true)
    (hc : sp.map RK.code = codes) (hm : A.tmps.size = m) (hok : okB ops m codes rd = true) (hst : Stabs w0.heap.size (tysOf sp) sp sp)
    (hob : Obs P ops sp A w0 ops.toList sp rd)
    (hfin : ∀ w, Below w0.heap.size w0 w → Fin w0.heap.size w (fun A' => Twos ops codes A' → wpList P ops Q (ops.toList.drop codes.length) A' w) ops.toList sp A) : (Code.region id ops true).wp P Q A w0 := by
  obtain ⟨I, h1, h2, h3, h4⟩ := lin_core (Q := Q) sp rd codes m hc hm hok hst hob hfin
  exact wp_region_any hmx (any_of_inv h1 h2 h3 _ _ _ _ (by unfold unl; exact Nat.le_trans List.countP_le_length (by simp)) (h4 _ (Below.refl _ _).drew))

def firsts (n k : Nat) : Array Bool := Array.ofFn (n := n) fun i => decide (i.1 < k)
theorem firsts_getD (n k i : Nat) : (firsts n k).getD i false = true ↔ i < n ∧ i < k := by
  unfold firsts
  rcases Nat.lt_or_ge i n with h | h
  · simp [h]
  · have : ¬ i < n := by omega
    simp [this]
theorem firsts_at (n k i : Nat) (h : i < n) : (firsts n k)[i]? = some (decide (i < k)) := by simp [firsts, h]
theorem firsts_size (n k : Nat) : (firsts n k).size = n := by simp [firsts]
theorem firsts_set {n k : Nat} (h : k < n) : (firsts n k).setIfInBounds k true = firsts n (k + 1) := by
  refine Array.ext_getElem? fun i => ?_
  rcases Nat.lt_or_ge i n with hi | hi
  · by_cases e : k = i
    · subst e
      rw [firsts_at _ _ _ hi, Array.getElem?_setIfInBounds_self_of_lt (by rw [firsts_size]; exact hi)]
      simp
    · rw [Array.getElem?_setIfInBounds_ne e, firsts_at _ _ _ hi, firsts_at _ _ _ hi]
      congr 1
      rw [decide_eq_decide]
      omega
  · rw [Array.getElem?_eq_none (by simp [firsts_size, hi]), Array.getElem?_eq_none (by rw [firsts_size]; exact hi)]
theorem firsts_zero (n : Nat) : firsts n 0 = Array.replicate n false := by
  refine Array.ext (by simp [firsts]) fun i h1 h2 => ?_
  simp [firsts]
theorem ops_of_inv {I : Array Bool → Act → World → Prop} {Q : Exit → Act → World → Prop} (hf : ∀ (i : Nat) (o : Oper), ops[i]? = some o → ∀ e ∈ o.after, Region.binds .any e = true → e.on < i)
    (hstep : ∀ l a w i, I l a w → i ∈ Region.ready .any ops l → wpOp P ops Q i (I (l.setIfInBounds i true)) a w)
    (hend : ∀ l a w, I l a w → Region.ready .any ops l = [] → Q .normal a w) :
    ∀ j k a w, k + j = ops.size → I (firsts ops.size k) a w → wpOps P ops Q (List.range' k j) a w := by
  intro j
  induction j with
  | zero =>
    intro k a w hk h
    refine hend _ a w h ?_
    cases hr : Region.ready .any ops (firsts ops.size k) with
    | nil => rfl
    | cons i r =>
      have hi : i ∈ Region.ready .any ops (firsts ops.size k) := by rw [hr]; exact List.mem_cons_self
      obtain ⟨h0, o, ho, _⟩ := mem_ready.1 hi
      have := getD_false h0
      rw [(firsts_getD _ _ _).2 ⟨lt_of_some ho, by have := lt_of_some ho; omega⟩] at this
      cases this
  | succ j ih =>
    intro k a w hk h
    rw [List.range'_succ, wpOps_cons]
    have hkn : k < ops.size := by omega
    have hr : k ∈ Region.ready .any ops (firsts ops.size k) := mem_ready.2 ⟨by simp [firsts, hkn], _, Array.getElem?_eq_getElem hkn, fun e he hb => by
      have := hf k _ (Array.getElem?_eq_getElem hkn) e he hb
      exact (firsts_getD _ _ _).2 ⟨by omega, this⟩⟩
    refine wpOp_mono (fun a' w' h' => ih (k + 1) a' w' (by omega) ?_) (hstep _ a w k h hr)
    rw [firsts_set hkn] at h'
    exact h'
/-- The same of a region that draws no order. -/
theorem region_lin0 {id : Nat} {Q : Exit → Act → World → Prop} (sp : List RK) (rd : List (List (Tmp × Nat))) (codes : List (Nat × Nat)) (m : Nat) (hmx : P.follows .mixedOrders = true)
    (hc : sp.map RK.code = codes) (hm : A.tmps.size = m) (hok : okB ops m codes rd = true) (hst : Stabs w0.heap.size (tysOf sp) sp sp)
    (hob : Obs P ops sp A w0 ops.toList sp rd)
    (hfin : ∀ w, Below w0.heap.size w0 w → Fin w0.heap.size w (fun A' => Twos ops codes A' → wpList P ops Q (ops.toList.drop codes.length) A' w) ops.toList sp A) : (Code.region id ops false).wp P Q A w0 := by
  obtain ⟨I, h1, h2, h3, h4⟩ := lin_core (Q := Q) sp rd codes m hc hm hok hst hob hfin
  refine wp_region ?_
  rw [List.range_eq_range']
  exact ops_of_inv (fun i o ho => ok_fwd hok ho) h2 h3 _ 0 _ _ (by omega) (by rw [firsts_zero]; exact h4 _ (Below.refl _ _))
end
end Go.Proofs.Ytolhjkpekmmajaa
