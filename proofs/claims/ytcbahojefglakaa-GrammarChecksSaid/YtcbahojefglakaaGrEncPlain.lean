/- A grammar's bytes; Put of a valid rule, both ways. -/
import Derived.Test.YtcbahojefglakaaGrPut
import Derived.Test.YtcbahojefglakaaRulePut
import Derived.Test.YtcbahojefglakaaGrExpands
namespace Go.Proofs.Ytcbahojefglakaa
set_option linter.unusedVariables false
set_option linter.unusedSimpArgs false
open Go.RowKit Go.Lib
def enc1 (r : Rl) (n : Int) : List Int := encR r.kd r.lt r.lf r.rg r.tm n
/-- the bytes of the rules from number i on -/
def encFrom : Nat → List Rl → List Int
  | _, [] => []
  | i, r :: g => enc1 r (i + 1) ++ encFrom (i + 1) g
def encG (g : List Rl) : List Int := vput g.length ++ encFrom 0 g
theorem encFrom_at {g : List Rl} {i : Nat} {r : Rl} (h : g[i]? = some r) : encFrom i (g.drop i) = enc1 r (i + 1) ++ encFrom (i + 1) (g.drop (i + 1)) := by rw [drop_of h]; rfl
theorem encFrom_end {g : List Rl} {i : Nat} (h : g.length ≤ i) : encFrom i (g.drop i) = [] := by rw [List.drop_eq_nil_of_le h]; rfl
/-- rules within the machine's numbers -/
def Tm (g : List Rl) : Prop := ∀ r ∈ g, r.tm ≤ 9223372036854775807
theorem put_valid (kd lt lf rg tm n : Int) (n0 : -9223372036854775808 ≤ n) (n1 : n ≤ 9223372036854775807) (t1 : tm ≤ 9223372036854775807) (h : checkCode kd lt lf rg tm n = 0) (w : World) :
    Calls Try.prog 54 #[.agg #[.int .i64 kd, .int .u8 lt, .int .i64 lf, .int .i64 rg, .int .i64 tm], .int .i64 n] w (BytesOut (encR kd lt lf rg tm n) .nilIface w) := by
  obtain ⟨_, ⟨rfl, rfl, rfl, rfl⟩ | ⟨rfl, rfl, rfl, p1, p2, q1, q2⟩ | ⟨rfl, rfl, rfl, t2, p1, p2⟩⟩ := valid_way h
  · exact put_k1 lt n n0 n1 h w
  · exact put_k2 lf rg n n0 n1 p1 p2 q1 q2 h w
  · exact put_k3 lf tm n n0 n1 p1 p2 t2 t1 h w
theorem gput_valid (kd lt lf rg tm n : Int) (n0 : -9223372036854775808 ≤ n) (n1 : n ≤ 9223372036854775807) (t1 : tm ≤ 9223372036854775807) (h : checkCode kd lt lf rg tm n = 0) (w : World) :
    Calls Try.prog 56 #[.agg #[.int .i64 kd, .int .u8 lt, .int .i64 lf, .int .i64 rg, .int .i64 tm], .int .i64 n] w (SliceOut w (encR kd lt lf rg tm n).length (vb (encR kd lt lf rg tm n))) := by
  obtain ⟨_, ⟨rfl, rfl, rfl, rfl⟩ | ⟨rfl, rfl, rfl, p1, p2, q1, q2⟩ | ⟨rfl, rfl, rfl, t2, p1, p2⟩⟩ := valid_way h
  · exact gput_k1 lt n n0 n1  w
  · exact gput_k2 lf rg n n0 n1 p1 p2 q1 q2  w
  · exact gput_k3 lf tm n n0 n1 p1 p2 t2 t1  w
end Go.Proofs.Ytcbahojefglakaa
