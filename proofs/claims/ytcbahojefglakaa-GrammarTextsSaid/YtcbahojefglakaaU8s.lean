/- The numbers of a slice of bytes that came in are bytes. -/
import Derived.Test.YtcbahojefglakaaRowFrame
namespace Go.Proofs.Ytcbahojefglakaa
set_option linter.unusedVariables false
set_option linter.unusedSimpArgs false
open Go.ChangeShapes Go.WideShapes Go.ChangeAt Go.RowKit
theorem u8s_of {zs : List Int} (h : ∀ n ∈ zs, (Lit.int .u8 n).wf = true) : ∀ x ∈ zs, 0 ≤ x ∧ x ≤ 255 := fun x hx => by have := bounds_u8 (h x hx); omega
end Go.Proofs.Ytcbahojefglakaa
