/- The walk of evergreenbase.Bytes at two slices that read alike. -/
import Derived.Test.YtcbahojefglakaaWords
import Derived.Laws.BytesArg
namespace Go.Proofs.Ytcbahojefglakaa
set_option linter.unusedVariables false
set_option linter.unusedSimpArgs false
open Go.RowKit Go.Lib
theorem run_conv_row (l : List Int) (n c : Nat) (A : Option Addr) (hl : l.length = n) (w : World) (ha : RowAt w A (l.map (.int .u8))) :
    (convert 27 9 (.slice A n c)).run Try.prog w = .ok (.string (strOfNums l)) w := by
  rcases A with _ | ad
  · have : l = [] := by
      cases l with
      | nil => rfl
      | cons x xs =>
        obtain ⟨ad, e, _⟩ := ha 0 (.int .u8 x) rfl
        cases e
    subst this
    exact run_convert_bytes_nil w _ _ Try.underlying27 Try.underlying5 n c _ Try.underlying9
  · have hl2 := run_loadCells_list (P := Try.prog) w ad (l.map (Value.int .u8)) (fun j v hj => by
      obtain ⟨a2, e, hc⟩ := ha j v hj
      injection e with e
      subst e
      exact hc)
    rw [List.length_map, hl] at hl2
    rw [run_convert_bytes_string w _ _ _ _ n c Try.underlying27 Try.underlying5 Try.underlying9, run_bytesToString w _ n c l hl2, foldl_push_bytes]
    simp [strOfNums, ByteArray.empty, ByteArray.emptyWithCapacity]
    rfl
theorem bytes_same (l : List Int) (n c d : Nat) (A C : Option Addr) (hl : l.length = n) (w : World) (ha : RowAt w A (l.map (.int .u8))) (hb : RowAt w C (l.map (.int .u8))) :
    Calls Try.prog 22 #[.slice A n c, .slice C n d] w fun e w' => e = .returned (.bool true) ∧ w = w' := by
  have e1 := run_conv_row l n c A hl w ha
  have e2 := run_conv_row l n d C hl w hb
  clear ha hb hl
  generalize strOfNums l = s at *
  go_enter Try.func22, Try.ntmps22
  go_wp2
  go_ret
  exact ⟨rfl, rfl⟩
end Go.Proofs.Ytcbahojefglakaa
