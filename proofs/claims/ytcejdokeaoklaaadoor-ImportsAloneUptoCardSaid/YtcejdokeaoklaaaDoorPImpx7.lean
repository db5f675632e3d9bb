-- Written by a program of this session (wip/tools/printseat.sh).
import Derived.Test.YtcejdokeaoklaaaDoorPImpx0
import Derived.Test.YtcejdokeaoklaaaDoorFold
namespace Go.Proofs.YtcejdokeaoklaaaDoor.PImp
open Go.RowKit Go.Proofs.YtcejdokeaoklaaaDoorW.PrintWords Go.Proofs.YtcejdokeaoklaaaDoorW.PrintLast Go.Proofs.YtcejdokeaoklaaaDoorW.PrintMore
attribute [local go_sem] max2_int min2_int max_two min_two max_three min_three max_four min_four   -- for this text's walks alone
set_option linter.unusedVariables false
set_option linter.unusedSimpArgs false

/-! ### imports_Folders: function 10 -/
-- BY HAND
def imports_Folders.f (l0 : List ByteArray) : Option (List ByteArray) := if l0.length < 1048577 ∧ ∀ s ∈ l0, s.size < 1048577 then some (Go.Proofs.YtcejdokeaoklaaaDoor.Imp.foldersF l0) else none
theorem imports_Folders.calls (A0 : Option Addr) (c0 : Nat) (l0 : List ByteArray) (r : List ByteArray) (w : World) (hr0 : Kd.C Kd.string w A0 l0.length l0) (hc0 : l0.length ≤ c0) (h : imports_Folders.f l0 = some r) :
    Calls Tryd.prog 10 #[.slice A0 l0.length c0] w fun e w' => ∃ v0_ : Value, e = .returned (v0_) ∧ Kd.R Kd.string 9 w' w.heap.size (fun _ => True) v0_ r ∧ Below w.heap.size w w' := by
  unfold imports_Folders.f at h
  split at h
  · rename_i hs
    obtain rfl := Option.some.inj h
    exact imports_Folders.walk A0 c0 l0 w hr0 hs.1 hs.2
  · cases h

end Go.Proofs.YtcejdokeaoklaaaDoor.PImp
