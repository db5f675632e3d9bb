-- Written by a program of this session (wip/tools/printseat.sh).
import Derived.Test.YtcejdokeaoklaaaDoorPImpx0
import Derived.Test.YtcejdokeaoklaaaDoorNames
namespace Go.Proofs.YtcejdokeaoklaaaDoor.PImp
open Go.RowKit Go.Proofs.YtcejdokeaoklaaaDoorW.PrintWords Go.Proofs.YtcejdokeaoklaaaDoorW.PrintLast Go.Proofs.YtcejdokeaoklaaaDoorW.PrintMore
attribute [local go_sem] max2_int min2_int max_two min_two max_three min_three max_four min_four   -- for this text's walks alone
set_option linter.unusedVariables false
set_option linter.unusedSimpArgs false

/-! ### imports_isWord: function 24 -/
-- BY HAND
def imports_isWord.f (a0 : ByteArray) : Option Bool := if a0.size < 4611686018427387904 then some (wordOf a0) else none
theorem imports_isWord.calls (a0 : ByteArray) (r : Bool) (w : World) (h : imports_isWord.f a0 = some r) :
    Calls Tryd.prog 24 #[.string a0] w fun e w' => e = .returned (.bool r) ∧ Below w.heap.size w w' := by
  unfold imports_isWord.f at h
  split at h
  · rename_i hs
    obtain rfl := Option.some.inj h
    exact imports_isWord.walk a0 w hs
  · cases h

end Go.Proofs.YtcejdokeaoklaaaDoor.PImp
