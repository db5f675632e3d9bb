-- Written by a program of this session (wip/tools/printseat.sh).
import Derived.Test.YtcejdokeaoklaaaDoorPImpx0
import Derived.Test.YtcejdokeaoklaaaDoorSplit1
namespace Go.Proofs.YtcejdokeaoklaaaDoor.PImp
open Go.RowKit Go.Proofs.YtcejdokeaoklaaaDoorW.PrintWords Go.Proofs.YtcejdokeaoklaaaDoorW.PrintLast Go.Proofs.YtcejdokeaoklaaaDoorW.PrintMore
attribute [local go_sem] max2_int min2_int max_two min_two max_three min_three max_four min_four   -- for this text's walks alone
set_option linter.unusedVariables false
set_option linter.unusedSimpArgs false

/-! ### strings_Split: function 23 -/
-- BY HAND
def strings_Split.f (a0 : ByteArray) (a1 : ByteArray) : Option (List ByteArray) := if a0.size < 4294967281 ∧ a1 = ⟨#[47]⟩ then some (Go.Lib.splitB a1 0 (Go.Lib.countB a0 a1) a0) else none
theorem strings_Split.calls (a0 : ByteArray) (a1 : ByteArray) (r : List ByteArray) (w : World) (h : strings_Split.f a0 a1 = some r) :
    Calls Tryd.prog 23 #[.string a0, .string a1] w fun e w' => ∃ v0_ : Value, e = .returned (v0_) ∧ Kd.R Kd.string 9 w' w.heap.size (fun _ => True) v0_ r ∧ Below w.heap.size w w' := by
  unfold strings_Split.f at h
  split at h
  · rename_i hs
    obtain ⟨hs, rfl⟩ := hs
    obtain rfl := Option.some.inj h
    have h1 : 1 ≤ (⟨#[47]⟩ : ByteArray).size := Nat.le_refl 1
    have hl := Lib.splitB_all ⟨#[47]⟩ h1 0 _ a0 rfl
    have hc := Lib.countB_le ⟨#[47]⟩ h1 a0.size a0 (Nat.le_refl _)
    refine (Tryd.split1 a0 47 w hs).mono fun e w' ⟨he, hw⟩ => ?_
    rw [← hl] at he
    refine ⟨_, he, ?_, by rw [hw]; exact ((Below.refl _ _).alloc (Nat.le_refl _) _)⟩
    rw [hw]
    have ho := World.ownsRow_lit (base := w.heap.size) (e := 9) (size := 1) w ((Lib.splitB ⟨#[47]⟩ 0 (Lib.countB a0 ⟨#[47]⟩) a0).map Value.string).toArray (Lib.splitB ⟨#[47]⟩ 0 (Lib.countB a0 ⟨#[47]⟩) a0).length (Nat.le_refl _) (by unfold maxLen; omega) (by simp)
    exact Kd.R_of_own (enc := Value.string) (by simpa [encs] using ho) (fun _ _ => trivial)
  · cases h

end Go.Proofs.YtcejdokeaoklaaaDoor.PImp
