-- Written by a program of this session (wip/tools/printseat.sh).
import Derived.Test.YtcejdokeaoklaaaDoorPImpx0
import Derived.Test.YtcejdokeaoklaaaDoorChecks
namespace Go.Proofs.YtcejdokeaoklaaaDoor.PImp
open Go.RowKit Go.Proofs.YtcejdokeaoklaaaDoorW.PrintWords Go.Proofs.YtcejdokeaoklaaaDoorW.PrintLast Go.Proofs.YtcejdokeaoklaaaDoorW.PrintMore
attribute [local go_sem] max2_int min2_int max_two min_two max_three min_three max_four min_four   -- for this text's walks alone
set_option linter.unusedVariables false
set_option linter.unusedSimpArgs false

/-! ### imports_Check: function 20 -/
-- BY HAND
noncomputable def imports_Check.f (l0 : List ByteArray) (l1 : List S46) : Option (List (List S52) × Int) := @ite _ (Small l0 l1) (Classical.propDecidable _) (some (checkF l0 l1, rightF l0 l1)) none
theorem imports_Check.calls (A0 : Option Addr) (c0 : Nat) (l0 : List ByteArray) (A1 : Option Addr) (c1 : Nat) (l1 : List (S46)) (r1 : List (List (S52))) (r2 : Int) (w : World) (hr0 : Kd.C Kd.string w A0 l0.length l0) (hc0 : l0.length ≤ c0) (hr1 : Kd.C k46 w A1 l1.length l1) (hc1 : l1.length ≤ c1) (h : imports_Check.f l0 l1 = some (r1, r2)) :
    Calls Tryd.prog 20 #[.slice A0 l0.length c0, .slice A1 l1.length c1] w fun e w' => ∃ v0_ : Value, e = .returned (.tuple #[v0_, .int .i64 r2]) ∧ Kd.S (Kd.slice 52 k52) 49 w' w.heap.size (fun _ => True) v0_ r1 ∧ Below w.heap.size w w' := by
  unfold imports_Check.f at h
  split at h
  · rename_i hs
    obtain h := Option.some.inj h
    simp only [Prod.mk.injEq] at h
    obtain ⟨rfl, rfl⟩ := h
    by_cases hr : rightF l0 l1 = 0
    · rw [hr]
      exact (Check_yes A0 c0 l0 A1 c1 l1 w hr0 hr1 hs hr).mono fun e w' ⟨v, he, h1, h2⟩ => ⟨v, he, h1, h2⟩
    · refine (Check_no A0 c0 l0 A1 c1 l1 w hr0 hr1 hs hr).mono fun e w' ⟨he, h2⟩ => ⟨_, he, ?_, h2⟩
      rw [show checkF l0 l1 = [] from by unfold checkF; rw [if_neg hr]]
      exact Kd.S_nil _ _ _ _ _
  · cases h

end Go.Proofs.YtcejdokeaoklaaaDoor.PImp
