-- Written by a program of this session (wip/tools/printseat.sh).
import Derived.Test.YtcejdokeaoklaaaDoorPImpx0
import Derived.Test.YtcejdokeaoklaaaDoorGraphs
namespace Go.Proofs.YtcejdokeaoklaaaDoor.PImp
open Go.RowKit Go.Proofs.YtcejdokeaoklaaaDoorW.PrintWords Go.Proofs.YtcejdokeaoklaaaDoorW.PrintLast Go.Proofs.YtcejdokeaoklaaaDoorW.PrintMore
attribute [local go_sem] max2_int min2_int max_two min_two max_three min_three max_four min_four   -- for this text's walks alone
set_option linter.unusedVariables false
set_option linter.unusedSimpArgs false

/-! ### imports_Needs: function 16 -/
-- BY HAND
noncomputable def imports_Needs.f (l0 : List ByteArray) (l1 : List S46) (a2 : ByteArray) : Option (List ByteArray × Int) := @ite _ (Small l0 l1 ∧ a2.size < 1048577) (Classical.propDecidable _) (some (needsF l0 l1 a2, needsE l0 l1 a2)) none
theorem imports_Needs.calls (A0 : Option Addr) (c0 : Nat) (l0 : List ByteArray) (A1 : Option Addr) (c1 : Nat) (l1 : List (S46)) (a2 : ByteArray) (r1 : List ByteArray) (r2 : Int) (w : World) (hr0 : Kd.C Kd.string w A0 l0.length l0) (hc0 : l0.length ≤ c0) (hr1 : Kd.C k46 w A1 l1.length l1) (hc1 : l1.length ≤ c1) (h : imports_Needs.f l0 l1 a2 = some (r1, r2)) :
    Calls Tryd.prog 16 #[.slice A0 l0.length c0, .slice A1 l1.length c1, .string a2] w fun e w' => ∃ v0_ : Value, e = .returned (.tuple #[v0_, .int .i64 r2]) ∧ Kd.R Kd.string 9 w' w.heap.size (fun _ => True) v0_ r1 ∧ Below w.heap.size w w' := by
  unfold imports_Needs.f at h
  split at h
  · rename_i hs
    obtain h := Option.some.inj h
    simp only [Prod.mk.injEq] at h
    obtain ⟨rfl, rfl⟩ := h
    exact (Needs_walk A0 c0 l0 A1 c1 l1 a2 w hr0 hr1 hs.1 hs.2).mono fun e w' ⟨v1, he, h1, h2⟩ => ⟨v1, he, h1.to_R, h2⟩
  · cases h

end Go.Proofs.YtcejdokeaoklaaaDoor.PImp
