-- Written by a program of this session (wip/tools/printseat.sh).
import Derived.Test.YtcejdokeaoklaaaDoorPImpx0
import Derived.Test.YtcejdokeaoklaaaDoorGraphs
namespace Go.Proofs.YtcejdokeaoklaaaDoor.PImp
open Go.RowKit Go.Proofs.YtcejdokeaoklaaaDoorW.PrintWords Go.Proofs.YtcejdokeaoklaaaDoorW.PrintLast Go.Proofs.YtcejdokeaoklaaaDoorW.PrintMore
attribute [local go_sem] max2_int min2_int max_two min_two max_three min_three max_four min_four   -- for this text's walks alone
set_option linter.unusedVariables false
set_option linter.unusedSimpArgs false

/-! ### imports_Order: function 14 -/
-- BY HAND
noncomputable def imports_Order.f (l0 : List ByteArray) (l1 : List S46) : Option (List ByteArray × List ByteArray × Int) := @ite _ (Small l0 l1) (Classical.propDecidable _) (some (ordA l0 l1, ordB l0 l1, rightF l0 l1)) none
theorem imports_Order.calls (A0 : Option Addr) (c0 : Nat) (l0 : List ByteArray) (A1 : Option Addr) (c1 : Nat) (l1 : List (S46)) (r1 : List ByteArray) (r2 : List ByteArray) (r3 : Int) (w : World) (hr0 : Kd.C Kd.string w A0 l0.length l0) (hc0 : l0.length ≤ c0) (hr1 : Kd.C k46 w A1 l1.length l1) (hc1 : l1.length ≤ c1) (h : imports_Order.f l0 l1 = some (r1, r2, r3)) :
    Calls Tryd.prog 14 #[.slice A0 l0.length c0, .slice A1 l1.length c1] w fun e w' => ∃ v0_ v1_ : Value, e = .returned (.tuple #[v0_, v1_, .int .i64 r3]) ∧ Kd.R Kd.string 9 w' w.heap.size (fun k_ => some k_ ≠ (v1_ : Value).ownBlock) v0_ r1 ∧ Kd.R Kd.string 9 w' w.heap.size (fun k_ => some k_ ≠ (v0_ : Value).ownBlock) v1_ r2 ∧ Below w.heap.size w w' := by
  unfold imports_Order.f at h
  split at h
  · rename_i hs
    obtain h := Option.some.inj h
    simp only [Prod.mk.injEq] at h
    obtain ⟨rfl, rfl, rfl⟩ := h
    refine (Order_walk A0 c0 l0 A1 c1 l1 w hr0 hr1 hs).mono fun e w' ⟨v1, v2, he, h1, h2, h3, h4⟩ => ⟨v1, v2, he, Kd.R_of_own h1 (fun k hk e => ?_), Kd.R_of_own h2 (fun k hk e => ?_), h4⟩
    · exact h3 k hk e.symm
    · exact h3 k e.symm hk
  · cases h

end Go.Proofs.YtcejdokeaoklaaaDoor.PImp
