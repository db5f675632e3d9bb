-- Written by a program of this session (wip/tools/printseat.sh).
import Derived.Test.YtcejdokeaoklaaaDoorPImpx0
import Derived.Test.YtcejdokeaoklaaaDoorPImpx5
import Derived.Test.YtcejdokeaoklaaaDoorPImpx7
import Derived.Test.YtcejdokeaoklaaaDoorPImpx9
import Derived.Test.YtcejdokeaoklaaaDoorPImpx10
import Derived.Test.YtcejdokeaoklaaaDoorPImpx12
import Derived.Test.YtcejdokeaoklaaaDoorPImpx17
import Derived.Test.YtcejdokeaoklaaaDoorPImpx18
import Derived.Test.YtcejdokeaoklaaaDoorMore
namespace Go.Proofs.YtcejdokeaoklaaaDoor.PImp
open Go.RowKit Go.Proofs.YtcejdokeaoklaaaDoorW.PrintWords Go.Proofs.YtcejdokeaoklaaaDoorW.PrintLast Go.Proofs.YtcejdokeaoklaaaDoorW.PrintMore
attribute [local go_sem] max2_int min2_int max_two min_two max_three min_three max_four min_four   -- for this text's walks alone
set_option linter.unusedVariables false
set_option linter.unusedSimpArgs false

/-! ### scholiastlaw13_ImportsStand: function 7 -/
mutual
noncomputable def scholiastlaw13_ImportsStand.j0 : Nat → List ByteArray → List (S46) → List ByteArray → List ByteArray → Int → Int → Bool → Option (Bool)
  | 0, _, _, _, _, _, _, _ => none
  | k + 1, x0, x1, x5, x6, x7, x10, x48 => if x48 = true then (some (x7 == x10)) else ((imports_Folders.f x0).bind fun t425 => (if (wrap64 ((x5.length : Int) + (x6.length : Int))) = (t425.length : Int) then (scholiastlaw13_ImportsStand.l0 k x0 x1 x5 x6 t425 0) else (some false)))
noncomputable def scholiastlaw13_ImportsStand.l0 : Nat → List ByteArray → List (S46) → List ByteArray → List ByteArray → List ByteArray → Int → Option (Bool)
  | 0, _, _, _, _, _, _ => none
  | k + 1, x0, x1, x5, x6, x11, x12 => if x12 < (x11.length : Int) then (if 0 ≤ x12 then ((scholiastlaw13_place.f k x5 (rdOf ByteArray.empty x11 x12)).bind fun t429 => ((scholiastlaw13_place.f k x6 (rdOf ByteArray.empty x11 x12)).bind fun t431 => (if ((decide (t429 ≥ 0)) == (decide (t431 ≥ 0))) = true then (some false) else (scholiastlaw13_ImportsStand.l0 k x0 x1 x5 x6 x11 (wrap64 (x12 + 1)))))) else (none)) else (scholiastlaw13_ImportsStand.l1 k x0 x1 x5 x6 x11 0)
noncomputable def scholiastlaw13_ImportsStand.l1 : Nat → List ByteArray → List (S46) → List ByteArray → List ByteArray → List ByteArray → Int → Option (Bool)
  | 0, _, _, _, _, _, _ => none
  | k + 1, x0, x1, x5, x6, x11, x13 => if x13 < (x0.length : Int) then (if 0 ≤ x13 then ((imports_Split.f k (rdOf ByteArray.empty x0 x13)).bind fun bt433 => ((scholiastlaw13_place.f k x5 bt433.1).bind fun t436 => (scholiastlaw13_ImportsStand.l2 k x0 x1 x5 x6 x11 x13 t436 0))) else (none)) else ((imports_Check.f x0 x1).bind fun bt443 => (scholiastlaw13_ImportsStand.l3 k x6 bt443.1 bt443.2 false 0))
noncomputable def scholiastlaw13_ImportsStand.l2 : Nat → List ByteArray → List (S46) → List ByteArray → List ByteArray → List ByteArray → Int → Int → Int → Option (Bool)
  | 0, _, _, _, _, _, _, _, _ => none
  | k + 1, x0, x1, x5, x6, x11, x13, x17, x18 => if 0 ≤ x13 then (if x13 < (x1.length : Int) then (if x18 < (((rd_T46 x1 x13).f1).length : Int) then (scholiastlaw13_ImportsStand.j4 k x0 x1 x5 x6 x11 x13 x17 x18 (decide (x17 ≥ 0))) else (scholiastlaw13_ImportsStand.j4 k x0 x1 x5 x6 x11 x13 x17 x18 false)) else (none)) else (none)
noncomputable def scholiastlaw13_ImportsStand.j4 : Nat → List ByteArray → List (S46) → List ByteArray → List ByteArray → List ByteArray → Int → Int → Int → Bool → Option (Bool)
  | 0, _, _, _, _, _, _, _, _, _ => none
  | k + 1, x0, x1, x5, x6, x11, x13, x17, x18, x112 => if x112 = true then (if 0 ≤ x13 then (if x13 < (x1.length : Int) then (if 0 ≤ x18 then (if x18 < (((rd_T46 x1 x13).f1).length : Int) then ((scholiastlaw13_place.f k x11 ((rd_T48 ((rd_T46 x1 x13).f1) x18).f1)).bind fun t440 => (if t440 ≥ 0 then ((scholiastlaw13_place.f k x5 ((rd_T48 ((rd_T46 x1 x13).f1) x18).f1)).bind fun t441 => (if t441 < 0 then (some false) else ((scholiastlaw13_place.f k x5 ((rd_T48 ((rd_T46 x1 x13).f1) x18).f1)).bind fun t442 => (if t442 ≥ x17 then (some false) else (scholiastlaw13_ImportsStand.l2 k x0 x1 x5 x6 x11 x13 x17 (wrap64 (x18 + 1))))))) else (scholiastlaw13_ImportsStand.l2 k x0 x1 x5 x6 x11 x13 x17 (wrap64 (x18 + 1))))) else (none)) else (none)) else (none)) else (none)) else (scholiastlaw13_ImportsStand.l1 k x0 x1 x5 x6 x11 (wrap64 (x13 + 1)))
noncomputable def scholiastlaw13_ImportsStand.l3 : Nat → List ByteArray → List (List (S52)) → Int → Bool → Int → Option (Bool)
  | 0, _, _, _, _, _ => none
  | k + 1, x6, x20, x21, x22, x23 => if x23 < (x20.length : Int) then (scholiastlaw13_ImportsStand.l4 k x6 x20 x21 x22 x23 0) else (if x21 = 0 then (some (x22 == (decide ((x6.length : Int) > 0)))) else (some false))
noncomputable def scholiastlaw13_ImportsStand.l4 : Nat → List ByteArray → List (List (S52)) → Int → Bool → Int → Int → Option (Bool)
  | 0, _, _, _, _, _, _ => none
  | k + 1, x6, x20, x21, x22, x23, x24 => if 0 ≤ x23 then (if x23 < (x20.length : Int) then (if x24 < ((rd_L14 x20 x23).length : Int) then (if x22 = true then (scholiastlaw13_ImportsStand.l4 k x6 x20 x21 true x23 (wrap64 (x24 + 1))) else (if 0 ≤ x24 then (scholiastlaw13_ImportsStand.l4 k x6 x20 x21 (((rd_T52 (rd_L14 x20 x23) x24).f0) == 302) x23 (wrap64 (x24 + 1))) else (none))) else (scholiastlaw13_ImportsStand.l3 k x6 x20 x21 x22 (wrap64 (x23 + 1)))) else (none)) else (none)
end
noncomputable def scholiastlaw13_ImportsStand.f (k : Nat) (l0 : List ByteArray) (l1 : List (S46)) : Option (Bool) := (scholiastlaw13_wide.f k l0 l1).bind fun t410 => (if t410 = true then (some true) else ((imports_Order.f l0 l1).bind fun bt411 => ((scholiastref13_Order.f k l0 l1).bind fun bt418 => (if bt411.2.2 = bt418.2.2 then (scholiastlaw13_ImportsStand.j0 k l0 l1 bt411.1 bt411.2.1 bt411.2.2 bt418.2.2 (bt418.2.2 != 0)) else (scholiastlaw13_ImportsStand.j0 k l0 l1 bt411.1 bt411.2.1 bt411.2.2 bt418.2.2 true)))))
theorem scholiastlaw13_ImportsStand.mono_l : ∀ k, (∀ y0 y1 y2 y3 y4 y5 y6, LeO (scholiastlaw13_ImportsStand.j0 k y0 y1 y2 y3 y4 y5 y6) (scholiastlaw13_ImportsStand.j0 (k + 1) y0 y1 y2 y3 y4 y5 y6)) ∧ (∀ y0 y1 y2 y3 y4 y5, LeO (scholiastlaw13_ImportsStand.l0 k y0 y1 y2 y3 y4 y5) (scholiastlaw13_ImportsStand.l0 (k + 1) y0 y1 y2 y3 y4 y5)) ∧ (∀ y0 y1 y2 y3 y4 y5, LeO (scholiastlaw13_ImportsStand.l1 k y0 y1 y2 y3 y4 y5) (scholiastlaw13_ImportsStand.l1 (k + 1) y0 y1 y2 y3 y4 y5)) ∧ (∀ y0 y1 y2 y3 y4 y5 y6 y7, LeO (scholiastlaw13_ImportsStand.l2 k y0 y1 y2 y3 y4 y5 y6 y7) (scholiastlaw13_ImportsStand.l2 (k + 1) y0 y1 y2 y3 y4 y5 y6 y7)) ∧ (∀ y0 y1 y2 y3 y4 y5 y6 y7 y8, LeO (scholiastlaw13_ImportsStand.j4 k y0 y1 y2 y3 y4 y5 y6 y7 y8) (scholiastlaw13_ImportsStand.j4 (k + 1) y0 y1 y2 y3 y4 y5 y6 y7 y8)) ∧ (∀ y0 y1 y2 y3 y4, LeO (scholiastlaw13_ImportsStand.l3 k y0 y1 y2 y3 y4) (scholiastlaw13_ImportsStand.l3 (k + 1) y0 y1 y2 y3 y4)) ∧ (∀ y0 y1 y2 y3 y4 y5, LeO (scholiastlaw13_ImportsStand.l4 k y0 y1 y2 y3 y4 y5) (scholiastlaw13_ImportsStand.l4 (k + 1) y0 y1 y2 y3 y4 y5))
  | 0 => ⟨fun _ _ _ _ _ _ _ r h => by simp [scholiastlaw13_ImportsStand.j0] at h, fun _ _ _ _ _ _ r h => by simp [scholiastlaw13_ImportsStand.l0] at h, fun _ _ _ _ _ _ r h => by simp [scholiastlaw13_ImportsStand.l1] at h, fun _ _ _ _ _ _ _ _ r h => by simp [scholiastlaw13_ImportsStand.l2] at h, fun _ _ _ _ _ _ _ _ _ r h => by simp [scholiastlaw13_ImportsStand.j4] at h, fun _ _ _ _ _ r h => by simp [scholiastlaw13_ImportsStand.l3] at h, fun _ _ _ _ _ _ r h => by simp [scholiastlaw13_ImportsStand.l4] at h⟩
  | k + 1 => by
    obtain ⟨ih0, ih1, ih2, ih3, ih4, ih5, ih6⟩ := scholiastlaw13_ImportsStand.mono_l k
    refine ⟨?_, ?_, ?_, ?_, ?_, ?_, ?_⟩
    · intro y0 y1 y2 y3 y4 y5 y6
      unfold scholiastlaw13_ImportsStand.j0
      repeat' first
      | (with_reducible exact ih0 _ _ _ _ _ _ _)
      | (with_reducible exact ih1 _ _ _ _ _ _)
      | (with_reducible exact ih2 _ _ _ _ _ _)
      | (with_reducible exact ih3 _ _ _ _ _ _ _ _)
      | (with_reducible exact ih4 _ _ _ _ _ _ _ _ _)
      | (with_reducible exact ih5 _ _ _ _ _)
      | (with_reducible exact ih6 _ _ _ _ _ _)
      | (with_reducible exact imports_Split.mono _ _)
      | (with_reducible exact scholiastlaw13_place.mono _ _ _)
      | (with_reducible exact scholiastlaw13_wide.mono _ _ _)
      | (with_reducible exact scholiastref13_Order.mono _ _ _)
      | (with_reducible exact LeO.refl _)
      | (with_reducible exact LeO.none _)
      | (with_reducible refine LeO.ite ?_ ?_)
      | (with_reducible refine LeO.bind ?_ (fun _ => ?_))
      | exact ih0 _ _ _ _ _ _ _
      | exact ih1 _ _ _ _ _ _
      | exact ih2 _ _ _ _ _ _
      | exact ih3 _ _ _ _ _ _ _ _
      | exact ih4 _ _ _ _ _ _ _ _ _
      | exact ih5 _ _ _ _ _
      | exact ih6 _ _ _ _ _ _
      | exact imports_Split.mono _ _
      | exact scholiastlaw13_place.mono _ _ _
      | exact scholiastlaw13_wide.mono _ _ _
      | exact scholiastref13_Order.mono _ _ _
      | exact LeO.none _
      | refine LeO.ite ?_ ?_
      | refine LeO.bind ?_ (fun _ => ?_)
    · intro y0 y1 y2 y3 y4 y5
      unfold scholiastlaw13_ImportsStand.l0
      repeat' first
      | (with_reducible exact ih0 _ _ _ _ _ _ _)
      | (with_reducible exact ih1 _ _ _ _ _ _)
      | (with_reducible exact ih2 _ _ _ _ _ _)
      | (with_reducible exact ih3 _ _ _ _ _ _ _ _)
      | (with_reducible exact ih4 _ _ _ _ _ _ _ _ _)
      | (with_reducible exact ih5 _ _ _ _ _)
      | (with_reducible exact ih6 _ _ _ _ _ _)
      | (with_reducible exact imports_Split.mono _ _)
      | (with_reducible exact scholiastlaw13_place.mono _ _ _)
      | (with_reducible exact scholiastlaw13_wide.mono _ _ _)
      | (with_reducible exact scholiastref13_Order.mono _ _ _)
      | (with_reducible exact LeO.refl _)
      | (with_reducible exact LeO.none _)
      | (with_reducible refine LeO.ite ?_ ?_)
      | (with_reducible refine LeO.bind ?_ (fun _ => ?_))
      | exact ih0 _ _ _ _ _ _ _
      | exact ih1 _ _ _ _ _ _
      | exact ih2 _ _ _ _ _ _
      | exact ih3 _ _ _ _ _ _ _ _
      | exact ih4 _ _ _ _ _ _ _ _ _
      | exact ih5 _ _ _ _ _
      | exact ih6 _ _ _ _ _ _
      | exact imports_Split.mono _ _
      | exact scholiastlaw13_place.mono _ _ _
      | exact scholiastlaw13_wide.mono _ _ _
      | exact scholiastref13_Order.mono _ _ _
      | exact LeO.none _
      | refine LeO.ite ?_ ?_
      | refine LeO.bind ?_ (fun _ => ?_)
    · intro y0 y1 y2 y3 y4 y5
      unfold scholiastlaw13_ImportsStand.l1
      repeat' first
      | (with_reducible exact ih0 _ _ _ _ _ _ _)
      | (with_reducible exact ih1 _ _ _ _ _ _)
      | (with_reducible exact ih2 _ _ _ _ _ _)
      | (with_reducible exact ih3 _ _ _ _ _ _ _ _)
      | (with_reducible exact ih4 _ _ _ _ _ _ _ _ _)
      | (with_reducible exact ih5 _ _ _ _ _)
      | (with_reducible exact ih6 _ _ _ _ _ _)
      | (with_reducible exact imports_Split.mono _ _)
      | (with_reducible exact scholiastlaw13_place.mono _ _ _)
      | (with_reducible exact scholiastlaw13_wide.mono _ _ _)
      | (with_reducible exact scholiastref13_Order.mono _ _ _)
      | (with_reducible exact LeO.refl _)
      | (with_reducible exact LeO.none _)
      | (with_reducible refine LeO.ite ?_ ?_)
      | (with_reducible refine LeO.bind ?_ (fun _ => ?_))
      | exact ih0 _ _ _ _ _ _ _
      | exact ih1 _ _ _ _ _ _
      | exact ih2 _ _ _ _ _ _
      | exact ih3 _ _ _ _ _ _ _ _
      | exact ih4 _ _ _ _ _ _ _ _ _
      | exact ih5 _ _ _ _ _
      | exact ih6 _ _ _ _ _ _
      | exact imports_Split.mono _ _
      | exact scholiastlaw13_place.mono _ _ _
      | exact scholiastlaw13_wide.mono _ _ _
      | exact scholiastref13_Order.mono _ _ _
      | exact LeO.none _
      | refine LeO.ite ?_ ?_
      | refine LeO.bind ?_ (fun _ => ?_)
    · intro y0 y1 y2 y3 y4 y5 y6 y7
      unfold scholiastlaw13_ImportsStand.l2
      repeat' first
      | (with_reducible exact ih0 _ _ _ _ _ _ _)
      | (with_reducible exact ih1 _ _ _ _ _ _)
      | (with_reducible exact ih2 _ _ _ _ _ _)
      | (with_reducible exact ih3 _ _ _ _ _ _ _ _)
      | (with_reducible exact ih4 _ _ _ _ _ _ _ _ _)
      | (with_reducible exact ih5 _ _ _ _ _)
      | (with_reducible exact ih6 _ _ _ _ _ _)
      | (with_reducible exact imports_Split.mono _ _)
      | (with_reducible exact scholiastlaw13_place.mono _ _ _)
      | (with_reducible exact scholiastlaw13_wide.mono _ _ _)
      | (with_reducible exact scholiastref13_Order.mono _ _ _)
      | (with_reducible exact LeO.refl _)
      | (with_reducible exact LeO.none _)
      | (with_reducible refine LeO.ite ?_ ?_)
      | (with_reducible refine LeO.bind ?_ (fun _ => ?_))
      | exact ih0 _ _ _ _ _ _ _
      | exact ih1 _ _ _ _ _ _
      | exact ih2 _ _ _ _ _ _
      | exact ih3 _ _ _ _ _ _ _ _
      | exact ih4 _ _ _ _ _ _ _ _ _
      | exact ih5 _ _ _ _ _
      | exact ih6 _ _ _ _ _ _
      | exact imports_Split.mono _ _
      | exact scholiastlaw13_place.mono _ _ _
      | exact scholiastlaw13_wide.mono _ _ _
      | exact scholiastref13_Order.mono _ _ _
      | exact LeO.none _
      | refine LeO.ite ?_ ?_
      | refine LeO.bind ?_ (fun _ => ?_)
    · intro y0 y1 y2 y3 y4 y5 y6 y7 y8
      unfold scholiastlaw13_ImportsStand.j4
      repeat' first
      | (with_reducible exact ih0 _ _ _ _ _ _ _)
      | (with_reducible exact ih1 _ _ _ _ _ _)
      | (with_reducible exact ih2 _ _ _ _ _ _)
      | (with_reducible exact ih3 _ _ _ _ _ _ _ _)
      | (with_reducible exact ih4 _ _ _ _ _ _ _ _ _)
      | (with_reducible exact ih5 _ _ _ _ _)
      | (with_reducible exact ih6 _ _ _ _ _ _)
      | (with_reducible exact imports_Split.mono _ _)
      | (with_reducible exact scholiastlaw13_place.mono _ _ _)
      | (with_reducible exact scholiastlaw13_wide.mono _ _ _)
      | (with_reducible exact scholiastref13_Order.mono _ _ _)
      | (with_reducible exact LeO.refl _)
      | (with_reducible exact LeO.none _)
      | (with_reducible refine LeO.ite ?_ ?_)
      | (with_reducible refine LeO.bind ?_ (fun _ => ?_))
      | exact ih0 _ _ _ _ _ _ _
      | exact ih1 _ _ _ _ _ _
      | exact ih2 _ _ _ _ _ _
      | exact ih3 _ _ _ _ _ _ _ _
      | exact ih4 _ _ _ _ _ _ _ _ _
      | exact ih5 _ _ _ _ _
      | exact ih6 _ _ _ _ _ _
      | exact imports_Split.mono _ _
      | exact scholiastlaw13_place.mono _ _ _
      | exact scholiastlaw13_wide.mono _ _ _
      | exact scholiastref13_Order.mono _ _ _
      | exact LeO.none _
      | refine LeO.ite ?_ ?_
      | refine LeO.bind ?_ (fun _ => ?_)
    · intro y0 y1 y2 y3 y4
      unfold scholiastlaw13_ImportsStand.l3
      repeat' first
      | (with_reducible exact ih0 _ _ _ _ _ _ _)
      | (with_reducible exact ih1 _ _ _ _ _ _)
      | (with_reducible exact ih2 _ _ _ _ _ _)
      | (with_reducible exact ih3 _ _ _ _ _ _ _ _)
      | (with_reducible exact ih4 _ _ _ _ _ _ _ _ _)
      | (with_reducible exact ih5 _ _ _ _ _)
      | (with_reducible exact ih6 _ _ _ _ _ _)
      | (with_reducible exact imports_Split.mono _ _)
      | (with_reducible exact scholiastlaw13_place.mono _ _ _)
      | (with_reducible exact scholiastlaw13_wide.mono _ _ _)
      | (with_reducible exact scholiastref13_Order.mono _ _ _)
      | (with_reducible exact LeO.refl _)
      | (with_reducible exact LeO.none _)
      | (with_reducible refine LeO.ite ?_ ?_)
      | (with_reducible refine LeO.bind ?_ (fun _ => ?_))
      | exact ih0 _ _ _ _ _ _ _
      | exact ih1 _ _ _ _ _ _
      | exact ih2 _ _ _ _ _ _
      | exact ih3 _ _ _ _ _ _ _ _
      | exact ih4 _ _ _ _ _ _ _ _ _
      | exact ih5 _ _ _ _ _
      | exact ih6 _ _ _ _ _ _
      | exact imports_Split.mono _ _
      | exact scholiastlaw13_place.mono _ _ _
      | exact scholiastlaw13_wide.mono _ _ _
      | exact scholiastref13_Order.mono _ _ _
      | exact LeO.none _
      | refine LeO.ite ?_ ?_
      | refine LeO.bind ?_ (fun _ => ?_)
    · intro y0 y1 y2 y3 y4 y5
      unfold scholiastlaw13_ImportsStand.l4
      repeat' first
      | (with_reducible exact ih0 _ _ _ _ _ _ _)
      | (with_reducible exact ih1 _ _ _ _ _ _)
      | (with_reducible exact ih2 _ _ _ _ _ _)
      | (with_reducible exact ih3 _ _ _ _ _ _ _ _)
      | (with_reducible exact ih4 _ _ _ _ _ _ _ _ _)
      | (with_reducible exact ih5 _ _ _ _ _)
      | (with_reducible exact ih6 _ _ _ _ _ _)
      | (with_reducible exact imports_Split.mono _ _)
      | (with_reducible exact scholiastlaw13_place.mono _ _ _)
      | (with_reducible exact scholiastlaw13_wide.mono _ _ _)
      | (with_reducible exact scholiastref13_Order.mono _ _ _)
      | (with_reducible exact LeO.refl _)
      | (with_reducible exact LeO.none _)
      | (with_reducible refine LeO.ite ?_ ?_)
      | (with_reducible refine LeO.bind ?_ (fun _ => ?_))
      | exact ih0 _ _ _ _ _ _ _
      | exact ih1 _ _ _ _ _ _
      | exact ih2 _ _ _ _ _ _
      | exact ih3 _ _ _ _ _ _ _ _
      | exact ih4 _ _ _ _ _ _ _ _ _
      | exact ih5 _ _ _ _ _
      | exact ih6 _ _ _ _ _ _
      | exact imports_Split.mono _ _
      | exact scholiastlaw13_place.mono _ _ _
      | exact scholiastlaw13_wide.mono _ _ _
      | exact scholiastref13_Order.mono _ _ _
      | exact LeO.none _
      | refine LeO.ite ?_ ?_
      | refine LeO.bind ?_ (fun _ => ?_)
theorem scholiastlaw13_ImportsStand.mono : ∀ a0 a1 k, LeO (scholiastlaw13_ImportsStand.f k a0 a1) (scholiastlaw13_ImportsStand.f (k + 1) a0 a1) := by
  intro a0 a1 k
  obtain ⟨ih0, ih1, ih2, ih3, ih4, ih5, ih6⟩ := scholiastlaw13_ImportsStand.mono_l k
  unfold scholiastlaw13_ImportsStand.f
  repeat' first
      | (with_reducible exact ih0 _ _ _ _ _ _ _)
      | (with_reducible exact ih1 _ _ _ _ _ _)
      | (with_reducible exact ih2 _ _ _ _ _ _)
      | (with_reducible exact ih3 _ _ _ _ _ _ _ _)
      | (with_reducible exact ih4 _ _ _ _ _ _ _ _ _)
      | (with_reducible exact ih5 _ _ _ _ _)
      | (with_reducible exact ih6 _ _ _ _ _ _)
      | (with_reducible exact imports_Split.mono _ _)
      | (with_reducible exact scholiastlaw13_place.mono _ _ _)
      | (with_reducible exact scholiastlaw13_wide.mono _ _ _)
      | (with_reducible exact scholiastref13_Order.mono _ _ _)
      | (with_reducible exact LeO.refl _)
      | (with_reducible exact LeO.none _)
      | (with_reducible refine LeO.ite ?_ ?_)
      | (with_reducible refine LeO.bind ?_ (fun _ => ?_))
      | exact ih0 _ _ _ _ _ _ _
      | exact ih1 _ _ _ _ _ _
      | exact ih2 _ _ _ _ _ _
      | exact ih3 _ _ _ _ _ _ _ _
      | exact ih4 _ _ _ _ _ _ _ _ _
      | exact ih5 _ _ _ _ _
      | exact ih6 _ _ _ _ _ _
      | exact imports_Split.mono _ _
      | exact scholiastlaw13_place.mono _ _ _
      | exact scholiastlaw13_wide.mono _ _ _
      | exact scholiastref13_Order.mono _ _ _
      | exact LeO.none _
      | refine LeO.ite ?_ ?_
      | refine LeO.bind ?_ (fun _ => ?_)
set_option maxHeartbeats 8000000 in
set_option maxRecDepth 100000 in
theorem scholiastlaw13_ImportsStand.calls (k : Nat) (A0 : Option Addr) (c0 : Nat) (l0 : List ByteArray) (A1 : Option Addr) (c1 : Nat) (l1 : List (S46)) (r : Bool) (w : World) (hr0 : Kd.C Kd.string w A0 l0.length l0) (hc0 : l0.length ≤ c0) (hr1 : Kd.C k46 w A1 l1.length l1) (hc1 : l1.length ≤ c1) (h : scholiastlaw13_ImportsStand.f k l0 l1 = some r) :
    Calls Tryd.prog 7 #[.slice A0 l0.length c0, .slice A1 l1.length c1] w fun e w' => e = .returned (.bool r) ∧ Below w.heap.size w w' := by
  have HR0 := Aside0.mk hr0
  have HC0 := Aside0.mk hc0
  clear hr0 hc0
  have HR1 := Aside0.mk hr1
  have HC1 := Aside0.mk hc1
  clear hr1 hc1
  have HB := Aside0.mk (Below.refl w.heap.size w)
  have H : ((scholiastlaw13_wide.f k l0 l1).bind fun t410 => (if t410 = true then (some true) else ((imports_Order.f l0 l1).bind fun bt411 => ((scholiastref13_Order.f k l0 l1).bind fun bt418 => (if bt411.2.2 = bt418.2.2 then (scholiastlaw13_ImportsStand.j0 k l0 l1 bt411.1 bt411.2.1 bt411.2.2 bt418.2.2 (bt418.2.2 != 0)) else (scholiastlaw13_ImportsStand.j0 k l0 l1 bt411.1 bt411.2.1 bt411.2.2 bt418.2.2 true)))))) = some r := h
  clear h
  replace H := Option.bind_eq_some_iff.mp H
  obtain ⟨t410, A30, H⟩ := H
  replace H : (if t410 = true then (some true) else ((imports_Order.f l0 l1).bind fun bt411 => ((scholiastref13_Order.f k l0 l1).bind fun bt418 => (if bt411.2.2 = bt418.2.2 then (scholiastlaw13_ImportsStand.j0 k l0 l1 bt411.1 bt411.2.1 bt411.2.2 bt418.2.2 (bt418.2.2 != 0)) else (scholiastlaw13_ImportsStand.j0 k l0 l1 bt411.1 bt411.2.1 bt411.2.2 bt418.2.2 true))))) = some r := H
  have A3 := Aside0.mk A30
  clear A30
  by_cases c4 : t410 = true
  · subst c4
    have H1 : (some true) = some r := by rw [if_pos rfl] at H; exact H
    clear H
    have H := H1
    clear H1
    obtain rfl := Option.some.inj H
    go_enter Tryd.func7, Tryd.ntmps7
    go_wp2_with (first | (go_at_call 13; (with_reducible refine (scholiastlaw13_wide.calls k _ _ l0 _ _ l1 true _ ?side1 ?side2 ?side3 ?side4 A3.out).mono ?_); (case side1 => repeat (first | exact HR0.out | (with_reducible refine Kd.C_alloc ?_ _) | (with_reducible refine Kd.C_drewN ?_ _) | (with_reducible refine Kd.C_drew ?_))); (case side2 => exact HC0.out); (case side3 => repeat (first | exact HR1.out | (with_reducible refine Kd.C_alloc ?_ _) | (with_reducible refine Kd.C_drewN ?_ _) | (with_reducible refine Kd.C_drew ?_))); (case side4 => exact HC1.out); rintro e w' ⟨rfl, ⟨nd, rfl⟩⟩; (try first | exact ⟨rfl, _, World.drewN_drewN _ _ _⟩ | exact ⟨rfl, _, Eq.trans (World.drewN_drewN _ _ _) (congrArg (World.drewN _) (Nat.add_assoc _ _ _))⟩)))
    repeat (go_quiet (first | (go_at_call 13; (with_reducible refine (scholiastlaw13_wide.calls k _ _ l0 _ _ l1 true _ ?side1 ?side2 ?side3 ?side4 A3.out).mono ?_); (case side1 => repeat (first | exact HR0.out | (with_reducible refine Kd.C_alloc ?_ _) | (with_reducible refine Kd.C_drewN ?_ _) | (with_reducible refine Kd.C_drew ?_))); (case side2 => exact HC0.out); (case side3 => repeat (first | exact HR1.out | (with_reducible refine Kd.C_alloc ?_ _) | (with_reducible refine Kd.C_drewN ?_ _) | (with_reducible refine Kd.C_drew ?_))); (case side4 => exact HC1.out); rintro e w' ⟨rfl, ⟨nd, rfl⟩⟩; (try first | exact ⟨rfl, _, World.drewN_drewN _ _ _⟩ | exact ⟨rfl, _, Eq.trans (World.drewN_drewN _ _ _) (congrArg (World.drewN _) (Nat.add_assoc _ _ _))⟩))); try go_wp2_with (first | (go_at_call 13; (with_reducible refine (scholiastlaw13_wide.calls k _ _ l0 _ _ l1 true _ ?side1 ?side2 ?side3 ?side4 A3.out).mono ?_); (case side1 => repeat (first | exact HR0.out | (with_reducible refine Kd.C_alloc ?_ _) | (with_reducible refine Kd.C_drewN ?_ _) | (with_reducible refine Kd.C_drew ?_))); (case side2 => exact HC0.out); (case side3 => repeat (first | exact HR1.out | (with_reducible refine Kd.C_alloc ?_ _) | (with_reducible refine Kd.C_drewN ?_ _) | (with_reducible refine Kd.C_drew ?_))); (case side4 => exact HC1.out); rintro e w' ⟨rfl, ⟨nd, rfl⟩⟩; (try first | exact ⟨rfl, _, World.drewN_drewN _ _ _⟩ | exact ⟨rfl, _, Eq.trans (World.drewN_drewN _ _ _) (congrArg (World.drewN _) (Nat.add_assoc _ _ _))⟩))))
    go_ret
    exact ⟨by first | rfl | (simp [errW_none, errW_some] <;> rfl) | (simp [*, errW_none, errW_some] <;> rfl), by repeat (first | (with_reducible first | exact HB.out | apply below_alloc | apply pw_below_drewN | apply below_drew1) | exact HB.out)⟩
  · replace c4 := Bool.eq_false_iff.mpr c4
    subst c4
    have H1 : ((imports_Order.f l0 l1).bind fun bt411 => ((scholiastref13_Order.f k l0 l1).bind fun bt418 => (if bt411.2.2 = bt418.2.2 then (scholiastlaw13_ImportsStand.j0 k l0 l1 bt411.1 bt411.2.1 bt411.2.2 bt418.2.2 (bt418.2.2 != 0)) else (scholiastlaw13_ImportsStand.j0 k l0 l1 bt411.1 bt411.2.1 bt411.2.2 bt418.2.2 true)))) = some r := by rw [if_neg (show ¬ (false = true) by decide)] at H; exact H
    clear H
    have H := H1
    clear H1
    replace H := Option.bind_eq_some_iff.mp H
    obtain ⟨⟨t411, t412, t413⟩, A50, H⟩ := H
    replace H : ((scholiastref13_Order.f k l0 l1).bind fun bt418 => (if t413 = bt418.2.2 then (scholiastlaw13_ImportsStand.j0 k l0 l1 t411 t412 t413 bt418.2.2 (bt418.2.2 != 0)) else (scholiastlaw13_ImportsStand.j0 k l0 l1 t411 t412 t413 bt418.2.2 true))) = some r := H
    have A5 := Aside0.mk A50
    clear A50
    replace H := Option.bind_eq_some_iff.mp H
    obtain ⟨⟨t418, t419, t420⟩, A60, H⟩ := H
    replace H : (if t413 = t420 then (scholiastlaw13_ImportsStand.j0 k l0 l1 t411 t412 t413 t420 (t420 != 0)) else (scholiastlaw13_ImportsStand.j0 k l0 l1 t411 t412 t413 t420 true)) = some r := H
    have A6 := Aside0.mk A60
    clear A60
    have HC7 := Aside0.mk H
    clear H
    go_enter Tryd.func7, Tryd.ntmps7
    go_upto_region 5 with (first | (go_at_call 13; (with_reducible refine (scholiastlaw13_wide.calls k _ _ l0 _ _ l1 false _ ?side1 ?side2 ?side3 ?side4 A3.out).mono ?_); (case side1 => repeat (first | exact HR0.out | (with_reducible refine Kd.C_alloc ?_ _) | (with_reducible refine Kd.C_drewN ?_ _) | (with_reducible refine Kd.C_drew ?_))); (case side2 => exact HC0.out); (case side3 => repeat (first | exact HR1.out | (with_reducible refine Kd.C_alloc ?_ _) | (with_reducible refine Kd.C_drewN ?_ _) | (with_reducible refine Kd.C_drew ?_))); (case side4 => exact HC1.out); rintro e w' ⟨rfl, ⟨nd, rfl⟩⟩; (try first | exact ⟨rfl, _, World.drewN_drewN _ _ _⟩ | exact ⟨rfl, _, Eq.trans (World.drewN_drewN _ _ _) (congrArg (World.drewN _) (Nat.add_assoc _ _ _))⟩)) | (go_at_call 14; (with_reducible refine (imports_Order.calls _ _ l0 _ _ l1 t411 t412 t413 _ ?side1 ?side2 ?side3 ?side4 A5.out).mono ?_); (case side1 => repeat (first | exact HR0.out | (with_reducible refine Kd.C_alloc ?_ _) | (with_reducible refine Kd.C_drewN ?_ _) | (with_reducible refine Kd.C_drew ?_))); (case side2 => exact HC0.out); (case side3 => repeat (first | exact HR1.out | (with_reducible refine Kd.C_alloc ?_ _) | (with_reducible refine Kd.C_drewN ?_ _) | (with_reducible refine Kd.C_drew ?_))); (case side4 => exact HC1.out); rintro e w8 ⟨v414, v416, rfl, ho0, ho1, hb⟩; have n0_ := Aside0.mk (Kd.R_lower ho0 (below_size (by repeat (first | (with_reducible first | exact HB.out | apply below_alloc | apply pw_below_drewN | apply below_drew1) | exact HB.out)))); have n1_ := Aside0.mk (Kd.R_lower ho1 (below_size (by repeat (first | (with_reducible first | exact HB.out | apply below_alloc | apply pw_below_drewN | apply below_drew1) | exact HB.out)))); have n2_ := Aside0.mk (below_step (by repeat (first | (with_reducible first | exact HB.out | apply below_alloc | apply pw_below_drewN | apply below_drew1) | exact HB.out)) hb); clear HB; have HO415 := n0_; have HO417 := n1_; have HB := n2_; clear n0_ n1_ n2_; (try clear hb); (try clear hb2); (try clear hk); (try clear hi); (try clear ho0); (try clear ho1)) | (go_at_call 15; (with_reducible refine (scholiastref13_Order.calls k _ _ l0 _ _ l1 t418 t419 t420 _ ?side1 ?side2 ?side3 ?side4 A6.out).mono ?_); (case side1 => repeat (first | exact (Kd.C_below HR0.out HB.out) | (with_reducible refine Kd.C_alloc ?_ _) | (with_reducible refine Kd.C_drewN ?_ _) | (with_reducible refine Kd.C_drew ?_))); (case side2 => exact HC0.out); (case side3 => repeat (first | exact (Kd.C_below HR1.out HB.out) | (with_reducible refine Kd.C_alloc ?_ _) | (with_reducible refine Kd.C_drewN ?_ _) | (with_reducible refine Kd.C_drew ?_))); (case side4 => exact HC1.out); rintro e w9 ⟨v421, v423, rfl, ho0, ho1, hb⟩; have n0_ := Aside0.mk (Kd.R_mono (Kd.R_told (Kd.R_told (Kd.R_old (by (with_reducible repeat (first | apply Kd.R_alloc | apply Kd.R_drewN | apply Kd.R_drew)); exact HO415.out) hb) (Kd.R_base ho0)) (Kd.R_base ho1)) (fun _ h_ => h_.1)); have n1_ := Aside0.mk (Kd.R_mono (Kd.R_told (Kd.R_told (Kd.R_old (by (with_reducible repeat (first | apply Kd.R_alloc | apply Kd.R_drewN | apply Kd.R_drew)); exact HO417.out) hb) (Kd.R_base ho0)) (Kd.R_base ho1)) (fun _ h_ => h_.1)); have n2_ := Aside0.mk (Kd.R_lower (Kd.R_new' (Kd.R_new' ho0 (Kd.R_lt (by (with_reducible repeat (first | apply Kd.R_alloc | apply Kd.R_drewN | apply Kd.R_drew)); exact HO415.out))) (Kd.R_lt (by (with_reducible repeat (first | apply Kd.R_alloc | apply Kd.R_drewN | apply Kd.R_drew)); exact HO417.out))) (below_size (by repeat (first | (with_reducible first | exact HB.out | apply below_alloc | apply pw_below_drewN | apply below_drew1) | exact HB.out)))); have n3_ := Aside0.mk (Kd.R_lower (Kd.R_new' (Kd.R_new' ho1 (Kd.R_lt (by (with_reducible repeat (first | apply Kd.R_alloc | apply Kd.R_drewN | apply Kd.R_drew)); exact HO415.out))) (Kd.R_lt (by (with_reducible repeat (first | apply Kd.R_alloc | apply Kd.R_drewN | apply Kd.R_drew)); exact HO417.out))) (below_size (by repeat (first | (with_reducible first | exact HB.out | apply below_alloc | apply pw_below_drewN | apply below_drew1) | exact HB.out)))); have n4_ := Aside0.mk (below_step (by repeat (first | (with_reducible first | exact HB.out | apply below_alloc | apply pw_below_drewN | apply below_drew1) | exact HB.out)) hb); clear HO415; clear HO417; clear HB; have HO415 := n0_; have HO417 := n1_; have HO422 := n2_; have HO424 := n3_; have HB := n4_; clear n0_ n1_ n2_ n3_ n4_; (try clear hb); (try clear hb2); (try clear hk); (try clear hi); (try clear ho0); (try clear ho1)))
    repeat (go_quiet (first | (go_at_call 13; (with_reducible refine (scholiastlaw13_wide.calls k _ _ l0 _ _ l1 false _ ?side1 ?side2 ?side3 ?side4 A3.out).mono ?_); (case side1 => repeat (first | exact HR0.out | (with_reducible refine Kd.C_alloc ?_ _) | (with_reducible refine Kd.C_drewN ?_ _) | (with_reducible refine Kd.C_drew ?_))); (case side2 => exact HC0.out); (case side3 => repeat (first | exact HR1.out | (with_reducible refine Kd.C_alloc ?_ _) | (with_reducible refine Kd.C_drewN ?_ _) | (with_reducible refine Kd.C_drew ?_))); (case side4 => exact HC1.out); rintro e w' ⟨rfl, ⟨nd, rfl⟩⟩; (try first | exact ⟨rfl, _, World.drewN_drewN _ _ _⟩ | exact ⟨rfl, _, Eq.trans (World.drewN_drewN _ _ _) (congrArg (World.drewN _) (Nat.add_assoc _ _ _))⟩)) | (go_at_call 14; (with_reducible refine (imports_Order.calls _ _ l0 _ _ l1 t411 t412 t413 _ ?side1 ?side2 ?side3 ?side4 A5.out).mono ?_); (case side1 => repeat (first | exact HR0.out | (with_reducible refine Kd.C_alloc ?_ _) | (with_reducible refine Kd.C_drewN ?_ _) | (with_reducible refine Kd.C_drew ?_))); (case side2 => exact HC0.out); (case side3 => repeat (first | exact HR1.out | (with_reducible refine Kd.C_alloc ?_ _) | (with_reducible refine Kd.C_drewN ?_ _) | (with_reducible refine Kd.C_drew ?_))); (case side4 => exact HC1.out); rintro e w8 ⟨v414, v416, rfl, ho0, ho1, hb⟩; have n0_ := Aside0.mk (Kd.R_lower ho0 (below_size (by repeat (first | (with_reducible first | exact HB.out | apply below_alloc | apply pw_below_drewN | apply below_drew1) | exact HB.out)))); have n1_ := Aside0.mk (Kd.R_lower ho1 (below_size (by repeat (first | (with_reducible first | exact HB.out | apply below_alloc | apply pw_below_drewN | apply below_drew1) | exact HB.out)))); have n2_ := Aside0.mk (below_step (by repeat (first | (with_reducible first | exact HB.out | apply below_alloc | apply pw_below_drewN | apply below_drew1) | exact HB.out)) hb); clear HB; have HO415 := n0_; have HO417 := n1_; have HB := n2_; clear n0_ n1_ n2_; (try clear hb); (try clear hb2); (try clear hk); (try clear hi); (try clear ho0); (try clear ho1)) | (go_at_call 15; (with_reducible refine (scholiastref13_Order.calls k _ _ l0 _ _ l1 t418 t419 t420 _ ?side1 ?side2 ?side3 ?side4 A6.out).mono ?_); (case side1 => repeat (first | exact (Kd.C_below HR0.out HB.out) | (with_reducible refine Kd.C_alloc ?_ _) | (with_reducible refine Kd.C_drewN ?_ _) | (with_reducible refine Kd.C_drew ?_))); (case side2 => exact HC0.out); (case side3 => repeat (first | exact (Kd.C_below HR1.out HB.out) | (with_reducible refine Kd.C_alloc ?_ _) | (with_reducible refine Kd.C_drewN ?_ _) | (with_reducible refine Kd.C_drew ?_))); (case side4 => exact HC1.out); rintro e w9 ⟨v421, v423, rfl, ho0, ho1, hb⟩; have n0_ := Aside0.mk (Kd.R_mono (Kd.R_told (Kd.R_told (Kd.R_old (by (with_reducible repeat (first | apply Kd.R_alloc | apply Kd.R_drewN | apply Kd.R_drew)); exact HO415.out) hb) (Kd.R_base ho0)) (Kd.R_base ho1)) (fun _ h_ => h_.1)); have n1_ := Aside0.mk (Kd.R_mono (Kd.R_told (Kd.R_told (Kd.R_old (by (with_reducible repeat (first | apply Kd.R_alloc | apply Kd.R_drewN | apply Kd.R_drew)); exact HO417.out) hb) (Kd.R_base ho0)) (Kd.R_base ho1)) (fun _ h_ => h_.1)); have n2_ := Aside0.mk (Kd.R_lower (Kd.R_new' (Kd.R_new' ho0 (Kd.R_lt (by (with_reducible repeat (first | apply Kd.R_alloc | apply Kd.R_drewN | apply Kd.R_drew)); exact HO415.out))) (Kd.R_lt (by (with_reducible repeat (first | apply Kd.R_alloc | apply Kd.R_drewN | apply Kd.R_drew)); exact HO417.out))) (below_size (by repeat (first | (with_reducible first | exact HB.out | apply below_alloc | apply pw_below_drewN | apply below_drew1) | exact HB.out)))); have n3_ := Aside0.mk (Kd.R_lower (Kd.R_new' (Kd.R_new' ho1 (Kd.R_lt (by (with_reducible repeat (first | apply Kd.R_alloc | apply Kd.R_drewN | apply Kd.R_drew)); exact HO415.out))) (Kd.R_lt (by (with_reducible repeat (first | apply Kd.R_alloc | apply Kd.R_drewN | apply Kd.R_drew)); exact HO417.out))) (below_size (by repeat (first | (with_reducible first | exact HB.out | apply below_alloc | apply pw_below_drewN | apply below_drew1) | exact HB.out)))); have n4_ := Aside0.mk (below_step (by repeat (first | (with_reducible first | exact HB.out | apply below_alloc | apply pw_below_drewN | apply below_drew1) | exact HB.out)) hb); clear HO415; clear HO417; clear HB; have HO415 := n0_; have HO417 := n1_; have HO422 := n2_; have HO424 := n3_; have HB := n4_; clear n0_ n1_ n2_ n3_ n4_; (try clear hb); (try clear hb2); (try clear hk); (try clear hi); (try clear ho0); (try clear ho1))); go_upto_region 5 with (first | (go_at_call 13; (with_reducible refine (scholiastlaw13_wide.calls k _ _ l0 _ _ l1 false _ ?side1 ?side2 ?side3 ?side4 A3.out).mono ?_); (case side1 => repeat (first | exact HR0.out | (with_reducible refine Kd.C_alloc ?_ _) | (with_reducible refine Kd.C_drewN ?_ _) | (with_reducible refine Kd.C_drew ?_))); (case side2 => exact HC0.out); (case side3 => repeat (first | exact HR1.out | (with_reducible refine Kd.C_alloc ?_ _) | (with_reducible refine Kd.C_drewN ?_ _) | (with_reducible refine Kd.C_drew ?_))); (case side4 => exact HC1.out); rintro e w' ⟨rfl, ⟨nd, rfl⟩⟩; (try first | exact ⟨rfl, _, World.drewN_drewN _ _ _⟩ | exact ⟨rfl, _, Eq.trans (World.drewN_drewN _ _ _) (congrArg (World.drewN _) (Nat.add_assoc _ _ _))⟩)) | (go_at_call 14; (with_reducible refine (imports_Order.calls _ _ l0 _ _ l1 t411 t412 t413 _ ?side1 ?side2 ?side3 ?side4 A5.out).mono ?_); (case side1 => repeat (first | exact HR0.out | (with_reducible refine Kd.C_alloc ?_ _) | (with_reducible refine Kd.C_drewN ?_ _) | (with_reducible refine Kd.C_drew ?_))); (case side2 => exact HC0.out); (case side3 => repeat (first | exact HR1.out | (with_reducible refine Kd.C_alloc ?_ _) | (with_reducible refine Kd.C_drewN ?_ _) | (with_reducible refine Kd.C_drew ?_))); (case side4 => exact HC1.out); rintro e w8 ⟨v414, v416, rfl, ho0, ho1, hb⟩; have n0_ := Aside0.mk (Kd.R_lower ho0 (below_size (by repeat (first | (with_reducible first | exact HB.out | apply below_alloc | apply pw_below_drewN | apply below_drew1) | exact HB.out)))); have n1_ := Aside0.mk (Kd.R_lower ho1 (below_size (by repeat (first | (with_reducible first | exact HB.out | apply below_alloc | apply pw_below_drewN | apply below_drew1) | exact HB.out)))); have n2_ := Aside0.mk (below_step (by repeat (first | (with_reducible first | exact HB.out | apply below_alloc | apply pw_below_drewN | apply below_drew1) | exact HB.out)) hb); clear HB; have HO415 := n0_; have HO417 := n1_; have HB := n2_; clear n0_ n1_ n2_; (try clear hb); (try clear hb2); (try clear hk); (try clear hi); (try clear ho0); (try clear ho1)) | (go_at_call 15; (with_reducible refine (scholiastref13_Order.calls k _ _ l0 _ _ l1 t418 t419 t420 _ ?side1 ?side2 ?side3 ?side4 A6.out).mono ?_); (case side1 => repeat (first | exact (Kd.C_below HR0.out HB.out) | (with_reducible refine Kd.C_alloc ?_ _) | (with_reducible refine Kd.C_drewN ?_ _) | (with_reducible refine Kd.C_drew ?_))); (case side2 => exact HC0.out); (case side3 => repeat (first | exact (Kd.C_below HR1.out HB.out) | (with_reducible refine Kd.C_alloc ?_ _) | (with_reducible refine Kd.C_drewN ?_ _) | (with_reducible refine Kd.C_drew ?_))); (case side4 => exact HC1.out); rintro e w9 ⟨v421, v423, rfl, ho0, ho1, hb⟩; have n0_ := Aside0.mk (Kd.R_mono (Kd.R_told (Kd.R_told (Kd.R_old (by (with_reducible repeat (first | apply Kd.R_alloc | apply Kd.R_drewN | apply Kd.R_drew)); exact HO415.out) hb) (Kd.R_base ho0)) (Kd.R_base ho1)) (fun _ h_ => h_.1)); have n1_ := Aside0.mk (Kd.R_mono (Kd.R_told (Kd.R_told (Kd.R_old (by (with_reducible repeat (first | apply Kd.R_alloc | apply Kd.R_drewN | apply Kd.R_drew)); exact HO417.out) hb) (Kd.R_base ho0)) (Kd.R_base ho1)) (fun _ h_ => h_.1)); have n2_ := Aside0.mk (Kd.R_lower (Kd.R_new' (Kd.R_new' ho0 (Kd.R_lt (by (with_reducible repeat (first | apply Kd.R_alloc | apply Kd.R_drewN | apply Kd.R_drew)); exact HO415.out))) (Kd.R_lt (by (with_reducible repeat (first | apply Kd.R_alloc | apply Kd.R_drewN | apply Kd.R_drew)); exact HO417.out))) (below_size (by repeat (first | (with_reducible first | exact HB.out | apply below_alloc | apply pw_below_drewN | apply below_drew1) | exact HB.out)))); have n3_ := Aside0.mk (Kd.R_lower (Kd.R_new' (Kd.R_new' ho1 (Kd.R_lt (by (with_reducible repeat (first | apply Kd.R_alloc | apply Kd.R_drewN | apply Kd.R_drew)); exact HO415.out))) (Kd.R_lt (by (with_reducible repeat (first | apply Kd.R_alloc | apply Kd.R_drewN | apply Kd.R_drew)); exact HO417.out))) (below_size (by repeat (first | (with_reducible first | exact HB.out | apply below_alloc | apply pw_below_drewN | apply below_drew1) | exact HB.out)))); have n4_ := Aside0.mk (below_step (by repeat (first | (with_reducible first | exact HB.out | apply below_alloc | apply pw_below_drewN | apply below_drew1) | exact HB.out)) hb); clear HO415; clear HO417; clear HB; have HO415 := n0_; have HO417 := n1_; have HO422 := n2_; have HO424 := n3_; have HB := n4_; clear n0_ n1_ n2_ n3_ n4_; (try clear hb); (try clear hb2); (try clear hk); (try clear hi); (try clear ho0); (try clear ho1))))
    (try simp only [Act.put, List.setIfInBounds_toArray, List.set_cons_zero, List.set_cons_succ])
    go_cut [48] (fun v48 wc => ∃ (kq : Nat) (x48_6 : Bool), v48 = .bool x48_6 ∧ Aside0 (scholiastlaw13_ImportsStand.j0 kq l0 l1 t411 t412 t413 t420 x48_6 = some r) ∧ Aside0 (kq ≤ k) ∧ Aside0 (Kd.R Kd.string 9 wc w.heap.size (fun k_ => some k_ ≠ (v416 : Value).ownBlock) v414 t411) ∧ Aside0 (Kd.R Kd.string 9 wc w.heap.size (fun k_ => some k_ ≠ (v414 : Value).ownBlock) v416 t412) ∧ Aside0 (Below w.heap.size w wc))
    case first =>
      have H := HC7.out
      clear HC7
      by_cases c10 : t413 = t420
      · rw [if_pos c10] at H
        have c10b0 : (t413 == t420) = true := beq_iff_eq.mpr c10
        have c10b1 : (t413 != t420) = false := bne_eq_false_iff_eq.mpr c10
        clear c10
        (first | rw [c10b0] | (simp only [i64_w, i32_w]; rw [c10b0]) | rw [c10b1] | skip)
        have H' := Aside0.mk H
        clear H
        go_wp2
        repeat (go_quiet (fail); try go_wp2)
        go_meet
        case rel => exact ⟨_, ((t420 != 0)), (by first | rfl | (simp; done) | (simp [*]; done)), H', ⟨by first | omega | exact Nat.le_refl _⟩, ⟨by (with_reducible repeat (first | apply Kd.R_alloc | apply Kd.R_drewN | apply Kd.R_drew)); exact Kd.R_mono HO415.out (fun _ hk => hk.1.1)⟩, ⟨by (with_reducible repeat (first | apply Kd.R_alloc | apply Kd.R_drewN | apply Kd.R_drew)); exact Kd.R_mono HO417.out (fun _ hk => hk.1.1)⟩, ⟨by repeat (first | (with_reducible first | exact HB.out | apply below_alloc | apply pw_below_drewN | apply below_drew1) | exact HB.out)⟩⟩
      · rw [if_neg c10] at H
        have c10b0 : (t413 == t420) = false := beq_eq_false_iff_ne.mpr c10
        have c10b1 : (t413 != t420) = true := bne_iff_ne.mpr c10
        (first | rw [c10b0] | (simp only [i64_w, i32_w]; rw [c10b0]) | rw [c10b1] | skip)
        have H' := Aside0.mk H
        clear H
        go_wp2
        repeat (go_quiet (fail); try go_wp2)
        go_meet
        case rel => exact ⟨_, (true), (by first | rfl | (simp; done) | (simp [*]; done)), H', ⟨by first | omega | exact Nat.le_refl _⟩, ⟨by (with_reducible repeat (first | apply Kd.R_alloc | apply Kd.R_drewN | apply Kd.R_drew)); exact Kd.R_mono HO415.out (fun _ hk => hk.1.1)⟩, ⟨by (with_reducible repeat (first | apply Kd.R_alloc | apply Kd.R_drewN | apply Kd.R_drew)); exact Kd.R_mono HO417.out (fun _ hk => hk.1.1)⟩, ⟨by repeat (first | (with_reducible first | exact HB.out | apply below_alloc | apply pw_below_drewN | apply below_drew1) | exact HB.out)⟩⟩
    case rest =>
      clear HC7
      try clear c1
      try clear p2
      try clear c4
      try clear c7
      try clear c10
      try clear c10b0
      try clear c10b1
      obtain ⟨kq, x48_6, rfl, HA, HJ6, HO_5, HO_6, HB⟩ := hcut
      cases kq with
      | zero => exact absurd HA.out (by simp [scholiastlaw13_ImportsStand.j0])
      | succ kj6 =>
        have H := HA.out
        clear HA
        simp only [scholiastlaw13_ImportsStand.j0] at H
        by_cases c11 : x48_6 = true
        · subst c11
          have H1 : (some (t413 == t420)) = some r := by rw [if_pos rfl] at H; exact H
          clear H
          have H := H1
          clear H1
          obtain rfl := Option.some.inj H
          go_wp2
          repeat (go_quiet (fail); try go_wp2)
          go_ret
          exact ⟨by first | rfl | (simp [errW_none, errW_some] <;> rfl) | (simp [*, errW_none, errW_some] <;> rfl), by repeat (first | (with_reducible first | exact HB.out | apply below_alloc | apply pw_below_drewN | apply below_drew1) | exact HB.out)⟩
        · replace c11 := Bool.eq_false_iff.mpr c11
          subst c11
          have H1 : ((imports_Folders.f l0).bind fun t425 => (if (wrap64 ((t411.length : Int) + (t412.length : Int))) = (t425.length : Int) then (scholiastlaw13_ImportsStand.l0 kj6 l0 l1 t411 t412 t425 0) else (some false))) = some r := by rw [if_neg (show ¬ (false = true) by decide)] at H; exact H
          clear H
          have H := H1
          clear H1
          replace H := Option.bind_eq_some_iff.mp H
          obtain ⟨t425, A120, H⟩ := H
          replace H : (if (wrap64 ((t411.length : Int) + (t412.length : Int))) = (t425.length : Int) then (scholiastlaw13_ImportsStand.l0 kj6 l0 l1 t411 t412 t425 0) else (some false)) = some r := H
          have A12 := Aside0.mk A120
          clear A120
          by_cases c13 : (wrap64 ((t411.length : Int) + (t412.length : Int))) = (t425.length : Int)
          · rw [if_pos c13] at H
            have c13b0 : ((wrap64 ((t411.length : Int) + (t412.length : Int))) == (t425.length : Int)) = true := beq_iff_eq.mpr c13
            have c13b1 : ((wrap64 ((t411.length : Int) + (t412.length : Int))) != (t425.length : Int)) = false := bne_eq_false_iff_eq.mpr c13
            clear c13
            have H' := Aside0.mk H
            clear H
            go_wp2_with (first | (go_at_call 10; (with_reducible refine (imports_Folders.calls _ _ l0 t425 _ ?side1 ?side2 A12.out).mono ?_); (case side1 => repeat (first | exact (Kd.C_below HR0.out HB.out) | (with_reducible refine Kd.C_alloc ?_ _) | (with_reducible refine Kd.C_drewN ?_ _) | (with_reducible refine Kd.C_drew ?_))); (case side2 => exact HC0.out); rintro e w14 ⟨v426, rfl, ho0, hb⟩; have n0_ := Aside0.mk (Kd.R_elder' (by (with_reducible repeat (first | apply Kd.R_alloc | apply Kd.R_drewN | apply Kd.R_drew)); exact HO_5.out) (Kd.R_base ho0) hb); have n1_ := Aside0.mk (Kd.R_elder' (by (with_reducible repeat (first | apply Kd.R_alloc | apply Kd.R_drewN | apply Kd.R_drew)); exact HO_6.out) (Kd.R_base ho0) hb); have n2_ := Aside0.mk (Kd.R_lower (Kd.R_new' (Kd.R_new' ho0 (Kd.R_lt (by (with_reducible repeat (first | apply Kd.R_alloc | apply Kd.R_drewN | apply Kd.R_drew)); exact HO_5.out))) (Kd.R_lt (by (with_reducible repeat (first | apply Kd.R_alloc | apply Kd.R_drewN | apply Kd.R_drew)); exact HO_6.out))) (below_size (by repeat (first | (with_reducible first | exact HB.out | apply below_alloc | apply pw_below_drewN | apply below_drew1) | exact HB.out)))); have n3_ := Aside0.mk (below_step (by repeat (first | (with_reducible first | exact HB.out | apply below_alloc | apply pw_below_drewN | apply below_drew1) | exact HB.out)) hb); clear HO_5; clear HO_6; clear HB; have HO_5 := n0_; have HO_6 := n1_; have HO427 := n2_; have HB := n3_; clear n0_ n1_ n2_ n3_; (try clear hb); (try clear hb2); (try clear hk); (try clear hi); (try clear ho0); obtain ⟨Ao15, co15, eo15⟩ := Kd.R_slice HO_5.out; subst eo15; obtain ⟨Ao16, co16, eo16⟩ := Kd.R_slice HO_6.out; subst eo16; obtain ⟨Ao17, co17, eo17⟩ := Kd.R_slice HO427.out; subst eo17))
            repeat (go_quiet (first | (go_at_call 10; (with_reducible refine (imports_Folders.calls _ _ l0 t425 _ ?side1 ?side2 A12.out).mono ?_); (case side1 => repeat (first | exact (Kd.C_below HR0.out HB.out) | (with_reducible refine Kd.C_alloc ?_ _) | (with_reducible refine Kd.C_drewN ?_ _) | (with_reducible refine Kd.C_drew ?_))); (case side2 => exact HC0.out); rintro e w14 ⟨v426, rfl, ho0, hb⟩; have n0_ := Aside0.mk (Kd.R_elder' (by (with_reducible repeat (first | apply Kd.R_alloc | apply Kd.R_drewN | apply Kd.R_drew)); exact HO_5.out) (Kd.R_base ho0) hb); have n1_ := Aside0.mk (Kd.R_elder' (by (with_reducible repeat (first | apply Kd.R_alloc | apply Kd.R_drewN | apply Kd.R_drew)); exact HO_6.out) (Kd.R_base ho0) hb); have n2_ := Aside0.mk (Kd.R_lower (Kd.R_new' (Kd.R_new' ho0 (Kd.R_lt (by (with_reducible repeat (first | apply Kd.R_alloc | apply Kd.R_drewN | apply Kd.R_drew)); exact HO_5.out))) (Kd.R_lt (by (with_reducible repeat (first | apply Kd.R_alloc | apply Kd.R_drewN | apply Kd.R_drew)); exact HO_6.out))) (below_size (by repeat (first | (with_reducible first | exact HB.out | apply below_alloc | apply pw_below_drewN | apply below_drew1) | exact HB.out)))); have n3_ := Aside0.mk (below_step (by repeat (first | (with_reducible first | exact HB.out | apply below_alloc | apply pw_below_drewN | apply below_drew1) | exact HB.out)) hb); clear HO_5; clear HO_6; clear HB; have HO_5 := n0_; have HO_6 := n1_; have HO427 := n2_; have HB := n3_; clear n0_ n1_ n2_ n3_; (try clear hb); (try clear hb2); (try clear hk); (try clear hi); (try clear ho0); obtain ⟨Ao15, co15, eo15⟩ := Kd.R_slice HO_5.out; subst eo15; obtain ⟨Ao16, co16, eo16⟩ := Kd.R_slice HO_6.out; subst eo16; obtain ⟨Ao17, co17, eo17⟩ := Kd.R_slice HO427.out; subst eo17)); try go_wp2_with (first | (go_at_call 10; (with_reducible refine (imports_Folders.calls _ _ l0 t425 _ ?side1 ?side2 A12.out).mono ?_); (case side1 => repeat (first | exact (Kd.C_below HR0.out HB.out) | (with_reducible refine Kd.C_alloc ?_ _) | (with_reducible refine Kd.C_drewN ?_ _) | (with_reducible refine Kd.C_drew ?_))); (case side2 => exact HC0.out); rintro e w14 ⟨v426, rfl, ho0, hb⟩; have n0_ := Aside0.mk (Kd.R_elder' (by (with_reducible repeat (first | apply Kd.R_alloc | apply Kd.R_drewN | apply Kd.R_drew)); exact HO_5.out) (Kd.R_base ho0) hb); have n1_ := Aside0.mk (Kd.R_elder' (by (with_reducible repeat (first | apply Kd.R_alloc | apply Kd.R_drewN | apply Kd.R_drew)); exact HO_6.out) (Kd.R_base ho0) hb); have n2_ := Aside0.mk (Kd.R_lower (Kd.R_new' (Kd.R_new' ho0 (Kd.R_lt (by (with_reducible repeat (first | apply Kd.R_alloc | apply Kd.R_drewN | apply Kd.R_drew)); exact HO_5.out))) (Kd.R_lt (by (with_reducible repeat (first | apply Kd.R_alloc | apply Kd.R_drewN | apply Kd.R_drew)); exact HO_6.out))) (below_size (by repeat (first | (with_reducible first | exact HB.out | apply below_alloc | apply pw_below_drewN | apply below_drew1) | exact HB.out)))); have n3_ := Aside0.mk (below_step (by repeat (first | (with_reducible first | exact HB.out | apply below_alloc | apply pw_below_drewN | apply below_drew1) | exact HB.out)) hb); clear HO_5; clear HO_6; clear HB; have HO_5 := n0_; have HO_6 := n1_; have HO427 := n2_; have HB := n3_; clear n0_ n1_ n2_ n3_; (try clear hb); (try clear hb2); (try clear hk); (try clear hi); (try clear ho0); obtain ⟨Ao15, co15, eo15⟩ := Kd.R_slice HO_5.out; subst eo15; obtain ⟨Ao16, co16, eo16⟩ := Kd.R_slice HO_6.out; subst eo16; obtain ⟨Ao17, co17, eo17⟩ := Kd.R_slice HO427.out; subst eo17)))
            go_loopg [12] kj6 (fun kq v12 w' => ∃ (x12_2 : Int), v12 = .int .i64 x12_2 ∧ Aside0 (scholiastlaw13_ImportsStand.l0 kq l0 l1 t411 t412 t425 x12_2 = some r) ∧ Aside0 (kq ≤ kj6) ∧ Aside0 (Kd.R Kd.string 9 w' w.heap.size (fun k_ => some k_ ≠ ((.slice Ao16 t412.length co16) : Value).ownBlock ∧ some k_ ≠ ((.slice Ao17 t425.length co17) : Value).ownBlock) (.slice Ao15 t411.length co15) t411) ∧ Aside0 (Kd.R Kd.string 9 w' w.heap.size (fun k_ => some k_ ≠ ((.slice Ao15 t411.length co15) : Value).ownBlock ∧ some k_ ≠ ((.slice Ao17 t425.length co17) : Value).ownBlock) (.slice Ao16 t412.length co16) t412) ∧ Aside0 (Kd.R Kd.string 9 w' w.heap.size (fun k_ => some k_ ≠ ((.slice Ao15 t411.length co15) : Value).ownBlock ∧ some k_ ≠ ((.slice Ao16 t412.length co16) : Value).ownBlock) (.slice Ao17 t425.length co17) t425) ∧ Aside0 (Below w.heap.size w w'))
            case atStart => exact ⟨(0), (by first | rfl | (simp; done) | (simp [*]; done)), H', ⟨Nat.le_refl _⟩, ⟨by (with_reducible repeat (first | apply Kd.R_alloc | apply Kd.R_drewN | apply Kd.R_drew)); exact HO_5.out⟩, ⟨by (with_reducible repeat (first | apply Kd.R_alloc | apply Kd.R_drewN | apply Kd.R_drew)); exact HO_6.out⟩, ⟨by (with_reducible repeat (first | apply Kd.R_alloc | apply Kd.R_drewN | apply Kd.R_drew)); exact Kd.R_mono HO427.out (fun _ hk => ⟨hk.1.2, hk.2⟩)⟩, ⟨by repeat (first | (with_reducible first | exact HB.out | apply below_alloc | apply pw_below_drewN | apply below_drew1) | exact HB.out)⟩⟩
            case round =>
              clear H'
              try clear c1
              try clear p2
              try clear c4
              try clear p6
              try clear c7
              try clear c10
              try clear c10b0
              try clear c10b1
              try clear c11
              try clear c13
              try clear c13b0
              try clear c13b1
              try clear p2
              obtain ⟨x12_2, rfl, HA, HK2, HO_5, HO_6, HO_11, HB⟩ := hrel
              cases gk with
              | zero => exact absurd HA.out (by simp [scholiastlaw13_ImportsStand.l0])
              | succ k2 =>
                have H := HA.out
                clear HA
                simp only [scholiastlaw13_ImportsStand.l0] at H
                by_cases c18 : x12_2 < (t425.length : Int)
                · rw [if_pos c18] at H
                  have c18b0 : decide (x12_2 < (t425.length : Int)) = true := decide_eq_true c18
                  clear c18
                  by_cases c19 : 0 ≤ x12_2
                  · rw [if_pos c19] at H
                    have c19b0 : decide (0 ≤ x12_2) = true := decide_eq_true c19
                    clear c19
                    replace H := Option.bind_eq_some_iff.mp H
                    obtain ⟨t429, A200, H⟩ := H
                    replace H : ((scholiastlaw13_place.f k2 t412 (rdOf ByteArray.empty t425 x12_2)).bind fun t431 => (if ((decide (t429 ≥ 0)) == (decide (t431 ≥ 0))) = true then (some false) else (scholiastlaw13_ImportsStand.l0 k2 l0 l1 t411 t412 t425 (wrap64 (x12_2 + 1))))) = some r := H
                    have A20 := Aside0.mk A200
                    clear A200
                    replace H := Option.bind_eq_some_iff.mp H
                    obtain ⟨t431, A210, H⟩ := H
                    replace H : (if ((decide (t429 ≥ 0)) == (decide (t431 ≥ 0))) = true then (some false) else (scholiastlaw13_ImportsStand.l0 k2 l0 l1 t411 t412 t425 (wrap64 (x12_2 + 1)))) = some r := H
                    have A21 := Aside0.mk A210
                    clear A210
                    by_cases c22 : ((decide (t429 ≥ 0)) == (decide (t431 ≥ 0))) = true
                    · rw [if_pos c22] at H
                      have c22b0 : ((decide (t429 ≥ 0)) == (decide (t431 ≥ 0))) = true := c22
                      (try (have c22b1 : decide ((decide (t429 ≥ 0)) = (decide (t431 ≥ 0))) = true := by simpa using c22))
                      (try (have c22b2 : ((decide (t429 ≥ 0)) == (decide (t431 ≥ 0))) = true := by simpa using c22))
                      clear c22
                      obtain rfl := Option.some.inj H
                      have p428 : 0 ≤ (x12_2 : Int) := of_decide_eq_true (by first | (with_reducible assumption) | assumption)
                      have q428 : x12_2 < (t425.length : Int) := of_decide_eq_true (by first | (with_reducible assumption) | assumption)
                      obtain ⟨ad428, e428, hx428_0⟩ := Kd.at_string (Kd.R_reads' HO_11.out).2.2 x12_2 p428 q428
                      cases e428
                      replace p428 := eq_true p428
                      replace q428 := eq_true q428
                      go_wp2_with (first | (go_at_call 19; (with_reducible refine (scholiastlaw13_place.calls k2 _ _ t411 (rdOf ByteArray.empty t425 x12_2) t429 _ ?side1 ?side2 A20.out).mono ?_); (case side1 => repeat (first | exact (Kd.R_reads' HO_5.out).2.2 | (with_reducible refine Kd.C_alloc ?_ _) | (with_reducible refine Kd.C_drewN ?_ _) | (with_reducible refine Kd.C_drew ?_))); (case side2 => exact (Kd.R_reads' HO_5.out).2.1); rintro e w' ⟨rfl, ⟨nd, rfl⟩⟩; (try first | exact ⟨rfl, _, World.drewN_drewN _ _ _⟩ | exact ⟨rfl, _, Eq.trans (World.drewN_drewN _ _ _) (congrArg (World.drewN _) (Nat.add_assoc _ _ _))⟩); have p430 : 0 ≤ (x12_2 : Int) := of_decide_eq_true (by first | (with_reducible assumption) | assumption); have q430 : x12_2 < (t425.length : Int) := of_decide_eq_true (by first | (with_reducible assumption) | assumption); obtain ⟨ad430, e430, hx430_0⟩ := Kd.at_string (Kd.R_reads' HO_11.out).2.2 x12_2 p430 q430; obtain rfl : ad428 = ad430 := (by injection e430); replace p430 := eq_true p430; replace q430 := eq_true q430) | (go_at_call 19; (with_reducible refine (scholiastlaw13_place.calls k2 _ _ t412 (rdOf ByteArray.empty t425 x12_2) t431 _ ?side1 ?side2 A21.out).mono ?_); (case side1 => repeat (first | exact (Kd.R_reads' HO_6.out).2.2 | (with_reducible refine Kd.C_alloc ?_ _) | (with_reducible refine Kd.C_drewN ?_ _) | (with_reducible refine Kd.C_drew ?_))); (case side2 => exact (Kd.R_reads' HO_6.out).2.1); rintro e w' ⟨rfl, ⟨nd, rfl⟩⟩; (try first | exact ⟨rfl, _, World.drewN_drewN _ _ _⟩ | exact ⟨rfl, _, Eq.trans (World.drewN_drewN _ _ _) (congrArg (World.drewN _) (Nat.add_assoc _ _ _))⟩)))
                      repeat (go_quiet (first | (go_at_call 19; (with_reducible refine (scholiastlaw13_place.calls k2 _ _ t411 (rdOf ByteArray.empty t425 x12_2) t429 _ ?side1 ?side2 A20.out).mono ?_); (case side1 => repeat (first | exact (Kd.R_reads' HO_5.out).2.2 | (with_reducible refine Kd.C_alloc ?_ _) | (with_reducible refine Kd.C_drewN ?_ _) | (with_reducible refine Kd.C_drew ?_))); (case side2 => exact (Kd.R_reads' HO_5.out).2.1); rintro e w' ⟨rfl, ⟨nd, rfl⟩⟩; (try first | exact ⟨rfl, _, World.drewN_drewN _ _ _⟩ | exact ⟨rfl, _, Eq.trans (World.drewN_drewN _ _ _) (congrArg (World.drewN _) (Nat.add_assoc _ _ _))⟩); have p430 : 0 ≤ (x12_2 : Int) := of_decide_eq_true (by first | (with_reducible assumption) | assumption); have q430 : x12_2 < (t425.length : Int) := of_decide_eq_true (by first | (with_reducible assumption) | assumption); obtain ⟨ad430, e430, hx430_0⟩ := Kd.at_string (Kd.R_reads' HO_11.out).2.2 x12_2 p430 q430; obtain rfl : ad428 = ad430 := (by injection e430); replace p430 := eq_true p430; replace q430 := eq_true q430) | (go_at_call 19; (with_reducible refine (scholiastlaw13_place.calls k2 _ _ t412 (rdOf ByteArray.empty t425 x12_2) t431 _ ?side1 ?side2 A21.out).mono ?_); (case side1 => repeat (first | exact (Kd.R_reads' HO_6.out).2.2 | (with_reducible refine Kd.C_alloc ?_ _) | (with_reducible refine Kd.C_drewN ?_ _) | (with_reducible refine Kd.C_drew ?_))); (case side2 => exact (Kd.R_reads' HO_6.out).2.1); rintro e w' ⟨rfl, ⟨nd, rfl⟩⟩; (try first | exact ⟨rfl, _, World.drewN_drewN _ _ _⟩ | exact ⟨rfl, _, Eq.trans (World.drewN_drewN _ _ _) (congrArg (World.drewN _) (Nat.add_assoc _ _ _))⟩))); try go_wp2_with (first | (go_at_call 19; (with_reducible refine (scholiastlaw13_place.calls k2 _ _ t411 (rdOf ByteArray.empty t425 x12_2) t429 _ ?side1 ?side2 A20.out).mono ?_); (case side1 => repeat (first | exact (Kd.R_reads' HO_5.out).2.2 | (with_reducible refine Kd.C_alloc ?_ _) | (with_reducible refine Kd.C_drewN ?_ _) | (with_reducible refine Kd.C_drew ?_))); (case side2 => exact (Kd.R_reads' HO_5.out).2.1); rintro e w' ⟨rfl, ⟨nd, rfl⟩⟩; (try first | exact ⟨rfl, _, World.drewN_drewN _ _ _⟩ | exact ⟨rfl, _, Eq.trans (World.drewN_drewN _ _ _) (congrArg (World.drewN _) (Nat.add_assoc _ _ _))⟩); have p430 : 0 ≤ (x12_2 : Int) := of_decide_eq_true (by first | (with_reducible assumption) | assumption); have q430 : x12_2 < (t425.length : Int) := of_decide_eq_true (by first | (with_reducible assumption) | assumption); obtain ⟨ad430, e430, hx430_0⟩ := Kd.at_string (Kd.R_reads' HO_11.out).2.2 x12_2 p430 q430; obtain rfl : ad428 = ad430 := (by injection e430); replace p430 := eq_true p430; replace q430 := eq_true q430) | (go_at_call 19; (with_reducible refine (scholiastlaw13_place.calls k2 _ _ t412 (rdOf ByteArray.empty t425 x12_2) t431 _ ?side1 ?side2 A21.out).mono ?_); (case side1 => repeat (first | exact (Kd.R_reads' HO_6.out).2.2 | (with_reducible refine Kd.C_alloc ?_ _) | (with_reducible refine Kd.C_drewN ?_ _) | (with_reducible refine Kd.C_drew ?_))); (case side2 => exact (Kd.R_reads' HO_6.out).2.1); rintro e w' ⟨rfl, ⟨nd, rfl⟩⟩; (try first | exact ⟨rfl, _, World.drewN_drewN _ _ _⟩ | exact ⟨rfl, _, Eq.trans (World.drewN_drewN _ _ _) (congrArg (World.drewN _) (Nat.add_assoc _ _ _))⟩))))
                      go_ret
                      exact ⟨by first | rfl | (simp [errW_none, errW_some] <;> rfl) | (simp [*, errW_none, errW_some] <;> rfl), by repeat (first | (with_reducible first | exact HB.out | apply below_alloc | apply pw_below_drewN | apply below_drew1) | exact HB.out)⟩
                    · rw [if_neg c22] at H
                      have c22b0 : ((decide (t429 ≥ 0)) == (decide (t431 ≥ 0))) = false := by simpa using c22
                      (try (have c22b1 : decide ((decide (t429 ≥ 0)) = (decide (t431 ≥ 0))) = false := by simpa using c22))
                      (try (have c22b2 : ((decide (t429 ≥ 0)) == (decide (t431 ≥ 0))) = false := by simpa using c22))
                      (try (have c22b3 : ¬ ((decide (t429 ≥ 0)) = (decide (t431 ≥ 0))) := by simpa using c22))
                      clear c22
                      have H' := Aside0.mk H
                      clear H
                      have p428 : 0 ≤ (x12_2 : Int) := of_decide_eq_true (by first | (with_reducible assumption) | assumption)
                      have q428 : x12_2 < (t425.length : Int) := of_decide_eq_true (by first | (with_reducible assumption) | assumption)
                      obtain ⟨ad428, e428, hx428_0⟩ := Kd.at_string (Kd.R_reads' HO_11.out).2.2 x12_2 p428 q428
                      cases e428
                      replace p428 := eq_true p428
                      replace q428 := eq_true q428
                      go_wp2_with (first | (go_at_call 19; (with_reducible refine (scholiastlaw13_place.calls k2 _ _ t411 (rdOf ByteArray.empty t425 x12_2) t429 _ ?side1 ?side2 A20.out).mono ?_); (case side1 => repeat (first | exact (Kd.R_reads' HO_5.out).2.2 | (with_reducible refine Kd.C_alloc ?_ _) | (with_reducible refine Kd.C_drewN ?_ _) | (with_reducible refine Kd.C_drew ?_))); (case side2 => exact (Kd.R_reads' HO_5.out).2.1); rintro e w' ⟨rfl, ⟨nd, rfl⟩⟩; (try first | exact ⟨rfl, _, World.drewN_drewN _ _ _⟩ | exact ⟨rfl, _, Eq.trans (World.drewN_drewN _ _ _) (congrArg (World.drewN _) (Nat.add_assoc _ _ _))⟩); have p430 : 0 ≤ (x12_2 : Int) := of_decide_eq_true (by first | (with_reducible assumption) | assumption); have q430 : x12_2 < (t425.length : Int) := of_decide_eq_true (by first | (with_reducible assumption) | assumption); obtain ⟨ad430, e430, hx430_0⟩ := Kd.at_string (Kd.R_reads' HO_11.out).2.2 x12_2 p430 q430; obtain rfl : ad428 = ad430 := (by injection e430); replace p430 := eq_true p430; replace q430 := eq_true q430) | (go_at_call 19; (with_reducible refine (scholiastlaw13_place.calls k2 _ _ t412 (rdOf ByteArray.empty t425 x12_2) t431 _ ?side1 ?side2 A21.out).mono ?_); (case side1 => repeat (first | exact (Kd.R_reads' HO_6.out).2.2 | (with_reducible refine Kd.C_alloc ?_ _) | (with_reducible refine Kd.C_drewN ?_ _) | (with_reducible refine Kd.C_drew ?_))); (case side2 => exact (Kd.R_reads' HO_6.out).2.1); rintro e w' ⟨rfl, ⟨nd, rfl⟩⟩; (try first | exact ⟨rfl, _, World.drewN_drewN _ _ _⟩ | exact ⟨rfl, _, Eq.trans (World.drewN_drewN _ _ _) (congrArg (World.drewN _) (Nat.add_assoc _ _ _))⟩)))
                      repeat (go_quiet (first | (go_at_call 19; (with_reducible refine (scholiastlaw13_place.calls k2 _ _ t411 (rdOf ByteArray.empty t425 x12_2) t429 _ ?side1 ?side2 A20.out).mono ?_); (case side1 => repeat (first | exact (Kd.R_reads' HO_5.out).2.2 | (with_reducible refine Kd.C_alloc ?_ _) | (with_reducible refine Kd.C_drewN ?_ _) | (with_reducible refine Kd.C_drew ?_))); (case side2 => exact (Kd.R_reads' HO_5.out).2.1); rintro e w' ⟨rfl, ⟨nd, rfl⟩⟩; (try first | exact ⟨rfl, _, World.drewN_drewN _ _ _⟩ | exact ⟨rfl, _, Eq.trans (World.drewN_drewN _ _ _) (congrArg (World.drewN _) (Nat.add_assoc _ _ _))⟩); have p430 : 0 ≤ (x12_2 : Int) := of_decide_eq_true (by first | (with_reducible assumption) | assumption); have q430 : x12_2 < (t425.length : Int) := of_decide_eq_true (by first | (with_reducible assumption) | assumption); obtain ⟨ad430, e430, hx430_0⟩ := Kd.at_string (Kd.R_reads' HO_11.out).2.2 x12_2 p430 q430; obtain rfl : ad428 = ad430 := (by injection e430); replace p430 := eq_true p430; replace q430 := eq_true q430) | (go_at_call 19; (with_reducible refine (scholiastlaw13_place.calls k2 _ _ t412 (rdOf ByteArray.empty t425 x12_2) t431 _ ?side1 ?side2 A21.out).mono ?_); (case side1 => repeat (first | exact (Kd.R_reads' HO_6.out).2.2 | (with_reducible refine Kd.C_alloc ?_ _) | (with_reducible refine Kd.C_drewN ?_ _) | (with_reducible refine Kd.C_drew ?_))); (case side2 => exact (Kd.R_reads' HO_6.out).2.1); rintro e w' ⟨rfl, ⟨nd, rfl⟩⟩; (try first | exact ⟨rfl, _, World.drewN_drewN _ _ _⟩ | exact ⟨rfl, _, Eq.trans (World.drewN_drewN _ _ _) (congrArg (World.drewN _) (Nat.add_assoc _ _ _))⟩))); try go_wp2_with (first | (go_at_call 19; (with_reducible refine (scholiastlaw13_place.calls k2 _ _ t411 (rdOf ByteArray.empty t425 x12_2) t429 _ ?side1 ?side2 A20.out).mono ?_); (case side1 => repeat (first | exact (Kd.R_reads' HO_5.out).2.2 | (with_reducible refine Kd.C_alloc ?_ _) | (with_reducible refine Kd.C_drewN ?_ _) | (with_reducible refine Kd.C_drew ?_))); (case side2 => exact (Kd.R_reads' HO_5.out).2.1); rintro e w' ⟨rfl, ⟨nd, rfl⟩⟩; (try first | exact ⟨rfl, _, World.drewN_drewN _ _ _⟩ | exact ⟨rfl, _, Eq.trans (World.drewN_drewN _ _ _) (congrArg (World.drewN _) (Nat.add_assoc _ _ _))⟩); have p430 : 0 ≤ (x12_2 : Int) := of_decide_eq_true (by first | (with_reducible assumption) | assumption); have q430 : x12_2 < (t425.length : Int) := of_decide_eq_true (by first | (with_reducible assumption) | assumption); obtain ⟨ad430, e430, hx430_0⟩ := Kd.at_string (Kd.R_reads' HO_11.out).2.2 x12_2 p430 q430; obtain rfl : ad428 = ad430 := (by injection e430); replace p430 := eq_true p430; replace q430 := eq_true q430) | (go_at_call 19; (with_reducible refine (scholiastlaw13_place.calls k2 _ _ t412 (rdOf ByteArray.empty t425 x12_2) t431 _ ?side1 ?side2 A21.out).mono ?_); (case side1 => repeat (first | exact (Kd.R_reads' HO_6.out).2.2 | (with_reducible refine Kd.C_alloc ?_ _) | (with_reducible refine Kd.C_drewN ?_ _) | (with_reducible refine Kd.C_drew ?_))); (case side2 => exact (Kd.R_reads' HO_6.out).2.1); rintro e w' ⟨rfl, ⟨nd, rfl⟩⟩; (try first | exact ⟨rfl, _, World.drewN_drewN _ _ _⟩ | exact ⟨rfl, _, Eq.trans (World.drewN_drewN _ _ _) (congrArg (World.drewN _) (Nat.add_assoc _ _ _))⟩))))
                      go_roundg k2
                      case measure => have := HJ6.out; have := HK2.out; omega
                      case rel => exact ⟨(wrap64 (x12_2 + 1)), (by first | rfl | (simp; done) | (simp [*]; done)), H', ⟨by have := HJ6.out; have := HK2.out; omega⟩, ⟨by (with_reducible repeat (first | apply Kd.R_alloc | apply Kd.R_drewN | apply Kd.R_drew)); exact HO_5.out⟩, ⟨by (with_reducible repeat (first | apply Kd.R_alloc | apply Kd.R_drewN | apply Kd.R_drew)); exact HO_6.out⟩, ⟨by (with_reducible repeat (first | apply Kd.R_alloc | apply Kd.R_drewN | apply Kd.R_drew)); exact HO_11.out⟩, ⟨by repeat (first | (with_reducible first | exact HB.out | apply below_alloc | apply pw_below_drewN | apply below_drew1) | exact HB.out)⟩⟩
                  · rw [if_neg c19] at H
                    exact absurd H (by simp)
                · rw [if_neg c18] at H
                  have c18b0 : decide (x12_2 < (t425.length : Int)) = false := decide_eq_false c18
                  clear c18
                  have H' := Aside0.mk H
                  clear H
                  go_wp2
                  repeat (go_quiet (fail); try go_wp2)
                  go_loopg [13] k2 (fun kq v13 w' => ∃ (x13_3 : Int), v13 = .int .i64 x13_3 ∧ Aside0 (scholiastlaw13_ImportsStand.l1 kq l0 l1 t411 t412 t425 x13_3 = some r) ∧ Aside0 (kq ≤ k2) ∧ Aside0 (Kd.R Kd.string 9 w' w.heap.size (fun k_ => some k_ ≠ ((.slice Ao16 t412.length co16) : Value).ownBlock ∧ some k_ ≠ ((.slice Ao17 t425.length co17) : Value).ownBlock) (.slice Ao15 t411.length co15) t411) ∧ Aside0 (Kd.R Kd.string 9 w' w.heap.size (fun k_ => some k_ ≠ ((.slice Ao15 t411.length co15) : Value).ownBlock ∧ some k_ ≠ ((.slice Ao17 t425.length co17) : Value).ownBlock) (.slice Ao16 t412.length co16) t412) ∧ Aside0 (Kd.R Kd.string 9 w' w.heap.size (fun k_ => some k_ ≠ ((.slice Ao15 t411.length co15) : Value).ownBlock ∧ some k_ ≠ ((.slice Ao16 t412.length co16) : Value).ownBlock) (.slice Ao17 t425.length co17) t425) ∧ Aside0 (Below w.heap.size w w'))
                  case atStart => exact ⟨(0), (by first | rfl | (simp; done) | (simp [*]; done)), H', ⟨Nat.le_refl _⟩, ⟨by (with_reducible repeat (first | apply Kd.R_alloc | apply Kd.R_drewN | apply Kd.R_drew)); exact HO_5.out⟩, ⟨by (with_reducible repeat (first | apply Kd.R_alloc | apply Kd.R_drewN | apply Kd.R_drew)); exact HO_6.out⟩, ⟨by (with_reducible repeat (first | apply Kd.R_alloc | apply Kd.R_drewN | apply Kd.R_drew)); exact HO_11.out⟩, ⟨by repeat (first | (with_reducible first | exact HB.out | apply below_alloc | apply pw_below_drewN | apply below_drew1) | exact HB.out)⟩⟩
                  case round =>
                    clear H'
                    try clear c1
                    try clear c2
                    try clear p2
                    try clear c4
                    try clear p4
                    try clear q4
                    try clear hx4
                    try clear p6
                    try clear c7
                    try clear c10
                    try clear c10b0
                    try clear c10b1
                    try clear c11
                    try clear c13
                    try clear c13b0
                    try clear c13b1
                    try clear c18
                    try clear c18b0
                    try clear c19
                    try clear c19b0
                    try clear c22
                    try clear c22b0
                    try clear c22b1
                    try clear c22b2
                    try clear hx428_0
                    try clear hx430_0
                    try clear p2
                    try clear p428
                    try clear p430
                    try clear p6
                    try clear q428
                    try clear q430
                    obtain ⟨x13_3, rfl, HA, HK3, HO_5, HO_6, HO_11, HB⟩ := hrel
                    cases gk with
                    | zero => exact absurd HA.out (by simp [scholiastlaw13_ImportsStand.l1])
                    | succ k3 =>
                      have H := HA.out
                      clear HA
                      simp only [scholiastlaw13_ImportsStand.l1] at H
                      by_cases c23 : x13_3 < (l0.length : Int)
                      · rw [if_pos c23] at H
                        have c23b0 : decide (x13_3 < (l0.length : Int)) = true := decide_eq_true c23
                        clear c23
                        by_cases c24 : 0 ≤ x13_3
                        · rw [if_pos c24] at H
                          have c24b0 : decide (0 ≤ x13_3) = true := decide_eq_true c24
                          clear c24
                          replace H := Option.bind_eq_some_iff.mp H
                          obtain ⟨⟨t433, t434, t435⟩, A250, H⟩ := H
                          replace H : ((scholiastlaw13_place.f k3 t411 t433).bind fun t436 => (scholiastlaw13_ImportsStand.l2 k3 l0 l1 t411 t412 t425 x13_3 t436 0)) = some r := H
                          have A25 := Aside0.mk A250
                          clear A250
                          replace H := Option.bind_eq_some_iff.mp H
                          obtain ⟨t436, A260, H⟩ := H
                          replace H : (scholiastlaw13_ImportsStand.l2 k3 l0 l1 t411 t412 t425 x13_3 t436 0) = some r := H
                          have A26 := Aside0.mk A260
                          clear A260
                          have H' := Aside0.mk H
                          clear H
                          have p432 : 0 ≤ (x13_3 : Int) := of_decide_eq_true (by first | (with_reducible assumption) | assumption)
                          have q432 : x13_3 < (l0.length : Int) := of_decide_eq_true (by first | (with_reducible assumption) | assumption)
                          obtain ⟨ad432, e432, hx432_0⟩ := Kd.at_string HR0.out x13_3 p432 q432
                          cases e432
                          replace hx432_0 := (HB.out.cell (World.block_lt_of_cell? w _ hx432_0)).trans hx432_0
                          replace p432 := eq_true p432
                          replace q432 := eq_true q432
                          go_wp2_with (first | (go_at_call 8; (with_reducible refine (imports_Split.calls k3 (rdOf ByteArray.empty l0 x13_3) t433 t434 t435 _ A25.out).mono ?_); rintro e w27 ⟨rfl, hb⟩; have n0_ := Aside0.mk (Kd.R_below (by (with_reducible repeat (first | apply Kd.R_alloc | apply Kd.R_drewN | apply Kd.R_drew)); exact HO_5.out) hb); have n1_ := Aside0.mk (Kd.R_below (by (with_reducible repeat (first | apply Kd.R_alloc | apply Kd.R_drewN | apply Kd.R_drew)); exact HO_6.out) hb); have n2_ := Aside0.mk (Kd.R_below (by (with_reducible repeat (first | apply Kd.R_alloc | apply Kd.R_drewN | apply Kd.R_drew)); exact HO_11.out) hb); have n3_ := Aside0.mk (below_step (by repeat (first | (with_reducible first | exact HB.out | apply below_alloc | apply pw_below_drewN | apply below_drew1) | exact HB.out)) hb); clear HO_5; clear HO_6; clear HO_11; clear HB; have HO_5 := n0_; have HO_6 := n1_; have HO_11 := n2_; have HB := n3_; clear n0_ n1_ n2_ n3_; (try clear hb); (try clear hb2); (try clear hk); (try clear hi)) | (go_at_call 19; (with_reducible refine (scholiastlaw13_place.calls k3 _ _ t411 t433 t436 _ ?side1 ?side2 A26.out).mono ?_); (case side1 => repeat (first | exact (Kd.R_reads' HO_5.out).2.2 | (with_reducible refine Kd.C_alloc ?_ _) | (with_reducible refine Kd.C_drewN ?_ _) | (with_reducible refine Kd.C_drew ?_))); (case side2 => exact (Kd.R_reads' HO_5.out).2.1); rintro e w' ⟨rfl, ⟨nd, rfl⟩⟩; (try first | exact ⟨rfl, _, World.drewN_drewN _ _ _⟩ | exact ⟨rfl, _, Eq.trans (World.drewN_drewN _ _ _) (congrArg (World.drewN _) (Nat.add_assoc _ _ _))⟩)))
                          repeat (go_quiet (first | (go_at_call 8; (with_reducible refine (imports_Split.calls k3 (rdOf ByteArray.empty l0 x13_3) t433 t434 t435 _ A25.out).mono ?_); rintro e w27 ⟨rfl, hb⟩; have n0_ := Aside0.mk (Kd.R_below (by (with_reducible repeat (first | apply Kd.R_alloc | apply Kd.R_drewN | apply Kd.R_drew)); exact HO_5.out) hb); have n1_ := Aside0.mk (Kd.R_below (by (with_reducible repeat (first | apply Kd.R_alloc | apply Kd.R_drewN | apply Kd.R_drew)); exact HO_6.out) hb); have n2_ := Aside0.mk (Kd.R_below (by (with_reducible repeat (first | apply Kd.R_alloc | apply Kd.R_drewN | apply Kd.R_drew)); exact HO_11.out) hb); have n3_ := Aside0.mk (below_step (by repeat (first | (with_reducible first | exact HB.out | apply below_alloc | apply pw_below_drewN | apply below_drew1) | exact HB.out)) hb); clear HO_5; clear HO_6; clear HO_11; clear HB; have HO_5 := n0_; have HO_6 := n1_; have HO_11 := n2_; have HB := n3_; clear n0_ n1_ n2_ n3_; (try clear hb); (try clear hb2); (try clear hk); (try clear hi)) | (go_at_call 19; (with_reducible refine (scholiastlaw13_place.calls k3 _ _ t411 t433 t436 _ ?side1 ?side2 A26.out).mono ?_); (case side1 => repeat (first | exact (Kd.R_reads' HO_5.out).2.2 | (with_reducible refine Kd.C_alloc ?_ _) | (with_reducible refine Kd.C_drewN ?_ _) | (with_reducible refine Kd.C_drew ?_))); (case side2 => exact (Kd.R_reads' HO_5.out).2.1); rintro e w' ⟨rfl, ⟨nd, rfl⟩⟩; (try first | exact ⟨rfl, _, World.drewN_drewN _ _ _⟩ | exact ⟨rfl, _, Eq.trans (World.drewN_drewN _ _ _) (congrArg (World.drewN _) (Nat.add_assoc _ _ _))⟩))); try go_wp2_with (first | (go_at_call 8; (with_reducible refine (imports_Split.calls k3 (rdOf ByteArray.empty l0 x13_3) t433 t434 t435 _ A25.out).mono ?_); rintro e w27 ⟨rfl, hb⟩; have n0_ := Aside0.mk (Kd.R_below (by (with_reducible repeat (first | apply Kd.R_alloc | apply Kd.R_drewN | apply Kd.R_drew)); exact HO_5.out) hb); have n1_ := Aside0.mk (Kd.R_below (by (with_reducible repeat (first | apply Kd.R_alloc | apply Kd.R_drewN | apply Kd.R_drew)); exact HO_6.out) hb); have n2_ := Aside0.mk (Kd.R_below (by (with_reducible repeat (first | apply Kd.R_alloc | apply Kd.R_drewN | apply Kd.R_drew)); exact HO_11.out) hb); have n3_ := Aside0.mk (below_step (by repeat (first | (with_reducible first | exact HB.out | apply below_alloc | apply pw_below_drewN | apply below_drew1) | exact HB.out)) hb); clear HO_5; clear HO_6; clear HO_11; clear HB; have HO_5 := n0_; have HO_6 := n1_; have HO_11 := n2_; have HB := n3_; clear n0_ n1_ n2_ n3_; (try clear hb); (try clear hb2); (try clear hk); (try clear hi)) | (go_at_call 19; (with_reducible refine (scholiastlaw13_place.calls k3 _ _ t411 t433 t436 _ ?side1 ?side2 A26.out).mono ?_); (case side1 => repeat (first | exact (Kd.R_reads' HO_5.out).2.2 | (with_reducible refine Kd.C_alloc ?_ _) | (with_reducible refine Kd.C_drewN ?_ _) | (with_reducible refine Kd.C_drew ?_))); (case side2 => exact (Kd.R_reads' HO_5.out).2.1); rintro e w' ⟨rfl, ⟨nd, rfl⟩⟩; (try first | exact ⟨rfl, _, World.drewN_drewN _ _ _⟩ | exact ⟨rfl, _, Eq.trans (World.drewN_drewN _ _ _) (congrArg (World.drewN _) (Nat.add_assoc _ _ _))⟩))))
                          go_loopg [18] k3 (fun kq v18 w' => ∃ (x18_4 : Int), v18 = .int .i64 x18_4 ∧ Aside0 (scholiastlaw13_ImportsStand.l2 kq l0 l1 t411 t412 t425 x13_3 t436 x18_4 = some r) ∧ Aside0 (kq ≤ k3) ∧ Aside0 (Kd.R Kd.string 9 w' w.heap.size (fun k_ => some k_ ≠ ((.slice Ao16 t412.length co16) : Value).ownBlock ∧ some k_ ≠ ((.slice Ao17 t425.length co17) : Value).ownBlock) (.slice Ao15 t411.length co15) t411) ∧ Aside0 (Kd.R Kd.string 9 w' w.heap.size (fun k_ => some k_ ≠ ((.slice Ao15 t411.length co15) : Value).ownBlock ∧ some k_ ≠ ((.slice Ao17 t425.length co17) : Value).ownBlock) (.slice Ao16 t412.length co16) t412) ∧ Aside0 (Kd.R Kd.string 9 w' w.heap.size (fun k_ => some k_ ≠ ((.slice Ao15 t411.length co15) : Value).ownBlock ∧ some k_ ≠ ((.slice Ao16 t412.length co16) : Value).ownBlock) (.slice Ao17 t425.length co17) t425) ∧ Aside0 (Below w.heap.size w w'))
                          case atStart => exact ⟨(0), (by first | rfl | (simp; done) | (simp [*]; done)), H', ⟨Nat.le_refl _⟩, ⟨by (with_reducible repeat (first | apply Kd.R_alloc | apply Kd.R_drewN | apply Kd.R_drew)); exact HO_5.out⟩, ⟨by (with_reducible repeat (first | apply Kd.R_alloc | apply Kd.R_drewN | apply Kd.R_drew)); exact HO_6.out⟩, ⟨by (with_reducible repeat (first | apply Kd.R_alloc | apply Kd.R_drewN | apply Kd.R_drew)); exact HO_11.out⟩, ⟨by repeat (first | (with_reducible first | exact HB.out | apply below_alloc | apply pw_below_drewN | apply below_drew1) | exact HB.out)⟩⟩
                          case round =>
                            clear H'
                            try clear c1
                            try clear c2
                            try clear p2
                            try clear c4
                            try clear p4
                            try clear q4
                            try clear hx4
                            try clear p6
                            try clear c7
                            try clear c10
                            try clear c10b0
                            try clear c10b1
                            try clear c11
                            try clear c13
                            try clear c13b0
                            try clear c13b1
                            try clear c18
                            try clear c18b0
                            try clear c19
                            try clear c19b0
                            try clear c22
                            try clear c22b0
                            try clear c22b1
                            try clear c22b2
                            try clear c23
                            try clear c23b0
                            try clear c24
                            try clear c24b0
                            try clear hx428_0
                            try clear hx430_0
                            try clear hx432_0
                            try clear p2
                            try clear p4
                            try clear p428
                            try clear p430
                            try clear p432
                            try clear p6
                            try clear q4
                            try clear q428
                            try clear q430
                            try clear q432
                            obtain ⟨x18_4, rfl, HA, HK4, HO_5, HO_6, HO_11, HB⟩ := hrel
                            cases gk with
                            | zero => exact absurd HA.out (by simp [scholiastlaw13_ImportsStand.l2])
                            | succ k4 =>
                              have H := HA.out
                              clear HA
                              simp only [scholiastlaw13_ImportsStand.l2] at H
                              have HC28 := Aside0.mk H
                              clear H
                              go_upto_region 21 with (fail)
                              repeat (go_quiet (fail); go_upto_region 21 with (fail))
                              go_cut [112] (fun v112 wc => ∃ (kq : Nat) (x112_27 : Bool), v112 = .bool x112_27 ∧ Aside0 (scholiastlaw13_ImportsStand.j4 kq l0 l1 t411 t412 t425 x13_3 t436 x18_4 x112_27 = some r) ∧ Aside0 (kq ≤ k4) ∧ Aside0 (Kd.R Kd.string 9 wc w.heap.size (fun k_ => some k_ ≠ ((.slice Ao16 t412.length co16) : Value).ownBlock ∧ some k_ ≠ ((.slice Ao17 t425.length co17) : Value).ownBlock) (.slice Ao15 t411.length co15) t411) ∧ Aside0 (Kd.R Kd.string 9 wc w.heap.size (fun k_ => some k_ ≠ ((.slice Ao15 t411.length co15) : Value).ownBlock ∧ some k_ ≠ ((.slice Ao17 t425.length co17) : Value).ownBlock) (.slice Ao16 t412.length co16) t412) ∧ Aside0 (Kd.R Kd.string 9 wc w.heap.size (fun k_ => some k_ ≠ ((.slice Ao15 t411.length co15) : Value).ownBlock ∧ some k_ ≠ ((.slice Ao16 t412.length co16) : Value).ownBlock) (.slice Ao17 t425.length co17) t425) ∧ Aside0 (Below w.heap.size w wc))
                              case first =>
                                have H := HC28.out
                                clear HC28
                                by_cases c29 : 0 ≤ x13_3
                                · rw [if_pos c29] at H
                                  have c29b0 : decide (0 ≤ x13_3) = true := decide_eq_true c29
                                  clear c29
                                  (first | rw [c29b0] | (simp only [i64_w, i32_w]; rw [c29b0]) | rw [c29b1] | skip)
                                  by_cases c30 : x13_3 < (l1.length : Int)
                                  · rw [if_pos c30] at H
                                    have c30b0 : decide (x13_3 < (l1.length : Int)) = true := decide_eq_true c30
                                    clear c30
                                    by_cases c31 : x18_4 < (((rd_T46 l1 x13_3).f1).length : Int)
                                    · rw [if_pos c31] at H
                                      have c31b0 : decide (x18_4 < (((rd_T46 l1 x13_3).f1).length : Int)) = true := decide_eq_true c31
                                      clear c31
                                      have H' := Aside0.mk H
                                      clear H
                                      have p437 : 0 ≤ (x13_3 : Int) := of_decide_eq_true (by first | (with_reducible assumption) | assumption)
                                      have q437 : x13_3 < (l1.length : Int) := of_decide_eq_true (by first | (with_reducible assumption) | assumption)
                                      obtain ⟨ad437, A437_3, c437_3, A437_4, c437_4, e437, hx437_0, hx437_1, hx437_2, hx437_3, hx437_4, hl437_3, hi437_3, hl437_4, hi437_4⟩ := at_T46 HR1.out x13_3 p437 q437
                                      cases e437
                                      replace hx437_0 := (HB.out.cell (World.block_lt_of_cell? w _ hx437_0)).trans hx437_0
                                      replace hx437_1 := (HB.out.cell (World.block_lt_of_cell? w _ hx437_1)).trans hx437_1
                                      replace hx437_2 := (HB.out.cell (World.block_lt_of_cell? w _ hx437_2)).trans hx437_2
                                      replace hx437_3 := (HB.out.cell (World.block_lt_of_cell? w _ hx437_3)).trans hx437_3
                                      replace hx437_4 := (HB.out.cell (World.block_lt_of_cell? w _ hx437_4)).trans hx437_4
                                      have HR437_3 := Aside0.mk hi437_3
                                      have HC437_3 := Aside0.mk hl437_3
                                      clear hi437_3 hl437_3
                                      have HR437_4 := Aside0.mk hi437_4
                                      have HC437_4 := Aside0.mk hl437_4
                                      clear hi437_4 hl437_4
                                      replace p437 := eq_true p437
                                      replace q437 := eq_true q437
                                      go_wp2
                                      repeat (go_quiet (fail); try go_wp2)
                                      go_meet
                                      case rel => exact ⟨_, (decide (t436 ≥ 0)), (by first | rfl | (simp; done) | (simp [*]; done)), H', ⟨by have := HJ6.out; have := HK2.out; have := HK3.out; have := HK4.out; first | omega | exact Nat.le_refl _⟩, ⟨by (with_reducible repeat (first | apply Kd.R_alloc | apply Kd.R_drewN | apply Kd.R_drew)); exact HO_5.out⟩, ⟨by (with_reducible repeat (first | apply Kd.R_alloc | apply Kd.R_drewN | apply Kd.R_drew)); exact HO_6.out⟩, ⟨by (with_reducible repeat (first | apply Kd.R_alloc | apply Kd.R_drewN | apply Kd.R_drew)); exact HO_11.out⟩, ⟨by repeat (first | (with_reducible first | exact HB.out | apply below_alloc | apply pw_below_drewN | apply below_drew1) | exact HB.out)⟩⟩
                                    · rw [if_neg c31] at H
                                      have c31b0 : decide (x18_4 < (((rd_T46 l1 x13_3).f1).length : Int)) = false := decide_eq_false c31
                                      clear c31
                                      have H' := Aside0.mk H
                                      clear H
                                      have p437 : 0 ≤ (x13_3 : Int) := of_decide_eq_true (by first | (with_reducible assumption) | assumption)
                                      have q437 : x13_3 < (l1.length : Int) := of_decide_eq_true (by first | (with_reducible assumption) | assumption)
                                      obtain ⟨ad437, A437_3, c437_3, A437_4, c437_4, e437, hx437_0, hx437_1, hx437_2, hx437_3, hx437_4, hl437_3, hi437_3, hl437_4, hi437_4⟩ := at_T46 HR1.out x13_3 p437 q437
                                      cases e437
                                      replace hx437_0 := (HB.out.cell (World.block_lt_of_cell? w _ hx437_0)).trans hx437_0
                                      replace hx437_1 := (HB.out.cell (World.block_lt_of_cell? w _ hx437_1)).trans hx437_1
                                      replace hx437_2 := (HB.out.cell (World.block_lt_of_cell? w _ hx437_2)).trans hx437_2
                                      replace hx437_3 := (HB.out.cell (World.block_lt_of_cell? w _ hx437_3)).trans hx437_3
                                      replace hx437_4 := (HB.out.cell (World.block_lt_of_cell? w _ hx437_4)).trans hx437_4
                                      have HR437_3 := Aside0.mk hi437_3
                                      have HC437_3 := Aside0.mk hl437_3
                                      clear hi437_3 hl437_3
                                      have HR437_4 := Aside0.mk hi437_4
                                      have HC437_4 := Aside0.mk hl437_4
                                      clear hi437_4 hl437_4
                                      replace p437 := eq_true p437
                                      replace q437 := eq_true q437
                                      go_wp2
                                      repeat (go_quiet (fail); try go_wp2)
                                      go_meet
                                      case rel => exact ⟨_, (false), (by first | rfl | (simp; done) | (simp [*]; done)), H', ⟨by have := HJ6.out; have := HK2.out; have := HK3.out; have := HK4.out; first | omega | exact Nat.le_refl _⟩, ⟨by (with_reducible repeat (first | apply Kd.R_alloc | apply Kd.R_drewN | apply Kd.R_drew)); exact HO_5.out⟩, ⟨by (with_reducible repeat (first | apply Kd.R_alloc | apply Kd.R_drewN | apply Kd.R_drew)); exact HO_6.out⟩, ⟨by (with_reducible repeat (first | apply Kd.R_alloc | apply Kd.R_drewN | apply Kd.R_drew)); exact HO_11.out⟩, ⟨by repeat (first | (with_reducible first | exact HB.out | apply below_alloc | apply pw_below_drewN | apply below_drew1) | exact HB.out)⟩⟩
                                  · rw [if_neg c30] at H
                                    exact absurd H (by simp)
                                · rw [if_neg c29] at H
                                  exact absurd H (by simp)
                              case rest =>
                                clear HC28
                                try clear c1
                                try clear c2
                                try clear p2
                                try clear c3
                                try clear c4
                                try clear p4
                                try clear q4
                                try clear hx4
                                try clear p6
                                try clear c7
                                try clear c10
                                try clear c10b0
                                try clear c10b1
                                try clear c11
                                try clear c13
                                try clear c13b0
                                try clear c13b1
                                try clear c18
                                try clear c18b0
                                try clear c19
                                try clear c19b0
                                try clear c22
                                try clear c22b0
                                try clear c22b1
                                try clear c22b2
                                try clear c23
                                try clear c23b0
                                try clear c24
                                try clear c24b0
                                try clear c29
                                try clear c29b0
                                try clear c29b1
                                try clear c30
                                try clear c30b0
                                try clear c31
                                try clear c31b0
                                try clear hx428_0
                                try clear hx430_0
                                try clear hx432_0
                                try clear hx437_0
                                try clear hx437_1
                                try clear hx437_2
                                try clear hx437_3
                                try clear hx437_4
                                try clear p2
                                try clear p4
                                try clear p428
                                try clear p430
                                try clear p432
                                try clear p437
                                try clear p6
                                try clear q4
                                try clear q428
                                try clear q430
                                try clear q432
                                try clear q437
                                obtain ⟨kq, x112_27, rfl, HA, HJ27, HO_5, HO_6, HO_11, HB⟩ := hcut
                                cases kq with
                                | zero => exact absurd HA.out (by simp [scholiastlaw13_ImportsStand.j4])
                                | succ kj27 =>
                                  have H := HA.out
                                  clear HA
                                  simp only [scholiastlaw13_ImportsStand.j4] at H
                                  by_cases c32 : x112_27 = true
                                  · subst c32
                                    have H1 : (if 0 ≤ x13_3 then (if x13_3 < (l1.length : Int) then (if 0 ≤ x18_4 then (if x18_4 < (((rd_T46 l1 x13_3).f1).length : Int) then ((scholiastlaw13_place.f kj27 t425 ((rd_T48 ((rd_T46 l1 x13_3).f1) x18_4).f1)).bind fun t440 => (if t440 ≥ 0 then ((scholiastlaw13_place.f kj27 t411 ((rd_T48 ((rd_T46 l1 x13_3).f1) x18_4).f1)).bind fun t441 => (if t441 < 0 then (some false) else ((scholiastlaw13_place.f kj27 t411 ((rd_T48 ((rd_T46 l1 x13_3).f1) x18_4).f1)).bind fun t442 => (if t442 ≥ t436 then (some false) else (scholiastlaw13_ImportsStand.l2 kj27 l0 l1 t411 t412 t425 x13_3 t436 (wrap64 (x18_4 + 1))))))) else (scholiastlaw13_ImportsStand.l2 kj27 l0 l1 t411 t412 t425 x13_3 t436 (wrap64 (x18_4 + 1))))) else (none)) else (none)) else (none)) else (none)) = some r := by rw [if_pos rfl] at H; exact H
                                    clear H
                                    have H := H1
                                    clear H1
                                    by_cases c33 : 0 ≤ x13_3
                                    · rw [if_pos c33] at H
                                      have c33b0 : decide (0 ≤ x13_3) = true := decide_eq_true c33
                                      clear c33
                                      by_cases c34 : x13_3 < (l1.length : Int)
                                      · rw [if_pos c34] at H
                                        have c34b0 : decide (x13_3 < (l1.length : Int)) = true := decide_eq_true c34
                                        clear c34
                                        by_cases c35 : 0 ≤ x18_4
                                        · rw [if_pos c35] at H
                                          have c35b0 : decide (0 ≤ x18_4) = true := decide_eq_true c35
                                          clear c35
                                          by_cases c36 : x18_4 < (((rd_T46 l1 x13_3).f1).length : Int)
                                          · rw [if_pos c36] at H
                                            have c36b0 : decide (x18_4 < (((rd_T46 l1 x13_3).f1).length : Int)) = true := decide_eq_true c36
                                            clear c36
                                            replace H := Option.bind_eq_some_iff.mp H
                                            obtain ⟨t440, A370, H⟩ := H
                                            replace H : (if t440 ≥ 0 then ((scholiastlaw13_place.f kj27 t411 ((rd_T48 ((rd_T46 l1 x13_3).f1) x18_4).f1)).bind fun t441 => (if t441 < 0 then (some false) else ((scholiastlaw13_place.f kj27 t411 ((rd_T48 ((rd_T46 l1 x13_3).f1) x18_4).f1)).bind fun t442 => (if t442 ≥ t436 then (some false) else (scholiastlaw13_ImportsStand.l2 kj27 l0 l1 t411 t412 t425 x13_3 t436 (wrap64 (x18_4 + 1))))))) else (scholiastlaw13_ImportsStand.l2 kj27 l0 l1 t411 t412 t425 x13_3 t436 (wrap64 (x18_4 + 1)))) = some r := H
                                            have A37 := Aside0.mk A370
                                            clear A370
                                            by_cases c38 : t440 ≥ 0
                                            · rw [if_pos c38] at H
                                              have c38b0 : decide (0 ≤ t440) = true := decide_eq_true c38
                                              clear c38
                                              replace H := Option.bind_eq_some_iff.mp H
                                              obtain ⟨t441, A390, H⟩ := H
                                              replace H : (if t441 < 0 then (some false) else ((scholiastlaw13_place.f kj27 t411 ((rd_T48 ((rd_T46 l1 x13_3).f1) x18_4).f1)).bind fun t442 => (if t442 ≥ t436 then (some false) else (scholiastlaw13_ImportsStand.l2 kj27 l0 l1 t411 t412 t425 x13_3 t436 (wrap64 (x18_4 + 1)))))) = some r := H
                                              have A39 := Aside0.mk A390
                                              clear A390
                                              by_cases c40 : t441 < 0
                                              · rw [if_pos c40] at H
                                                have c40b0 : decide (t441 < 0) = true := decide_eq_true c40
                                                clear c40
                                                obtain rfl := Option.some.inj H
                                                have p438 : 0 ≤ (x13_3 : Int) := of_decide_eq_true (by first | (with_reducible assumption) | assumption)
                                                have q438 : x13_3 < (l1.length : Int) := of_decide_eq_true (by first | (with_reducible assumption) | assumption)
                                                obtain ⟨ad438, A438_3, c438_3, A438_4, c438_4, e438, hx438_0, hx438_1, hx438_2, hx438_3, hx438_4, hl438_3, hi438_3, hl438_4, hi438_4⟩ := at_T46 HR1.out x13_3 p438 q438
                                                cases e438
                                                replace hx438_0 := (HB.out.cell (World.block_lt_of_cell? w _ hx438_0)).trans hx438_0
                                                replace hx438_1 := (HB.out.cell (World.block_lt_of_cell? w _ hx438_1)).trans hx438_1
                                                replace hx438_2 := (HB.out.cell (World.block_lt_of_cell? w _ hx438_2)).trans hx438_2
                                                replace hx438_3 := (HB.out.cell (World.block_lt_of_cell? w _ hx438_3)).trans hx438_3
                                                replace hx438_4 := (HB.out.cell (World.block_lt_of_cell? w _ hx438_4)).trans hx438_4
                                                have HR438_3 := Aside0.mk hi438_3
                                                have HC438_3 := Aside0.mk hl438_3
                                                clear hi438_3 hl438_3
                                                have HR438_4 := Aside0.mk hi438_4
                                                have HC438_4 := Aside0.mk hl438_4
                                                clear hi438_4 hl438_4
                                                replace p438 := eq_true p438
                                                replace q438 := eq_true q438
                                                have p439 : 0 ≤ (x18_4 : Int) := of_decide_eq_true (by first | (with_reducible assumption) | assumption)
                                                have q439 : x18_4 < (((rd_T46 l1 x13_3).f1).length : Int) := of_decide_eq_true (by first | (with_reducible assumption) | assumption)
                                                obtain ⟨ad439, e439, hx439_0, hx439_1, hx439_2, hx439_3⟩ := at_T48 HR438_3.out x18_4 p439 q439
                                                cases e439
                                                replace hx439_0 := (HB.out.cell (World.block_lt_of_cell? w _ hx439_0)).trans hx439_0
                                                replace hx439_1 := (HB.out.cell (World.block_lt_of_cell? w _ hx439_1)).trans hx439_1
                                                replace hx439_2 := (HB.out.cell (World.block_lt_of_cell? w _ hx439_2)).trans hx439_2
                                                replace hx439_3 := (HB.out.cell (World.block_lt_of_cell? w _ hx439_3)).trans hx439_3
                                                replace p439 := eq_true p439
                                                replace q439 := eq_true q439
                                                go_wp2_with (first | (go_at_call 19; (with_reducible refine (scholiastlaw13_place.calls kj27 _ _ t425 ((rd_T48 ((rd_T46 l1 x13_3).f1) x18_4).f1) t440 _ ?side1 ?side2 A37.out).mono ?_); (case side1 => repeat (first | exact (Kd.R_reads' HO_11.out).2.2 | (with_reducible refine Kd.C_alloc ?_ _) | (with_reducible refine Kd.C_drewN ?_ _) | (with_reducible refine Kd.C_drew ?_))); (case side2 => exact (Kd.R_reads' HO_11.out).2.1); rintro e w' ⟨rfl, ⟨nd, rfl⟩⟩; (try first | exact ⟨rfl, _, World.drewN_drewN _ _ _⟩ | exact ⟨rfl, _, Eq.trans (World.drewN_drewN _ _ _) (congrArg (World.drewN _) (Nat.add_assoc _ _ _))⟩)) | (go_at_call 19; (with_reducible refine (scholiastlaw13_place.calls kj27 _ _ t411 ((rd_T48 ((rd_T46 l1 x13_3).f1) x18_4).f1) t441 _ ?side1 ?side2 A39.out).mono ?_); (case side1 => repeat (first | exact (Kd.R_reads' HO_5.out).2.2 | (with_reducible refine Kd.C_alloc ?_ _) | (with_reducible refine Kd.C_drewN ?_ _) | (with_reducible refine Kd.C_drew ?_))); (case side2 => exact (Kd.R_reads' HO_5.out).2.1); rintro e w' ⟨rfl, ⟨nd, rfl⟩⟩; (try first | exact ⟨rfl, _, World.drewN_drewN _ _ _⟩ | exact ⟨rfl, _, Eq.trans (World.drewN_drewN _ _ _) (congrArg (World.drewN _) (Nat.add_assoc _ _ _))⟩)))
                                                repeat (go_quiet (first | (go_at_call 19; (with_reducible refine (scholiastlaw13_place.calls kj27 _ _ t425 ((rd_T48 ((rd_T46 l1 x13_3).f1) x18_4).f1) t440 _ ?side1 ?side2 A37.out).mono ?_); (case side1 => repeat (first | exact (Kd.R_reads' HO_11.out).2.2 | (with_reducible refine Kd.C_alloc ?_ _) | (with_reducible refine Kd.C_drewN ?_ _) | (with_reducible refine Kd.C_drew ?_))); (case side2 => exact (Kd.R_reads' HO_11.out).2.1); rintro e w' ⟨rfl, ⟨nd, rfl⟩⟩; (try first | exact ⟨rfl, _, World.drewN_drewN _ _ _⟩ | exact ⟨rfl, _, Eq.trans (World.drewN_drewN _ _ _) (congrArg (World.drewN _) (Nat.add_assoc _ _ _))⟩)) | (go_at_call 19; (with_reducible refine (scholiastlaw13_place.calls kj27 _ _ t411 ((rd_T48 ((rd_T46 l1 x13_3).f1) x18_4).f1) t441 _ ?side1 ?side2 A39.out).mono ?_); (case side1 => repeat (first | exact (Kd.R_reads' HO_5.out).2.2 | (with_reducible refine Kd.C_alloc ?_ _) | (with_reducible refine Kd.C_drewN ?_ _) | (with_reducible refine Kd.C_drew ?_))); (case side2 => exact (Kd.R_reads' HO_5.out).2.1); rintro e w' ⟨rfl, ⟨nd, rfl⟩⟩; (try first | exact ⟨rfl, _, World.drewN_drewN _ _ _⟩ | exact ⟨rfl, _, Eq.trans (World.drewN_drewN _ _ _) (congrArg (World.drewN _) (Nat.add_assoc _ _ _))⟩))); try go_wp2_with (first | (go_at_call 19; (with_reducible refine (scholiastlaw13_place.calls kj27 _ _ t425 ((rd_T48 ((rd_T46 l1 x13_3).f1) x18_4).f1) t440 _ ?side1 ?side2 A37.out).mono ?_); (case side1 => repeat (first | exact (Kd.R_reads' HO_11.out).2.2 | (with_reducible refine Kd.C_alloc ?_ _) | (with_reducible refine Kd.C_drewN ?_ _) | (with_reducible refine Kd.C_drew ?_))); (case side2 => exact (Kd.R_reads' HO_11.out).2.1); rintro e w' ⟨rfl, ⟨nd, rfl⟩⟩; (try first | exact ⟨rfl, _, World.drewN_drewN _ _ _⟩ | exact ⟨rfl, _, Eq.trans (World.drewN_drewN _ _ _) (congrArg (World.drewN _) (Nat.add_assoc _ _ _))⟩)) | (go_at_call 19; (with_reducible refine (scholiastlaw13_place.calls kj27 _ _ t411 ((rd_T48 ((rd_T46 l1 x13_3).f1) x18_4).f1) t441 _ ?side1 ?side2 A39.out).mono ?_); (case side1 => repeat (first | exact (Kd.R_reads' HO_5.out).2.2 | (with_reducible refine Kd.C_alloc ?_ _) | (with_reducible refine Kd.C_drewN ?_ _) | (with_reducible refine Kd.C_drew ?_))); (case side2 => exact (Kd.R_reads' HO_5.out).2.1); rintro e w' ⟨rfl, ⟨nd, rfl⟩⟩; (try first | exact ⟨rfl, _, World.drewN_drewN _ _ _⟩ | exact ⟨rfl, _, Eq.trans (World.drewN_drewN _ _ _) (congrArg (World.drewN _) (Nat.add_assoc _ _ _))⟩))))
                                                go_ret
                                                exact ⟨by first | rfl | (simp [errW_none, errW_some] <;> rfl) | (simp [*, errW_none, errW_some] <;> rfl), by repeat (first | (with_reducible first | exact HB.out | apply below_alloc | apply pw_below_drewN | apply below_drew1) | exact HB.out)⟩
                                              · rw [if_neg c40] at H
                                                have c40b0 : decide (t441 < 0) = false := decide_eq_false c40
                                                clear c40
                                                replace H := Option.bind_eq_some_iff.mp H
                                                obtain ⟨t442, A410, H⟩ := H
                                                replace H : (if t442 ≥ t436 then (some false) else (scholiastlaw13_ImportsStand.l2 kj27 l0 l1 t411 t412 t425 x13_3 t436 (wrap64 (x18_4 + 1)))) = some r := H
                                                have A41 := Aside0.mk A410
                                                clear A410
                                                by_cases c42 : t442 ≥ t436
                                                · rw [if_pos c42] at H
                                                  have c42b0 : decide (t436 ≤ t442) = true := decide_eq_true c42
                                                  rw [Option.some.inj (A41.out.symm.trans A39.out)] at c42b0   -- mended by fix20
                                                  clear c42
                                                  obtain rfl := Option.some.inj H
                                                  have p438 : 0 ≤ (x13_3 : Int) := of_decide_eq_true (by first | (with_reducible assumption) | assumption)
                                                  have q438 : x13_3 < (l1.length : Int) := of_decide_eq_true (by first | (with_reducible assumption) | assumption)
                                                  obtain ⟨ad438, A438_3, c438_3, A438_4, c438_4, e438, hx438_0, hx438_1, hx438_2, hx438_3, hx438_4, hl438_3, hi438_3, hl438_4, hi438_4⟩ := at_T46 HR1.out x13_3 p438 q438
                                                  cases e438
                                                  replace hx438_0 := (HB.out.cell (World.block_lt_of_cell? w _ hx438_0)).trans hx438_0
                                                  replace hx438_1 := (HB.out.cell (World.block_lt_of_cell? w _ hx438_1)).trans hx438_1
                                                  replace hx438_2 := (HB.out.cell (World.block_lt_of_cell? w _ hx438_2)).trans hx438_2
                                                  replace hx438_3 := (HB.out.cell (World.block_lt_of_cell? w _ hx438_3)).trans hx438_3
                                                  replace hx438_4 := (HB.out.cell (World.block_lt_of_cell? w _ hx438_4)).trans hx438_4
                                                  have HR438_3 := Aside0.mk hi438_3
                                                  have HC438_3 := Aside0.mk hl438_3
                                                  clear hi438_3 hl438_3
                                                  have HR438_4 := Aside0.mk hi438_4
                                                  have HC438_4 := Aside0.mk hl438_4
                                                  clear hi438_4 hl438_4
                                                  replace p438 := eq_true p438
                                                  replace q438 := eq_true q438
                                                  have p439 : 0 ≤ (x18_4 : Int) := of_decide_eq_true (by first | (with_reducible assumption) | assumption)
                                                  have q439 : x18_4 < (((rd_T46 l1 x13_3).f1).length : Int) := of_decide_eq_true (by first | (with_reducible assumption) | assumption)
                                                  obtain ⟨ad439, e439, hx439_0, hx439_1, hx439_2, hx439_3⟩ := at_T48 HR438_3.out x18_4 p439 q439
                                                  cases e439
                                                  replace hx439_0 := (HB.out.cell (World.block_lt_of_cell? w _ hx439_0)).trans hx439_0
                                                  replace hx439_1 := (HB.out.cell (World.block_lt_of_cell? w _ hx439_1)).trans hx439_1
                                                  replace hx439_2 := (HB.out.cell (World.block_lt_of_cell? w _ hx439_2)).trans hx439_2
                                                  replace hx439_3 := (HB.out.cell (World.block_lt_of_cell? w _ hx439_3)).trans hx439_3
                                                  replace p439 := eq_true p439
                                                  replace q439 := eq_true q439
                                                  go_wp2_with (first | (go_at_call 19; (with_reducible refine (scholiastlaw13_place.calls kj27 _ _ t425 ((rd_T48 ((rd_T46 l1 x13_3).f1) x18_4).f1) t440 _ ?side1 ?side2 A37.out).mono ?_); (case side1 => repeat (first | exact (Kd.R_reads' HO_11.out).2.2 | (with_reducible refine Kd.C_alloc ?_ _) | (with_reducible refine Kd.C_drewN ?_ _) | (with_reducible refine Kd.C_drew ?_))); (case side2 => exact (Kd.R_reads' HO_11.out).2.1); rintro e w' ⟨rfl, ⟨nd, rfl⟩⟩; (try first | exact ⟨rfl, _, World.drewN_drewN _ _ _⟩ | exact ⟨rfl, _, Eq.trans (World.drewN_drewN _ _ _) (congrArg (World.drewN _) (Nat.add_assoc _ _ _))⟩)) | (go_at_call 19; (with_reducible refine (scholiastlaw13_place.calls kj27 _ _ t411 ((rd_T48 ((rd_T46 l1 x13_3).f1) x18_4).f1) t441 _ ?side1 ?side2 A39.out).mono ?_); (case side1 => repeat (first | exact (Kd.R_reads' HO_5.out).2.2 | (with_reducible refine Kd.C_alloc ?_ _) | (with_reducible refine Kd.C_drewN ?_ _) | (with_reducible refine Kd.C_drew ?_))); (case side2 => exact (Kd.R_reads' HO_5.out).2.1); rintro e w' ⟨rfl, ⟨nd, rfl⟩⟩; (try first | exact ⟨rfl, _, World.drewN_drewN _ _ _⟩ | exact ⟨rfl, _, Eq.trans (World.drewN_drewN _ _ _) (congrArg (World.drewN _) (Nat.add_assoc _ _ _))⟩)) | (go_at_call 19; (with_reducible refine (scholiastlaw13_place.calls kj27 _ _ t411 ((rd_T48 ((rd_T46 l1 x13_3).f1) x18_4).f1) t442 _ ?side1 ?side2 A41.out).mono ?_); (case side1 => repeat (first | exact (Kd.R_reads' HO_5.out).2.2 | (with_reducible refine Kd.C_alloc ?_ _) | (with_reducible refine Kd.C_drewN ?_ _) | (with_reducible refine Kd.C_drew ?_))); (case side2 => exact (Kd.R_reads' HO_5.out).2.1); rintro e w' ⟨rfl, ⟨nd, rfl⟩⟩; (try first | exact ⟨rfl, _, World.drewN_drewN _ _ _⟩ | exact ⟨rfl, _, Eq.trans (World.drewN_drewN _ _ _) (congrArg (World.drewN _) (Nat.add_assoc _ _ _))⟩)))
                                                  repeat (go_quiet (first | (go_at_call 19; (with_reducible refine (scholiastlaw13_place.calls kj27 _ _ t425 ((rd_T48 ((rd_T46 l1 x13_3).f1) x18_4).f1) t440 _ ?side1 ?side2 A37.out).mono ?_); (case side1 => repeat (first | exact (Kd.R_reads' HO_11.out).2.2 | (with_reducible refine Kd.C_alloc ?_ _) | (with_reducible refine Kd.C_drewN ?_ _) | (with_reducible refine Kd.C_drew ?_))); (case side2 => exact (Kd.R_reads' HO_11.out).2.1); rintro e w' ⟨rfl, ⟨nd, rfl⟩⟩; (try first | exact ⟨rfl, _, World.drewN_drewN _ _ _⟩ | exact ⟨rfl, _, Eq.trans (World.drewN_drewN _ _ _) (congrArg (World.drewN _) (Nat.add_assoc _ _ _))⟩)) | (go_at_call 19; (with_reducible refine (scholiastlaw13_place.calls kj27 _ _ t411 ((rd_T48 ((rd_T46 l1 x13_3).f1) x18_4).f1) t441 _ ?side1 ?side2 A39.out).mono ?_); (case side1 => repeat (first | exact (Kd.R_reads' HO_5.out).2.2 | (with_reducible refine Kd.C_alloc ?_ _) | (with_reducible refine Kd.C_drewN ?_ _) | (with_reducible refine Kd.C_drew ?_))); (case side2 => exact (Kd.R_reads' HO_5.out).2.1); rintro e w' ⟨rfl, ⟨nd, rfl⟩⟩; (try first | exact ⟨rfl, _, World.drewN_drewN _ _ _⟩ | exact ⟨rfl, _, Eq.trans (World.drewN_drewN _ _ _) (congrArg (World.drewN _) (Nat.add_assoc _ _ _))⟩)) | (go_at_call 19; (with_reducible refine (scholiastlaw13_place.calls kj27 _ _ t411 ((rd_T48 ((rd_T46 l1 x13_3).f1) x18_4).f1) t442 _ ?side1 ?side2 A41.out).mono ?_); (case side1 => repeat (first | exact (Kd.R_reads' HO_5.out).2.2 | (with_reducible refine Kd.C_alloc ?_ _) | (with_reducible refine Kd.C_drewN ?_ _) | (with_reducible refine Kd.C_drew ?_))); (case side2 => exact (Kd.R_reads' HO_5.out).2.1); rintro e w' ⟨rfl, ⟨nd, rfl⟩⟩; (try first | exact ⟨rfl, _, World.drewN_drewN _ _ _⟩ | exact ⟨rfl, _, Eq.trans (World.drewN_drewN _ _ _) (congrArg (World.drewN _) (Nat.add_assoc _ _ _))⟩))); try go_wp2_with (first | (go_at_call 19; (with_reducible refine (scholiastlaw13_place.calls kj27 _ _ t425 ((rd_T48 ((rd_T46 l1 x13_3).f1) x18_4).f1) t440 _ ?side1 ?side2 A37.out).mono ?_); (case side1 => repeat (first | exact (Kd.R_reads' HO_11.out).2.2 | (with_reducible refine Kd.C_alloc ?_ _) | (with_reducible refine Kd.C_drewN ?_ _) | (with_reducible refine Kd.C_drew ?_))); (case side2 => exact (Kd.R_reads' HO_11.out).2.1); rintro e w' ⟨rfl, ⟨nd, rfl⟩⟩; (try first | exact ⟨rfl, _, World.drewN_drewN _ _ _⟩ | exact ⟨rfl, _, Eq.trans (World.drewN_drewN _ _ _) (congrArg (World.drewN _) (Nat.add_assoc _ _ _))⟩)) | (go_at_call 19; (with_reducible refine (scholiastlaw13_place.calls kj27 _ _ t411 ((rd_T48 ((rd_T46 l1 x13_3).f1) x18_4).f1) t441 _ ?side1 ?side2 A39.out).mono ?_); (case side1 => repeat (first | exact (Kd.R_reads' HO_5.out).2.2 | (with_reducible refine Kd.C_alloc ?_ _) | (with_reducible refine Kd.C_drewN ?_ _) | (with_reducible refine Kd.C_drew ?_))); (case side2 => exact (Kd.R_reads' HO_5.out).2.1); rintro e w' ⟨rfl, ⟨nd, rfl⟩⟩; (try first | exact ⟨rfl, _, World.drewN_drewN _ _ _⟩ | exact ⟨rfl, _, Eq.trans (World.drewN_drewN _ _ _) (congrArg (World.drewN _) (Nat.add_assoc _ _ _))⟩)) | (go_at_call 19; (with_reducible refine (scholiastlaw13_place.calls kj27 _ _ t411 ((rd_T48 ((rd_T46 l1 x13_3).f1) x18_4).f1) t442 _ ?side1 ?side2 A41.out).mono ?_); (case side1 => repeat (first | exact (Kd.R_reads' HO_5.out).2.2 | (with_reducible refine Kd.C_alloc ?_ _) | (with_reducible refine Kd.C_drewN ?_ _) | (with_reducible refine Kd.C_drew ?_))); (case side2 => exact (Kd.R_reads' HO_5.out).2.1); rintro e w' ⟨rfl, ⟨nd, rfl⟩⟩; (try first | exact ⟨rfl, _, World.drewN_drewN _ _ _⟩ | exact ⟨rfl, _, Eq.trans (World.drewN_drewN _ _ _) (congrArg (World.drewN _) (Nat.add_assoc _ _ _))⟩))))
                                                  go_ret
                                                  exact ⟨by first | rfl | (simp [errW_none, errW_some] <;> rfl) | (simp [*, errW_none, errW_some] <;> rfl), by repeat (first | (with_reducible first | exact HB.out | apply below_alloc | apply pw_below_drewN | apply below_drew1) | exact HB.out)⟩
                                                · rw [if_neg c42] at H
                                                  have c42b0 : decide (t436 ≤ t442) = false := decide_eq_false c42
                                                  rw [Option.some.inj (A41.out.symm.trans A39.out)] at c42b0   -- mended by fix20
                                                  clear c42
                                                  have H' := Aside0.mk H
                                                  clear H
                                                  have p438 : 0 ≤ (x13_3 : Int) := of_decide_eq_true (by first | (with_reducible assumption) | assumption)
                                                  have q438 : x13_3 < (l1.length : Int) := of_decide_eq_true (by first | (with_reducible assumption) | assumption)
                                                  obtain ⟨ad438, A438_3, c438_3, A438_4, c438_4, e438, hx438_0, hx438_1, hx438_2, hx438_3, hx438_4, hl438_3, hi438_3, hl438_4, hi438_4⟩ := at_T46 HR1.out x13_3 p438 q438
                                                  cases e438
                                                  replace hx438_0 := (HB.out.cell (World.block_lt_of_cell? w _ hx438_0)).trans hx438_0
                                                  replace hx438_1 := (HB.out.cell (World.block_lt_of_cell? w _ hx438_1)).trans hx438_1
                                                  replace hx438_2 := (HB.out.cell (World.block_lt_of_cell? w _ hx438_2)).trans hx438_2
                                                  replace hx438_3 := (HB.out.cell (World.block_lt_of_cell? w _ hx438_3)).trans hx438_3
                                                  replace hx438_4 := (HB.out.cell (World.block_lt_of_cell? w _ hx438_4)).trans hx438_4
                                                  have HR438_3 := Aside0.mk hi438_3
                                                  have HC438_3 := Aside0.mk hl438_3
                                                  clear hi438_3 hl438_3
                                                  have HR438_4 := Aside0.mk hi438_4
                                                  have HC438_4 := Aside0.mk hl438_4
                                                  clear hi438_4 hl438_4
                                                  replace p438 := eq_true p438
                                                  replace q438 := eq_true q438
                                                  have p439 : 0 ≤ (x18_4 : Int) := of_decide_eq_true (by first | (with_reducible assumption) | assumption)
                                                  have q439 : x18_4 < (((rd_T46 l1 x13_3).f1).length : Int) := of_decide_eq_true (by first | (with_reducible assumption) | assumption)
                                                  obtain ⟨ad439, e439, hx439_0, hx439_1, hx439_2, hx439_3⟩ := at_T48 HR438_3.out x18_4 p439 q439
                                                  cases e439
                                                  replace hx439_0 := (HB.out.cell (World.block_lt_of_cell? w _ hx439_0)).trans hx439_0
                                                  replace hx439_1 := (HB.out.cell (World.block_lt_of_cell? w _ hx439_1)).trans hx439_1
                                                  replace hx439_2 := (HB.out.cell (World.block_lt_of_cell? w _ hx439_2)).trans hx439_2
                                                  replace hx439_3 := (HB.out.cell (World.block_lt_of_cell? w _ hx439_3)).trans hx439_3
                                                  replace p439 := eq_true p439
                                                  replace q439 := eq_true q439
                                                  go_wp2_with (first | (go_at_call 19; (with_reducible refine (scholiastlaw13_place.calls kj27 _ _ t425 ((rd_T48 ((rd_T46 l1 x13_3).f1) x18_4).f1) t440 _ ?side1 ?side2 A37.out).mono ?_); (case side1 => repeat (first | exact (Kd.R_reads' HO_11.out).2.2 | (with_reducible refine Kd.C_alloc ?_ _) | (with_reducible refine Kd.C_drewN ?_ _) | (with_reducible refine Kd.C_drew ?_))); (case side2 => exact (Kd.R_reads' HO_11.out).2.1); rintro e w' ⟨rfl, ⟨nd, rfl⟩⟩; (try first | exact ⟨rfl, _, World.drewN_drewN _ _ _⟩ | exact ⟨rfl, _, Eq.trans (World.drewN_drewN _ _ _) (congrArg (World.drewN _) (Nat.add_assoc _ _ _))⟩)) | (go_at_call 19; (with_reducible refine (scholiastlaw13_place.calls kj27 _ _ t411 ((rd_T48 ((rd_T46 l1 x13_3).f1) x18_4).f1) t441 _ ?side1 ?side2 A39.out).mono ?_); (case side1 => repeat (first | exact (Kd.R_reads' HO_5.out).2.2 | (with_reducible refine Kd.C_alloc ?_ _) | (with_reducible refine Kd.C_drewN ?_ _) | (with_reducible refine Kd.C_drew ?_))); (case side2 => exact (Kd.R_reads' HO_5.out).2.1); rintro e w' ⟨rfl, ⟨nd, rfl⟩⟩; (try first | exact ⟨rfl, _, World.drewN_drewN _ _ _⟩ | exact ⟨rfl, _, Eq.trans (World.drewN_drewN _ _ _) (congrArg (World.drewN _) (Nat.add_assoc _ _ _))⟩)) | (go_at_call 19; (with_reducible refine (scholiastlaw13_place.calls kj27 _ _ t411 ((rd_T48 ((rd_T46 l1 x13_3).f1) x18_4).f1) t442 _ ?side1 ?side2 A41.out).mono ?_); (case side1 => repeat (first | exact (Kd.R_reads' HO_5.out).2.2 | (with_reducible refine Kd.C_alloc ?_ _) | (with_reducible refine Kd.C_drewN ?_ _) | (with_reducible refine Kd.C_drew ?_))); (case side2 => exact (Kd.R_reads' HO_5.out).2.1); rintro e w' ⟨rfl, ⟨nd, rfl⟩⟩; (try first | exact ⟨rfl, _, World.drewN_drewN _ _ _⟩ | exact ⟨rfl, _, Eq.trans (World.drewN_drewN _ _ _) (congrArg (World.drewN _) (Nat.add_assoc _ _ _))⟩)))
                                                  repeat (go_quiet (first | (go_at_call 19; (with_reducible refine (scholiastlaw13_place.calls kj27 _ _ t425 ((rd_T48 ((rd_T46 l1 x13_3).f1) x18_4).f1) t440 _ ?side1 ?side2 A37.out).mono ?_); (case side1 => repeat (first | exact (Kd.R_reads' HO_11.out).2.2 | (with_reducible refine Kd.C_alloc ?_ _) | (with_reducible refine Kd.C_drewN ?_ _) | (with_reducible refine Kd.C_drew ?_))); (case side2 => exact (Kd.R_reads' HO_11.out).2.1); rintro e w' ⟨rfl, ⟨nd, rfl⟩⟩; (try first | exact ⟨rfl, _, World.drewN_drewN _ _ _⟩ | exact ⟨rfl, _, Eq.trans (World.drewN_drewN _ _ _) (congrArg (World.drewN _) (Nat.add_assoc _ _ _))⟩)) | (go_at_call 19; (with_reducible refine (scholiastlaw13_place.calls kj27 _ _ t411 ((rd_T48 ((rd_T46 l1 x13_3).f1) x18_4).f1) t441 _ ?side1 ?side2 A39.out).mono ?_); (case side1 => repeat (first | exact (Kd.R_reads' HO_5.out).2.2 | (with_reducible refine Kd.C_alloc ?_ _) | (with_reducible refine Kd.C_drewN ?_ _) | (with_reducible refine Kd.C_drew ?_))); (case side2 => exact (Kd.R_reads' HO_5.out).2.1); rintro e w' ⟨rfl, ⟨nd, rfl⟩⟩; (try first | exact ⟨rfl, _, World.drewN_drewN _ _ _⟩ | exact ⟨rfl, _, Eq.trans (World.drewN_drewN _ _ _) (congrArg (World.drewN _) (Nat.add_assoc _ _ _))⟩)) | (go_at_call 19; (with_reducible refine (scholiastlaw13_place.calls kj27 _ _ t411 ((rd_T48 ((rd_T46 l1 x13_3).f1) x18_4).f1) t442 _ ?side1 ?side2 A41.out).mono ?_); (case side1 => repeat (first | exact (Kd.R_reads' HO_5.out).2.2 | (with_reducible refine Kd.C_alloc ?_ _) | (with_reducible refine Kd.C_drewN ?_ _) | (with_reducible refine Kd.C_drew ?_))); (case side2 => exact (Kd.R_reads' HO_5.out).2.1); rintro e w' ⟨rfl, ⟨nd, rfl⟩⟩; (try first | exact ⟨rfl, _, World.drewN_drewN _ _ _⟩ | exact ⟨rfl, _, Eq.trans (World.drewN_drewN _ _ _) (congrArg (World.drewN _) (Nat.add_assoc _ _ _))⟩))); try go_wp2_with (first | (go_at_call 19; (with_reducible refine (scholiastlaw13_place.calls kj27 _ _ t425 ((rd_T48 ((rd_T46 l1 x13_3).f1) x18_4).f1) t440 _ ?side1 ?side2 A37.out).mono ?_); (case side1 => repeat (first | exact (Kd.R_reads' HO_11.out).2.2 | (with_reducible refine Kd.C_alloc ?_ _) | (with_reducible refine Kd.C_drewN ?_ _) | (with_reducible refine Kd.C_drew ?_))); (case side2 => exact (Kd.R_reads' HO_11.out).2.1); rintro e w' ⟨rfl, ⟨nd, rfl⟩⟩; (try first | exact ⟨rfl, _, World.drewN_drewN _ _ _⟩ | exact ⟨rfl, _, Eq.trans (World.drewN_drewN _ _ _) (congrArg (World.drewN _) (Nat.add_assoc _ _ _))⟩)) | (go_at_call 19; (with_reducible refine (scholiastlaw13_place.calls kj27 _ _ t411 ((rd_T48 ((rd_T46 l1 x13_3).f1) x18_4).f1) t441 _ ?side1 ?side2 A39.out).mono ?_); (case side1 => repeat (first | exact (Kd.R_reads' HO_5.out).2.2 | (with_reducible refine Kd.C_alloc ?_ _) | (with_reducible refine Kd.C_drewN ?_ _) | (with_reducible refine Kd.C_drew ?_))); (case side2 => exact (Kd.R_reads' HO_5.out).2.1); rintro e w' ⟨rfl, ⟨nd, rfl⟩⟩; (try first | exact ⟨rfl, _, World.drewN_drewN _ _ _⟩ | exact ⟨rfl, _, Eq.trans (World.drewN_drewN _ _ _) (congrArg (World.drewN _) (Nat.add_assoc _ _ _))⟩)) | (go_at_call 19; (with_reducible refine (scholiastlaw13_place.calls kj27 _ _ t411 ((rd_T48 ((rd_T46 l1 x13_3).f1) x18_4).f1) t442 _ ?side1 ?side2 A41.out).mono ?_); (case side1 => repeat (first | exact (Kd.R_reads' HO_5.out).2.2 | (with_reducible refine Kd.C_alloc ?_ _) | (with_reducible refine Kd.C_drewN ?_ _) | (with_reducible refine Kd.C_drew ?_))); (case side2 => exact (Kd.R_reads' HO_5.out).2.1); rintro e w' ⟨rfl, ⟨nd, rfl⟩⟩; (try first | exact ⟨rfl, _, World.drewN_drewN _ _ _⟩ | exact ⟨rfl, _, Eq.trans (World.drewN_drewN _ _ _) (congrArg (World.drewN _) (Nat.add_assoc _ _ _))⟩))))
                                                  go_roundg kj27
                                                  case measure => have := HJ6.out; have := HK2.out; have := HK3.out; have := HK4.out; have := HJ27.out; omega
                                                  case rel => exact ⟨(wrap64 (x18_4 + 1)), (by first | rfl | (simp; done) | (simp [*]; done)), H', ⟨by have := HJ6.out; have := HK2.out; have := HK3.out; have := HK4.out; have := HJ27.out; omega⟩, ⟨by (with_reducible repeat (first | apply Kd.R_alloc | apply Kd.R_drewN | apply Kd.R_drew)); exact HO_5.out⟩, ⟨by (with_reducible repeat (first | apply Kd.R_alloc | apply Kd.R_drewN | apply Kd.R_drew)); exact HO_6.out⟩, ⟨by (with_reducible repeat (first | apply Kd.R_alloc | apply Kd.R_drewN | apply Kd.R_drew)); exact HO_11.out⟩, ⟨by repeat (first | (with_reducible first | exact HB.out | apply below_alloc | apply pw_below_drewN | apply below_drew1) | exact HB.out)⟩⟩
                                            · rw [if_neg c38] at H
                                              have c38b0 : decide (0 ≤ t440) = false := decide_eq_false c38
                                              clear c38
                                              have H' := Aside0.mk H
                                              clear H
                                              have p438 : 0 ≤ (x13_3 : Int) := of_decide_eq_true (by first | (with_reducible assumption) | assumption)
                                              have q438 : x13_3 < (l1.length : Int) := of_decide_eq_true (by first | (with_reducible assumption) | assumption)
                                              obtain ⟨ad438, A438_3, c438_3, A438_4, c438_4, e438, hx438_0, hx438_1, hx438_2, hx438_3, hx438_4, hl438_3, hi438_3, hl438_4, hi438_4⟩ := at_T46 HR1.out x13_3 p438 q438
                                              cases e438
                                              replace hx438_0 := (HB.out.cell (World.block_lt_of_cell? w _ hx438_0)).trans hx438_0
                                              replace hx438_1 := (HB.out.cell (World.block_lt_of_cell? w _ hx438_1)).trans hx438_1
                                              replace hx438_2 := (HB.out.cell (World.block_lt_of_cell? w _ hx438_2)).trans hx438_2
                                              replace hx438_3 := (HB.out.cell (World.block_lt_of_cell? w _ hx438_3)).trans hx438_3
                                              replace hx438_4 := (HB.out.cell (World.block_lt_of_cell? w _ hx438_4)).trans hx438_4
                                              have HR438_3 := Aside0.mk hi438_3
                                              have HC438_3 := Aside0.mk hl438_3
                                              clear hi438_3 hl438_3
                                              have HR438_4 := Aside0.mk hi438_4
                                              have HC438_4 := Aside0.mk hl438_4
                                              clear hi438_4 hl438_4
                                              replace p438 := eq_true p438
                                              replace q438 := eq_true q438
                                              have p439 : 0 ≤ (x18_4 : Int) := of_decide_eq_true (by first | (with_reducible assumption) | assumption)
                                              have q439 : x18_4 < (((rd_T46 l1 x13_3).f1).length : Int) := of_decide_eq_true (by first | (with_reducible assumption) | assumption)
                                              obtain ⟨ad439, e439, hx439_0, hx439_1, hx439_2, hx439_3⟩ := at_T48 HR438_3.out x18_4 p439 q439
                                              cases e439
                                              replace hx439_0 := (HB.out.cell (World.block_lt_of_cell? w _ hx439_0)).trans hx439_0
                                              replace hx439_1 := (HB.out.cell (World.block_lt_of_cell? w _ hx439_1)).trans hx439_1
                                              replace hx439_2 := (HB.out.cell (World.block_lt_of_cell? w _ hx439_2)).trans hx439_2
                                              replace hx439_3 := (HB.out.cell (World.block_lt_of_cell? w _ hx439_3)).trans hx439_3
                                              replace p439 := eq_true p439
                                              replace q439 := eq_true q439
                                              go_wp2_with (first | (go_at_call 19; (with_reducible refine (scholiastlaw13_place.calls kj27 _ _ t425 ((rd_T48 ((rd_T46 l1 x13_3).f1) x18_4).f1) t440 _ ?side1 ?side2 A37.out).mono ?_); (case side1 => repeat (first | exact (Kd.R_reads' HO_11.out).2.2 | (with_reducible refine Kd.C_alloc ?_ _) | (with_reducible refine Kd.C_drewN ?_ _) | (with_reducible refine Kd.C_drew ?_))); (case side2 => exact (Kd.R_reads' HO_11.out).2.1); rintro e w' ⟨rfl, ⟨nd, rfl⟩⟩; (try first | exact ⟨rfl, _, World.drewN_drewN _ _ _⟩ | exact ⟨rfl, _, Eq.trans (World.drewN_drewN _ _ _) (congrArg (World.drewN _) (Nat.add_assoc _ _ _))⟩)))
                                              repeat (go_quiet (first | (go_at_call 19; (with_reducible refine (scholiastlaw13_place.calls kj27 _ _ t425 ((rd_T48 ((rd_T46 l1 x13_3).f1) x18_4).f1) t440 _ ?side1 ?side2 A37.out).mono ?_); (case side1 => repeat (first | exact (Kd.R_reads' HO_11.out).2.2 | (with_reducible refine Kd.C_alloc ?_ _) | (with_reducible refine Kd.C_drewN ?_ _) | (with_reducible refine Kd.C_drew ?_))); (case side2 => exact (Kd.R_reads' HO_11.out).2.1); rintro e w' ⟨rfl, ⟨nd, rfl⟩⟩; (try first | exact ⟨rfl, _, World.drewN_drewN _ _ _⟩ | exact ⟨rfl, _, Eq.trans (World.drewN_drewN _ _ _) (congrArg (World.drewN _) (Nat.add_assoc _ _ _))⟩))); try go_wp2_with (first | (go_at_call 19; (with_reducible refine (scholiastlaw13_place.calls kj27 _ _ t425 ((rd_T48 ((rd_T46 l1 x13_3).f1) x18_4).f1) t440 _ ?side1 ?side2 A37.out).mono ?_); (case side1 => repeat (first | exact (Kd.R_reads' HO_11.out).2.2 | (with_reducible refine Kd.C_alloc ?_ _) | (with_reducible refine Kd.C_drewN ?_ _) | (with_reducible refine Kd.C_drew ?_))); (case side2 => exact (Kd.R_reads' HO_11.out).2.1); rintro e w' ⟨rfl, ⟨nd, rfl⟩⟩; (try first | exact ⟨rfl, _, World.drewN_drewN _ _ _⟩ | exact ⟨rfl, _, Eq.trans (World.drewN_drewN _ _ _) (congrArg (World.drewN _) (Nat.add_assoc _ _ _))⟩))))
                                              go_roundg kj27
                                              case measure => have := HJ6.out; have := HK2.out; have := HK3.out; have := HK4.out; have := HJ27.out; omega
                                              case rel => exact ⟨(wrap64 (x18_4 + 1)), (by first | rfl | (simp; done) | (simp [*]; done)), H', ⟨by have := HJ6.out; have := HK2.out; have := HK3.out; have := HK4.out; have := HJ27.out; omega⟩, ⟨by (with_reducible repeat (first | apply Kd.R_alloc | apply Kd.R_drewN | apply Kd.R_drew)); exact HO_5.out⟩, ⟨by (with_reducible repeat (first | apply Kd.R_alloc | apply Kd.R_drewN | apply Kd.R_drew)); exact HO_6.out⟩, ⟨by (with_reducible repeat (first | apply Kd.R_alloc | apply Kd.R_drewN | apply Kd.R_drew)); exact HO_11.out⟩, ⟨by repeat (first | (with_reducible first | exact HB.out | apply below_alloc | apply pw_below_drewN | apply below_drew1) | exact HB.out)⟩⟩
                                          · rw [if_neg c36] at H
                                            exact absurd H (by simp)
                                        · rw [if_neg c35] at H
                                          exact absurd H (by simp)
                                      · rw [if_neg c34] at H
                                        exact absurd H (by simp)
                                    · rw [if_neg c33] at H
                                      exact absurd H (by simp)
                                  · replace c32 := Bool.eq_false_iff.mpr c32
                                    subst c32
                                    have H1 : (scholiastlaw13_ImportsStand.l1 kj27 l0 l1 t411 t412 t425 (wrap64 (x13_3 + 1))) = some r := by rw [if_neg (show ¬ (false = true) by decide)] at H; exact H
                                    clear H
                                    have H := H1
                                    clear H1
                                    have H' := Aside0.mk H
                                    clear H
                                    go_wp2
                                    repeat (go_quiet (fail); try go_wp2)
                                    go_roundg kj27
                                    case measure => have := HJ6.out; have := HK2.out; have := HK3.out; have := HK4.out; have := HJ27.out; omega
                                    case rel => exact ⟨(wrap64 (x13_3 + 1)), (by first | rfl | (simp; done) | (simp [*]; done)), H', ⟨by have := HJ6.out; have := HK2.out; have := HK3.out; have := HK4.out; have := HJ27.out; omega⟩, ⟨by (with_reducible repeat (first | apply Kd.R_alloc | apply Kd.R_drewN | apply Kd.R_drew)); exact HO_5.out⟩, ⟨by (with_reducible repeat (first | apply Kd.R_alloc | apply Kd.R_drewN | apply Kd.R_drew)); exact HO_6.out⟩, ⟨by (with_reducible repeat (first | apply Kd.R_alloc | apply Kd.R_drewN | apply Kd.R_drew)); exact HO_11.out⟩, ⟨by repeat (first | (with_reducible first | exact HB.out | apply below_alloc | apply pw_below_drewN | apply below_drew1) | exact HB.out)⟩⟩
                        · rw [if_neg c24] at H
                          exact absurd H (by simp)
                      · rw [if_neg c23] at H
                        have c23b0 : decide (x13_3 < (l0.length : Int)) = false := decide_eq_false c23
                        clear c23
                        replace H := Option.bind_eq_some_iff.mp H
                        obtain ⟨⟨t443, t444⟩, A430, H⟩ := H
                        replace H : (scholiastlaw13_ImportsStand.l3 k3 t412 t443 t444 false 0) = some r := H
                        have A43 := Aside0.mk A430
                        clear A430
                        have H' := Aside0.mk H
                        clear H
                        go_wp2_with (first | (go_at_call 20; (with_reducible refine (imports_Check.calls _ _ l0 _ _ l1 t443 t444 _ ?side1 ?side2 ?side3 ?side4 A43.out).mono ?_); (case side1 => repeat (first | exact (Kd.C_below HR0.out HB.out) | (with_reducible refine Kd.C_alloc ?_ _) | (with_reducible refine Kd.C_drewN ?_ _) | (with_reducible refine Kd.C_drew ?_))); (case side2 => exact HC0.out); (case side3 => repeat (first | exact (Kd.C_below HR1.out HB.out) | (with_reducible refine Kd.C_alloc ?_ _) | (with_reducible refine Kd.C_drewN ?_ _) | (with_reducible refine Kd.C_drew ?_))); (case side4 => exact HC1.out); rintro e w44 ⟨v445, rfl, ho0, hb⟩; have n0_ := Aside0.mk (Kd.R_below (by (with_reducible repeat (first | apply Kd.R_alloc | apply Kd.R_drewN | apply Kd.R_drew)); exact HO_5.out) hb); have n1_ := Aside0.mk (Kd.R_below (by (with_reducible repeat (first | apply Kd.R_alloc | apply Kd.R_drewN | apply Kd.R_drew)); exact HO_6.out) hb); have n2_ := Aside0.mk (Kd.R_below (by (with_reducible repeat (first | apply Kd.R_alloc | apply Kd.R_drewN | apply Kd.R_drew)); exact HO_11.out) hb); have n3_ := Aside0.mk (Kd.S_lower ho0 (below_size (by repeat (first | (with_reducible first | exact HB.out | apply below_alloc | apply pw_below_drewN | apply below_drew1) | exact HB.out)))); have n4_ := Aside0.mk (below_step (by repeat (first | (with_reducible first | exact HB.out | apply below_alloc | apply pw_below_drewN | apply below_drew1) | exact HB.out)) hb); clear HO_5; clear HO_6; clear HO_11; clear HB; have HO_5 := n0_; have HO_6 := n1_; have HO_11 := n2_; have HO446 := n3_; have HB := n4_; clear n0_ n1_ n2_ n3_ n4_; (try clear hb); (try clear hb2); (try clear hk); (try clear hi); (try clear ho0)))
                        repeat (go_quiet (first | (go_at_call 20; (with_reducible refine (imports_Check.calls _ _ l0 _ _ l1 t443 t444 _ ?side1 ?side2 ?side3 ?side4 A43.out).mono ?_); (case side1 => repeat (first | exact (Kd.C_below HR0.out HB.out) | (with_reducible refine Kd.C_alloc ?_ _) | (with_reducible refine Kd.C_drewN ?_ _) | (with_reducible refine Kd.C_drew ?_))); (case side2 => exact HC0.out); (case side3 => repeat (first | exact (Kd.C_below HR1.out HB.out) | (with_reducible refine Kd.C_alloc ?_ _) | (with_reducible refine Kd.C_drewN ?_ _) | (with_reducible refine Kd.C_drew ?_))); (case side4 => exact HC1.out); rintro e w44 ⟨v445, rfl, ho0, hb⟩; have n0_ := Aside0.mk (Kd.R_below (by (with_reducible repeat (first | apply Kd.R_alloc | apply Kd.R_drewN | apply Kd.R_drew)); exact HO_5.out) hb); have n1_ := Aside0.mk (Kd.R_below (by (with_reducible repeat (first | apply Kd.R_alloc | apply Kd.R_drewN | apply Kd.R_drew)); exact HO_6.out) hb); have n2_ := Aside0.mk (Kd.R_below (by (with_reducible repeat (first | apply Kd.R_alloc | apply Kd.R_drewN | apply Kd.R_drew)); exact HO_11.out) hb); have n3_ := Aside0.mk (Kd.S_lower ho0 (below_size (by repeat (first | (with_reducible first | exact HB.out | apply below_alloc | apply pw_below_drewN | apply below_drew1) | exact HB.out)))); have n4_ := Aside0.mk (below_step (by repeat (first | (with_reducible first | exact HB.out | apply below_alloc | apply pw_below_drewN | apply below_drew1) | exact HB.out)) hb); clear HO_5; clear HO_6; clear HO_11; clear HB; have HO_5 := n0_; have HO_6 := n1_; have HO_11 := n2_; have HO446 := n3_; have HB := n4_; clear n0_ n1_ n2_ n3_ n4_; (try clear hb); (try clear hb2); (try clear hk); (try clear hi); (try clear ho0))); try go_wp2_with (first | (go_at_call 20; (with_reducible refine (imports_Check.calls _ _ l0 _ _ l1 t443 t444 _ ?side1 ?side2 ?side3 ?side4 A43.out).mono ?_); (case side1 => repeat (first | exact (Kd.C_below HR0.out HB.out) | (with_reducible refine Kd.C_alloc ?_ _) | (with_reducible refine Kd.C_drewN ?_ _) | (with_reducible refine Kd.C_drew ?_))); (case side2 => exact HC0.out); (case side3 => repeat (first | exact (Kd.C_below HR1.out HB.out) | (with_reducible refine Kd.C_alloc ?_ _) | (with_reducible refine Kd.C_drewN ?_ _) | (with_reducible refine Kd.C_drew ?_))); (case side4 => exact HC1.out); rintro e w44 ⟨v445, rfl, ho0, hb⟩; have n0_ := Aside0.mk (Kd.R_below (by (with_reducible repeat (first | apply Kd.R_alloc | apply Kd.R_drewN | apply Kd.R_drew)); exact HO_5.out) hb); have n1_ := Aside0.mk (Kd.R_below (by (with_reducible repeat (first | apply Kd.R_alloc | apply Kd.R_drewN | apply Kd.R_drew)); exact HO_6.out) hb); have n2_ := Aside0.mk (Kd.R_below (by (with_reducible repeat (first | apply Kd.R_alloc | apply Kd.R_drewN | apply Kd.R_drew)); exact HO_11.out) hb); have n3_ := Aside0.mk (Kd.S_lower ho0 (below_size (by repeat (first | (with_reducible first | exact HB.out | apply below_alloc | apply pw_below_drewN | apply below_drew1) | exact HB.out)))); have n4_ := Aside0.mk (below_step (by repeat (first | (with_reducible first | exact HB.out | apply below_alloc | apply pw_below_drewN | apply below_drew1) | exact HB.out)) hb); clear HO_5; clear HO_6; clear HO_11; clear HB; have HO_5 := n0_; have HO_6 := n1_; have HO_11 := n2_; have HO446 := n3_; have HB := n4_; clear n0_ n1_ n2_ n3_ n4_; (try clear hb); (try clear hb2); (try clear hk); (try clear hi); (try clear ho0))))
                        go_loopg [22, 23] k3 (fun kq v22 v23 w' => ∃ (x22_4 : Bool) (x23_4 : Int), v22 = .bool x22_4 ∧ v23 = .int .i64 x23_4 ∧ Aside0 (scholiastlaw13_ImportsStand.l3 kq t412 t443 t444 x22_4 x23_4 = some r) ∧ Aside0 (kq ≤ k3) ∧ Aside0 (Kd.R Kd.string 9 w' w.heap.size (fun _ => True) (.slice Ao16 t412.length co16) t412) ∧ Aside0 (Kd.S (Kd.slice 52 k52) 49 w' w.heap.size (fun _ => True) v445 t443) ∧ Aside0 (Below w.heap.size w w'))
                        case atStart => exact ⟨(false), (0), (by first | rfl | (simp; done) | (simp [*]; done)), (by first | rfl | (simp; done) | (simp [*]; done)), H', ⟨Nat.le_refl _⟩, ⟨by (with_reducible repeat (first | apply Kd.R_alloc | apply Kd.R_drewN | apply Kd.R_drew)); exact Kd.R_mono HO_6.out (fun _ hk => trivial)⟩, ⟨by (with_reducible repeat (first | apply Kd.S_alloc | apply Kd.S_drewN | apply Kd.S_drew)); exact HO446.out⟩, ⟨by repeat (first | (with_reducible first | exact HB.out | apply below_alloc | apply pw_below_drewN | apply below_drew1) | exact HB.out)⟩⟩
                        case round =>
                          clear H'
                          try clear c1
                          try clear c2
                          try clear p2
                          try clear c3
                          try clear c4
                          try clear p4
                          try clear q4
                          try clear hx4
                          try clear p6
                          try clear c7
                          try clear c10
                          try clear c10b0
                          try clear c10b1
                          try clear c11
                          try clear c13
                          try clear c13b0
                          try clear c13b1
                          try clear c18
                          try clear c18b0
                          try clear c19
                          try clear c19b0
                          try clear c22
                          try clear c22b0
                          try clear c22b1
                          try clear c22b2
                          try clear c23
                          try clear c23b0
                          try clear c24
                          try clear c24b0
                          try clear c29
                          try clear c29b0
                          try clear c29b1
                          try clear c30
                          try clear c30b0
                          try clear c31
                          try clear c31b0
                          try clear c32
                          try clear c33
                          try clear c33b0
                          try clear c34
                          try clear c34b0
                          try clear c35
                          try clear c35b0
                          try clear c36
                          try clear c36b0
                          try clear c38
                          try clear c38b0
                          try clear c40
                          try clear c40b0
                          try clear c42
                          try clear c42b0
                          try clear p42
                          try clear q42
                          try clear hx42
                          try clear c43
                          try clear p43
                          try clear q43
                          try clear hx43
                          try clear hx428_0
                          try clear hx430_0
                          try clear hx432_0
                          try clear hx437_0
                          try clear hx437_1
                          try clear hx437_2
                          try clear hx437_3
                          try clear hx437_4
                          try clear hx438_0
                          try clear hx438_1
                          try clear hx438_2
                          try clear hx438_3
                          try clear hx438_4
                          try clear hx439_0
                          try clear hx439_1
                          try clear hx439_2
                          try clear hx439_3
                          try clear p2
                          try clear p4
                          try clear p428
                          try clear p430
                          try clear p432
                          try clear p437
                          try clear p438
                          try clear p439
                          try clear p6
                          try clear q4
                          try clear q428
                          try clear q430
                          try clear q432
                          try clear q437
                          try clear q438
                          try clear q439
                          obtain ⟨x22_4, x23_4, rfl, rfl, HA, HK4, HO_6, HO_20, HB⟩ := hrel
                          cases gk with
                          | zero => exact absurd HA.out (by simp [scholiastlaw13_ImportsStand.l3])
                          | succ k4 =>
                            have H := HA.out
                            clear HA
                            simp only [scholiastlaw13_ImportsStand.l3] at H
                            by_cases c45 : x23_4 < (t443.length : Int)
                            · rw [if_pos c45] at H
                              have c45b0 : decide (x23_4 < (t443.length : Int)) = true := decide_eq_true c45
                              clear c45
                              have H' := Aside0.mk H
                              clear H
                              obtain ⟨Ao46, co46, eo46⟩ := Kd.S_slice HO_20.out
                              subst eo46
                              go_wp2
                              repeat (go_quiet (fail); try go_wp2)
                              go_loopg [22, 24] k4 (fun kq v22 v24 w' => ∃ (x22_5 : Bool) (x24_5 : Int), v22 = .bool x22_5 ∧ v24 = .int .i64 x24_5 ∧ Aside0 (scholiastlaw13_ImportsStand.l4 kq t412 t443 t444 x22_5 x23_4 x24_5 = some r) ∧ Aside0 (kq ≤ k4) ∧ Aside0 (Kd.R Kd.string 9 w' w.heap.size (fun _ => True) (.slice Ao16 t412.length co16) t412) ∧ Aside0 (Kd.S (Kd.slice 52 k52) 49 w' w.heap.size (fun _ => True) (.slice Ao46 t443.length co46) t443) ∧ Aside0 (Below w.heap.size w w'))
                              case atStart => exact ⟨(x22_4), (0), (by first | rfl | (simp; done) | (simp [*]; done)), (by first | rfl | (simp; done) | (simp [*]; done)), H', ⟨Nat.le_refl _⟩, ⟨by (with_reducible repeat (first | apply Kd.R_alloc | apply Kd.R_drewN | apply Kd.R_drew)); exact HO_6.out⟩, ⟨by (with_reducible repeat (first | apply Kd.S_alloc | apply Kd.S_drewN | apply Kd.S_drew)); exact HO_20.out⟩, ⟨by repeat (first | (with_reducible first | exact HB.out | apply below_alloc | apply pw_below_drewN | apply below_drew1) | exact HB.out)⟩⟩
                              case round =>
                                clear H'
                                try clear c1
                                try clear c2
                                try clear p2
                                try clear c3
                                try clear c4
                                try clear p4
                                try clear q4
                                try clear hx4
                                try clear p6
                                try clear c7
                                try clear c10
                                try clear c10b0
                                try clear c10b1
                                try clear c11
                                try clear c13
                                try clear c13b0
                                try clear c13b1
                                try clear c18
                                try clear c18b0
                                try clear c19
                                try clear c19b0
                                try clear c22
                                try clear c22b0
                                try clear c22b1
                                try clear c22b2
                                try clear c23
                                try clear c23b0
                                try clear c24
                                try clear c24b0
                                try clear c29
                                try clear c29b0
                                try clear c29b1
                                try clear c30
                                try clear c30b0
                                try clear c31
                                try clear c31b0
                                try clear c32
                                try clear c33
                                try clear c33b0
                                try clear c34
                                try clear c34b0
                                try clear c35
                                try clear c35b0
                                try clear c36
                                try clear c36b0
                                try clear c38
                                try clear c38b0
                                try clear c40
                                try clear c40b0
                                try clear c42
                                try clear c42b0
                                try clear p42
                                try clear q42
                                try clear hx42
                                try clear c43
                                try clear p43
                                try clear q43
                                try clear hx43
                                try clear c45
                                try clear c45b0
                                try clear hx428_0
                                try clear hx430_0
                                try clear hx432_0
                                try clear hx437_0
                                try clear hx437_1
                                try clear hx437_2
                                try clear hx437_3
                                try clear hx437_4
                                try clear hx438_0
                                try clear hx438_1
                                try clear hx438_2
                                try clear hx438_3
                                try clear hx438_4
                                try clear hx439_0
                                try clear hx439_1
                                try clear hx439_2
                                try clear hx439_3
                                try clear p2
                                try clear p4
                                try clear p42
                                try clear p428
                                try clear p43
                                try clear p430
                                try clear p432
                                try clear p437
                                try clear p438
                                try clear p439
                                try clear p6
                                try clear q4
                                try clear q42
                                try clear q428
                                try clear q43
                                try clear q430
                                try clear q432
                                try clear q437
                                try clear q438
                                try clear q439
                                obtain ⟨x22_5, x24_5, rfl, rfl, HA, HK5, HO_6, HO_20, HB⟩ := hrel
                                cases gk with
                                | zero => exact absurd HA.out (by simp [scholiastlaw13_ImportsStand.l4])
                                | succ k5 =>
                                  have H := HA.out
                                  clear HA
                                  simp only [scholiastlaw13_ImportsStand.l4] at H
                                  by_cases c47 : 0 ≤ x23_4
                                  · rw [if_pos c47] at H
                                    have c47b0 : decide (0 ≤ x23_4) = true := decide_eq_true c47
                                    clear c47
                                    by_cases c48 : x23_4 < (t443.length : Int)
                                    · rw [if_pos c48] at H
                                      have c48b0 : decide (x23_4 < (t443.length : Int)) = true := decide_eq_true c48
                                      clear c48
                                      by_cases c49 : x24_5 < ((rd_L14 t443 x23_4).length : Int)
                                      · rw [if_pos c49] at H
                                        have c49b0 : decide (x24_5 < ((rd_L14 t443 x23_4).length : Int)) = true := decide_eq_true c49
                                        clear c49
                                        by_cases c50 : x22_5 = true
                                        · subst c50
                                          have H1 : (scholiastlaw13_ImportsStand.l4 k5 t412 t443 t444 true x23_4 (wrap64 (x24_5 + 1))) = some r := by rw [if_pos rfl] at H; exact H
                                          clear H
                                          have H := H1
                                          clear H1
                                          have H' := Aside0.mk H
                                          clear H
                                          have p447 : 0 ≤ (x23_4 : Int) := of_decide_eq_true (by first | (with_reducible assumption) | assumption)
                                          have q447 : x23_4 < (t443.length : Int) := of_decide_eq_true (by first | (with_reducible assumption) | assumption)
                                          obtain ⟨ad447, A447_0, c447_0, e447, hx447_0, hl447_0, hi447_0⟩ := at_L14 (Kd.S_reads' HO_20.out).2.2 x23_4 p447 q447
                                          cases e447
                                          obtain ⟨ce447, hce447, hMe447, hcc447⟩ := Kd.S_get HO_20.out [] x23_4 p447 (by first | exact q447 | exact of_decide_eq_true (by first | (with_reducible assumption) | assumption) | (have e_ := (Kd.S_reads' HO_20.out).1; omega))
                                          obtain ⟨ve447_0, rfl, ge447_0⟩ := hMe447
                                          have hv447_0 := hcc447 0 _ rfl
                                          rw [Nat.add_zero, show ((Kd.slice 52 k52)).sz = 1 from rfl, Nat.mul_one] at hv447_0
                                          replace hv447_0 := Option.some.inj (hv447_0.symm.trans hx447_0)
                                          rw [hv447_0] at ge447_0
                                          have HL447_0 := Aside0.mk (show Kd.R k52 52 _ _ _ _ (rd_L14 t443 x23_4) from ge447_0)
                                          clear hv447_0 ge447_0
                                          clear hcc447 hce447
                                          have HR447_0 := Aside0.mk hi447_0
                                          have HC447_0 := Aside0.mk hl447_0
                                          clear hi447_0 hl447_0
                                          replace p447 := eq_true p447
                                          replace q447 := eq_true q447
                                          go_wp2
                                          repeat (go_quiet (fail); try go_wp2)
                                          go_roundg k5
                                          case measure => have := HJ6.out; have := HK2.out; have := HK3.out; have := HK4.out; have := HK5.out; omega
                                          case rel => exact ⟨(true), (wrap64 (x24_5 + 1)), (by first | rfl | (simp; done) | (simp [*]; done)), (by first | rfl | (simp; done) | (simp [*]; done)), H', ⟨by have := HJ6.out; have := HK2.out; have := HK3.out; have := HK4.out; have := HK5.out; omega⟩, ⟨by (with_reducible repeat (first | apply Kd.R_alloc | apply Kd.R_drewN | apply Kd.R_drew)); exact HO_6.out⟩, ⟨by (with_reducible repeat (first | apply Kd.S_alloc | apply Kd.S_drewN | apply Kd.S_drew)); exact HO_20.out⟩, ⟨by repeat (first | (with_reducible first | exact HB.out | apply below_alloc | apply pw_below_drewN | apply below_drew1) | exact HB.out)⟩⟩
                                        · replace c50 := Bool.eq_false_iff.mpr c50
                                          subst c50
                                          have H1 : (if 0 ≤ x24_5 then (scholiastlaw13_ImportsStand.l4 k5 t412 t443 t444 (((rd_T52 (rd_L14 t443 x23_4) x24_5).f0) == 302) x23_4 (wrap64 (x24_5 + 1))) else (none)) = some r := by rw [if_neg (show ¬ (false = true) by decide)] at H; exact H
                                          clear H
                                          have H := H1
                                          clear H1
                                          by_cases c51 : 0 ≤ x24_5
                                          · rw [if_pos c51] at H
                                            have c51b0 : decide (0 ≤ x24_5) = true := decide_eq_true c51
                                            clear c51
                                            have H' := Aside0.mk H
                                            clear H
                                            have p447 : 0 ≤ (x23_4 : Int) := of_decide_eq_true (by first | (with_reducible assumption) | assumption)
                                            have q447 : x23_4 < (t443.length : Int) := of_decide_eq_true (by first | (with_reducible assumption) | assumption)
                                            obtain ⟨ad447, A447_0, c447_0, e447, hx447_0, hl447_0, hi447_0⟩ := at_L14 (Kd.S_reads' HO_20.out).2.2 x23_4 p447 q447
                                            cases e447
                                            obtain ⟨ce447, hce447, hMe447, hcc447⟩ := Kd.S_get HO_20.out [] x23_4 p447 (by first | exact q447 | exact of_decide_eq_true (by first | (with_reducible assumption) | assumption) | (have e_ := (Kd.S_reads' HO_20.out).1; omega))
                                            obtain ⟨ve447_0, rfl, ge447_0⟩ := hMe447
                                            have hv447_0 := hcc447 0 _ rfl
                                            rw [Nat.add_zero, show ((Kd.slice 52 k52)).sz = 1 from rfl, Nat.mul_one] at hv447_0
                                            replace hv447_0 := Option.some.inj (hv447_0.symm.trans hx447_0)
                                            rw [hv447_0] at ge447_0
                                            have HL447_0 := Aside0.mk (show Kd.R k52 52 _ _ _ _ (rd_L14 t443 x23_4) from ge447_0)
                                            clear hv447_0 ge447_0
                                            clear hcc447 hce447
                                            have HR447_0 := Aside0.mk hi447_0
                                            have HC447_0 := Aside0.mk hl447_0
                                            clear hi447_0 hl447_0
                                            replace p447 := eq_true p447
                                            replace q447 := eq_true q447
                                            have p448 : 0 ≤ (x23_4 : Int) := of_decide_eq_true (by first | (with_reducible assumption) | assumption)
                                            have q448 : x23_4 < (t443.length : Int) := of_decide_eq_true (by first | (with_reducible assumption) | assumption)
                                            obtain ⟨ad448, A448_0, c448_0, e448, hx448_0, hl448_0, hi448_0⟩ := at_L14 (Kd.S_reads' HO_20.out).2.2 x23_4 p448 q448
                                            obtain rfl : ad447 = ad448 := (by injection e448)
                                            obtain ⟨ce448, hce448, hMe448, hcc448⟩ := Kd.S_get HO_20.out [] x23_4 p448 (by first | exact q448 | exact of_decide_eq_true (by first | (with_reducible assumption) | assumption) | (have e_ := (Kd.S_reads' HO_20.out).1; omega))
                                            obtain ⟨ve448_0, rfl, ge448_0⟩ := hMe448
                                            have hv448_0 := hcc448 0 _ rfl
                                            rw [Nat.add_zero, show ((Kd.slice 52 k52)).sz = 1 from rfl, Nat.mul_one] at hv448_0
                                            replace hv448_0 := Option.some.inj (hv448_0.symm.trans hx448_0)
                                            rw [hv448_0] at ge448_0
                                            have HL448_0 := Aside0.mk (show Kd.R k52 52 _ _ _ _ (rd_L14 t443 x23_4) from ge448_0)
                                            clear hv448_0 ge448_0
                                            clear hcc448 hce448
                                            have HR448_0 := Aside0.mk hi448_0
                                            have HC448_0 := Aside0.mk hl448_0
                                            clear hi448_0 hl448_0
                                            replace p448 := eq_true p448
                                            replace q448 := eq_true q448
                                            have ea_ := Option.some.inj (hx447_0.symm.trans hx448_0)
                                            injection ea_ with ea_ en_ ec_
                                            subst ea_
                                            subst ec_
                                            clear en_
                                            have p449 : 0 ≤ (x24_5 : Int) := of_decide_eq_true (by first | (with_reducible assumption) | assumption)
                                            have q449 : x24_5 < ((rd_L14 t443 x23_4).length : Int) := of_decide_eq_true (by first | (with_reducible assumption) | assumption)
                                            obtain ⟨ad449, e449, hx449_0, hx449_1, hx449_2⟩ := at_T52 (by repeat (first | (with_reducible exact HR448_0.out) | (with_reducible refine Kd.C_alloc ?_ _) | (with_reducible refine Kd.C_drewN ?_ _) | (with_reducible refine Kd.C_drew ?_) | exact HR448_0.out)) x24_5 p449 q449
                                            cases e449
                                            replace p449 := eq_true p449
                                            replace q449 := eq_true q449
                                            go_wp2
                                            repeat (go_quiet (fail); try go_wp2)
                                            go_roundg k5
                                            case measure => have := HJ6.out; have := HK2.out; have := HK3.out; have := HK4.out; have := HK5.out; omega
                                            case rel => exact ⟨((((rd_T52 (rd_L14 t443 x23_4) x24_5).f0) == 302)), (wrap64 (x24_5 + 1)), (by first | rfl | (simp; done) | (simp [*]; done)), (by first | rfl | (simp; done) | (simp [*]; done)), H', ⟨by have := HJ6.out; have := HK2.out; have := HK3.out; have := HK4.out; have := HK5.out; omega⟩, ⟨by (with_reducible repeat (first | apply Kd.R_alloc | apply Kd.R_drewN | apply Kd.R_drew)); exact HO_6.out⟩, ⟨by (with_reducible repeat (first | apply Kd.S_alloc | apply Kd.S_drewN | apply Kd.S_drew)); exact HO_20.out⟩, ⟨by repeat (first | (with_reducible first | exact HB.out | apply below_alloc | apply pw_below_drewN | apply below_drew1) | exact HB.out)⟩⟩
                                          · rw [if_neg c51] at H
                                            exact absurd H (by simp)
                                      · rw [if_neg c49] at H
                                        have c49b0 : decide (x24_5 < ((rd_L14 t443 x23_4).length : Int)) = false := decide_eq_false c49
                                        clear c49
                                        have H' := Aside0.mk H
                                        clear H
                                        have p447 : 0 ≤ (x23_4 : Int) := of_decide_eq_true (by first | (with_reducible assumption) | assumption)
                                        have q447 : x23_4 < (t443.length : Int) := of_decide_eq_true (by first | (with_reducible assumption) | assumption)
                                        obtain ⟨ad447, A447_0, c447_0, e447, hx447_0, hl447_0, hi447_0⟩ := at_L14 (Kd.S_reads' HO_20.out).2.2 x23_4 p447 q447
                                        cases e447
                                        obtain ⟨ce447, hce447, hMe447, hcc447⟩ := Kd.S_get HO_20.out [] x23_4 p447 (by first | exact q447 | exact of_decide_eq_true (by first | (with_reducible assumption) | assumption) | (have e_ := (Kd.S_reads' HO_20.out).1; omega))
                                        obtain ⟨ve447_0, rfl, ge447_0⟩ := hMe447
                                        have hv447_0 := hcc447 0 _ rfl
                                        rw [Nat.add_zero, show ((Kd.slice 52 k52)).sz = 1 from rfl, Nat.mul_one] at hv447_0
                                        replace hv447_0 := Option.some.inj (hv447_0.symm.trans hx447_0)
                                        rw [hv447_0] at ge447_0
                                        have HL447_0 := Aside0.mk (show Kd.R k52 52 _ _ _ _ (rd_L14 t443 x23_4) from ge447_0)
                                        clear hv447_0 ge447_0
                                        clear hcc447 hce447
                                        have HR447_0 := Aside0.mk hi447_0
                                        have HC447_0 := Aside0.mk hl447_0
                                        clear hi447_0 hl447_0
                                        replace p447 := eq_true p447
                                        replace q447 := eq_true q447
                                        go_wp2
                                        repeat (go_quiet (fail); try go_wp2)
                                        go_roundg k5
                                        case measure => have := HJ6.out; have := HK2.out; have := HK3.out; have := HK4.out; have := HK5.out; omega
                                        case rel => exact ⟨(x22_5), (wrap64 (x23_4 + 1)), (by first | rfl | (simp; done) | (simp [*]; done)), (by first | rfl | (simp; done) | (simp [*]; done)), H', ⟨by have := HJ6.out; have := HK2.out; have := HK3.out; have := HK4.out; have := HK5.out; omega⟩, ⟨by (with_reducible repeat (first | apply Kd.R_alloc | apply Kd.R_drewN | apply Kd.R_drew)); exact HO_6.out⟩, ⟨by (with_reducible repeat (first | apply Kd.S_alloc | apply Kd.S_drewN | apply Kd.S_drew)); exact HO_20.out⟩, ⟨by repeat (first | (with_reducible first | exact HB.out | apply below_alloc | apply pw_below_drewN | apply below_drew1) | exact HB.out)⟩⟩
                                    · rw [if_neg c48] at H
                                      exact absurd H (by simp)
                                  · rw [if_neg c47] at H
                                    exact absurd H (by simp)
                            · rw [if_neg c45] at H
                              have c45b0 : decide (x23_4 < (t443.length : Int)) = false := decide_eq_false c45
                              clear c45
                              by_cases c52 : t444 = 0
                              · rw [if_pos c52] at H
                                have c52b0 : (t444 == 0) = true := beq_iff_eq.mpr c52
                                have c52b1 : (t444 != 0) = false := bne_eq_false_iff_eq.mpr c52
                                clear c52
                                obtain rfl := Option.some.inj H
                                obtain ⟨Ao53, co53, eo53⟩ := Kd.S_slice HO_20.out
                                subst eo53
                                go_wp2
                                repeat (go_quiet (fail); try go_wp2)
                                go_ret
                                exact ⟨by first | rfl | (simp [errW_none, errW_some] <;> rfl) | (simp [*, errW_none, errW_some] <;> rfl), by repeat (first | (with_reducible first | exact HB.out | apply below_alloc | apply pw_below_drewN | apply below_drew1) | exact HB.out)⟩
                              · rw [if_neg c52] at H
                                have c52b0 : (t444 == 0) = false := beq_eq_false_iff_ne.mpr c52
                                have c52b1 : (t444 != 0) = true := bne_iff_ne.mpr c52
                                obtain rfl := Option.some.inj H
                                obtain ⟨Ao54, co54, eo54⟩ := Kd.S_slice HO_20.out
                                subst eo54
                                go_wp2
                                repeat (go_quiet (fail); try go_wp2)
                                go_ret
                                exact ⟨by first | rfl | (simp [errW_none, errW_some] <;> rfl) | (simp [*, errW_none, errW_some] <;> rfl), by repeat (first | (with_reducible first | exact HB.out | apply below_alloc | apply pw_below_drewN | apply below_drew1) | exact HB.out)⟩
          · rw [if_neg c13] at H
            have c13b0 : ((wrap64 ((t411.length : Int) + (t412.length : Int))) == (t425.length : Int)) = false := beq_eq_false_iff_ne.mpr c13
            have c13b1 : ((wrap64 ((t411.length : Int) + (t412.length : Int))) != (t425.length : Int)) = true := bne_iff_ne.mpr c13
            obtain rfl := Option.some.inj H
            go_wp2_with (first | (go_at_call 10; (with_reducible refine (imports_Folders.calls _ _ l0 t425 _ ?side1 ?side2 A12.out).mono ?_); (case side1 => repeat (first | exact (Kd.C_below HR0.out HB.out) | (with_reducible refine Kd.C_alloc ?_ _) | (with_reducible refine Kd.C_drewN ?_ _) | (with_reducible refine Kd.C_drew ?_))); (case side2 => exact HC0.out); rintro e w55 ⟨v426, rfl, ho0, hb⟩; have n0_ := Aside0.mk (Kd.R_elder' (by (with_reducible repeat (first | apply Kd.R_alloc | apply Kd.R_drewN | apply Kd.R_drew)); exact HO_5.out) (Kd.R_base ho0) hb); have n1_ := Aside0.mk (Kd.R_elder' (by (with_reducible repeat (first | apply Kd.R_alloc | apply Kd.R_drewN | apply Kd.R_drew)); exact HO_6.out) (Kd.R_base ho0) hb); have n2_ := Aside0.mk (Kd.R_lower (Kd.R_new' (Kd.R_new' ho0 (Kd.R_lt (by (with_reducible repeat (first | apply Kd.R_alloc | apply Kd.R_drewN | apply Kd.R_drew)); exact HO_5.out))) (Kd.R_lt (by (with_reducible repeat (first | apply Kd.R_alloc | apply Kd.R_drewN | apply Kd.R_drew)); exact HO_6.out))) (below_size (by repeat (first | (with_reducible first | exact HB.out | apply below_alloc | apply pw_below_drewN | apply below_drew1) | exact HB.out)))); have n3_ := Aside0.mk (below_step (by repeat (first | (with_reducible first | exact HB.out | apply below_alloc | apply pw_below_drewN | apply below_drew1) | exact HB.out)) hb); clear HO_5; clear HO_6; clear HB; have HO_5 := n0_; have HO_6 := n1_; have HO427 := n2_; have HB := n3_; clear n0_ n1_ n2_ n3_; (try clear hb); (try clear hb2); (try clear hk); (try clear hi); (try clear ho0); obtain ⟨Ao56, co56, eo56⟩ := Kd.R_slice HO_5.out; subst eo56; obtain ⟨Ao57, co57, eo57⟩ := Kd.R_slice HO_6.out; subst eo57; obtain ⟨Ao58, co58, eo58⟩ := Kd.R_slice HO427.out; subst eo58))
            repeat (go_quiet (first | (go_at_call 10; (with_reducible refine (imports_Folders.calls _ _ l0 t425 _ ?side1 ?side2 A12.out).mono ?_); (case side1 => repeat (first | exact (Kd.C_below HR0.out HB.out) | (with_reducible refine Kd.C_alloc ?_ _) | (with_reducible refine Kd.C_drewN ?_ _) | (with_reducible refine Kd.C_drew ?_))); (case side2 => exact HC0.out); rintro e w55 ⟨v426, rfl, ho0, hb⟩; have n0_ := Aside0.mk (Kd.R_elder' (by (with_reducible repeat (first | apply Kd.R_alloc | apply Kd.R_drewN | apply Kd.R_drew)); exact HO_5.out) (Kd.R_base ho0) hb); have n1_ := Aside0.mk (Kd.R_elder' (by (with_reducible repeat (first | apply Kd.R_alloc | apply Kd.R_drewN | apply Kd.R_drew)); exact HO_6.out) (Kd.R_base ho0) hb); have n2_ := Aside0.mk (Kd.R_lower (Kd.R_new' (Kd.R_new' ho0 (Kd.R_lt (by (with_reducible repeat (first | apply Kd.R_alloc | apply Kd.R_drewN | apply Kd.R_drew)); exact HO_5.out))) (Kd.R_lt (by (with_reducible repeat (first | apply Kd.R_alloc | apply Kd.R_drewN | apply Kd.R_drew)); exact HO_6.out))) (below_size (by repeat (first | (with_reducible first | exact HB.out | apply below_alloc | apply pw_below_drewN | apply below_drew1) | exact HB.out)))); have n3_ := Aside0.mk (below_step (by repeat (first | (with_reducible first | exact HB.out | apply below_alloc | apply pw_below_drewN | apply below_drew1) | exact HB.out)) hb); clear HO_5; clear HO_6; clear HB; have HO_5 := n0_; have HO_6 := n1_; have HO427 := n2_; have HB := n3_; clear n0_ n1_ n2_ n3_; (try clear hb); (try clear hb2); (try clear hk); (try clear hi); (try clear ho0); obtain ⟨Ao56, co56, eo56⟩ := Kd.R_slice HO_5.out; subst eo56; obtain ⟨Ao57, co57, eo57⟩ := Kd.R_slice HO_6.out; subst eo57; obtain ⟨Ao58, co58, eo58⟩ := Kd.R_slice HO427.out; subst eo58)); try go_wp2_with (first | (go_at_call 10; (with_reducible refine (imports_Folders.calls _ _ l0 t425 _ ?side1 ?side2 A12.out).mono ?_); (case side1 => repeat (first | exact (Kd.C_below HR0.out HB.out) | (with_reducible refine Kd.C_alloc ?_ _) | (with_reducible refine Kd.C_drewN ?_ _) | (with_reducible refine Kd.C_drew ?_))); (case side2 => exact HC0.out); rintro e w55 ⟨v426, rfl, ho0, hb⟩; have n0_ := Aside0.mk (Kd.R_elder' (by (with_reducible repeat (first | apply Kd.R_alloc | apply Kd.R_drewN | apply Kd.R_drew)); exact HO_5.out) (Kd.R_base ho0) hb); have n1_ := Aside0.mk (Kd.R_elder' (by (with_reducible repeat (first | apply Kd.R_alloc | apply Kd.R_drewN | apply Kd.R_drew)); exact HO_6.out) (Kd.R_base ho0) hb); have n2_ := Aside0.mk (Kd.R_lower (Kd.R_new' (Kd.R_new' ho0 (Kd.R_lt (by (with_reducible repeat (first | apply Kd.R_alloc | apply Kd.R_drewN | apply Kd.R_drew)); exact HO_5.out))) (Kd.R_lt (by (with_reducible repeat (first | apply Kd.R_alloc | apply Kd.R_drewN | apply Kd.R_drew)); exact HO_6.out))) (below_size (by repeat (first | (with_reducible first | exact HB.out | apply below_alloc | apply pw_below_drewN | apply below_drew1) | exact HB.out)))); have n3_ := Aside0.mk (below_step (by repeat (first | (with_reducible first | exact HB.out | apply below_alloc | apply pw_below_drewN | apply below_drew1) | exact HB.out)) hb); clear HO_5; clear HO_6; clear HB; have HO_5 := n0_; have HO_6 := n1_; have HO427 := n2_; have HB := n3_; clear n0_ n1_ n2_ n3_; (try clear hb); (try clear hb2); (try clear hk); (try clear hi); (try clear ho0); obtain ⟨Ao56, co56, eo56⟩ := Kd.R_slice HO_5.out; subst eo56; obtain ⟨Ao57, co57, eo57⟩ := Kd.R_slice HO_6.out; subst eo57; obtain ⟨Ao58, co58, eo58⟩ := Kd.R_slice HO427.out; subst eo58)))
            go_ret
            exact ⟨by first | rfl | (simp [errW_none, errW_some] <;> rfl) | (simp [*, errW_none, errW_some] <;> rfl), by repeat (first | (with_reducible first | exact HB.out | apply below_alloc | apply pw_below_drewN | apply below_drew1) | exact HB.out)⟩

end Go.Proofs.YtcejdokeaoklaaaDoor.PImp
