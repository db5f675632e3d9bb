-- Written by a program of this session (wip/tools/printseat.sh).
import Derived.Test.YtcejdokeaoklaaaDoorPImpx0
import Derived.Test.YtcejdokeaoklaaaDoorPImpx6
import Derived.Test.YtcejdokeaoklaaaDoorPImpx8
import Derived.Test.YtcejdokeaoklaaaDoorPImpx11
import Derived.Test.YtcejdokeaoklaaaDoorPImpx14
namespace Go.Proofs.YtcejdokeaoklaaaDoor.PImp
open Go.RowKit Go.Proofs.YtcejdokeaoklaaaDoorW.PrintWords Go.Proofs.YtcejdokeaoklaaaDoorW.PrintLast Go.Proofs.YtcejdokeaoklaaaDoorW.PrintMore
attribute [local go_sem] max2_int min2_int max_two min_two max_three min_three max_four min_four   -- for this text's walks alone
set_option linter.unusedVariables false
set_option linter.unusedSimpArgs false
/-! ### rf_Check: function 18 -/
mutual
def rf_Check.l0 : Nat → List ByteArray → List (S46) → List ByteArray → List (List (S52)) → Int → Option ((List (List (S52))) × Int)
 | 0, _, _, _, _, _ => none
 | k + 1, x0, x1, x7, x8, x9 => if x9 < (x0.length : Int) then (if 0 ≤ x9 then ((scholiastref13_Split.f k (rdOf ByteArray.empty x0 x9)).bind fun bt324 => (rf_Check.l1 k x0 x1 x7 x8 x9 bt324.1 (([] : List (S52))) 0)) else (none)) else (some (x8, 0))
def rf_Check.j2 : Nat → List ByteArray → List (S46) → List ByteArray → List (List (S52)) → Int → ByteArray → List (S52) → Option ((List (List (S52))) × Int)
 | 0, _, _, _, _, _, _, _ => none
 | k + 1, x0, x1, x7, x8, x9, x10, x13 => rf_Check.l2 k x0 x1 x7 x8 x9 x10 x13 0
def rf_Check.l2 : Nat → List ByteArray → List (S46) → List ByteArray → List (List (S52)) → Int → ByteArray → List (S52) → Int → Option ((List (List (S52))) × Int)
 | 0, _, _, _, _, _, _, _, _ => none
 | k + 1, x0, x1, x7, x8, x9, x10, x13, x18 => if 0 ≤ x9 then (if x9 < (x1.length : Int) then (if x18 < (((rd_T46 x1 x9).f1).length : Int) then (if 0 ≤ x18 then ((scholiastref13_has.f k x7 ((rd_T48 ((rd_T46 x1 x9).f1) x18).f1)).bind fun t348 => (if t348 = true then (if ((rd_T48 ((rd_T46 x1 x9).f1) x18).f1).toList = x10.toList then (rf_Check.j4 k x0 x1 x7 x8 x9 x10 x13 x18 0 true ((rd_T48 ((rd_T46 x1 x9).f1) x18).f0) ((rd_T48 ((rd_T46 x1 x9).f1) x18).f1) ((rd_T48 ((rd_T46 x1 x9).f1) x18).f2) ((rd_T48 ((rd_T46 x1 x9).f1) x18).f3)) else ((rf_reaches.f k x0 x1 ((rd_T48 ((rd_T46 x1 x9).f1) x18).f1)).bind fun t349 => ((scholiastref13_has.f k t349 x10).bind fun t352 => (rf_Check.j4 k x0 x1 x7 x8 x9 x10 x13 x18 0 t352 ((rd_T48 ((rd_T46 x1 x9).f1) x18).f0) ((rd_T48 ((rd_T46 x1 x9).f1) x18).f1) ((rd_T48 ((rd_T46 x1 x9).f1) x18).f2) ((rd_T48 ((rd_T46 x1 x9).f1) x18).f3))))) else (if 301 = 0 then (rf_Check.l2 k x0 x1 x7 x8 x9 x10 x13 (wrap64 (x18 + 1))) else (if x13.length < 5864062014805 then (rf_Check.l2 k x0 x1 x7 x8 x9 x10 (x13 ++ [(⟨301, (rd_T48 ((rd_T46 x1 x9).f1) x18).f2, (rd_T48 ((rd_T46 x1 x9).f1) x18).f3⟩ : S52)]) (wrap64 (x18 + 1))) else (none))))) else (none)) else (if x8.length < 5864062014805 then (rf_Check.l0 k x0 x1 x7 (x8 ++ [x13]) (wrap64 (x9 + 1))) else (none))) else (none)) else (none)
def rf_Check.j4 : Nat → List ByteArray → List (S46) → List ByteArray → List (List (S52)) → Int → ByteArray → List (S52) → Int → Int → Bool → ByteArray → ByteArray → Int → Int → Option ((List (List (S52))) × Int)
 | 0, _, _, _, _, _, _, _, _, _, _, _, _, _, _ => none
 | k + 1, x0, x1, x7, x8, x9, x10, x13, x18, x20, x128, x348000, x348001, x348002, x348003 => if x128 = true then (if 302 = 0 then (rf_Check.l2 k x0 x1 x7 x8 x9 x10 x13 (wrap64 (x18 + 1))) else (if x13.length < 5864062014805 then (rf_Check.l2 k x0 x1 x7 x8 x9 x10 (x13 ++ [(⟨302, x348002, x348003⟩ : S52)]) (wrap64 (x18 + 1))) else (none))) else (if x20 = 0 then (rf_Check.l2 k x0 x1 x7 x8 x9 x10 x13 (wrap64 (x18 + 1))) else (if x13.length < 5864062014805 then (rf_Check.l2 k x0 x1 x7 x8 x9 x10 (x13 ++ [(⟨x20, x348002, x348003⟩ : S52)]) (wrap64 (x18 + 1))) else (none)))
def rf_Check.l1 : Nat → List ByteArray → List (S46) → List ByteArray → List (List (S52)) → Int → ByteArray → List (S52) → Int → Option ((List (List (S52))) × Int)
 | 0, _, _, _, _, _, _, _, _ => none
 | k + 1, x0, x1, x7, x8, x9, x10, x13, x14 => if x14 < (x0.length : Int) then (if 0 ≤ x14 then ((scholiastref13_Split.f k (rdOf ByteArray.empty x0 x14)).bind fun bt331 => (if bt331.1.toList = x10.toList then (if x14 < (x1.length : Int) then (if 0 ≤ x9 then (if x9 < (x1.length : Int) then (if ((rd_T46 x1 x14).f0.f0).toList = ((rd_T46 x1 x9).f0.f0).toList then (rf_Check.j2 k x0 x1 x7 x8 x9 x10 x13) else (if x13.length < 5864062014805 then (rf_Check.j2 k x0 x1 x7 x8 x9 x10 (x13 ++ [(⟨303, (rd_T46 x1 x9).f0.f1, (rd_T46 x1 x9).f0.f2⟩ : S52)])) else (none))) else (none)) else (none)) else (none)) else (rf_Check.l1 k x0 x1 x7 x8 x9 x10 x13 (wrap64 (x14 + 1))))) else (none)) else (rf_Check.j2 k x0 x1 x7 x8 x9 x10 x13)
end
def rf_Check.f (k : Nat) (l0 : List ByteArray) (l1 : List (S46)) : Option ((List (List (S52))) × Int) := (rf_right.f k l0 l1).bind fun t316 => (if t316 = 0 then ((scholiastref13_Folders.f k l0).bind fun t317 => (rf_Check.l0 k l0 l1 t317 (([] : List (List (S52)))) 0)) else (some (([] : List (List (S52))), t316)))
theorem rf_Check.mono_l : ∀ k, (∀ y0 y1 y2 y3 y4, LeO (rf_Check.l0 k y0 y1 y2 y3 y4) (rf_Check.l0 (k + 1) y0 y1 y2 y3 y4)) ∧ (∀ y0 y1 y2 y3 y4 y5 y6, LeO (rf_Check.j2 k y0 y1 y2 y3 y4 y5 y6) (rf_Check.j2 (k + 1) y0 y1 y2 y3 y4 y5 y6)) ∧ (∀ y0 y1 y2 y3 y4 y5 y6 y7, LeO (rf_Check.l2 k y0 y1 y2 y3 y4 y5 y6 y7) (rf_Check.l2 (k + 1) y0 y1 y2 y3 y4 y5 y6 y7)) ∧ (∀ y0 y1 y2 y3 y4 y5 y6 y7 y8 y9 y10 y11 y12 y13, LeO (rf_Check.j4 k y0 y1 y2 y3 y4 y5 y6 y7 y8 y9 y10 y11 y12 y13) (rf_Check.j4 (k + 1) y0 y1 y2 y3 y4 y5 y6 y7 y8 y9 y10 y11 y12 y13)) ∧ (∀ y0 y1 y2 y3 y4 y5 y6 y7, LeO (rf_Check.l1 k y0 y1 y2 y3 y4 y5 y6 y7) (rf_Check.l1 (k + 1) y0 y1 y2 y3 y4 y5 y6 y7))
 | 0 => ⟨fun _ _ _ _ _ r h => by simp [rf_Check.l0] at h, fun _ _ _ _ _ _ _ r h => by simp [rf_Check.j2] at h, fun _ _ _ _ _ _ _ _ r h => by simp [rf_Check.l2] at h, fun _ _ _ _ _ _ _ _ _ _ _ _ _ _ r h => by simp [rf_Check.j4] at h, fun _ _ _ _ _ _ _ _ r h => by simp [rf_Check.l1] at h⟩
 | k + 1 => by
  obtain ⟨ih0, ih1, ih2, ih3, ih4⟩ := rf_Check.mono_l k
  refine ⟨?_, ?_, ?_, ?_, ?_⟩
  ·intro y0 y1 y2 y3 y4
   unfold rf_Check.l0
   repeat' first
   | (with_reducible exact ih0 _ _ _ _ _)
   | (with_reducible exact ih1 _ _ _ _ _ _ _)
   | (with_reducible exact ih2 _ _ _ _ _ _ _ _)
   | (with_reducible exact ih3 _ _ _ _ _ _ _ _ _ _ _ _ _ _)
   | (with_reducible exact ih4 _ _ _ _ _ _ _ _)
   | (with_reducible exact scholiastref13_Folders.mono _ _)
   | (with_reducible exact scholiastref13_Split.mono _ _)
   | (with_reducible exact scholiastref13_has.mono _ _ _)
   | (with_reducible exact rf_reaches.mono _ _ _ _)
   | (with_reducible exact rf_right.mono _ _ _)
   | (with_reducible exact LeO.refl _)
   | (with_reducible exact LeO.none _)
   | (with_reducible refine LeO.ite ?_ ?_)
   | (with_reducible refine LeO.bind ?_ (fun _ => ?_))
   | exact ih0 _ _ _ _ _
   | exact ih1 _ _ _ _ _ _ _
   | exact ih2 _ _ _ _ _ _ _ _
   | exact ih3 _ _ _ _ _ _ _ _ _ _ _ _ _ _
   | exact ih4 _ _ _ _ _ _ _ _
   | exact scholiastref13_Folders.mono _ _
   | exact scholiastref13_Split.mono _ _
   | exact scholiastref13_has.mono _ _ _
   | exact rf_reaches.mono _ _ _ _
   | exact rf_right.mono _ _ _
   | exact LeO.none _
   | refine LeO.ite ?_ ?_
   | refine LeO.bind ?_ (fun _ => ?_)
  ·intro y0 y1 y2 y3 y4 y5 y6
   unfold rf_Check.j2
   repeat' first
   | (with_reducible exact ih0 _ _ _ _ _)
   | (with_reducible exact ih1 _ _ _ _ _ _ _)
   | (with_reducible exact ih2 _ _ _ _ _ _ _ _)
   | (with_reducible exact ih3 _ _ _ _ _ _ _ _ _ _ _ _ _ _)
   | (with_reducible exact ih4 _ _ _ _ _ _ _ _)
   | (with_reducible exact scholiastref13_Folders.mono _ _)
   | (with_reducible exact scholiastref13_Split.mono _ _)
   | (with_reducible exact scholiastref13_has.mono _ _ _)
   | (with_reducible exact rf_reaches.mono _ _ _ _)
   | (with_reducible exact rf_right.mono _ _ _)
   | (with_reducible exact LeO.refl _)
   | (with_reducible exact LeO.none _)
   | (with_reducible refine LeO.ite ?_ ?_)
   | (with_reducible refine LeO.bind ?_ (fun _ => ?_))
   | exact ih0 _ _ _ _ _
   | exact ih1 _ _ _ _ _ _ _
   | exact ih2 _ _ _ _ _ _ _ _
   | exact ih3 _ _ _ _ _ _ _ _ _ _ _ _ _ _
   | exact ih4 _ _ _ _ _ _ _ _
   | exact scholiastref13_Folders.mono _ _
   | exact scholiastref13_Split.mono _ _
   | exact scholiastref13_has.mono _ _ _
   | exact rf_reaches.mono _ _ _ _
   | exact rf_right.mono _ _ _
   | exact LeO.none _
   | refine LeO.ite ?_ ?_
   | refine LeO.bind ?_ (fun _ => ?_)
  ·intro y0 y1 y2 y3 y4 y5 y6 y7
   unfold rf_Check.l2
   repeat' first
   | (with_reducible exact ih0 _ _ _ _ _)
   | (with_reducible exact ih1 _ _ _ _ _ _ _)
   | (with_reducible exact ih2 _ _ _ _ _ _ _ _)
   | (with_reducible exact ih3 _ _ _ _ _ _ _ _ _ _ _ _ _ _)
   | (with_reducible exact ih4 _ _ _ _ _ _ _ _)
   | (with_reducible exact scholiastref13_Folders.mono _ _)
   | (with_reducible exact scholiastref13_Split.mono _ _)
   | (with_reducible exact scholiastref13_has.mono _ _ _)
   | (with_reducible exact rf_reaches.mono _ _ _ _)
   | (with_reducible exact rf_right.mono _ _ _)
   | (with_reducible exact LeO.refl _)
   | (with_reducible exact LeO.none _)
   | (with_reducible refine LeO.ite ?_ ?_)
   | (with_reducible refine LeO.bind ?_ (fun _ => ?_))
   | exact ih0 _ _ _ _ _
   | exact ih1 _ _ _ _ _ _ _
   | exact ih2 _ _ _ _ _ _ _ _
   | exact ih3 _ _ _ _ _ _ _ _ _ _ _ _ _ _
   | exact ih4 _ _ _ _ _ _ _ _
   | exact scholiastref13_Folders.mono _ _
   | exact scholiastref13_Split.mono _ _
   | exact scholiastref13_has.mono _ _ _
   | exact rf_reaches.mono _ _ _ _
   | exact rf_right.mono _ _ _
   | exact LeO.none _
   | refine LeO.ite ?_ ?_
   | refine LeO.bind ?_ (fun _ => ?_)
  ·intro y0 y1 y2 y3 y4 y5 y6 y7 y8 y9 y10 y11 y12 y13
   unfold rf_Check.j4
   repeat' first
   | (with_reducible exact ih0 _ _ _ _ _)
   | (with_reducible exact ih1 _ _ _ _ _ _ _)
   | (with_reducible exact ih2 _ _ _ _ _ _ _ _)
   | (with_reducible exact ih3 _ _ _ _ _ _ _ _ _ _ _ _ _ _)
   | (with_reducible exact ih4 _ _ _ _ _ _ _ _)
   | (with_reducible exact scholiastref13_Folders.mono _ _)
   | (with_reducible exact scholiastref13_Split.mono _ _)
   | (with_reducible exact scholiastref13_has.mono _ _ _)
   | (with_reducible exact rf_reaches.mono _ _ _ _)
   | (with_reducible exact rf_right.mono _ _ _)
   | (with_reducible exact LeO.refl _)
   | (with_reducible exact LeO.none _)
   | (with_reducible refine LeO.ite ?_ ?_)
   | (with_reducible refine LeO.bind ?_ (fun _ => ?_))
   | exact ih0 _ _ _ _ _
   | exact ih1 _ _ _ _ _ _ _
   | exact ih2 _ _ _ _ _ _ _ _
   | exact ih3 _ _ _ _ _ _ _ _ _ _ _ _ _ _
   | exact ih4 _ _ _ _ _ _ _ _
   | exact scholiastref13_Folders.mono _ _
   | exact scholiastref13_Split.mono _ _
   | exact scholiastref13_has.mono _ _ _
   | exact rf_reaches.mono _ _ _ _
   | exact rf_right.mono _ _ _
   | exact LeO.none _
   | refine LeO.ite ?_ ?_
   | refine LeO.bind ?_ (fun _ => ?_)
  ·intro y0 y1 y2 y3 y4 y5 y6 y7
   unfold rf_Check.l1
   repeat' first
   | (with_reducible exact ih0 _ _ _ _ _)
   | (with_reducible exact ih1 _ _ _ _ _ _ _)
   | (with_reducible exact ih2 _ _ _ _ _ _ _ _)
   | (with_reducible exact ih3 _ _ _ _ _ _ _ _ _ _ _ _ _ _)
   | (with_reducible exact ih4 _ _ _ _ _ _ _ _)
   | (with_reducible exact scholiastref13_Folders.mono _ _)
   | (with_reducible exact scholiastref13_Split.mono _ _)
   | (with_reducible exact scholiastref13_has.mono _ _ _)
   | (with_reducible exact rf_reaches.mono _ _ _ _)
   | (with_reducible exact rf_right.mono _ _ _)
   | (with_reducible exact LeO.refl _)
   | (with_reducible exact LeO.none _)
   | (with_reducible refine LeO.ite ?_ ?_)
   | (with_reducible refine LeO.bind ?_ (fun _ => ?_))
   | exact ih0 _ _ _ _ _
   | exact ih1 _ _ _ _ _ _ _
   | exact ih2 _ _ _ _ _ _ _ _
   | exact ih3 _ _ _ _ _ _ _ _ _ _ _ _ _ _
   | exact ih4 _ _ _ _ _ _ _ _
   | exact scholiastref13_Folders.mono _ _
   | exact scholiastref13_Split.mono _ _
   | exact scholiastref13_has.mono _ _ _
   | exact rf_reaches.mono _ _ _ _
   | exact rf_right.mono _ _ _
   | exact LeO.none _
   | refine LeO.ite ?_ ?_
   | refine LeO.bind ?_ (fun _ => ?_)
theorem rf_Check.mono : ∀ a0 a1 k, LeO (rf_Check.f k a0 a1) (rf_Check.f (k + 1) a0 a1) := by
 intro a0 a1 k
 obtain ⟨ih0, ih1, ih2, ih3, ih4⟩ := rf_Check.mono_l k
 unfold rf_Check.f
 repeat' first
   | (with_reducible exact ih0 _ _ _ _ _)
   | (with_reducible exact ih1 _ _ _ _ _ _ _)
   | (with_reducible exact ih2 _ _ _ _ _ _ _ _)
   | (with_reducible exact ih3 _ _ _ _ _ _ _ _ _ _ _ _ _ _)
   | (with_reducible exact ih4 _ _ _ _ _ _ _ _)
   | (with_reducible exact scholiastref13_Folders.mono _ _)
   | (with_reducible exact scholiastref13_Split.mono _ _)
   | (with_reducible exact scholiastref13_has.mono _ _ _)
   | (with_reducible exact rf_reaches.mono _ _ _ _)
   | (with_reducible exact rf_right.mono _ _ _)
   | (with_reducible exact LeO.refl _)
   | (with_reducible exact LeO.none _)
   | (with_reducible refine LeO.ite ?_ ?_)
   | (with_reducible refine LeO.bind ?_ (fun _ => ?_))
   | exact ih0 _ _ _ _ _
   | exact ih1 _ _ _ _ _ _ _
   | exact ih2 _ _ _ _ _ _ _ _
   | exact ih3 _ _ _ _ _ _ _ _ _ _ _ _ _ _
   | exact ih4 _ _ _ _ _ _ _ _
   | exact scholiastref13_Folders.mono _ _
   | exact scholiastref13_Split.mono _ _
   | exact scholiastref13_has.mono _ _ _
   | exact rf_reaches.mono _ _ _ _
   | exact rf_right.mono _ _ _
   | exact LeO.none _
   | refine LeO.ite ?_ ?_
   | refine LeO.bind ?_ (fun _ => ?_)
def rf_Check.T16 : Bool × List (List Nat × List Nat) := (true, [([], []), ([], []), ([0, 1], [0, 1]), ([2], [2]), ([3], [3]), ([4], [4]), ([], []), ([], []), ([6, 7], [6, 7]), ([8], [8]), ([9], [9]), ([10], [10]), ([5, 11], [5, 11])])
def rf_Check.B16 : List Nat := [0, 0, 3, 7, 15, 31, 0, 0, 192, 448, 960, 1984, 4095]
theorem rf_Check.tab16 : rtab .any (opsOf Tryd.f18 16) = rf_Check.T16 := by kernel_rfl
theorem rf_Check.bits16 : waitsOk rf_Check.T16.2 rf_Check.B16 = true := by kernel_rfl
def rf_Check.T17 : Bool × List (List Nat × List Nat) := (true, [([], []), ([], []), ([], []), ([1, 2], [1, 2]), ([3], [3]), ([4], [4]), ([5], [5]), ([], []), ([], []), ([7, 8], [7, 8]), ([9], [9]), ([10], [10]), ([11], [11]), ([6, 12], [6, 12]), ([13], [13]), ([0, 14], [0, 14]), ([15, 15, 0, 1, 2, 3, 4, 5, 6, 7, 8, 9, 10, 11, 12, 13, 14, 15], [0, 15])])
def rf_Check.B17 : List Nat := [0, 0, 0, 6, 14, 30, 62, 0, 0, 384, 896, 1920, 3968, 8190, 16382, 32767, 65535]
theorem rf_Check.tab17 : rtab .any (opsOf Tryd.f18 17) = rf_Check.T17 := by kernel_rfl
theorem rf_Check.bits17 : waitsOk rf_Check.T17.2 rf_Check.B17 = true := by kernel_rfl
set_option maxHeartbeats 8000000 in
set_option maxRecDepth 100000 in
theorem rf_Check.calls (k : Nat) (A0 : Option Addr) (c0 : Nat) (l0 : List ByteArray) (A1 : Option Addr) (c1 : Nat) (l1 : List (S46)) (r1 : List (List (S52))) (r2 : Int) (w : World) (hr0 : Kd.C Kd.string w A0 l0.length l0) (hc0 : l0.length ≤ c0) (hr1 : Kd.C k46 w A1 l1.length l1) (hc1 : l1.length ≤ c1) (h : rf_Check.f k l0 l1 = some (r1, r2)) :
  Calls Tryd.prog 18 #[.slice A0 l0.length c0, .slice A1 l1.length c1] w fun e w' => ∃ v0_ : Value, e = .returned (.tuple #[v0_, .int .i64 r2]) ∧ Kd.S (Kd.slice 52 k52) 49 w' w.heap.size (fun _ => True) v0_ r1 ∧ Below w.heap.size w w' := by
 have hu52 := Tryd.underlying52
 have hu48 := Tryd.underlying48
 have HR0 := Aside0.mk hr0
 have HC0 := Aside0.mk hc0
 clear hr0 hc0
 have HR1 := Aside0.mk hr1
 have HC1 := Aside0.mk hc1
 clear hr1 hc1
 have HB := Aside0.mk (Below.refl w.heap.size w)
 have H : ((rf_right.f k l0 l1).bind fun t316 => (if t316 = 0 then ((scholiastref13_Folders.f k l0).bind fun t317 => (rf_Check.l0 k l0 l1 t317 (([] : List (List (S52)))) 0)) else (some (([] : List (List (S52))), t316)))) = some (r1, r2) := h
 clear h
 replace H := Option.bind_eq_some_iff.mp H
 obtain ⟨t316, A30, H⟩ := H
 replace H : (if t316 = 0 then ((scholiastref13_Folders.f k l0).bind fun t317 => (rf_Check.l0 k l0 l1 t317 (([] : List (List (S52)))) 0)) else (some (([] : List (List (S52))), t316))) = some (r1, r2) := H
 have A3 := Aside0.mk A30
 clear A30
 by_cases c4 : t316 = 0
 ·rw [if_pos c4] at H
  have c4b0 : (t316 == 0) = true := beq_iff_eq.mpr c4
  have c4b1 : (t316 != 0) = false := bne_eq_false_iff_eq.mpr c4
  clear c4
  replace H := Option.bind_eq_some_iff.mp H
  obtain ⟨t317, A50, H⟩ := H
  replace H : (rf_Check.l0 k l0 l1 t317 (([] : List (List (S52)))) 0) = some (r1, r2) := H
  have A5 := Aside0.mk A50
  clear A50
  obtain ⟨y320, hy320⟩ : ∃ y_ : List (List (S52)), y_ = (([] : List (List (S52)))) := ⟨_, rfl⟩
  replace H : (rf_Check.l0 k l0 l1 t317 y320 0) = some (r1, r2) := by first | (rw [hy320]; with_reducible exact H) | (have H2_ := (Option.bind_some _ _).symm.trans H; rw [hy320]; with_reducible exact H2_) | (have H2_ := (Option.bind_some _ _).symm.trans H; with_reducible exact H2_) | with_reducible exact H | (rw [hy320]; exact H) | exact H
  have Ny320 := Aside0.mk hy320
  clear hy320
  have H' := Aside0.mk H
  clear H
  go_enter Tryd.func18, Tryd.ntmps18
  go_wp2_with (first | ((with_reducible refine gate_callee (f := 32) rfl ?_); refine goesL_ (some 23) rfl rfl Tryd.func32 (by kernel_rfl) rfl #[.slice A0 l0.length c0, .slice A1 l1.length c1] rfl (by (try simp only [List.map_toArray, List.map_cons, List.map_nil]); first | done | rfl | (simp only [List.length_drop, List.length_take]; rfl)) ?_; (with_reducible refine (rf_right.calls k _ _ l0 _ _ l1 t316 _ ?side1 ?side2 ?side3 ?side4 A3.out).mono ?_); (case side1 => repeat (first | exact HR0.out | (with_reducible refine Kd.C_alloc ?_ _) | (with_reducible refine Kd.C_drewN ?_ _) | (with_reducible refine Kd.C_drew ?_))); (case side2 => exact HC0.out); (case side3 => repeat (first | exact HR1.out | (with_reducible refine Kd.C_alloc ?_ _) | (with_reducible refine Kd.C_drewN ?_ _) | (with_reducible refine Kd.C_drew ?_))); (case side4 => exact HC1.out); rintro e w' ⟨rfl, ⟨nd, rfl⟩⟩; refine ⟨_, rfl, ?_⟩) | ((with_reducible refine gate_callee (f := 12) rfl ?_); refine goesL_ (some 28) rfl rfl Tryd.func12 (by kernel_rfl) rfl #[.slice A0 l0.length c0] rfl (by (try simp only [List.map_toArray, List.map_cons, List.map_nil]); first | done | rfl | (simp only [List.length_drop, List.length_take]; rfl)) ?_; (with_reducible refine (scholiastref13_Folders.calls k _ _ l0 t317 _ ?side1 ?side2 A5.out).mono ?_); (case side1 => repeat (first | exact HR0.out | (with_reducible refine Kd.C_alloc ?_ _) | (with_reducible refine Kd.C_drewN ?_ _) | (with_reducible refine Kd.C_drew ?_))); (case side2 => exact HC0.out); rintro e w6 ⟨v318, rfl, ho0, hb⟩; refine ⟨_, rfl, ?_⟩; have n0_ := Aside0.mk (Kd.V_lower (Kd.V_mono (ok' := fun k_ => True) ho0 (fun k_ hk_ => trivial)) (below_size (by repeat (first | (with_reducible first | exact HB.out | apply below_alloc | apply pw_below_drewN | apply below_drew1) | exact HB.out)))); have n1_ := Aside0.mk (below_step (by repeat (first | (with_reducible first | exact HB.out | apply below_alloc | apply pw_below_drewN | apply below_drew1) | exact HB.out)) hb); clear HB; have HO319 := n0_; have HB := n1_; clear n0_ n1_; (try clear hb); (try clear hb2); (try clear hk); (try clear hi); (try clear ho0)) | ((with_reducible refine gate_dst (N := 29) rfl ?_); refine Kd.S_lit (Kd.slice 52 k52) _ 49 ?hg (N := 29) ?hd (xs := ([] : List (List (S52)))) (inner := []) (ok := fun _ => True) (okp := fun _ => True) ?hr ?hp (fun _ hk => hk) trivial (Below.refl _ _) (Nat.le_refl _) (by simp) ?_; (case hd => rfl); (case hg => rfl); (case hr => first | (go_simp; done) | (go_simp; rfl)); (case hp => exact (Reps.none _ _)); intro v321 w7 ho8 hb hg_ hnew_; clear hg_ hnew_; (first | rw [← Ny320.out] at ho8 | (simp only [Int.reduceToNat] at ho8; rw [← Ny320.out] at ho8)); have n0_ := Aside0.mk (Kd.V_elder' (by (with_reducible repeat (first | apply Kd.V_alloc | apply Kd.V_drewN | apply Kd.V_drew)); exact HO319.out) (Kd.S_base ho8) hb); have n1_ := Aside0.mk (Kd.S_lower ho8 (below_size (by repeat (first | (with_reducible first | exact HB.out | apply below_alloc | apply pw_below_drewN | apply below_drew1) | exact HB.out)))); have n2_ := Aside0.mk (below_step (by repeat (first | (with_reducible first | exact HB.out | apply below_alloc | apply pw_below_drewN | apply below_drew1) | exact HB.out)) hb); clear HO319; clear HB; have HO319 := n0_; have HO322 := n1_; have HB := n2_; clear n0_ n1_ n2_; clear hb ho8))
  go_loopg [8, 9] k (fun kq v8 v9 w' => ∃ (x8_1 : List (List (S52))) (x9_1 : Int), v9 = .int .i64 x9_1 ∧ Aside0 (rf_Check.l0 kq l0 l1 t317 x8_1 x9_1 = some (r1, r2)) ∧ Aside0 (kq ≤ k) ∧ Aside0 (Kd.V Kd.string 9 w' w.heap.size (fun k_ => some k_ ≠ (v8 : Value).ownBlock) v318 t317) ∧ Aside0 (Kd.S (Kd.slice 52 k52) 49 w' w.heap.size (fun _ => True) v8 x8_1) ∧ Aside0 (Below w.heap.size w w'))
  case atStart => exact ⟨(y320), (0), (by first | rfl | (simp; done) | (simp [*]; done)), H', ⟨Nat.le_refl _⟩, ⟨by (with_reducible repeat (first | apply Kd.V_alloc | apply Kd.V_drewN | apply Kd.V_drew)); exact Kd.V_mono HO319.out (fun _ hk => hk.2)⟩, ⟨by (with_reducible repeat (first | apply Kd.S_alloc | apply Kd.S_drewN | apply Kd.S_drew)); exact HO322.out⟩, ⟨by repeat (first | (with_reducible first | exact HB.out | apply below_alloc | apply pw_below_drewN | apply below_drew1) | exact HB.out)⟩⟩
  case round =>
   clear H'
   try clear c1
   try clear p2
   try clear c3
   try clear c4
   try clear c4b0
   try clear c4b1
   obtain ⟨x8_1, x9_1, rfl, HA, HK1, HO_7, HO_8, HB⟩ := hrel
   cases gk with
   | zero => exact absurd HA.out (by simp [rf_Check.l0])
   | succ k1 =>
    have H := HA.out
    clear HA
    simp only [rf_Check.l0] at H
    by_cases c9 : x9_1 < (l0.length : Int)
    ·rw [if_pos c9] at H
     have c9b0 : decide (x9_1 < (l0.length : Int)) = true := decide_eq_true c9
     clear c9
     by_cases c10 : 0 ≤ x9_1
     ·rw [if_pos c10] at H
      have c10b0 : decide (0 ≤ x9_1) = true := decide_eq_true c10
      clear c10
      replace H := Option.bind_eq_some_iff.mp H
      obtain ⟨⟨t324, t325, t326⟩, A110, H⟩ := H
      replace H : (rf_Check.l1 k1 l0 l1 t317 x8_1 x9_1 t324 (([] : List (S52))) 0) = some (r1, r2) := H
      have A11 := Aside0.mk A110
      clear A110
      obtain ⟨y327, hy327⟩ : ∃ y_ : List (S52), y_ = (([] : List (S52))) := ⟨_, rfl⟩
      replace H : (rf_Check.l1 k1 l0 l1 t317 x8_1 x9_1 t324 y327 0) = some (r1, r2) := by first | (rw [hy327]; with_reducible exact H) | (have H2_ := (Option.bind_some _ _).symm.trans H; rw [hy327]; with_reducible exact H2_) | (have H2_ := (Option.bind_some _ _).symm.trans H; with_reducible exact H2_) | with_reducible exact H | (rw [hy327]; exact H) | exact H
      have Ny327 := Aside0.mk hy327
      clear hy327
      have HC12 := Aside0.mk H
      clear H
      have p323 : 0 ≤ (x9_1 : Int) := of_decide_eq_true (by first | (with_reducible assumption) | assumption)
      have q323 : x9_1 < (l0.length : Int) := of_decide_eq_true (by first | (with_reducible assumption) | assumption)
      obtain ⟨ad323, e323, hx323_0⟩ := Kd.at_string HR0.out x9_1 p323 q323
      cases e323
      replace hx323_0 := pw_cell_below HB.out hx323_0
      replace p323 := eq_true p323
      replace q323 := eq_true q323
      go_upto_block 2 with (first | ((with_reducible refine gate_callee (f := 9) rfl ?_); refine goesL_ (some 41) rfl rfl Tryd.func9 (by kernel_rfl) rfl #[.string (rdOf ByteArray.empty l0 x9_1)] rfl (by (try simp only [List.map_toArray, List.map_cons, List.map_nil]); first | done | rfl | (simp only [List.length_drop, List.length_take]; rfl)) ?_; (with_reducible refine (scholiastref13_Split.calls k1 (rdOf ByteArray.empty l0 x9_1) t324 t325 t326 _ A11.out).mono ?_); rintro e w' ⟨rfl, ⟨nd, rfl⟩⟩; refine ⟨_, rfl, ?_⟩) | ((with_reducible refine gate_dst (N := 45) rfl ?_); refine Kd.R_lit k52 _ 52 ?hg (N := 45) ?hd (xs := ([] : List (S52))) (inner := []) (ok := fun _ => True) (okp := fun _ => True) ?hr ?hp (fun _ hk => hk) trivial (Below.refl _ _) (Nat.le_refl _) (by simp) ?_; (case hd => rfl); (case hg => rfl); (case hr => first | (go_simp; done) | (go_simp; rfl)); (case hp => exact (Reps.none _ _)); intro v328 w13 ho14 hb hg_ hnew_; clear hg_ hnew_; (first | rw [← Ny327.out] at ho14 | (simp only [Int.reduceToNat] at ho14; rw [← Ny327.out] at ho14)); have n0_ := Aside0.mk (Kd.V_elder' (by (with_reducible repeat (first | apply Kd.V_alloc | apply Kd.V_drewN | apply Kd.V_drew)); exact HO_7.out) (Kd.R_base ho14) hb); have n1_ := Aside0.mk (Kd.S_elder' (by (with_reducible repeat (first | apply Kd.S_alloc | apply Kd.S_drewN | apply Kd.S_drew)); exact HO_8.out) (Kd.R_base ho14) hb); have n2_ := Aside0.mk (Kd.R_lower ho14 (below_size (by repeat (first | (with_reducible first | exact HB.out | apply below_alloc | apply pw_below_drewN | apply below_drew1) | exact HB.out)))); have n3_ := Aside0.mk (below_step (by repeat (first | (with_reducible first | exact HB.out | apply below_alloc | apply pw_below_drewN | apply below_drew1) | exact HB.out)) hb); clear HO_7; clear HO_8; clear HB; have HO_7 := n0_; have HO_8 := n1_; have HO329 := n2_; have HB := n3_; clear n0_ n1_ n2_ n3_; clear hb ho14))
      (try simp only [Act.put, List.setIfInBounds_toArray, List.set_cons_zero, List.set_cons_succ])
      go_cut [13] (fun v13 wc => ∃ (kq : Nat) (x13_11 : List (S52)), Aside0 (rf_Check.j2 kq l0 l1 t317 x8_1 x9_1 t324 x13_11 = some (r1, r2)) ∧ Aside0 (kq ≤ k1) ∧ Aside0 (Kd.V Kd.string 9 wc w.heap.size (fun k_ => some k_ ≠ (u8 : Value).ownBlock ∧ some k_ ≠ (v13 : Value).ownBlock) v318 t317) ∧ Aside0 (Kd.S (Kd.slice 52 k52) 49 wc w.heap.size (fun k_ => some k_ ≠ (v13 : Value).ownBlock) u8 x8_1) ∧ Aside0 (Kd.R k52 52 wc w.heap.size (fun _ => True) v13 x13_11) ∧ Aside0 (Below w.heap.size w wc))
      case first =>
       have H := HC12.out
       clear HC12
       have H' := Aside0.mk H
       clear H
       go_wp2
       go_loopg [13, 14] k1 (fun kq v13 v14 w' => ∃ (x13_2 : List (S52)) (x14_2 : Int), v14 = .int .i64 x14_2 ∧ Aside0 (rf_Check.l1 kq l0 l1 t317 x8_1 x9_1 t324 x13_2 x14_2 = some (r1, r2)) ∧ Aside0 (kq ≤ k1) ∧ Aside0 (Kd.V Kd.string 9 w' w.heap.size (fun k_ => some k_ ≠ (u8 : Value).ownBlock ∧ some k_ ≠ (v13 : Value).ownBlock) v318 t317) ∧ Aside0 (Kd.S (Kd.slice 52 k52) 49 w' w.heap.size (fun k_ => some k_ ≠ (v13 : Value).ownBlock) u8 x8_1) ∧ Aside0 (Kd.R k52 52 w' w.heap.size (fun _ => True) v13 x13_2) ∧ Aside0 (Below w.heap.size w w'))
       case atStart => exact ⟨(y327), (0), (by first | rfl | (simp; done) | (simp [*]; done)), H', ⟨Nat.le_refl _⟩, ⟨by (with_reducible repeat (first | apply Kd.V_alloc | apply Kd.V_drewN | apply Kd.V_drew)); exact HO_7.out⟩, ⟨by (with_reducible repeat (first | apply Kd.S_alloc | apply Kd.S_drewN | apply Kd.S_drew)); exact Kd.S_mono HO_8.out (fun _ hk => hk.2)⟩, ⟨by (with_reducible repeat (first | apply Kd.R_alloc | apply Kd.R_drewN | apply Kd.R_drew)); exact HO329.out⟩, ⟨by repeat (first | (with_reducible first | exact HB.out | apply below_alloc | apply pw_below_drewN | apply below_drew1) | exact HB.out)⟩⟩
       case round =>
        clear H'
        try clear c1
        try clear p2
        try clear c3
        try clear p3
        try clear q3
        try clear hx3
        try clear c4
        try clear c4b0
        try clear c4b1
        try clear c9
        try clear c9b0
        try clear c10
        try clear c10b0
        try clear c12
        try clear hx323_0
        try clear p2
        try clear p323
        try clear q323
        obtain ⟨x13_2, x14_2, rfl, HA, HK2, HO_7, HO_8, HO_13, HB⟩ := hrel
        cases gk with
        | zero => exact absurd HA.out (by simp [rf_Check.l1])
        | succ k2 =>
         have H := HA.out
         clear HA
         simp only [rf_Check.l1] at H
         by_cases c15 : x14_2 < (l0.length : Int)
         ·rw [if_pos c15] at H
          have c15b0 : decide (x14_2 < (l0.length : Int)) = true := decide_eq_true c15
          clear c15
          (first | rw [c15b0] | (simp only [i64_w, i32_w]; rw [c15b0]) | rw [c15b1] | skip)
          by_cases c16 : 0 ≤ x14_2
          ·rw [if_pos c16] at H
           have c16b0 : decide (0 ≤ x14_2) = true := decide_eq_true c16
           clear c16
           replace H := Option.bind_eq_some_iff.mp H
           obtain ⟨⟨t331, t332, t333⟩, A170, H⟩ := H
           replace H : (if t331.toList = t324.toList then (if x14_2 < (l1.length : Int) then (if 0 ≤ x9_1 then (if x9_1 < (l1.length : Int) then (if ((rd_T46 l1 x14_2).f0.f0).toList = ((rd_T46 l1 x9_1).f0.f0).toList then (rf_Check.j2 k2 l0 l1 t317 x8_1 x9_1 t324 x13_2) else (if x13_2.length < 5864062014805 then (rf_Check.j2 k2 l0 l1 t317 x8_1 x9_1 t324 (x13_2 ++ [(⟨303, (rd_T46 l1 x9_1).f0.f1, (rd_T46 l1 x9_1).f0.f2⟩ : S52)])) else (none))) else (none)) else (none)) else (none)) else (rf_Check.l1 k2 l0 l1 t317 x8_1 x9_1 t324 x13_2 (wrap64 (x14_2 + 1)))) = some (r1, r2) := H
           have A17 := Aside0.mk A170
           clear A170
           by_cases c18 : t331.toList = t324.toList
           ·rw [if_pos c18] at H
            have c18b0 : (t331.toList == t324.toList) = true := beq_iff_eq.mpr c18
            have c18b1 : (t331.toList != t324.toList) = false := bne_eq_false_iff_eq.mpr c18
            clear c18
            by_cases c19 : x14_2 < (l1.length : Int)
            ·rw [if_pos c19] at H
             have c19b0 : decide (x14_2 < (l1.length : Int)) = true := decide_eq_true c19
             clear c19
             by_cases c20 : 0 ≤ x9_1
             ·rw [if_pos c20] at H
              have c20b0 : decide (0 ≤ x9_1) = true := decide_eq_true c20
              clear c20
              by_cases c21 : x9_1 < (l1.length : Int)
              ·rw [if_pos c21] at H
               have c21b0 : decide (x9_1 < (l1.length : Int)) = true := decide_eq_true c21
               clear c21
               by_cases c22 : ((rd_T46 l1 x14_2).f0.f0).toList = ((rd_T46 l1 x9_1).f0.f0).toList
               ·rw [if_pos c22] at H
                have c22b0 : (((rd_T46 l1 x14_2).f0.f0).toList == ((rd_T46 l1 x9_1).f0.f0).toList) = true := beq_iff_eq.mpr c22
                have c22b1 : (((rd_T46 l1 x14_2).f0.f0).toList != ((rd_T46 l1 x9_1).f0.f0).toList) = false := bne_eq_false_iff_eq.mpr c22
                clear c22
                have H' := Aside0.mk H
                clear H
                have p330 : 0 ≤ (x14_2 : Int) := of_decide_eq_true (by first | (with_reducible assumption) | assumption)
                have q330 : x14_2 < (l0.length : Int) := of_decide_eq_true (by first | (with_reducible assumption) | assumption)
                obtain ⟨ad330, e330, hx330_0⟩ := Kd.at_string HR0.out x14_2 p330 q330
                obtain rfl : ad323 = ad330 := (by injection e330)
                replace hx330_0 := pw_cell_below HB.out hx330_0
                replace p330 := eq_true p330
                replace q330 := eq_true q330
                try go_wp2_with (first | ((with_reducible refine gate_callee (f := 9) rfl ?_); refine goesL_ (some 57) rfl rfl Tryd.func9 (by kernel_rfl) rfl #[.string (rdOf ByteArray.empty l0 x14_2)] rfl (by (try simp only [List.map_toArray, List.map_cons, List.map_nil]); first | done | rfl | (simp only [List.length_drop, List.length_take]; rfl)) ?_; (with_reducible refine (scholiastref13_Split.calls k2 (rdOf ByteArray.empty l0 x14_2) t331 t332 t333 _ A17.out).mono ?_); rintro e w' ⟨rfl, ⟨nd, rfl⟩⟩; refine ⟨_, rfl, ?_⟩))
                (try (rw [drewN_self wr]; generalize hq_ : World.drewN wr _ = wr; have n0_ : Aside0 (Kd.R k52 52 wr w.heap.size (fun _ => True) u13 x13_2) := ⟨by rw [← hq_]; exact (by (with_reducible repeat (first | apply Kd.R_alloc | apply Kd.R_drewN | apply Kd.R_drew)); exact HO_13.out)⟩; have n1_ : Aside0 (Kd.V Kd.string 9 wr w.heap.size (fun k_ => some k_ ≠ (u13 : Value).ownBlock ∧ some k_ ≠ (u8 : Value).ownBlock) v318 t317) := ⟨by rw [← hq_]; exact (by (with_reducible repeat (first | apply Kd.V_alloc | apply Kd.V_drewN | apply Kd.V_drew)); exact Kd.V_mono HO_7.out (fun _ hk => ⟨hk.2, hk.1⟩))⟩; have n2_ : Aside0 (Kd.S (Kd.slice 52 k52) 49 wr w.heap.size (fun k_ => some k_ ≠ (u13 : Value).ownBlock) u8 x8_1) := ⟨by rw [← hq_]; exact (by (with_reducible repeat (first | apply Kd.S_alloc | apply Kd.S_drewN | apply Kd.S_drew)); exact HO_8.out)⟩; have n3_ : Aside0 (Below w.heap.size w wr) := ⟨by rw [← hq_]; exact (by repeat (first | (with_reducible first | exact HB.out | apply below_alloc | apply pw_below_drewN | apply below_drew1) | exact HB.out))⟩; clear HO_13 HO_7 HO_8 HB hq_; have HO_13 := n0_; have HO_7 := n1_; have HO_8 := n2_; have HB := n3_; clear n0_ n1_ n2_ n3_))
                have n0_ := Aside0.mk (Kd.V_drew HO_7.out)
                have n1_ := Aside0.mk (Kd.S_drew HO_8.out)
                have n2_ := Aside0.mk (Kd.R_drew HO_13.out)
                have n3_ := Aside0.mk (below_drew1 HB.out)
                clear HO_7
                clear HO_8
                clear HO_13
                clear HB
                have HO_7 := n0_
                have HO_8 := n1_
                have HO_13 := n2_
                have HB := n3_
                clear n0_ n1_ n2_ n3_
                have p334 : 0 ≤ (x14_2 : Int) := of_decide_eq_true (by first | (with_reducible assumption) | assumption)
                have q334 : x14_2 < (l1.length : Int) := of_decide_eq_true (by first | (with_reducible assumption) | assumption)
                obtain ⟨ad334, A334_3, c334_3, A334_4, c334_4, e334, hx334_0, hx334_1, hx334_2, hx334_3, hx334_4, hl334_3, hi334_3, hl334_4, hi334_4⟩ := at_T46 HR1.out x14_2 p334 q334
                have hw334_4 := hx334_4
                have hw334_3 := hx334_3
                have hw334_2 := hx334_2
                have hw334_1 := hx334_1
                have hw334_0 := hx334_0
                cases e334
                replace hx334_0 := pw_cell_below HB.out hx334_0
                replace hx334_1 := pw_cell_below HB.out hx334_1
                replace hx334_2 := pw_cell_below HB.out hx334_2
                replace hx334_3 := pw_cell_below HB.out hx334_3
                replace hx334_4 := pw_cell_below HB.out hx334_4
                have HR334_3 := Aside0.mk hi334_3
                have HC334_3 := Aside0.mk hl334_3
                clear hi334_3 hl334_3
                have HR334_4 := Aside0.mk hi334_4
                have HC334_4 := Aside0.mk hl334_4
                clear hi334_4 hl334_4
                replace p334 := eq_true p334
                replace q334 := eq_true q334
                have p335 : 0 ≤ (x9_1 : Int) := of_decide_eq_true (by first | (with_reducible assumption) | assumption)
                have q335 : x9_1 < (l1.length : Int) := of_decide_eq_true (by first | (with_reducible assumption) | assumption)
                obtain ⟨ad335, A335_3, c335_3, A335_4, c335_4, e335, hx335_0, hx335_1, hx335_2, hx335_3, hx335_4, hl335_3, hi335_3, hl335_4, hi335_4⟩ := at_T46 HR1.out x9_1 p335 q335
                have hw335_4 := hx335_4
                have hw335_3 := hx335_3
                have hw335_2 := hx335_2
                have hw335_1 := hx335_1
                have hw335_0 := hx335_0
                obtain rfl : ad334 = ad335 := (by injection e335)
                replace hx335_0 := pw_cell_below HB.out hx335_0
                replace hx335_1 := pw_cell_below HB.out hx335_1
                replace hx335_2 := pw_cell_below HB.out hx335_2
                replace hx335_3 := pw_cell_below HB.out hx335_3
                replace hx335_4 := pw_cell_below HB.out hx335_4
                have HR335_3 := Aside0.mk hi335_3
                have HC335_3 := Aside0.mk hl335_3
                clear hi335_3 hl335_3
                have HR335_4 := Aside0.mk hi335_4
                have HC335_4 := Aside0.mk hl335_4
                clear hi335_4 hl335_4
                replace p335 := eq_true p335
                replace q335 := eq_true q335
                refine start_ (n := 13) (S := fun w' => w'.cell? (ad334.add ((x14_2).toNat * 5)) = some (.string ((rd_T46 l1 x14_2).f0.f0)) ∧ w'.cell? ⟨(ad334.add ((x14_2).toNat * 5)).block, (ad334.add ((x14_2).toNat * 5)).off + 1, none⟩ = some (.int .i64 ((rd_T46 l1 x14_2).f0.f1)) ∧ w'.cell? ⟨(ad334.add ((x14_2).toNat * 5)).block, (ad334.add ((x14_2).toNat * 5)).off + 2, none⟩ = some (.int .i64 ((rd_T46 l1 x14_2).f0.f2)) ∧ w'.cell? ⟨(ad334.add ((x14_2).toNat * 5)).block, (ad334.add ((x14_2).toNat * 5)).off + 3, none⟩ = some (.slice A334_3 ((rd_T46 l1 x14_2).f1).length c334_3) ∧ w'.cell? ⟨(ad334.add ((x14_2).toNat * 5)).block, (ad334.add ((x14_2).toNat * 5)).off + 4, none⟩ = some (.slice A334_4 ((rd_T46 l1 x14_2).f2).length c334_4) ∧ w'.cell? (ad334.add ((x9_1).toNat * 5)) = some (.string ((rd_T46 l1 x9_1).f0.f0)) ∧ w'.cell? ⟨(ad334.add ((x9_1).toNat * 5)).block, (ad334.add ((x9_1).toNat * 5)).off + 1, none⟩ = some (.int .i64 ((rd_T46 l1 x9_1).f0.f1)) ∧ w'.cell? ⟨(ad334.add ((x9_1).toNat * 5)).block, (ad334.add ((x9_1).toNat * 5)).off + 2, none⟩ = some (.int .i64 ((rd_T46 l1 x9_1).f0.f2)) ∧ w'.cell? ⟨(ad334.add ((x9_1).toNat * 5)).block, (ad334.add ((x9_1).toNat * 5)).off + 3, none⟩ = some (.slice A335_3 ((rd_T46 l1 x9_1).f1).length c335_3) ∧ w'.cell? ⟨(ad334.add ((x9_1).toNat * 5)).block, (ad334.add ((x9_1).toNat * 5)).off + 4, none⟩ = some (.slice A335_4 ((rd_T46 l1 x9_1).f2).length c335_4)) (ds := []) #[false, false, false, false, false, false, false, false, false, false, false, false, false] (by kernel_rfl) rfl rfl ⟨(pw_cell_below HB.out hw334_0), (pw_cell_below HB.out hw334_1), (pw_cell_below HB.out hw334_2), (pw_cell_below HB.out hw334_3), (pw_cell_below HB.out hw334_4), (pw_cell_below HB.out hw335_0), (pw_cell_below HB.out hw335_1), (pw_cell_below HB.out hw335_2), (pw_cell_below HB.out hw335_3), (pw_cell_below HB.out hw335_4)⟩ (fun hHeld => ?_); refine with_tabW rf_Check.tab16 rf_Check.bits16 (fun HT_ HW_ => ?_)
                generalize wr.drew = w23 at HO_7 HO_8 HO_13 HB HR334_3 HR334_4 HR335_3 HR335_4 hx334_0 hx334_1 hx334_2 hx334_3 hx334_4 hx335_0 hx335_1 hx335_2 hx335_3 hx335_4 hHeld ⊢
                refine pure_ (i := 0) (N := some 64) (v := ?_) (a' := ?_) #[true, false, false, false, false, false, false, false, false, false, false, false, false] rfl rfl (any_of HT_.out (by kernel_rfl)) (fun _ _ _ h => h) (Or.inl ⟨by rfl, ?_⟩) ?_ ?_
                rotate_left
                ·intro w'
                 go_simp
                 with_reducible rfl
                rotate_left
                ·simp only [Act.put, List.setIfInBounds_toArray, List.set_cons_zero, List.set_cons_succ, i64_w, i32_w]
                 rfl
                refine pure_ (i := 1) (N := some 65) (v := ?_) (a' := ?_) #[true, true, false, false, false, false, false, false, false, false, false, false, false] rfl rfl (any_of HT_.out (by kernel_rfl)) (fun _ _ _ h => h) (Or.inl ⟨by rfl, ?_⟩) ?_ ?_
                rotate_left
                ·intro w'
                 go_simp
                 with_reducible rfl
                rotate_left
                ·simp only [Act.put, List.setIfInBounds_toArray, List.set_cons_zero, List.set_cons_succ, i64_w, i32_w]
                 rfl
                refine pure_ (i := 2) (N := some 66) (v := ?_) (a' := ?_) #[true, true, true, false, false, false, false, false, false, false, false, false, false] rfl rfl (any_of HT_.out (by kernel_rfl)) (fun _ _ _ h => h) (Or.inl ⟨by rfl, ?_⟩) ?_ ?_
                rotate_left
                ·intro w'
                 go_simp
                 with_reducible rfl
                rotate_left
                ·simp only [Act.put, List.setIfInBounds_toArray, List.set_cons_zero, List.set_cons_succ, i64_w, i32_w]
                 rfl
                refine pure_ (i := 3) (N := some 67) (v := ?_) (a' := ?_) #[true, true, true, true, false, false, false, false, false, false, false, false, false] rfl rfl (any_of HT_.out (by kernel_rfl)) (fun _ _ _ h => h) (Or.inl ⟨by rfl, ?_⟩) ?_ ?_
                rotate_left
                ·intro w'
                 go_simp
                 with_reducible rfl
                rotate_left
                ·simp only [Act.put, List.setIfInBounds_toArray, List.set_cons_zero, List.set_cons_succ, i64_w, i32_w]
                 rfl
                refine pure_ (i := 4) (N := some 68) (v := ?_) (a' := ?_) #[true, true, true, true, true, false, false, false, false, false, false, false, false] rfl rfl (any_of HT_.out (by kernel_rfl)) (fun _ _ _ h => h) (Or.inl ⟨by rfl, ?_⟩) ?_ ?_
                rotate_left
                ·intro w'
                 go_simp
                 with_reducible rfl
                rotate_left
                ·simp only [Act.put, List.setIfInBounds_toArray, List.set_cons_zero, List.set_cons_succ, i64_w, i32_w]
                 rfl
                refine pure_ (i := 6) (N := some 70) (v := ?_) (a' := ?_) #[true, true, true, true, true, false, true, false, false, false, false, false, false] rfl rfl (any_of HT_.out (by kernel_rfl)) (fun _ _ _ h => h) (Or.inl ⟨by rfl, ?_⟩) ?_ ?_
                rotate_left
                ·intro w'
                 go_simp
                 with_reducible rfl
                rotate_left
                ·simp only [Act.put, List.setIfInBounds_toArray, List.set_cons_zero, List.set_cons_succ, i64_w, i32_w]
                 rfl
                refine pure_ (i := 7) (N := some 71) (v := ?_) (a' := ?_) #[true, true, true, true, true, false, true, true, false, false, false, false, false] rfl rfl (any_of HT_.out (by kernel_rfl)) (fun _ _ _ h => h) (Or.inl ⟨by rfl, ?_⟩) ?_ ?_
                rotate_left
                ·intro w'
                 go_simp
                 with_reducible rfl
                rotate_left
                ·simp only [Act.put, List.setIfInBounds_toArray, List.set_cons_zero, List.set_cons_succ, i64_w, i32_w]
                 rfl
                refine pure_ (i := 8) (N := some 72) (v := ?_) (a' := ?_) #[true, true, true, true, true, false, true, true, true, false, false, false, false] rfl rfl (any_of HT_.out (by kernel_rfl)) (fun _ _ _ h => h) (Or.inl ⟨by rfl, ?_⟩) ?_ ?_
                rotate_left
                ·intro w'
                 go_simp
                 with_reducible rfl
                rotate_left
                ·simp only [Act.put, List.setIfInBounds_toArray, List.set_cons_zero, List.set_cons_succ, i64_w, i32_w]
                 rfl
                refine pure_ (i := 9) (N := some 73) (v := ?_) (a' := ?_) #[true, true, true, true, true, false, true, true, true, true, false, false, false] rfl rfl (any_of HT_.out (by kernel_rfl)) (fun _ _ _ h => h) (Or.inl ⟨by rfl, ?_⟩) ?_ ?_
                rotate_left
                ·intro w'
                 go_simp
                 with_reducible rfl
                rotate_left
                ·simp only [Act.put, List.setIfInBounds_toArray, List.set_cons_zero, List.set_cons_succ, i64_w, i32_w]
                 rfl
                refine pure_ (i := 10) (N := some 74) (v := ?_) (a' := ?_) #[true, true, true, true, true, false, true, true, true, true, true, false, false] rfl rfl (any_of HT_.out (by kernel_rfl)) (fun _ _ _ h => h) (Or.inl ⟨by rfl, ?_⟩) ?_ ?_
                rotate_left
                ·intro w'
                 go_simp
                 with_reducible rfl
                rotate_left
                ·simp only [Act.put, List.setIfInBounds_toArray, List.set_cons_zero, List.set_cons_succ, i64_w, i32_w]
                 rfl
                refine take_ (i := 5) (N := some 69) (v := ?_) (a' := ?_) #[true, true, true, true, true, true, true, true, true, true, true, false, false] rfl rfl (take_ofW HT_.out HW_.out (by kernel_rfl)) (fun _ _ _ h => h) (Or.inl ⟨by rfl, ?_⟩) hHeld ?_ ?_
                rotate_left
                ·rintro w' ⟨s0, s1, s2, s3, s4, s5, s6, s7, s8, s9⟩
                 (try simp only [Int.toNat_natCast] at s0 s1 s2 s3 s4 s5 s6 s7 s8 s9)
                 go_simp
                 with_reducible rfl
                rotate_left
                ·simp only [Act.put, List.setIfInBounds_toArray, List.set_cons_zero, List.set_cons_succ, i64_w, i32_w]
                 rfl
                refine take_ (i := 11) (N := some 75) (v := ?_) (a' := ?_) #[true, true, true, true, true, true, true, true, true, true, true, true, false] rfl rfl (take_ofW HT_.out HW_.out (by kernel_rfl)) (fun _ _ _ h => h) (Or.inl ⟨by rfl, ?_⟩) hHeld ?_ ?_
                rotate_left
                ·rintro w' ⟨s0, s1, s2, s3, s4, s5, s6, s7, s8, s9⟩
                 (try simp only [Int.toNat_natCast] at s0 s1 s2 s3 s4 s5 s6 s7 s8 s9)
                 go_simp
                 with_reducible rfl
                rotate_left
                ·simp only [Act.put, List.setIfInBounds_toArray, List.set_cons_zero, List.set_cons_succ, i64_w, i32_w]
                 rfl
                refine pure_ (i := 12) (N := some 76) (v := ?_) (a' := ?_) #[true, true, true, true, true, true, true, true, true, true, true, true, true] rfl rfl (any_of HT_.out (by kernel_rfl)) (fun _ _ _ h => h) (Or.inl ⟨by rfl, ?_⟩) ?_ ?_
                rotate_left
                ·intro w'
                 go_simp
                 with_reducible rfl
                rotate_left
                ·simp only [Act.put, List.setIfInBounds_toArray, List.set_cons_zero, List.set_cons_succ, i64_w, i32_w]
                 rfl
                refine done_ (done_of HT_.out (by kernel_rfl)) ?_
                try go_wp2
                go_meet
                case rel => exact ⟨_, (x13_2), H', ⟨by have := HK1.out; have := HK2.out; first | omega | exact Nat.le_refl _⟩, ⟨by (with_reducible repeat (first | apply Kd.V_alloc | apply Kd.V_drewN | apply Kd.V_drew)); (first | exact HO_7.out | exact Kd.V_mono HO_7.out (fun _ hk => ⟨hk.2, hk.1⟩))⟩, ⟨by (with_reducible repeat (first | apply Kd.S_alloc | apply Kd.S_drewN | apply Kd.S_drew)); exact HO_8.out⟩, ⟨by (with_reducible repeat (first | apply Kd.R_alloc | apply Kd.R_drewN | apply Kd.R_drew)); exact HO_13.out⟩, ⟨by repeat (first | (with_reducible first | exact HB.out | apply below_alloc | apply pw_below_drewN | apply below_drew1) | exact HB.out)⟩⟩
               ·rw [if_neg c22] at H
                have c22b0 : (((rd_T46 l1 x14_2).f0.f0).toList == ((rd_T46 l1 x9_1).f0.f0).toList) = false := beq_eq_false_iff_ne.mpr c22
                have c22b1 : (((rd_T46 l1 x14_2).f0.f0).toList != ((rd_T46 l1 x9_1).f0.f0).toList) = true := bne_iff_ne.mpr c22
                by_cases c24 : x13_2.length < 5864062014805
                ·rw [if_pos c24] at H
                 have LMc24 := Aside0.mk c24
                 clear c24
                 obtain ⟨y338, hy338⟩ : ∃ y_ : List (S52), y_ = (x13_2 ++ [(⟨303, (rd_T46 l1 x9_1).f0.f1, (rd_T46 l1 x9_1).f0.f2⟩ : S52)]) := ⟨_, rfl⟩
                 replace H : (rf_Check.j2 k2 l0 l1 t317 x8_1 x9_1 t324 y338) = some (r1, r2) := by first | (rw [hy338]; with_reducible exact H) | (have H2_ := (Option.bind_some _ _).symm.trans H; rw [hy338]; with_reducible exact H2_) | (have H2_ := (Option.bind_some _ _).symm.trans H; with_reducible exact H2_) | with_reducible exact H | (rw [hy338]; exact H) | exact H
                 have Ny338 := Aside0.mk hy338
                 clear hy338
                 have H' := Aside0.mk H
                 clear H
                 have p330 : 0 ≤ (x14_2 : Int) := of_decide_eq_true (by first | (with_reducible assumption) | assumption)
                 have q330 : x14_2 < (l0.length : Int) := of_decide_eq_true (by first | (with_reducible assumption) | assumption)
                 obtain ⟨ad330, e330, hx330_0⟩ := Kd.at_string HR0.out x14_2 p330 q330
                 obtain rfl : ad323 = ad330 := (by injection e330)
                 replace hx330_0 := pw_cell_below HB.out hx330_0
                 replace p330 := eq_true p330
                 replace q330 := eq_true q330
                 try go_wp2_with (first | ((with_reducible refine gate_callee (f := 9) rfl ?_); refine goesL_ (some 57) rfl rfl Tryd.func9 (by kernel_rfl) rfl #[.string (rdOf ByteArray.empty l0 x14_2)] rfl (by (try simp only [List.map_toArray, List.map_cons, List.map_nil]); first | done | rfl | (simp only [List.length_drop, List.length_take]; rfl)) ?_; (with_reducible refine (scholiastref13_Split.calls k2 (rdOf ByteArray.empty l0 x14_2) t331 t332 t333 _ A17.out).mono ?_); rintro e w' ⟨rfl, ⟨nd, rfl⟩⟩; refine ⟨_, rfl, ?_⟩))
                 (try (rw [drewN_self wr]; generalize hq_ : World.drewN wr _ = wr; have n0_ : Aside0 (Kd.R k52 52 wr w.heap.size (fun _ => True) u13 x13_2) := ⟨by rw [← hq_]; exact (by (with_reducible repeat (first | apply Kd.R_alloc | apply Kd.R_drewN | apply Kd.R_drew)); exact HO_13.out)⟩; have n1_ : Aside0 (Kd.V Kd.string 9 wr w.heap.size (fun k_ => some k_ ≠ (u13 : Value).ownBlock ∧ some k_ ≠ (u8 : Value).ownBlock) v318 t317) := ⟨by rw [← hq_]; exact (by (with_reducible repeat (first | apply Kd.V_alloc | apply Kd.V_drewN | apply Kd.V_drew)); exact Kd.V_mono HO_7.out (fun _ hk => ⟨hk.2, hk.1⟩))⟩; have n2_ : Aside0 (Kd.S (Kd.slice 52 k52) 49 wr w.heap.size (fun k_ => some k_ ≠ (u13 : Value).ownBlock) u8 x8_1) := ⟨by rw [← hq_]; exact (by (with_reducible repeat (first | apply Kd.S_alloc | apply Kd.S_drewN | apply Kd.S_drew)); exact HO_8.out)⟩; have n3_ : Aside0 (Below w.heap.size w wr) := ⟨by rw [← hq_]; exact (by repeat (first | (with_reducible first | exact HB.out | apply below_alloc | apply pw_below_drewN | apply below_drew1) | exact HB.out))⟩; clear HO_13 HO_7 HO_8 HB hq_; have HO_13 := n0_; have HO_7 := n1_; have HO_8 := n2_; have HB := n3_; clear n0_ n1_ n2_ n3_))
                 have n0_ := Aside0.mk (Kd.V_drew HO_7.out)
                 have n1_ := Aside0.mk (Kd.S_drew HO_8.out)
                 have n2_ := Aside0.mk (Kd.R_drew HO_13.out)
                 have n3_ := Aside0.mk (below_drew1 HB.out)
                 clear HO_7
                 clear HO_8
                 clear HO_13
                 clear HB
                 have HO_7 := n0_
                 have HO_8 := n1_
                 have HO_13 := n2_
                 have HB := n3_
                 clear n0_ n1_ n2_ n3_
                 have p334 : 0 ≤ (x14_2 : Int) := of_decide_eq_true (by first | (with_reducible assumption) | assumption)
                 have q334 : x14_2 < (l1.length : Int) := of_decide_eq_true (by first | (with_reducible assumption) | assumption)
                 obtain ⟨ad334, A334_3, c334_3, A334_4, c334_4, e334, hx334_0, hx334_1, hx334_2, hx334_3, hx334_4, hl334_3, hi334_3, hl334_4, hi334_4⟩ := at_T46 HR1.out x14_2 p334 q334
                 have hw334_4 := hx334_4
                 have hw334_3 := hx334_3
                 have hw334_2 := hx334_2
                 have hw334_1 := hx334_1
                 have hw334_0 := hx334_0
                 cases e334
                 replace hx334_0 := pw_cell_below HB.out hx334_0
                 replace hx334_1 := pw_cell_below HB.out hx334_1
                 replace hx334_2 := pw_cell_below HB.out hx334_2
                 replace hx334_3 := pw_cell_below HB.out hx334_3
                 replace hx334_4 := pw_cell_below HB.out hx334_4
                 have HR334_3 := Aside0.mk hi334_3
                 have HC334_3 := Aside0.mk hl334_3
                 clear hi334_3 hl334_3
                 have HR334_4 := Aside0.mk hi334_4
                 have HC334_4 := Aside0.mk hl334_4
                 clear hi334_4 hl334_4
                 replace p334 := eq_true p334
                 replace q334 := eq_true q334
                 have p335 : 0 ≤ (x9_1 : Int) := of_decide_eq_true (by first | (with_reducible assumption) | assumption)
                 have q335 : x9_1 < (l1.length : Int) := of_decide_eq_true (by first | (with_reducible assumption) | assumption)
                 obtain ⟨ad335, A335_3, c335_3, A335_4, c335_4, e335, hx335_0, hx335_1, hx335_2, hx335_3, hx335_4, hl335_3, hi335_3, hl335_4, hi335_4⟩ := at_T46 HR1.out x9_1 p335 q335
                 have hw335_4 := hx335_4
                 have hw335_3 := hx335_3
                 have hw335_2 := hx335_2
                 have hw335_1 := hx335_1
                 have hw335_0 := hx335_0
                 obtain rfl : ad334 = ad335 := (by injection e335)
                 replace hx335_0 := pw_cell_below HB.out hx335_0
                 replace hx335_1 := pw_cell_below HB.out hx335_1
                 replace hx335_2 := pw_cell_below HB.out hx335_2
                 replace hx335_3 := pw_cell_below HB.out hx335_3
                 replace hx335_4 := pw_cell_below HB.out hx335_4
                 have HR335_3 := Aside0.mk hi335_3
                 have HC335_3 := Aside0.mk hl335_3
                 clear hi335_3 hl335_3
                 have HR335_4 := Aside0.mk hi335_4
                 have HC335_4 := Aside0.mk hl335_4
                 clear hi335_4 hl335_4
                 replace p335 := eq_true p335
                 replace q335 := eq_true q335
                 refine start_ (n := 13) (S := fun w' => w'.cell? (ad334.add ((x14_2).toNat * 5)) = some (.string ((rd_T46 l1 x14_2).f0.f0)) ∧ w'.cell? ⟨(ad334.add ((x14_2).toNat * 5)).block, (ad334.add ((x14_2).toNat * 5)).off + 1, none⟩ = some (.int .i64 ((rd_T46 l1 x14_2).f0.f1)) ∧ w'.cell? ⟨(ad334.add ((x14_2).toNat * 5)).block, (ad334.add ((x14_2).toNat * 5)).off + 2, none⟩ = some (.int .i64 ((rd_T46 l1 x14_2).f0.f2)) ∧ w'.cell? ⟨(ad334.add ((x14_2).toNat * 5)).block, (ad334.add ((x14_2).toNat * 5)).off + 3, none⟩ = some (.slice A334_3 ((rd_T46 l1 x14_2).f1).length c334_3) ∧ w'.cell? ⟨(ad334.add ((x14_2).toNat * 5)).block, (ad334.add ((x14_2).toNat * 5)).off + 4, none⟩ = some (.slice A334_4 ((rd_T46 l1 x14_2).f2).length c334_4) ∧ w'.cell? (ad334.add ((x9_1).toNat * 5)) = some (.string ((rd_T46 l1 x9_1).f0.f0)) ∧ w'.cell? ⟨(ad334.add ((x9_1).toNat * 5)).block, (ad334.add ((x9_1).toNat * 5)).off + 1, none⟩ = some (.int .i64 ((rd_T46 l1 x9_1).f0.f1)) ∧ w'.cell? ⟨(ad334.add ((x9_1).toNat * 5)).block, (ad334.add ((x9_1).toNat * 5)).off + 2, none⟩ = some (.int .i64 ((rd_T46 l1 x9_1).f0.f2)) ∧ w'.cell? ⟨(ad334.add ((x9_1).toNat * 5)).block, (ad334.add ((x9_1).toNat * 5)).off + 3, none⟩ = some (.slice A335_3 ((rd_T46 l1 x9_1).f1).length c335_3) ∧ w'.cell? ⟨(ad334.add ((x9_1).toNat * 5)).block, (ad334.add ((x9_1).toNat * 5)).off + 4, none⟩ = some (.slice A335_4 ((rd_T46 l1 x9_1).f2).length c335_4)) (ds := []) #[false, false, false, false, false, false, false, false, false, false, false, false, false] (by kernel_rfl) rfl rfl ⟨(pw_cell_below HB.out hw334_0), (pw_cell_below HB.out hw334_1), (pw_cell_below HB.out hw334_2), (pw_cell_below HB.out hw334_3), (pw_cell_below HB.out hw334_4), (pw_cell_below HB.out hw335_0), (pw_cell_below HB.out hw335_1), (pw_cell_below HB.out hw335_2), (pw_cell_below HB.out hw335_3), (pw_cell_below HB.out hw335_4)⟩ (fun hHeld => ?_); refine with_tabW rf_Check.tab16 rf_Check.bits16 (fun HT_ HW_ => ?_)
                 generalize wr.drew = w25 at HO_7 HO_8 HO_13 HB HR334_3 HR334_4 HR335_3 HR335_4 hx334_0 hx334_1 hx334_2 hx334_3 hx334_4 hx335_0 hx335_1 hx335_2 hx335_3 hx335_4 hHeld ⊢
                 refine pure_ (i := 0) (N := some 64) (v := ?_) (a' := ?_) #[true, false, false, false, false, false, false, false, false, false, false, false, false] rfl rfl (any_of HT_.out (by kernel_rfl)) (fun _ _ _ h => h) (Or.inl ⟨by rfl, ?_⟩) ?_ ?_
                 rotate_left
                 ·intro w'
                  go_simp
                  with_reducible rfl
                 rotate_left
                 ·simp only [Act.put, List.setIfInBounds_toArray, List.set_cons_zero, List.set_cons_succ, i64_w, i32_w]
                  rfl
                 refine pure_ (i := 1) (N := some 65) (v := ?_) (a' := ?_) #[true, true, false, false, false, false, false, false, false, false, false, false, false] rfl rfl (any_of HT_.out (by kernel_rfl)) (fun _ _ _ h => h) (Or.inl ⟨by rfl, ?_⟩) ?_ ?_
                 rotate_left
                 ·intro w'
                  go_simp
                  with_reducible rfl
                 rotate_left
                 ·simp only [Act.put, List.setIfInBounds_toArray, List.set_cons_zero, List.set_cons_succ, i64_w, i32_w]
                  rfl
                 refine pure_ (i := 2) (N := some 66) (v := ?_) (a' := ?_) #[true, true, true, false, false, false, false, false, false, false, false, false, false] rfl rfl (any_of HT_.out (by kernel_rfl)) (fun _ _ _ h => h) (Or.inl ⟨by rfl, ?_⟩) ?_ ?_
                 rotate_left
                 ·intro w'
                  go_simp
                  with_reducible rfl
                 rotate_left
                 ·simp only [Act.put, List.setIfInBounds_toArray, List.set_cons_zero, List.set_cons_succ, i64_w, i32_w]
                  rfl
                 refine pure_ (i := 3) (N := some 67) (v := ?_) (a' := ?_) #[true, true, true, true, false, false, false, false, false, false, false, false, false] rfl rfl (any_of HT_.out (by kernel_rfl)) (fun _ _ _ h => h) (Or.inl ⟨by rfl, ?_⟩) ?_ ?_
                 rotate_left
                 ·intro w'
                  go_simp
                  with_reducible rfl
                 rotate_left
                 ·simp only [Act.put, List.setIfInBounds_toArray, List.set_cons_zero, List.set_cons_succ, i64_w, i32_w]
                  rfl
                 refine pure_ (i := 4) (N := some 68) (v := ?_) (a' := ?_) #[true, true, true, true, true, false, false, false, false, false, false, false, false] rfl rfl (any_of HT_.out (by kernel_rfl)) (fun _ _ _ h => h) (Or.inl ⟨by rfl, ?_⟩) ?_ ?_
                 rotate_left
                 ·intro w'
                  go_simp
                  with_reducible rfl
                 rotate_left
                 ·simp only [Act.put, List.setIfInBounds_toArray, List.set_cons_zero, List.set_cons_succ, i64_w, i32_w]
                  rfl
                 refine pure_ (i := 6) (N := some 70) (v := ?_) (a' := ?_) #[true, true, true, true, true, false, true, false, false, false, false, false, false] rfl rfl (any_of HT_.out (by kernel_rfl)) (fun _ _ _ h => h) (Or.inl ⟨by rfl, ?_⟩) ?_ ?_
                 rotate_left
                 ·intro w'
                  go_simp
                  with_reducible rfl
                 rotate_left
                 ·simp only [Act.put, List.setIfInBounds_toArray, List.set_cons_zero, List.set_cons_succ, i64_w, i32_w]
                  rfl
                 refine pure_ (i := 7) (N := some 71) (v := ?_) (a' := ?_) #[true, true, true, true, true, false, true, true, false, false, false, false, false] rfl rfl (any_of HT_.out (by kernel_rfl)) (fun _ _ _ h => h) (Or.inl ⟨by rfl, ?_⟩) ?_ ?_
                 rotate_left
                 ·intro w'
                  go_simp
                  with_reducible rfl
                 rotate_left
                 ·simp only [Act.put, List.setIfInBounds_toArray, List.set_cons_zero, List.set_cons_succ, i64_w, i32_w]
                  rfl
                 refine pure_ (i := 8) (N := some 72) (v := ?_) (a' := ?_) #[true, true, true, true, true, false, true, true, true, false, false, false, false] rfl rfl (any_of HT_.out (by kernel_rfl)) (fun _ _ _ h => h) (Or.inl ⟨by rfl, ?_⟩) ?_ ?_
                 rotate_left
                 ·intro w'
                  go_simp
                  with_reducible rfl
                 rotate_left
                 ·simp only [Act.put, List.setIfInBounds_toArray, List.set_cons_zero, List.set_cons_succ, i64_w, i32_w]
                  rfl
                 refine pure_ (i := 9) (N := some 73) (v := ?_) (a' := ?_) #[true, true, true, true, true, false, true, true, true, true, false, false, false] rfl rfl (any_of HT_.out (by kernel_rfl)) (fun _ _ _ h => h) (Or.inl ⟨by rfl, ?_⟩) ?_ ?_
                 rotate_left
                 ·intro w'
                  go_simp
                  with_reducible rfl
                 rotate_left
                 ·simp only [Act.put, List.setIfInBounds_toArray, List.set_cons_zero, List.set_cons_succ, i64_w, i32_w]
                  rfl
                 refine pure_ (i := 10) (N := some 74) (v := ?_) (a' := ?_) #[true, true, true, true, true, false, true, true, true, true, true, false, false] rfl rfl (any_of HT_.out (by kernel_rfl)) (fun _ _ _ h => h) (Or.inl ⟨by rfl, ?_⟩) ?_ ?_
                 rotate_left
                 ·intro w'
                  go_simp
                  with_reducible rfl
                 rotate_left
                 ·simp only [Act.put, List.setIfInBounds_toArray, List.set_cons_zero, List.set_cons_succ, i64_w, i32_w]
                  rfl
                 refine take_ (i := 5) (N := some 69) (v := ?_) (a' := ?_) #[true, true, true, true, true, true, true, true, true, true, true, false, false] rfl rfl (take_ofW HT_.out HW_.out (by kernel_rfl)) (fun _ _ _ h => h) (Or.inl ⟨by rfl, ?_⟩) hHeld ?_ ?_
                 rotate_left
                 ·rintro w' ⟨s0, s1, s2, s3, s4, s5, s6, s7, s8, s9⟩
                  (try simp only [Int.toNat_natCast] at s0 s1 s2 s3 s4 s5 s6 s7 s8 s9)
                  go_simp
                  with_reducible rfl
                 rotate_left
                 ·simp only [Act.put, List.setIfInBounds_toArray, List.set_cons_zero, List.set_cons_succ, i64_w, i32_w]
                  rfl
                 refine take_ (i := 11) (N := some 75) (v := ?_) (a' := ?_) #[true, true, true, true, true, true, true, true, true, true, true, true, false] rfl rfl (take_ofW HT_.out HW_.out (by kernel_rfl)) (fun _ _ _ h => h) (Or.inl ⟨by rfl, ?_⟩) hHeld ?_ ?_
                 rotate_left
                 ·rintro w' ⟨s0, s1, s2, s3, s4, s5, s6, s7, s8, s9⟩
                  (try simp only [Int.toNat_natCast] at s0 s1 s2 s3 s4 s5 s6 s7 s8 s9)
                  go_simp
                  with_reducible rfl
                 rotate_left
                 ·simp only [Act.put, List.setIfInBounds_toArray, List.set_cons_zero, List.set_cons_succ, i64_w, i32_w]
                  rfl
                 refine pure_ (i := 12) (N := some 76) (v := ?_) (a' := ?_) #[true, true, true, true, true, true, true, true, true, true, true, true, true] rfl rfl (any_of HT_.out (by kernel_rfl)) (fun _ _ _ h => h) (Or.inl ⟨by rfl, ?_⟩) ?_ ?_
                 rotate_left
                 ·intro w'
                  go_simp
                  with_reducible rfl
                 rotate_left
                 ·simp only [Act.put, List.setIfInBounds_toArray, List.set_cons_zero, List.set_cons_succ, i64_w, i32_w]
                  rfl
                 refine done_ (done_of HT_.out (by kernel_rfl)) ?_
                 try go_wp2
                 have n0_ := Aside0.mk (Kd.V_drew HO_7.out)
                 have n1_ := Aside0.mk (Kd.S_drew HO_8.out)
                 have n2_ := Aside0.mk (Kd.R_drew HO_13.out)
                 have n3_ := Aside0.mk (below_drew1 HB.out)
                 clear HO_7
                 clear HO_8
                 clear HO_13
                 clear HB
                 have HO_7 := n0_
                 have HO_8 := n1_
                 have HO_13 := n2_
                 have HB := n3_
                 clear n0_ n1_ n2_ n3_
                 have p336 : 0 ≤ (x9_1 : Int) := of_decide_eq_true (by first | (with_reducible assumption) | assumption)
                 have q336 : x9_1 < (l1.length : Int) := of_decide_eq_true (by first | (with_reducible assumption) | assumption)
                 obtain ⟨ad336, A336_3, c336_3, A336_4, c336_4, e336, hx336_0, hx336_1, hx336_2, hx336_3, hx336_4, hl336_3, hi336_3, hl336_4, hi336_4⟩ := at_T46 HR1.out x9_1 p336 q336
                 have hw336_4 := hx336_4
                 have hw336_3 := hx336_3
                 have hw336_2 := hx336_2
                 have hw336_1 := hx336_1
                 have hw336_0 := hx336_0
                 obtain rfl : ad334 = ad336 := (by injection e336)
                 replace hx336_0 := pw_cell_below HB.out hx336_0
                 replace hx336_1 := pw_cell_below HB.out hx336_1
                 replace hx336_2 := pw_cell_below HB.out hx336_2
                 replace hx336_3 := pw_cell_below HB.out hx336_3
                 replace hx336_4 := pw_cell_below HB.out hx336_4
                 have HR336_3 := Aside0.mk hi336_3
                 have HC336_3 := Aside0.mk hl336_3
                 clear hi336_3 hl336_3
                 have HR336_4 := Aside0.mk hi336_4
                 have HC336_4 := Aside0.mk hl336_4
                 clear hi336_4 hl336_4
                 replace p336 := eq_true p336
                 replace q336 := eq_true q336
                 have p337 : 0 ≤ (x9_1 : Int) := of_decide_eq_true (by first | (with_reducible assumption) | assumption)
                 have q337 : x9_1 < (l1.length : Int) := of_decide_eq_true (by first | (with_reducible assumption) | assumption)
                 obtain ⟨ad337, A337_3, c337_3, A337_4, c337_4, e337, hx337_0, hx337_1, hx337_2, hx337_3, hx337_4, hl337_3, hi337_3, hl337_4, hi337_4⟩ := at_T46 HR1.out x9_1 p337 q337
                 have hw337_4 := hx337_4
                 have hw337_3 := hx337_3
                 have hw337_2 := hx337_2
                 have hw337_1 := hx337_1
                 have hw337_0 := hx337_0
                 obtain rfl : ad334 = ad337 := (by injection e337)
                 replace hx337_0 := pw_cell_below HB.out hx337_0
                 replace hx337_1 := pw_cell_below HB.out hx337_1
                 replace hx337_2 := pw_cell_below HB.out hx337_2
                 replace hx337_3 := pw_cell_below HB.out hx337_3
                 replace hx337_4 := pw_cell_below HB.out hx337_4
                 have HR337_3 := Aside0.mk hi337_3
                 have HC337_3 := Aside0.mk hl337_3
                 clear hi337_3 hl337_3
                 have HR337_4 := Aside0.mk hi337_4
                 have HC337_4 := Aside0.mk hl337_4
                 clear hi337_4 hl337_4
                 replace p337 := eq_true p337
                 replace q337 := eq_true q337
                 have ea_ := Option.some.inj (hx336_3.symm.trans hx337_3)
                 injection ea_ with ea_ en_ ec_
                 subst ea_
                 subst ec_
                 clear en_
                 have ea_ := Option.some.inj (hx336_4.symm.trans hx337_4)
                 injection ea_ with ea_ en_ ec_
                 subst ea_
                 subst ec_
                 clear en_
                 refine start_ (n := 17) (S := fun w' => w'.cell? (ad334.add ((x9_1).toNat * 5)) = some (.string ((rd_T46 l1 x9_1).f0.f0)) ∧ w'.cell? ⟨(ad334.add ((x9_1).toNat * 5)).block, (ad334.add ((x9_1).toNat * 5)).off + 1, none⟩ = some (.int .i64 ((rd_T46 l1 x9_1).f0.f1)) ∧ w'.cell? ⟨(ad334.add ((x9_1).toNat * 5)).block, (ad334.add ((x9_1).toNat * 5)).off + 2, none⟩ = some (.int .i64 ((rd_T46 l1 x9_1).f0.f2)) ∧ w'.cell? ⟨(ad334.add ((x9_1).toNat * 5)).block, (ad334.add ((x9_1).toNat * 5)).off + 3, none⟩ = some (.slice A336_3 ((rd_T46 l1 x9_1).f1).length c336_3) ∧ w'.cell? ⟨(ad334.add ((x9_1).toNat * 5)).block, (ad334.add ((x9_1).toNat * 5)).off + 4, none⟩ = some (.slice A336_4 ((rd_T46 l1 x9_1).f2).length c336_4) ∧ w'.cell? (ad334.add ((x9_1).toNat * 5)) = some (.string ((rd_T46 l1 x9_1).f0.f0)) ∧ w'.cell? ⟨(ad334.add ((x9_1).toNat * 5)).block, (ad334.add ((x9_1).toNat * 5)).off + 1, none⟩ = some (.int .i64 ((rd_T46 l1 x9_1).f0.f1)) ∧ w'.cell? ⟨(ad334.add ((x9_1).toNat * 5)).block, (ad334.add ((x9_1).toNat * 5)).off + 2, none⟩ = some (.int .i64 ((rd_T46 l1 x9_1).f0.f2)) ∧ w'.cell? ⟨(ad334.add ((x9_1).toNat * 5)).block, (ad334.add ((x9_1).toNat * 5)).off + 3, none⟩ = some (.slice A336_3 ((rd_T46 l1 x9_1).f1).length c336_3) ∧ w'.cell? ⟨(ad334.add ((x9_1).toNat * 5)).block, (ad334.add ((x9_1).toNat * 5)).off + 4, none⟩ = some (.slice A336_4 ((rd_T46 l1 x9_1).f2).length c336_4)) (ds := []) #[false, false, false, false, false, false, false, false, false, false, false, false, false, false, false, false, false] (by kernel_rfl) rfl rfl ⟨(pw_cell_below HB.out hw336_0), (pw_cell_below HB.out hw336_1), (pw_cell_below HB.out hw336_2), (pw_cell_below HB.out hw336_3), (pw_cell_below HB.out hw336_4), (pw_cell_below HB.out hw337_0), (pw_cell_below HB.out hw337_1), (pw_cell_below HB.out hw337_2), (pw_cell_below HB.out hw337_3), (pw_cell_below HB.out hw337_4)⟩ (fun hHeld => ?_); refine with_tabW rf_Check.tab17 rf_Check.bits17 (fun HT_ HW_ => ?_)
                 generalize w25.drew = w26 at HO_7 HO_8 HO_13 HB HR336_3 HR336_4 HR337_3 HR337_4 hx336_0 hx336_1 hx336_2 hx336_3 hx336_4 hx337_0 hx337_1 hx337_2 hx337_3 hx337_4 hHeld ⊢
                 refine pure_ (i := 0) (N := some 77) (v := ?_) (a' := ?_) #[true, false, false, false, false, false, false, false, false, false, false, false, false, false, false, false, false] rfl rfl (any_of HT_.out (by kernel_rfl)) (fun _ _ _ h => h) (Or.inl ⟨by rfl, ?_⟩) ?_ ?_
                 rotate_left
                 ·intro w'
                  go_simp
                  with_reducible rfl
                 rotate_left
                 ·simp only [Act.put, List.setIfInBounds_toArray, List.set_cons_zero, List.set_cons_succ, i64_w, i32_w]
                  rfl
                 refine pure_ (i := 1) (N := some 78) (v := ?_) (a' := ?_) #[true, true, false, false, false, false, false, false, false, false, false, false, false, false, false, false, false] rfl rfl (any_of HT_.out (by kernel_rfl)) (fun _ _ _ h => h) (Or.inl ⟨by rfl, ?_⟩) ?_ ?_
                 rotate_left
                 ·intro w'
                  go_simp
                  with_reducible rfl
                 rotate_left
                 ·simp only [Act.put, List.setIfInBounds_toArray, List.set_cons_zero, List.set_cons_succ, i64_w, i32_w]
                  rfl
                 refine pure_ (i := 2) (N := some 79) (v := ?_) (a' := ?_) #[true, true, true, false, false, false, false, false, false, false, false, false, false, false, false, false, false] rfl rfl (any_of HT_.out (by kernel_rfl)) (fun _ _ _ h => h) (Or.inl ⟨by rfl, ?_⟩) ?_ ?_
                 rotate_left
                 ·intro w'
                  go_simp
                  with_reducible rfl
                 rotate_left
                 ·simp only [Act.put, List.setIfInBounds_toArray, List.set_cons_zero, List.set_cons_succ, i64_w, i32_w]
                  rfl
                 refine pure_ (i := 3) (N := some 80) (v := ?_) (a' := ?_) #[true, true, true, true, false, false, false, false, false, false, false, false, false, false, false, false, false] rfl rfl (any_of HT_.out (by kernel_rfl)) (fun _ _ _ h => h) (Or.inl ⟨by rfl, ?_⟩) ?_ ?_
                 rotate_left
                 ·intro w'
                  go_simp
                  with_reducible rfl
                 rotate_left
                 ·simp only [Act.put, List.setIfInBounds_toArray, List.set_cons_zero, List.set_cons_succ, i64_w, i32_w]
                  rfl
                 refine pure_ (i := 4) (N := some 81) (v := ?_) (a' := ?_) #[true, true, true, true, true, false, false, false, false, false, false, false, false, false, false, false, false] rfl rfl (any_of HT_.out (by kernel_rfl)) (fun _ _ _ h => h) (Or.inl ⟨by rfl, ?_⟩) ?_ ?_
                 rotate_left
                 ·intro w'
                  go_simp
                  with_reducible rfl
                 rotate_left
                 ·simp only [Act.put, List.setIfInBounds_toArray, List.set_cons_zero, List.set_cons_succ, i64_w, i32_w]
                  rfl
                 refine pure_ (i := 5) (N := some 82) (v := ?_) (a' := ?_) #[true, true, true, true, true, true, false, false, false, false, false, false, false, false, false, false, false] rfl rfl (any_of HT_.out (by kernel_rfl)) (fun _ _ _ h => h) (Or.inl ⟨by rfl, ?_⟩) ?_ ?_
                 rotate_left
                 ·intro w'
                  go_simp
                  with_reducible rfl
                 rotate_left
                 ·simp only [Act.put, List.setIfInBounds_toArray, List.set_cons_zero, List.set_cons_succ, i64_w, i32_w]
                  rfl
                 refine pure_ (i := 7) (N := some 84) (v := ?_) (a' := ?_) #[true, true, true, true, true, true, false, true, false, false, false, false, false, false, false, false, false] rfl rfl (any_of HT_.out (by kernel_rfl)) (fun _ _ _ h => h) (Or.inl ⟨by rfl, ?_⟩) ?_ ?_
                 rotate_left
                 ·intro w'
                  go_simp
                  with_reducible rfl
                 rotate_left
                 ·simp only [Act.put, List.setIfInBounds_toArray, List.set_cons_zero, List.set_cons_succ, i64_w, i32_w]
                  rfl
                 refine pure_ (i := 8) (N := some 85) (v := ?_) (a' := ?_) #[true, true, true, true, true, true, false, true, true, false, false, false, false, false, false, false, false] rfl rfl (any_of HT_.out (by kernel_rfl)) (fun _ _ _ h => h) (Or.inl ⟨by rfl, ?_⟩) ?_ ?_
                 rotate_left
                 ·intro w'
                  go_simp
                  with_reducible rfl
                 rotate_left
                 ·simp only [Act.put, List.setIfInBounds_toArray, List.set_cons_zero, List.set_cons_succ, i64_w, i32_w]
                  rfl
                 refine pure_ (i := 9) (N := some 86) (v := ?_) (a' := ?_) #[true, true, true, true, true, true, false, true, true, true, false, false, false, false, false, false, false] rfl rfl (any_of HT_.out (by kernel_rfl)) (fun _ _ _ h => h) (Or.inl ⟨by rfl, ?_⟩) ?_ ?_
                 rotate_left
                 ·intro w'
                  go_simp
                  with_reducible rfl
                 rotate_left
                 ·simp only [Act.put, List.setIfInBounds_toArray, List.set_cons_zero, List.set_cons_succ, i64_w, i32_w]
                  rfl
                 refine pure_ (i := 10) (N := some 87) (v := ?_) (a' := ?_) #[true, true, true, true, true, true, false, true, true, true, true, false, false, false, false, false, false] rfl rfl (any_of HT_.out (by kernel_rfl)) (fun _ _ _ h => h) (Or.inl ⟨by rfl, ?_⟩) ?_ ?_
                 rotate_left
                 ·intro w'
                  go_simp
                  with_reducible rfl
                 rotate_left
                 ·simp only [Act.put, List.setIfInBounds_toArray, List.set_cons_zero, List.set_cons_succ, i64_w, i32_w]
                  rfl
                 refine pure_ (i := 11) (N := some 88) (v := ?_) (a' := ?_) #[true, true, true, true, true, true, false, true, true, true, true, true, false, false, false, false, false] rfl rfl (any_of HT_.out (by kernel_rfl)) (fun _ _ _ h => h) (Or.inl ⟨by rfl, ?_⟩) ?_ ?_
                 rotate_left
                 ·intro w'
                  go_simp
                  with_reducible rfl
                 rotate_left
                 ·simp only [Act.put, List.setIfInBounds_toArray, List.set_cons_zero, List.set_cons_succ, i64_w, i32_w]
                  rfl
                 refine take_ (i := 6) (N := some 83) (v := ?_) (a' := ?_) #[true, true, true, true, true, true, true, true, true, true, true, true, false, false, false, false, false] rfl rfl (take_ofW HT_.out HW_.out (by kernel_rfl)) (fun _ _ _ h => h) (Or.inl ⟨by rfl, ?_⟩) hHeld ?_ ?_
                 rotate_left
                 ·rintro w' ⟨s0, s1, s2, s3, s4, s5, s6, s7, s8, s9⟩
                  (try simp only [Int.toNat_natCast] at s0 s1 s2 s3 s4 s5 s6 s7 s8 s9)
                  go_simp
                  with_reducible rfl
                 rotate_left
                 ·simp only [Act.put, List.setIfInBounds_toArray, List.set_cons_zero, List.set_cons_succ, i64_w, i32_w]
                  rfl
                 refine take_ (i := 12) (N := some 89) (v := ?_) (a' := ?_) #[true, true, true, true, true, true, true, true, true, true, true, true, true, false, false, false, false] rfl rfl (take_ofW HT_.out HW_.out (by kernel_rfl)) (fun _ _ _ h => h) (Or.inl ⟨by rfl, ?_⟩) hHeld ?_ ?_
                 rotate_left
                 ·rintro w' ⟨s0, s1, s2, s3, s4, s5, s6, s7, s8, s9⟩
                  (try simp only [Int.toNat_natCast] at s0 s1 s2 s3 s4 s5 s6 s7 s8 s9)
                  go_simp
                  with_reducible rfl
                 rotate_left
                 ·simp only [Act.put, List.setIfInBounds_toArray, List.set_cons_zero, List.set_cons_succ, i64_w, i32_w]
                  rfl
                 refine pure_ (i := 13) (N := some 90) (v := ?_) (a' := ?_) #[true, true, true, true, true, true, true, true, true, true, true, true, true, true, false, false, false] rfl rfl (any_of HT_.out (by kernel_rfl)) (fun _ _ _ h => h) (Or.inl ⟨by rfl, ?_⟩) ?_ ?_
                 rotate_left
                 ·intro w'
                  go_simp
                  with_reducible rfl
                 rotate_left
                 ·simp only [Act.put, List.setIfInBounds_toArray, List.set_cons_zero, List.set_cons_succ, i64_w, i32_w]
                  rfl
                 refine one_ (i := 14) (N := some 91) #[true, true, true, true, true, true, true, true, true, true, true, true, true, true, true, false, false] rfl rfl (one_of HT_.out (by kernel_rfl)) (by decide) (fun K hK => ?_)
                 refine value_ (w1 := ?_) (v := ?_) (by rfl) rfl ?_ ?_
                 rotate_left 2
                 ·go_simp
                  constructor
                  ·rfl
                  ·rfl
                 refine hK.out _ _ ⟨(World.cell?_alloc_lt _ _ _ (World.block_lt_of_cell? _ _ ((pw_cell_below HB.out hw336_0)))).trans ((pw_cell_below HB.out hw336_0)), (World.cell?_alloc_lt _ _ _ (World.block_lt_of_cell? _ _ ((pw_cell_below HB.out hw336_1)))).trans ((pw_cell_below HB.out hw336_1)), (World.cell?_alloc_lt _ _ _ (World.block_lt_of_cell? _ _ ((pw_cell_below HB.out hw336_2)))).trans ((pw_cell_below HB.out hw336_2)), (World.cell?_alloc_lt _ _ _ (World.block_lt_of_cell? _ _ ((pw_cell_below HB.out hw336_3)))).trans ((pw_cell_below HB.out hw336_3)), (World.cell?_alloc_lt _ _ _ (World.block_lt_of_cell? _ _ ((pw_cell_below HB.out hw336_4)))).trans ((pw_cell_below HB.out hw336_4)), (World.cell?_alloc_lt _ _ _ (World.block_lt_of_cell? _ _ ((pw_cell_below HB.out hw337_0)))).trans ((pw_cell_below HB.out hw337_0)), (World.cell?_alloc_lt _ _ _ (World.block_lt_of_cell? _ _ ((pw_cell_below HB.out hw337_1)))).trans ((pw_cell_below HB.out hw337_1)), (World.cell?_alloc_lt _ _ _ (World.block_lt_of_cell? _ _ ((pw_cell_below HB.out hw337_2)))).trans ((pw_cell_below HB.out hw337_2)), (World.cell?_alloc_lt _ _ _ (World.block_lt_of_cell? _ _ ((pw_cell_below HB.out hw337_3)))).trans ((pw_cell_below HB.out hw337_3)), (World.cell?_alloc_lt _ _ _ (World.block_lt_of_cell? _ _ ((pw_cell_below HB.out hw337_4)))).trans ((pw_cell_below HB.out hw337_4))⟩ (fun hHeld => ?_)
                 clear hK K
                 refine norm_ (a' := ?_) ?_ ?_
                 rotate_left
                 ·show Act.put _ (some 91) _ = _
                  simp only [Act.put, List.setIfInBounds_toArray, List.set_cons_zero, List.set_cons_succ, i64_w, i32_w]
                  rfl
                 refine one_ (i := 15) (N := some 92) #[true, true, true, true, true, true, true, true, true, true, true, true, true, true, true, true, false] rfl rfl (one_of HT_.out (by kernel_rfl)) (by decide) (fun K hK => ?_)
                 refine Kd.R_append_step k52 (w0 := w) w.heap.size (by rfl) (.tmp 77) (.tmp 91) 49 52 (.agg #[(.int .i64 0), (.int .i64 0), (.int .i64 0)]) 24 rfl Tryd.underlying49 info52 rfl (by decide) (by omega) u13 x13_2 (⟨303, (rd_T46 l1 x9_1).f0.f1, (rd_T46 l1 x9_1).f0.f2⟩ : S52) [.int .i64 303, .int .i64 ((rd_T46 l1 x9_1).f0.f1), .int .i64 ((rd_T46 l1 x9_1).f0.f2)] (fun _ => True) (fun _ => False) rfl rfl ?aP (fun _ hk => hk.elim) ?aF ?aO ?aB ?aS ?aL ?_
                 (case aP => exact k52_mkM _ _ _ (⟨303, (rd_T46 l1 x9_1).f0.f1, (rd_T46 l1 x9_1).f0.f2⟩ : S52))
                 (case aB => exact (by repeat (first | (with_reducible first | exact HB.out | apply below_alloc | apply pw_below_drewN | apply below_drew1) | exact HB.out)))
                 (case aF => exact (fun _ _ => trivial))
                 (case aO => exact (by (with_reducible repeat (first | apply Kd.R_alloc | apply Kd.R_drewN | apply Kd.R_drew)); exact HO_13.out))
                 (case aS => exact (below_size (by repeat (first | (with_reducible first | exact HB.out | apply below_alloc | apply pw_below_drewN | apply below_drew1) | exact HB.out))))
                 (case aL => have := LMc24.out; omega)
                 intro v339 w27 ho hb hg hat
                 rw [← Ny338.out] at ho
                 have n0_ := Aside0.mk (Kd.V_afterv (ok := (fun k_ => some k_ ≠ (u8 : Value).ownBlock)) (by (with_reducible repeat (first | apply Kd.V_alloc | apply Kd.V_drewN | apply Kd.V_drew)); (first | exact HO_7.out | exact Kd.V_mono HO_7.out (fun _ hk => ⟨hk.2, hk.1⟩))) hg hat)
                 have n1_ := Aside0.mk (Kd.S_after (ok := (fun _ => True)) (by (with_reducible repeat (first | apply Kd.S_alloc | apply Kd.S_drewN | apply Kd.S_drew)); exact Kd.S_mono HO_8.out (fun _ hk => ⟨trivial, hk⟩)) hg hat)
                 have n2_ := Aside0.mk (hb)
                 have n3_ := Aside0.mk (ho)
                 clear HO_7
                 clear HO_8
                 clear HB
                 clear HO_13
                 have HO_7 := n0_
                 have HO_8 := n1_
                 have HB := n2_
                 have HO340 := n3_
                 clear n0_ n1_ n2_ n3_
                 clear ho hb hg hat
                 refine hK.out _ _ ⟨(pw_cell_below HB.out hw336_0), (pw_cell_below HB.out hw336_1), (pw_cell_below HB.out hw336_2), (pw_cell_below HB.out hw336_3), (pw_cell_below HB.out hw336_4), (pw_cell_below HB.out hw337_0), (pw_cell_below HB.out hw337_1), (pw_cell_below HB.out hw337_2), (pw_cell_below HB.out hw337_3), (pw_cell_below HB.out hw337_4)⟩ (fun hHeld => ?_)
                 clear hK K
                 refine norm_ (a' := ?_) ?_ ?_
                 rotate_left
                 ·show Act.put _ (some 92) _ = _
                  simp only [Act.put, List.setIfInBounds_toArray, List.set_cons_zero, List.set_cons_succ, i64_w, i32_w]
                  rfl
                 refine pure_ (i := 16) (N := some 13) (v := ?_) (a' := ?_) #[true, true, true, true, true, true, true, true, true, true, true, true, true, true, true, true, true] rfl rfl (any_of HT_.out (by kernel_rfl)) (fun _ _ _ h => h) (Or.inl ⟨by rfl, ?_⟩) ?_ ?_
                 rotate_left
                 ·intro w'
                  go_simp
                  with_reducible rfl
                 rotate_left
                 ·simp only [Act.put, List.setIfInBounds_toArray, List.set_cons_zero, List.set_cons_succ, i64_w, i32_w]
                  rfl
                 refine done_ (done_of HT_.out (by kernel_rfl)) ?_
                 try go_wp2
                 go_meet
                 case rel => exact ⟨_, (y338), H', ⟨by have := HK1.out; have := HK2.out; first | omega | exact Nat.le_refl _⟩, ⟨by (with_reducible repeat (first | apply Kd.V_alloc | apply Kd.V_drewN | apply Kd.V_drew)); (first | exact HO_7.out | exact Kd.V_mono HO_7.out (fun _ hk => ⟨hk.2, hk.1⟩))⟩, ⟨by (with_reducible repeat (first | apply Kd.S_alloc | apply Kd.S_drewN | apply Kd.S_drew)); exact Kd.S_mono HO_8.out (fun _ hk => hk.2)⟩, ⟨by (with_reducible repeat (first | apply Kd.R_alloc | apply Kd.R_drewN | apply Kd.R_drew)); exact HO340.out⟩, ⟨by repeat (first | (with_reducible first | exact HB.out | apply below_alloc | apply pw_below_drewN | apply below_drew1) | exact HB.out)⟩⟩
                ·rw [if_neg c24] at H
                 exact absurd H (by simp)
              ·rw [if_neg c21] at H
               exact absurd H (by simp)
             ·rw [if_neg c20] at H
              exact absurd H (by simp)
            ·rw [if_neg c19] at H
             exact absurd H (by simp)
           ·rw [if_neg c18] at H
            have c18b0 : (t331.toList == t324.toList) = false := beq_eq_false_iff_ne.mpr c18
            have c18b1 : (t331.toList != t324.toList) = true := bne_iff_ne.mpr c18
            have H' := Aside0.mk H
            clear H
            have p330 : 0 ≤ (x14_2 : Int) := of_decide_eq_true (by first | (with_reducible assumption) | assumption)
            have q330 : x14_2 < (l0.length : Int) := of_decide_eq_true (by first | (with_reducible assumption) | assumption)
            obtain ⟨ad330, e330, hx330_0⟩ := Kd.at_string HR0.out x14_2 p330 q330
            obtain rfl : ad323 = ad330 := (by injection e330)
            replace hx330_0 := pw_cell_below HB.out hx330_0
            replace p330 := eq_true p330
            replace q330 := eq_true q330
            go_wp2_with (first | ((with_reducible refine gate_callee (f := 9) rfl ?_); refine goesL_ (some 57) rfl rfl Tryd.func9 (by kernel_rfl) rfl #[.string (rdOf ByteArray.empty l0 x14_2)] rfl (by (try simp only [List.map_toArray, List.map_cons, List.map_nil]); first | done | rfl | (simp only [List.length_drop, List.length_take]; rfl)) ?_; (with_reducible refine (scholiastref13_Split.calls k2 (rdOf ByteArray.empty l0 x14_2) t331 t332 t333 _ A17.out).mono ?_); rintro e w' ⟨rfl, ⟨nd, rfl⟩⟩; refine ⟨_, rfl, ?_⟩))
            go_roundg k2
            case measure => have := HK1.out; have := HK2.out; omega
            case rel => exact ⟨(x13_2), (wrap64 (x14_2 + 1)), (by first | rfl | (simp; done) | (simp [*]; done)), H', ⟨by have := HK1.out; have := HK2.out; omega⟩, ⟨by (with_reducible repeat (first | apply Kd.V_alloc | apply Kd.V_drewN | apply Kd.V_drew)); (first | exact HO_7.out | exact Kd.V_mono HO_7.out (fun _ hk => ⟨hk.2, hk.1⟩))⟩, ⟨by (with_reducible repeat (first | apply Kd.S_alloc | apply Kd.S_drewN | apply Kd.S_drew)); exact HO_8.out⟩, ⟨by (with_reducible repeat (first | apply Kd.R_alloc | apply Kd.R_drewN | apply Kd.R_drew)); exact HO_13.out⟩, ⟨by repeat (first | (with_reducible first | exact HB.out | apply below_alloc | apply pw_below_drewN | apply below_drew1) | exact HB.out)⟩⟩
          ·rw [if_neg c16] at H
           exact absurd H (by simp)
         ·rw [if_neg c15] at H
          have c15b0 : decide (x14_2 < (l0.length : Int)) = false := decide_eq_false c15
          clear c15
          (first | rw [c15b0] | (simp only [i64_w, i32_w]; rw [c15b0]) | rw [c15b1] | skip)
          have H' := Aside0.mk H
          clear H
          go_wp2
          go_meet
          case rel => exact ⟨_, (x13_2), H', ⟨by have := HK1.out; have := HK2.out; first | omega | exact Nat.le_refl _⟩, ⟨by (with_reducible repeat (first | apply Kd.V_alloc | apply Kd.V_drewN | apply Kd.V_drew)); (first | exact HO_7.out | exact Kd.V_mono HO_7.out (fun _ hk => ⟨hk.2, hk.1⟩))⟩, ⟨by (with_reducible repeat (first | apply Kd.S_alloc | apply Kd.S_drewN | apply Kd.S_drew)); exact HO_8.out⟩, ⟨by (with_reducible repeat (first | apply Kd.R_alloc | apply Kd.R_drewN | apply Kd.R_drew)); exact HO_13.out⟩, ⟨by repeat (first | (with_reducible first | exact HB.out | apply below_alloc | apply pw_below_drewN | apply below_drew1) | exact HB.out)⟩⟩
      case rest =>
       clear HC12
       try clear c1
       try clear c2
       try clear p2
       try clear c3
       try clear p3
       try clear q3
       try clear hx3
       try clear p6
       try clear c9
       try clear c15
       try clear c15b0
       try clear c15b1
       try clear c16
       try clear c18
       try clear c18b0
       try clear c18b1
       try clear c19
       try clear c20
       try clear c21
       try clear c22
       try clear c22b0
       try clear c22b1
       try clear c24
       try clear hx330_0
       try clear hx334_0
       try clear hx334_1
       try clear hx334_2
       try clear hx334_3
       try clear hx334_4
       try clear hx335_0
       try clear hx335_1
       try clear hx335_2
       try clear hx335_3
       try clear hx335_4
       try clear hx336_0
       try clear hx336_1
       try clear hx336_2
       try clear hx336_3
       try clear hx336_4
       try clear hx337_0
       try clear hx337_1
       try clear hx337_2
       try clear hx337_3
       try clear hx337_4
       try clear p330
       try clear p334
       try clear p335
       try clear p336
       try clear p337
       try clear q330
       try clear q334
       try clear q335
       try clear q336
       try clear q337
       obtain ⟨kq, x13_11, HA, HJ11, HO_7, HO_8, HO_13, HB⟩ := hcut
       cases kq with
       | zero => exact absurd HA.out (by simp [rf_Check.j2])
       | succ kj11 =>
        have H := HA.out
        clear HA
        simp only [rf_Check.j2] at H
        have H' := Aside0.mk H
        clear H
        go_wp2
        go_loopg [13, 18] kj11 (fun kq v13 v18 w' => ∃ (x13_3 : List (S52)) (x18_3 : Int), v18 = .int .i64 x18_3 ∧ Aside0 (rf_Check.l2 kq l0 l1 t317 x8_1 x9_1 t324 x13_3 x18_3 = some (r1, r2)) ∧ Aside0 (kq ≤ kj11) ∧ Aside0 (Kd.V Kd.string 9 w' w.heap.size (fun k_ => some k_ ≠ (u8 : Value).ownBlock ∧ some k_ ≠ (v13 : Value).ownBlock) v318 t317) ∧ Aside0 (Kd.S (Kd.slice 52 k52) 49 w' w.heap.size (fun k_ => some k_ ≠ (v13 : Value).ownBlock) u8 x8_1) ∧ Aside0 (Kd.R k52 52 w' w.heap.size (fun _ => True) v13 x13_3) ∧ Aside0 (Below w.heap.size w w'))
        case atStart => exact ⟨(x13_11), (0), (by first | rfl | (simp; done) | (simp [*]; done)), H', ⟨Nat.le_refl _⟩, ⟨by (with_reducible repeat (first | apply Kd.V_alloc | apply Kd.V_drewN | apply Kd.V_drew)); exact HO_7.out⟩, ⟨by (with_reducible repeat (first | apply Kd.S_alloc | apply Kd.S_drewN | apply Kd.S_drew)); exact HO_8.out⟩, ⟨by (with_reducible repeat (first | apply Kd.R_alloc | apply Kd.R_drewN | apply Kd.R_drew)); exact HO_13.out⟩, ⟨by repeat (first | (with_reducible first | exact HB.out | apply below_alloc | apply pw_below_drewN | apply below_drew1) | exact HB.out)⟩⟩
        case round =>
         clear H'
         try clear c1
         try clear c2
         try clear p2
         try clear c3
         try clear p3
         try clear q3
         try clear hx3
         try clear p6
         try clear c9
         try clear c15
         try clear c15b0
         try clear c15b1
         try clear c16
         try clear c18
         try clear c18b0
         try clear c18b1
         try clear c19
         try clear c20
         try clear c21
         try clear c22
         try clear c22b0
         try clear c22b1
         try clear c24
         try clear hx330_0
         try clear hx334_0
         try clear hx334_1
         try clear hx334_2
         try clear hx334_3
         try clear hx334_4
         try clear hx335_0
         try clear hx335_1
         try clear hx335_2
         try clear hx335_3
         try clear hx335_4
         try clear hx336_0
         try clear hx336_1
         try clear hx336_2
         try clear hx336_3
         try clear hx336_4
         try clear hx337_0
         try clear hx337_1
         try clear hx337_2
         try clear hx337_3
         try clear hx337_4
         try clear p2
         try clear p3
         try clear p330
         try clear p334
         try clear p335
         try clear p336
         try clear p337
         try clear p6
         try clear q3
         try clear q330
         try clear q334
         try clear q335
         try clear q336
         try clear q337
         obtain ⟨x13_3, x18_3, rfl, HA, HK3, HO_7, HO_8, HO_13, HB⟩ := hrel
         cases gk with
         | zero => exact absurd HA.out (by simp [rf_Check.l2])
         | succ k3 =>
          have H := HA.out
          clear HA
          simp only [rf_Check.l2] at H
          by_cases c28 : 0 ≤ x9_1
          ·rw [if_pos c28] at H
           have c28b0 : decide (0 ≤ x9_1) = true := decide_eq_true c28
           clear c28
           by_cases c29 : x9_1 < (l1.length : Int)
           ·rw [if_pos c29] at H
            have c29b0 : decide (x9_1 < (l1.length : Int)) = true := decide_eq_true c29
            clear c29
            by_cases c30 : x18_3 < (((rd_T46 l1 x9_1).f1).length : Int)
            ·rw [if_pos c30] at H
             have c30b0 : decide (x18_3 < (((rd_T46 l1 x9_1).f1).length : Int)) = true := decide_eq_true c30
             clear c30
             by_cases c31 : 0 ≤ x18_3
             ·rw [if_pos c31] at H
              have c31b0 : decide (0 ≤ x18_3) = true := decide_eq_true c31
              clear c31
              replace H := Option.bind_eq_some_iff.mp H
              obtain ⟨t348, A320, H⟩ := H
              replace H : (if t348 = true then (if ((rd_T48 ((rd_T46 l1 x9_1).f1) x18_3).f1).toList = t324.toList then (rf_Check.j4 k3 l0 l1 t317 x8_1 x9_1 t324 x13_3 x18_3 0 true ((rd_T48 ((rd_T46 l1 x9_1).f1) x18_3).f0) ((rd_T48 ((rd_T46 l1 x9_1).f1) x18_3).f1) ((rd_T48 ((rd_T46 l1 x9_1).f1) x18_3).f2) ((rd_T48 ((rd_T46 l1 x9_1).f1) x18_3).f3)) else ((rf_reaches.f k3 l0 l1 ((rd_T48 ((rd_T46 l1 x9_1).f1) x18_3).f1)).bind fun t349 => ((scholiastref13_has.f k3 t349 t324).bind fun t352 => (rf_Check.j4 k3 l0 l1 t317 x8_1 x9_1 t324 x13_3 x18_3 0 t352 ((rd_T48 ((rd_T46 l1 x9_1).f1) x18_3).f0) ((rd_T48 ((rd_T46 l1 x9_1).f1) x18_3).f1) ((rd_T48 ((rd_T46 l1 x9_1).f1) x18_3).f2) ((rd_T48 ((rd_T46 l1 x9_1).f1) x18_3).f3))))) else (if 301 = 0 then (rf_Check.l2 k3 l0 l1 t317 x8_1 x9_1 t324 x13_3 (wrap64 (x18_3 + 1))) else (if x13_3.length < 5864062014805 then (rf_Check.l2 k3 l0 l1 t317 x8_1 x9_1 t324 (x13_3 ++ [(⟨301, (rd_T48 ((rd_T46 l1 x9_1).f1) x18_3).f2, (rd_T48 ((rd_T46 l1 x9_1).f1) x18_3).f3⟩ : S52)]) (wrap64 (x18_3 + 1))) else (none)))) = some (r1, r2) := H
              have A32 := Aside0.mk A320
              clear A320
              by_cases c33 : t348 = true
              ·subst c33
               have H1 : (if ((rd_T48 ((rd_T46 l1 x9_1).f1) x18_3).f1).toList = t324.toList then (rf_Check.j4 k3 l0 l1 t317 x8_1 x9_1 t324 x13_3 x18_3 0 true ((rd_T48 ((rd_T46 l1 x9_1).f1) x18_3).f0) ((rd_T48 ((rd_T46 l1 x9_1).f1) x18_3).f1) ((rd_T48 ((rd_T46 l1 x9_1).f1) x18_3).f2) ((rd_T48 ((rd_T46 l1 x9_1).f1) x18_3).f3)) else ((rf_reaches.f k3 l0 l1 ((rd_T48 ((rd_T46 l1 x9_1).f1) x18_3).f1)).bind fun t349 => ((scholiastref13_has.f k3 t349 t324).bind fun t352 => (rf_Check.j4 k3 l0 l1 t317 x8_1 x9_1 t324 x13_3 x18_3 0 t352 ((rd_T48 ((rd_T46 l1 x9_1).f1) x18_3).f0) ((rd_T48 ((rd_T46 l1 x9_1).f1) x18_3).f1) ((rd_T48 ((rd_T46 l1 x9_1).f1) x18_3).f2) ((rd_T48 ((rd_T46 l1 x9_1).f1) x18_3).f3))))) = some (r1, r2) := by rw [if_pos rfl] at H; exact H
               clear H
               have H := H1
               clear H1
               have HC34 := Aside0.mk H
               clear H
               have p341 : 0 ≤ (x9_1 : Int) := of_decide_eq_true (by first | (with_reducible assumption) | assumption)
               have q341 : x9_1 < (l1.length : Int) := of_decide_eq_true (by first | (with_reducible assumption) | assumption)
               obtain ⟨ad341, A341_3, c341_3, A341_4, c341_4, e341, hx341_0, hx341_1, hx341_2, hx341_3, hx341_4, hl341_3, hi341_3, hl341_4, hi341_4⟩ := at_T46 HR1.out x9_1 p341 q341
               cases e341
               replace hx341_0 := pw_cell_below HB.out hx341_0
               replace hx341_1 := pw_cell_below HB.out hx341_1
               replace hx341_2 := pw_cell_below HB.out hx341_2
               replace hx341_3 := pw_cell_below HB.out hx341_3
               replace hx341_4 := pw_cell_below HB.out hx341_4
               have HR341_3 := Aside0.mk hi341_3
               have HC341_3 := Aside0.mk hl341_3
               clear hi341_3 hl341_3
               have HR341_4 := Aside0.mk hi341_4
               have HC341_4 := Aside0.mk hl341_4
               clear hi341_4 hl341_4
               replace p341 := eq_true p341
               replace q341 := eq_true q341
               have p345 : 0 ≤ (x9_1 : Int) := of_decide_eq_true (by first | (with_reducible assumption) | assumption)
               have q345 : x9_1 < (l1.length : Int) := of_decide_eq_true (by first | (with_reducible assumption) | assumption)
               obtain ⟨ad345, A345_3, c345_3, A345_4, c345_4, e345, hx345_0, hx345_1, hx345_2, hx345_3, hx345_4, hl345_3, hi345_3, hl345_4, hi345_4⟩ := at_T46 HR1.out x9_1 p345 q345
               obtain rfl : ad341 = ad345 := (by injection e345)
               replace hx345_0 := pw_cell_below HB.out hx345_0
               replace hx345_1 := pw_cell_below HB.out hx345_1
               replace hx345_2 := pw_cell_below HB.out hx345_2
               replace hx345_3 := pw_cell_below HB.out hx345_3
               replace hx345_4 := pw_cell_below HB.out hx345_4
               have HR345_3 := Aside0.mk hi345_3
               have HC345_3 := Aside0.mk hl345_3
               clear hi345_3 hl345_3
               have HR345_4 := Aside0.mk hi345_4
               have HC345_4 := Aside0.mk hl345_4
               clear hi345_4 hl345_4
               replace p345 := eq_true p345
               replace q345 := eq_true q345
               have ea_ := Option.some.inj (hx341_3.symm.trans hx345_3)
               injection ea_ with ea_ en_ ec_
               subst ea_
               subst ec_
               clear en_
               have ea_ := Option.some.inj (hx341_4.symm.trans hx345_4)
               injection ea_ with ea_ en_ ec_
               subst ea_
               subst ec_
               clear en_
               have p346 : 0 ≤ (x18_3 : Int) := of_decide_eq_true (by first | (with_reducible assumption) | assumption)
               have q346 : x18_3 < (((rd_T46 l1 x9_1).f1).length : Int) := of_decide_eq_true (by first | (with_reducible assumption) | assumption)
               obtain ⟨ad346, e346, hx346_0, hx346_1, hx346_2, hx346_3⟩ := at_T48 HR345_3.out x18_3 p346 q346
               cases e346
               replace hx346_0 := pw_cell_below HB.out hx346_0
               replace hx346_1 := pw_cell_below HB.out hx346_1
               replace hx346_2 := pw_cell_below HB.out hx346_2
               replace hx346_3 := pw_cell_below HB.out hx346_3
               replace p346 := eq_true p346
               replace q346 := eq_true q346
               go_upto_region 25 with (first | ((with_reducible refine gate_dst (N := 19) rfl ?_); refine box_event ?hg (N := 19) ?hd (cs := #[.string (⟨#[]⟩ : ByteArray), .string (⟨#[]⟩ : ByteArray), .int .i64 0, .int .i64 0]) (t := 48) ?hr ?_; (case hd => rfl); (case hg => rfl); (case hr => first | (go_simp; done) | (go_simp; rfl)); intro gb347 hg w35 hbox hb; have n0_ := Aside0.mk (Kd.V_below (Kd.V_elderB (by (with_reducible repeat (first | apply Kd.V_alloc | apply Kd.V_drewN | apply Kd.V_drew)); exact HO_7.out) gb347 (Nat.le_of_eq hg.symm)) hb); have n1_ := Aside0.mk (Kd.S_below (by (with_reducible repeat (first | apply Kd.S_alloc | apply Kd.S_drewN | apply Kd.S_drew)); exact HO_8.out) hb); have n2_ := Aside0.mk (Kd.R_below (by (with_reducible repeat (first | apply Kd.R_alloc | apply Kd.R_drewN | apply Kd.R_drew)); exact HO_13.out) hb); have n3_ := Aside0.mk (below_step (by repeat (first | (with_reducible first | exact HB.out | apply below_alloc | apply pw_below_drewN | apply below_drew1) | exact HB.out)) hb); have n4_ := Aside0.mk (hbox); have n5_ := Aside0.mk ((by rw [hg]; exact (below_size (by repeat (first | (with_reducible first | exact HB.out | apply below_alloc | apply pw_below_drewN | apply below_drew1) | exact HB.out))) : w.heap.size ≤ gb347)); have n6_ := Aside0.mk ((by rw [hg]; exact (below_size (by repeat (first | (with_reducible first | exact HB.out | apply below_alloc | apply pw_below_drewN | apply below_drew1) | exact HB.out))) : w.heap.size ≤ gb347)); clear HO_7; clear HO_8; clear HO_13; clear HB; have HO_7 := n0_; have HO_8 := n1_; have HO_13 := n2_; have HB := n3_; have BK347 := n4_; have GW347 := n5_; have GE347 := n6_; clear n0_ n1_ n2_ n3_ n4_ n5_ n6_; clear hb hbox hg; have hcz36_0 : w35.cell? ⟨gb347, 0, none⟩ = some (.string (⟨#[]⟩ : ByteArray)) := (blk_cell BK347.out 0).trans rfl; have hcz36_1 : w35.cell? ⟨gb347, 1, none⟩ = some (.string (⟨#[]⟩ : ByteArray)) := (blk_cell BK347.out 1).trans rfl; have hcz36_2 : w35.cell? ⟨gb347, 2, none⟩ = some (.int .i64 0) := (blk_cell BK347.out 2).trans rfl; have hcz36_3 : w35.cell? ⟨gb347, 3, none⟩ = some (.int .i64 0) := (blk_cell BK347.out 3).trans rfl; have hfz36_0 := blk_frozen BK347.out 0; have hfz36_1 := blk_frozen BK347.out 1; have hfz36_2 := blk_frozen BK347.out 2; have hfz36_3 := blk_frozen BK347.out 3; obtain ⟨Ao37, co37, eo37⟩ := Kd.V_slice HO_7.out; subst eo37) | ((with_reducible refine gate_callee (f := 33) rfl ?_); refine goesL_ (some 114) rfl rfl Tryd.func33 (by kernel_rfl) rfl #[.slice Ao37 t317.length co37, .string ((rd_T48 ((rd_T46 l1 x9_1).f1) x18_3).f1)] rfl (by (try simp only [List.map_toArray, List.map_cons, List.map_nil]); first | done | rfl | (simp only [List.length_drop, List.length_take]; rfl)) ?_; (with_reducible refine (scholiastref13_has.calls k3 _ _ t317 ((rd_T48 ((rd_T46 l1 x9_1).f1) x18_3).f1) true _ ?side1 ?side2 A32.out).mono ?_); (case side1 => refine (Kd.V_reads' (e := 9) (base := w.heap.size) (ok := fun k_ => ((some k_ ≠ (u8 : Value).ownBlock ∧ some k_ ≠ (u13 : Value).ownBlock) ∧ k_ ≠ gb347)) (n := t317.length) (c := co37) ?_).2.2; exact (by (with_reducible repeat (first | apply Kd.V_alloc | apply Kd.V_drewN | apply Kd.V_drew)); exact (Kd.V_mono (Kd.V_far (p := ⟨gb347, 3, none⟩) (Kd.V_far (p := ⟨gb347, 2, none⟩) (Kd.V_far (p := ⟨gb347, 1, none⟩) (Kd.V_far (p := ⟨gb347, 0, none⟩) (Kd.V_mono HO_7.out (fun k_ hk => (⟨hk, hk.2⟩ : _ ∧ k_ ≠ gb347))) (fun _ hk => hk.2) (.string ((rd_T48 ((rd_T46 l1 x9_1).f1) x18_3).f0))) (fun _ hk => hk.2) (.string ((rd_T48 ((rd_T46 l1 x9_1).f1) x18_3).f1))) (fun _ hk => hk.2) (.int .i64 ((rd_T48 ((rd_T46 l1 x9_1).f1) x18_3).f2))) (fun _ hk => hk.2) (.int .i64 ((rd_T48 ((rd_T46 l1 x9_1).f1) x18_3).f3))) (fun _ h_ => h_.1)))); (case side2 => exact (Kd.V_reads' HO_7.out).2.1); rintro e w' ⟨rfl, ⟨nd, rfl⟩⟩; refine ⟨_, rfl, ?_⟩))
               (try simp only [Act.put, List.setIfInBounds_toArray, List.set_cons_zero, List.set_cons_succ])
               go_cut [128] (fun v128 wc => ∃ (kq : Nat) (x128_33 : Bool), v128 = .bool x128_33 ∧ Aside0 (rf_Check.j4 kq l0 l1 t317 x8_1 x9_1 t324 x13_3 x18_3 0 x128_33 ((rd_T48 ((rd_T46 l1 x9_1).f1) x18_3).f0) ((rd_T48 ((rd_T46 l1 x9_1).f1) x18_3).f1) ((rd_T48 ((rd_T46 l1 x9_1).f1) x18_3).f2) ((rd_T48 ((rd_T46 l1 x9_1).f1) x18_3).f3) = some (r1, r2)) ∧ Aside0 (kq ≤ k3) ∧ Aside0 (Kd.V Kd.string 9 wc w.heap.size (fun k_ => some k_ ≠ (u8 : Value).ownBlock ∧ some k_ ≠ (u13 : Value).ownBlock ∧ k_ ≠ gb347) (.slice Ao37 t317.length co37) t317) ∧ Aside0 (Kd.S (Kd.slice 52 k52) 49 wc w.heap.size (fun k_ => some k_ ≠ (u13 : Value).ownBlock) u8 x8_1) ∧ Aside0 (Kd.R k52 52 wc w.heap.size (fun _ => True) u13 x13_3) ∧ Aside0 (wc.heap[gb347]? = some (.cells #[.string ((rd_T48 ((rd_T46 l1 x9_1).f1) x18_3).f0), .string ((rd_T48 ((rd_T46 l1 x9_1).f1) x18_3).f1), .int .i64 ((rd_T48 ((rd_T46 l1 x9_1).f1) x18_3).f2), .int .i64 ((rd_T48 ((rd_T46 l1 x9_1).f1) x18_3).f3)] 48 (0, 0))) ∧ Aside0 (Below w.heap.size w wc))
               case first =>
                have H := HC34.out
                clear HC34
                by_cases c38 : ((rd_T48 ((rd_T46 l1 x9_1).f1) x18_3).f1).toList = t324.toList
                ·rw [if_pos c38] at H
                 have c38b0 : (((rd_T48 ((rd_T46 l1 x9_1).f1) x18_3).f1).toList == t324.toList) = true := beq_iff_eq.mpr c38
                 have c38b1 : (((rd_T48 ((rd_T46 l1 x9_1).f1) x18_3).f1).toList != t324.toList) = false := bne_eq_false_iff_eq.mpr c38
                 clear c38
                 (first | rw [c38b0] | (simp only [i64_w, i32_w]; rw [c38b0]) | rw [c38b1] | skip)
                 have H' := Aside0.mk H
                 clear H
                 have hcz39_0 : w35.cell? ⟨gb347, 0, none⟩ = some (.string (⟨#[]⟩ : ByteArray)) := (blk_cell BK347.out 0).trans rfl
                 have hcz39_1 : w35.cell? ⟨gb347, 1, none⟩ = some (.string (⟨#[]⟩ : ByteArray)) := (blk_cell BK347.out 1).trans rfl
                 have hcz39_2 : w35.cell? ⟨gb347, 2, none⟩ = some (.int .i64 0) := (blk_cell BK347.out 2).trans rfl
                 have hcz39_3 : w35.cell? ⟨gb347, 3, none⟩ = some (.int .i64 0) := (blk_cell BK347.out 3).trans rfl
                 have hfz39_0 := blk_frozen BK347.out 0
                 have hfz39_1 := blk_frozen BK347.out 1
                 have hfz39_2 := blk_frozen BK347.out 2
                 have hfz39_3 := blk_frozen BK347.out 3
                 go_wp2
                 go_meet
                 case rel => exact ⟨_, (true), (by first | rfl | (simp; done) | (simp [*]; done)), H', ⟨by have := HK1.out; have := HJ11.out; have := HK3.out; first | omega | exact Nat.le_refl _⟩, ⟨by (with_reducible repeat (first | apply Kd.V_alloc | apply Kd.V_drewN | apply Kd.V_drew)); exact Kd.V_mono (Kd.V_far (p := ⟨gb347, 3, none⟩) (Kd.V_far (p := ⟨gb347, 2, none⟩) (Kd.V_far (p := ⟨gb347, 1, none⟩) (Kd.V_far (p := ⟨gb347, 0, none⟩) (Kd.V_mono HO_7.out (fun k_ hk => (⟨hk, hk.2⟩ : _ ∧ k_ ≠ gb347))) (fun _ hk => hk.2) (.string ((rd_T48 ((rd_T46 l1 x9_1).f1) x18_3).f0))) (fun _ hk => hk.2) (.string ((rd_T48 ((rd_T46 l1 x9_1).f1) x18_3).f1))) (fun _ hk => hk.2) (.int .i64 ((rd_T48 ((rd_T46 l1 x9_1).f1) x18_3).f2))) (fun _ hk => hk.2) (.int .i64 ((rd_T48 ((rd_T46 l1 x9_1).f1) x18_3).f3))) (fun _ hk => ⟨hk.1.1.1, ⟨hk.1.1.2, hk.1.2⟩⟩)⟩, ⟨by (with_reducible repeat (first | apply Kd.S_alloc | apply Kd.S_drewN | apply Kd.S_drew)); exact Kd.S_mono (Kd.S_far (p := ⟨gb347, 3, none⟩) (Kd.S_far (p := ⟨gb347, 2, none⟩) (Kd.S_far (p := ⟨gb347, 1, none⟩) (Kd.S_far (p := ⟨gb347, 0, none⟩) (Kd.S_types HO_8.out BK347.out (by decide)) (fun _ hk => hk.2) (.string ((rd_T48 ((rd_T46 l1 x9_1).f1) x18_3).f0))) (fun _ hk => hk.2) (.string ((rd_T48 ((rd_T46 l1 x9_1).f1) x18_3).f1))) (fun _ hk => hk.2) (.int .i64 ((rd_T48 ((rd_T46 l1 x9_1).f1) x18_3).f2))) (fun _ hk => hk.2) (.int .i64 ((rd_T48 ((rd_T46 l1 x9_1).f1) x18_3).f3))) (fun _ hk => hk.1)⟩, ⟨by (with_reducible repeat (first | apply Kd.R_alloc | apply Kd.R_drewN | apply Kd.R_drew)); exact Kd.R_mono (Kd.R_far (p := ⟨gb347, 3, none⟩) (Kd.R_far (p := ⟨gb347, 2, none⟩) (Kd.R_far (p := ⟨gb347, 1, none⟩) (Kd.R_far (p := ⟨gb347, 0, none⟩) (Kd.R_types HO_13.out BK347.out (by decide)) (fun _ hk => hk.2) (.string ((rd_T48 ((rd_T46 l1 x9_1).f1) x18_3).f0))) (fun _ hk => hk.2) (.string ((rd_T48 ((rd_T46 l1 x9_1).f1) x18_3).f1))) (fun _ hk => hk.2) (.int .i64 ((rd_T48 ((rd_T46 l1 x9_1).f1) x18_3).f2))) (fun _ hk => hk.2) (.int .i64 ((rd_T48 ((rd_T46 l1 x9_1).f1) x18_3).f3))) (fun _ hk => trivial)⟩, ⟨by (with_reducible repeat (first | refine blk_drewN ?_ _ | refine blk_drew ?_ | refine blk_alloc ?_ _)); refine blk_put (cs := #[.string ((rd_T48 ((rd_T46 l1 x9_1).f1) x18_3).f0), .string ((rd_T48 ((rd_T46 l1 x9_1).f1) x18_3).f1), .int .i64 ((rd_T48 ((rd_T46 l1 x9_1).f1) x18_3).f2), .int .i64 0]) ?_ 3 _ rfl; (with_reducible repeat (first | refine blk_drewN ?_ _ | refine blk_drew ?_ | refine blk_alloc ?_ _)); refine blk_put (cs := #[.string ((rd_T48 ((rd_T46 l1 x9_1).f1) x18_3).f0), .string ((rd_T48 ((rd_T46 l1 x9_1).f1) x18_3).f1), .int .i64 0, .int .i64 0]) ?_ 2 _ rfl; (with_reducible repeat (first | refine blk_drewN ?_ _ | refine blk_drew ?_ | refine blk_alloc ?_ _)); refine blk_put (cs := #[.string ((rd_T48 ((rd_T46 l1 x9_1).f1) x18_3).f0), .string (⟨#[]⟩ : ByteArray), .int .i64 0, .int .i64 0]) ?_ 1 _ rfl; (with_reducible repeat (first | refine blk_drewN ?_ _ | refine blk_drew ?_ | refine blk_alloc ?_ _)); refine blk_put (cs := #[.string (⟨#[]⟩ : ByteArray), .string (⟨#[]⟩ : ByteArray), .int .i64 0, .int .i64 0]) ?_ 0 _ rfl; (with_reducible repeat (first | refine blk_drewN ?_ _ | refine blk_drew ?_ | refine blk_alloc ?_ _)); exact BK347.out⟩, ⟨by repeat (first | (with_reducible first | exact HB.out | apply below_alloc | apply pw_below_drewN | apply below_drew1 | refine below_set ?_ GE347.out) | exact HB.out)⟩⟩
                ·rw [if_neg c38] at H
                 have c38b0 : (((rd_T48 ((rd_T46 l1 x9_1).f1) x18_3).f1).toList == t324.toList) = false := beq_eq_false_iff_ne.mpr c38
                 have c38b1 : (((rd_T48 ((rd_T46 l1 x9_1).f1) x18_3).f1).toList != t324.toList) = true := bne_iff_ne.mpr c38
                 (first | rw [c38b0] | (simp only [i64_w, i32_w]; rw [c38b0]) | rw [c38b1] | skip)
                 replace H := Option.bind_eq_some_iff.mp H
                 obtain ⟨t349, A400, H⟩ := H
                 replace H : ((scholiastref13_has.f k3 t349 t324).bind fun t352 => (rf_Check.j4 k3 l0 l1 t317 x8_1 x9_1 t324 x13_3 x18_3 0 t352 ((rd_T48 ((rd_T46 l1 x9_1).f1) x18_3).f0) ((rd_T48 ((rd_T46 l1 x9_1).f1) x18_3).f1) ((rd_T48 ((rd_T46 l1 x9_1).f1) x18_3).f2) ((rd_T48 ((rd_T46 l1 x9_1).f1) x18_3).f3))) = some (r1, r2) := H
                 have A40 := Aside0.mk A400
                 clear A400
                 replace H := Option.bind_eq_some_iff.mp H
                 obtain ⟨t352, A410, H⟩ := H
                 replace H : (rf_Check.j4 k3 l0 l1 t317 x8_1 x9_1 t324 x13_3 x18_3 0 t352 ((rd_T48 ((rd_T46 l1 x9_1).f1) x18_3).f0) ((rd_T48 ((rd_T46 l1 x9_1).f1) x18_3).f1) ((rd_T48 ((rd_T46 l1 x9_1).f1) x18_3).f2) ((rd_T48 ((rd_T46 l1 x9_1).f1) x18_3).f3)) = some (r1, r2) := H
                 have A41 := Aside0.mk A410
                 clear A410
                 have H' := Aside0.mk H
                 clear H
                 have hcz42_0 : w35.cell? ⟨gb347, 0, none⟩ = some (.string (⟨#[]⟩ : ByteArray)) := (blk_cell BK347.out 0).trans rfl
                 have hcz42_1 : w35.cell? ⟨gb347, 1, none⟩ = some (.string (⟨#[]⟩ : ByteArray)) := (blk_cell BK347.out 1).trans rfl
                 have hcz42_2 : w35.cell? ⟨gb347, 2, none⟩ = some (.int .i64 0) := (blk_cell BK347.out 2).trans rfl
                 have hcz42_3 : w35.cell? ⟨gb347, 3, none⟩ = some (.int .i64 0) := (blk_cell BK347.out 3).trans rfl
                 have hfz42_0 := blk_frozen BK347.out 0
                 have hfz42_1 := blk_frozen BK347.out 1
                 have hfz42_2 := blk_frozen BK347.out 2
                 have hfz42_3 := blk_frozen BK347.out 3
                 go_wp2_with (first | (go_at_call 36; (with_reducible refine (rf_reaches.calls k3 _ _ l0 _ _ l1 ((rd_T48 ((rd_T46 l1 x9_1).f1) x18_3).f1) t349 _ ?side1 ?side2 ?side3 ?side4 A40.out).mono ?_); (case side1 => exact Kd.C_below HR0.out (by repeat (first | (with_reducible first | exact HB.out | apply below_alloc | apply pw_below_drewN | apply below_drew1 | refine below_set ?_ GE347.out) | exact HB.out))); (case side2 => exact HC0.out); (case side3 => exact Kd.C_below HR1.out (by repeat (first | (with_reducible first | exact HB.out | apply below_alloc | apply pw_below_drewN | apply below_drew1 | refine below_set ?_ GE347.out) | exact HB.out))); (case side4 => exact HC1.out); rintro e w43 ⟨v350, rfl, ho0, hb⟩; have n0_ := Aside0.mk (Kd.V_below (by (with_reducible repeat (first | apply Kd.V_alloc | apply Kd.V_drewN | apply Kd.V_drew)); exact (Kd.V_mono (Kd.V_far (p := ⟨gb347, 3, none⟩) (Kd.V_far (p := ⟨gb347, 2, none⟩) (Kd.V_far (p := ⟨gb347, 1, none⟩) (Kd.V_far (p := ⟨gb347, 0, none⟩) (Kd.V_mono HO_7.out (fun k_ hk => (⟨hk, hk.2⟩ : _ ∧ k_ ≠ gb347))) (fun _ hk => hk.2) (.string ((rd_T48 ((rd_T46 l1 x9_1).f1) x18_3).f0))) (fun _ hk => hk.2) (.string ((rd_T48 ((rd_T46 l1 x9_1).f1) x18_3).f1))) (fun _ hk => hk.2) (.int .i64 ((rd_T48 ((rd_T46 l1 x9_1).f1) x18_3).f2))) (fun _ hk => hk.2) (.int .i64 ((rd_T48 ((rd_T46 l1 x9_1).f1) x18_3).f3))) (fun _ h_ => h_.1))) hb); have n1_ := Aside0.mk (Kd.S_below (by (with_reducible repeat (first | apply Kd.S_alloc | apply Kd.S_drewN | apply Kd.S_drew)); exact (Kd.S_mono (Kd.S_far (p := ⟨gb347, 3, none⟩) (Kd.S_far (p := ⟨gb347, 2, none⟩) (Kd.S_far (p := ⟨gb347, 1, none⟩) (Kd.S_far (p := ⟨gb347, 0, none⟩) (Kd.S_types HO_8.out BK347.out (by decide)) (fun _ hk => hk.2) (.string ((rd_T48 ((rd_T46 l1 x9_1).f1) x18_3).f0))) (fun _ hk => hk.2) (.string ((rd_T48 ((rd_T46 l1 x9_1).f1) x18_3).f1))) (fun _ hk => hk.2) (.int .i64 ((rd_T48 ((rd_T46 l1 x9_1).f1) x18_3).f2))) (fun _ hk => hk.2) (.int .i64 ((rd_T48 ((rd_T46 l1 x9_1).f1) x18_3).f3))) (fun _ h_ => h_.1))) hb); have n2_ := Aside0.mk (Kd.R_below (by (with_reducible repeat (first | apply Kd.R_alloc | apply Kd.R_drewN | apply Kd.R_drew)); exact (Kd.R_mono (Kd.R_far (p := ⟨gb347, 3, none⟩) (Kd.R_far (p := ⟨gb347, 2, none⟩) (Kd.R_far (p := ⟨gb347, 1, none⟩) (Kd.R_far (p := ⟨gb347, 0, none⟩) (Kd.R_types HO_13.out BK347.out (by decide)) (fun _ hk => hk.2) (.string ((rd_T48 ((rd_T46 l1 x9_1).f1) x18_3).f0))) (fun _ hk => hk.2) (.string ((rd_T48 ((rd_T46 l1 x9_1).f1) x18_3).f1))) (fun _ hk => hk.2) (.int .i64 ((rd_T48 ((rd_T46 l1 x9_1).f1) x18_3).f2))) (fun _ hk => hk.2) (.int .i64 ((rd_T48 ((rd_T46 l1 x9_1).f1) x18_3).f3))) (fun _ h_ => h_.1))) hb); have n3_ := Aside0.mk (Kd.V_lower (Kd.V_mono (ok' := fun k_ => some k_ ≠ (u8 : Value).ownBlock ∧ some k_ ≠ (u13 : Value).ownBlock ∧ k_ ≠ gb347) ho0 (fun k_ hk_ => ⟨(Kd.fresh' (Kd.S_lt (by (with_reducible repeat (first | apply Kd.S_alloc | apply Kd.S_drewN | apply Kd.S_drew)); exact (Kd.S_mono (Kd.S_far (p := ⟨gb347, 3, none⟩) (Kd.S_far (p := ⟨gb347, 2, none⟩) (Kd.S_far (p := ⟨gb347, 1, none⟩) (Kd.S_far (p := ⟨gb347, 0, none⟩) (Kd.S_types HO_8.out BK347.out (by decide)) (fun _ hk => hk.2) (.string ((rd_T48 ((rd_T46 l1 x9_1).f1) x18_3).f0))) (fun _ hk => hk.2) (.string ((rd_T48 ((rd_T46 l1 x9_1).f1) x18_3).f1))) (fun _ hk => hk.2) (.int .i64 ((rd_T48 ((rd_T46 l1 x9_1).f1) x18_3).f2))) (fun _ hk => hk.2) (.int .i64 ((rd_T48 ((rd_T46 l1 x9_1).f1) x18_3).f3))) (fun _ h_ => h_.1)))) k_ hk_), (Kd.fresh' (Kd.R_lt (by (with_reducible repeat (first | apply Kd.R_alloc | apply Kd.R_drewN | apply Kd.R_drew)); exact (Kd.R_mono (Kd.R_far (p := ⟨gb347, 3, none⟩) (Kd.R_far (p := ⟨gb347, 2, none⟩) (Kd.R_far (p := ⟨gb347, 1, none⟩) (Kd.R_far (p := ⟨gb347, 0, none⟩) (Kd.R_types HO_13.out BK347.out (by decide)) (fun _ hk => hk.2) (.string ((rd_T48 ((rd_T46 l1 x9_1).f1) x18_3).f0))) (fun _ hk => hk.2) (.string ((rd_T48 ((rd_T46 l1 x9_1).f1) x18_3).f1))) (fun _ hk => hk.2) (.int .i64 ((rd_T48 ((rd_T46 l1 x9_1).f1) x18_3).f2))) (fun _ hk => hk.2) (.int .i64 ((rd_T48 ((rd_T46 l1 x9_1).f1) x18_3).f3))) (fun _ h_ => h_.1)))) k_ hk_), (Kd.freshB (g := gb347) (o := .cells #[.string ((rd_T48 ((rd_T46 l1 x9_1).f1) x18_3).f0), .string ((rd_T48 ((rd_T46 l1 x9_1).f1) x18_3).f1), .int .i64 ((rd_T48 ((rd_T46 l1 x9_1).f1) x18_3).f2), .int .i64 ((rd_T48 ((rd_T46 l1 x9_1).f1) x18_3).f3)] 48 (0, 0)) (by (with_reducible repeat (first | refine blk_drewN ?_ _ | refine blk_drew ?_ | refine blk_alloc ?_ _)); refine blk_put (cs := #[.string ((rd_T48 ((rd_T46 l1 x9_1).f1) x18_3).f0), .string ((rd_T48 ((rd_T46 l1 x9_1).f1) x18_3).f1), .int .i64 ((rd_T48 ((rd_T46 l1 x9_1).f1) x18_3).f2), .int .i64 0]) ?_ 3 _ rfl; (with_reducible repeat (first | refine blk_drewN ?_ _ | refine blk_drew ?_ | refine blk_alloc ?_ _)); refine blk_put (cs := #[.string ((rd_T48 ((rd_T46 l1 x9_1).f1) x18_3).f0), .string ((rd_T48 ((rd_T46 l1 x9_1).f1) x18_3).f1), .int .i64 0, .int .i64 0]) ?_ 2 _ rfl; (with_reducible repeat (first | refine blk_drewN ?_ _ | refine blk_drew ?_ | refine blk_alloc ?_ _)); refine blk_put (cs := #[.string ((rd_T48 ((rd_T46 l1 x9_1).f1) x18_3).f0), .string (⟨#[]⟩ : ByteArray), .int .i64 0, .int .i64 0]) ?_ 1 _ rfl; (with_reducible repeat (first | refine blk_drewN ?_ _ | refine blk_drew ?_ | refine blk_alloc ?_ _)); refine blk_put (cs := #[.string (⟨#[]⟩ : ByteArray), .string (⟨#[]⟩ : ByteArray), .int .i64 0, .int .i64 0]) ?_ 0 _ rfl; (with_reducible repeat (first | refine blk_drewN ?_ _ | refine blk_drew ?_ | refine blk_alloc ?_ _)); exact BK347.out) k_ hk_)⟩)) (below_size (by repeat (first | (with_reducible first | exact HB.out | apply below_alloc | apply pw_below_drewN | apply below_drew1 | refine below_set ?_ GE347.out) | exact HB.out)))); have n4_ := Aside0.mk (blk_below (g := gb347) (o := .cells #[.string ((rd_T48 ((rd_T46 l1 x9_1).f1) x18_3).f0), .string ((rd_T48 ((rd_T46 l1 x9_1).f1) x18_3).f1), .int .i64 ((rd_T48 ((rd_T46 l1 x9_1).f1) x18_3).f2), .int .i64 ((rd_T48 ((rd_T46 l1 x9_1).f1) x18_3).f3)] 48 (0, 0)) (by (with_reducible repeat (first | refine blk_drewN ?_ _ | refine blk_drew ?_ | refine blk_alloc ?_ _)); refine blk_put (cs := #[.string ((rd_T48 ((rd_T46 l1 x9_1).f1) x18_3).f0), .string ((rd_T48 ((rd_T46 l1 x9_1).f1) x18_3).f1), .int .i64 ((rd_T48 ((rd_T46 l1 x9_1).f1) x18_3).f2), .int .i64 0]) ?_ 3 _ rfl; (with_reducible repeat (first | refine blk_drewN ?_ _ | refine blk_drew ?_ | refine blk_alloc ?_ _)); refine blk_put (cs := #[.string ((rd_T48 ((rd_T46 l1 x9_1).f1) x18_3).f0), .string ((rd_T48 ((rd_T46 l1 x9_1).f1) x18_3).f1), .int .i64 0, .int .i64 0]) ?_ 2 _ rfl; (with_reducible repeat (first | refine blk_drewN ?_ _ | refine blk_drew ?_ | refine blk_alloc ?_ _)); refine blk_put (cs := #[.string ((rd_T48 ((rd_T46 l1 x9_1).f1) x18_3).f0), .string (⟨#[]⟩ : ByteArray), .int .i64 0, .int .i64 0]) ?_ 1 _ rfl; (with_reducible repeat (first | refine blk_drewN ?_ _ | refine blk_drew ?_ | refine blk_alloc ?_ _)); refine blk_put (cs := #[.string (⟨#[]⟩ : ByteArray), .string (⟨#[]⟩ : ByteArray), .int .i64 0, .int .i64 0]) ?_ 0 _ rfl; (with_reducible repeat (first | refine blk_drewN ?_ _ | refine blk_drew ?_ | refine blk_alloc ?_ _)); exact BK347.out) hb); have n5_ := Aside0.mk (below_step (by repeat (first | (with_reducible first | exact HB.out | apply below_alloc | apply pw_below_drewN | apply below_drew1 | refine below_set ?_ GE347.out) | exact HB.out)) hb); clear HO_7; clear HO_8; clear HO_13; clear BK347; clear HB; have HO_7 := n0_; have HO_8 := n1_; have HO_13 := n2_; have HO351 := n3_; have BK347 := n4_; have HB := n5_; clear n0_ n1_ n2_ n3_ n4_ n5_; (try clear hb); (try clear hb2); (try clear hk); (try clear hi); (try clear ho0); obtain ⟨Ao44, co44, eo44⟩ := Kd.V_slice HO351.out; subst eo44) | (go_at_call 33; (with_reducible refine (scholiastref13_has.calls k3 _ _ t349 t324 t352 _ ?side1 ?side2 A41.out).mono ?_); (case side1 => repeat (first | exact (Kd.V_reads' HO351.out).2.2 | (with_reducible refine Kd.C_alloc ?_ _) | (with_reducible refine Kd.C_drewN ?_ _) | (with_reducible refine Kd.C_drew ?_))); (case side2 => exact (Kd.V_reads' HO351.out).2.1); rintro e w' ⟨rfl, ⟨nd, rfl⟩⟩))
                 go_meet
                 case rel => exact ⟨_, (t352), (by first | rfl | (simp; done) | (simp [*]; done)), H', ⟨by have := HK1.out; have := HJ11.out; have := HK3.out; first | omega | exact Nat.le_refl _⟩, ⟨by (with_reducible repeat (first | apply Kd.V_alloc | apply Kd.V_drewN | apply Kd.V_drew)); exact Kd.V_mono HO_7.out (fun _ hk => ⟨hk.1.1, ⟨hk.1.2, hk.2⟩⟩)⟩, ⟨by (with_reducible repeat (first | apply Kd.S_alloc | apply Kd.S_drewN | apply Kd.S_drew)); exact HO_8.out⟩, ⟨by (with_reducible repeat (first | apply Kd.R_alloc | apply Kd.R_drewN | apply Kd.R_drew)); exact HO_13.out⟩, ⟨by (with_reducible repeat (first | refine blk_drewN ?_ _ | refine blk_drew ?_ | refine blk_alloc ?_ _)); exact BK347.out⟩, ⟨by repeat (first | (with_reducible first | exact HB.out | apply below_alloc | apply pw_below_drewN | apply below_drew1 | refine below_set ?_ GE347.out) | exact HB.out)⟩⟩
               case rest =>
                clear HC34
                try clear c1
                try clear c2
                try clear p2
                try clear c3
                try clear p3
                try clear q3
                try clear hx3
                try clear p6
                try clear c9
                try clear c15
                try clear c15b0
                try clear c15b1
                try clear c16
                try clear c18
                try clear c18b0
                try clear c18b1
                try clear c19
                try clear c20
                try clear c21
                try clear c22
                try clear c22b0
                try clear c22b1
                try clear c24
                try clear c28
                try clear c28b0
                try clear c29
                try clear c29b0
                try clear c30
                try clear c30b0
                try clear c31
                try clear c31b0
                try clear c33
                try clear p33
                try clear q33
                try clear hx33
                try clear c34
                try clear p34
                try clear q34
                try clear hx34
                try clear c38
                try clear c38b0
                try clear c38b1
                try clear hcz36_0
                try clear hcz36_1
                try clear hcz36_2
                try clear hcz36_3
                try clear hcz39_0
                try clear hcz39_1
                try clear hcz39_2
                try clear hcz39_3
                try clear hcz42_0
                try clear hcz42_1
                try clear hcz42_2
                try clear hcz42_3
                try clear hfz36_0
                try clear hfz36_1
                try clear hfz36_2
                try clear hfz36_3
                try clear hfz39_0
                try clear hfz39_1
                try clear hfz39_2
                try clear hfz39_3
                try clear hfz42_0
                try clear hfz42_1
                try clear hfz42_2
                try clear hfz42_3
                try clear hx330_0
                try clear hx334_0
                try clear hx334_1
                try clear hx334_2
                try clear hx334_3
                try clear hx334_4
                try clear hx335_0
                try clear hx335_1
                try clear hx335_2
                try clear hx335_3
                try clear hx335_4
                try clear hx336_0
                try clear hx336_1
                try clear hx336_2
                try clear hx336_3
                try clear hx336_4
                try clear hx337_0
                try clear hx337_1
                try clear hx337_2
                try clear hx337_3
                try clear hx337_4
                try clear hx341_0
                try clear hx341_1
                try clear hx341_2
                try clear hx341_3
                try clear hx341_4
                try clear hx345_0
                try clear hx345_1
                try clear hx345_2
                try clear hx345_3
                try clear hx345_4
                try clear hx346_0
                try clear hx346_1
                try clear hx346_2
                try clear hx346_3
                try clear p2
                try clear p3
                try clear p330
                try clear p334
                try clear p335
                try clear p336
                try clear p337
                try clear p341
                try clear p345
                try clear p346
                try clear p6
                try clear q3
                try clear q330
                try clear q334
                try clear q335
                try clear q336
                try clear q337
                try clear q341
                try clear q345
                try clear q346
                obtain ⟨kq, x128_33, rfl, HA, HJ33, HO_7, HO_8, HO_13, BK347, HB⟩ := hcut
                cases kq with
                | zero => exact absurd HA.out (by simp [rf_Check.j4])
                | succ kj33 =>
                 have H := HA.out
                 clear HA
                 simp only [rf_Check.j4] at H
                 by_cases c45 : x128_33 = true
                 ·subst c45
                  have H1 : (if 302 = 0 then (rf_Check.l2 kj33 l0 l1 t317 x8_1 x9_1 t324 x13_3 (wrap64 (x18_3 + 1))) else (if x13_3.length < 5864062014805 then (rf_Check.l2 kj33 l0 l1 t317 x8_1 x9_1 t324 (x13_3 ++ [(⟨302, ((rd_T48 ((rd_T46 l1 x9_1).f1) x18_3).f2), ((rd_T48 ((rd_T46 l1 x9_1).f1) x18_3).f3)⟩ : S52)]) (wrap64 (x18_3 + 1))) else (none))) = some (r1, r2) := by rw [if_pos rfl] at H; exact H
                  clear H
                  have H := H1
                  clear H1
                  by_cases c46 : 302 = 0
                  ·exact absurd c46 (by decide)   -- mended by fix16
                  ·rw [if_neg c46] at H
                   have c46b0 : (302 == 0) = false := beq_eq_false_iff_ne.mpr c46
                   have c46b1 : (302 != 0) = true := bne_iff_ne.mpr c46
                   by_cases c47 : x13_3.length < 5864062014805
                   ·rw [if_pos c47] at H
                    have LMc47 := Aside0.mk c47
                    clear c47
                    obtain ⟨y353, hy353⟩ : ∃ y_ : List (S52), y_ = (x13_3 ++ [(⟨302, ((rd_T48 ((rd_T46 l1 x9_1).f1) x18_3).f2), ((rd_T48 ((rd_T46 l1 x9_1).f1) x18_3).f3)⟩ : S52)]) := ⟨_, rfl⟩
                    replace H : (rf_Check.l2 kj33 l0 l1 t317 x8_1 x9_1 t324 y353 (wrap64 (x18_3 + 1))) = some (r1, r2) := by first | (rw [hy353]; with_reducible exact H) | (have H2_ := (Option.bind_some _ _).symm.trans H; rw [hy353]; with_reducible exact H2_) | (have H2_ := (Option.bind_some _ _).symm.trans H; with_reducible exact H2_) | with_reducible exact H | (rw [hy353]; exact H) | exact H
                    have Ny353 := Aside0.mk hy353
                    clear hy353
                    have H' := Aside0.mk H
                    clear H
                    have hcz48_0 : wc.cell? ⟨gb347, 0, none⟩ = some (.string ((rd_T48 ((rd_T46 l1 x9_1).f1) x18_3).f0)) := (blk_cell BK347.out 0).trans rfl
                    have hcz48_1 : wc.cell? ⟨gb347, 1, none⟩ = some (.string ((rd_T48 ((rd_T46 l1 x9_1).f1) x18_3).f1)) := (blk_cell BK347.out 1).trans rfl
                    have hcz48_2 : wc.cell? ⟨gb347, 2, none⟩ = some (.int .i64 ((rd_T48 ((rd_T46 l1 x9_1).f1) x18_3).f2)) := (blk_cell BK347.out 2).trans rfl
                    have hcz48_3 : wc.cell? ⟨gb347, 3, none⟩ = some (.int .i64 ((rd_T48 ((rd_T46 l1 x9_1).f1) x18_3).f3)) := (blk_cell BK347.out 3).trans rfl
                    have hfz48_0 := blk_frozen BK347.out 0
                    have hfz48_1 := blk_frozen BK347.out 1
                    have hfz48_2 := blk_frozen BK347.out 2
                    have hfz48_3 := blk_frozen BK347.out 3
                    go_wp2_with (first | ((with_reducible refine gate_builtin (b := .append) (xs := #[.tmp 131, .tmp 138]) rfl ?_); at_builtin; refine Kd.R_append k52 (w0 := w) w.heap.size rfl (.tmp 131) (.tmp 138) 49 52 (.agg #[(.int .i64 0), (.int .i64 0), (.int .i64 0)]) 24 rfl Tryd.underlying49 info52 rfl (by decide) (by omega) u13 x13_3 (⟨302, ((rd_T48 ((rd_T46 l1 x9_1).f1) x18_3).f2), ((rd_T48 ((rd_T46 l1 x9_1).f1) x18_3).f3)⟩ : S52) [.int .i64 302, .int .i64 ((rd_T48 ((rd_T46 l1 x9_1).f1) x18_3).f2), .int .i64 ((rd_T48 ((rd_T46 l1 x9_1).f1) x18_3).f3)] (fun _ => True) (fun _ => False) rfl rfl ?aP (fun _ hk => hk.elim) ?aF ?aO ?aB ?aS ?aL ?_; (case aP => exact k52_mkM _ _ _ (⟨302, ((rd_T48 ((rd_T46 l1 x9_1).f1) x18_3).f2), ((rd_T48 ((rd_T46 l1 x9_1).f1) x18_3).f3)⟩ : S52)); (case aB => exact (by repeat (first | (with_reducible first | exact HB.out | apply below_alloc | apply pw_below_drewN | apply below_drew1 | refine below_set ?_ GE347.out) | exact HB.out))); (case aF => exact (fun _ _ => trivial)); (case aO => exact (by (with_reducible repeat (first | apply Kd.R_alloc | apply Kd.R_drewN | apply Kd.R_drew)); exact HO_13.out)); (case aS => exact (below_size (by repeat (first | (with_reducible first | exact HB.out | apply below_alloc | apply pw_below_drewN | apply below_drew1 | refine below_set ?_ GE347.out) | exact HB.out)))); (case aL => have := LMc47.out; omega); intro v354 w49 ho hb hg hat; rw [← Ny353.out] at ho; have n0_ := Aside0.mk (Kd.V_afterv (ok := (fun k_ => some k_ ≠ (u8 : Value).ownBlock ∧ k_ ≠ gb347)) (by (with_reducible repeat (first | apply Kd.V_alloc | apply Kd.V_drewN | apply Kd.V_drew)); exact Kd.V_mono HO_7.out (fun _ hk => ⟨⟨hk.1, hk.2.2⟩, hk.2.1⟩)) hg hat); have n1_ := Aside0.mk (Kd.S_after (ok := (fun _ => True)) (by (with_reducible repeat (first | apply Kd.S_alloc | apply Kd.S_drewN | apply Kd.S_drew)); exact Kd.S_mono HO_8.out (fun _ hk => ⟨trivial, hk⟩)) hg hat); have n2_ := Aside0.mk (blk_grown (g := gb347) (o := .cells #[.string ((rd_T48 ((rd_T46 l1 x9_1).f1) x18_3).f0), .string ((rd_T48 ((rd_T46 l1 x9_1).f1) x18_3).f1), .int .i64 ((rd_T48 ((rd_T46 l1 x9_1).f1) x18_3).f2), .int .i64 ((rd_T48 ((rd_T46 l1 x9_1).f1) x18_3).f3)] 48 (0, 0)) (by (with_reducible repeat (first | refine blk_drewN ?_ _ | refine blk_drew ?_ | refine blk_alloc ?_ _)); exact BK347.out) hg (Kd.R_ne HO_13.out BK347.out (by decide))); have n3_ := Aside0.mk (hb); have n4_ := Aside0.mk (ho); clear HO_7; clear HO_8; clear BK347; clear HB; clear HO_13; have HO_7 := n0_; have HO_8 := n1_; have BK347 := n2_; have HB := n3_; have HO355 := n4_; clear n0_ n1_ n2_ n3_ n4_; clear ho hb hg hat))
                    go_roundg kj33
                    case measure => have := HK1.out; have := HJ11.out; have := HK3.out; have := HJ33.out; omega
                    case rel => exact ⟨(y353), (wrap64 (x18_3 + 1)), (by first | rfl | (simp; done) | (simp [*]; done)), H', ⟨by have := HK1.out; have := HJ11.out; have := HK3.out; have := HJ33.out; omega⟩, ⟨by (with_reducible repeat (first | apply Kd.V_alloc | apply Kd.V_drewN | apply Kd.V_drew)); exact Kd.V_mono HO_7.out (fun _ hk => ⟨hk.1.1, hk.2⟩)⟩, ⟨by (with_reducible repeat (first | apply Kd.S_alloc | apply Kd.S_drewN | apply Kd.S_drew)); exact Kd.S_mono HO_8.out (fun _ hk => hk.2)⟩, ⟨by (with_reducible repeat (first | apply Kd.R_alloc | apply Kd.R_drewN | apply Kd.R_drew)); exact HO355.out⟩, ⟨by repeat (first | (with_reducible first | exact HB.out | apply below_alloc | apply pw_below_drewN | apply below_drew1 | refine below_set ?_ GE347.out) | exact HB.out)⟩⟩
                   ·rw [if_neg c47] at H
                    exact absurd H (by simp)
                 ·replace c45 := Bool.eq_false_iff.mpr c45
                  subst c45
                  have H1 : (if 0 = 0 then (rf_Check.l2 kj33 l0 l1 t317 x8_1 x9_1 t324 x13_3 (wrap64 (x18_3 + 1))) else (if x13_3.length < 5864062014805 then (rf_Check.l2 kj33 l0 l1 t317 x8_1 x9_1 t324 (x13_3 ++ [(⟨0, ((rd_T48 ((rd_T46 l1 x9_1).f1) x18_3).f2), ((rd_T48 ((rd_T46 l1 x9_1).f1) x18_3).f3)⟩ : S52)]) (wrap64 (x18_3 + 1))) else (none))) = some (r1, r2) := by rw [if_neg (show ¬ (false = true) by decide)] at H; exact H
                  clear H
                  have H := H1
                  clear H1
                  by_cases c50 : 0 = 0
                  ·rw [if_pos c50] at H
                   have c50b0 : (0 == 0) = true := beq_iff_eq.mpr c50
                   have c50b1 : (0 != 0) = false := bne_eq_false_iff_eq.mpr c50
                   clear c50
                   have H' := Aside0.mk H
                   clear H
                   go_wp2
                   go_roundg kj33
                   case measure => have := HK1.out; have := HJ11.out; have := HK3.out; have := HJ33.out; omega
                   case rel => exact ⟨(x13_3), (wrap64 (x18_3 + 1)), (by first | rfl | (simp; done) | (simp [*]; done)), H', ⟨by have := HK1.out; have := HJ11.out; have := HK3.out; have := HJ33.out; omega⟩, ⟨by (with_reducible repeat (first | apply Kd.V_alloc | apply Kd.V_drewN | apply Kd.V_drew)); exact Kd.V_mono HO_7.out (fun _ hk => ⟨hk.1, hk.2.1⟩)⟩, ⟨by (with_reducible repeat (first | apply Kd.S_alloc | apply Kd.S_drewN | apply Kd.S_drew)); exact HO_8.out⟩, ⟨by (with_reducible repeat (first | apply Kd.R_alloc | apply Kd.R_drewN | apply Kd.R_drew)); exact HO_13.out⟩, ⟨by repeat (first | (with_reducible first | exact HB.out | apply below_alloc | apply pw_below_drewN | apply below_drew1 | refine below_set ?_ GE347.out) | exact HB.out)⟩⟩
                  ·exact absurd rfl c50   -- mended by fix16
              ·replace c33 := Bool.eq_false_iff.mpr c33
               subst c33
               have H1 : (if 301 = 0 then (rf_Check.l2 k3 l0 l1 t317 x8_1 x9_1 t324 x13_3 (wrap64 (x18_3 + 1))) else (if x13_3.length < 5864062014805 then (rf_Check.l2 k3 l0 l1 t317 x8_1 x9_1 t324 (x13_3 ++ [(⟨301, (rd_T48 ((rd_T46 l1 x9_1).f1) x18_3).f2, (rd_T48 ((rd_T46 l1 x9_1).f1) x18_3).f3⟩ : S52)]) (wrap64 (x18_3 + 1))) else (none))) = some (r1, r2) := by rw [if_neg (show ¬ (false = true) by decide)] at H; exact H
               clear H
               have H := H1
               clear H1
               by_cases c54 : 301 = 0
               ·exact absurd c54 (by decide)   -- mended by fix16
               ·rw [if_neg c54] at H
                have c54b0 : (301 == 0) = false := beq_eq_false_iff_ne.mpr c54
                have c54b1 : (301 != 0) = true := bne_iff_ne.mpr c54
                by_cases c58 : x13_3.length < 5864062014805
                ·rw [if_pos c58] at H
                 have LMc58 := Aside0.mk c58
                 clear c58
                 obtain ⟨y359, hy359⟩ : ∃ y_ : List (S52), y_ = (x13_3 ++ [(⟨301, (rd_T48 ((rd_T46 l1 x9_1).f1) x18_3).f2, (rd_T48 ((rd_T46 l1 x9_1).f1) x18_3).f3⟩ : S52)]) := ⟨_, rfl⟩
                 replace H : (rf_Check.l2 k3 l0 l1 t317 x8_1 x9_1 t324 y359 (wrap64 (x18_3 + 1))) = some (r1, r2) := by first | (rw [hy359]; with_reducible exact H) | (have H2_ := (Option.bind_some _ _).symm.trans H; rw [hy359]; with_reducible exact H2_) | (have H2_ := (Option.bind_some _ _).symm.trans H; with_reducible exact H2_) | with_reducible exact H | (rw [hy359]; exact H) | exact H
                 have Ny359 := Aside0.mk hy359
                 clear hy359
                 have H' := Aside0.mk H
                 clear H
                 have p341 : 0 ≤ (x9_1 : Int) := of_decide_eq_true (by first | (with_reducible assumption) | assumption)
                 have q341 : x9_1 < (l1.length : Int) := of_decide_eq_true (by first | (with_reducible assumption) | assumption)
                 obtain ⟨ad341, A341_3, c341_3, A341_4, c341_4, e341, hx341_0, hx341_1, hx341_2, hx341_3, hx341_4, hl341_3, hi341_3, hl341_4, hi341_4⟩ := at_T46 HR1.out x9_1 p341 q341
                 cases e341
                 replace hx341_0 := pw_cell_below HB.out hx341_0
                 replace hx341_1 := pw_cell_below HB.out hx341_1
                 replace hx341_2 := pw_cell_below HB.out hx341_2
                 replace hx341_3 := pw_cell_below HB.out hx341_3
                 replace hx341_4 := pw_cell_below HB.out hx341_4
                 have HR341_3 := Aside0.mk hi341_3
                 have HC341_3 := Aside0.mk hl341_3
                 clear hi341_3 hl341_3
                 have HR341_4 := Aside0.mk hi341_4
                 have HC341_4 := Aside0.mk hl341_4
                 clear hi341_4 hl341_4
                 replace p341 := eq_true p341
                 replace q341 := eq_true q341
                 have p345 : 0 ≤ (x9_1 : Int) := of_decide_eq_true (by first | (with_reducible assumption) | assumption)
                 have q345 : x9_1 < (l1.length : Int) := of_decide_eq_true (by first | (with_reducible assumption) | assumption)
                 obtain ⟨ad345, A345_3, c345_3, A345_4, c345_4, e345, hx345_0, hx345_1, hx345_2, hx345_3, hx345_4, hl345_3, hi345_3, hl345_4, hi345_4⟩ := at_T46 HR1.out x9_1 p345 q345
                 obtain rfl : ad341 = ad345 := (by injection e345)
                 replace hx345_0 := pw_cell_below HB.out hx345_0
                 replace hx345_1 := pw_cell_below HB.out hx345_1
                 replace hx345_2 := pw_cell_below HB.out hx345_2
                 replace hx345_3 := pw_cell_below HB.out hx345_3
                 replace hx345_4 := pw_cell_below HB.out hx345_4
                 have HR345_3 := Aside0.mk hi345_3
                 have HC345_3 := Aside0.mk hl345_3
                 clear hi345_3 hl345_3
                 have HR345_4 := Aside0.mk hi345_4
                 have HC345_4 := Aside0.mk hl345_4
                 clear hi345_4 hl345_4
                 replace p345 := eq_true p345
                 replace q345 := eq_true q345
                 have ea_ := Option.some.inj (hx341_3.symm.trans hx345_3)
                 injection ea_ with ea_ en_ ec_
                 subst ea_
                 subst ec_
                 clear en_
                 have ea_ := Option.some.inj (hx341_4.symm.trans hx345_4)
                 injection ea_ with ea_ en_ ec_
                 subst ea_
                 subst ec_
                 clear en_
                 have p346 : 0 ≤ (x18_3 : Int) := of_decide_eq_true (by first | (with_reducible assumption) | assumption)
                 have q346 : x18_3 < (((rd_T46 l1 x9_1).f1).length : Int) := of_decide_eq_true (by first | (with_reducible assumption) | assumption)
                 obtain ⟨ad346, e346, hx346_0, hx346_1, hx346_2, hx346_3⟩ := at_T48 HR345_3.out x18_3 p346 q346
                 cases e346
                 replace hx346_0 := pw_cell_below HB.out hx346_0
                 replace hx346_1 := pw_cell_below HB.out hx346_1
                 replace hx346_2 := pw_cell_below HB.out hx346_2
                 replace hx346_3 := pw_cell_below HB.out hx346_3
                 replace p346 := eq_true p346
                 replace q346 := eq_true q346
                 go_wp2_with (first | ((with_reducible refine gate_dst (N := 19) rfl ?_); refine box_event ?hg (N := 19) ?hd (cs := #[.string (⟨#[]⟩ : ByteArray), .string (⟨#[]⟩ : ByteArray), .int .i64 0, .int .i64 0]) (t := 48) ?hr ?_; (case hd => rfl); (case hg => rfl); (case hr => first | (go_simp; done) | (go_simp; rfl)); intro gb347 hg w59 hbox hb; have n0_ := Aside0.mk (Kd.V_below (Kd.V_elderB (by (with_reducible repeat (first | apply Kd.V_alloc | apply Kd.V_drewN | apply Kd.V_drew)); exact HO_7.out) gb347 (Nat.le_of_eq hg.symm)) hb); have n1_ := Aside0.mk (Kd.S_below (by (with_reducible repeat (first | apply Kd.S_alloc | apply Kd.S_drewN | apply Kd.S_drew)); exact HO_8.out) hb); have n2_ := Aside0.mk (Kd.R_below (by (with_reducible repeat (first | apply Kd.R_alloc | apply Kd.R_drewN | apply Kd.R_drew)); exact HO_13.out) hb); have n3_ := Aside0.mk (below_step (by repeat (first | (with_reducible first | exact HB.out | apply below_alloc | apply pw_below_drewN | apply below_drew1) | exact HB.out)) hb); have n4_ := Aside0.mk (hbox); have n5_ := Aside0.mk ((by rw [hg]; exact (below_size (by repeat (first | (with_reducible first | exact HB.out | apply below_alloc | apply pw_below_drewN | apply below_drew1) | exact HB.out))) : w.heap.size ≤ gb347)); have n6_ := Aside0.mk ((by rw [hg]; exact (below_size (by repeat (first | (with_reducible first | exact HB.out | apply below_alloc | apply pw_below_drewN | apply below_drew1) | exact HB.out))) : w.heap.size ≤ gb347)); clear HO_7; clear HO_8; clear HO_13; clear HB; have HO_7 := n0_; have HO_8 := n1_; have HO_13 := n2_; have HB := n3_; have BK347 := n4_; have GW347 := n5_; have GE347 := n6_; clear n0_ n1_ n2_ n3_ n4_ n5_ n6_; clear hb hbox hg; have hcz60_0 : w59.cell? ⟨gb347, 0, none⟩ = some (.string (⟨#[]⟩ : ByteArray)) := (blk_cell BK347.out 0).trans rfl; have hcz60_1 : w59.cell? ⟨gb347, 1, none⟩ = some (.string (⟨#[]⟩ : ByteArray)) := (blk_cell BK347.out 1).trans rfl; have hcz60_2 : w59.cell? ⟨gb347, 2, none⟩ = some (.int .i64 0) := (blk_cell BK347.out 2).trans rfl; have hcz60_3 : w59.cell? ⟨gb347, 3, none⟩ = some (.int .i64 0) := (blk_cell BK347.out 3).trans rfl; have hfz60_0 := blk_frozen BK347.out 0; have hfz60_1 := blk_frozen BK347.out 1; have hfz60_2 := blk_frozen BK347.out 2; have hfz60_3 := blk_frozen BK347.out 3; obtain ⟨Ao61, co61, eo61⟩ := Kd.V_slice HO_7.out; subst eo61) | ((with_reducible refine gate_callee (f := 33) rfl ?_); refine goesL_ (some 114) rfl rfl Tryd.func33 (by kernel_rfl) rfl #[.slice Ao61 t317.length co61, .string ((rd_T48 ((rd_T46 l1 x9_1).f1) x18_3).f1)] rfl (by (try simp only [List.map_toArray, List.map_cons, List.map_nil]); first | done | rfl | (simp only [List.length_drop, List.length_take]; rfl)) ?_; (with_reducible refine (scholiastref13_has.calls k3 _ _ t317 ((rd_T48 ((rd_T46 l1 x9_1).f1) x18_3).f1) false _ ?side1 ?side2 A32.out).mono ?_); (case side1 => refine (Kd.V_reads' (e := 9) (base := w.heap.size) (ok := fun k_ => ((some k_ ≠ (u8 : Value).ownBlock ∧ some k_ ≠ (u13 : Value).ownBlock) ∧ k_ ≠ gb347)) (n := t317.length) (c := co61) ?_).2.2; exact (by (with_reducible repeat (first | apply Kd.V_alloc | apply Kd.V_drewN | apply Kd.V_drew)); exact (Kd.V_mono (Kd.V_far (p := ⟨gb347, 3, none⟩) (Kd.V_far (p := ⟨gb347, 2, none⟩) (Kd.V_far (p := ⟨gb347, 1, none⟩) (Kd.V_far (p := ⟨gb347, 0, none⟩) (Kd.V_mono HO_7.out (fun k_ hk => (⟨hk, hk.2⟩ : _ ∧ k_ ≠ gb347))) (fun _ hk => hk.2) (.string ((rd_T48 ((rd_T46 l1 x9_1).f1) x18_3).f0))) (fun _ hk => hk.2) (.string ((rd_T48 ((rd_T46 l1 x9_1).f1) x18_3).f1))) (fun _ hk => hk.2) (.int .i64 ((rd_T48 ((rd_T46 l1 x9_1).f1) x18_3).f2))) (fun _ hk => hk.2) (.int .i64 ((rd_T48 ((rd_T46 l1 x9_1).f1) x18_3).f3))) (fun _ h_ => h_.1)))); (case side2 => exact (Kd.V_reads' HO_7.out).2.1); rintro e w' ⟨rfl, ⟨nd, rfl⟩⟩; refine ⟨_, rfl, ?_⟩) | ((with_reducible refine gate_builtin (b := .append) (xs := #[.tmp 131, .tmp 138]) rfl ?_); at_builtin; refine Kd.R_append k52 (w0 := w) w.heap.size rfl (.tmp 131) (.tmp 138) 49 52 (.agg #[(.int .i64 0), (.int .i64 0), (.int .i64 0)]) 24 rfl Tryd.underlying49 info52 rfl (by decide) (by omega) u13 x13_3 (⟨301, (rd_T48 ((rd_T46 l1 x9_1).f1) x18_3).f2, (rd_T48 ((rd_T46 l1 x9_1).f1) x18_3).f3⟩ : S52) [.int .i64 301, .int .i64 ((rd_T48 ((rd_T46 l1 x9_1).f1) x18_3).f2), .int .i64 ((rd_T48 ((rd_T46 l1 x9_1).f1) x18_3).f3)] (fun _ => True) (fun _ => False) rfl (by first | (go_simp; done) | (go_simp; rfl)) ?aP (fun _ hk => hk.elim) ?aF ?aO ?aB ?aS ?aL ?_; (case aP => exact k52_mkM _ _ _ (⟨301, (rd_T48 ((rd_T46 l1 x9_1).f1) x18_3).f2, (rd_T48 ((rd_T46 l1 x9_1).f1) x18_3).f3⟩ : S52)); (case aB => exact (by repeat (first | (with_reducible first | exact HB.out | apply below_alloc | apply pw_below_drewN | apply below_drew1 | refine below_set ?_ GE347.out) | exact HB.out))); (case aF => exact (fun _ _ => trivial)); (case aO => exact (by (with_reducible repeat (first | apply Kd.R_alloc | apply Kd.R_drewN | apply Kd.R_drew)); exact Kd.R_mono (Kd.R_far (p := ⟨gb347, 3, none⟩) (Kd.R_far (p := ⟨gb347, 2, none⟩) (Kd.R_far (p := ⟨gb347, 1, none⟩) (Kd.R_far (p := ⟨gb347, 0, none⟩) (Kd.R_types HO_13.out BK347.out (by decide)) (fun _ hk => hk.2) (.string ((rd_T48 ((rd_T46 l1 x9_1).f1) x18_3).f0))) (fun _ hk => hk.2) (.string ((rd_T48 ((rd_T46 l1 x9_1).f1) x18_3).f1))) (fun _ hk => hk.2) (.int .i64 ((rd_T48 ((rd_T46 l1 x9_1).f1) x18_3).f2))) (fun _ hk => hk.2) (.int .i64 ((rd_T48 ((rd_T46 l1 x9_1).f1) x18_3).f3))) (fun _ hk => trivial))); (case aS => exact (below_size (by repeat (first | (with_reducible first | exact HB.out | apply below_alloc | apply pw_below_drewN | apply below_drew1 | refine below_set ?_ GE347.out) | exact HB.out)))); (case aL => have := LMc58.out; omega); intro v360 w62 ho hb hg hat; rw [← Ny359.out] at ho; have n0_ := Aside0.mk (Kd.V_afterv (ok := (fun k_ => some k_ ≠ (u8 : Value).ownBlock ∧ k_ ≠ gb347)) (by (with_reducible repeat (first | apply Kd.V_alloc | apply Kd.V_drewN | apply Kd.V_drew)); exact Kd.V_mono (Kd.V_far (p := ⟨gb347, 3, none⟩) (Kd.V_far (p := ⟨gb347, 2, none⟩) (Kd.V_far (p := ⟨gb347, 1, none⟩) (Kd.V_far (p := ⟨gb347, 0, none⟩) (Kd.V_mono HO_7.out (fun k_ hk => (⟨hk, hk.2⟩ : _ ∧ k_ ≠ gb347))) (fun _ hk => hk.2) (.string ((rd_T48 ((rd_T46 l1 x9_1).f1) x18_3).f0))) (fun _ hk => hk.2) (.string ((rd_T48 ((rd_T46 l1 x9_1).f1) x18_3).f1))) (fun _ hk => hk.2) (.int .i64 ((rd_T48 ((rd_T46 l1 x9_1).f1) x18_3).f2))) (fun _ hk => hk.2) (.int .i64 ((rd_T48 ((rd_T46 l1 x9_1).f1) x18_3).f3))) (fun _ hk => ⟨⟨hk.1.1.1, hk.1.2⟩, hk.1.1.2⟩)) hg hat); have n1_ := Aside0.mk (Kd.S_after (ok := (fun _ => True)) (by (with_reducible repeat (first | apply Kd.S_alloc | apply Kd.S_drewN | apply Kd.S_drew)); exact Kd.S_mono (Kd.S_far (p := ⟨gb347, 3, none⟩) (Kd.S_far (p := ⟨gb347, 2, none⟩) (Kd.S_far (p := ⟨gb347, 1, none⟩) (Kd.S_far (p := ⟨gb347, 0, none⟩) (Kd.S_types HO_8.out BK347.out (by decide)) (fun _ hk => hk.2) (.string ((rd_T48 ((rd_T46 l1 x9_1).f1) x18_3).f0))) (fun _ hk => hk.2) (.string ((rd_T48 ((rd_T46 l1 x9_1).f1) x18_3).f1))) (fun _ hk => hk.2) (.int .i64 ((rd_T48 ((rd_T46 l1 x9_1).f1) x18_3).f2))) (fun _ hk => hk.2) (.int .i64 ((rd_T48 ((rd_T46 l1 x9_1).f1) x18_3).f3))) (fun _ hk => ⟨trivial, hk.1⟩)) hg hat); have n2_ := Aside0.mk (blk_grown (g := gb347) (o := .cells #[.string ((rd_T48 ((rd_T46 l1 x9_1).f1) x18_3).f0), .string ((rd_T48 ((rd_T46 l1 x9_1).f1) x18_3).f1), .int .i64 ((rd_T48 ((rd_T46 l1 x9_1).f1) x18_3).f2), .int .i64 ((rd_T48 ((rd_T46 l1 x9_1).f1) x18_3).f3)] 48 (0, 0)) (by (with_reducible repeat (first | refine blk_drewN ?_ _ | refine blk_drew ?_ | refine blk_alloc ?_ _)); refine blk_put (cs := #[.string ((rd_T48 ((rd_T46 l1 x9_1).f1) x18_3).f0), .string ((rd_T48 ((rd_T46 l1 x9_1).f1) x18_3).f1), .int .i64 ((rd_T48 ((rd_T46 l1 x9_1).f1) x18_3).f2), .int .i64 0]) ?_ 3 _ rfl; (with_reducible repeat (first | refine blk_drewN ?_ _ | refine blk_drew ?_ | refine blk_alloc ?_ _)); refine blk_put (cs := #[.string ((rd_T48 ((rd_T46 l1 x9_1).f1) x18_3).f0), .string ((rd_T48 ((rd_T46 l1 x9_1).f1) x18_3).f1), .int .i64 0, .int .i64 0]) ?_ 2 _ rfl; (with_reducible repeat (first | refine blk_drewN ?_ _ | refine blk_drew ?_ | refine blk_alloc ?_ _)); refine blk_put (cs := #[.string ((rd_T48 ((rd_T46 l1 x9_1).f1) x18_3).f0), .string (⟨#[]⟩ : ByteArray), .int .i64 0, .int .i64 0]) ?_ 1 _ rfl; (with_reducible repeat (first | refine blk_drewN ?_ _ | refine blk_drew ?_ | refine blk_alloc ?_ _)); refine blk_put (cs := #[.string (⟨#[]⟩ : ByteArray), .string (⟨#[]⟩ : ByteArray), .int .i64 0, .int .i64 0]) ?_ 0 _ rfl; (with_reducible repeat (first | refine blk_drewN ?_ _ | refine blk_drew ?_ | refine blk_alloc ?_ _)); exact BK347.out) hg (Kd.R_ne HO_13.out BK347.out (by decide))); have n3_ := Aside0.mk (hb); have n4_ := Aside0.mk (ho); clear HO_7; clear HO_8; clear BK347; clear HB; clear HO_13; have HO_7 := n0_; have HO_8 := n1_; have BK347 := n2_; have HB := n3_; have HO361 := n4_; clear n0_ n1_ n2_ n3_ n4_; clear ho hb hg hat))
                 go_roundg k3
                 case measure => have := HK1.out; have := HJ11.out; have := HK3.out; omega
                 case rel => exact ⟨(y359), (wrap64 (x18_3 + 1)), (by first | rfl | (simp; done) | (simp [*]; done)), H', ⟨by have := HK1.out; have := HJ11.out; have := HK3.out; omega⟩, ⟨by (with_reducible repeat (first | apply Kd.V_alloc | apply Kd.V_drewN | apply Kd.V_drew)); exact Kd.V_mono HO_7.out (fun _ hk => ⟨hk.1.1, hk.2⟩)⟩, ⟨by (with_reducible repeat (first | apply Kd.S_alloc | apply Kd.S_drewN | apply Kd.S_drew)); exact Kd.S_mono HO_8.out (fun _ hk => hk.2)⟩, ⟨by (with_reducible repeat (first | apply Kd.R_alloc | apply Kd.R_drewN | apply Kd.R_drew)); exact HO361.out⟩, ⟨by repeat (first | (with_reducible first | exact HB.out | apply below_alloc | apply pw_below_drewN | apply below_drew1 | refine below_set ?_ GE347.out) | exact HB.out)⟩⟩
                ·rw [if_neg c58] at H
                 exact absurd H (by simp)
             ·rw [if_neg c31] at H
              exact absurd H (by simp)
            ·rw [if_neg c30] at H
             have c30b0 : decide (x18_3 < (((rd_T46 l1 x9_1).f1).length : Int)) = false := decide_eq_false c30
             clear c30
             by_cases c63 : x8_1.length < 5864062014805
             ·rw [if_pos c63] at H
              have LMc63 := Aside0.mk c63
              clear c63
              obtain ⟨y342, hy342⟩ : ∃ y_ : List (List (S52)), y_ = (x8_1 ++ [x13_3]) := ⟨_, rfl⟩
              replace H : (rf_Check.l0 k3 l0 l1 t317 y342 (wrap64 (x9_1 + 1))) = some (r1, r2) := by first | (rw [hy342]; with_reducible exact H) | (have H2_ := (Option.bind_some _ _).symm.trans H; rw [hy342]; with_reducible exact H2_) | (have H2_ := (Option.bind_some _ _).symm.trans H; with_reducible exact H2_) | with_reducible exact H | (rw [hy342]; exact H) | exact H
              have Ny342 := Aside0.mk hy342
              clear hy342
              have H' := Aside0.mk H
              clear H
              have p341 : 0 ≤ (x9_1 : Int) := of_decide_eq_true (by first | (with_reducible assumption) | assumption)
              have q341 : x9_1 < (l1.length : Int) := of_decide_eq_true (by first | (with_reducible assumption) | assumption)
              obtain ⟨ad341, A341_3, c341_3, A341_4, c341_4, e341, hx341_0, hx341_1, hx341_2, hx341_3, hx341_4, hl341_3, hi341_3, hl341_4, hi341_4⟩ := at_T46 HR1.out x9_1 p341 q341
              cases e341
              replace hx341_0 := pw_cell_below HB.out hx341_0
              replace hx341_1 := pw_cell_below HB.out hx341_1
              replace hx341_2 := pw_cell_below HB.out hx341_2
              replace hx341_3 := pw_cell_below HB.out hx341_3
              replace hx341_4 := pw_cell_below HB.out hx341_4
              have HR341_3 := Aside0.mk hi341_3
              have HC341_3 := Aside0.mk hl341_3
              clear hi341_3 hl341_3
              have HR341_4 := Aside0.mk hi341_4
              have HC341_4 := Aside0.mk hl341_4
              clear hi341_4 hl341_4
              replace p341 := eq_true p341
              replace q341 := eq_true q341
              obtain ⟨Ao65, co65, eo65⟩ := Kd.R_slice HO_13.out
              subst eo65
              go_wp2_with (first | ((with_reducible refine gate_builtin (b := .append) (xs := #[.tmp 140, .tmp 142]) rfl ?_); at_builtin; refine Kd.S_append (Kd.slice 52 k52) (w0 := w) w.heap.size rfl (.tmp 140) (.tmp 142) 37 49 (.slice none 0 0) 24 rfl Tryd.underlying37 info49 rfl (by decide) (by omega) u8 x8_1 x13_3 [.slice Ao65 x13_3.length co65] (fun _ => True) (fun k_ => some k_ = (.slice Ao65 x13_3.length co65 : Value).ownBlock) rfl rfl ?aP (fun k_ hk_ => ((Kd.R_mono (ok' := fun k_ => ((fun _ => True)) k_ ∧ some k_ ≠ (u8 : Value).ownBlock) (Kd.R_apart' (HO_13.out) (Kd.S_typed HO_8.out) (by decide)) (fun k_ hk => ⟨trivial, hk.2⟩))).1 k_ hk_.symm) ?aF ?aO ?aB ?aS ?aL ?_; (case aP => exact Kd.M_row (Kd.R_mono (Kd.R_tight rfl (Kd.R_mono (ok' := fun k_ => ((fun _ => True)) k_ ∧ some k_ ≠ (u8 : Value).ownBlock) (Kd.R_apart' (HO_13.out) (Kd.S_typed HO_8.out) (by decide)) (fun k_ hk => ⟨trivial, hk.2⟩))) (fun _ h_ => h_))); (case aB => exact (by repeat (first | (with_reducible first | exact HB.out | apply below_alloc | apply pw_below_drewN | apply below_drew1) | exact HB.out))); (case aF => exact (fun _ _ => trivial)); (case aO => exact (by (with_reducible repeat (first | apply Kd.S_alloc | apply Kd.S_drewN | apply Kd.S_drew)); exact Kd.S_mono HO_8.out (fun k_ hk => ⟨trivial, fun e_ => hk e_⟩))); (case aS => exact (below_size (by repeat (first | (with_reducible first | exact HB.out | apply below_alloc | apply pw_below_drewN | apply below_drew1) | exact HB.out)))); (case aL => have := LMc63.out; omega); intro v343 w64 ho hb hg hat; rw [← Ny342.out] at ho; have n0_ := Aside0.mk (Kd.V_afterv (ok := (fun k_ => some k_ ≠ (.slice Ao65 x13_3.length co65 : Value).ownBlock)) (by (with_reducible repeat (first | apply Kd.V_alloc | apply Kd.V_drewN | apply Kd.V_drew)); exact Kd.V_mono HO_7.out (fun _ hk => ⟨hk.2, hk.1⟩)) hg hat); have n1_ := Aside0.mk (hb); have n2_ := Aside0.mk (ho); clear HO_7; clear HB; clear HO_8; clear HO_13; have HO_7 := n0_; have HB := n1_; have HO344 := n2_; clear n0_ n1_ n2_; clear ho hb hg hat))
              go_roundg k3
              case measure => have := HK1.out; have := HJ11.out; have := HK3.out; omega
              case rel => exact ⟨(y342), (wrap64 (x9_1 + 1)), (by first | rfl | (simp; done) | (simp [*]; done)), H', ⟨by have := HK1.out; have := HJ11.out; have := HK3.out; omega⟩, ⟨by (with_reducible repeat (first | apply Kd.V_alloc | apply Kd.V_drewN | apply Kd.V_drew)); exact Kd.V_mono HO_7.out (fun _ hk => hk.2)⟩, ⟨by (with_reducible repeat (first | apply Kd.S_alloc | apply Kd.S_drewN | apply Kd.S_drew)); exact HO344.out⟩, ⟨by repeat (first | (with_reducible first | exact HB.out | apply below_alloc | apply pw_below_drewN | apply below_drew1) | exact HB.out)⟩⟩
             ·rw [if_neg c63] at H
              exact absurd H (by simp)
           ·rw [if_neg c29] at H
            exact absurd H (by simp)
          ·rw [if_neg c28] at H
           exact absurd H (by simp)
     ·rw [if_neg c10] at H
      exact absurd H (by simp)
    ·rw [if_neg c9] at H
     have c9b0 : decide (x9_1 < (l0.length : Int)) = false := decide_eq_false c9
     clear c9
     simp only [Option.some.injEq, Prod.mk.injEq] at H
     obtain ⟨rfl, rfl⟩ := H
     go_wp2
     go_ret2
     exact ⟨_, by first | rfl | (simp [errW_none, errW_some] <;> rfl) | (simp [*, errW_none, errW_some] <;> rfl), by (with_reducible repeat (first | apply Kd.S_alloc | apply Kd.S_drewN | apply Kd.S_drew)); exact HO_8.out, by repeat (first | (with_reducible first | exact HB.out | apply below_alloc | apply pw_below_drewN | apply below_drew1) | exact HB.out)⟩
 ·rw [if_neg c4] at H
  have c4b0 : (t316 == 0) = false := beq_eq_false_iff_ne.mpr c4
  have c4b1 : (t316 != 0) = true := bne_iff_ne.mpr c4
  simp only [Option.some.injEq, Prod.mk.injEq] at H
  obtain ⟨rfl, rfl⟩ := H
  go_enter Tryd.func18, Tryd.ntmps18
  go_wp2_with (first | ((with_reducible refine gate_callee (f := 32) rfl ?_); refine goesL_ (some 23) rfl rfl Tryd.func32 (by kernel_rfl) rfl #[.slice A0 l0.length c0, .slice A1 l1.length c1] rfl (by (try simp only [List.map_toArray, List.map_cons, List.map_nil]); first | done | rfl | (simp only [List.length_drop, List.length_take]; rfl)) ?_; (with_reducible refine (rf_right.calls k _ _ l0 _ _ l1 t316 _ ?side1 ?side2 ?side3 ?side4 A3.out).mono ?_); (case side1 => repeat (first | exact HR0.out | (with_reducible refine Kd.C_alloc ?_ _) | (with_reducible refine Kd.C_drewN ?_ _) | (with_reducible refine Kd.C_drew ?_))); (case side2 => exact HC0.out); (case side3 => repeat (first | exact HR1.out | (with_reducible refine Kd.C_alloc ?_ _) | (with_reducible refine Kd.C_drewN ?_ _) | (with_reducible refine Kd.C_drew ?_))); (case side4 => exact HC1.out); rintro e w' ⟨rfl, ⟨nd, rfl⟩⟩; refine ⟨_, rfl, ?_⟩))
  go_ret2
  exact ⟨_, by first | rfl | (simp [errW_none, errW_some] <;> rfl) | (simp [*, errW_none, errW_some] <;> rfl), by first | exact Kd.S_nil _ _ _ _ _ | exact Kd.N_nil _ _ _ _ _ | exact Kd.V_nil _ _ _ _ _ | exact Kd.Q_nil _ _ _ _ _ | exact Kd.R_nil _ _ _ _ _, by repeat (first | (with_reducible first | exact HB.out | apply below_alloc | apply pw_below_drewN | apply below_drew1) | exact HB.out)⟩
end Go.Proofs.YtcejdokeaoklaaaDoor.PImp
