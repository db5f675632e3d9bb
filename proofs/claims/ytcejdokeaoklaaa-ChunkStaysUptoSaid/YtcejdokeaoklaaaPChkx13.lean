-- Written by a program of this session (wip/tools/printseat.sh).
import Derived.Test.YtcejdokeaoklaaaPChkx0
import Derived.Test.YtcejdokeaoklaaaPChkx2
import Derived.Test.YtcejdokeaoklaaaPChkx4
import Derived.Test.YtcejdokeaoklaaaPChkx6
import Derived.Test.YtcejdokeaoklaaaPChkx10
import Derived.Test.YtcejdokeaoklaaaPChkx12
namespace Go.Proofs.Ytcejdokeaoklaaa.PChk
open Go.RowKit Go.Proofs.YtcejdokeaoklaaaW.PrintWords Go.Proofs.YtcejdokeaoklaaaW.PrintLast Go.Proofs.YtcejdokeaoklaaaW.PrintMore
attribute [local go_sem] max2_int min2_int max_two min_two max_three min_three max_four min_four   -- for this text's walks alone
set_option linter.unusedVariables false
set_option linter.unusedSimpArgs false

attribute [local go_sem high] eqA30
/-! ### scholiastlaw04_ChunkStays: function 8 -/
mutual
def scholiastlaw04_ChunkStays.j0 : Nat → List (S25) → Int → List Int → Bool → Option (Bool)
 | 0, _, _, _, _ => none
 | k + 1, x0, x1, x2, x33 => if x33 = true then (some true) else (scholiastlaw04_ChunkStays.l0 k x0 x1 ([] : List (S25)) x2 (x2.length : Int) 0)
def scholiastlaw04_ChunkStays.l0 : Nat → List (S25) → Int → List (S25) → List Int → Int → Int → Option (Bool)
 | 0, _, _, _, _, _, _ => none
 | k + 1, x0, x1, x7, x34, x35, x36 => if x36 < x35 then (if 0 ≤ x36 then (if x36 < (x34.length : Int) then ((scholiastlaw04_bears.f (rd x34 x36)).bind fun t281 => (if t281 = true then (some true) else (if x7.length < 5864062014805 then (scholiastlaw04_ChunkStays.l0 k x0 x1 (x7 ++ [(⟨rd x34 x36, 0, 0⟩ : S25)]) x34 x35 (wrap64 (x36 + 1))) else (none)))) else (none)) else (none)) else ((chunk_Cut.f x0).bind fun t285 => (scholiastlaw04_ChunkStays.l1 k x0 x1 x7 t285 0))
def scholiastlaw04_ChunkStays.j3 : Nat → List (S25) → Int → List (S25) → List (S30) → Int → Option (Bool)
 | 0, _, _, _, _, _ => none
 | k + 1, x0, x1, x7, x10, x11 => if x11 = (x10.length : Int) then (some true) else (if 0 ≤ x1 then (if x1 ≤ (x0.length : Int) then ((some (x0.take (x1 : Int).toNat : List (S25))).bind fun y289 => (if ([] : List (S25)).length + y289.length < 5864062014805 then ((some (([] : List (S25)) ++ y289 : List (S25))).bind fun y293 => (if y293.length + x7.length < 5864062014805 then ((some (y293 ++ x7 : List (S25))).bind fun y296 => (if 0 ≤ (wrap64 (x1 + 1)) then (if (wrap64 (x1 + 1)) ≤ (x0.length : Int) then ((some (x0.drop ((wrap64 (x1 + 1)) : Int).toNat : List (S25))).bind fun y299 => (if y296.length + y299.length < 5864062014805 then ((some (y296 ++ y299 : List (S25))).bind fun y303 => ((chunk_Cut.f y303).bind fun t306 => (if 0 ≤ x11 then (if x11 < (x10.length : Int) then (if 0 ≤ ((rd_T30 x10 x11).f0) then (if ((rd_T30 x10 x11).f0) ≤ (wrap64 ((wrap64 (((rd_T30 x10 x11).f1) + (x7.length : Int))) - 1)) then (if (wrap64 ((wrap64 (((rd_T30 x10 x11).f1) + (x7.length : Int))) - 1)) ≤ (y303.length : Int) then ((scholiastlaw04_weighs.f k ((y303.take ((wrap64 ((wrap64 (((rd_T30 x10 x11).f1) + (x7.length : Int))) - 1)) : Int).toNat).drop (((rd_T30 x10 x11).f0) : Int).toNat)).bind fun t315 => (if t315 = true then (if (t306.length : Int) = (x10.length : Int) then (scholiastlaw04_ChunkStays.l2 k x7 x10 x11 t306 (x10.length : Int) 0) else (some false)) else (some ((t306.length : Int) == (wrap64 ((x10.length : Int) - 1)))))) else (none)) else (none)) else (none)) else (none)) else (none)))) else (none))) else (none)) else (none))) else (none))) else (none))) else (none)) else (none))
def scholiastlaw04_ChunkStays.l2 : Nat → List (S25) → List (S30) → Int → List (S30) → Int → Int → Option (Bool)
 | 0, _, _, _, _, _, _ => none
 | k + 1, x7, x10, x11, x13, x112, x113 => if x113 < x112 then (if 0 ≤ x113 then (if x113 < (x10.length : Int) then (if x113 > x11 then (scholiastlaw04_ChunkStays.j5 k x7 x10 x11 x13 x113 x112 x113 (wrap64 (((rd_T30 x10 x113).f0) + (wrap64 ((x7.length : Int) - 1)))) ((rd_T30 x10 x113).f1)) else (scholiastlaw04_ChunkStays.j5 k x7 x10 x11 x13 x113 x112 x113 ((rd_T30 x10 x113).f0) ((rd_T30 x10 x113).f1))) else (none)) else (none)) else (some true)
def scholiastlaw04_ChunkStays.j5 : Nat → List (S25) → List (S30) → Int → List (S30) → Int → Int → Int → Int → Int → Option (Bool)
 | 0, _, _, _, _, _, _, _, _, _ => none
 | k + 1, x7, x10, x11, x13, x14, x112, x113, x318000, x318001 => if x14 ≥ x11 then (if 0 ≤ x14 then (if x14 < (x13.length : Int) then (if (!(((rd_T30 x13 x14).f0) == x318000) || (!(((rd_T30 x13 x14).f1) == (wrap64 (x318001 + (wrap64 ((x7.length : Int) - 1))))))) = true then (some false) else (scholiastlaw04_ChunkStays.l2 k x7 x10 x11 x13 x112 (wrap64 (x113 + 1)))) else (none)) else (none)) else (if 0 ≤ x14 then (if x14 < (x13.length : Int) then (if (!(((rd_T30 x13 x14).f0) == x318000) || (!(((rd_T30 x13 x14).f1) == x318001))) = true then (some false) else (scholiastlaw04_ChunkStays.l2 k x7 x10 x11 x13 x112 (wrap64 (x113 + 1)))) else (none)) else (none))
def scholiastlaw04_ChunkStays.l1 : Nat → List (S25) → Int → List (S25) → List (S30) → Int → Option (Bool)
 | 0, _, _, _, _, _ => none
 | k + 1, x0, x1, x7, x10, x11 => if x11 < (x10.length : Int) then (if 0 ≤ x11 then (if ((rd_T30 x10 x11).f1) ≤ x1 then (scholiastlaw04_ChunkStays.l1 k x0 x1 x7 x10 (wrap64 (x11 + 1))) else (scholiastlaw04_ChunkStays.j3 k x0 x1 x7 x10 x11)) else (none)) else (scholiastlaw04_ChunkStays.j3 k x0 x1 x7 x10 x11)
end
def scholiastlaw04_ChunkStays.f (k : Nat) (l0 : List (S25)) (a1 : Int) (l2 : List Int) : Option (Bool) := (scholiastlaw04_shown.f k).bind fun t277 => (if t277 = true then (if a1 < 0 then (scholiastlaw04_ChunkStays.j0 k l0 a1 l2 true) else (if a1 ≥ (l0.length : Int) then (scholiastlaw04_ChunkStays.j0 k l0 a1 l2 true) else (if 0 ≤ a1 then (if a1 < (l0.length : Int) then ((scholiastlaw04_bears.f ((rd_T25 l0 a1).f0)).bind fun t279 => (scholiastlaw04_ChunkStays.j0 k l0 a1 l2 t279)) else (none)) else (none)))) else (some false))
theorem scholiastlaw04_ChunkStays.mono_l : ∀ k, (∀ y0 y1 y2 y3, LeO (scholiastlaw04_ChunkStays.j0 k y0 y1 y2 y3) (scholiastlaw04_ChunkStays.j0 (k + 1) y0 y1 y2 y3)) ∧ (∀ y0 y1 y2 y3 y4 y5, LeO (scholiastlaw04_ChunkStays.l0 k y0 y1 y2 y3 y4 y5) (scholiastlaw04_ChunkStays.l0 (k + 1) y0 y1 y2 y3 y4 y5)) ∧ (∀ y0 y1 y2 y3 y4, LeO (scholiastlaw04_ChunkStays.j3 k y0 y1 y2 y3 y4) (scholiastlaw04_ChunkStays.j3 (k + 1) y0 y1 y2 y3 y4)) ∧ (∀ y0 y1 y2 y3 y4 y5, LeO (scholiastlaw04_ChunkStays.l2 k y0 y1 y2 y3 y4 y5) (scholiastlaw04_ChunkStays.l2 (k + 1) y0 y1 y2 y3 y4 y5)) ∧ (∀ y0 y1 y2 y3 y4 y5 y6 y7 y8, LeO (scholiastlaw04_ChunkStays.j5 k y0 y1 y2 y3 y4 y5 y6 y7 y8) (scholiastlaw04_ChunkStays.j5 (k + 1) y0 y1 y2 y3 y4 y5 y6 y7 y8)) ∧ (∀ y0 y1 y2 y3 y4, LeO (scholiastlaw04_ChunkStays.l1 k y0 y1 y2 y3 y4) (scholiastlaw04_ChunkStays.l1 (k + 1) y0 y1 y2 y3 y4))
 | 0 => ⟨fun _ _ _ _ r h => by simp [scholiastlaw04_ChunkStays.j0] at h, fun _ _ _ _ _ _ r h => by simp [scholiastlaw04_ChunkStays.l0] at h, fun _ _ _ _ _ r h => by simp [scholiastlaw04_ChunkStays.j3] at h, fun _ _ _ _ _ _ r h => by simp [scholiastlaw04_ChunkStays.l2] at h, fun _ _ _ _ _ _ _ _ _ r h => by simp [scholiastlaw04_ChunkStays.j5] at h, fun _ _ _ _ _ r h => by simp [scholiastlaw04_ChunkStays.l1] at h⟩
 | k + 1 => by
  obtain ⟨ih0, ih1, ih2, ih3, ih4, ih5⟩ := scholiastlaw04_ChunkStays.mono_l k
  refine ⟨?_, ?_, ?_, ?_, ?_, ?_⟩
  ·intro y0 y1 y2 y3
   unfold scholiastlaw04_ChunkStays.j0
   repeat' first
   | (with_reducible exact ih0 _ _ _ _)
   | (with_reducible exact ih1 _ _ _ _ _ _)
   | (with_reducible exact ih2 _ _ _ _ _)
   | (with_reducible exact ih3 _ _ _ _ _ _)
   | (with_reducible exact ih4 _ _ _ _ _ _ _ _ _)
   | (with_reducible exact ih5 _ _ _ _ _)
   | (with_reducible exact scholiastlaw04_shown.mono _)
   | (with_reducible exact scholiastlaw04_weighs.mono _ _)
   | (with_reducible exact LeO.refl _)
   | (with_reducible exact LeO.none _)
   | (with_reducible refine LeO.ite ?_ ?_)
   | (with_reducible refine LeO.bind ?_ (fun _ => ?_))
   | exact ih0 _ _ _ _
   | exact ih1 _ _ _ _ _ _
   | exact ih2 _ _ _ _ _
   | exact ih3 _ _ _ _ _ _
   | exact ih4 _ _ _ _ _ _ _ _ _
   | exact ih5 _ _ _ _ _
   | exact scholiastlaw04_shown.mono _
   | exact scholiastlaw04_weighs.mono _ _
   | exact LeO.none _
   | refine LeO.ite ?_ ?_
   | refine LeO.bind ?_ (fun _ => ?_)
  ·intro y0 y1 y2 y3 y4 y5
   unfold scholiastlaw04_ChunkStays.l0
   repeat' first
   | (with_reducible exact ih0 _ _ _ _)
   | (with_reducible exact ih1 _ _ _ _ _ _)
   | (with_reducible exact ih2 _ _ _ _ _)
   | (with_reducible exact ih3 _ _ _ _ _ _)
   | (with_reducible exact ih4 _ _ _ _ _ _ _ _ _)
   | (with_reducible exact ih5 _ _ _ _ _)
   | (with_reducible exact scholiastlaw04_shown.mono _)
   | (with_reducible exact scholiastlaw04_weighs.mono _ _)
   | (with_reducible exact LeO.refl _)
   | (with_reducible exact LeO.none _)
   | (with_reducible refine LeO.ite ?_ ?_)
   | (with_reducible refine LeO.bind ?_ (fun _ => ?_))
   | exact ih0 _ _ _ _
   | exact ih1 _ _ _ _ _ _
   | exact ih2 _ _ _ _ _
   | exact ih3 _ _ _ _ _ _
   | exact ih4 _ _ _ _ _ _ _ _ _
   | exact ih5 _ _ _ _ _
   | exact scholiastlaw04_shown.mono _
   | exact scholiastlaw04_weighs.mono _ _
   | exact LeO.none _
   | refine LeO.ite ?_ ?_
   | refine LeO.bind ?_ (fun _ => ?_)
  ·intro y0 y1 y2 y3 y4
   unfold scholiastlaw04_ChunkStays.j3
   repeat' first
   | (with_reducible exact ih0 _ _ _ _)
   | (with_reducible exact ih1 _ _ _ _ _ _)
   | (with_reducible exact ih2 _ _ _ _ _)
   | (with_reducible exact ih3 _ _ _ _ _ _)
   | (with_reducible exact ih4 _ _ _ _ _ _ _ _ _)
   | (with_reducible exact ih5 _ _ _ _ _)
   | (with_reducible exact scholiastlaw04_shown.mono _)
   | (with_reducible exact scholiastlaw04_weighs.mono _ _)
   | (with_reducible exact LeO.refl _)
   | (with_reducible exact LeO.none _)
   | (with_reducible refine LeO.ite ?_ ?_)
   | (with_reducible refine LeO.bind ?_ (fun _ => ?_))
   | exact ih0 _ _ _ _
   | exact ih1 _ _ _ _ _ _
   | exact ih2 _ _ _ _ _
   | exact ih3 _ _ _ _ _ _
   | exact ih4 _ _ _ _ _ _ _ _ _
   | exact ih5 _ _ _ _ _
   | exact scholiastlaw04_shown.mono _
   | exact scholiastlaw04_weighs.mono _ _
   | exact LeO.none _
   | refine LeO.ite ?_ ?_
   | refine LeO.bind ?_ (fun _ => ?_)
  ·intro y0 y1 y2 y3 y4 y5
   unfold scholiastlaw04_ChunkStays.l2
   repeat' first
   | (with_reducible exact ih0 _ _ _ _)
   | (with_reducible exact ih1 _ _ _ _ _ _)
   | (with_reducible exact ih2 _ _ _ _ _)
   | (with_reducible exact ih3 _ _ _ _ _ _)
   | (with_reducible exact ih4 _ _ _ _ _ _ _ _ _)
   | (with_reducible exact ih5 _ _ _ _ _)
   | (with_reducible exact scholiastlaw04_shown.mono _)
   | (with_reducible exact scholiastlaw04_weighs.mono _ _)
   | (with_reducible exact LeO.refl _)
   | (with_reducible exact LeO.none _)
   | (with_reducible refine LeO.ite ?_ ?_)
   | (with_reducible refine LeO.bind ?_ (fun _ => ?_))
   | exact ih0 _ _ _ _
   | exact ih1 _ _ _ _ _ _
   | exact ih2 _ _ _ _ _
   | exact ih3 _ _ _ _ _ _
   | exact ih4 _ _ _ _ _ _ _ _ _
   | exact ih5 _ _ _ _ _
   | exact scholiastlaw04_shown.mono _
   | exact scholiastlaw04_weighs.mono _ _
   | exact LeO.none _
   | refine LeO.ite ?_ ?_
   | refine LeO.bind ?_ (fun _ => ?_)
  ·intro y0 y1 y2 y3 y4 y5 y6 y7 y8
   unfold scholiastlaw04_ChunkStays.j5
   repeat' first
   | (with_reducible exact ih0 _ _ _ _)
   | (with_reducible exact ih1 _ _ _ _ _ _)
   | (with_reducible exact ih2 _ _ _ _ _)
   | (with_reducible exact ih3 _ _ _ _ _ _)
   | (with_reducible exact ih4 _ _ _ _ _ _ _ _ _)
   | (with_reducible exact ih5 _ _ _ _ _)
   | (with_reducible exact scholiastlaw04_shown.mono _)
   | (with_reducible exact scholiastlaw04_weighs.mono _ _)
   | (with_reducible exact LeO.refl _)
   | (with_reducible exact LeO.none _)
   | (with_reducible refine LeO.ite ?_ ?_)
   | (with_reducible refine LeO.bind ?_ (fun _ => ?_))
   | exact ih0 _ _ _ _
   | exact ih1 _ _ _ _ _ _
   | exact ih2 _ _ _ _ _
   | exact ih3 _ _ _ _ _ _
   | exact ih4 _ _ _ _ _ _ _ _ _
   | exact ih5 _ _ _ _ _
   | exact scholiastlaw04_shown.mono _
   | exact scholiastlaw04_weighs.mono _ _
   | exact LeO.none _
   | refine LeO.ite ?_ ?_
   | refine LeO.bind ?_ (fun _ => ?_)
  ·intro y0 y1 y2 y3 y4
   unfold scholiastlaw04_ChunkStays.l1
   repeat' first
   | (with_reducible exact ih0 _ _ _ _)
   | (with_reducible exact ih1 _ _ _ _ _ _)
   | (with_reducible exact ih2 _ _ _ _ _)
   | (with_reducible exact ih3 _ _ _ _ _ _)
   | (with_reducible exact ih4 _ _ _ _ _ _ _ _ _)
   | (with_reducible exact ih5 _ _ _ _ _)
   | (with_reducible exact scholiastlaw04_shown.mono _)
   | (with_reducible exact scholiastlaw04_weighs.mono _ _)
   | (with_reducible exact LeO.refl _)
   | (with_reducible exact LeO.none _)
   | (with_reducible refine LeO.ite ?_ ?_)
   | (with_reducible refine LeO.bind ?_ (fun _ => ?_))
   | exact ih0 _ _ _ _
   | exact ih1 _ _ _ _ _ _
   | exact ih2 _ _ _ _ _
   | exact ih3 _ _ _ _ _ _
   | exact ih4 _ _ _ _ _ _ _ _ _
   | exact ih5 _ _ _ _ _
   | exact scholiastlaw04_shown.mono _
   | exact scholiastlaw04_weighs.mono _ _
   | exact LeO.none _
   | refine LeO.ite ?_ ?_
   | refine LeO.bind ?_ (fun _ => ?_)
theorem scholiastlaw04_ChunkStays.mono : ∀ a0 a1 a2 k, LeO (scholiastlaw04_ChunkStays.f k a0 a1 a2) (scholiastlaw04_ChunkStays.f (k + 1) a0 a1 a2) := by
 intro a0 a1 a2 k
 obtain ⟨ih0, ih1, ih2, ih3, ih4, ih5⟩ := scholiastlaw04_ChunkStays.mono_l k
 unfold scholiastlaw04_ChunkStays.f
 repeat' first
   | (with_reducible exact ih0 _ _ _ _)
   | (with_reducible exact ih1 _ _ _ _ _ _)
   | (with_reducible exact ih2 _ _ _ _ _)
   | (with_reducible exact ih3 _ _ _ _ _ _)
   | (with_reducible exact ih4 _ _ _ _ _ _ _ _ _)
   | (with_reducible exact ih5 _ _ _ _ _)
   | (with_reducible exact scholiastlaw04_shown.mono _)
   | (with_reducible exact scholiastlaw04_weighs.mono _ _)
   | (with_reducible exact LeO.refl _)
   | (with_reducible exact LeO.none _)
   | (with_reducible refine LeO.ite ?_ ?_)
   | (with_reducible refine LeO.bind ?_ (fun _ => ?_))
   | exact ih0 _ _ _ _
   | exact ih1 _ _ _ _ _ _
   | exact ih2 _ _ _ _ _
   | exact ih3 _ _ _ _ _ _
   | exact ih4 _ _ _ _ _ _ _ _ _
   | exact ih5 _ _ _ _ _
   | exact scholiastlaw04_shown.mono _
   | exact scholiastlaw04_weighs.mono _ _
   | exact LeO.none _
   | refine LeO.ite ?_ ?_
   | refine LeO.bind ?_ (fun _ => ?_)
def scholiastlaw04_ChunkStays.T19 : Bool × List (List Nat × List Nat) := (true, [([], []), ([], []), ([0, 1], [0, 1]), ([2], [2]), ([], []), ([3, 4, 3], [3, 4]), ([], []), ([], []), ([7], [7]), ([6, 8], [6, 8]), ([5, 9, 5], [5, 9]), ([10, 10, 0, 1, 2, 3, 4, 5, 6, 7, 8, 9, 10], [10])])
def scholiastlaw04_ChunkStays.B19 : List Nat := [0, 0, 3, 7, 0, 31, 0, 0, 128, 448, 1023, 2047]
theorem scholiastlaw04_ChunkStays.tab19 : rtab .any (opsOf Try.f8 19) = scholiastlaw04_ChunkStays.T19 := by kernel_rfl
theorem scholiastlaw04_ChunkStays.bits19 : waitsOk scholiastlaw04_ChunkStays.T19.2 scholiastlaw04_ChunkStays.B19 = true := by kernel_rfl
def scholiastlaw04_ChunkStays.T21 : Bool × List (List Nat × List Nat) := (true, [([], []), ([], []), ([], []), ([1, 2], [1, 2]), ([3], [3]), ([4], [4]), ([], []), ([], []), ([6, 7], [6, 7]), ([8], [8]), ([9], [9]), ([], []), ([11], [11]), ([10, 12], [10, 12]), ([13], [13]), ([0, 5, 14], [0, 5, 14]), ([15], [15]), ([16], [16])])
def scholiastlaw04_ChunkStays.B21 : List Nat := [0, 0, 0, 6, 14, 30, 0, 0, 192, 448, 960, 0, 2048, 8128, 16320, 32767, 65535, 131071]
theorem scholiastlaw04_ChunkStays.tab21 : rtab .any (opsOf Try.f8 21) = scholiastlaw04_ChunkStays.T21 := by kernel_rfl
theorem scholiastlaw04_ChunkStays.bits21 : waitsOk scholiastlaw04_ChunkStays.T21.2 scholiastlaw04_ChunkStays.B21 = true := by kernel_rfl
set_option maxHeartbeats 8000000 in
set_option maxRecDepth 100000 in
theorem scholiastlaw04_ChunkStays.calls (k : Nat) (A0 : Option Addr) (c0 : Nat) (l0 : List (S25)) (a1 : Int) (A2 : Option Addr) (c2 : Nat) (l2 : List Int) (r : Bool) (w : World) (hr0 : Kd.C k25 w A0 l0.length l0) (hc0 : l0.length ≤ c0) (hr2 : Kd.C (Kd.int .i64) w A2 l2.length l2) (hc2 : l2.length ≤ c2) (h : scholiastlaw04_ChunkStays.f k l0 a1 l2 = some r) :
  Calls Try.prog 8 #[.slice A0 l0.length c0, .int .i64 a1, .slice A2 l2.length c2] w fun e w' => e = .returned (.bool r) ∧ Below w.heap.size w w' := by
 have hu25 := Try.underlying25
 have hu30 := Try.underlying30
 have HR0 := Aside0.mk hr0
 have HC0 := Aside0.mk hc0
 clear hr0 hc0
 have HR2 := Aside0.mk hr2
 have HC2 := Aside0.mk hc2
 clear hr2 hc2
 have HB := Aside0.mk (Below.refl w.heap.size w)
 have H : ((scholiastlaw04_shown.f k).bind fun t277 => (if t277 = true then (if a1 < 0 then (scholiastlaw04_ChunkStays.j0 k l0 a1 l2 true) else (if a1 ≥ (l0.length : Int) then (scholiastlaw04_ChunkStays.j0 k l0 a1 l2 true) else (if 0 ≤ a1 then (if a1 < (l0.length : Int) then ((scholiastlaw04_bears.f ((rd_T25 l0 a1).f0)).bind fun t279 => (scholiastlaw04_ChunkStays.j0 k l0 a1 l2 t279)) else (none)) else (none)))) else (some false))) = some r := h
 clear h
 replace H := Option.bind_eq_some_iff.mp H
 obtain ⟨t277, A40, H⟩ := H
 replace H : (if t277 = true then (if a1 < 0 then (scholiastlaw04_ChunkStays.j0 k l0 a1 l2 true) else (if a1 ≥ (l0.length : Int) then (scholiastlaw04_ChunkStays.j0 k l0 a1 l2 true) else (if 0 ≤ a1 then (if a1 < (l0.length : Int) then ((scholiastlaw04_bears.f ((rd_T25 l0 a1).f0)).bind fun t279 => (scholiastlaw04_ChunkStays.j0 k l0 a1 l2 t279)) else (none)) else (none)))) else (some false)) = some r := H
 have A4 := Aside0.mk A40
 clear A40
 by_cases c5 : t277 = true
 ·subst c5
  have H1 : (if a1 < 0 then (scholiastlaw04_ChunkStays.j0 k l0 a1 l2 true) else (if a1 ≥ (l0.length : Int) then (scholiastlaw04_ChunkStays.j0 k l0 a1 l2 true) else (if 0 ≤ a1 then (if a1 < (l0.length : Int) then ((scholiastlaw04_bears.f ((rd_T25 l0 a1).f0)).bind fun t279 => (scholiastlaw04_ChunkStays.j0 k l0 a1 l2 t279)) else (none)) else (none)))) = some r := by rw [if_pos rfl] at H; exact H
  clear H
  have H := H1
  clear H1
  have HC6 := Aside0.mk H
  clear H
  go_enter Try.func8, Try.ntmps8
  go_upto_region 3 with (first | ((with_reducible refine gate_callee (f := 9) rfl ?_); refine goesL_ (some 16) rfl rfl Try.func9 (by kernel_rfl) rfl #[] rfl (by (try simp only [List.map_toArray, List.map_cons, List.map_nil]); first | done | rfl | (simp only [List.length_drop, List.length_take]; rfl)) ?_; (with_reducible refine (scholiastlaw04_shown.calls k  true _ A4.out).mono ?_); rintro e w7 ⟨rfl, hb⟩; refine ⟨_, rfl, ?_⟩; have n0_ := Aside0.mk (below_step (by repeat (first | (with_reducible first | exact HB.out | apply below_alloc | apply pw_below_drewN | apply below_drew1) | exact HB.out)) hb); clear HB; have HB := n0_; clear n0_; (try clear hb); (try clear hb2); (try clear hk); (try clear hi)))
  (try simp only [Act.put, List.setIfInBounds_toArray, List.set_cons_zero, List.set_cons_succ])
  go_cut [33] (fun v33 wc => ∃ (kq : Nat) (x33_5 : Bool), v33 = .bool x33_5 ∧ Aside0 (scholiastlaw04_ChunkStays.j0 kq l0 a1 l2 x33_5 = some r) ∧ Aside0 (kq ≤ k) ∧ Aside0 (Below w.heap.size w wc))
  case first =>
   have H := HC6.out
   clear HC6
   by_cases c8 : a1 < 0
   ·rw [if_pos c8] at H
    have c8b0 : decide (a1 < 0) = true := decide_eq_true c8
    clear c8
    (first | rw [c8b0] | (simp only [i64_w, i32_w]; rw [c8b0]) | rw [c8b1] | skip)
    have H' := Aside0.mk H
    clear H
    go_wp2
    go_meet
    case rel => exact ⟨_, (true), (by first | rfl | (simp; done) | (simp [*]; done)), H', ⟨by first | omega | exact Nat.le_refl _⟩, ⟨by repeat (first | (with_reducible first | exact HB.out | apply below_alloc | apply pw_below_drewN | apply below_drew1) | exact HB.out)⟩⟩
   ·rw [if_neg c8] at H
    have c8b0 : decide (a1 < 0) = false := decide_eq_false c8
    clear c8
    (first | rw [c8b0] | (simp only [i64_w, i32_w]; rw [c8b0]) | rw [c8b1] | skip)
    by_cases c9 : a1 ≥ (l0.length : Int)
    ·rw [if_pos c9] at H
     have c9b0 : decide ((l0.length : Int) ≤ a1) = true := decide_eq_true c9
     clear c9
     have H' := Aside0.mk H
     clear H
     go_wp2
     go_meet
     case rel => exact ⟨_, (true), (by first | rfl | (simp; done) | (simp [*]; done)), H', ⟨by first | omega | exact Nat.le_refl _⟩, ⟨by repeat (first | (with_reducible first | exact HB.out | apply below_alloc | apply pw_below_drewN | apply below_drew1) | exact HB.out)⟩⟩
    ·rw [if_neg c9] at H
     have c9b0 : decide ((l0.length : Int) ≤ a1) = false := decide_eq_false c9
     clear c9
     by_cases c10 : 0 ≤ a1
     ·rw [if_pos c10] at H
      have c10b0 : decide (0 ≤ a1) = true := decide_eq_true c10
      clear c10
      by_cases c11 : a1 < (l0.length : Int)
      ·rw [if_pos c11] at H
       have c11b0 : decide (a1 < (l0.length : Int)) = true := decide_eq_true c11
       clear c11
       replace H := Option.bind_eq_some_iff.mp H
       obtain ⟨t279, A120, H⟩ := H
       replace H : (scholiastlaw04_ChunkStays.j0 k l0 a1 l2 t279) = some r := H
       have A12 := Aside0.mk A120
       clear A120
       have H' := Aside0.mk H
       clear H
       have p278 : 0 ≤ (a1 : Int) := of_decide_eq_true (by first | (with_reducible assumption) | assumption)
       have q278 : a1 < (l0.length : Int) := of_decide_eq_true (by first | (with_reducible assumption) | assumption)
       obtain ⟨ad278, e278, hx278_0, hx278_1, hx278_2⟩ := at_T25 HR0.out a1 p278 q278
       cases e278
       replace hx278_0 := (HB.out.cell (World.block_lt_of_cell? w _ hx278_0)).trans hx278_0
       replace hx278_1 := (HB.out.cell (World.block_lt_of_cell? w _ hx278_1)).trans hx278_1
       replace hx278_2 := (HB.out.cell (World.block_lt_of_cell? w _ hx278_2)).trans hx278_2
       replace p278 := eq_true p278
       replace q278 := eq_true q278
       go_wp2_with (first | (go_at_call 18; (with_reducible refine (scholiastlaw04_bears.calls ((rd_T25 l0 a1).f0) t279 _ A12.out).mono ?_); rintro e w' ⟨rfl, ⟨nd, rfl⟩⟩))
       go_meet
       case rel => exact ⟨_, (t279), (by first | rfl | (simp; done) | (simp [*]; done)), H', ⟨by first | omega | exact Nat.le_refl _⟩, ⟨by repeat (first | (with_reducible first | exact HB.out | apply below_alloc | apply pw_below_drewN | apply below_drew1) | exact HB.out)⟩⟩
      ·rw [if_neg c11] at H
       exact absurd H (by simp)
     ·rw [if_neg c10] at H
      exact absurd H (by simp)
  case rest =>
   clear HC6
   try clear c1
   try clear c2
   try clear p2
   try clear q2
   try clear hx2
   try clear c5
   try clear c8
   try clear c8b0
   try clear c8b1
   try clear c9
   try clear c9b0
   try clear c10
   try clear c10b0
   try clear c11
   try clear c11b0
   try clear hx278_0
   try clear hx278_1
   try clear hx278_2
   try clear p278
   try clear q278
   obtain ⟨kq, x33_5, rfl, HA, HJ5, HB⟩ := hcut
   cases kq with
   | zero => exact absurd HA.out (by simp [scholiastlaw04_ChunkStays.j0])
   | succ kj5 =>
    have H := HA.out
    clear HA
    simp only [scholiastlaw04_ChunkStays.j0] at H
    by_cases c13 : x33_5 = true
    ·subst c13
     have H1 : (some true) = some r := by rw [if_pos rfl] at H; exact H
     clear H
     have H := H1
     clear H1
     obtain rfl := Option.some.inj H
     go_wp2
     go_ret
     exact ⟨by first | rfl | (simp [errW_none, errW_some] <;> rfl) | (simp [*, errW_none, errW_some] <;> rfl), by repeat (first | (with_reducible first | exact HB.out | apply below_alloc | apply pw_below_drewN | apply below_drew1) | exact HB.out)⟩
    ·replace c13 := Bool.eq_false_iff.mpr c13
     subst c13
     have H1 : (scholiastlaw04_ChunkStays.l0 kj5 l0 a1 ([] : List (S25)) l2 (l2.length : Int) 0) = some r := by rw [if_neg (show ¬ (false = true) by decide)] at H; exact H
     clear H
     have H := H1
     clear H1
     have H' := Aside0.mk H
     clear H
     go_wp2
     go_loopg [7, 36] kj5 (fun kq v7 v36 w' => ∃ (x7_2 : List (S25)) (x36_2 : Int), v36 = .int .i64 x36_2 ∧ Aside0 (scholiastlaw04_ChunkStays.l0 kq l0 a1 x7_2 l2 (l2.length : Int) x36_2 = some r) ∧ Aside0 (kq ≤ kj5) ∧ Aside0 (Kd.R k25 25 w' w.heap.size (fun _ => True) v7 x7_2) ∧ Aside0 (Below w.heap.size w w'))
     case atStart => exact ⟨(([] : List (S25))), (0), (by first | rfl | (simp; done) | (simp [*]; done)), H', ⟨Nat.le_refl _⟩, ⟨by first | exact Kd.R_nil _ _ _ _ _ | exact Kd.N_nil _ _ _ _ _ | exact Kd.V_nil _ _ _ _ _ | exact Kd.Q_nil _ _ _ _ _ | exact Kd.S_nil _ _ _ _ _⟩, ⟨by repeat (first | (with_reducible first | exact HB.out | apply below_alloc | apply pw_below_drewN | apply below_drew1) | exact HB.out)⟩⟩
     case round =>
      clear H'
      try clear c1
      try clear c2
      try clear p2
      try clear q2
      try clear hx2
      try clear c5
      try clear c8
      try clear c8b0
      try clear c8b1
      try clear c9
      try clear c9b0
      try clear c10
      try clear c10b0
      try clear c11
      try clear c11b0
      try clear c13
      try clear hx278_0
      try clear hx278_1
      try clear hx278_2
      try clear p2
      try clear p278
      try clear q2
      try clear q278
      obtain ⟨x7_2, x36_2, rfl, HA, HK2, HO_7, HB⟩ := hrel
      cases gk with
      | zero => exact absurd HA.out (by simp [scholiastlaw04_ChunkStays.l0])
      | succ k2 =>
       have H := HA.out
       clear HA
       simp only [scholiastlaw04_ChunkStays.l0] at H
       by_cases c14 : x36_2 < (l2.length : Int)
       ·rw [if_pos c14] at H
        have c14b0 : decide (x36_2 < (l2.length : Int)) = true := decide_eq_true c14
        clear c14
        by_cases c15 : 0 ≤ x36_2
        ·rw [if_pos c15] at H
         have c15b0 : decide (0 ≤ x36_2) = true := decide_eq_true c15
         clear c15
         by_cases c16 : x36_2 < (l2.length : Int)
         ·rw [if_pos c16] at H
          have c16b0 : decide (x36_2 < (l2.length : Int)) = true := decide_eq_true c16
          clear c16
          replace H := Option.bind_eq_some_iff.mp H
          obtain ⟨t281, A170, H⟩ := H
          replace H : (if t281 = true then (some true) else (if x7_2.length < 5864062014805 then (scholiastlaw04_ChunkStays.l0 k2 l0 a1 (x7_2 ++ [(⟨rd l2 x36_2, 0, 0⟩ : S25)]) l2 (l2.length : Int) (wrap64 (x36_2 + 1))) else (none))) = some r := H
          have A17 := Aside0.mk A170
          clear A170
          by_cases c18 : t281 = true
          ·subst c18
           have H1 : (some true) = some r := by rw [if_pos rfl] at H; exact H
           clear H
           have H := H1
           clear H1
           obtain rfl := Option.some.inj H
           have p280 : 0 ≤ (x36_2 : Int) := of_decide_eq_true (by first | (with_reducible assumption) | assumption)
           have q280 : x36_2 < (l2.length : Int) := of_decide_eq_true (by first | (with_reducible assumption) | assumption)
           obtain ⟨ad280, e280, hx280_0⟩ := Kd.at_int HR2.out x36_2 p280 q280
           cases e280
           replace hx280_0 := (HB.out.cell (World.block_lt_of_cell? w _ hx280_0)).trans hx280_0
           replace p280 := eq_true p280
           replace q280 := eq_true q280
           go_wp2_with (first | ((with_reducible refine gate_callee (f := 18) rfl ?_); refine goesL_ (some 41) rfl rfl Try.func18 (by kernel_rfl) rfl #[.int .i64 (rd l2 x36_2)] rfl (by (try simp only [List.map_toArray, List.map_cons, List.map_nil]); first | done | rfl | (simp only [List.length_drop, List.length_take]; rfl)) ?_; (with_reducible refine (scholiastlaw04_bears.calls (rd l2 x36_2) true _ A17.out).mono ?_); rintro e w' ⟨rfl, ⟨nd, rfl⟩⟩; refine ⟨_, rfl, ?_⟩))
           go_ret
           exact ⟨by first | rfl | (simp [errW_none, errW_some] <;> rfl) | (simp [*, errW_none, errW_some] <;> rfl), by repeat (first | (with_reducible first | exact HB.out | apply below_alloc | apply pw_below_drewN | apply below_drew1) | exact HB.out)⟩
          ·replace c18 := Bool.eq_false_iff.mpr c18
           subst c18
           have H1 : (if x7_2.length < 5864062014805 then (scholiastlaw04_ChunkStays.l0 k2 l0 a1 (x7_2 ++ [(⟨rd l2 x36_2, 0, 0⟩ : S25)]) l2 (l2.length : Int) (wrap64 (x36_2 + 1))) else (none)) = some r := by rw [if_neg (show ¬ (false = true) by decide)] at H; exact H
           clear H
           have H := H1
           clear H1
           by_cases c19 : x7_2.length < 5864062014805
           ·rw [if_pos c19] at H
            have LMc19 := Aside0.mk c19
            clear c19
            obtain ⟨y282, hy282⟩ : ∃ y_ : List (S25), y_ = (x7_2 ++ [(⟨rd l2 x36_2, 0, 0⟩ : S25)]) := ⟨_, rfl⟩
            replace H : (scholiastlaw04_ChunkStays.l0 k2 l0 a1 y282 l2 (l2.length : Int) (wrap64 (x36_2 + 1))) = some r := by first | (rw [hy282]; with_reducible exact H) | (have H2_ := (Option.bind_some _ _).symm.trans H; rw [hy282]; with_reducible exact H2_) | (have H2_ := (Option.bind_some _ _).symm.trans H; with_reducible exact H2_) | with_reducible exact H | (rw [hy282]; exact H) | exact H
            have Ny282 := Aside0.mk hy282
            clear hy282
            have H' := Aside0.mk H
            clear H
            have p280 : 0 ≤ (x36_2 : Int) := of_decide_eq_true (by first | (with_reducible assumption) | assumption)
            have q280 : x36_2 < (l2.length : Int) := of_decide_eq_true (by first | (with_reducible assumption) | assumption)
            obtain ⟨ad280, e280, hx280_0⟩ := Kd.at_int HR2.out x36_2 p280 q280
            cases e280
            replace hx280_0 := (HB.out.cell (World.block_lt_of_cell? w _ hx280_0)).trans hx280_0
            replace p280 := eq_true p280
            replace q280 := eq_true q280
            go_wp2_with (first | ((with_reducible refine gate_callee (f := 18) rfl ?_); refine goesL_ (some 41) rfl rfl Try.func18 (by kernel_rfl) rfl #[.int .i64 (rd l2 x36_2)] rfl (by (try simp only [List.map_toArray, List.map_cons, List.map_nil]); first | done | rfl | (simp only [List.length_drop, List.length_take]; rfl)) ?_; (with_reducible refine (scholiastlaw04_bears.calls (rd l2 x36_2) false _ A17.out).mono ?_); rintro e w' ⟨rfl, ⟨nd, rfl⟩⟩; refine ⟨_, rfl, ?_⟩) | ((with_reducible refine gate_builtin (b := .append) (xs := #[.tmp 42, .tmp 45]) rfl ?_); (try (refine gate_guard (by rfl) ?_; dsimp only)); at_builtin; refine Kd.R_append k25 (w0 := w) w.heap.size rfl (.tmp 42) (.tmp 45) 22 25 (.agg #[(.int .i64 0), (.int .i64 0), (.int .i64 0)]) 24 rfl Try.underlying22 info25 rfl (by decide) (by omega) u7 x7_2 (⟨rd l2 x36_2, 0, 0⟩ : S25) [.int .i64 (rd l2 x36_2), .int .i64 0, .int .i64 0] (fun _ => True) (fun _ => False) rfl rfl ?aP (fun _ hk => hk.elim) ?aF ?aO ?aB ?aS ?aL ?_; (case aP => exact k25_mkM _ _ _ (⟨rd l2 x36_2, 0, 0⟩ : S25)); (case aB => exact (by repeat (first | (with_reducible first | exact HB.out | apply below_alloc | apply pw_below_drewN | apply below_drew1) | exact HB.out))); (case aF => exact (fun _ _ => trivial)); (case aO => exact (by (with_reducible repeat (first | apply Kd.R_alloc | apply Kd.R_drewN | apply Kd.R_drew)); exact HO_7.out)); (case aS => exact (below_size (by repeat (first | (with_reducible first | exact HB.out | apply below_alloc | apply pw_below_drewN | apply below_drew1) | exact HB.out)))); (case aL => have := LMc19.out; omega); intro v283 w20 ho hb hg hat; rw [← Ny282.out] at ho; have n0_ := Aside0.mk (hb); have n1_ := Aside0.mk (ho); clear HB; clear HO_7; have HB := n0_; have HO284 := n1_; clear n0_ n1_; clear ho hb hg hat))
            go_roundg k2
            case measure => have := HJ5.out; have := HK2.out; omega
            case rel => exact ⟨(y282), (wrap64 (x36_2 + 1)), (by first | rfl | (simp; done) | (simp [*]; done)), H', ⟨by have := HJ5.out; have := HK2.out; omega⟩, ⟨by (with_reducible repeat (first | apply Kd.R_alloc | apply Kd.R_drewN | apply Kd.R_drew)); exact HO284.out⟩, ⟨by repeat (first | (with_reducible first | exact HB.out | apply below_alloc | apply pw_below_drewN | apply below_drew1) | exact HB.out)⟩⟩
           ·rw [if_neg c19] at H
            exact absurd H (by simp)
         ·rw [if_neg c16] at H
          exact absurd H (by simp)
        ·rw [if_neg c15] at H
         exact absurd H (by simp)
       ·rw [if_neg c14] at H
        have c14b0 : decide (x36_2 < (l2.length : Int)) = false := decide_eq_false c14
        clear c14
        replace H := Option.bind_eq_some_iff.mp H
        obtain ⟨t285, A210, H⟩ := H
        replace H : (scholiastlaw04_ChunkStays.l1 k2 l0 a1 x7_2 t285 0) = some r := H
        have A21 := Aside0.mk A210
        clear A210
        have HC22 := Aside0.mk H
        clear H
        go_upto_block 2 with (first | ((with_reducible refine gate_callee (f := 10) rfl ?_); refine goesL_ (some 49) rfl rfl Try.func10 (by kernel_rfl) rfl #[.slice A0 l0.length c0] rfl (by (try simp only [List.map_toArray, List.map_cons, List.map_nil]); first | done | rfl | (simp only [List.length_drop, List.length_take]; rfl)) ?_; (with_reducible refine (chunk_Cut.calls _ _ l0 t285 _ ?side1 ?side2 A21.out).mono ?_); (case side1 => repeat (first | exact (Kd.C_below HR0.out HB.out) | (with_reducible refine Kd.C_alloc ?_ _) | (with_reducible refine Kd.C_drewN ?_ _) | (with_reducible refine Kd.C_drew ?_))); (case side2 => exact HC0.out); rintro e w23 ⟨v286, rfl, ho0, hb⟩; refine ⟨_, rfl, ?_⟩; have n0_ := Aside0.mk (Kd.R_below (by (with_reducible repeat (first | apply Kd.R_alloc | apply Kd.R_drewN | apply Kd.R_drew)); exact HO_7.out) hb); have n1_ := Aside0.mk (Kd.R_lower ho0 (below_size (by repeat (first | (with_reducible first | exact HB.out | apply below_alloc | apply pw_below_drewN | apply below_drew1) | exact HB.out)))); have n2_ := Aside0.mk (below_step (by repeat (first | (with_reducible first | exact HB.out | apply below_alloc | apply pw_below_drewN | apply below_drew1) | exact HB.out)) hb); clear HO_7; clear HB; have HO_7 := n0_; have HO287 := n1_; have HB := n2_; clear n0_ n1_ n2_; (try clear hb); (try clear hb2); (try clear hk); (try clear hi); (try clear ho0)))
        (try simp only [Act.put, List.setIfInBounds_toArray, List.set_cons_zero, List.set_cons_succ])
        go_cut [11] (fun v11 wc => ∃ (kq : Nat) (x11_21 : Int), v11 = .int .i64 x11_21 ∧ Aside0 (scholiastlaw04_ChunkStays.j3 kq l0 a1 x7_2 t285 x11_21 = some r) ∧ Aside0 (kq ≤ k2) ∧ Aside0 (Kd.R k25 25 wc w.heap.size (fun _ => True) u7 x7_2) ∧ Aside0 (Kd.R k30 30 wc w.heap.size (fun _ => True) v286 t285) ∧ Aside0 (Below w.heap.size w wc))
        case first =>
         have H := HC22.out
         clear HC22
         have H' := Aside0.mk H
         clear H
         go_wp2
         go_loopg [11] k2 (fun kq v11 w' => ∃ (x11_3 : Int), v11 = .int .i64 x11_3 ∧ Aside0 (scholiastlaw04_ChunkStays.l1 kq l0 a1 x7_2 t285 x11_3 = some r) ∧ Aside0 (kq ≤ k2) ∧ Aside0 (Kd.R k25 25 w' w.heap.size (fun _ => True) u7 x7_2) ∧ Aside0 (Kd.R k30 30 w' w.heap.size (fun _ => True) v286 t285) ∧ Aside0 (Below w.heap.size w w'))
         case atStart => exact ⟨(0), (by first | rfl | (simp; done) | (simp [*]; done)), H', ⟨Nat.le_refl _⟩, ⟨by (with_reducible repeat (first | apply Kd.R_alloc | apply Kd.R_drewN | apply Kd.R_drew)); exact HO_7.out⟩, ⟨by (with_reducible repeat (first | apply Kd.R_alloc | apply Kd.R_drewN | apply Kd.R_drew)); exact HO287.out⟩, ⟨by repeat (first | (with_reducible first | exact HB.out | apply below_alloc | apply pw_below_drewN | apply below_drew1) | exact HB.out)⟩⟩
         case round =>
          clear H'
          try clear c1
          try clear c2
          try clear p2
          try clear q2
          try clear hx2
          try clear c5
          try clear p6
          try clear c8
          try clear c8b0
          try clear c8b1
          try clear c9
          try clear c9b0
          try clear c10
          try clear c10b0
          try clear c11
          try clear c11b0
          try clear c13
          try clear c14
          try clear c14b0
          try clear c15
          try clear c15b0
          try clear c16
          try clear c16b0
          try clear c18
          try clear c19
          try clear hx278_0
          try clear hx278_1
          try clear hx278_2
          try clear hx280_0
          try clear p2
          try clear p278
          try clear p280
          try clear q2
          try clear q278
          try clear q280
          obtain ⟨x11_3, rfl, HA, HK3, HO_7, HO_10, HB⟩ := hrel
          cases gk with
          | zero => exact absurd HA.out (by simp [scholiastlaw04_ChunkStays.l1])
          | succ k3 =>
           have H := HA.out
           clear HA
           simp only [scholiastlaw04_ChunkStays.l1] at H
           by_cases c24 : x11_3 < (t285.length : Int)
           ·rw [if_pos c24] at H
            have c24b0 : decide (x11_3 < (t285.length : Int)) = true := decide_eq_true c24
            clear c24
            (first | rw [c24b0] | (simp only [i64_w, i32_w]; rw [c24b0]) | rw [c24b1] | skip)
            by_cases c25 : 0 ≤ x11_3
            ·rw [if_pos c25] at H
             have c25b0 : decide (0 ≤ x11_3) = true := decide_eq_true c25
             clear c25
             by_cases c26 : ((rd_T30 t285 x11_3).f1) ≤ a1
             ·rw [if_pos c26] at H
              have c26b0 : decide (((rd_T30 t285 x11_3).f1) ≤ a1) = true := decide_eq_true c26
              clear c26
              have H' := Aside0.mk H
              clear H
              obtain ⟨Ao27, co27, eo27⟩ := Kd.R_slice HO_10.out
              subst eo27
              have p288 : 0 ≤ (x11_3 : Int) := of_decide_eq_true (by first | (with_reducible assumption) | assumption)
              have q288 : x11_3 < (t285.length : Int) := of_decide_eq_true (by first | (with_reducible assumption) | assumption)
              obtain ⟨ad288, e288, hx288_0, hx288_1⟩ := at_T30 (Kd.R_reads' HO_10.out).2.2 x11_3 p288 q288
              cases e288
              replace p288 := eq_true p288
              replace q288 := eq_true q288
              go_wp2
              go_roundg k3
              case measure => have := HJ5.out; have := HK2.out; have := HK3.out; omega
              case rel => exact ⟨(wrap64 (x11_3 + 1)), (by first | rfl | (simp; done) | (simp [*]; done)), H', ⟨by have := HJ5.out; have := HK2.out; have := HK3.out; omega⟩, ⟨by (with_reducible repeat (first | apply Kd.R_alloc | apply Kd.R_drewN | apply Kd.R_drew)); exact HO_7.out⟩, ⟨by (with_reducible repeat (first | apply Kd.R_alloc | apply Kd.R_drewN | apply Kd.R_drew)); exact HO_10.out⟩, ⟨by repeat (first | (with_reducible first | exact HB.out | apply below_alloc | apply pw_below_drewN | apply below_drew1) | exact HB.out)⟩⟩
             ·rw [if_neg c26] at H
              have c26b0 : decide (((rd_T30 t285 x11_3).f1) ≤ a1) = false := decide_eq_false c26
              clear c26
              have H' := Aside0.mk H
              clear H
              obtain ⟨Ao28, co28, eo28⟩ := Kd.R_slice HO_10.out
              subst eo28
              have p288 : 0 ≤ (x11_3 : Int) := of_decide_eq_true (by first | (with_reducible assumption) | assumption)
              have q288 : x11_3 < (t285.length : Int) := of_decide_eq_true (by first | (with_reducible assumption) | assumption)
              obtain ⟨ad288, e288, hx288_0, hx288_1⟩ := at_T30 (Kd.R_reads' HO_10.out).2.2 x11_3 p288 q288
              cases e288
              replace p288 := eq_true p288
              replace q288 := eq_true q288
              go_wp2
              go_meet
              case rel => exact ⟨_, (x11_3), (by first | rfl | (simp; done) | (simp [*]; done)), H', ⟨by have := HJ5.out; have := HK2.out; have := HK3.out; first | omega | exact Nat.le_refl _⟩, ⟨by (with_reducible repeat (first | apply Kd.R_alloc | apply Kd.R_drewN | apply Kd.R_drew)); exact HO_7.out⟩, ⟨by (with_reducible repeat (first | apply Kd.R_alloc | apply Kd.R_drewN | apply Kd.R_drew)); exact HO_10.out⟩, ⟨by repeat (first | (with_reducible first | exact HB.out | apply below_alloc | apply pw_below_drewN | apply below_drew1) | exact HB.out)⟩⟩
            ·rw [if_neg c25] at H
             exact absurd H (by simp)
           ·rw [if_neg c24] at H
            have c24b0 : decide (x11_3 < (t285.length : Int)) = false := decide_eq_false c24
            clear c24
            (first | rw [c24b0] | (simp only [i64_w, i32_w]; rw [c24b0]) | rw [c24b1] | skip)
            have H' := Aside0.mk H
            clear H
            obtain ⟨Ao29, co29, eo29⟩ := Kd.R_slice HO_10.out
            subst eo29
            go_wp2
            go_meet
            case rel => exact ⟨_, (x11_3), (by first | rfl | (simp; done) | (simp [*]; done)), H', ⟨by have := HJ5.out; have := HK2.out; have := HK3.out; first | omega | exact Nat.le_refl _⟩, ⟨by (with_reducible repeat (first | apply Kd.R_alloc | apply Kd.R_drewN | apply Kd.R_drew)); exact HO_7.out⟩, ⟨by (with_reducible repeat (first | apply Kd.R_alloc | apply Kd.R_drewN | apply Kd.R_drew)); exact HO_10.out⟩, ⟨by repeat (first | (with_reducible first | exact HB.out | apply below_alloc | apply pw_below_drewN | apply below_drew1) | exact HB.out)⟩⟩
        case rest =>
         clear HC22
         try clear c1
         try clear c2
         try clear p2
         try clear q2
         try clear hx2
         try clear c5
         try clear p6
         try clear c8
         try clear c8b0
         try clear c8b1
         try clear c9
         try clear c9b0
         try clear c10
         try clear c10b0
         try clear c11
         try clear c11b0
         try clear c13
         try clear c14
         try clear c14b0
         try clear c15
         try clear c15b0
         try clear c16
         try clear c16b0
         try clear c18
         try clear c19
         try clear c24
         try clear c24b0
         try clear c24b1
         try clear c25
         try clear c25b0
         try clear c26
         try clear c26b0
         try clear p27
         try clear q27
         try clear hx27
         try clear p28
         try clear q28
         try clear hx28
         try clear hx278_0
         try clear hx278_1
         try clear hx278_2
         try clear hx280_0
         try clear hx288_0
         try clear hx288_1
         try clear p2
         try clear p278
         try clear p280
         try clear p288
         try clear p6
         try clear q2
         try clear q278
         try clear q280
         try clear q288
         obtain ⟨kq, x11_21, rfl, HA, HJ21, HO_7, HO_10, HB⟩ := hcut
         cases kq with
         | zero => exact absurd HA.out (by simp [scholiastlaw04_ChunkStays.j3])
         | succ kj21 =>
          have H := HA.out
          clear HA
          simp only [scholiastlaw04_ChunkStays.j3] at H
          by_cases c30 : x11_21 = (t285.length : Int)
          ·rw [if_pos c30] at H
           have c30b0 : (x11_21 == (t285.length : Int)) = true := beq_iff_eq.mpr c30
           have c30b1 : (x11_21 != (t285.length : Int)) = false := bne_eq_false_iff_eq.mpr c30
           clear c30
           obtain rfl := Option.some.inj H
           obtain ⟨Ao31, co31, eo31⟩ := Kd.R_slice HO_10.out
           subst eo31
           go_wp2
           go_ret
           exact ⟨by first | rfl | (simp [errW_none, errW_some] <;> rfl) | (simp [*, errW_none, errW_some] <;> rfl), by repeat (first | (with_reducible first | exact HB.out | apply below_alloc | apply pw_below_drewN | apply below_drew1) | exact HB.out)⟩
          ·rw [if_neg c30] at H
           have c30b0 : (x11_21 == (t285.length : Int)) = false := beq_eq_false_iff_ne.mpr c30
           have c30b1 : (x11_21 != (t285.length : Int)) = true := bne_iff_ne.mpr c30
           by_cases c32 : 0 ≤ a1
           ·rw [if_pos c32] at H
            have c32b0 := eq_true c32
            have c32b1 : decide (0 ≤ a1) = true := decide_eq_true c32
            clear c32
            by_cases c33 : a1 ≤ (l0.length : Int)
            ·rw [if_pos c33] at H
             have c33b0 := eq_true c33
             have c33b1 : decide (a1 ≤ (l0.length : Int)) = true := decide_eq_true c33
             clear c33
             obtain ⟨y289, hy289⟩ : ∃ y_ : List (S25), y_ = (l0.take (a1 : Int).toNat) := ⟨_, rfl⟩
             replace H : (if ([] : List (S25)).length + y289.length < 5864062014805 then ((some (([] : List (S25)) ++ y289 : List (S25))).bind fun y293 => (if y293.length + x7_2.length < 5864062014805 then ((some (y293 ++ x7_2 : List (S25))).bind fun y296 => (if 0 ≤ (wrap64 (a1 + 1)) then (if (wrap64 (a1 + 1)) ≤ (l0.length : Int) then ((some (l0.drop ((wrap64 (a1 + 1)) : Int).toNat : List (S25))).bind fun y299 => (if y296.length + y299.length < 5864062014805 then ((some (y296 ++ y299 : List (S25))).bind fun y303 => ((chunk_Cut.f y303).bind fun t306 => (if 0 ≤ x11_21 then (if x11_21 < (t285.length : Int) then (if 0 ≤ ((rd_T30 t285 x11_21).f0) then (if ((rd_T30 t285 x11_21).f0) ≤ (wrap64 ((wrap64 (((rd_T30 t285 x11_21).f1) + (x7_2.length : Int))) - 1)) then (if (wrap64 ((wrap64 (((rd_T30 t285 x11_21).f1) + (x7_2.length : Int))) - 1)) ≤ (y303.length : Int) then ((scholiastlaw04_weighs.f kj21 ((y303.take ((wrap64 ((wrap64 (((rd_T30 t285 x11_21).f1) + (x7_2.length : Int))) - 1)) : Int).toNat).drop (((rd_T30 t285 x11_21).f0) : Int).toNat)).bind fun t315 => (if t315 = true then (if (t306.length : Int) = (t285.length : Int) then (scholiastlaw04_ChunkStays.l2 kj21 x7_2 t285 x11_21 t306 (t285.length : Int) 0) else (some false)) else (some ((t306.length : Int) == (wrap64 ((t285.length : Int) - 1)))))) else (none)) else (none)) else (none)) else (none)) else (none)))) else (none))) else (none)) else (none))) else (none))) else (none)) = some r := by first | (rw [hy289]; with_reducible exact H) | (have H2_ := (Option.bind_some _ _).symm.trans H; rw [hy289]; with_reducible exact H2_) | (have H2_ := (Option.bind_some _ _).symm.trans H; with_reducible exact H2_) | with_reducible exact H | (rw [hy289]; exact H) | exact H
             have Ny289 := Aside0.mk hy289
             clear hy289
             by_cases c34 : ([] : List (S25)).length + y289.length < 5864062014805
             ·rw [if_pos c34] at H
              have LMc34 := Aside0.mk c34
              clear c34
              obtain ⟨y293, hy293⟩ : ∃ y_ : List (S25), y_ = (([] : List (S25)) ++ y289) := ⟨_, rfl⟩
              replace H : (if y293.length + x7_2.length < 5864062014805 then ((some (y293 ++ x7_2 : List (S25))).bind fun y296 => (if 0 ≤ (wrap64 (a1 + 1)) then (if (wrap64 (a1 + 1)) ≤ (l0.length : Int) then ((some (l0.drop ((wrap64 (a1 + 1)) : Int).toNat : List (S25))).bind fun y299 => (if y296.length + y299.length < 5864062014805 then ((some (y296 ++ y299 : List (S25))).bind fun y303 => ((chunk_Cut.f y303).bind fun t306 => (if 0 ≤ x11_21 then (if x11_21 < (t285.length : Int) then (if 0 ≤ ((rd_T30 t285 x11_21).f0) then (if ((rd_T30 t285 x11_21).f0) ≤ (wrap64 ((wrap64 (((rd_T30 t285 x11_21).f1) + (x7_2.length : Int))) - 1)) then (if (wrap64 ((wrap64 (((rd_T30 t285 x11_21).f1) + (x7_2.length : Int))) - 1)) ≤ (y303.length : Int) then ((scholiastlaw04_weighs.f kj21 ((y303.take ((wrap64 ((wrap64 (((rd_T30 t285 x11_21).f1) + (x7_2.length : Int))) - 1)) : Int).toNat).drop (((rd_T30 t285 x11_21).f0) : Int).toNat)).bind fun t315 => (if t315 = true then (if (t306.length : Int) = (t285.length : Int) then (scholiastlaw04_ChunkStays.l2 kj21 x7_2 t285 x11_21 t306 (t285.length : Int) 0) else (some false)) else (some ((t306.length : Int) == (wrap64 ((t285.length : Int) - 1)))))) else (none)) else (none)) else (none)) else (none)) else (none)))) else (none))) else (none)) else (none))) else (none)) = some r := by first | (rw [hy293]; with_reducible exact H) | (have H2_ := (Option.bind_some _ _).symm.trans H; rw [hy293]; with_reducible exact H2_) | (have H2_ := (Option.bind_some _ _).symm.trans H; with_reducible exact H2_) | with_reducible exact H | (rw [hy293]; exact H) | exact H
              have Ny293 := Aside0.mk hy293
              clear hy293
              by_cases c35 : y293.length + x7_2.length < 5864062014805
              ·rw [if_pos c35] at H
               have LMc35 := Aside0.mk c35
               clear c35
               obtain ⟨y296, hy296⟩ : ∃ y_ : List (S25), y_ = (y293 ++ x7_2) := ⟨_, rfl⟩
               replace H : (if 0 ≤ (wrap64 (a1 + 1)) then (if (wrap64 (a1 + 1)) ≤ (l0.length : Int) then ((some (l0.drop ((wrap64 (a1 + 1)) : Int).toNat : List (S25))).bind fun y299 => (if y296.length + y299.length < 5864062014805 then ((some (y296 ++ y299 : List (S25))).bind fun y303 => ((chunk_Cut.f y303).bind fun t306 => (if 0 ≤ x11_21 then (if x11_21 < (t285.length : Int) then (if 0 ≤ ((rd_T30 t285 x11_21).f0) then (if ((rd_T30 t285 x11_21).f0) ≤ (wrap64 ((wrap64 (((rd_T30 t285 x11_21).f1) + (x7_2.length : Int))) - 1)) then (if (wrap64 ((wrap64 (((rd_T30 t285 x11_21).f1) + (x7_2.length : Int))) - 1)) ≤ (y303.length : Int) then ((scholiastlaw04_weighs.f kj21 ((y303.take ((wrap64 ((wrap64 (((rd_T30 t285 x11_21).f1) + (x7_2.length : Int))) - 1)) : Int).toNat).drop (((rd_T30 t285 x11_21).f0) : Int).toNat)).bind fun t315 => (if t315 = true then (if (t306.length : Int) = (t285.length : Int) then (scholiastlaw04_ChunkStays.l2 kj21 x7_2 t285 x11_21 t306 (t285.length : Int) 0) else (some false)) else (some ((t306.length : Int) == (wrap64 ((t285.length : Int) - 1)))))) else (none)) else (none)) else (none)) else (none)) else (none)))) else (none))) else (none)) else (none)) = some r := by first | (rw [hy296]; with_reducible exact H) | (have H2_ := (Option.bind_some _ _).symm.trans H; rw [hy296]; with_reducible exact H2_) | (have H2_ := (Option.bind_some _ _).symm.trans H; with_reducible exact H2_) | with_reducible exact H | (rw [hy296]; exact H) | exact H
               have Ny296 := Aside0.mk hy296
               clear hy296
               obtain ⟨ji36, hji36⟩ : ∃ j_ : Int, (wrap64 (a1 + 1)) = j_ := ⟨_, rfl⟩
               replace H : (if 0 ≤ (ji36) then (if (ji36) ≤ (l0.length : Int) then ((some (l0.drop ((ji36) : Int).toNat : List (S25))).bind fun y299 => (if y296.length + y299.length < 5864062014805 then ((some (y296 ++ y299 : List (S25))).bind fun y303 => ((chunk_Cut.f y303).bind fun t306 => (if 0 ≤ x11_21 then (if x11_21 < (t285.length : Int) then (if 0 ≤ ((rd_T30 t285 x11_21).f0) then (if ((rd_T30 t285 x11_21).f0) ≤ (wrap64 ((wrap64 (((rd_T30 t285 x11_21).f1) + (x7_2.length : Int))) - 1)) then (if (wrap64 ((wrap64 (((rd_T30 t285 x11_21).f1) + (x7_2.length : Int))) - 1)) ≤ (y303.length : Int) then ((scholiastlaw04_weighs.f kj21 ((y303.take ((wrap64 ((wrap64 (((rd_T30 t285 x11_21).f1) + (x7_2.length : Int))) - 1)) : Int).toNat).drop (((rd_T30 t285 x11_21).f0) : Int).toNat)).bind fun t315 => (if t315 = true then (if (t306.length : Int) = (t285.length : Int) then (scholiastlaw04_ChunkStays.l2 kj21 x7_2 t285 x11_21 t306 (t285.length : Int) 0) else (some false)) else (some ((t306.length : Int) == (wrap64 ((t285.length : Int) - 1)))))) else (none)) else (none)) else (none)) else (none)) else (none)))) else (none))) else (none)) else (none)) = some r := by first | (rw [hji36] at H; exact H) | (simp only [hji36] at H ⊢; exact H)
               have hji36w : (IntKind.i64.wrap (a1 + 1)) = ji36 := (i64_w _).trans hji36
               by_cases c37 : 0 ≤ (ji36)
               ·rw [if_pos c37] at H
                have c37b0 := eq_true c37
                have c37b1 : decide (0 ≤ (ji36)) = true := decide_eq_true c37
                clear c37
                by_cases c38 : (ji36) ≤ (l0.length : Int)
                ·rw [if_pos c38] at H
                 have c38b0 := eq_true c38
                 have c38b1 : decide ((ji36) ≤ (l0.length : Int)) = true := decide_eq_true c38
                 clear c38
                 obtain ⟨y299, hy299⟩ : ∃ y_ : List (S25), y_ = (l0.drop ((ji36) : Int).toNat) := ⟨_, rfl⟩
                 replace H : (if y296.length + y299.length < 5864062014805 then ((some (y296 ++ y299 : List (S25))).bind fun y303 => ((chunk_Cut.f y303).bind fun t306 => (if 0 ≤ x11_21 then (if x11_21 < (t285.length : Int) then (if 0 ≤ ((rd_T30 t285 x11_21).f0) then (if ((rd_T30 t285 x11_21).f0) ≤ (wrap64 ((wrap64 (((rd_T30 t285 x11_21).f1) + (x7_2.length : Int))) - 1)) then (if (wrap64 ((wrap64 (((rd_T30 t285 x11_21).f1) + (x7_2.length : Int))) - 1)) ≤ (y303.length : Int) then ((scholiastlaw04_weighs.f kj21 ((y303.take ((wrap64 ((wrap64 (((rd_T30 t285 x11_21).f1) + (x7_2.length : Int))) - 1)) : Int).toNat).drop (((rd_T30 t285 x11_21).f0) : Int).toNat)).bind fun t315 => (if t315 = true then (if (t306.length : Int) = (t285.length : Int) then (scholiastlaw04_ChunkStays.l2 kj21 x7_2 t285 x11_21 t306 (t285.length : Int) 0) else (some false)) else (some ((t306.length : Int) == (wrap64 ((t285.length : Int) - 1)))))) else (none)) else (none)) else (none)) else (none)) else (none)))) else (none)) = some r := by first | (rw [hy299]; with_reducible exact H) | (have H2_ := (Option.bind_some _ _).symm.trans H; rw [hy299]; with_reducible exact H2_) | (have H2_ := (Option.bind_some _ _).symm.trans H; with_reducible exact H2_) | with_reducible exact H | (rw [hy299]; exact H) | exact H
                 have Ny299 := Aside0.mk hy299
                 clear hy299
                 by_cases c39 : y296.length + y299.length < 5864062014805
                 ·rw [if_pos c39] at H
                  have LMc39 := Aside0.mk c39
                  clear c39
                  obtain ⟨y303, hy303⟩ : ∃ y_ : List (S25), y_ = (y296 ++ y299) := ⟨_, rfl⟩
                  replace H : ((chunk_Cut.f y303).bind fun t306 => (if 0 ≤ x11_21 then (if x11_21 < (t285.length : Int) then (if 0 ≤ ((rd_T30 t285 x11_21).f0) then (if ((rd_T30 t285 x11_21).f0) ≤ (wrap64 ((wrap64 (((rd_T30 t285 x11_21).f1) + (x7_2.length : Int))) - 1)) then (if (wrap64 ((wrap64 (((rd_T30 t285 x11_21).f1) + (x7_2.length : Int))) - 1)) ≤ (y303.length : Int) then ((scholiastlaw04_weighs.f kj21 ((y303.take ((wrap64 ((wrap64 (((rd_T30 t285 x11_21).f1) + (x7_2.length : Int))) - 1)) : Int).toNat).drop (((rd_T30 t285 x11_21).f0) : Int).toNat)).bind fun t315 => (if t315 = true then (if (t306.length : Int) = (t285.length : Int) then (scholiastlaw04_ChunkStays.l2 kj21 x7_2 t285 x11_21 t306 (t285.length : Int) 0) else (some false)) else (some ((t306.length : Int) == (wrap64 ((t285.length : Int) - 1)))))) else (none)) else (none)) else (none)) else (none)) else (none))) = some r := by first | (rw [hy303]; with_reducible exact H) | (have H2_ := (Option.bind_some _ _).symm.trans H; rw [hy303]; with_reducible exact H2_) | (have H2_ := (Option.bind_some _ _).symm.trans H; with_reducible exact H2_) | with_reducible exact H | (rw [hy303]; exact H) | exact H
                  have Ny303 := Aside0.mk hy303
                  clear hy303
                  replace H := Option.bind_eq_some_iff.mp H
                  obtain ⟨t306, A400, H⟩ := H
                  replace H : (if 0 ≤ x11_21 then (if x11_21 < (t285.length : Int) then (if 0 ≤ ((rd_T30 t285 x11_21).f0) then (if ((rd_T30 t285 x11_21).f0) ≤ (wrap64 ((wrap64 (((rd_T30 t285 x11_21).f1) + (x7_2.length : Int))) - 1)) then (if (wrap64 ((wrap64 (((rd_T30 t285 x11_21).f1) + (x7_2.length : Int))) - 1)) ≤ (y303.length : Int) then ((scholiastlaw04_weighs.f kj21 ((y303.take ((wrap64 ((wrap64 (((rd_T30 t285 x11_21).f1) + (x7_2.length : Int))) - 1)) : Int).toNat).drop (((rd_T30 t285 x11_21).f0) : Int).toNat)).bind fun t315 => (if t315 = true then (if (t306.length : Int) = (t285.length : Int) then (scholiastlaw04_ChunkStays.l2 kj21 x7_2 t285 x11_21 t306 (t285.length : Int) 0) else (some false)) else (some ((t306.length : Int) == (wrap64 ((t285.length : Int) - 1)))))) else (none)) else (none)) else (none)) else (none)) else (none)) = some r := H
                  have A40 := Aside0.mk A400
                  clear A400
                  by_cases c41 : 0 ≤ x11_21
                  ·rw [if_pos c41] at H
                   have c41b0 : decide (0 ≤ x11_21) = true := decide_eq_true c41
                   clear c41
                   by_cases c42 : x11_21 < (t285.length : Int)
                   ·rw [if_pos c42] at H
                    have c42b0 : decide (x11_21 < (t285.length : Int)) = true := decide_eq_true c42
                    clear c42
                    by_cases c43 : 0 ≤ ((rd_T30 t285 x11_21).f0)
                    ·rw [if_pos c43] at H
                     have c43b0 := eq_true c43
                     have c43b1 : decide (0 ≤ ((rd_T30 t285 x11_21).f0)) = true := decide_eq_true c43
                     clear c43
                     by_cases c44 : ((rd_T30 t285 x11_21).f0) ≤ (wrap64 ((wrap64 (((rd_T30 t285 x11_21).f1) + (x7_2.length : Int))) - 1))
                     ·rw [if_pos c44] at H
                      have c44b0 := eq_true c44
                      have c44b1 : decide (((rd_T30 t285 x11_21).f0) ≤ (wrap64 ((wrap64 (((rd_T30 t285 x11_21).f1) + (x7_2.length : Int))) - 1))) = true := decide_eq_true c44
                      by_cases c45 : (wrap64 ((wrap64 (((rd_T30 t285 x11_21).f1) + (x7_2.length : Int))) - 1)) ≤ (y303.length : Int)
                      ·rw [if_pos c45] at H
                       have c45b0 := eq_true c45
                       have c45b1 : decide ((wrap64 ((wrap64 (((rd_T30 t285 x11_21).f1) + (x7_2.length : Int))) - 1)) ≤ (y303.length : Int)) = true := decide_eq_true c45
                       obtain ⟨y311, hy311⟩ : ∃ y_ : List (S25), y_ = ((y303.take ((wrap64 ((wrap64 (((rd_T30 t285 x11_21).f1) + (x7_2.length : Int))) - 1)) : Int).toNat).drop (((rd_T30 t285 x11_21).f0) : Int).toNat) := ⟨_, rfl⟩
                       replace H : ((scholiastlaw04_weighs.f kj21 y311).bind fun t315 => (if t315 = true then (if (t306.length : Int) = (t285.length : Int) then (scholiastlaw04_ChunkStays.l2 kj21 x7_2 t285 x11_21 t306 (t285.length : Int) 0) else (some false)) else (some ((t306.length : Int) == (wrap64 ((t285.length : Int) - 1)))))) = some r := by first | (rw [hy311]; with_reducible exact H) | (have H2_ := (Option.bind_some _ _).symm.trans H; rw [hy311]; with_reducible exact H2_) | (have H2_ := (Option.bind_some _ _).symm.trans H; with_reducible exact H2_) | with_reducible exact H | (rw [hy311]; exact H) | exact H
                       have Ny311 := Aside0.mk hy311
                       clear hy311
                       replace H := Option.bind_eq_some_iff.mp H
                       obtain ⟨t315, A460, H⟩ := H
                       replace H : (if t315 = true then (if (t306.length : Int) = (t285.length : Int) then (scholiastlaw04_ChunkStays.l2 kj21 x7_2 t285 x11_21 t306 (t285.length : Int) 0) else (some false)) else (some ((t306.length : Int) == (wrap64 ((t285.length : Int) - 1))))) = some r := H
                       have A46 := Aside0.mk A460
                       clear A460
                       by_cases c47 : t315 = true
                       ·subst c47
                        have H1 : (if (t306.length : Int) = (t285.length : Int) then (scholiastlaw04_ChunkStays.l2 kj21 x7_2 t285 x11_21 t306 (t285.length : Int) 0) else (some false)) = some r := by rw [if_pos rfl] at H; exact H
                        clear H
                        have H := H1
                        clear H1
                        by_cases c48 : (t306.length : Int) = (t285.length : Int)
                        ·rw [if_pos c48] at H
                         have c48b0 : ((t306.length : Int) == (t285.length : Int)) = true := beq_iff_eq.mpr c48
                         have c48b1 : ((t306.length : Int) != (t285.length : Int)) = false := bne_eq_false_iff_eq.mpr c48
                         have c48b2 : (t306.length == t285.length) = true := by first | simpa using c48 | (simp at c48 ⊢; omega)
                         clear c48
                         have H' := Aside0.mk H
                         clear H
                         obtain ⟨Ao49, co49, eo49⟩ := Kd.R_slice HO_10.out
                         subst eo49
                         try go_wp2
                         have n0_ := Aside0.mk (Kd.R_drew HO_7.out)
                         have n1_ := Aside0.mk (Kd.R_drew HO_10.out)
                         have n2_ := Aside0.mk (below_drew1 HB.out)
                         clear HO_7
                         clear HO_10
                         clear HB
                         have HO_7 := n0_
                         have HO_10 := n1_
                         have HB := n2_
                         clear n0_ n1_ n2_
                         have q51 : (a1 : Int) ≤ ((l0.length : Int) : Int) := of_decide_eq_true (by first | (with_reducible assumption) | assumption)
                         obtain ⟨i051, hi051, _, hsz51, _⟩ := info_parts info25
                         have hroom51 : l0.length ≤ c0 := HC0.out
                         have hC51 : Kd.C k25 _ A0 l0.length l0 := HR0.out
                         have hcut51 := cut_to (P := Try.prog) 22 25 .i64 Try.underlying22 hi051 A0 l0.length c0 a1 (of_decide_eq_true (by first | (with_reducible assumption) | assumption)) q51 hroom51
                         have hr51 := Kd.C_take (m := (a1 : Int).toNat) hC51 (by omega)
                         have hy51 : y289.length = (a1 : Int).toNat := (by rw [Ny289.out, List.length_take]; omega)
                         rw [← Ny289.out] at hr51
                         rw [← hy51] at hcut51
                         have HR292 := Aside0.mk hr51
                         have HC292 := Aside0.mk (show y289.length ≤ c0 from by omega)
                         clear hr51 hC51 hroom51 hi051 hsz51
                         have KY51 := Aside0.mk hy51
                         clear hy51
                         replace q51 := eq_true q51
                         have q52 : ((ji36) : Int) ≤ ((l0.length : Int) : Int) := of_decide_eq_true (by first | (with_reducible assumption) | assumption)
                         obtain ⟨i052, hi052, _, hsz52, _⟩ := info_parts info25
                         have hroom52 : l0.length ≤ c0 := HC0.out
                         have hC52 : Kd.C k25 _ A0 l0.length l0 := HR0.out
                         have q052 : (0 : Int) ≤ ((ji36) : Int) := of_decide_eq_true (by first | (with_reducible assumption) | assumption)
                         have hcut52 := cut_from (P := Try.prog) 22 25 .i64 Try.underlying22 hi052 3 hsz52 A0 l0.length c0 (ji36) q052 q52
                         have hr52 := Kd.C_drop (m := ((ji36) : Int).toNat) (c := c0) hC52 (by omega) hroom52
                         obtain ⟨A52, hA52⟩ : ∃ A1, A1 = (if c0 = ((ji36) : Int).toNat then A0 else (A0 : Option Addr).map (·.add (((ji36) : Int).toNat * 3))) := ⟨_, rfl⟩
                         obtain ⟨c52, hc52⟩ : ∃ c1, c1 = c0 - ((ji36) : Int).toNat := ⟨_, rfl⟩
                         have hy52 : y299.length = l0.length - ((ji36) : Int).toNat := (by rw [Ny299.out, List.length_drop] <;> omega)
                         rw [show (l0).drop ((ji36) : Int).toNat = y299 from Ny299.out.symm] at hr52
                         replace hr52 : Kd.C k25 _ A52 y299.length y299 := (by rw [hA52]; exact hr52)
                         rw [← hy52, ← hA52, ← hc52] at hcut52
                         have HR302 := Aside0.mk hr52
                         have HC302 := Aside0.mk (show y299.length ≤ c52 from by rw [hy52, hc52]; exact Nat.sub_le_sub_right hroom52 _)
                         clear hr52 hC52 hroom52 hi052 hsz52 hc52
                         have KY52 := Aside0.mk hy52
                         have KA52 := Aside0.mk hA52
                         clear hy52 hA52
                         replace q52 := eq_true q52
                         refine start_ (n := 12) (S := fun w' => True) (ds := []) #[false, false, false, false, false, false, false, false, false, false, false, false] (by kernel_rfl) rfl rfl trivial (fun hHeld => ?_); refine with_tabW scholiastlaw04_ChunkStays.tab19 scholiastlaw04_ChunkStays.bits19 (fun HT_ HW_ => ?_)
                         generalize wc.drew = w50 at HO_7 HO_10 HB HR292 HR302 hHeld ⊢
                         refine pure_ (i := 0) (N := some 69) (v := ?_) (a' := ?_) #[true, false, false, false, false, false, false, false, false, false, false, false] rfl rfl (any_of HT_.out (by kernel_rfl)) (fun _ _ _ h => h) (Or.inl ⟨by rfl, ?_⟩) ?_ ?_
                         rotate_left
                         ·intro w'
                          go_simp
                          with_reducible rfl
                         rotate_left
                         ·simp only [Act.put, List.setIfInBounds_toArray, List.set_cons_zero, List.set_cons_succ, i64_w, i32_w]
                          rfl
                         refine pure_ (i := 1) (N := some 70) (v := ?_) (a' := ?_) #[true, true, false, false, false, false, false, false, false, false, false, false] rfl rfl (any_of HT_.out (by kernel_rfl)) (fun _ _ _ h => h) (Or.inl ⟨by rfl, ?_⟩) ?_ ?_
                         rotate_left
                         ·intro w'
                          go_simp
                          with_reducible rfl
                         rotate_left
                         ·simp only [Act.put, List.setIfInBounds_toArray, List.set_cons_zero, List.set_cons_succ, i64_w, i32_w]
                          rfl
                         refine pure_ (i := 2) (N := some 71) (v := ?_) (a' := ?_) #[true, true, true, false, false, false, false, false, false, false, false, false] rfl rfl (any_of HT_.out (by kernel_rfl)) (fun _ _ _ h => h) (Or.inl ⟨by rfl, ?_⟩) ?_ ?_
                         rotate_left
                         ·intro w'
                          go_simp
                          with_reducible rfl
                         rotate_left
                         ·simp only [Act.put, List.setIfInBounds_toArray, List.set_cons_zero, List.set_cons_succ, i64_w, i32_w]
                          rfl
                         refine pure_ (i := 4) (N := some 73) (v := ?_) (a' := ?_) #[true, true, true, false, true, false, false, false, false, false, false, false] rfl rfl (any_of HT_.out (by kernel_rfl)) (fun _ _ _ h => h) (Or.inl ⟨by rfl, ?_⟩) ?_ ?_
                         rotate_left
                         ·intro w'
                          go_simp
                          with_reducible rfl
                         rotate_left
                         ·simp only [Act.put, List.setIfInBounds_toArray, List.set_cons_zero, List.set_cons_succ, i64_w, i32_w]
                          rfl
                         refine pure_ (i := 6) (N := some 75) (v := ?_) (a' := ?_) #[true, true, true, false, true, false, true, false, false, false, false, false] rfl rfl (any_of HT_.out (by kernel_rfl)) (fun _ _ _ h => h) (Or.inl ⟨by rfl, ?_⟩) ?_ ?_
                         rotate_left
                         ·intro w'
                          go_simp
                          with_reducible rfl
                         rotate_left
                         ·simp only [Act.put, List.setIfInBounds_toArray, List.set_cons_zero, List.set_cons_succ, i64_w, i32_w]
                          rfl
                         refine pure_ (i := 7) (N := some 76) (v := ?_) (a' := ?_) #[true, true, true, false, true, false, true, true, false, false, false, false] rfl rfl (any_of HT_.out (by kernel_rfl)) (fun _ _ _ h => h) (Or.inl ⟨by rfl, ?_⟩) ?_ ?_
                         rotate_left
                         ·intro w'
                          go_simp
                          with_reducible rfl
                         rotate_left
                         ·simp only [Act.put, List.setIfInBounds_toArray, List.set_cons_zero, List.set_cons_succ, i64_w, i32_w]
                          rfl
                         refine pure_ (i := 8) (N := some 77) (v := ?_) (a' := ?_) #[true, true, true, false, true, false, true, true, true, false, false, false] rfl rfl (any_of HT_.out (by kernel_rfl)) (fun _ _ _ h => h) (Or.inl ⟨by rfl, ?_⟩) ?_ ?_
                         rotate_left
                         ·intro w'
                          go_simp
                          with_reducible rfl
                         rotate_left
                         ·simp only [Act.put, List.setIfInBounds_toArray, List.set_cons_zero, List.set_cons_succ, i64_w, i32_w]
                          rfl
                         refine pure_ (i := 9) (N := some 78) (v := ?_) (a' := ?_) #[true, true, true, false, true, false, true, true, true, true, false, false] rfl rfl (any_of HT_.out (by kernel_rfl)) (fun _ _ _ h => h) (Or.inl ⟨by rfl, ?_⟩) ?_ ?_
                         rotate_left
                         ·intro w'
                          go_simp
                          with_reducible rfl
                         rotate_left
                         ·simp only [Act.put, List.setIfInBounds_toArray, List.set_cons_zero, List.set_cons_succ, i64_w, i32_w]
                          rfl
                         refine one_ (i := 3) (N := some 72) #[true, true, true, true, true, false, true, true, true, true, false, false] rfl rfl (one_of HT_.out (by kernel_rfl)) (by decide) (fun K hK => ?_)
                         refine Kd.R_append_rows_step k25 (w0 := w) w.heap.size rfl (.const (.slice none 0 0)) (.tmp 71) 22 25 (.agg #[(.int .i64 0), (.int .i64 0), (.int .i64 0)]) 24 rfl Try.underlying22 info25 rfl (by decide) (by omega) (.slice none 0 0) ([] : List (S25)) y289 _ _ _ (fun k_ => some k_ ≠ (u7 : Value).ownBlock) (fun _ => False) rfl rfl ?aO ?aR (fun _ _ h => h) (fun _ h => h.elim) ?aF ?aB ?aS ?aL ?_
                         (case aR => repeat (first | exact (Kd.C_below HR292.out HB.out) | (with_reducible refine Kd.C_alloc ?_ _) | (with_reducible refine Kd.C_drewN ?_ _) | (with_reducible refine Kd.C_drew ?_)))
                         (case aB => exact (by repeat (first | (with_reducible first | exact HB.out | apply below_alloc | apply pw_below_drewN | apply below_drew1) | exact HB.out)))
                         (case aF => exact (fun k_ hk => Kd.fresh' (Kd.R_lt (by (with_reducible repeat (first | apply Kd.R_alloc | apply Kd.R_drewN | apply Kd.R_drew)); exact HO_7.out)) k_ hk))
                         (case aO => exact ((Kd.R_nil _ _ _ _ (fun k_ => some k_ ≠ (u7 : Value).ownBlock))))
                         (case aS => exact (below_size (by repeat (first | (with_reducible first | exact HB.out | apply below_alloc | apply pw_below_drewN | apply below_drew1) | exact HB.out))))
                         (case aL => have := LMc34.out; omega)
                         intro v294 w53 ho hb hg hat
                         rw [← Ny293.out] at ho
                         have n0_ := Aside0.mk (Kd.R_after (Kd.R_apart_nil (by (with_reducible repeat (first | apply Kd.R_alloc | apply Kd.R_drewN | apply Kd.R_drew)); exact HO_7.out)) hg hat)
                         have n1_ := Aside0.mk (Kd.R_grown (by (with_reducible repeat (first | apply Kd.R_alloc | apply Kd.R_drewN | apply Kd.R_drew)); exact HO_10.out) hg (fun _ _ => by simp [Value.ownBlock]))
                         have n2_ := Aside0.mk (hb)
                         have n3_ := Aside0.mk (ho)
                         clear HO_7
                         clear HO_10
                         clear HB
                         have HO_7 := n0_
                         have HO_10 := n1_
                         have HB := n2_
                         have HO295 := n3_
                         clear n0_ n1_ n2_ n3_
                         clear ho hb hg hat
                         obtain ⟨Ao55, co55, eo55⟩ := Kd.R_slice HO_7.out
                         (first | subst eo55 | (injection eo55 with f1_ f2_ f3_; have f4_ := f1_.symm; have f5_ := f3_.symm; clear f1_ f2_ f3_; subst f4_; subst f5_))
                         refine hK.out _ _ trivial (fun hHeld => ?_)
                         clear hK K
                         refine norm_ (a' := ?_) ?_ ?_
                         rotate_left
                         ·show Act.put _ (some 72) _ = _
                          simp only [Act.put, List.setIfInBounds_toArray, List.set_cons_zero, List.set_cons_succ, i64_w, i32_w]
                          rfl
                         refine one_ (i := 5) (N := some 74) #[true, true, true, true, true, true, true, true, true, true, false, false] rfl rfl (one_of HT_.out (by kernel_rfl)) (by decide) (fun K hK => ?_)
                         refine Kd.R_append_rows_step k25 (w0 := w) w.heap.size (by rfl) (.tmp 72) (.tmp 73) 22 25 (.agg #[(.int .i64 0), (.int .i64 0), (.int .i64 0)]) 24 rfl Try.underlying22 info25 rfl (by decide) (by omega) v294 y293 x7_2 _ _ _ (fun k_ => some k_ ≠ (.slice Ao55 x7_2.length co55 : Value).ownBlock) (fun _ => False) rfl rfl ?aO ?aR (fun _ _ h => h) (fun _ h => h.elim) ?aF ?aB ?aS ?aL ?_
                         (case aR => repeat (first | exact (Kd.R_reads' HO_7.out).2.2 | (with_reducible refine Kd.C_alloc ?_ _) | (with_reducible refine Kd.C_drewN ?_ _) | (with_reducible refine Kd.C_drew ?_)))
                         (case aB => exact (by repeat (first | (with_reducible first | exact HB.out | apply below_alloc | apply pw_below_drewN | apply below_drew1) | exact HB.out)))
                         (case aF => exact (fun k_ hk => Kd.fresh' (Kd.R_lt (by (with_reducible repeat (first | apply Kd.R_alloc | apply Kd.R_drewN | apply Kd.R_drew)); exact HO_7.out)) k_ hk))
                         (case aO => exact (by (with_reducible repeat (first | apply Kd.R_alloc | apply Kd.R_drewN | apply Kd.R_drew)); exact HO295.out))
                         (case aS => exact (below_size (by repeat (first | (with_reducible first | exact HB.out | apply below_alloc | apply pw_below_drewN | apply below_drew1) | exact HB.out))))
                         (case aL => have := LMc35.out; omega)
                         intro v297 w54 ho hb hg hat
                         rw [← Ny296.out] at ho
                         have n0_ := Aside0.mk (Kd.R_after (ok := (fun _ => True)) (by (with_reducible repeat (first | apply Kd.R_alloc | apply Kd.R_drewN | apply Kd.R_drew)); exact HO_7.out) hg hat)
                         have n1_ := Aside0.mk (Kd.R_over' (by (with_reducible repeat (first | apply Kd.R_alloc | apply Kd.R_drewN | apply Kd.R_drew)); exact HO_10.out) (Kd.R_typed (by (with_reducible repeat (first | apply Kd.R_alloc | apply Kd.R_drewN | apply Kd.R_drew)); exact HO295.out)) (by decide) hg)
                         have n2_ := Aside0.mk (hb)
                         have n3_ := Aside0.mk (ho)
                         clear HO_7
                         clear HO_10
                         clear HB
                         clear HO295
                         have HO_7 := n0_
                         have HO_10 := n1_
                         have HB := n2_
                         have HO298 := n3_
                         clear n0_ n1_ n2_ n3_
                         clear ho hb hg hat
                         refine hK.out _ _ trivial (fun hHeld => ?_)
                         clear hK K
                         refine norm_ (a' := ?_) ?_ ?_
                         rotate_left
                         ·show Act.put _ (some 74) _ = _
                          simp only [Act.put, List.setIfInBounds_toArray, List.set_cons_zero, List.set_cons_succ, i64_w, i32_w]
                          rfl
                         refine one_ (i := 10) (N := some 79) #[true, true, true, true, true, true, true, true, true, true, true, false] rfl rfl (one_of HT_.out (by kernel_rfl)) (by decide) (fun K hK => ?_)
                         refine Kd.R_append_rows_step k25 (w0 := w) w.heap.size (by rfl) (.tmp 74) (.tmp 78) 22 25 (.agg #[(.int .i64 0), (.int .i64 0), (.int .i64 0)]) 24 rfl Try.underlying22 info25 rfl (by decide) (by omega) v297 y296 y299 _ _ _ (fun k_ => some k_ ≠ (.slice Ao55 x7_2.length co55 : Value).ownBlock) (fun _ => False) rfl rfl ?aO ?aR (fun _ _ h => h) (fun _ h => h.elim) ?aF ?aB ?aS ?aL ?_
                         (case aR => repeat (first | exact (Kd.C_below HR302.out HB.out) | (with_reducible refine Kd.C_alloc ?_ _) | (with_reducible refine Kd.C_drewN ?_ _) | (with_reducible refine Kd.C_drew ?_)))
                         (case aB => exact (by repeat (first | (with_reducible first | exact HB.out | apply below_alloc | apply pw_below_drewN | apply below_drew1) | exact HB.out)))
                         (case aF => exact (fun k_ hk => Kd.fresh' (Kd.R_lt (by (with_reducible repeat (first | apply Kd.R_alloc | apply Kd.R_drewN | apply Kd.R_drew)); exact HO_7.out)) k_ hk))
                         (case aO => exact (by (with_reducible repeat (first | apply Kd.R_alloc | apply Kd.R_drewN | apply Kd.R_drew)); exact HO298.out))
                         (case aS => exact (below_size (by repeat (first | (with_reducible first | exact HB.out | apply below_alloc | apply pw_below_drewN | apply below_drew1) | exact HB.out))))
                         (case aL => have := LMc39.out; omega)
                         intro v304 w56 ho hb hg hat
                         rw [← Ny303.out] at ho
                         have n0_ := Aside0.mk (Kd.R_after (ok := (fun _ => True)) (by (with_reducible repeat (first | apply Kd.R_alloc | apply Kd.R_drewN | apply Kd.R_drew)); exact HO_7.out) hg hat)
                         have n1_ := Aside0.mk (Kd.R_over' (by (with_reducible repeat (first | apply Kd.R_alloc | apply Kd.R_drewN | apply Kd.R_drew)); exact HO_10.out) (Kd.R_typed (by (with_reducible repeat (first | apply Kd.R_alloc | apply Kd.R_drewN | apply Kd.R_drew)); exact HO298.out)) (by decide) hg)
                         have n2_ := Aside0.mk (hb)
                         have n3_ := Aside0.mk (ho)
                         clear HO_7
                         clear HO_10
                         clear HB
                         clear HO298
                         have HO_7 := n0_
                         have HO_10 := n1_
                         have HB := n2_
                         have HO305 := n3_
                         clear n0_ n1_ n2_ n3_
                         clear ho hb hg hat
                         refine hK.out _ _ trivial (fun hHeld => ?_)
                         clear hK K
                         refine norm_ (a' := ?_) ?_ ?_
                         rotate_left
                         ·show Act.put _ (some 79) _ = _
                          simp only [Act.put, List.setIfInBounds_toArray, List.set_cons_zero, List.set_cons_succ, i64_w, i32_w]
                          rfl
                         refine pure_ (i := 11) (N := some 12) (v := ?_) (a' := ?_) #[true, true, true, true, true, true, true, true, true, true, true, true] rfl rfl (any_of HT_.out (by kernel_rfl)) (fun _ _ _ h => h) (Or.inl ⟨by rfl, ?_⟩) ?_ ?_
                         rotate_left
                         ·intro w'
                          go_simp
                          with_reducible rfl
                         rotate_left
                         ·simp only [Act.put, List.setIfInBounds_toArray, List.set_cons_zero, List.set_cons_succ, i64_w, i32_w]
                          rfl
                         refine done_ (done_of HT_.out (by kernel_rfl)) ?_
                         obtain ⟨Ao57, co57, eo57⟩ := Kd.R_slice HO305.out
                         subst eo57
                         try go_wp2_with (first | ((with_reducible refine gate_callee (f := 10) rfl ?_); refine goesL_ (some 81) rfl rfl Try.func10 (by kernel_rfl) rfl #[.slice Ao57 y303.length co57] rfl (by (try simp only [List.map_toArray, List.map_cons, List.map_nil]); first | done | rfl | (simp only [List.length_drop, List.length_take]; rfl)) ?_; (with_reducible refine (chunk_Cut.calls _ _ y303 t306 _ ?side1 ?side2 A40.out).mono ?_); (case side1 => repeat (first | exact (Kd.R_reads' HO305.out).2.2 | (with_reducible refine Kd.C_alloc ?_ _) | (with_reducible refine Kd.C_drewN ?_ _) | (with_reducible refine Kd.C_drew ?_))); (case side2 => exact (Kd.R_reads' HO305.out).2.1); rintro e w58 ⟨v307, rfl, ho0, hb⟩; refine ⟨_, rfl, ?_⟩; have n0_ := Aside0.mk (Kd.R_below (by (with_reducible repeat (first | apply Kd.R_alloc | apply Kd.R_drewN | apply Kd.R_drew)); exact HO_7.out) hb); have n1_ := Aside0.mk (Kd.R_elder' (by (with_reducible repeat (first | apply Kd.R_alloc | apply Kd.R_drewN | apply Kd.R_drew)); exact HO_10.out) (Kd.R_base ho0) hb); have n2_ := Aside0.mk (Kd.R_below (by (with_reducible repeat (first | apply Kd.R_alloc | apply Kd.R_drewN | apply Kd.R_drew)); exact HO305.out) hb); have n3_ := Aside0.mk (Kd.R_lower (Kd.R_new' ho0 (Kd.R_lt (by (with_reducible repeat (first | apply Kd.R_alloc | apply Kd.R_drewN | apply Kd.R_drew)); exact HO_10.out))) (below_size (by repeat (first | (with_reducible first | exact HB.out | apply below_alloc | apply pw_below_drewN | apply below_drew1) | exact HB.out)))); have n4_ := Aside0.mk (below_step (by repeat (first | (with_reducible first | exact HB.out | apply below_alloc | apply pw_below_drewN | apply below_drew1) | exact HB.out)) hb); clear HO_7; clear HO_10; clear HO305; clear HB; have HO_7 := n0_; have HO_10 := n1_; have HO305 := n2_; have HO308 := n3_; have HB := n4_; clear n0_ n1_ n2_ n3_ n4_; (try clear hb); (try clear hb2); (try clear hk); (try clear hi); (try clear ho0)))
                         have n0_ := Aside0.mk (Kd.R_drew HO_7.out)
                         have n1_ := Aside0.mk (Kd.R_drew HO_10.out)
                         have n2_ := Aside0.mk (Kd.R_drew HO305.out)
                         have n3_ := Aside0.mk (Kd.R_drew HO308.out)
                         have n4_ := Aside0.mk (below_drew1 HB.out)
                         clear HO_7
                         clear HO_10
                         clear HO305
                         clear HO308
                         clear HB
                         have HO_7 := n0_
                         have HO_10 := n1_
                         have HO305 := n2_
                         have HO308 := n3_
                         have HB := n4_
                         clear n0_ n1_ n2_ n3_ n4_
                         have p309 : 0 ≤ (x11_21 : Int) := of_decide_eq_true (by first | (with_reducible assumption) | assumption)
                         have q309 : x11_21 < (t285.length : Int) := of_decide_eq_true (by first | (with_reducible assumption) | assumption)
                         obtain ⟨ad309, e309, hx309_0, hx309_1⟩ := at_T30 (Kd.R_reads' HO_10.out).2.2 x11_21 p309 q309
                         cases e309
                         replace p309 := eq_true p309
                         replace q309 := eq_true q309
                         have p310 : 0 ≤ (x11_21 : Int) := of_decide_eq_true (by first | (with_reducible assumption) | assumption)
                         have q310 : x11_21 < (t285.length : Int) := of_decide_eq_true (by first | (with_reducible assumption) | assumption)
                         obtain ⟨ad310, e310, hx310_0, hx310_1⟩ := at_T30 (Kd.R_reads' HO_10.out).2.2 x11_21 p310 q310
                         obtain rfl : ad309 = ad310 := (by injection e310)
                         replace p310 := eq_true p310
                         replace q310 := eq_true q310
                         have q60 : ((wrap64 ((wrap64 (((rd_T30 t285 x11_21).f1) + (x7_2.length : Int))) - 1)) : Int) ≤ ((y303.length : Int) : Int) := of_decide_eq_true (by first | (with_reducible assumption) | assumption)
                         obtain ⟨i060, hi060, _, hsz60, _⟩ := info_parts info25
                         have hroom60 : y303.length ≤ co57 := (Kd.R_reads' HO305.out).2.1
                         have hC60 : Kd.C k25 _ Ao57 y303.length y303 := (Kd.R_reads' HO305.out).2.2
                         have ql60 : (((rd_T30 t285 x11_21).f0) : Int) ≤ ((wrap64 ((wrap64 (((rd_T30 t285 x11_21).f1) + (x7_2.length : Int))) - 1)) : Int) := of_decide_eq_true (by first | (with_reducible assumption) | assumption)
                         have q060 : (0 : Int) ≤ (((rd_T30 t285 x11_21).f0) : Int) := of_decide_eq_true (by first | (with_reducible assumption) | assumption)
                         have hcut60 := cut_mid (P := Try.prog) 22 25 .i64 .i64 Try.underlying22 hi060 3 hsz60 Ao57 y303.length co57 ((rd_T30 t285 x11_21).f0) (wrap64 ((wrap64 (((rd_T30 t285 x11_21).f1) + (x7_2.length : Int))) - 1)) q060 ql60 q60 hroom60
                         have hr60 := Kd.C_mid (lo := (((rd_T30 t285 x11_21).f0) : Int).toNat) (hi := ((wrap64 ((wrap64 (((rd_T30 t285 x11_21).f1) + (x7_2.length : Int))) - 1)) : Int).toNat) (c := co57) hC60 (by omega) (by omega) hroom60
                         obtain ⟨A60, hA60⟩ : ∃ A1, A1 = (if co57 = (((rd_T30 t285 x11_21).f0) : Int).toNat then Ao57 else (Ao57 : Option Addr).map (·.add ((((rd_T30 t285 x11_21).f0) : Int).toNat * 3))) := ⟨_, rfl⟩
                         obtain ⟨c60, hc60⟩ : ∃ c1, c1 = co57 - (((rd_T30 t285 x11_21).f0) : Int).toNat := ⟨_, rfl⟩
                         have hy60 : y311.length = ((wrap64 ((wrap64 (((rd_T30 t285 x11_21).f1) + (x7_2.length : Int))) - 1)) : Int).toNat - (((rd_T30 t285 x11_21).f0) : Int).toNat := (by rw [Ny311.out, List.length_drop, List.length_take] <;> omega)
                         rw [show ((y303).take ((wrap64 ((wrap64 (((rd_T30 t285 x11_21).f1) + (x7_2.length : Int))) - 1)) : Int).toNat).drop (((rd_T30 t285 x11_21).f0) : Int).toNat = y311 from Ny311.out.symm] at hr60
                         replace hr60 : Kd.C k25 _ A60 y311.length y311 := (by rw [hA60]; exact hr60)
                         rw [← hy60, ← hA60, ← hc60] at hcut60
                         have HR314 := Aside0.mk hr60
                         have HC314 := Aside0.mk (show y311.length ≤ c60 from by rw [hy60, hc60]; exact Nat.sub_le_sub_right (Nat.le_trans (by omega) hroom60) _)
                         clear hr60 hC60 hroom60 hi060 hsz60 hc60
                         have KY60 := Aside0.mk hy60
                         have KA60 := Aside0.mk hA60
                         clear hy60 hA60
                         have KL60 := Aside0.mk (show ((wrap64 ((wrap64 (((rd_T30 t285 x11_21).f1) + (x7_2.length : Int))) - 1)) : Int).toNat ≤ y303.length from by omega)
                         have KM60 := Aside0.mk (show (((rd_T30 t285 x11_21).f0) : Int).toNat ≤ ((wrap64 ((wrap64 (((rd_T30 t285 x11_21).f1) + (x7_2.length : Int))) - 1)) : Int).toNat from by omega)
                         replace q60 := eq_true q60
                         refine start_ (n := 18) (S := fun w' => w'.cell? (ad309.add ((x11_21).toNat * 2)) = some (.int .i64 ((rd_T30 t285 x11_21).f0)) ∧ w'.cell? ⟨(ad309.add ((x11_21).toNat * 2)).block, (ad309.add ((x11_21).toNat * 2)).off + 1, none⟩ = some (.int .i64 ((rd_T30 t285 x11_21).f1)) ∧ w'.cell? (ad309.add ((x11_21).toNat * 2)) = some (.int .i64 ((rd_T30 t285 x11_21).f0)) ∧ w'.cell? ⟨(ad309.add ((x11_21).toNat * 2)).block, (ad309.add ((x11_21).toNat * 2)).off + 1, none⟩ = some (.int .i64 ((rd_T30 t285 x11_21).f1))) (ds := []) #[false, false, false, false, false, false, false, false, false, false, false, false, false, false, false, false, false, false] (by kernel_rfl) rfl rfl ⟨hx309_0, hx309_1, hx310_0, hx310_1⟩ (fun hHeld => ?_); refine with_tabW scholiastlaw04_ChunkStays.tab21 scholiastlaw04_ChunkStays.bits21 (fun HT_ HW_ => ?_)
                         generalize w58.drew = w59 at HO_7 HO_10 HO305 HO308 HB HR314 hx309_0 hx309_1 hx310_0 hx310_1 hHeld ⊢
                         refine pure_ (i := 0) (N := some 82) (v := ?_) (a' := ?_) #[true, false, false, false, false, false, false, false, false, false, false, false, false, false, false, false, false, false] rfl rfl (any_of HT_.out (by kernel_rfl)) (fun _ _ _ h => h) (Or.inl ⟨by rfl, ?_⟩) ?_ ?_
                         rotate_left
                         ·intro w'
                          go_simp
                          with_reducible rfl
                         rotate_left
                         ·simp only [Act.put, List.setIfInBounds_toArray, List.set_cons_zero, List.set_cons_succ, i64_w, i32_w]
                          rfl
                         refine pure_ (i := 1) (N := some 83) (v := ?_) (a' := ?_) #[true, true, false, false, false, false, false, false, false, false, false, false, false, false, false, false, false, false] rfl rfl (any_of HT_.out (by kernel_rfl)) (fun _ _ _ h => h) (Or.inl ⟨by rfl, ?_⟩) ?_ ?_
                         rotate_left
                         ·intro w'
                          go_simp
                          with_reducible rfl
                         rotate_left
                         ·simp only [Act.put, List.setIfInBounds_toArray, List.set_cons_zero, List.set_cons_succ, i64_w, i32_w]
                          rfl
                         refine pure_ (i := 2) (N := some 84) (v := ?_) (a' := ?_) #[true, true, true, false, false, false, false, false, false, false, false, false, false, false, false, false, false, false] rfl rfl (any_of HT_.out (by kernel_rfl)) (fun _ _ _ h => h) (Or.inl ⟨by rfl, ?_⟩) ?_ ?_
                         rotate_left
                         ·intro w'
                          go_simp
                          with_reducible rfl
                         rotate_left
                         ·simp only [Act.put, List.setIfInBounds_toArray, List.set_cons_zero, List.set_cons_succ, i64_w, i32_w]
                          rfl
                         refine pure_ (i := 3) (N := some 85) (v := ?_) (a' := ?_) #[true, true, true, true, false, false, false, false, false, false, false, false, false, false, false, false, false, false] rfl rfl (any_of HT_.out (by kernel_rfl)) (fun _ _ _ h => h) (Or.inl ⟨by rfl, ?_⟩) ?_ ?_
                         rotate_left
                         ·intro w'
                          go_simp
                          with_reducible rfl
                         rotate_left
                         ·simp only [Act.put, List.setIfInBounds_toArray, List.set_cons_zero, List.set_cons_succ, i64_w, i32_w]
                          rfl
                         refine pure_ (i := 4) (N := some 86) (v := ?_) (a' := ?_) #[true, true, true, true, true, false, false, false, false, false, false, false, false, false, false, false, false, false] rfl rfl (any_of HT_.out (by kernel_rfl)) (fun _ _ _ h => h) (Or.inl ⟨by rfl, ?_⟩) ?_ ?_
                         rotate_left
                         ·intro w'
                          go_simp
                          with_reducible rfl
                         rotate_left
                         ·simp only [Act.put, List.setIfInBounds_toArray, List.set_cons_zero, List.set_cons_succ, i64_w, i32_w]
                          rfl
                         refine pure_ (i := 6) (N := some 88) (v := ?_) (a' := ?_) #[true, true, true, true, true, false, true, false, false, false, false, false, false, false, false, false, false, false] rfl rfl (any_of HT_.out (by kernel_rfl)) (fun _ _ _ h => h) (Or.inl ⟨by rfl, ?_⟩) ?_ ?_
                         rotate_left
                         ·intro w'
                          go_simp
                          with_reducible rfl
                         rotate_left
                         ·simp only [Act.put, List.setIfInBounds_toArray, List.set_cons_zero, List.set_cons_succ, i64_w, i32_w]
                          rfl
                         refine pure_ (i := 7) (N := some 89) (v := ?_) (a' := ?_) #[true, true, true, true, true, false, true, true, false, false, false, false, false, false, false, false, false, false] rfl rfl (any_of HT_.out (by kernel_rfl)) (fun _ _ _ h => h) (Or.inl ⟨by rfl, ?_⟩) ?_ ?_
                         rotate_left
                         ·intro w'
                          go_simp
                          with_reducible rfl
                         rotate_left
                         ·simp only [Act.put, List.setIfInBounds_toArray, List.set_cons_zero, List.set_cons_succ, i64_w, i32_w]
                          rfl
                         refine pure_ (i := 8) (N := some 90) (v := ?_) (a' := ?_) #[true, true, true, true, true, false, true, true, true, false, false, false, false, false, false, false, false, false] rfl rfl (any_of HT_.out (by kernel_rfl)) (fun _ _ _ h => h) (Or.inl ⟨by rfl, ?_⟩) ?_ ?_
                         rotate_left
                         ·intro w'
                          go_simp
                          with_reducible rfl
                         rotate_left
                         ·simp only [Act.put, List.setIfInBounds_toArray, List.set_cons_zero, List.set_cons_succ, i64_w, i32_w]
                          rfl
                         refine pure_ (i := 9) (N := some 91) (v := ?_) (a' := ?_) #[true, true, true, true, true, false, true, true, true, true, false, false, false, false, false, false, false, false] rfl rfl (any_of HT_.out (by kernel_rfl)) (fun _ _ _ h => h) (Or.inl ⟨by rfl, ?_⟩) ?_ ?_
                         rotate_left
                         ·intro w'
                          go_simp
                          with_reducible rfl
                         rotate_left
                         ·simp only [Act.put, List.setIfInBounds_toArray, List.set_cons_zero, List.set_cons_succ, i64_w, i32_w]
                          rfl
                         refine pure_ (i := 11) (N := some 93) (v := ?_) (a' := ?_) #[true, true, true, true, true, false, true, true, true, true, false, true, false, false, false, false, false, false] rfl rfl (any_of HT_.out (by kernel_rfl)) (fun _ _ _ h => h) (Or.inl ⟨by rfl, ?_⟩) ?_ ?_
                         rotate_left
                         ·intro w'
                          go_simp
                          with_reducible rfl
                         rotate_left
                         ·simp only [Act.put, List.setIfInBounds_toArray, List.set_cons_zero, List.set_cons_succ, i64_w, i32_w]
                          rfl
                         refine pure_ (i := 12) (N := some 94) (v := ?_) (a' := ?_) #[true, true, true, true, true, false, true, true, true, true, false, true, true, false, false, false, false, false] rfl rfl (any_of HT_.out (by kernel_rfl)) (fun _ _ _ h => h) (Or.inl ⟨by rfl, ?_⟩) ?_ ?_
                         rotate_left
                         ·intro w'
                          go_simp
                          with_reducible rfl
                         rotate_left
                         ·simp only [Act.put, List.setIfInBounds_toArray, List.set_cons_zero, List.set_cons_succ, i64_w, i32_w]
                          rfl
                         refine take_ (i := 5) (N := some 87) (v := ?_) (a' := ?_) #[true, true, true, true, true, true, true, true, true, true, false, true, true, false, false, false, false, false] rfl rfl (take_ofW HT_.out HW_.out (by kernel_rfl)) (fun _ _ _ h => h) (Or.inl ⟨by rfl, ?_⟩) hHeld ?_ ?_
                         rotate_left
                         ·rintro w' ⟨s0, s1, s2, s3⟩
                          (try simp only [Int.toNat_natCast] at s0 s1 s2 s3)
                          go_simp
                          with_reducible rfl
                         rotate_left
                         ·simp only [Act.put, List.setIfInBounds_toArray, List.set_cons_zero, List.set_cons_succ, i64_w, i32_w]
                          rfl
                         refine take_ (i := 10) (N := some 92) (v := ?_) (a' := ?_) #[true, true, true, true, true, true, true, true, true, true, true, true, true, false, false, false, false, false] rfl rfl (take_ofW HT_.out HW_.out (by kernel_rfl)) (fun _ _ _ h => h) (Or.inl ⟨by rfl, ?_⟩) hHeld ?_ ?_
                         rotate_left
                         ·rintro w' ⟨s0, s1, s2, s3⟩
                          (try simp only [Int.toNat_natCast] at s0 s1 s2 s3)
                          go_simp
                          with_reducible rfl
                         rotate_left
                         ·simp only [Act.put, List.setIfInBounds_toArray, List.set_cons_zero, List.set_cons_succ, i64_w, i32_w]
                          rfl
                         refine pure_ (i := 13) (N := some 95) (v := ?_) (a' := ?_) #[true, true, true, true, true, true, true, true, true, true, true, true, true, true, false, false, false, false] rfl rfl (any_of HT_.out (by kernel_rfl)) (fun _ _ _ h => h) (Or.inl ⟨by rfl, ?_⟩) ?_ ?_
                         rotate_left
                         ·intro w'
                          go_simp
                          with_reducible rfl
                         rotate_left
                         ·simp only [Act.put, List.setIfInBounds_toArray, List.set_cons_zero, List.set_cons_succ, i64_w, i32_w]
                          rfl
                         refine pure_ (i := 14) (N := some 96) (v := ?_) (a' := ?_) #[true, true, true, true, true, true, true, true, true, true, true, true, true, true, true, false, false, false] rfl rfl (any_of HT_.out (by kernel_rfl)) (fun _ _ _ h => h) (Or.inl ⟨by rfl, ?_⟩) ?_ ?_
                         rotate_left
                         ·intro w'
                          go_simp
                          with_reducible rfl
                         rotate_left
                         ·simp only [Act.put, List.setIfInBounds_toArray, List.set_cons_zero, List.set_cons_succ, i64_w, i32_w]
                          rfl
                         refine pure_ (i := 15) (N := some 97) (v := ?_) (a' := ?_) #[true, true, true, true, true, true, true, true, true, true, true, true, true, true, true, true, false, false] rfl rfl (any_of HT_.out (by kernel_rfl)) (fun _ _ _ h => h) (Or.inl ⟨by rfl, ?_⟩) ?_ ?_
                         rotate_left
                         ·intro w'
                          go_simp
                          with_reducible rfl
                         rotate_left
                         ·simp only [Act.put, List.setIfInBounds_toArray, List.set_cons_zero, List.set_cons_succ, i64_w, i32_w]
                          rfl
                         refine one_ (i := 16) (N := some 98) #[true, true, true, true, true, true, true, true, true, true, true, true, true, true, true, true, true, false] rfl rfl (one_of HT_.out (by kernel_rfl)) (by decide) (fun K hK => ?_)
                         refine goes_ Try.func17 (by kernel_rfl) rfl #[.slice A60 y311.length c60] (by rfl) rfl rfl (by (try simp only [List.map_toArray, List.map_cons, List.map_nil]); first | done | rfl | (simp only [List.length_drop, List.length_take]; rfl)) ?_
                         with_reducible refine (scholiastlaw04_weighs.calls kj21 _ _ y311 true _ ?side1 ?side2 A46.out).mono ?_
                         (case side1 => repeat (first | exact (by repeat (first | (with_reducible exact HR314.out) | (with_reducible refine Kd.C_alloc ?_ _) | (with_reducible refine Kd.C_drewN ?_ _) | (with_reducible refine Kd.C_drew ?_) | exact HR314.out)) | (with_reducible refine Kd.C_alloc ?_ _) | (with_reducible refine Kd.C_drewN ?_ _) | (with_reducible refine Kd.C_drew ?_)))
                         (case side2 => exact HC314.out)
                         rintro e w61 ⟨rfl, hb⟩
                         have HS0_ := (hb.cell (World.block_lt_of_cell? _ _ (hHeld.1))).trans (hHeld.1)
                         have HS1_ := (hb.cell (World.block_lt_of_cell? _ _ (hHeld.2.1))).trans (hHeld.2.1)
                         have HS2_ := (hb.cell (World.block_lt_of_cell? _ _ (hHeld.2.2.1))).trans (hHeld.2.2.1)
                         have HS3_ := (hb.cell (World.block_lt_of_cell? _ _ (hHeld.2.2.2))).trans (hHeld.2.2.2)
                         refine ⟨_, rfl, ?_⟩
                         have n0_ := Aside0.mk (Kd.R_below (by (with_reducible repeat (first | apply Kd.R_alloc | apply Kd.R_drewN | apply Kd.R_drew)); exact HO_7.out) hb)
                         have n1_ := Aside0.mk (Kd.R_below (by (with_reducible repeat (first | apply Kd.R_alloc | apply Kd.R_drewN | apply Kd.R_drew)); exact HO_10.out) hb)
                         have n2_ := Aside0.mk (Kd.R_below (by (with_reducible repeat (first | apply Kd.R_alloc | apply Kd.R_drewN | apply Kd.R_drew)); exact HO305.out) hb)
                         have n3_ := Aside0.mk (Kd.R_below (by (with_reducible repeat (first | apply Kd.R_alloc | apply Kd.R_drewN | apply Kd.R_drew)); exact HO308.out) hb)
                         have n4_ := Aside0.mk (Kd.C_below (by repeat (first | (with_reducible exact HR314.out) | (with_reducible refine Kd.C_alloc ?_ _) | (with_reducible refine Kd.C_drewN ?_ _) | (with_reducible refine Kd.C_drew ?_) | exact HR314.out)) hb)
                         have n5_ := Aside0.mk (below_step (by repeat (first | (with_reducible first | exact HB.out | apply below_alloc | apply pw_below_drewN | apply below_drew1) | exact HB.out)) hb)
                         clear HO_7
                         clear HO_10
                         clear HO305
                         clear HO308
                         clear HR314
                         clear HB
                         have HO_7 := n0_
                         have HO_10 := n1_
                         have HO305 := n2_
                         have HO308 := n3_
                         have HR314 := n4_
                         have HB := n5_
                         clear n0_ n1_ n2_ n3_ n4_ n5_
                         (try clear hb)
                         (try clear hb2)
                         (try clear hk)
                         (try clear hi)
                         refine hK.out _ _ ⟨HS0_, HS1_, HS2_, HS3_⟩ (fun hHeld => ?_)
                         clear hK K
                         refine norm_ (a' := ?_) ?_ ?_
                         rotate_left
                         ·show Act.put _ (some 98) _ = _
                          simp only [Act.put, List.setIfInBounds_toArray, List.set_cons_zero, List.set_cons_succ, i64_w, i32_w]
                          rfl
                         refine pure_ (i := 17) (N := some 99) (v := ?_) (a' := ?_) #[true, true, true, true, true, true, true, true, true, true, true, true, true, true, true, true, true, true] rfl rfl (any_of HT_.out (by kernel_rfl)) (fun _ _ _ h => h) (Or.inl ⟨by rfl, ?_⟩) ?_ ?_
                         rotate_left
                         ·intro w'
                          go_simp
                          with_reducible rfl
                         rotate_left
                         ·simp only [Act.put, List.setIfInBounds_toArray, List.set_cons_zero, List.set_cons_succ, i64_w, i32_w]
                          rfl
                         refine done_ (done_of HT_.out (by kernel_rfl)) ?_
                         obtain ⟨Ao62, co62, eo62⟩ := Kd.R_slice HO308.out
                         subst eo62
                         try go_wp2
                         go_loopg [113] kj21 (fun kq v113 w' => ∃ (x113_4 : Int), v113 = .int .i64 x113_4 ∧ Aside0 (scholiastlaw04_ChunkStays.l2 kq x7_2 t285 x11_21 t306 (t285.length : Int) x113_4 = some r) ∧ Aside0 (kq ≤ kj21) ∧ Aside0 (Kd.R k25 25 w' w.heap.size (fun _ => True) (.slice Ao55 x7_2.length co55) x7_2) ∧ Aside0 (Kd.R k30 30 w' w.heap.size (fun k_ => some k_ ≠ ((.slice Ao62 t306.length co62) : Value).ownBlock) (.slice (some ad309) t285.length co49) t285) ∧ Aside0 (Kd.R k30 30 w' w.heap.size (fun k_ => some k_ ≠ ((.slice (some ad309) t285.length co49) : Value).ownBlock) (.slice Ao62 t306.length co62) t306) ∧ Aside0 (Below w.heap.size w w'))
                         case atStart => exact ⟨(0), (by first | rfl | (simp; done) | (simp [*]; done)), H', ⟨Nat.le_refl _⟩, ⟨by (with_reducible repeat (first | apply Kd.R_alloc | apply Kd.R_drewN | apply Kd.R_drew)); exact Kd.R_mono HO_7.out (fun _ hk => trivial)⟩, ⟨by (with_reducible repeat (first | apply Kd.R_alloc | apply Kd.R_drewN | apply Kd.R_drew)); exact Kd.R_mono HO_10.out (fun _ hk => hk.2)⟩, ⟨by (with_reducible repeat (first | apply Kd.R_alloc | apply Kd.R_drewN | apply Kd.R_drew)); exact Kd.R_mono HO308.out (fun _ hk => hk.2)⟩, ⟨by repeat (first | (with_reducible first | exact HB.out | apply below_alloc | apply pw_below_drewN | apply below_drew1) | exact HB.out)⟩⟩
                         case round =>
                          clear H'
                          try clear c1
                          try clear p2
                          try clear q2
                          try clear hx2
                          try clear c3
                          try clear p3
                          try clear q3
                          try clear hx3
                          try clear c4
                          try clear c5
                          try clear q5
                          try clear c6
                          try clear p6
                          try clear q6
                          try clear c10
                          try clear c17
                          try clear p27
                          try clear q27
                          try clear hx27
                          try clear p28
                          try clear q28
                          try clear hx28
                          try clear c30
                          try clear c30b0
                          try clear c30b1
                          try clear p30
                          try clear q30
                          try clear hx30
                          try clear p31
                          try clear q31
                          try clear hx31
                          try clear c32
                          try clear c32b0
                          try clear c32b1
                          try clear c33
                          try clear c33b0
                          try clear c33b1
                          try clear c34
                          try clear c35
                          try clear c37
                          try clear c37b0
                          try clear c37b1
                          try clear c38
                          try clear c38b0
                          try clear c38b1
                          try clear c39
                          try clear c41
                          try clear c41b0
                          try clear c42
                          try clear c42b0
                          try clear c43
                          try clear c43b0
                          try clear c43b1
                          try clear c44
                          try clear c44b0
                          try clear c44b1
                          try clear c45
                          try clear c45b0
                          try clear c45b1
                          try clear c47
                          try clear c48
                          try clear c48b0
                          try clear c48b1
                          try clear c48b2
                          try clear q51
                          try clear c52
                          try clear q52
                          try clear c60
                          try clear q60
                          try clear hx278_0
                          try clear hx278_1
                          try clear hx278_2
                          try clear hx280_0
                          try clear hx288_0
                          try clear hx288_1
                          try clear hx309_0
                          try clear hx309_1
                          try clear hx310_0
                          try clear hx310_1
                          try clear p2
                          try clear p278
                          try clear p280
                          try clear p288
                          try clear p309
                          try clear p310
                          try clear p6
                          try clear q052
                          try clear q060
                          try clear q2
                          try clear q278
                          try clear q280
                          try clear q288
                          try clear q309
                          try clear q310
                          try clear q51
                          try clear q52
                          try clear q60
                          obtain ⟨x113_4, rfl, HA, HK4, HO_7, HO_10, HO_13, HB⟩ := hrel
                          cases gk with
                          | zero => exact absurd HA.out (by simp [scholiastlaw04_ChunkStays.l2])
                          | succ k4 =>
                           have H := HA.out
                           clear HA
                           simp only [scholiastlaw04_ChunkStays.l2] at H
                           by_cases c63 : x113_4 < (t285.length : Int)
                           ·rw [if_pos c63] at H
                            have c63b0 : decide (x113_4 < (t285.length : Int)) = true := decide_eq_true c63
                            clear c63
                            by_cases c64 : 0 ≤ x113_4
                            ·rw [if_pos c64] at H
                             have c64b0 : decide (0 ≤ x113_4) = true := decide_eq_true c64
                             clear c64
                             by_cases c65 : x113_4 < (t285.length : Int)
                             ·rw [if_pos c65] at H
                              have c65b0 : decide (x113_4 < (t285.length : Int)) = true := decide_eq_true c65
                              clear c65
                              have HC66 := Aside0.mk H
                              clear H
                              have p316 : 0 ≤ (x113_4 : Int) := of_decide_eq_true (by first | (with_reducible assumption) | assumption)
                              have q316 : x113_4 < (t285.length : Int) := of_decide_eq_true (by first | (with_reducible assumption) | assumption)
                              obtain ⟨ad316, e316, hx316_0, hx316_1⟩ := at_T30 (Kd.R_reads' HO_10.out).2.2 x113_4 p316 q316
                              obtain rfl : ad309 = ad316 := (by injection e316)
                              replace p316 := eq_true p316
                              replace q316 := eq_true q316
                              go_upto_if 122 with (first | ((with_reducible refine gate_dst (N := 15) rfl ?_); (try (refine gate_guard (by rfl) ?_; dsimp only)); refine box_event ?hg (N := 15) ?hd (cs := #[.int .i64 0, .int .i64 0]) (t := 30) ?hr ?_; (case hd => rfl); (case hg => rfl); (case hr => first | (go_simp; done) | (go_simp; rfl)); intro gb317 hg w67 hbox hb; have n0_ := Aside0.mk (Kd.R_below (by (with_reducible repeat (first | apply Kd.R_alloc | apply Kd.R_drewN | apply Kd.R_drew)); exact HO_7.out) hb); have n1_ := Aside0.mk (Kd.R_below (Kd.R_elderB (by (with_reducible repeat (first | apply Kd.R_alloc | apply Kd.R_drewN | apply Kd.R_drew)); exact HO_10.out) gb317 (Nat.le_of_eq hg.symm)) hb); have n2_ := Aside0.mk (Kd.R_below (Kd.R_elderB (by (with_reducible repeat (first | apply Kd.R_alloc | apply Kd.R_drewN | apply Kd.R_drew)); exact HO_13.out) gb317 (Nat.le_of_eq hg.symm)) hb); have n3_ := Aside0.mk (below_step (by repeat (first | (with_reducible first | exact HB.out | apply below_alloc | apply pw_below_drewN | apply below_drew1) | exact HB.out)) hb); have n4_ := Aside0.mk (hbox); have n5_ := Aside0.mk ((by rw [hg]; exact (below_size (by repeat (first | (with_reducible first | exact HB.out | apply below_alloc | apply pw_below_drewN | apply below_drew1) | exact HB.out))) : w.heap.size ≤ gb317)); have n6_ := Aside0.mk ((by rw [hg]; exact (below_size (by repeat (first | (with_reducible first | exact HB.out | apply below_alloc | apply pw_below_drewN | apply below_drew1) | exact HB.out))) : w.heap.size ≤ gb317)); clear HO_7; clear HO_10; clear HO_13; clear HB; have HO_7 := n0_; have HO_10 := n1_; have HO_13 := n2_; have HB := n3_; have BK317 := n4_; have GW317 := n5_; have GE317 := n6_; clear n0_ n1_ n2_ n3_ n4_ n5_ n6_; clear hb hbox hg; have hcz68_0 : w67.cell? ⟨gb317, 0, none⟩ = some (.int .i64 0) := (blk_cell BK317.out 0).trans rfl; have hcz68_1 : w67.cell? ⟨gb317, 1, none⟩ = some (.int .i64 0) := (blk_cell BK317.out 1).trans rfl; have hfz68_0 := blk_frozen BK317.out 0; have hfz68_1 := blk_frozen BK317.out 1))
                              (try simp only [Act.put, List.setIfInBounds_toArray, List.set_cons_zero, List.set_cons_succ])
                              go_cut [] (fun wc => ∃ (kq : Nat) (x318000_65 : Int), Aside0 (scholiastlaw04_ChunkStays.j5 kq x7_2 t285 x11_21 t306 x113_4 (t285.length : Int) x113_4 x318000_65 ((rd_T30 t285 x113_4).f1) = some r) ∧ Aside0 (kq ≤ k4) ∧ Aside0 (Kd.R k25 25 wc w.heap.size (fun _ => True) (.slice Ao55 x7_2.length co55) x7_2) ∧ Aside0 (Kd.R k30 30 wc w.heap.size (fun k_ => some k_ ≠ ((.slice Ao62 t306.length co62) : Value).ownBlock ∧ k_ ≠ gb317) (.slice (some ad309) t285.length co49) t285) ∧ Aside0 (Kd.R k30 30 wc w.heap.size (fun k_ => some k_ ≠ ((.slice (some ad309) t285.length co49) : Value).ownBlock ∧ k_ ≠ gb317) (.slice Ao62 t306.length co62) t306) ∧ Aside0 (wc.heap[gb317]? = some (.cells #[.int .i64 x318000_65, .int .i64 ((rd_T30 t285 x113_4).f1)] 30 (0, 0))) ∧ Aside0 (Below w.heap.size w wc))
                              case first =>
                               have H := HC66.out
                               clear HC66
                               by_cases c69 : x113_4 > x11_21
                               ·rw [if_pos c69] at H
                                have c69b0 : decide (x11_21 < x113_4) = true := decide_eq_true c69
                                clear c69
                                (first | rw [c69b0] | (simp only [i64_w, i32_w]; rw [c69b0]) | rw [c69b1] | skip)
                                have H' := Aside0.mk H
                                clear H
                                have hcz70_0 : w67.cell? ⟨gb317, 0, none⟩ = some (.int .i64 0) := (blk_cell BK317.out 0).trans rfl
                                have hcz70_1 : w67.cell? ⟨gb317, 1, none⟩ = some (.int .i64 0) := (blk_cell BK317.out 1).trans rfl
                                have hfz70_0 := blk_frozen BK317.out 0
                                have hfz70_1 := blk_frozen BK317.out 1
                                go_wp2
                                go_meet
                                case rel => exact ⟨_, (wrap64 (((rd_T30 t285 x113_4).f0) + (wrap64 ((x7_2.length : Int) - 1)))), H', ⟨by have := HJ5.out; have := HK2.out; have := HJ21.out; have := HK4.out; first | omega | exact Nat.le_refl _⟩, ⟨by (with_reducible repeat (first | apply Kd.R_alloc | apply Kd.R_drewN | apply Kd.R_drew)); exact Kd.R_mono (Kd.R_far (p := ⟨gb317, 0, none⟩) (Kd.R_far (p := ⟨gb317, 1, none⟩) (Kd.R_far (p := ⟨gb317, 0, none⟩) (Kd.R_types HO_7.out BK317.out (by decide)) (fun _ hk => hk.2) (.int .i64 ((rd_T30 t285 x113_4).f0))) (fun _ hk => hk.2) (.int .i64 ((rd_T30 t285 x113_4).f1))) (fun _ hk => hk.2) (.int .i64 (wrap64 (((rd_T30 t285 x113_4).f0) + (wrap64 ((x7_2.length : Int) - 1)))))) (fun _ hk => trivial)⟩, ⟨by (with_reducible repeat (first | apply Kd.R_alloc | apply Kd.R_drewN | apply Kd.R_drew)); exact Kd.R_mono (Kd.R_far (p := ⟨gb317, 0, none⟩) (Kd.R_far (p := ⟨gb317, 1, none⟩) (Kd.R_far (p := ⟨gb317, 0, none⟩) (Kd.R_mono HO_10.out (fun k_ hk => (⟨hk, hk.2⟩ : _ ∧ k_ ≠ gb317))) (fun _ hk => hk.2) (.int .i64 ((rd_T30 t285 x113_4).f0))) (fun _ hk => hk.2) (.int .i64 ((rd_T30 t285 x113_4).f1))) (fun _ hk => hk.2) (.int .i64 (wrap64 (((rd_T30 t285 x113_4).f0) + (wrap64 ((x7_2.length : Int) - 1)))))) (fun _ hk => ⟨hk.1.1, hk.1.2⟩)⟩, ⟨by (with_reducible repeat (first | apply Kd.R_alloc | apply Kd.R_drewN | apply Kd.R_drew)); exact Kd.R_mono (Kd.R_far (p := ⟨gb317, 0, none⟩) (Kd.R_far (p := ⟨gb317, 1, none⟩) (Kd.R_far (p := ⟨gb317, 0, none⟩) (Kd.R_mono HO_13.out (fun k_ hk => (⟨hk, hk.2⟩ : _ ∧ k_ ≠ gb317))) (fun _ hk => hk.2) (.int .i64 ((rd_T30 t285 x113_4).f0))) (fun _ hk => hk.2) (.int .i64 ((rd_T30 t285 x113_4).f1))) (fun _ hk => hk.2) (.int .i64 (wrap64 (((rd_T30 t285 x113_4).f0) + (wrap64 ((x7_2.length : Int) - 1)))))) (fun _ hk => ⟨hk.1.1, hk.1.2⟩)⟩, ⟨by (with_reducible repeat (first | refine blk_drewN ?_ _ | refine blk_drew ?_ | refine blk_alloc ?_ _)); refine blk_put (cs := #[.int .i64 ((rd_T30 t285 x113_4).f0), .int .i64 ((rd_T30 t285 x113_4).f1)]) ?_ 0 _ rfl; (with_reducible repeat (first | refine blk_drewN ?_ _ | refine blk_drew ?_ | refine blk_alloc ?_ _)); refine blk_put (cs := #[.int .i64 ((rd_T30 t285 x113_4).f0), .int .i64 0]) ?_ 1 _ rfl; (with_reducible repeat (first | refine blk_drewN ?_ _ | refine blk_drew ?_ | refine blk_alloc ?_ _)); refine blk_put (cs := #[.int .i64 0, .int .i64 0]) ?_ 0 _ rfl; (with_reducible repeat (first | refine blk_drewN ?_ _ | refine blk_drew ?_ | refine blk_alloc ?_ _)); exact BK317.out⟩, ⟨by repeat (first | (with_reducible first | exact HB.out | apply below_alloc | apply pw_below_drewN | apply below_drew1 | refine below_set ?_ GE317.out) | exact HB.out)⟩⟩
                               ·rw [if_neg c69] at H
                                have c69b0 : decide (x11_21 < x113_4) = false := decide_eq_false c69
                                clear c69
                                (first | rw [c69b0] | (simp only [i64_w, i32_w]; rw [c69b0]) | rw [c69b1] | skip)
                                have H' := Aside0.mk H
                                clear H
                                go_wp2
                                go_meet
                                case rel => exact ⟨_, ((rd_T30 t285 x113_4).f0), H', ⟨by have := HJ5.out; have := HK2.out; have := HJ21.out; have := HK4.out; first | omega | exact Nat.le_refl _⟩, ⟨by (with_reducible repeat (first | apply Kd.R_alloc | apply Kd.R_drewN | apply Kd.R_drew)); exact Kd.R_mono (Kd.R_far (p := ⟨gb317, 1, none⟩) (Kd.R_far (p := ⟨gb317, 0, none⟩) (Kd.R_types HO_7.out BK317.out (by decide)) (fun _ hk => hk.2) (.int .i64 ((rd_T30 t285 x113_4).f0))) (fun _ hk => hk.2) (.int .i64 ((rd_T30 t285 x113_4).f1))) (fun _ hk => trivial)⟩, ⟨by (with_reducible repeat (first | apply Kd.R_alloc | apply Kd.R_drewN | apply Kd.R_drew)); exact Kd.R_mono (Kd.R_far (p := ⟨gb317, 1, none⟩) (Kd.R_far (p := ⟨gb317, 0, none⟩) (Kd.R_mono HO_10.out (fun k_ hk => (⟨hk, hk.2⟩ : _ ∧ k_ ≠ gb317))) (fun _ hk => hk.2) (.int .i64 ((rd_T30 t285 x113_4).f0))) (fun _ hk => hk.2) (.int .i64 ((rd_T30 t285 x113_4).f1))) (fun _ hk => ⟨hk.1.1, hk.1.2⟩)⟩, ⟨by (with_reducible repeat (first | apply Kd.R_alloc | apply Kd.R_drewN | apply Kd.R_drew)); exact Kd.R_mono (Kd.R_far (p := ⟨gb317, 1, none⟩) (Kd.R_far (p := ⟨gb317, 0, none⟩) (Kd.R_mono HO_13.out (fun k_ hk => (⟨hk, hk.2⟩ : _ ∧ k_ ≠ gb317))) (fun _ hk => hk.2) (.int .i64 ((rd_T30 t285 x113_4).f0))) (fun _ hk => hk.2) (.int .i64 ((rd_T30 t285 x113_4).f1))) (fun _ hk => ⟨hk.1.1, hk.1.2⟩)⟩, ⟨by (with_reducible repeat (first | refine blk_drewN ?_ _ | refine blk_drew ?_ | refine blk_alloc ?_ _)); refine blk_put (cs := #[.int .i64 ((rd_T30 t285 x113_4).f0), .int .i64 0]) ?_ 1 _ rfl; (with_reducible repeat (first | refine blk_drewN ?_ _ | refine blk_drew ?_ | refine blk_alloc ?_ _)); refine blk_put (cs := #[.int .i64 0, .int .i64 0]) ?_ 0 _ rfl; (with_reducible repeat (first | refine blk_drewN ?_ _ | refine blk_drew ?_ | refine blk_alloc ?_ _)); exact BK317.out⟩, ⟨by repeat (first | (with_reducible first | exact HB.out | apply below_alloc | apply pw_below_drewN | apply below_drew1 | refine below_set ?_ GE317.out) | exact HB.out)⟩⟩
                              case rest =>
                               clear HC66
                               try clear c1
                               try clear p2
                               try clear q2
                               try clear hx2
                               try clear c3
                               try clear p3
                               try clear q3
                               try clear hx3
                               try clear c4
                               try clear c5
                               try clear q5
                               try clear c6
                               try clear p6
                               try clear q6
                               try clear c10
                               try clear c17
                               try clear p27
                               try clear q27
                               try clear hx27
                               try clear p28
                               try clear q28
                               try clear hx28
                               try clear c30
                               try clear c30b0
                               try clear c30b1
                               try clear p30
                               try clear q30
                               try clear hx30
                               try clear p31
                               try clear q31
                               try clear hx31
                               try clear c32
                               try clear c32b0
                               try clear c32b1
                               try clear c33
                               try clear c33b0
                               try clear c33b1
                               try clear c34
                               try clear c35
                               try clear c37
                               try clear c37b0
                               try clear c37b1
                               try clear c38
                               try clear c38b0
                               try clear c38b1
                               try clear c39
                               try clear c41
                               try clear c41b0
                               try clear c42
                               try clear c42b0
                               try clear c43
                               try clear c43b0
                               try clear c43b1
                               try clear c44
                               try clear c44b0
                               try clear c44b1
                               try clear c45
                               try clear c45b0
                               try clear c45b1
                               try clear c47
                               try clear c48
                               try clear c48b0
                               try clear c48b1
                               try clear c48b2
                               try clear q51
                               try clear c52
                               try clear q52
                               try clear c60
                               try clear q60
                               try clear c63
                               try clear c63b0
                               try clear c64
                               try clear c64b0
                               try clear p64
                               try clear c65
                               try clear c65b0
                               try clear c69
                               try clear c69b0
                               try clear c69b1
                               try clear hcz68_0
                               try clear hcz68_1
                               try clear hcz70_0
                               try clear hcz70_1
                               try clear hfz68_0
                               try clear hfz68_1
                               try clear hfz70_0
                               try clear hfz70_1
                               try clear hx278_0
                               try clear hx278_1
                               try clear hx278_2
                               try clear hx280_0
                               try clear hx288_0
                               try clear hx288_1
                               try clear hx309_0
                               try clear hx309_1
                               try clear hx310_0
                               try clear hx310_1
                               try clear hx316_0
                               try clear hx316_1
                               try clear p2
                               try clear p27
                               try clear p278
                               try clear p28
                               try clear p280
                               try clear p288
                               try clear p3
                               try clear p30
                               try clear p309
                               try clear p31
                               try clear p310
                               try clear p316
                               try clear p6
                               try clear q052
                               try clear q060
                               try clear q2
                               try clear q27
                               try clear q278
                               try clear q28
                               try clear q280
                               try clear q288
                               try clear q3
                               try clear q30
                               try clear q309
                               try clear q31
                               try clear q310
                               try clear q316
                               try clear q5
                               try clear q51
                               try clear q52
                               try clear q6
                               try clear q60
                               obtain ⟨kq, x318000_65, HA, HJ65, HO_7, HO_10, HO_13, BK317, HB⟩ := hcut
                               cases kq with
                               | zero => exact absurd HA.out (by simp [scholiastlaw04_ChunkStays.j5])
                               | succ kj65 =>
                                have H := HA.out
                                clear HA
                                simp only [scholiastlaw04_ChunkStays.j5] at H
                                by_cases c71 : x113_4 ≥ x11_21
                                ·rw [if_pos c71] at H
                                 have c71b0 : decide (x11_21 ≤ x113_4) = true := decide_eq_true c71
                                 clear c71
                                 by_cases c72 : 0 ≤ x113_4
                                 ·rw [if_pos c72] at H
                                  have c72b0 : decide (0 ≤ x113_4) = true := decide_eq_true c72
                                  clear c72
                                  by_cases c73 : x113_4 < (t306.length : Int)
                                  ·rw [if_pos c73] at H
                                   have c73b0 : decide (x113_4 < (t306.length : Int)) = true := decide_eq_true c73
                                   clear c73
                                   by_cases c74 : (!(((rd_T30 t306 x113_4).f0) == x318000_65) || (!(((rd_T30 t306 x113_4).f1) == (wrap64 (((rd_T30 t285 x113_4).f1) + (wrap64 ((x7_2.length : Int) - 1))))))) = true
                                   ·rw [if_pos c74] at H
                                    have c74b0 : (!(((rd_T30 t306 x113_4).f0) == x318000_65) || (!(((rd_T30 t306 x113_4).f1) == (wrap64 (((rd_T30 t285 x113_4).f1) + (wrap64 ((x7_2.length : Int) - 1))))))) = true := c74
                                    clear c74
                                    obtain rfl := Option.some.inj H
                                    have hcz75_0 : wc.cell? ⟨gb317, 0, none⟩ = some (.int .i64 x318000_65) := (blk_cell BK317.out 0).trans rfl
                                    have hcz75_1 : wc.cell? ⟨gb317, 1, none⟩ = some (.int .i64 ((rd_T30 t285 x113_4).f1)) := (blk_cell BK317.out 1).trans rfl
                                    have hfz75_0 := blk_frozen BK317.out 0
                                    have hfz75_1 := blk_frozen BK317.out 1
                                    try go_wp2
                                    have n0_ : Aside0 (Kd.R k25 25 (wc.setCell ⟨gb317, 1, none⟩ (.int .i64 (wrap64 (((rd_T30 t285 x113_4).f1) + (wrap64 ((x7_2.length : Int) - 1)))))) w.heap.size (fun _ => True) (.slice Ao55 x7_2.length co55) x7_2) := ⟨by (with_reducible repeat (first | apply Kd.R_alloc | apply Kd.R_drewN | apply Kd.R_drew)); exact Kd.R_mono (Kd.R_far (p := ⟨gb317, 1, none⟩) (Kd.R_types HO_7.out BK317.out (by decide)) (fun _ hk => hk.2) (.int .i64 (wrap64 (((rd_T30 t285 x113_4).f1) + (wrap64 ((x7_2.length : Int) - 1)))))) (fun _ hk => trivial)⟩
                                    have n1_ : Aside0 (Kd.R k30 30 (wc.setCell ⟨gb317, 1, none⟩ (.int .i64 (wrap64 (((rd_T30 t285 x113_4).f1) + (wrap64 ((x7_2.length : Int) - 1)))))) w.heap.size (fun k_ => some k_ ≠ (.slice Ao62 t306.length co62 : Value).ownBlock ∧ k_ ≠ gb317) (.slice (some ad309) t285.length co49) t285) := ⟨by (with_reducible repeat (first | apply Kd.R_alloc | apply Kd.R_drewN | apply Kd.R_drew)); exact Kd.R_mono (Kd.R_far (p := ⟨gb317, 1, none⟩) (Kd.R_mono HO_10.out (fun k_ hk => (⟨hk, hk.2⟩ : _ ∧ k_ ≠ gb317))) (fun _ hk => hk.2) (.int .i64 (wrap64 (((rd_T30 t285 x113_4).f1) + (wrap64 ((x7_2.length : Int) - 1)))))) (fun _ hk => ⟨hk.1.1, hk.1.2⟩)⟩
                                    have n2_ : Aside0 (Kd.R k30 30 (wc.setCell ⟨gb317, 1, none⟩ (.int .i64 (wrap64 (((rd_T30 t285 x113_4).f1) + (wrap64 ((x7_2.length : Int) - 1)))))) w.heap.size (fun k_ => some k_ ≠ (.slice (some ad309) t285.length co49 : Value).ownBlock ∧ k_ ≠ gb317) (.slice Ao62 t306.length co62) t306) := ⟨by (with_reducible repeat (first | apply Kd.R_alloc | apply Kd.R_drewN | apply Kd.R_drew)); exact Kd.R_mono (Kd.R_far (p := ⟨gb317, 1, none⟩) (Kd.R_mono HO_13.out (fun k_ hk => (⟨hk, hk.2⟩ : _ ∧ k_ ≠ gb317))) (fun _ hk => hk.2) (.int .i64 (wrap64 (((rd_T30 t285 x113_4).f1) + (wrap64 ((x7_2.length : Int) - 1)))))) (fun _ hk => ⟨hk.1.1, hk.1.2⟩)⟩
                                    have n3_ : Aside0 ((wc.setCell ⟨gb317, 1, none⟩ (.int .i64 (wrap64 (((rd_T30 t285 x113_4).f1) + (wrap64 ((x7_2.length : Int) - 1)))))).heap[gb317]? = some (.cells #[.int .i64 x318000_65, .int .i64 (wrap64 (((rd_T30 t285 x113_4).f1) + (wrap64 ((x7_2.length : Int) - 1))))] 30 (0, 0))) := ⟨by (with_reducible repeat (first | refine blk_drewN ?_ _ | refine blk_drew ?_ | refine blk_alloc ?_ _)); refine blk_put (cs := #[.int .i64 x318000_65, .int .i64 ((rd_T30 t285 x113_4).f1)]) ?_ 1 _ rfl; (with_reducible repeat (first | refine blk_drewN ?_ _ | refine blk_drew ?_ | refine blk_alloc ?_ _)); exact BK317.out⟩
                                    have n4_ : Aside0 (Below w.heap.size w (wc.setCell ⟨gb317, 1, none⟩ (.int .i64 (wrap64 (((rd_T30 t285 x113_4).f1) + (wrap64 ((x7_2.length : Int) - 1))))))) := ⟨by repeat (first | (with_reducible first | exact HB.out | apply below_alloc | apply pw_below_drewN | apply below_drew1 | refine below_set ?_ GE317.out) | exact HB.out)⟩
                                    (try clear HO_7)
                                    (try clear HO_10)
                                    (try clear HO_13)
                                    (try clear BK317)
                                    (try clear HB)
                                    generalize (wc.setCell ⟨gb317, 1, none⟩ (.int .i64 (wrap64 (((rd_T30 t285 x113_4).f1) + (wrap64 ((x7_2.length : Int) - 1)))))) = w76 at n0_ n1_ n2_ n3_ n4_ ⊢
                                    have HO_7 := n0_
                                    have HO_10 := n1_
                                    have HO_13 := n2_
                                    have BK317 := n3_
                                    have HB := n4_
                                    clear n0_ n1_ n2_ n3_ n4_
                                    have n0_ := Aside0.mk (Kd.R_drew HO_7.out)
                                    have n1_ := Aside0.mk (Kd.R_drew HO_10.out)
                                    have n2_ := Aside0.mk (Kd.R_drew HO_13.out)
                                    have n3_ := Aside0.mk (blk_drew BK317.out)
                                    have n4_ := Aside0.mk (below_drew1 HB.out)
                                    clear HO_7
                                    clear HO_10
                                    clear HO_13
                                    clear BK317
                                    clear HB
                                    have HO_7 := n0_
                                    have HO_10 := n1_
                                    have HO_13 := n2_
                                    have BK317 := n3_
                                    have HB := n4_
                                    clear n0_ n1_ n2_ n3_ n4_
                                    have p318 : 0 ≤ (x113_4 : Int) := of_decide_eq_true (by first | (with_reducible assumption) | assumption)
                                    have q318 : x113_4 < (t306.length : Int) := of_decide_eq_true (by first | (with_reducible assumption) | assumption)
                                    obtain ⟨ad318, e318, hx318_0, hx318_1⟩ := at_T30 (Kd.R_reads' HO_13.out).2.2 x113_4 p318 q318
                                    cases e318
                                    replace p318 := eq_true p318
                                    replace q318 := eq_true q318
                                    refine start_ (n := 6) (S := fun w' => w'.cell? ⟨gb317, 0, none⟩ = some (.int .i64 x318000_65) ∧ w'.cell? ⟨gb317, 1, none⟩ = some (.int .i64 (wrap64 (((rd_T30 t285 x113_4).f1) + (wrap64 ((x7_2.length : Int) - 1))))) ∧ w'.cell? (ad318.add ((x113_4).toNat * 2)) = some (.int .i64 ((rd_T30 t306 x113_4).f0)) ∧ w'.cell? ⟨(ad318.add ((x113_4).toNat * 2)).block, (ad318.add ((x113_4).toNat * 2)).off + 1, none⟩ = some (.int .i64 ((rd_T30 t306 x113_4).f1))) (ds := []) #[false, false, false, false, false, false] (by kernel_rfl) rfl rfl ⟨(blk_cell BK317.out 0).trans rfl, (blk_cell BK317.out 1).trans rfl, hx318_0, hx318_1⟩ (fun hHeld => ?_)
                                    generalize w76.drew = w77 at HO_7 HO_10 HO_13 BK317 HB hx318_0 hx318_1 hHeld ⊢
                                    refine pure_ (i := 0) (N := some 140) (v := ?_) (a' := ?_) #[true, false, false, false, false, false] rfl rfl (by kernel_rfl) (fun _ _ _ h => h) (Or.inl ⟨by rfl, ?_⟩) ?_ ?_
                                    rotate_left
                                    ·intro w'
                                     go_simp
                                     with_reducible rfl
                                    rotate_left
                                    ·simp only [Act.put, List.setIfInBounds_toArray, List.set_cons_zero, List.set_cons_succ, i64_w, i32_w]
                                     rfl
                                    refine pure_ (i := 1) (N := some 141) (v := ?_) (a' := ?_) #[true, true, false, false, false, false] rfl rfl (by kernel_rfl) (fun _ _ _ h => h) (Or.inl ⟨by rfl, ?_⟩) ?_ ?_
                                    rotate_left
                                    ·intro w'
                                     go_simp
                                     with_reducible rfl
                                    rotate_left
                                    ·simp only [Act.put, List.setIfInBounds_toArray, List.set_cons_zero, List.set_cons_succ, i64_w, i32_w]
                                     rfl
                                    refine pure_ (i := 2) (N := some 142) (v := ?_) (a' := ?_) #[true, true, true, false, false, false] rfl rfl (by kernel_rfl) (fun _ _ _ h => h) (Or.inl ⟨by rfl, ?_⟩) ?_ ?_
                                    rotate_left
                                    ·intro w'
                                     go_simp
                                     with_reducible rfl
                                    rotate_left
                                    ·simp only [Act.put, List.setIfInBounds_toArray, List.set_cons_zero, List.set_cons_succ, i64_w, i32_w]
                                     rfl
                                    refine take_ (i := 3) (N := some 143) (v := ?_) (a' := ?_) #[true, true, true, true, false, false] rfl rfl (by kernel_rfl) (fun _ _ _ h => h) (Or.inl ⟨by rfl, ?_⟩) hHeld ?_ ?_
                                    rotate_left
                                    ·rintro w' ⟨s0, s1, s2, s3⟩
                                     (try simp only [Int.toNat_natCast] at s0 s1 s2 s3)
                                     go_simp
                                     with_reducible rfl
                                    rotate_left
                                    ·simp only [Act.put, List.setIfInBounds_toArray, List.set_cons_zero, List.set_cons_succ, i64_w, i32_w]
                                     rfl
                                    refine take_ (i := 4) (N := some 144) (v := ?_) (a' := ?_) #[true, true, true, true, true, false] rfl rfl (by kernel_rfl) (fun _ _ _ h => h) (Or.inl ⟨by rfl, ?_⟩) hHeld ?_ ?_
                                    rotate_left
                                    ·rintro w' ⟨s0, s1, s2, s3⟩
                                     (try simp only [Int.toNat_natCast] at s0 s1 s2 s3)
                                     go_simp
                                     with_reducible rfl
                                    rotate_left
                                    ·simp only [Act.put, List.setIfInBounds_toArray, List.set_cons_zero, List.set_cons_succ, i64_w, i32_w]
                                     rfl
                                    refine pure_ (i := 5) (N := some 145) (v := ?_) (a' := ?_) #[true, true, true, true, true, true] rfl rfl (by kernel_rfl) (fun _ _ _ h => h) (Or.inl ⟨by rfl, ?_⟩) ?_ ?_
                                    rotate_left
                                    ·intro w'
                                     go_simp
                                     with_reducible rfl
                                    rotate_left
                                    ·simp only [Act.put, List.setIfInBounds_toArray, List.set_cons_zero, List.set_cons_succ, i64_w, i32_w]
                                     rfl
                                    refine done_ (by kernel_rfl) ?_
                                    try go_wp2
                                    go_ret
                                    exact ⟨by first | rfl | (simp [errW_none, errW_some] <;> rfl) | (simp only [← hji36]; first | rfl | (simp [errW_none, errW_some] <;> rfl)) | (simp [*, errW_none, errW_some] <;> rfl), by repeat (first | (with_reducible first | exact HB.out | apply below_alloc | apply pw_below_drewN | apply below_drew1 | refine below_set ?_ GE317.out) | exact HB.out)⟩
                                   ·rw [if_neg c74] at H
                                    have c74b0 : (!(((rd_T30 t306 x113_4).f0) == x318000_65) || (!(((rd_T30 t306 x113_4).f1) == (wrap64 (((rd_T30 t285 x113_4).f1) + (wrap64 ((x7_2.length : Int) - 1))))))) = false := by simpa using c74
                                    clear c74
                                    have H' := Aside0.mk H
                                    clear H
                                    have hcz78_0 : wc.cell? ⟨gb317, 0, none⟩ = some (.int .i64 x318000_65) := (blk_cell BK317.out 0).trans rfl
                                    have hcz78_1 : wc.cell? ⟨gb317, 1, none⟩ = some (.int .i64 ((rd_T30 t285 x113_4).f1)) := (blk_cell BK317.out 1).trans rfl
                                    have hfz78_0 := blk_frozen BK317.out 0
                                    have hfz78_1 := blk_frozen BK317.out 1
                                    try go_wp2
                                    have n0_ : Aside0 (Kd.R k25 25 (wc.setCell ⟨gb317, 1, none⟩ (.int .i64 (wrap64 (((rd_T30 t285 x113_4).f1) + (wrap64 ((x7_2.length : Int) - 1)))))) w.heap.size (fun _ => True) (.slice Ao55 x7_2.length co55) x7_2) := ⟨by (with_reducible repeat (first | apply Kd.R_alloc | apply Kd.R_drewN | apply Kd.R_drew)); exact Kd.R_mono (Kd.R_far (p := ⟨gb317, 1, none⟩) (Kd.R_types HO_7.out BK317.out (by decide)) (fun _ hk => hk.2) (.int .i64 (wrap64 (((rd_T30 t285 x113_4).f1) + (wrap64 ((x7_2.length : Int) - 1)))))) (fun _ hk => trivial)⟩
                                    have n1_ : Aside0 (Kd.R k30 30 (wc.setCell ⟨gb317, 1, none⟩ (.int .i64 (wrap64 (((rd_T30 t285 x113_4).f1) + (wrap64 ((x7_2.length : Int) - 1)))))) w.heap.size (fun k_ => some k_ ≠ (.slice Ao62 t306.length co62 : Value).ownBlock ∧ k_ ≠ gb317) (.slice (some ad309) t285.length co49) t285) := ⟨by (with_reducible repeat (first | apply Kd.R_alloc | apply Kd.R_drewN | apply Kd.R_drew)); exact Kd.R_mono (Kd.R_far (p := ⟨gb317, 1, none⟩) (Kd.R_mono HO_10.out (fun k_ hk => (⟨hk, hk.2⟩ : _ ∧ k_ ≠ gb317))) (fun _ hk => hk.2) (.int .i64 (wrap64 (((rd_T30 t285 x113_4).f1) + (wrap64 ((x7_2.length : Int) - 1)))))) (fun _ hk => ⟨hk.1.1, hk.1.2⟩)⟩
                                    have n2_ : Aside0 (Kd.R k30 30 (wc.setCell ⟨gb317, 1, none⟩ (.int .i64 (wrap64 (((rd_T30 t285 x113_4).f1) + (wrap64 ((x7_2.length : Int) - 1)))))) w.heap.size (fun k_ => some k_ ≠ (.slice (some ad309) t285.length co49 : Value).ownBlock ∧ k_ ≠ gb317) (.slice Ao62 t306.length co62) t306) := ⟨by (with_reducible repeat (first | apply Kd.R_alloc | apply Kd.R_drewN | apply Kd.R_drew)); exact Kd.R_mono (Kd.R_far (p := ⟨gb317, 1, none⟩) (Kd.R_mono HO_13.out (fun k_ hk => (⟨hk, hk.2⟩ : _ ∧ k_ ≠ gb317))) (fun _ hk => hk.2) (.int .i64 (wrap64 (((rd_T30 t285 x113_4).f1) + (wrap64 ((x7_2.length : Int) - 1)))))) (fun _ hk => ⟨hk.1.1, hk.1.2⟩)⟩
                                    have n3_ : Aside0 ((wc.setCell ⟨gb317, 1, none⟩ (.int .i64 (wrap64 (((rd_T30 t285 x113_4).f1) + (wrap64 ((x7_2.length : Int) - 1)))))).heap[gb317]? = some (.cells #[.int .i64 x318000_65, .int .i64 (wrap64 (((rd_T30 t285 x113_4).f1) + (wrap64 ((x7_2.length : Int) - 1))))] 30 (0, 0))) := ⟨by (with_reducible repeat (first | refine blk_drewN ?_ _ | refine blk_drew ?_ | refine blk_alloc ?_ _)); refine blk_put (cs := #[.int .i64 x318000_65, .int .i64 ((rd_T30 t285 x113_4).f1)]) ?_ 1 _ rfl; (with_reducible repeat (first | refine blk_drewN ?_ _ | refine blk_drew ?_ | refine blk_alloc ?_ _)); exact BK317.out⟩
                                    have n4_ : Aside0 (Below w.heap.size w (wc.setCell ⟨gb317, 1, none⟩ (.int .i64 (wrap64 (((rd_T30 t285 x113_4).f1) + (wrap64 ((x7_2.length : Int) - 1))))))) := ⟨by repeat (first | (with_reducible first | exact HB.out | apply below_alloc | apply pw_below_drewN | apply below_drew1 | refine below_set ?_ GE317.out) | exact HB.out)⟩
                                    (try clear HO_7)
                                    (try clear HO_10)
                                    (try clear HO_13)
                                    (try clear BK317)
                                    (try clear HB)
                                    generalize (wc.setCell ⟨gb317, 1, none⟩ (.int .i64 (wrap64 (((rd_T30 t285 x113_4).f1) + (wrap64 ((x7_2.length : Int) - 1)))))) = w79 at n0_ n1_ n2_ n3_ n4_ ⊢
                                    have HO_7 := n0_
                                    have HO_10 := n1_
                                    have HO_13 := n2_
                                    have BK317 := n3_
                                    have HB := n4_
                                    clear n0_ n1_ n2_ n3_ n4_
                                    have n0_ := Aside0.mk (Kd.R_drew HO_7.out)
                                    have n1_ := Aside0.mk (Kd.R_drew HO_10.out)
                                    have n2_ := Aside0.mk (Kd.R_drew HO_13.out)
                                    have n3_ := Aside0.mk (blk_drew BK317.out)
                                    have n4_ := Aside0.mk (below_drew1 HB.out)
                                    clear HO_7
                                    clear HO_10
                                    clear HO_13
                                    clear BK317
                                    clear HB
                                    have HO_7 := n0_
                                    have HO_10 := n1_
                                    have HO_13 := n2_
                                    have BK317 := n3_
                                    have HB := n4_
                                    clear n0_ n1_ n2_ n3_ n4_
                                    have p318 : 0 ≤ (x113_4 : Int) := of_decide_eq_true (by first | (with_reducible assumption) | assumption)
                                    have q318 : x113_4 < (t306.length : Int) := of_decide_eq_true (by first | (with_reducible assumption) | assumption)
                                    obtain ⟨ad318, e318, hx318_0, hx318_1⟩ := at_T30 (Kd.R_reads' HO_13.out).2.2 x113_4 p318 q318
                                    cases e318
                                    replace p318 := eq_true p318
                                    replace q318 := eq_true q318
                                    refine start_ (n := 6) (S := fun w' => w'.cell? ⟨gb317, 0, none⟩ = some (.int .i64 x318000_65) ∧ w'.cell? ⟨gb317, 1, none⟩ = some (.int .i64 (wrap64 (((rd_T30 t285 x113_4).f1) + (wrap64 ((x7_2.length : Int) - 1))))) ∧ w'.cell? (ad318.add ((x113_4).toNat * 2)) = some (.int .i64 ((rd_T30 t306 x113_4).f0)) ∧ w'.cell? ⟨(ad318.add ((x113_4).toNat * 2)).block, (ad318.add ((x113_4).toNat * 2)).off + 1, none⟩ = some (.int .i64 ((rd_T30 t306 x113_4).f1))) (ds := []) #[false, false, false, false, false, false] (by kernel_rfl) rfl rfl ⟨(blk_cell BK317.out 0).trans rfl, (blk_cell BK317.out 1).trans rfl, hx318_0, hx318_1⟩ (fun hHeld => ?_)
                                    generalize w79.drew = w80 at HO_7 HO_10 HO_13 BK317 HB hx318_0 hx318_1 hHeld ⊢
                                    refine pure_ (i := 0) (N := some 140) (v := ?_) (a' := ?_) #[true, false, false, false, false, false] rfl rfl (by kernel_rfl) (fun _ _ _ h => h) (Or.inl ⟨by rfl, ?_⟩) ?_ ?_
                                    rotate_left
                                    ·intro w'
                                     go_simp
                                     with_reducible rfl
                                    rotate_left
                                    ·simp only [Act.put, List.setIfInBounds_toArray, List.set_cons_zero, List.set_cons_succ, i64_w, i32_w]
                                     rfl
                                    refine pure_ (i := 1) (N := some 141) (v := ?_) (a' := ?_) #[true, true, false, false, false, false] rfl rfl (by kernel_rfl) (fun _ _ _ h => h) (Or.inl ⟨by rfl, ?_⟩) ?_ ?_
                                    rotate_left
                                    ·intro w'
                                     go_simp
                                     with_reducible rfl
                                    rotate_left
                                    ·simp only [Act.put, List.setIfInBounds_toArray, List.set_cons_zero, List.set_cons_succ, i64_w, i32_w]
                                     rfl
                                    refine pure_ (i := 2) (N := some 142) (v := ?_) (a' := ?_) #[true, true, true, false, false, false] rfl rfl (by kernel_rfl) (fun _ _ _ h => h) (Or.inl ⟨by rfl, ?_⟩) ?_ ?_
                                    rotate_left
                                    ·intro w'
                                     go_simp
                                     with_reducible rfl
                                    rotate_left
                                    ·simp only [Act.put, List.setIfInBounds_toArray, List.set_cons_zero, List.set_cons_succ, i64_w, i32_w]
                                     rfl
                                    refine take_ (i := 3) (N := some 143) (v := ?_) (a' := ?_) #[true, true, true, true, false, false] rfl rfl (by kernel_rfl) (fun _ _ _ h => h) (Or.inl ⟨by rfl, ?_⟩) hHeld ?_ ?_
                                    rotate_left
                                    ·rintro w' ⟨s0, s1, s2, s3⟩
                                     (try simp only [Int.toNat_natCast] at s0 s1 s2 s3)
                                     go_simp
                                     with_reducible rfl
                                    rotate_left
                                    ·simp only [Act.put, List.setIfInBounds_toArray, List.set_cons_zero, List.set_cons_succ, i64_w, i32_w]
                                     rfl
                                    refine take_ (i := 4) (N := some 144) (v := ?_) (a' := ?_) #[true, true, true, true, true, false] rfl rfl (by kernel_rfl) (fun _ _ _ h => h) (Or.inl ⟨by rfl, ?_⟩) hHeld ?_ ?_
                                    rotate_left
                                    ·rintro w' ⟨s0, s1, s2, s3⟩
                                     (try simp only [Int.toNat_natCast] at s0 s1 s2 s3)
                                     go_simp
                                     with_reducible rfl
                                    rotate_left
                                    ·simp only [Act.put, List.setIfInBounds_toArray, List.set_cons_zero, List.set_cons_succ, i64_w, i32_w]
                                     rfl
                                    refine pure_ (i := 5) (N := some 145) (v := ?_) (a' := ?_) #[true, true, true, true, true, true] rfl rfl (by kernel_rfl) (fun _ _ _ h => h) (Or.inl ⟨by rfl, ?_⟩) ?_ ?_
                                    rotate_left
                                    ·intro w'
                                     go_simp
                                     with_reducible rfl
                                    rotate_left
                                    ·simp only [Act.put, List.setIfInBounds_toArray, List.set_cons_zero, List.set_cons_succ, i64_w, i32_w]
                                     rfl
                                    refine done_ (by kernel_rfl) ?_
                                    try go_wp2
                                    go_roundg kj65
                                    case measure => have := HJ5.out; have := HK2.out; have := HJ21.out; have := HK4.out; have := HJ65.out; omega
                                    case rel => exact ⟨(wrap64 (x113_4 + 1)), (by first | rfl | (simp; done) | (simp [*]; done)), H', ⟨by have := HJ5.out; have := HK2.out; have := HJ21.out; have := HK4.out; have := HJ65.out; omega⟩, ⟨by (with_reducible repeat (first | apply Kd.R_alloc | apply Kd.R_drewN | apply Kd.R_drew)); exact HO_7.out⟩, ⟨by (with_reducible repeat (first | apply Kd.R_alloc | apply Kd.R_drewN | apply Kd.R_drew)); exact Kd.R_mono HO_10.out (fun _ hk => hk.1)⟩, ⟨by (with_reducible repeat (first | apply Kd.R_alloc | apply Kd.R_drewN | apply Kd.R_drew)); exact Kd.R_mono HO_13.out (fun _ hk => hk.1)⟩, ⟨by repeat (first | (with_reducible first | exact HB.out | apply below_alloc | apply pw_below_drewN | apply below_drew1 | refine below_set ?_ GE317.out) | exact HB.out)⟩⟩
                                  ·rw [if_neg c73] at H
                                   exact absurd H (by simp)
                                 ·rw [if_neg c72] at H
                                  exact absurd H (by simp)
                                ·rw [if_neg c71] at H
                                 have c71b0 : decide (x11_21 ≤ x113_4) = false := decide_eq_false c71
                                 clear c71
                                 by_cases c81 : 0 ≤ x113_4
                                 ·rw [if_pos c81] at H
                                  have c81b0 : decide (0 ≤ x113_4) = true := decide_eq_true c81
                                  clear c81
                                  by_cases c82 : x113_4 < (t306.length : Int)
                                  ·rw [if_pos c82] at H
                                   have c82b0 : decide (x113_4 < (t306.length : Int)) = true := decide_eq_true c82
                                   clear c82
                                   by_cases c83 : (!(((rd_T30 t306 x113_4).f0) == x318000_65) || (!(((rd_T30 t306 x113_4).f1) == ((rd_T30 t285 x113_4).f1)))) = true
                                   ·rw [if_pos c83] at H
                                    have c83b0 : (!(((rd_T30 t306 x113_4).f0) == x318000_65) || (!(((rd_T30 t306 x113_4).f1) == ((rd_T30 t285 x113_4).f1)))) = true := c83
                                    clear c83
                                    obtain rfl := Option.some.inj H
                                    try go_wp2
                                    have n0_ := Aside0.mk (Kd.R_drew HO_7.out)
                                    have n1_ := Aside0.mk (Kd.R_drew HO_10.out)
                                    have n2_ := Aside0.mk (Kd.R_drew HO_13.out)
                                    have n3_ := Aside0.mk (blk_drew BK317.out)
                                    have n4_ := Aside0.mk (below_drew1 HB.out)
                                    clear HO_7
                                    clear HO_10
                                    clear HO_13
                                    clear BK317
                                    clear HB
                                    have HO_7 := n0_
                                    have HO_10 := n1_
                                    have HO_13 := n2_
                                    have BK317 := n3_
                                    have HB := n4_
                                    clear n0_ n1_ n2_ n3_ n4_
                                    have p319 : 0 ≤ (x113_4 : Int) := of_decide_eq_true (by first | (with_reducible assumption) | assumption)
                                    have q319 : x113_4 < (t306.length : Int) := of_decide_eq_true (by first | (with_reducible assumption) | assumption)
                                    obtain ⟨ad319, e319, hx319_0, hx319_1⟩ := at_T30 (Kd.R_reads' HO_13.out).2.2 x113_4 p319 q319
                                    cases e319
                                    replace p319 := eq_true p319
                                    replace q319 := eq_true q319
                                    refine start_ (n := 6) (S := fun w' => w'.cell? ⟨gb317, 0, none⟩ = some (.int .i64 x318000_65) ∧ w'.cell? ⟨gb317, 1, none⟩ = some (.int .i64 ((rd_T30 t285 x113_4).f1)) ∧ w'.cell? (ad319.add ((x113_4).toNat * 2)) = some (.int .i64 ((rd_T30 t306 x113_4).f0)) ∧ w'.cell? ⟨(ad319.add ((x113_4).toNat * 2)).block, (ad319.add ((x113_4).toNat * 2)).off + 1, none⟩ = some (.int .i64 ((rd_T30 t306 x113_4).f1))) (ds := []) #[false, false, false, false, false, false] (by kernel_rfl) rfl rfl ⟨(blk_cell BK317.out 0).trans rfl, (blk_cell BK317.out 1).trans rfl, hx319_0, hx319_1⟩ (fun hHeld => ?_)
                                    generalize wc.drew = w84 at HO_7 HO_10 HO_13 BK317 HB hx319_0 hx319_1 hHeld ⊢
                                    refine pure_ (i := 0) (N := some 140) (v := ?_) (a' := ?_) #[true, false, false, false, false, false] rfl rfl (by kernel_rfl) (fun _ _ _ h => h) (Or.inl ⟨by rfl, ?_⟩) ?_ ?_
                                    rotate_left
                                    ·intro w'
                                     go_simp
                                     with_reducible rfl
                                    rotate_left
                                    ·simp only [Act.put, List.setIfInBounds_toArray, List.set_cons_zero, List.set_cons_succ, i64_w, i32_w]
                                     rfl
                                    refine pure_ (i := 1) (N := some 141) (v := ?_) (a' := ?_) #[true, true, false, false, false, false] rfl rfl (by kernel_rfl) (fun _ _ _ h => h) (Or.inl ⟨by rfl, ?_⟩) ?_ ?_
                                    rotate_left
                                    ·intro w'
                                     go_simp
                                     with_reducible rfl
                                    rotate_left
                                    ·simp only [Act.put, List.setIfInBounds_toArray, List.set_cons_zero, List.set_cons_succ, i64_w, i32_w]
                                     rfl
                                    refine pure_ (i := 2) (N := some 142) (v := ?_) (a' := ?_) #[true, true, true, false, false, false] rfl rfl (by kernel_rfl) (fun _ _ _ h => h) (Or.inl ⟨by rfl, ?_⟩) ?_ ?_
                                    rotate_left
                                    ·intro w'
                                     go_simp
                                     with_reducible rfl
                                    rotate_left
                                    ·simp only [Act.put, List.setIfInBounds_toArray, List.set_cons_zero, List.set_cons_succ, i64_w, i32_w]
                                     rfl
                                    refine take_ (i := 3) (N := some 143) (v := ?_) (a' := ?_) #[true, true, true, true, false, false] rfl rfl (by kernel_rfl) (fun _ _ _ h => h) (Or.inl ⟨by rfl, ?_⟩) hHeld ?_ ?_
                                    rotate_left
                                    ·rintro w' ⟨s0, s1, s2, s3⟩
                                     (try simp only [Int.toNat_natCast] at s0 s1 s2 s3)
                                     go_simp
                                     with_reducible rfl
                                    rotate_left
                                    ·simp only [Act.put, List.setIfInBounds_toArray, List.set_cons_zero, List.set_cons_succ, i64_w, i32_w]
                                     rfl
                                    refine take_ (i := 4) (N := some 144) (v := ?_) (a' := ?_) #[true, true, true, true, true, false] rfl rfl (by kernel_rfl) (fun _ _ _ h => h) (Or.inl ⟨by rfl, ?_⟩) hHeld ?_ ?_
                                    rotate_left
                                    ·rintro w' ⟨s0, s1, s2, s3⟩
                                     (try simp only [Int.toNat_natCast] at s0 s1 s2 s3)
                                     go_simp
                                     with_reducible rfl
                                    rotate_left
                                    ·simp only [Act.put, List.setIfInBounds_toArray, List.set_cons_zero, List.set_cons_succ, i64_w, i32_w]
                                     rfl
                                    refine pure_ (i := 5) (N := some 145) (v := ?_) (a' := ?_) #[true, true, true, true, true, true] rfl rfl (by kernel_rfl) (fun _ _ _ h => h) (Or.inl ⟨by rfl, ?_⟩) ?_ ?_
                                    rotate_left
                                    ·intro w'
                                     go_simp
                                     with_reducible rfl
                                    rotate_left
                                    ·simp only [Act.put, List.setIfInBounds_toArray, List.set_cons_zero, List.set_cons_succ, i64_w, i32_w]
                                     rfl
                                    refine done_ (by kernel_rfl) ?_
                                    try go_wp2
                                    go_ret
                                    exact ⟨by first | rfl | (simp [errW_none, errW_some] <;> rfl) | (simp only [← hji36]; first | rfl | (simp [errW_none, errW_some] <;> rfl)) | (simp [*, errW_none, errW_some] <;> rfl), by repeat (first | (with_reducible first | exact HB.out | apply below_alloc | apply pw_below_drewN | apply below_drew1 | refine below_set ?_ GE317.out) | exact HB.out)⟩
                                   ·rw [if_neg c83] at H
                                    have c83b0 : (!(((rd_T30 t306 x113_4).f0) == x318000_65) || (!(((rd_T30 t306 x113_4).f1) == ((rd_T30 t285 x113_4).f1)))) = false := by simpa using c83
                                    clear c83
                                    have H' := Aside0.mk H
                                    clear H
                                    try go_wp2
                                    have n0_ := Aside0.mk (Kd.R_drew HO_7.out)
                                    have n1_ := Aside0.mk (Kd.R_drew HO_10.out)
                                    have n2_ := Aside0.mk (Kd.R_drew HO_13.out)
                                    have n3_ := Aside0.mk (blk_drew BK317.out)
                                    have n4_ := Aside0.mk (below_drew1 HB.out)
                                    clear HO_7
                                    clear HO_10
                                    clear HO_13
                                    clear BK317
                                    clear HB
                                    have HO_7 := n0_
                                    have HO_10 := n1_
                                    have HO_13 := n2_
                                    have BK317 := n3_
                                    have HB := n4_
                                    clear n0_ n1_ n2_ n3_ n4_
                                    have p319 : 0 ≤ (x113_4 : Int) := of_decide_eq_true (by first | (with_reducible assumption) | assumption)
                                    have q319 : x113_4 < (t306.length : Int) := of_decide_eq_true (by first | (with_reducible assumption) | assumption)
                                    obtain ⟨ad319, e319, hx319_0, hx319_1⟩ := at_T30 (Kd.R_reads' HO_13.out).2.2 x113_4 p319 q319
                                    cases e319
                                    replace p319 := eq_true p319
                                    replace q319 := eq_true q319
                                    refine start_ (n := 6) (S := fun w' => w'.cell? ⟨gb317, 0, none⟩ = some (.int .i64 x318000_65) ∧ w'.cell? ⟨gb317, 1, none⟩ = some (.int .i64 ((rd_T30 t285 x113_4).f1)) ∧ w'.cell? (ad319.add ((x113_4).toNat * 2)) = some (.int .i64 ((rd_T30 t306 x113_4).f0)) ∧ w'.cell? ⟨(ad319.add ((x113_4).toNat * 2)).block, (ad319.add ((x113_4).toNat * 2)).off + 1, none⟩ = some (.int .i64 ((rd_T30 t306 x113_4).f1))) (ds := []) #[false, false, false, false, false, false] (by kernel_rfl) rfl rfl ⟨(blk_cell BK317.out 0).trans rfl, (blk_cell BK317.out 1).trans rfl, hx319_0, hx319_1⟩ (fun hHeld => ?_)
                                    generalize wc.drew = w85 at HO_7 HO_10 HO_13 BK317 HB hx319_0 hx319_1 hHeld ⊢
                                    refine pure_ (i := 0) (N := some 140) (v := ?_) (a' := ?_) #[true, false, false, false, false, false] rfl rfl (by kernel_rfl) (fun _ _ _ h => h) (Or.inl ⟨by rfl, ?_⟩) ?_ ?_
                                    rotate_left
                                    ·intro w'
                                     go_simp
                                     with_reducible rfl
                                    rotate_left
                                    ·simp only [Act.put, List.setIfInBounds_toArray, List.set_cons_zero, List.set_cons_succ, i64_w, i32_w]
                                     rfl
                                    refine pure_ (i := 1) (N := some 141) (v := ?_) (a' := ?_) #[true, true, false, false, false, false] rfl rfl (by kernel_rfl) (fun _ _ _ h => h) (Or.inl ⟨by rfl, ?_⟩) ?_ ?_
                                    rotate_left
                                    ·intro w'
                                     go_simp
                                     with_reducible rfl
                                    rotate_left
                                    ·simp only [Act.put, List.setIfInBounds_toArray, List.set_cons_zero, List.set_cons_succ, i64_w, i32_w]
                                     rfl
                                    refine pure_ (i := 2) (N := some 142) (v := ?_) (a' := ?_) #[true, true, true, false, false, false] rfl rfl (by kernel_rfl) (fun _ _ _ h => h) (Or.inl ⟨by rfl, ?_⟩) ?_ ?_
                                    rotate_left
                                    ·intro w'
                                     go_simp
                                     with_reducible rfl
                                    rotate_left
                                    ·simp only [Act.put, List.setIfInBounds_toArray, List.set_cons_zero, List.set_cons_succ, i64_w, i32_w]
                                     rfl
                                    refine take_ (i := 3) (N := some 143) (v := ?_) (a' := ?_) #[true, true, true, true, false, false] rfl rfl (by kernel_rfl) (fun _ _ _ h => h) (Or.inl ⟨by rfl, ?_⟩) hHeld ?_ ?_
                                    rotate_left
                                    ·rintro w' ⟨s0, s1, s2, s3⟩
                                     (try simp only [Int.toNat_natCast] at s0 s1 s2 s3)
                                     go_simp
                                     with_reducible rfl
                                    rotate_left
                                    ·simp only [Act.put, List.setIfInBounds_toArray, List.set_cons_zero, List.set_cons_succ, i64_w, i32_w]
                                     rfl
                                    refine take_ (i := 4) (N := some 144) (v := ?_) (a' := ?_) #[true, true, true, true, true, false] rfl rfl (by kernel_rfl) (fun _ _ _ h => h) (Or.inl ⟨by rfl, ?_⟩) hHeld ?_ ?_
                                    rotate_left
                                    ·rintro w' ⟨s0, s1, s2, s3⟩
                                     (try simp only [Int.toNat_natCast] at s0 s1 s2 s3)
                                     go_simp
                                     with_reducible rfl
                                    rotate_left
                                    ·simp only [Act.put, List.setIfInBounds_toArray, List.set_cons_zero, List.set_cons_succ, i64_w, i32_w]
                                     rfl
                                    refine pure_ (i := 5) (N := some 145) (v := ?_) (a' := ?_) #[true, true, true, true, true, true] rfl rfl (by kernel_rfl) (fun _ _ _ h => h) (Or.inl ⟨by rfl, ?_⟩) ?_ ?_
                                    rotate_left
                                    ·intro w'
                                     go_simp
                                     with_reducible rfl
                                    rotate_left
                                    ·simp only [Act.put, List.setIfInBounds_toArray, List.set_cons_zero, List.set_cons_succ, i64_w, i32_w]
                                     rfl
                                    refine done_ (by kernel_rfl) ?_
                                    try go_wp2
                                    go_roundg kj65
                                    case measure => have := HJ5.out; have := HK2.out; have := HJ21.out; have := HK4.out; have := HJ65.out; omega
                                    case rel => exact ⟨(wrap64 (x113_4 + 1)), (by first | rfl | (simp; done) | (simp [*]; done)), H', ⟨by have := HJ5.out; have := HK2.out; have := HJ21.out; have := HK4.out; have := HJ65.out; omega⟩, ⟨by (with_reducible repeat (first | apply Kd.R_alloc | apply Kd.R_drewN | apply Kd.R_drew)); exact HO_7.out⟩, ⟨by (with_reducible repeat (first | apply Kd.R_alloc | apply Kd.R_drewN | apply Kd.R_drew)); exact Kd.R_mono HO_10.out (fun _ hk => hk.1)⟩, ⟨by (with_reducible repeat (first | apply Kd.R_alloc | apply Kd.R_drewN | apply Kd.R_drew)); exact Kd.R_mono HO_13.out (fun _ hk => hk.1)⟩, ⟨by repeat (first | (with_reducible first | exact HB.out | apply below_alloc | apply pw_below_drewN | apply below_drew1 | refine below_set ?_ GE317.out) | exact HB.out)⟩⟩
                                  ·rw [if_neg c82] at H
                                   exact absurd H (by simp)
                                 ·rw [if_neg c81] at H
                                  exact absurd H (by simp)
                             ·rw [if_neg c65] at H
                              exact absurd H (by simp)
                            ·rw [if_neg c64] at H
                             exact absurd H (by simp)
                           ·rw [if_neg c63] at H
                            have c63b0 : decide (x113_4 < (t285.length : Int)) = false := decide_eq_false c63
                            clear c63
                            obtain rfl := Option.some.inj H
                            go_wp2
                            go_ret
                            exact ⟨by first | rfl | (simp [errW_none, errW_some] <;> rfl) | (simp only [← hji36]; first | rfl | (simp [errW_none, errW_some] <;> rfl)) | (simp [*, errW_none, errW_some] <;> rfl), by repeat (first | (with_reducible first | exact HB.out | apply below_alloc | apply pw_below_drewN | apply below_drew1) | exact HB.out)⟩
                        ·rw [if_neg c48] at H
                         have c48b0 : ((t306.length : Int) == (t285.length : Int)) = false := beq_eq_false_iff_ne.mpr c48
                         have c48b1 : ((t306.length : Int) != (t285.length : Int)) = true := bne_iff_ne.mpr c48
                         have c48b2 : (t306.length == t285.length) = false := by first | simpa using c48 | (simp at c48 ⊢; omega)
                         obtain rfl := Option.some.inj H
                         obtain ⟨Ao86, co86, eo86⟩ := Kd.R_slice HO_10.out
                         subst eo86
                         try go_wp2
                         have n0_ := Aside0.mk (Kd.R_drew HO_7.out)
                         have n1_ := Aside0.mk (Kd.R_drew HO_10.out)
                         have n2_ := Aside0.mk (below_drew1 HB.out)
                         clear HO_7
                         clear HO_10
                         clear HB
                         have HO_7 := n0_
                         have HO_10 := n1_
                         have HB := n2_
                         clear n0_ n1_ n2_
                         have q88 : (a1 : Int) ≤ ((l0.length : Int) : Int) := of_decide_eq_true (by first | (with_reducible assumption) | assumption)
                         obtain ⟨i088, hi088, _, hsz88, _⟩ := info_parts info25
                         have hroom88 : l0.length ≤ c0 := HC0.out
                         have hC88 : Kd.C k25 _ A0 l0.length l0 := HR0.out
                         have hcut88 := cut_to (P := Try.prog) 22 25 .i64 Try.underlying22 hi088 A0 l0.length c0 a1 (of_decide_eq_true (by first | (with_reducible assumption) | assumption)) q88 hroom88
                         have hr88 := Kd.C_take (m := (a1 : Int).toNat) hC88 (by omega)
                         have hy88 : y289.length = (a1 : Int).toNat := (by rw [Ny289.out, List.length_take]; omega)
                         rw [← Ny289.out] at hr88
                         rw [← hy88] at hcut88
                         have HR292 := Aside0.mk hr88
                         have HC292 := Aside0.mk (show y289.length ≤ c0 from by omega)
                         clear hr88 hC88 hroom88 hi088 hsz88
                         have KY88 := Aside0.mk hy88
                         clear hy88
                         replace q88 := eq_true q88
                         have q89 : ((ji36) : Int) ≤ ((l0.length : Int) : Int) := of_decide_eq_true (by first | (with_reducible assumption) | assumption)
                         obtain ⟨i089, hi089, _, hsz89, _⟩ := info_parts info25
                         have hroom89 : l0.length ≤ c0 := HC0.out
                         have hC89 : Kd.C k25 _ A0 l0.length l0 := HR0.out
                         have q089 : (0 : Int) ≤ ((ji36) : Int) := of_decide_eq_true (by first | (with_reducible assumption) | assumption)
                         have hcut89 := cut_from (P := Try.prog) 22 25 .i64 Try.underlying22 hi089 3 hsz89 A0 l0.length c0 (ji36) q089 q89
                         have hr89 := Kd.C_drop (m := ((ji36) : Int).toNat) (c := c0) hC89 (by omega) hroom89
                         obtain ⟨A89, hA89⟩ : ∃ A1, A1 = (if c0 = ((ji36) : Int).toNat then A0 else (A0 : Option Addr).map (·.add (((ji36) : Int).toNat * 3))) := ⟨_, rfl⟩
                         obtain ⟨c89, hc89⟩ : ∃ c1, c1 = c0 - ((ji36) : Int).toNat := ⟨_, rfl⟩
                         have hy89 : y299.length = l0.length - ((ji36) : Int).toNat := (by rw [Ny299.out, List.length_drop] <;> omega)
                         rw [show (l0).drop ((ji36) : Int).toNat = y299 from Ny299.out.symm] at hr89
                         replace hr89 : Kd.C k25 _ A89 y299.length y299 := (by rw [hA89]; exact hr89)
                         rw [← hy89, ← hA89, ← hc89] at hcut89
                         have HR302 := Aside0.mk hr89
                         have HC302 := Aside0.mk (show y299.length ≤ c89 from by rw [hy89, hc89]; exact Nat.sub_le_sub_right hroom89 _)
                         clear hr89 hC89 hroom89 hi089 hsz89 hc89
                         have KY89 := Aside0.mk hy89
                         have KA89 := Aside0.mk hA89
                         clear hy89 hA89
                         replace q89 := eq_true q89
                         refine start_ (n := 12) (S := fun w' => True) (ds := []) #[false, false, false, false, false, false, false, false, false, false, false, false] (by kernel_rfl) rfl rfl trivial (fun hHeld => ?_); refine with_tabW scholiastlaw04_ChunkStays.tab19 scholiastlaw04_ChunkStays.bits19 (fun HT_ HW_ => ?_)
                         generalize wc.drew = w87 at HO_7 HO_10 HB HR292 HR302 hHeld ⊢
                         refine pure_ (i := 0) (N := some 69) (v := ?_) (a' := ?_) #[true, false, false, false, false, false, false, false, false, false, false, false] rfl rfl (any_of HT_.out (by kernel_rfl)) (fun _ _ _ h => h) (Or.inl ⟨by rfl, ?_⟩) ?_ ?_
                         rotate_left
                         ·intro w'
                          go_simp
                          with_reducible rfl
                         rotate_left
                         ·simp only [Act.put, List.setIfInBounds_toArray, List.set_cons_zero, List.set_cons_succ, i64_w, i32_w]
                          rfl
                         refine pure_ (i := 1) (N := some 70) (v := ?_) (a' := ?_) #[true, true, false, false, false, false, false, false, false, false, false, false] rfl rfl (any_of HT_.out (by kernel_rfl)) (fun _ _ _ h => h) (Or.inl ⟨by rfl, ?_⟩) ?_ ?_
                         rotate_left
                         ·intro w'
                          go_simp
                          with_reducible rfl
                         rotate_left
                         ·simp only [Act.put, List.setIfInBounds_toArray, List.set_cons_zero, List.set_cons_succ, i64_w, i32_w]
                          rfl
                         refine pure_ (i := 2) (N := some 71) (v := ?_) (a' := ?_) #[true, true, true, false, false, false, false, false, false, false, false, false] rfl rfl (any_of HT_.out (by kernel_rfl)) (fun _ _ _ h => h) (Or.inl ⟨by rfl, ?_⟩) ?_ ?_
                         rotate_left
                         ·intro w'
                          go_simp
                          with_reducible rfl
                         rotate_left
                         ·simp only [Act.put, List.setIfInBounds_toArray, List.set_cons_zero, List.set_cons_succ, i64_w, i32_w]
                          rfl
                         refine pure_ (i := 4) (N := some 73) (v := ?_) (a' := ?_) #[true, true, true, false, true, false, false, false, false, false, false, false] rfl rfl (any_of HT_.out (by kernel_rfl)) (fun _ _ _ h => h) (Or.inl ⟨by rfl, ?_⟩) ?_ ?_
                         rotate_left
                         ·intro w'
                          go_simp
                          with_reducible rfl
                         rotate_left
                         ·simp only [Act.put, List.setIfInBounds_toArray, List.set_cons_zero, List.set_cons_succ, i64_w, i32_w]
                          rfl
                         refine pure_ (i := 6) (N := some 75) (v := ?_) (a' := ?_) #[true, true, true, false, true, false, true, false, false, false, false, false] rfl rfl (any_of HT_.out (by kernel_rfl)) (fun _ _ _ h => h) (Or.inl ⟨by rfl, ?_⟩) ?_ ?_
                         rotate_left
                         ·intro w'
                          go_simp
                          with_reducible rfl
                         rotate_left
                         ·simp only [Act.put, List.setIfInBounds_toArray, List.set_cons_zero, List.set_cons_succ, i64_w, i32_w]
                          rfl
                         refine pure_ (i := 7) (N := some 76) (v := ?_) (a' := ?_) #[true, true, true, false, true, false, true, true, false, false, false, false] rfl rfl (any_of HT_.out (by kernel_rfl)) (fun _ _ _ h => h) (Or.inl ⟨by rfl, ?_⟩) ?_ ?_
                         rotate_left
                         ·intro w'
                          go_simp
                          with_reducible rfl
                         rotate_left
                         ·simp only [Act.put, List.setIfInBounds_toArray, List.set_cons_zero, List.set_cons_succ, i64_w, i32_w]
                          rfl
                         refine pure_ (i := 8) (N := some 77) (v := ?_) (a' := ?_) #[true, true, true, false, true, false, true, true, true, false, false, false] rfl rfl (any_of HT_.out (by kernel_rfl)) (fun _ _ _ h => h) (Or.inl ⟨by rfl, ?_⟩) ?_ ?_
                         rotate_left
                         ·intro w'
                          go_simp
                          with_reducible rfl
                         rotate_left
                         ·simp only [Act.put, List.setIfInBounds_toArray, List.set_cons_zero, List.set_cons_succ, i64_w, i32_w]
                          rfl
                         refine pure_ (i := 9) (N := some 78) (v := ?_) (a' := ?_) #[true, true, true, false, true, false, true, true, true, true, false, false] rfl rfl (any_of HT_.out (by kernel_rfl)) (fun _ _ _ h => h) (Or.inl ⟨by rfl, ?_⟩) ?_ ?_
                         rotate_left
                         ·intro w'
                          go_simp
                          with_reducible rfl
                         rotate_left
                         ·simp only [Act.put, List.setIfInBounds_toArray, List.set_cons_zero, List.set_cons_succ, i64_w, i32_w]
                          rfl
                         refine one_ (i := 3) (N := some 72) #[true, true, true, true, true, false, true, true, true, true, false, false] rfl rfl (one_of HT_.out (by kernel_rfl)) (by decide) (fun K hK => ?_)
                         refine Kd.R_append_rows_step k25 (w0 := w) w.heap.size rfl (.const (.slice none 0 0)) (.tmp 71) 22 25 (.agg #[(.int .i64 0), (.int .i64 0), (.int .i64 0)]) 24 rfl Try.underlying22 info25 rfl (by decide) (by omega) (.slice none 0 0) ([] : List (S25)) y289 _ _ _ (fun k_ => some k_ ≠ (u7 : Value).ownBlock) (fun _ => False) rfl rfl ?aO ?aR (fun _ _ h => h) (fun _ h => h.elim) ?aF ?aB ?aS ?aL ?_
                         (case aR => repeat (first | exact (Kd.C_below HR292.out HB.out) | (with_reducible refine Kd.C_alloc ?_ _) | (with_reducible refine Kd.C_drewN ?_ _) | (with_reducible refine Kd.C_drew ?_)))
                         (case aB => exact (by repeat (first | (with_reducible first | exact HB.out | apply below_alloc | apply pw_below_drewN | apply below_drew1) | exact HB.out)))
                         (case aF => exact (fun k_ hk => Kd.fresh' (Kd.R_lt (by (with_reducible repeat (first | apply Kd.R_alloc | apply Kd.R_drewN | apply Kd.R_drew)); exact HO_7.out)) k_ hk))
                         (case aO => exact ((Kd.R_nil _ _ _ _ (fun k_ => some k_ ≠ (u7 : Value).ownBlock))))
                         (case aS => exact (below_size (by repeat (first | (with_reducible first | exact HB.out | apply below_alloc | apply pw_below_drewN | apply below_drew1) | exact HB.out))))
                         (case aL => have := LMc34.out; omega)
                         intro v294 w90 ho hb hg hat
                         rw [← Ny293.out] at ho
                         have n0_ := Aside0.mk (Kd.R_after (Kd.R_apart_nil (by (with_reducible repeat (first | apply Kd.R_alloc | apply Kd.R_drewN | apply Kd.R_drew)); exact HO_7.out)) hg hat)
                         have n1_ := Aside0.mk (Kd.R_grown (by (with_reducible repeat (first | apply Kd.R_alloc | apply Kd.R_drewN | apply Kd.R_drew)); exact HO_10.out) hg (fun _ _ => by simp [Value.ownBlock]))
                         have n2_ := Aside0.mk (hb)
                         have n3_ := Aside0.mk (ho)
                         clear HO_7
                         clear HO_10
                         clear HB
                         have HO_7 := n0_
                         have HO_10 := n1_
                         have HB := n2_
                         have HO295 := n3_
                         clear n0_ n1_ n2_ n3_
                         clear ho hb hg hat
                         obtain ⟨Ao92, co92, eo92⟩ := Kd.R_slice HO_7.out
                         (first | subst eo92 | (injection eo92 with f1_ f2_ f3_; have f4_ := f1_.symm; have f5_ := f3_.symm; clear f1_ f2_ f3_; subst f4_; subst f5_))
                         refine hK.out _ _ trivial (fun hHeld => ?_)
                         clear hK K
                         refine norm_ (a' := ?_) ?_ ?_
                         rotate_left
                         ·show Act.put _ (some 72) _ = _
                          simp only [Act.put, List.setIfInBounds_toArray, List.set_cons_zero, List.set_cons_succ, i64_w, i32_w]
                          rfl
                         refine one_ (i := 5) (N := some 74) #[true, true, true, true, true, true, true, true, true, true, false, false] rfl rfl (one_of HT_.out (by kernel_rfl)) (by decide) (fun K hK => ?_)
                         refine Kd.R_append_rows_step k25 (w0 := w) w.heap.size (by rfl) (.tmp 72) (.tmp 73) 22 25 (.agg #[(.int .i64 0), (.int .i64 0), (.int .i64 0)]) 24 rfl Try.underlying22 info25 rfl (by decide) (by omega) v294 y293 x7_2 _ _ _ (fun k_ => some k_ ≠ (.slice Ao92 x7_2.length co92 : Value).ownBlock) (fun _ => False) rfl rfl ?aO ?aR (fun _ _ h => h) (fun _ h => h.elim) ?aF ?aB ?aS ?aL ?_
                         (case aR => repeat (first | exact (Kd.R_reads' HO_7.out).2.2 | (with_reducible refine Kd.C_alloc ?_ _) | (with_reducible refine Kd.C_drewN ?_ _) | (with_reducible refine Kd.C_drew ?_)))
                         (case aB => exact (by repeat (first | (with_reducible first | exact HB.out | apply below_alloc | apply pw_below_drewN | apply below_drew1) | exact HB.out)))
                         (case aF => exact (fun k_ hk => Kd.fresh' (Kd.R_lt (by (with_reducible repeat (first | apply Kd.R_alloc | apply Kd.R_drewN | apply Kd.R_drew)); exact HO_7.out)) k_ hk))
                         (case aO => exact (by (with_reducible repeat (first | apply Kd.R_alloc | apply Kd.R_drewN | apply Kd.R_drew)); exact HO295.out))
                         (case aS => exact (below_size (by repeat (first | (with_reducible first | exact HB.out | apply below_alloc | apply pw_below_drewN | apply below_drew1) | exact HB.out))))
                         (case aL => have := LMc35.out; omega)
                         intro v297 w91 ho hb hg hat
                         rw [← Ny296.out] at ho
                         have n0_ := Aside0.mk (Kd.R_after (ok := (fun _ => True)) (by (with_reducible repeat (first | apply Kd.R_alloc | apply Kd.R_drewN | apply Kd.R_drew)); exact HO_7.out) hg hat)
                         have n1_ := Aside0.mk (Kd.R_over' (by (with_reducible repeat (first | apply Kd.R_alloc | apply Kd.R_drewN | apply Kd.R_drew)); exact HO_10.out) (Kd.R_typed (by (with_reducible repeat (first | apply Kd.R_alloc | apply Kd.R_drewN | apply Kd.R_drew)); exact HO295.out)) (by decide) hg)
                         have n2_ := Aside0.mk (hb)
                         have n3_ := Aside0.mk (ho)
                         clear HO_7
                         clear HO_10
                         clear HB
                         clear HO295
                         have HO_7 := n0_
                         have HO_10 := n1_
                         have HB := n2_
                         have HO298 := n3_
                         clear n0_ n1_ n2_ n3_
                         clear ho hb hg hat
                         refine hK.out _ _ trivial (fun hHeld => ?_)
                         clear hK K
                         refine norm_ (a' := ?_) ?_ ?_
                         rotate_left
                         ·show Act.put _ (some 74) _ = _
                          simp only [Act.put, List.setIfInBounds_toArray, List.set_cons_zero, List.set_cons_succ, i64_w, i32_w]
                          rfl
                         refine one_ (i := 10) (N := some 79) #[true, true, true, true, true, true, true, true, true, true, true, false] rfl rfl (one_of HT_.out (by kernel_rfl)) (by decide) (fun K hK => ?_)
                         refine Kd.R_append_rows_step k25 (w0 := w) w.heap.size (by rfl) (.tmp 74) (.tmp 78) 22 25 (.agg #[(.int .i64 0), (.int .i64 0), (.int .i64 0)]) 24 rfl Try.underlying22 info25 rfl (by decide) (by omega) v297 y296 y299 _ _ _ (fun k_ => some k_ ≠ (.slice Ao92 x7_2.length co92 : Value).ownBlock) (fun _ => False) rfl rfl ?aO ?aR (fun _ _ h => h) (fun _ h => h.elim) ?aF ?aB ?aS ?aL ?_
                         (case aR => repeat (first | exact (Kd.C_below HR302.out HB.out) | (with_reducible refine Kd.C_alloc ?_ _) | (with_reducible refine Kd.C_drewN ?_ _) | (with_reducible refine Kd.C_drew ?_)))
                         (case aB => exact (by repeat (first | (with_reducible first | exact HB.out | apply below_alloc | apply pw_below_drewN | apply below_drew1) | exact HB.out)))
                         (case aF => exact (fun k_ hk => Kd.fresh' (Kd.R_lt (by (with_reducible repeat (first | apply Kd.R_alloc | apply Kd.R_drewN | apply Kd.R_drew)); exact HO_7.out)) k_ hk))
                         (case aO => exact (by (with_reducible repeat (first | apply Kd.R_alloc | apply Kd.R_drewN | apply Kd.R_drew)); exact HO298.out))
                         (case aS => exact (below_size (by repeat (first | (with_reducible first | exact HB.out | apply below_alloc | apply pw_below_drewN | apply below_drew1) | exact HB.out))))
                         (case aL => have := LMc39.out; omega)
                         intro v304 w93 ho hb hg hat
                         rw [← Ny303.out] at ho
                         have n0_ := Aside0.mk (Kd.R_after (ok := (fun _ => True)) (by (with_reducible repeat (first | apply Kd.R_alloc | apply Kd.R_drewN | apply Kd.R_drew)); exact HO_7.out) hg hat)
                         have n1_ := Aside0.mk (Kd.R_over' (by (with_reducible repeat (first | apply Kd.R_alloc | apply Kd.R_drewN | apply Kd.R_drew)); exact HO_10.out) (Kd.R_typed (by (with_reducible repeat (first | apply Kd.R_alloc | apply Kd.R_drewN | apply Kd.R_drew)); exact HO298.out)) (by decide) hg)
                         have n2_ := Aside0.mk (hb)
                         have n3_ := Aside0.mk (ho)
                         clear HO_7
                         clear HO_10
                         clear HB
                         clear HO298
                         have HO_7 := n0_
                         have HO_10 := n1_
                         have HB := n2_
                         have HO305 := n3_
                         clear n0_ n1_ n2_ n3_
                         clear ho hb hg hat
                         refine hK.out _ _ trivial (fun hHeld => ?_)
                         clear hK K
                         refine norm_ (a' := ?_) ?_ ?_
                         rotate_left
                         ·show Act.put _ (some 79) _ = _
                          simp only [Act.put, List.setIfInBounds_toArray, List.set_cons_zero, List.set_cons_succ, i64_w, i32_w]
                          rfl
                         refine pure_ (i := 11) (N := some 12) (v := ?_) (a' := ?_) #[true, true, true, true, true, true, true, true, true, true, true, true] rfl rfl (any_of HT_.out (by kernel_rfl)) (fun _ _ _ h => h) (Or.inl ⟨by rfl, ?_⟩) ?_ ?_
                         rotate_left
                         ·intro w'
                          go_simp
                          with_reducible rfl
                         rotate_left
                         ·simp only [Act.put, List.setIfInBounds_toArray, List.set_cons_zero, List.set_cons_succ, i64_w, i32_w]
                          rfl
                         refine done_ (done_of HT_.out (by kernel_rfl)) ?_
                         obtain ⟨Ao94, co94, eo94⟩ := Kd.R_slice HO305.out
                         subst eo94
                         try go_wp2_with (first | ((with_reducible refine gate_callee (f := 10) rfl ?_); refine goesL_ (some 81) rfl rfl Try.func10 (by kernel_rfl) rfl #[.slice Ao94 y303.length co94] rfl (by (try simp only [List.map_toArray, List.map_cons, List.map_nil]); first | done | rfl | (simp only [List.length_drop, List.length_take]; rfl)) ?_; (with_reducible refine (chunk_Cut.calls _ _ y303 t306 _ ?side1 ?side2 A40.out).mono ?_); (case side1 => repeat (first | exact (Kd.R_reads' HO305.out).2.2 | (with_reducible refine Kd.C_alloc ?_ _) | (with_reducible refine Kd.C_drewN ?_ _) | (with_reducible refine Kd.C_drew ?_))); (case side2 => exact (Kd.R_reads' HO305.out).2.1); rintro e w95 ⟨v307, rfl, ho0, hb⟩; refine ⟨_, rfl, ?_⟩; have n0_ := Aside0.mk (Kd.R_below (by (with_reducible repeat (first | apply Kd.R_alloc | apply Kd.R_drewN | apply Kd.R_drew)); exact HO_7.out) hb); have n1_ := Aside0.mk (Kd.R_elder' (by (with_reducible repeat (first | apply Kd.R_alloc | apply Kd.R_drewN | apply Kd.R_drew)); exact HO_10.out) (Kd.R_base ho0) hb); have n2_ := Aside0.mk (Kd.R_below (by (with_reducible repeat (first | apply Kd.R_alloc | apply Kd.R_drewN | apply Kd.R_drew)); exact HO305.out) hb); have n3_ := Aside0.mk (Kd.R_lower (Kd.R_new' ho0 (Kd.R_lt (by (with_reducible repeat (first | apply Kd.R_alloc | apply Kd.R_drewN | apply Kd.R_drew)); exact HO_10.out))) (below_size (by repeat (first | (with_reducible first | exact HB.out | apply below_alloc | apply pw_below_drewN | apply below_drew1) | exact HB.out)))); have n4_ := Aside0.mk (below_step (by repeat (first | (with_reducible first | exact HB.out | apply below_alloc | apply pw_below_drewN | apply below_drew1) | exact HB.out)) hb); clear HO_7; clear HO_10; clear HO305; clear HB; have HO_7 := n0_; have HO_10 := n1_; have HO305 := n2_; have HO308 := n3_; have HB := n4_; clear n0_ n1_ n2_ n3_ n4_; (try clear hb); (try clear hb2); (try clear hk); (try clear hi); (try clear ho0)))
                         have n0_ := Aside0.mk (Kd.R_drew HO_7.out)
                         have n1_ := Aside0.mk (Kd.R_drew HO_10.out)
                         have n2_ := Aside0.mk (Kd.R_drew HO305.out)
                         have n3_ := Aside0.mk (Kd.R_drew HO308.out)
                         have n4_ := Aside0.mk (below_drew1 HB.out)
                         clear HO_7
                         clear HO_10
                         clear HO305
                         clear HO308
                         clear HB
                         have HO_7 := n0_
                         have HO_10 := n1_
                         have HO305 := n2_
                         have HO308 := n3_
                         have HB := n4_
                         clear n0_ n1_ n2_ n3_ n4_
                         have p309 : 0 ≤ (x11_21 : Int) := of_decide_eq_true (by first | (with_reducible assumption) | assumption)
                         have q309 : x11_21 < (t285.length : Int) := of_decide_eq_true (by first | (with_reducible assumption) | assumption)
                         obtain ⟨ad309, e309, hx309_0, hx309_1⟩ := at_T30 (Kd.R_reads' HO_10.out).2.2 x11_21 p309 q309
                         cases e309
                         replace p309 := eq_true p309
                         replace q309 := eq_true q309
                         have p310 : 0 ≤ (x11_21 : Int) := of_decide_eq_true (by first | (with_reducible assumption) | assumption)
                         have q310 : x11_21 < (t285.length : Int) := of_decide_eq_true (by first | (with_reducible assumption) | assumption)
                         obtain ⟨ad310, e310, hx310_0, hx310_1⟩ := at_T30 (Kd.R_reads' HO_10.out).2.2 x11_21 p310 q310
                         obtain rfl : ad309 = ad310 := (by injection e310)
                         replace p310 := eq_true p310
                         replace q310 := eq_true q310
                         have q97 : ((wrap64 ((wrap64 (((rd_T30 t285 x11_21).f1) + (x7_2.length : Int))) - 1)) : Int) ≤ ((y303.length : Int) : Int) := of_decide_eq_true (by first | (with_reducible assumption) | assumption)
                         obtain ⟨i097, hi097, _, hsz97, _⟩ := info_parts info25
                         have hroom97 : y303.length ≤ co94 := (Kd.R_reads' HO305.out).2.1
                         have hC97 : Kd.C k25 _ Ao94 y303.length y303 := (Kd.R_reads' HO305.out).2.2
                         have ql97 : (((rd_T30 t285 x11_21).f0) : Int) ≤ ((wrap64 ((wrap64 (((rd_T30 t285 x11_21).f1) + (x7_2.length : Int))) - 1)) : Int) := of_decide_eq_true (by first | (with_reducible assumption) | assumption)
                         have q097 : (0 : Int) ≤ (((rd_T30 t285 x11_21).f0) : Int) := of_decide_eq_true (by first | (with_reducible assumption) | assumption)
                         have hcut97 := cut_mid (P := Try.prog) 22 25 .i64 .i64 Try.underlying22 hi097 3 hsz97 Ao94 y303.length co94 ((rd_T30 t285 x11_21).f0) (wrap64 ((wrap64 (((rd_T30 t285 x11_21).f1) + (x7_2.length : Int))) - 1)) q097 ql97 q97 hroom97
                         have hr97 := Kd.C_mid (lo := (((rd_T30 t285 x11_21).f0) : Int).toNat) (hi := ((wrap64 ((wrap64 (((rd_T30 t285 x11_21).f1) + (x7_2.length : Int))) - 1)) : Int).toNat) (c := co94) hC97 (by omega) (by omega) hroom97
                         obtain ⟨A97, hA97⟩ : ∃ A1, A1 = (if co94 = (((rd_T30 t285 x11_21).f0) : Int).toNat then Ao94 else (Ao94 : Option Addr).map (·.add ((((rd_T30 t285 x11_21).f0) : Int).toNat * 3))) := ⟨_, rfl⟩
                         obtain ⟨c97, hc97⟩ : ∃ c1, c1 = co94 - (((rd_T30 t285 x11_21).f0) : Int).toNat := ⟨_, rfl⟩
                         have hy97 : y311.length = ((wrap64 ((wrap64 (((rd_T30 t285 x11_21).f1) + (x7_2.length : Int))) - 1)) : Int).toNat - (((rd_T30 t285 x11_21).f0) : Int).toNat := (by rw [Ny311.out, List.length_drop, List.length_take] <;> omega)
                         rw [show ((y303).take ((wrap64 ((wrap64 (((rd_T30 t285 x11_21).f1) + (x7_2.length : Int))) - 1)) : Int).toNat).drop (((rd_T30 t285 x11_21).f0) : Int).toNat = y311 from Ny311.out.symm] at hr97
                         replace hr97 : Kd.C k25 _ A97 y311.length y311 := (by rw [hA97]; exact hr97)
                         rw [← hy97, ← hA97, ← hc97] at hcut97
                         have HR314 := Aside0.mk hr97
                         have HC314 := Aside0.mk (show y311.length ≤ c97 from by rw [hy97, hc97]; exact Nat.sub_le_sub_right (Nat.le_trans (by omega) hroom97) _)
                         clear hr97 hC97 hroom97 hi097 hsz97 hc97
                         have KY97 := Aside0.mk hy97
                         have KA97 := Aside0.mk hA97
                         clear hy97 hA97
                         have KL97 := Aside0.mk (show ((wrap64 ((wrap64 (((rd_T30 t285 x11_21).f1) + (x7_2.length : Int))) - 1)) : Int).toNat ≤ y303.length from by omega)
                         have KM97 := Aside0.mk (show (((rd_T30 t285 x11_21).f0) : Int).toNat ≤ ((wrap64 ((wrap64 (((rd_T30 t285 x11_21).f1) + (x7_2.length : Int))) - 1)) : Int).toNat from by omega)
                         replace q97 := eq_true q97
                         refine start_ (n := 18) (S := fun w' => w'.cell? (ad309.add ((x11_21).toNat * 2)) = some (.int .i64 ((rd_T30 t285 x11_21).f0)) ∧ w'.cell? ⟨(ad309.add ((x11_21).toNat * 2)).block, (ad309.add ((x11_21).toNat * 2)).off + 1, none⟩ = some (.int .i64 ((rd_T30 t285 x11_21).f1)) ∧ w'.cell? (ad309.add ((x11_21).toNat * 2)) = some (.int .i64 ((rd_T30 t285 x11_21).f0)) ∧ w'.cell? ⟨(ad309.add ((x11_21).toNat * 2)).block, (ad309.add ((x11_21).toNat * 2)).off + 1, none⟩ = some (.int .i64 ((rd_T30 t285 x11_21).f1))) (ds := []) #[false, false, false, false, false, false, false, false, false, false, false, false, false, false, false, false, false, false] (by kernel_rfl) rfl rfl ⟨hx309_0, hx309_1, hx310_0, hx310_1⟩ (fun hHeld => ?_); refine with_tabW scholiastlaw04_ChunkStays.tab21 scholiastlaw04_ChunkStays.bits21 (fun HT_ HW_ => ?_)
                         generalize w95.drew = w96 at HO_7 HO_10 HO305 HO308 HB HR314 hx309_0 hx309_1 hx310_0 hx310_1 hHeld ⊢
                         refine pure_ (i := 0) (N := some 82) (v := ?_) (a' := ?_) #[true, false, false, false, false, false, false, false, false, false, false, false, false, false, false, false, false, false] rfl rfl (any_of HT_.out (by kernel_rfl)) (fun _ _ _ h => h) (Or.inl ⟨by rfl, ?_⟩) ?_ ?_
                         rotate_left
                         ·intro w'
                          go_simp
                          with_reducible rfl
                         rotate_left
                         ·simp only [Act.put, List.setIfInBounds_toArray, List.set_cons_zero, List.set_cons_succ, i64_w, i32_w]
                          rfl
                         refine pure_ (i := 1) (N := some 83) (v := ?_) (a' := ?_) #[true, true, false, false, false, false, false, false, false, false, false, false, false, false, false, false, false, false] rfl rfl (any_of HT_.out (by kernel_rfl)) (fun _ _ _ h => h) (Or.inl ⟨by rfl, ?_⟩) ?_ ?_
                         rotate_left
                         ·intro w'
                          go_simp
                          with_reducible rfl
                         rotate_left
                         ·simp only [Act.put, List.setIfInBounds_toArray, List.set_cons_zero, List.set_cons_succ, i64_w, i32_w]
                          rfl
                         refine pure_ (i := 2) (N := some 84) (v := ?_) (a' := ?_) #[true, true, true, false, false, false, false, false, false, false, false, false, false, false, false, false, false, false] rfl rfl (any_of HT_.out (by kernel_rfl)) (fun _ _ _ h => h) (Or.inl ⟨by rfl, ?_⟩) ?_ ?_
                         rotate_left
                         ·intro w'
                          go_simp
                          with_reducible rfl
                         rotate_left
                         ·simp only [Act.put, List.setIfInBounds_toArray, List.set_cons_zero, List.set_cons_succ, i64_w, i32_w]
                          rfl
                         refine pure_ (i := 3) (N := some 85) (v := ?_) (a' := ?_) #[true, true, true, true, false, false, false, false, false, false, false, false, false, false, false, false, false, false] rfl rfl (any_of HT_.out (by kernel_rfl)) (fun _ _ _ h => h) (Or.inl ⟨by rfl, ?_⟩) ?_ ?_
                         rotate_left
                         ·intro w'
                          go_simp
                          with_reducible rfl
                         rotate_left
                         ·simp only [Act.put, List.setIfInBounds_toArray, List.set_cons_zero, List.set_cons_succ, i64_w, i32_w]
                          rfl
                         refine pure_ (i := 4) (N := some 86) (v := ?_) (a' := ?_) #[true, true, true, true, true, false, false, false, false, false, false, false, false, false, false, false, false, false] rfl rfl (any_of HT_.out (by kernel_rfl)) (fun _ _ _ h => h) (Or.inl ⟨by rfl, ?_⟩) ?_ ?_
                         rotate_left
                         ·intro w'
                          go_simp
                          with_reducible rfl
                         rotate_left
                         ·simp only [Act.put, List.setIfInBounds_toArray, List.set_cons_zero, List.set_cons_succ, i64_w, i32_w]
                          rfl
                         refine pure_ (i := 6) (N := some 88) (v := ?_) (a' := ?_) #[true, true, true, true, true, false, true, false, false, false, false, false, false, false, false, false, false, false] rfl rfl (any_of HT_.out (by kernel_rfl)) (fun _ _ _ h => h) (Or.inl ⟨by rfl, ?_⟩) ?_ ?_
                         rotate_left
                         ·intro w'
                          go_simp
                          with_reducible rfl
                         rotate_left
                         ·simp only [Act.put, List.setIfInBounds_toArray, List.set_cons_zero, List.set_cons_succ, i64_w, i32_w]
                          rfl
                         refine pure_ (i := 7) (N := some 89) (v := ?_) (a' := ?_) #[true, true, true, true, true, false, true, true, false, false, false, false, false, false, false, false, false, false] rfl rfl (any_of HT_.out (by kernel_rfl)) (fun _ _ _ h => h) (Or.inl ⟨by rfl, ?_⟩) ?_ ?_
                         rotate_left
                         ·intro w'
                          go_simp
                          with_reducible rfl
                         rotate_left
                         ·simp only [Act.put, List.setIfInBounds_toArray, List.set_cons_zero, List.set_cons_succ, i64_w, i32_w]
                          rfl
                         refine pure_ (i := 8) (N := some 90) (v := ?_) (a' := ?_) #[true, true, true, true, true, false, true, true, true, false, false, false, false, false, false, false, false, false] rfl rfl (any_of HT_.out (by kernel_rfl)) (fun _ _ _ h => h) (Or.inl ⟨by rfl, ?_⟩) ?_ ?_
                         rotate_left
                         ·intro w'
                          go_simp
                          with_reducible rfl
                         rotate_left
                         ·simp only [Act.put, List.setIfInBounds_toArray, List.set_cons_zero, List.set_cons_succ, i64_w, i32_w]
                          rfl
                         refine pure_ (i := 9) (N := some 91) (v := ?_) (a' := ?_) #[true, true, true, true, true, false, true, true, true, true, false, false, false, false, false, false, false, false] rfl rfl (any_of HT_.out (by kernel_rfl)) (fun _ _ _ h => h) (Or.inl ⟨by rfl, ?_⟩) ?_ ?_
                         rotate_left
                         ·intro w'
                          go_simp
                          with_reducible rfl
                         rotate_left
                         ·simp only [Act.put, List.setIfInBounds_toArray, List.set_cons_zero, List.set_cons_succ, i64_w, i32_w]
                          rfl
                         refine pure_ (i := 11) (N := some 93) (v := ?_) (a' := ?_) #[true, true, true, true, true, false, true, true, true, true, false, true, false, false, false, false, false, false] rfl rfl (any_of HT_.out (by kernel_rfl)) (fun _ _ _ h => h) (Or.inl ⟨by rfl, ?_⟩) ?_ ?_
                         rotate_left
                         ·intro w'
                          go_simp
                          with_reducible rfl
                         rotate_left
                         ·simp only [Act.put, List.setIfInBounds_toArray, List.set_cons_zero, List.set_cons_succ, i64_w, i32_w]
                          rfl
                         refine pure_ (i := 12) (N := some 94) (v := ?_) (a' := ?_) #[true, true, true, true, true, false, true, true, true, true, false, true, true, false, false, false, false, false] rfl rfl (any_of HT_.out (by kernel_rfl)) (fun _ _ _ h => h) (Or.inl ⟨by rfl, ?_⟩) ?_ ?_
                         rotate_left
                         ·intro w'
                          go_simp
                          with_reducible rfl
                         rotate_left
                         ·simp only [Act.put, List.setIfInBounds_toArray, List.set_cons_zero, List.set_cons_succ, i64_w, i32_w]
                          rfl
                         refine take_ (i := 5) (N := some 87) (v := ?_) (a' := ?_) #[true, true, true, true, true, true, true, true, true, true, false, true, true, false, false, false, false, false] rfl rfl (take_ofW HT_.out HW_.out (by kernel_rfl)) (fun _ _ _ h => h) (Or.inl ⟨by rfl, ?_⟩) hHeld ?_ ?_
                         rotate_left
                         ·rintro w' ⟨s0, s1, s2, s3⟩
                          (try simp only [Int.toNat_natCast] at s0 s1 s2 s3)
                          go_simp
                          with_reducible rfl
                         rotate_left
                         ·simp only [Act.put, List.setIfInBounds_toArray, List.set_cons_zero, List.set_cons_succ, i64_w, i32_w]
                          rfl
                         refine take_ (i := 10) (N := some 92) (v := ?_) (a' := ?_) #[true, true, true, true, true, true, true, true, true, true, true, true, true, false, false, false, false, false] rfl rfl (take_ofW HT_.out HW_.out (by kernel_rfl)) (fun _ _ _ h => h) (Or.inl ⟨by rfl, ?_⟩) hHeld ?_ ?_
                         rotate_left
                         ·rintro w' ⟨s0, s1, s2, s3⟩
                          (try simp only [Int.toNat_natCast] at s0 s1 s2 s3)
                          go_simp
                          with_reducible rfl
                         rotate_left
                         ·simp only [Act.put, List.setIfInBounds_toArray, List.set_cons_zero, List.set_cons_succ, i64_w, i32_w]
                          rfl
                         refine pure_ (i := 13) (N := some 95) (v := ?_) (a' := ?_) #[true, true, true, true, true, true, true, true, true, true, true, true, true, true, false, false, false, false] rfl rfl (any_of HT_.out (by kernel_rfl)) (fun _ _ _ h => h) (Or.inl ⟨by rfl, ?_⟩) ?_ ?_
                         rotate_left
                         ·intro w'
                          go_simp
                          with_reducible rfl
                         rotate_left
                         ·simp only [Act.put, List.setIfInBounds_toArray, List.set_cons_zero, List.set_cons_succ, i64_w, i32_w]
                          rfl
                         refine pure_ (i := 14) (N := some 96) (v := ?_) (a' := ?_) #[true, true, true, true, true, true, true, true, true, true, true, true, true, true, true, false, false, false] rfl rfl (any_of HT_.out (by kernel_rfl)) (fun _ _ _ h => h) (Or.inl ⟨by rfl, ?_⟩) ?_ ?_
                         rotate_left
                         ·intro w'
                          go_simp
                          with_reducible rfl
                         rotate_left
                         ·simp only [Act.put, List.setIfInBounds_toArray, List.set_cons_zero, List.set_cons_succ, i64_w, i32_w]
                          rfl
                         refine pure_ (i := 15) (N := some 97) (v := ?_) (a' := ?_) #[true, true, true, true, true, true, true, true, true, true, true, true, true, true, true, true, false, false] rfl rfl (any_of HT_.out (by kernel_rfl)) (fun _ _ _ h => h) (Or.inl ⟨by rfl, ?_⟩) ?_ ?_
                         rotate_left
                         ·intro w'
                          go_simp
                          with_reducible rfl
                         rotate_left
                         ·simp only [Act.put, List.setIfInBounds_toArray, List.set_cons_zero, List.set_cons_succ, i64_w, i32_w]
                          rfl
                         refine one_ (i := 16) (N := some 98) #[true, true, true, true, true, true, true, true, true, true, true, true, true, true, true, true, true, false] rfl rfl (one_of HT_.out (by kernel_rfl)) (by decide) (fun K hK => ?_)
                         refine goes_ Try.func17 (by kernel_rfl) rfl #[.slice A97 y311.length c97] (by rfl) rfl rfl (by (try simp only [List.map_toArray, List.map_cons, List.map_nil]); first | done | rfl | (simp only [List.length_drop, List.length_take]; rfl)) ?_
                         with_reducible refine (scholiastlaw04_weighs.calls kj21 _ _ y311 true _ ?side1 ?side2 A46.out).mono ?_
                         (case side1 => repeat (first | exact (by repeat (first | (with_reducible exact HR314.out) | (with_reducible refine Kd.C_alloc ?_ _) | (with_reducible refine Kd.C_drewN ?_ _) | (with_reducible refine Kd.C_drew ?_) | exact HR314.out)) | (with_reducible refine Kd.C_alloc ?_ _) | (with_reducible refine Kd.C_drewN ?_ _) | (with_reducible refine Kd.C_drew ?_)))
                         (case side2 => exact HC314.out)
                         rintro e w98 ⟨rfl, hb⟩
                         have HS0_ := (hb.cell (World.block_lt_of_cell? _ _ (hHeld.1))).trans (hHeld.1)
                         have HS1_ := (hb.cell (World.block_lt_of_cell? _ _ (hHeld.2.1))).trans (hHeld.2.1)
                         have HS2_ := (hb.cell (World.block_lt_of_cell? _ _ (hHeld.2.2.1))).trans (hHeld.2.2.1)
                         have HS3_ := (hb.cell (World.block_lt_of_cell? _ _ (hHeld.2.2.2))).trans (hHeld.2.2.2)
                         refine ⟨_, rfl, ?_⟩
                         have n0_ := Aside0.mk (Kd.R_below (by (with_reducible repeat (first | apply Kd.R_alloc | apply Kd.R_drewN | apply Kd.R_drew)); exact HO_7.out) hb)
                         have n1_ := Aside0.mk (Kd.R_below (by (with_reducible repeat (first | apply Kd.R_alloc | apply Kd.R_drewN | apply Kd.R_drew)); exact HO_10.out) hb)
                         have n2_ := Aside0.mk (Kd.R_below (by (with_reducible repeat (first | apply Kd.R_alloc | apply Kd.R_drewN | apply Kd.R_drew)); exact HO305.out) hb)
                         have n3_ := Aside0.mk (Kd.R_below (by (with_reducible repeat (first | apply Kd.R_alloc | apply Kd.R_drewN | apply Kd.R_drew)); exact HO308.out) hb)
                         have n4_ := Aside0.mk (Kd.C_below (by repeat (first | (with_reducible exact HR314.out) | (with_reducible refine Kd.C_alloc ?_ _) | (with_reducible refine Kd.C_drewN ?_ _) | (with_reducible refine Kd.C_drew ?_) | exact HR314.out)) hb)
                         have n5_ := Aside0.mk (below_step (by repeat (first | (with_reducible first | exact HB.out | apply below_alloc | apply pw_below_drewN | apply below_drew1) | exact HB.out)) hb)
                         clear HO_7
                         clear HO_10
                         clear HO305
                         clear HO308
                         clear HR314
                         clear HB
                         have HO_7 := n0_
                         have HO_10 := n1_
                         have HO305 := n2_
                         have HO308 := n3_
                         have HR314 := n4_
                         have HB := n5_
                         clear n0_ n1_ n2_ n3_ n4_ n5_
                         (try clear hb)
                         (try clear hb2)
                         (try clear hk)
                         (try clear hi)
                         refine hK.out _ _ ⟨HS0_, HS1_, HS2_, HS3_⟩ (fun hHeld => ?_)
                         clear hK K
                         refine norm_ (a' := ?_) ?_ ?_
                         rotate_left
                         ·show Act.put _ (some 98) _ = _
                          simp only [Act.put, List.setIfInBounds_toArray, List.set_cons_zero, List.set_cons_succ, i64_w, i32_w]
                          rfl
                         refine pure_ (i := 17) (N := some 99) (v := ?_) (a' := ?_) #[true, true, true, true, true, true, true, true, true, true, true, true, true, true, true, true, true, true] rfl rfl (any_of HT_.out (by kernel_rfl)) (fun _ _ _ h => h) (Or.inl ⟨by rfl, ?_⟩) ?_ ?_
                         rotate_left
                         ·intro w'
                          go_simp
                          with_reducible rfl
                         rotate_left
                         ·simp only [Act.put, List.setIfInBounds_toArray, List.set_cons_zero, List.set_cons_succ, i64_w, i32_w]
                          rfl
                         refine done_ (done_of HT_.out (by kernel_rfl)) ?_
                         obtain ⟨Ao99, co99, eo99⟩ := Kd.R_slice HO308.out
                         subst eo99
                         try go_wp2
                         go_ret
                         exact ⟨by first | rfl | (simp [errW_none, errW_some] <;> rfl) | (simp only [← hji36]; first | rfl | (simp [errW_none, errW_some] <;> rfl)) | (simp [*, errW_none, errW_some] <;> rfl), by repeat (first | (with_reducible first | exact HB.out | apply below_alloc | apply pw_below_drewN | apply below_drew1) | exact HB.out)⟩
                       ·replace c47 := Bool.eq_false_iff.mpr c47
                        subst c47
                        have H1 : (some ((t306.length : Int) == (wrap64 ((t285.length : Int) - 1)))) = some r := by rw [if_neg (show ¬ (false = true) by decide)] at H; exact H
                        clear H
                        have H := H1
                        clear H1
                        obtain rfl := Option.some.inj H
                        obtain ⟨Ao100, co100, eo100⟩ := Kd.R_slice HO_10.out
                        subst eo100
                        try go_wp2
                        have n0_ := Aside0.mk (Kd.R_drew HO_7.out)
                        have n1_ := Aside0.mk (Kd.R_drew HO_10.out)
                        have n2_ := Aside0.mk (below_drew1 HB.out)
                        clear HO_7
                        clear HO_10
                        clear HB
                        have HO_7 := n0_
                        have HO_10 := n1_
                        have HB := n2_
                        clear n0_ n1_ n2_
                        have q102 : (a1 : Int) ≤ ((l0.length : Int) : Int) := of_decide_eq_true (by first | (with_reducible assumption) | assumption)
                        obtain ⟨i0102, hi0102, _, hsz102, _⟩ := info_parts info25
                        have hroom102 : l0.length ≤ c0 := HC0.out
                        have hC102 : Kd.C k25 _ A0 l0.length l0 := HR0.out
                        have hcut102 := cut_to (P := Try.prog) 22 25 .i64 Try.underlying22 hi0102 A0 l0.length c0 a1 (of_decide_eq_true (by first | (with_reducible assumption) | assumption)) q102 hroom102
                        have hr102 := Kd.C_take (m := (a1 : Int).toNat) hC102 (by omega)
                        have hy102 : y289.length = (a1 : Int).toNat := (by rw [Ny289.out, List.length_take]; omega)
                        rw [← Ny289.out] at hr102
                        rw [← hy102] at hcut102
                        have HR292 := Aside0.mk hr102
                        have HC292 := Aside0.mk (show y289.length ≤ c0 from by omega)
                        clear hr102 hC102 hroom102 hi0102 hsz102
                        have KY102 := Aside0.mk hy102
                        clear hy102
                        replace q102 := eq_true q102
                        have q103 : ((ji36) : Int) ≤ ((l0.length : Int) : Int) := of_decide_eq_true (by first | (with_reducible assumption) | assumption)
                        obtain ⟨i0103, hi0103, _, hsz103, _⟩ := info_parts info25
                        have hroom103 : l0.length ≤ c0 := HC0.out
                        have hC103 : Kd.C k25 _ A0 l0.length l0 := HR0.out
                        have q0103 : (0 : Int) ≤ ((ji36) : Int) := of_decide_eq_true (by first | (with_reducible assumption) | assumption)
                        have hcut103 := cut_from (P := Try.prog) 22 25 .i64 Try.underlying22 hi0103 3 hsz103 A0 l0.length c0 (ji36) q0103 q103
                        have hr103 := Kd.C_drop (m := ((ji36) : Int).toNat) (c := c0) hC103 (by omega) hroom103
                        obtain ⟨A103, hA103⟩ : ∃ A1, A1 = (if c0 = ((ji36) : Int).toNat then A0 else (A0 : Option Addr).map (·.add (((ji36) : Int).toNat * 3))) := ⟨_, rfl⟩
                        obtain ⟨c103, hc103⟩ : ∃ c1, c1 = c0 - ((ji36) : Int).toNat := ⟨_, rfl⟩
                        have hy103 : y299.length = l0.length - ((ji36) : Int).toNat := (by rw [Ny299.out, List.length_drop] <;> omega)
                        rw [show (l0).drop ((ji36) : Int).toNat = y299 from Ny299.out.symm] at hr103
                        replace hr103 : Kd.C k25 _ A103 y299.length y299 := (by rw [hA103]; exact hr103)
                        rw [← hy103, ← hA103, ← hc103] at hcut103
                        have HR302 := Aside0.mk hr103
                        have HC302 := Aside0.mk (show y299.length ≤ c103 from by rw [hy103, hc103]; exact Nat.sub_le_sub_right hroom103 _)
                        clear hr103 hC103 hroom103 hi0103 hsz103 hc103
                        have KY103 := Aside0.mk hy103
                        have KA103 := Aside0.mk hA103
                        clear hy103 hA103
                        replace q103 := eq_true q103
                        refine start_ (n := 12) (S := fun w' => True) (ds := []) #[false, false, false, false, false, false, false, false, false, false, false, false] (by kernel_rfl) rfl rfl trivial (fun hHeld => ?_); refine with_tabW scholiastlaw04_ChunkStays.tab19 scholiastlaw04_ChunkStays.bits19 (fun HT_ HW_ => ?_)
                        generalize wc.drew = w101 at HO_7 HO_10 HB HR292 HR302 hHeld ⊢
                        refine pure_ (i := 0) (N := some 69) (v := ?_) (a' := ?_) #[true, false, false, false, false, false, false, false, false, false, false, false] rfl rfl (any_of HT_.out (by kernel_rfl)) (fun _ _ _ h => h) (Or.inl ⟨by rfl, ?_⟩) ?_ ?_
                        rotate_left
                        ·intro w'
                         go_simp
                         with_reducible rfl
                        rotate_left
                        ·simp only [Act.put, List.setIfInBounds_toArray, List.set_cons_zero, List.set_cons_succ, i64_w, i32_w]
                         rfl
                        refine pure_ (i := 1) (N := some 70) (v := ?_) (a' := ?_) #[true, true, false, false, false, false, false, false, false, false, false, false] rfl rfl (any_of HT_.out (by kernel_rfl)) (fun _ _ _ h => h) (Or.inl ⟨by rfl, ?_⟩) ?_ ?_
                        rotate_left
                        ·intro w'
                         go_simp
                         with_reducible rfl
                        rotate_left
                        ·simp only [Act.put, List.setIfInBounds_toArray, List.set_cons_zero, List.set_cons_succ, i64_w, i32_w]
                         rfl
                        refine pure_ (i := 2) (N := some 71) (v := ?_) (a' := ?_) #[true, true, true, false, false, false, false, false, false, false, false, false] rfl rfl (any_of HT_.out (by kernel_rfl)) (fun _ _ _ h => h) (Or.inl ⟨by rfl, ?_⟩) ?_ ?_
                        rotate_left
                        ·intro w'
                         go_simp
                         with_reducible rfl
                        rotate_left
                        ·simp only [Act.put, List.setIfInBounds_toArray, List.set_cons_zero, List.set_cons_succ, i64_w, i32_w]
                         rfl
                        refine pure_ (i := 4) (N := some 73) (v := ?_) (a' := ?_) #[true, true, true, false, true, false, false, false, false, false, false, false] rfl rfl (any_of HT_.out (by kernel_rfl)) (fun _ _ _ h => h) (Or.inl ⟨by rfl, ?_⟩) ?_ ?_
                        rotate_left
                        ·intro w'
                         go_simp
                         with_reducible rfl
                        rotate_left
                        ·simp only [Act.put, List.setIfInBounds_toArray, List.set_cons_zero, List.set_cons_succ, i64_w, i32_w]
                         rfl
                        refine pure_ (i := 6) (N := some 75) (v := ?_) (a' := ?_) #[true, true, true, false, true, false, true, false, false, false, false, false] rfl rfl (any_of HT_.out (by kernel_rfl)) (fun _ _ _ h => h) (Or.inl ⟨by rfl, ?_⟩) ?_ ?_
                        rotate_left
                        ·intro w'
                         go_simp
                         with_reducible rfl
                        rotate_left
                        ·simp only [Act.put, List.setIfInBounds_toArray, List.set_cons_zero, List.set_cons_succ, i64_w, i32_w]
                         rfl
                        refine pure_ (i := 7) (N := some 76) (v := ?_) (a' := ?_) #[true, true, true, false, true, false, true, true, false, false, false, false] rfl rfl (any_of HT_.out (by kernel_rfl)) (fun _ _ _ h => h) (Or.inl ⟨by rfl, ?_⟩) ?_ ?_
                        rotate_left
                        ·intro w'
                         go_simp
                         with_reducible rfl
                        rotate_left
                        ·simp only [Act.put, List.setIfInBounds_toArray, List.set_cons_zero, List.set_cons_succ, i64_w, i32_w]
                         rfl
                        refine pure_ (i := 8) (N := some 77) (v := ?_) (a' := ?_) #[true, true, true, false, true, false, true, true, true, false, false, false] rfl rfl (any_of HT_.out (by kernel_rfl)) (fun _ _ _ h => h) (Or.inl ⟨by rfl, ?_⟩) ?_ ?_
                        rotate_left
                        ·intro w'
                         go_simp
                         with_reducible rfl
                        rotate_left
                        ·simp only [Act.put, List.setIfInBounds_toArray, List.set_cons_zero, List.set_cons_succ, i64_w, i32_w]
                         rfl
                        refine pure_ (i := 9) (N := some 78) (v := ?_) (a' := ?_) #[true, true, true, false, true, false, true, true, true, true, false, false] rfl rfl (any_of HT_.out (by kernel_rfl)) (fun _ _ _ h => h) (Or.inl ⟨by rfl, ?_⟩) ?_ ?_
                        rotate_left
                        ·intro w'
                         go_simp
                         with_reducible rfl
                        rotate_left
                        ·simp only [Act.put, List.setIfInBounds_toArray, List.set_cons_zero, List.set_cons_succ, i64_w, i32_w]
                         rfl
                        refine one_ (i := 3) (N := some 72) #[true, true, true, true, true, false, true, true, true, true, false, false] rfl rfl (one_of HT_.out (by kernel_rfl)) (by decide) (fun K hK => ?_)
                        refine Kd.R_append_rows_step k25 (w0 := w) w.heap.size rfl (.const (.slice none 0 0)) (.tmp 71) 22 25 (.agg #[(.int .i64 0), (.int .i64 0), (.int .i64 0)]) 24 rfl Try.underlying22 info25 rfl (by decide) (by omega) (.slice none 0 0) ([] : List (S25)) y289 _ _ _ (fun k_ => some k_ ≠ (u7 : Value).ownBlock) (fun _ => False) rfl rfl ?aO ?aR (fun _ _ h => h) (fun _ h => h.elim) ?aF ?aB ?aS ?aL ?_
                        (case aR => repeat (first | exact (Kd.C_below HR292.out HB.out) | (with_reducible refine Kd.C_alloc ?_ _) | (with_reducible refine Kd.C_drewN ?_ _) | (with_reducible refine Kd.C_drew ?_)))
                        (case aB => exact (by repeat (first | (with_reducible first | exact HB.out | apply below_alloc | apply pw_below_drewN | apply below_drew1) | exact HB.out)))
                        (case aF => exact (fun k_ hk => Kd.fresh' (Kd.R_lt (by (with_reducible repeat (first | apply Kd.R_alloc | apply Kd.R_drewN | apply Kd.R_drew)); exact HO_7.out)) k_ hk))
                        (case aO => exact ((Kd.R_nil _ _ _ _ (fun k_ => some k_ ≠ (u7 : Value).ownBlock))))
                        (case aS => exact (below_size (by repeat (first | (with_reducible first | exact HB.out | apply below_alloc | apply pw_below_drewN | apply below_drew1) | exact HB.out))))
                        (case aL => have := LMc34.out; omega)
                        intro v294 w104 ho hb hg hat
                        rw [← Ny293.out] at ho
                        have n0_ := Aside0.mk (Kd.R_after (Kd.R_apart_nil (by (with_reducible repeat (first | apply Kd.R_alloc | apply Kd.R_drewN | apply Kd.R_drew)); exact HO_7.out)) hg hat)
                        have n1_ := Aside0.mk (Kd.R_grown (by (with_reducible repeat (first | apply Kd.R_alloc | apply Kd.R_drewN | apply Kd.R_drew)); exact HO_10.out) hg (fun _ _ => by simp [Value.ownBlock]))
                        have n2_ := Aside0.mk (hb)
                        have n3_ := Aside0.mk (ho)
                        clear HO_7
                        clear HO_10
                        clear HB
                        have HO_7 := n0_
                        have HO_10 := n1_
                        have HB := n2_
                        have HO295 := n3_
                        clear n0_ n1_ n2_ n3_
                        clear ho hb hg hat
                        obtain ⟨Ao106, co106, eo106⟩ := Kd.R_slice HO_7.out
                        (first | subst eo106 | (injection eo106 with f1_ f2_ f3_; have f4_ := f1_.symm; have f5_ := f3_.symm; clear f1_ f2_ f3_; subst f4_; subst f5_))
                        refine hK.out _ _ trivial (fun hHeld => ?_)
                        clear hK K
                        refine norm_ (a' := ?_) ?_ ?_
                        rotate_left
                        ·show Act.put _ (some 72) _ = _
                         simp only [Act.put, List.setIfInBounds_toArray, List.set_cons_zero, List.set_cons_succ, i64_w, i32_w]
                         rfl
                        refine one_ (i := 5) (N := some 74) #[true, true, true, true, true, true, true, true, true, true, false, false] rfl rfl (one_of HT_.out (by kernel_rfl)) (by decide) (fun K hK => ?_)
                        refine Kd.R_append_rows_step k25 (w0 := w) w.heap.size (by rfl) (.tmp 72) (.tmp 73) 22 25 (.agg #[(.int .i64 0), (.int .i64 0), (.int .i64 0)]) 24 rfl Try.underlying22 info25 rfl (by decide) (by omega) v294 y293 x7_2 _ _ _ (fun k_ => some k_ ≠ (.slice Ao106 x7_2.length co106 : Value).ownBlock) (fun _ => False) rfl rfl ?aO ?aR (fun _ _ h => h) (fun _ h => h.elim) ?aF ?aB ?aS ?aL ?_
                        (case aR => repeat (first | exact (Kd.R_reads' HO_7.out).2.2 | (with_reducible refine Kd.C_alloc ?_ _) | (with_reducible refine Kd.C_drewN ?_ _) | (with_reducible refine Kd.C_drew ?_)))
                        (case aB => exact (by repeat (first | (with_reducible first | exact HB.out | apply below_alloc | apply pw_below_drewN | apply below_drew1) | exact HB.out)))
                        (case aF => exact (fun k_ hk => Kd.fresh' (Kd.R_lt (by (with_reducible repeat (first | apply Kd.R_alloc | apply Kd.R_drewN | apply Kd.R_drew)); exact HO_7.out)) k_ hk))
                        (case aO => exact (by (with_reducible repeat (first | apply Kd.R_alloc | apply Kd.R_drewN | apply Kd.R_drew)); exact HO295.out))
                        (case aS => exact (below_size (by repeat (first | (with_reducible first | exact HB.out | apply below_alloc | apply pw_below_drewN | apply below_drew1) | exact HB.out))))
                        (case aL => have := LMc35.out; omega)
                        intro v297 w105 ho hb hg hat
                        rw [← Ny296.out] at ho
                        have n0_ := Aside0.mk (Kd.R_after (ok := (fun _ => True)) (by (with_reducible repeat (first | apply Kd.R_alloc | apply Kd.R_drewN | apply Kd.R_drew)); exact HO_7.out) hg hat)
                        have n1_ := Aside0.mk (Kd.R_over' (by (with_reducible repeat (first | apply Kd.R_alloc | apply Kd.R_drewN | apply Kd.R_drew)); exact HO_10.out) (Kd.R_typed (by (with_reducible repeat (first | apply Kd.R_alloc | apply Kd.R_drewN | apply Kd.R_drew)); exact HO295.out)) (by decide) hg)
                        have n2_ := Aside0.mk (hb)
                        have n3_ := Aside0.mk (ho)
                        clear HO_7
                        clear HO_10
                        clear HB
                        clear HO295
                        have HO_7 := n0_
                        have HO_10 := n1_
                        have HB := n2_
                        have HO298 := n3_
                        clear n0_ n1_ n2_ n3_
                        clear ho hb hg hat
                        refine hK.out _ _ trivial (fun hHeld => ?_)
                        clear hK K
                        refine norm_ (a' := ?_) ?_ ?_
                        rotate_left
                        ·show Act.put _ (some 74) _ = _
                         simp only [Act.put, List.setIfInBounds_toArray, List.set_cons_zero, List.set_cons_succ, i64_w, i32_w]
                         rfl
                        refine one_ (i := 10) (N := some 79) #[true, true, true, true, true, true, true, true, true, true, true, false] rfl rfl (one_of HT_.out (by kernel_rfl)) (by decide) (fun K hK => ?_)
                        refine Kd.R_append_rows_step k25 (w0 := w) w.heap.size (by rfl) (.tmp 74) (.tmp 78) 22 25 (.agg #[(.int .i64 0), (.int .i64 0), (.int .i64 0)]) 24 rfl Try.underlying22 info25 rfl (by decide) (by omega) v297 y296 y299 _ _ _ (fun k_ => some k_ ≠ (.slice Ao106 x7_2.length co106 : Value).ownBlock) (fun _ => False) rfl rfl ?aO ?aR (fun _ _ h => h) (fun _ h => h.elim) ?aF ?aB ?aS ?aL ?_
                        (case aR => repeat (first | exact (Kd.C_below HR302.out HB.out) | (with_reducible refine Kd.C_alloc ?_ _) | (with_reducible refine Kd.C_drewN ?_ _) | (with_reducible refine Kd.C_drew ?_)))
                        (case aB => exact (by repeat (first | (with_reducible first | exact HB.out | apply below_alloc | apply pw_below_drewN | apply below_drew1) | exact HB.out)))
                        (case aF => exact (fun k_ hk => Kd.fresh' (Kd.R_lt (by (with_reducible repeat (first | apply Kd.R_alloc | apply Kd.R_drewN | apply Kd.R_drew)); exact HO_7.out)) k_ hk))
                        (case aO => exact (by (with_reducible repeat (first | apply Kd.R_alloc | apply Kd.R_drewN | apply Kd.R_drew)); exact HO298.out))
                        (case aS => exact (below_size (by repeat (first | (with_reducible first | exact HB.out | apply below_alloc | apply pw_below_drewN | apply below_drew1) | exact HB.out))))
                        (case aL => have := LMc39.out; omega)
                        intro v304 w107 ho hb hg hat
                        rw [← Ny303.out] at ho
                        have n0_ := Aside0.mk (Kd.R_after (ok := (fun _ => True)) (by (with_reducible repeat (first | apply Kd.R_alloc | apply Kd.R_drewN | apply Kd.R_drew)); exact HO_7.out) hg hat)
                        have n1_ := Aside0.mk (Kd.R_over' (by (with_reducible repeat (first | apply Kd.R_alloc | apply Kd.R_drewN | apply Kd.R_drew)); exact HO_10.out) (Kd.R_typed (by (with_reducible repeat (first | apply Kd.R_alloc | apply Kd.R_drewN | apply Kd.R_drew)); exact HO298.out)) (by decide) hg)
                        have n2_ := Aside0.mk (hb)
                        have n3_ := Aside0.mk (ho)
                        clear HO_7
                        clear HO_10
                        clear HB
                        clear HO298
                        have HO_7 := n0_
                        have HO_10 := n1_
                        have HB := n2_
                        have HO305 := n3_
                        clear n0_ n1_ n2_ n3_
                        clear ho hb hg hat
                        refine hK.out _ _ trivial (fun hHeld => ?_)
                        clear hK K
                        refine norm_ (a' := ?_) ?_ ?_
                        rotate_left
                        ·show Act.put _ (some 79) _ = _
                         simp only [Act.put, List.setIfInBounds_toArray, List.set_cons_zero, List.set_cons_succ, i64_w, i32_w]
                         rfl
                        refine pure_ (i := 11) (N := some 12) (v := ?_) (a' := ?_) #[true, true, true, true, true, true, true, true, true, true, true, true] rfl rfl (any_of HT_.out (by kernel_rfl)) (fun _ _ _ h => h) (Or.inl ⟨by rfl, ?_⟩) ?_ ?_
                        rotate_left
                        ·intro w'
                         go_simp
                         with_reducible rfl
                        rotate_left
                        ·simp only [Act.put, List.setIfInBounds_toArray, List.set_cons_zero, List.set_cons_succ, i64_w, i32_w]
                         rfl
                        refine done_ (done_of HT_.out (by kernel_rfl)) ?_
                        obtain ⟨Ao108, co108, eo108⟩ := Kd.R_slice HO305.out
                        subst eo108
                        try go_wp2_with (first | ((with_reducible refine gate_callee (f := 10) rfl ?_); refine goesL_ (some 81) rfl rfl Try.func10 (by kernel_rfl) rfl #[.slice Ao108 y303.length co108] rfl (by (try simp only [List.map_toArray, List.map_cons, List.map_nil]); first | done | rfl | (simp only [List.length_drop, List.length_take]; rfl)) ?_; (with_reducible refine (chunk_Cut.calls _ _ y303 t306 _ ?side1 ?side2 A40.out).mono ?_); (case side1 => repeat (first | exact (Kd.R_reads' HO305.out).2.2 | (with_reducible refine Kd.C_alloc ?_ _) | (with_reducible refine Kd.C_drewN ?_ _) | (with_reducible refine Kd.C_drew ?_))); (case side2 => exact (Kd.R_reads' HO305.out).2.1); rintro e w109 ⟨v307, rfl, ho0, hb⟩; refine ⟨_, rfl, ?_⟩; have n0_ := Aside0.mk (Kd.R_below (by (with_reducible repeat (first | apply Kd.R_alloc | apply Kd.R_drewN | apply Kd.R_drew)); exact HO_7.out) hb); have n1_ := Aside0.mk (Kd.R_elder' (by (with_reducible repeat (first | apply Kd.R_alloc | apply Kd.R_drewN | apply Kd.R_drew)); exact HO_10.out) (Kd.R_base ho0) hb); have n2_ := Aside0.mk (Kd.R_below (by (with_reducible repeat (first | apply Kd.R_alloc | apply Kd.R_drewN | apply Kd.R_drew)); exact HO305.out) hb); have n3_ := Aside0.mk (Kd.R_lower (Kd.R_new' ho0 (Kd.R_lt (by (with_reducible repeat (first | apply Kd.R_alloc | apply Kd.R_drewN | apply Kd.R_drew)); exact HO_10.out))) (below_size (by repeat (first | (with_reducible first | exact HB.out | apply below_alloc | apply pw_below_drewN | apply below_drew1) | exact HB.out)))); have n4_ := Aside0.mk (below_step (by repeat (first | (with_reducible first | exact HB.out | apply below_alloc | apply pw_below_drewN | apply below_drew1) | exact HB.out)) hb); clear HO_7; clear HO_10; clear HO305; clear HB; have HO_7 := n0_; have HO_10 := n1_; have HO305 := n2_; have HO308 := n3_; have HB := n4_; clear n0_ n1_ n2_ n3_ n4_; (try clear hb); (try clear hb2); (try clear hk); (try clear hi); (try clear ho0)))
                        have n0_ := Aside0.mk (Kd.R_drew HO_7.out)
                        have n1_ := Aside0.mk (Kd.R_drew HO_10.out)
                        have n2_ := Aside0.mk (Kd.R_drew HO305.out)
                        have n3_ := Aside0.mk (Kd.R_drew HO308.out)
                        have n4_ := Aside0.mk (below_drew1 HB.out)
                        clear HO_7
                        clear HO_10
                        clear HO305
                        clear HO308
                        clear HB
                        have HO_7 := n0_
                        have HO_10 := n1_
                        have HO305 := n2_
                        have HO308 := n3_
                        have HB := n4_
                        clear n0_ n1_ n2_ n3_ n4_
                        have p309 : 0 ≤ (x11_21 : Int) := of_decide_eq_true (by first | (with_reducible assumption) | assumption)
                        have q309 : x11_21 < (t285.length : Int) := of_decide_eq_true (by first | (with_reducible assumption) | assumption)
                        obtain ⟨ad309, e309, hx309_0, hx309_1⟩ := at_T30 (Kd.R_reads' HO_10.out).2.2 x11_21 p309 q309
                        cases e309
                        replace p309 := eq_true p309
                        replace q309 := eq_true q309
                        have p310 : 0 ≤ (x11_21 : Int) := of_decide_eq_true (by first | (with_reducible assumption) | assumption)
                        have q310 : x11_21 < (t285.length : Int) := of_decide_eq_true (by first | (with_reducible assumption) | assumption)
                        obtain ⟨ad310, e310, hx310_0, hx310_1⟩ := at_T30 (Kd.R_reads' HO_10.out).2.2 x11_21 p310 q310
                        obtain rfl : ad309 = ad310 := (by injection e310)
                        replace p310 := eq_true p310
                        replace q310 := eq_true q310
                        have q111 : ((wrap64 ((wrap64 (((rd_T30 t285 x11_21).f1) + (x7_2.length : Int))) - 1)) : Int) ≤ ((y303.length : Int) : Int) := of_decide_eq_true (by first | (with_reducible assumption) | assumption)
                        obtain ⟨i0111, hi0111, _, hsz111, _⟩ := info_parts info25
                        have hroom111 : y303.length ≤ co108 := (Kd.R_reads' HO305.out).2.1
                        have hC111 : Kd.C k25 _ Ao108 y303.length y303 := (Kd.R_reads' HO305.out).2.2
                        have ql111 : (((rd_T30 t285 x11_21).f0) : Int) ≤ ((wrap64 ((wrap64 (((rd_T30 t285 x11_21).f1) + (x7_2.length : Int))) - 1)) : Int) := of_decide_eq_true (by first | (with_reducible assumption) | assumption)
                        have q0111 : (0 : Int) ≤ (((rd_T30 t285 x11_21).f0) : Int) := of_decide_eq_true (by first | (with_reducible assumption) | assumption)
                        have hcut111 := cut_mid (P := Try.prog) 22 25 .i64 .i64 Try.underlying22 hi0111 3 hsz111 Ao108 y303.length co108 ((rd_T30 t285 x11_21).f0) (wrap64 ((wrap64 (((rd_T30 t285 x11_21).f1) + (x7_2.length : Int))) - 1)) q0111 ql111 q111 hroom111
                        have hr111 := Kd.C_mid (lo := (((rd_T30 t285 x11_21).f0) : Int).toNat) (hi := ((wrap64 ((wrap64 (((rd_T30 t285 x11_21).f1) + (x7_2.length : Int))) - 1)) : Int).toNat) (c := co108) hC111 (by omega) (by omega) hroom111
                        obtain ⟨A111, hA111⟩ : ∃ A1, A1 = (if co108 = (((rd_T30 t285 x11_21).f0) : Int).toNat then Ao108 else (Ao108 : Option Addr).map (·.add ((((rd_T30 t285 x11_21).f0) : Int).toNat * 3))) := ⟨_, rfl⟩
                        obtain ⟨c111, hc111⟩ : ∃ c1, c1 = co108 - (((rd_T30 t285 x11_21).f0) : Int).toNat := ⟨_, rfl⟩
                        have hy111 : y311.length = ((wrap64 ((wrap64 (((rd_T30 t285 x11_21).f1) + (x7_2.length : Int))) - 1)) : Int).toNat - (((rd_T30 t285 x11_21).f0) : Int).toNat := (by rw [Ny311.out, List.length_drop, List.length_take] <;> omega)
                        rw [show ((y303).take ((wrap64 ((wrap64 (((rd_T30 t285 x11_21).f1) + (x7_2.length : Int))) - 1)) : Int).toNat).drop (((rd_T30 t285 x11_21).f0) : Int).toNat = y311 from Ny311.out.symm] at hr111
                        replace hr111 : Kd.C k25 _ A111 y311.length y311 := (by rw [hA111]; exact hr111)
                        rw [← hy111, ← hA111, ← hc111] at hcut111
                        have HR314 := Aside0.mk hr111
                        have HC314 := Aside0.mk (show y311.length ≤ c111 from by rw [hy111, hc111]; exact Nat.sub_le_sub_right (Nat.le_trans (by omega) hroom111) _)
                        clear hr111 hC111 hroom111 hi0111 hsz111 hc111
                        have KY111 := Aside0.mk hy111
                        have KA111 := Aside0.mk hA111
                        clear hy111 hA111
                        have KL111 := Aside0.mk (show ((wrap64 ((wrap64 (((rd_T30 t285 x11_21).f1) + (x7_2.length : Int))) - 1)) : Int).toNat ≤ y303.length from by omega)
                        have KM111 := Aside0.mk (show (((rd_T30 t285 x11_21).f0) : Int).toNat ≤ ((wrap64 ((wrap64 (((rd_T30 t285 x11_21).f1) + (x7_2.length : Int))) - 1)) : Int).toNat from by omega)
                        replace q111 := eq_true q111
                        refine start_ (n := 18) (S := fun w' => w'.cell? (ad309.add ((x11_21).toNat * 2)) = some (.int .i64 ((rd_T30 t285 x11_21).f0)) ∧ w'.cell? ⟨(ad309.add ((x11_21).toNat * 2)).block, (ad309.add ((x11_21).toNat * 2)).off + 1, none⟩ = some (.int .i64 ((rd_T30 t285 x11_21).f1)) ∧ w'.cell? (ad309.add ((x11_21).toNat * 2)) = some (.int .i64 ((rd_T30 t285 x11_21).f0)) ∧ w'.cell? ⟨(ad309.add ((x11_21).toNat * 2)).block, (ad309.add ((x11_21).toNat * 2)).off + 1, none⟩ = some (.int .i64 ((rd_T30 t285 x11_21).f1))) (ds := []) #[false, false, false, false, false, false, false, false, false, false, false, false, false, false, false, false, false, false] (by kernel_rfl) rfl rfl ⟨hx309_0, hx309_1, hx310_0, hx310_1⟩ (fun hHeld => ?_); refine with_tabW scholiastlaw04_ChunkStays.tab21 scholiastlaw04_ChunkStays.bits21 (fun HT_ HW_ => ?_)
                        generalize w109.drew = w110 at HO_7 HO_10 HO305 HO308 HB HR314 hx309_0 hx309_1 hx310_0 hx310_1 hHeld ⊢
                        refine pure_ (i := 0) (N := some 82) (v := ?_) (a' := ?_) #[true, false, false, false, false, false, false, false, false, false, false, false, false, false, false, false, false, false] rfl rfl (any_of HT_.out (by kernel_rfl)) (fun _ _ _ h => h) (Or.inl ⟨by rfl, ?_⟩) ?_ ?_
                        rotate_left
                        ·intro w'
                         go_simp
                         with_reducible rfl
                        rotate_left
                        ·simp only [Act.put, List.setIfInBounds_toArray, List.set_cons_zero, List.set_cons_succ, i64_w, i32_w]
                         rfl
                        refine pure_ (i := 1) (N := some 83) (v := ?_) (a' := ?_) #[true, true, false, false, false, false, false, false, false, false, false, false, false, false, false, false, false, false] rfl rfl (any_of HT_.out (by kernel_rfl)) (fun _ _ _ h => h) (Or.inl ⟨by rfl, ?_⟩) ?_ ?_
                        rotate_left
                        ·intro w'
                         go_simp
                         with_reducible rfl
                        rotate_left
                        ·simp only [Act.put, List.setIfInBounds_toArray, List.set_cons_zero, List.set_cons_succ, i64_w, i32_w]
                         rfl
                        refine pure_ (i := 2) (N := some 84) (v := ?_) (a' := ?_) #[true, true, true, false, false, false, false, false, false, false, false, false, false, false, false, false, false, false] rfl rfl (any_of HT_.out (by kernel_rfl)) (fun _ _ _ h => h) (Or.inl ⟨by rfl, ?_⟩) ?_ ?_
                        rotate_left
                        ·intro w'
                         go_simp
                         with_reducible rfl
                        rotate_left
                        ·simp only [Act.put, List.setIfInBounds_toArray, List.set_cons_zero, List.set_cons_succ, i64_w, i32_w]
                         rfl
                        refine pure_ (i := 3) (N := some 85) (v := ?_) (a' := ?_) #[true, true, true, true, false, false, false, false, false, false, false, false, false, false, false, false, false, false] rfl rfl (any_of HT_.out (by kernel_rfl)) (fun _ _ _ h => h) (Or.inl ⟨by rfl, ?_⟩) ?_ ?_
                        rotate_left
                        ·intro w'
                         go_simp
                         with_reducible rfl
                        rotate_left
                        ·simp only [Act.put, List.setIfInBounds_toArray, List.set_cons_zero, List.set_cons_succ, i64_w, i32_w]
                         rfl
                        refine pure_ (i := 4) (N := some 86) (v := ?_) (a' := ?_) #[true, true, true, true, true, false, false, false, false, false, false, false, false, false, false, false, false, false] rfl rfl (any_of HT_.out (by kernel_rfl)) (fun _ _ _ h => h) (Or.inl ⟨by rfl, ?_⟩) ?_ ?_
                        rotate_left
                        ·intro w'
                         go_simp
                         with_reducible rfl
                        rotate_left
                        ·simp only [Act.put, List.setIfInBounds_toArray, List.set_cons_zero, List.set_cons_succ, i64_w, i32_w]
                         rfl
                        refine pure_ (i := 6) (N := some 88) (v := ?_) (a' := ?_) #[true, true, true, true, true, false, true, false, false, false, false, false, false, false, false, false, false, false] rfl rfl (any_of HT_.out (by kernel_rfl)) (fun _ _ _ h => h) (Or.inl ⟨by rfl, ?_⟩) ?_ ?_
                        rotate_left
                        ·intro w'
                         go_simp
                         with_reducible rfl
                        rotate_left
                        ·simp only [Act.put, List.setIfInBounds_toArray, List.set_cons_zero, List.set_cons_succ, i64_w, i32_w]
                         rfl
                        refine pure_ (i := 7) (N := some 89) (v := ?_) (a' := ?_) #[true, true, true, true, true, false, true, true, false, false, false, false, false, false, false, false, false, false] rfl rfl (any_of HT_.out (by kernel_rfl)) (fun _ _ _ h => h) (Or.inl ⟨by rfl, ?_⟩) ?_ ?_
                        rotate_left
                        ·intro w'
                         go_simp
                         with_reducible rfl
                        rotate_left
                        ·simp only [Act.put, List.setIfInBounds_toArray, List.set_cons_zero, List.set_cons_succ, i64_w, i32_w]
                         rfl
                        refine pure_ (i := 8) (N := some 90) (v := ?_) (a' := ?_) #[true, true, true, true, true, false, true, true, true, false, false, false, false, false, false, false, false, false] rfl rfl (any_of HT_.out (by kernel_rfl)) (fun _ _ _ h => h) (Or.inl ⟨by rfl, ?_⟩) ?_ ?_
                        rotate_left
                        ·intro w'
                         go_simp
                         with_reducible rfl
                        rotate_left
                        ·simp only [Act.put, List.setIfInBounds_toArray, List.set_cons_zero, List.set_cons_succ, i64_w, i32_w]
                         rfl
                        refine pure_ (i := 9) (N := some 91) (v := ?_) (a' := ?_) #[true, true, true, true, true, false, true, true, true, true, false, false, false, false, false, false, false, false] rfl rfl (any_of HT_.out (by kernel_rfl)) (fun _ _ _ h => h) (Or.inl ⟨by rfl, ?_⟩) ?_ ?_
                        rotate_left
                        ·intro w'
                         go_simp
                         with_reducible rfl
                        rotate_left
                        ·simp only [Act.put, List.setIfInBounds_toArray, List.set_cons_zero, List.set_cons_succ, i64_w, i32_w]
                         rfl
                        refine pure_ (i := 11) (N := some 93) (v := ?_) (a' := ?_) #[true, true, true, true, true, false, true, true, true, true, false, true, false, false, false, false, false, false] rfl rfl (any_of HT_.out (by kernel_rfl)) (fun _ _ _ h => h) (Or.inl ⟨by rfl, ?_⟩) ?_ ?_
                        rotate_left
                        ·intro w'
                         go_simp
                         with_reducible rfl
                        rotate_left
                        ·simp only [Act.put, List.setIfInBounds_toArray, List.set_cons_zero, List.set_cons_succ, i64_w, i32_w]
                         rfl
                        refine pure_ (i := 12) (N := some 94) (v := ?_) (a' := ?_) #[true, true, true, true, true, false, true, true, true, true, false, true, true, false, false, false, false, false] rfl rfl (any_of HT_.out (by kernel_rfl)) (fun _ _ _ h => h) (Or.inl ⟨by rfl, ?_⟩) ?_ ?_
                        rotate_left
                        ·intro w'
                         go_simp
                         with_reducible rfl
                        rotate_left
                        ·simp only [Act.put, List.setIfInBounds_toArray, List.set_cons_zero, List.set_cons_succ, i64_w, i32_w]
                         rfl
                        refine take_ (i := 5) (N := some 87) (v := ?_) (a' := ?_) #[true, true, true, true, true, true, true, true, true, true, false, true, true, false, false, false, false, false] rfl rfl (take_ofW HT_.out HW_.out (by kernel_rfl)) (fun _ _ _ h => h) (Or.inl ⟨by rfl, ?_⟩) hHeld ?_ ?_
                        rotate_left
                        ·rintro w' ⟨s0, s1, s2, s3⟩
                         (try simp only [Int.toNat_natCast] at s0 s1 s2 s3)
                         go_simp
                         with_reducible rfl
                        rotate_left
                        ·simp only [Act.put, List.setIfInBounds_toArray, List.set_cons_zero, List.set_cons_succ, i64_w, i32_w]
                         rfl
                        refine take_ (i := 10) (N := some 92) (v := ?_) (a' := ?_) #[true, true, true, true, true, true, true, true, true, true, true, true, true, false, false, false, false, false] rfl rfl (take_ofW HT_.out HW_.out (by kernel_rfl)) (fun _ _ _ h => h) (Or.inl ⟨by rfl, ?_⟩) hHeld ?_ ?_
                        rotate_left
                        ·rintro w' ⟨s0, s1, s2, s3⟩
                         (try simp only [Int.toNat_natCast] at s0 s1 s2 s3)
                         go_simp
                         with_reducible rfl
                        rotate_left
                        ·simp only [Act.put, List.setIfInBounds_toArray, List.set_cons_zero, List.set_cons_succ, i64_w, i32_w]
                         rfl
                        refine pure_ (i := 13) (N := some 95) (v := ?_) (a' := ?_) #[true, true, true, true, true, true, true, true, true, true, true, true, true, true, false, false, false, false] rfl rfl (any_of HT_.out (by kernel_rfl)) (fun _ _ _ h => h) (Or.inl ⟨by rfl, ?_⟩) ?_ ?_
                        rotate_left
                        ·intro w'
                         go_simp
                         with_reducible rfl
                        rotate_left
                        ·simp only [Act.put, List.setIfInBounds_toArray, List.set_cons_zero, List.set_cons_succ, i64_w, i32_w]
                         rfl
                        refine pure_ (i := 14) (N := some 96) (v := ?_) (a' := ?_) #[true, true, true, true, true, true, true, true, true, true, true, true, true, true, true, false, false, false] rfl rfl (any_of HT_.out (by kernel_rfl)) (fun _ _ _ h => h) (Or.inl ⟨by rfl, ?_⟩) ?_ ?_
                        rotate_left
                        ·intro w'
                         go_simp
                         with_reducible rfl
                        rotate_left
                        ·simp only [Act.put, List.setIfInBounds_toArray, List.set_cons_zero, List.set_cons_succ, i64_w, i32_w]
                         rfl
                        refine pure_ (i := 15) (N := some 97) (v := ?_) (a' := ?_) #[true, true, true, true, true, true, true, true, true, true, true, true, true, true, true, true, false, false] rfl rfl (any_of HT_.out (by kernel_rfl)) (fun _ _ _ h => h) (Or.inl ⟨by rfl, ?_⟩) ?_ ?_
                        rotate_left
                        ·intro w'
                         go_simp
                         with_reducible rfl
                        rotate_left
                        ·simp only [Act.put, List.setIfInBounds_toArray, List.set_cons_zero, List.set_cons_succ, i64_w, i32_w]
                         rfl
                        refine one_ (i := 16) (N := some 98) #[true, true, true, true, true, true, true, true, true, true, true, true, true, true, true, true, true, false] rfl rfl (one_of HT_.out (by kernel_rfl)) (by decide) (fun K hK => ?_)
                        refine goes_ Try.func17 (by kernel_rfl) rfl #[.slice A111 y311.length c111] (by rfl) rfl rfl (by (try simp only [List.map_toArray, List.map_cons, List.map_nil]); first | done | rfl | (simp only [List.length_drop, List.length_take]; rfl)) ?_
                        with_reducible refine (scholiastlaw04_weighs.calls kj21 _ _ y311 false _ ?side1 ?side2 A46.out).mono ?_
                        (case side1 => repeat (first | exact (by repeat (first | (with_reducible exact HR314.out) | (with_reducible refine Kd.C_alloc ?_ _) | (with_reducible refine Kd.C_drewN ?_ _) | (with_reducible refine Kd.C_drew ?_) | exact HR314.out)) | (with_reducible refine Kd.C_alloc ?_ _) | (with_reducible refine Kd.C_drewN ?_ _) | (with_reducible refine Kd.C_drew ?_)))
                        (case side2 => exact HC314.out)
                        rintro e w112 ⟨rfl, hb⟩
                        have HS0_ := (hb.cell (World.block_lt_of_cell? _ _ (hHeld.1))).trans (hHeld.1)
                        have HS1_ := (hb.cell (World.block_lt_of_cell? _ _ (hHeld.2.1))).trans (hHeld.2.1)
                        have HS2_ := (hb.cell (World.block_lt_of_cell? _ _ (hHeld.2.2.1))).trans (hHeld.2.2.1)
                        have HS3_ := (hb.cell (World.block_lt_of_cell? _ _ (hHeld.2.2.2))).trans (hHeld.2.2.2)
                        refine ⟨_, rfl, ?_⟩
                        have n0_ := Aside0.mk (Kd.R_below (by (with_reducible repeat (first | apply Kd.R_alloc | apply Kd.R_drewN | apply Kd.R_drew)); exact HO_7.out) hb)
                        have n1_ := Aside0.mk (Kd.R_below (by (with_reducible repeat (first | apply Kd.R_alloc | apply Kd.R_drewN | apply Kd.R_drew)); exact HO_10.out) hb)
                        have n2_ := Aside0.mk (Kd.R_below (by (with_reducible repeat (first | apply Kd.R_alloc | apply Kd.R_drewN | apply Kd.R_drew)); exact HO305.out) hb)
                        have n3_ := Aside0.mk (Kd.R_below (by (with_reducible repeat (first | apply Kd.R_alloc | apply Kd.R_drewN | apply Kd.R_drew)); exact HO308.out) hb)
                        have n4_ := Aside0.mk (Kd.C_below (by repeat (first | (with_reducible exact HR314.out) | (with_reducible refine Kd.C_alloc ?_ _) | (with_reducible refine Kd.C_drewN ?_ _) | (with_reducible refine Kd.C_drew ?_) | exact HR314.out)) hb)
                        have n5_ := Aside0.mk (below_step (by repeat (first | (with_reducible first | exact HB.out | apply below_alloc | apply pw_below_drewN | apply below_drew1) | exact HB.out)) hb)
                        clear HO_7
                        clear HO_10
                        clear HO305
                        clear HO308
                        clear HR314
                        clear HB
                        have HO_7 := n0_
                        have HO_10 := n1_
                        have HO305 := n2_
                        have HO308 := n3_
                        have HR314 := n4_
                        have HB := n5_
                        clear n0_ n1_ n2_ n3_ n4_ n5_
                        (try clear hb)
                        (try clear hb2)
                        (try clear hk)
                        (try clear hi)
                        refine hK.out _ _ ⟨HS0_, HS1_, HS2_, HS3_⟩ (fun hHeld => ?_)
                        clear hK K
                        refine norm_ (a' := ?_) ?_ ?_
                        rotate_left
                        ·show Act.put _ (some 98) _ = _
                         simp only [Act.put, List.setIfInBounds_toArray, List.set_cons_zero, List.set_cons_succ, i64_w, i32_w]
                         rfl
                        refine pure_ (i := 17) (N := some 99) (v := ?_) (a' := ?_) #[true, true, true, true, true, true, true, true, true, true, true, true, true, true, true, true, true, true] rfl rfl (any_of HT_.out (by kernel_rfl)) (fun _ _ _ h => h) (Or.inl ⟨by rfl, ?_⟩) ?_ ?_
                        rotate_left
                        ·intro w'
                         go_simp
                         with_reducible rfl
                        rotate_left
                        ·simp only [Act.put, List.setIfInBounds_toArray, List.set_cons_zero, List.set_cons_succ, i64_w, i32_w]
                         rfl
                        refine done_ (done_of HT_.out (by kernel_rfl)) ?_
                        obtain ⟨Ao113, co113, eo113⟩ := Kd.R_slice HO308.out
                        subst eo113
                        try go_wp2
                        go_ret
                        exact ⟨by first | rfl | (simp [errW_none, errW_some] <;> rfl) | (simp only [← hji36]; first | rfl | (simp [errW_none, errW_some] <;> rfl)) | (simp [*, errW_none, errW_some] <;> rfl), by repeat (first | (with_reducible first | exact HB.out | apply below_alloc | apply pw_below_drewN | apply below_drew1) | exact HB.out)⟩
                      ·rw [if_neg c45] at H
                       exact absurd H (by simp)
                     ·rw [if_neg c44] at H
                      exact absurd H (by simp)
                    ·rw [if_neg c43] at H
                     exact absurd H (by simp)
                   ·rw [if_neg c42] at H
                    exact absurd H (by simp)
                  ·rw [if_neg c41] at H
                   exact absurd H (by simp)
                 ·rw [if_neg c39] at H
                  exact absurd H (by simp)
                ·rw [if_neg c38] at H
                 exact absurd H (by simp)
               ·rw [if_neg c37] at H
                exact absurd H (by simp)
              ·rw [if_neg c35] at H
               exact absurd H (by simp)
             ·rw [if_neg c34] at H
              exact absurd H (by simp)
            ·rw [if_neg c33] at H
             exact absurd H (by simp)
           ·rw [if_neg c32] at H
            exact absurd H (by simp)
 ·replace c5 := Bool.eq_false_iff.mpr c5
  subst c5
  have H1 : (some false) = some r := by rw [if_neg (show ¬ (false = true) by decide)] at H; exact H
  clear H
  have H := H1
  clear H1
  obtain rfl := Option.some.inj H
  go_enter Try.func8, Try.ntmps8
  go_wp2_with (first | ((with_reducible refine gate_callee (f := 9) rfl ?_); refine goesL_ (some 16) rfl rfl Try.func9 (by kernel_rfl) rfl #[] rfl (by (try simp only [List.map_toArray, List.map_cons, List.map_nil]); first | done | rfl | (simp only [List.length_drop, List.length_take]; rfl)) ?_; (with_reducible refine (scholiastlaw04_shown.calls k  false _ A4.out).mono ?_); rintro e w114 ⟨rfl, hb⟩; refine ⟨_, rfl, ?_⟩; have n0_ := Aside0.mk (below_step (by repeat (first | (with_reducible first | exact HB.out | apply below_alloc | apply pw_below_drewN | apply below_drew1) | exact HB.out)) hb); clear HB; have HB := n0_; clear n0_; (try clear hb); (try clear hb2); (try clear hk); (try clear hi)))
  go_ret
  exact ⟨by first | rfl | (simp [errW_none, errW_some] <;> rfl) | (simp [*, errW_none, errW_some] <;> rfl), by repeat (first | (with_reducible first | exact HB.out | apply below_alloc | apply pw_below_drewN | apply below_drew1) | exact HB.out)⟩

end Go.Proofs.Ytcejdokeaoklaaa.PChk
