-- Written by a program of this session (wip/tools/printseat.sh).
import Derived.Test.YtcejdokeaoklaaaPChkx0
import Derived.Test.YtcejdokeaoklaaaPChkx1
import Derived.Test.YtcejdokeaoklaaaPChkx4
import Derived.Test.YtcejdokeaoklaaaPChkx6
import Derived.Test.YtcejdokeaoklaaaPChkx7
namespace Go.Proofs.Ytcejdokeaoklaaa.PChk
open Go.RowKit Go.Proofs.YtcejdokeaoklaaaW.PrintWords Go.Proofs.YtcejdokeaoklaaaW.PrintLast Go.Proofs.YtcejdokeaoklaaaW.PrintMore
attribute [local go_sem] max2_int min2_int max_two min_two max_three min_three max_four min_four   -- for this text's walks alone
set_option linter.unusedVariables false
set_option linter.unusedSimpArgs false

attribute [local go_sem high] eqA25
/-! ### scholiastlaw04_ChunkCuts: function 3 -/
mutual
def scholiastlaw04_ChunkCuts.j0 : Nat → List (S25) → List (S25) → List (S30) → List (S30) → Bool → Option (Bool)
  | 0, _, _, _, _, _ => none
  | k + 1, x0, x4, x5, x6, x37 => if x37 = true then (some false) else (scholiastlaw04_ChunkCuts.l0 k x0 x4 x5 x6 (x0.length : Int) 0)
def scholiastlaw04_ChunkCuts.l0 : Nat → List (S25) → List (S25) → List (S30) → List (S30) → Int → Int → Option (Bool)
  | 0, _, _, _, _, _, _ => none
  | k + 1, x0, x4, x5, x6, x39, x40 => if x40 < x39 then (if 0 ≤ x40 then (if x40 < (x4.length : Int) then (if x40 < (x0.length : Int) then (if (!(((rd_T25 x4 x40).f0) == ((rd_T25 x0 x40).f0)) || (!(((rd_T25 x4 x40).f1) == ((rd_T25 x0 x40).f1)) || (!(((rd_T25 x4 x40).f2) == ((rd_T25 x0 x40).f2))))) = true then (some false) else (scholiastlaw04_ChunkCuts.l0 k x0 (x4.set (x40 : Int).toNat (⟨15, 0, 0⟩ : S25)) x5 x6 x39 (wrap64 (x40 + 1)))) else (none)) else (none)) else (none)) else (if ([] : List (S25)).length + x0.length < 5864062014805 then ((chunk_Cut.f (([] : List (S25)) ++ x0)).bind fun t181 => (scholiastlaw04_ChunkCuts.l1 k x5 x6 t181 (x5.length : Int) 0)) else (none))
def scholiastlaw04_ChunkCuts.l1 : Nat → List (S30) → List (S30) → List (S30) → Int → Int → Option (Bool)
  | 0, _, _, _, _, _ => none
  | k + 1, x5, x6, x8, x61, x62 => if x62 < x61 then (if 0 ≤ x62 then (if x62 < (x5.length : Int) then (scholiastlaw04_ChunkCuts.l1 k (x5.set (x62 : Int).toNat (⟨(-1), 0⟩ : S30)) x6 x8 x61 (wrap64 (x62 + 1))) else (none)) else (none)) else ((some (([(⟨(-1), 0⟩ : S30), (⟨(-1), 0⟩ : S30)] : List (S30)) : List (S30))).bind fun y185 => (if x5.length + y185.length < 8796093022208 then ((scholiastlaw04_spans.f k x8 x6).bind fun t191 => (if t191 = true then (some (((x5 ++ y185).length : Int) == (wrap64 ((x6.length : Int) + 2)))) else (some false))) else (none)))
end
def scholiastlaw04_ChunkCuts.f (k : Nat) (l0 : List (S25)) : Option (Bool) := (scholiastlaw04_shown.f k).bind fun t152 => (if t152 = true then (if ([] : List (S25)).length + l0.length < 5864062014805 then ((some (([] : List (S25)) ++ l0 : List (S25))).bind fun y154 => ((some (([(⟨59, (-7), 0⟩ : S25)] : List (S25)) : List (S25))).bind fun y157 => (if y154.length + y157.length < 5864062014805 then ((some (y154 ++ y157 : List (S25))).bind fun y160 => (if 0 ≤ (l0.length : Int) then (if (l0.length : Int) ≤ (y160.length : Int) then ((chunk_Cut.f (y160.take ((l0.length : Int) : Int).toNat)).bind fun t167 => ((scholiastref04_Cut.f k l0).bind fun t170 => ((scholiastlaw04_spans.f k t167 t170).bind fun t173 => (if t173 = true then (if (l0.length : Int) < (y160.length : Int) then (scholiastlaw04_ChunkCuts.j0 k l0 y160 t167 t170 (!(((rd_T25 y160 (l0.length : Int)).f0) == 59) || (!(((rd_T25 y160 (l0.length : Int)).f1) == (-7)) || (!(((rd_T25 y160 (l0.length : Int)).f2) == 0))))) else (none)) else (scholiastlaw04_ChunkCuts.j0 k l0 y160 t167 t170 true))))) else (none)) else (none))) else (none)))) else (none)) else (some false))
theorem scholiastlaw04_ChunkCuts.mono_l : ∀ k, (∀ y0 y1 y2 y3 y4, LeO (scholiastlaw04_ChunkCuts.j0 k y0 y1 y2 y3 y4) (scholiastlaw04_ChunkCuts.j0 (k + 1) y0 y1 y2 y3 y4)) ∧ (∀ y0 y1 y2 y3 y4 y5, LeO (scholiastlaw04_ChunkCuts.l0 k y0 y1 y2 y3 y4 y5) (scholiastlaw04_ChunkCuts.l0 (k + 1) y0 y1 y2 y3 y4 y5)) ∧ (∀ y0 y1 y2 y3 y4, LeO (scholiastlaw04_ChunkCuts.l1 k y0 y1 y2 y3 y4) (scholiastlaw04_ChunkCuts.l1 (k + 1) y0 y1 y2 y3 y4))
  | 0 => ⟨fun _ _ _ _ _ r h => by simp [scholiastlaw04_ChunkCuts.j0] at h, fun _ _ _ _ _ _ r h => by simp [scholiastlaw04_ChunkCuts.l0] at h, fun _ _ _ _ _ r h => by simp [scholiastlaw04_ChunkCuts.l1] at h⟩
  | k + 1 => by
    obtain ⟨ih0, ih1, ih2⟩ := scholiastlaw04_ChunkCuts.mono_l k
    refine ⟨?_, ?_, ?_⟩
    · intro y0 y1 y2 y3 y4
      unfold scholiastlaw04_ChunkCuts.j0
      repeat' first
      | (with_reducible exact ih0 _ _ _ _ _)
      | (with_reducible exact ih1 _ _ _ _ _ _)
      | (with_reducible exact ih2 _ _ _ _ _)
      | (with_reducible exact scholiastlaw04_shown.mono _)
      | (with_reducible exact scholiastlaw04_spans.mono _ _ _)
      | (with_reducible exact scholiastref04_Cut.mono _ _)
      | (with_reducible exact LeO.refl _)
      | (with_reducible exact LeO.none _)
      | (with_reducible refine LeO.ite ?_ ?_)
      | (with_reducible refine LeO.bind ?_ (fun _ => ?_))
      | exact ih0 _ _ _ _ _
      | exact ih1 _ _ _ _ _ _
      | exact ih2 _ _ _ _ _
      | exact scholiastlaw04_shown.mono _
      | exact scholiastlaw04_spans.mono _ _ _
      | exact scholiastref04_Cut.mono _ _
      | exact LeO.none _
      | refine LeO.ite ?_ ?_
      | refine LeO.bind ?_ (fun _ => ?_)
    · intro y0 y1 y2 y3 y4 y5
      unfold scholiastlaw04_ChunkCuts.l0
      repeat' first
      | (with_reducible exact ih0 _ _ _ _ _)
      | (with_reducible exact ih1 _ _ _ _ _ _)
      | (with_reducible exact ih2 _ _ _ _ _)
      | (with_reducible exact scholiastlaw04_shown.mono _)
      | (with_reducible exact scholiastlaw04_spans.mono _ _ _)
      | (with_reducible exact scholiastref04_Cut.mono _ _)
      | (with_reducible exact LeO.refl _)
      | (with_reducible exact LeO.none _)
      | (with_reducible refine LeO.ite ?_ ?_)
      | (with_reducible refine LeO.bind ?_ (fun _ => ?_))
      | exact ih0 _ _ _ _ _
      | exact ih1 _ _ _ _ _ _
      | exact ih2 _ _ _ _ _
      | exact scholiastlaw04_shown.mono _
      | exact scholiastlaw04_spans.mono _ _ _
      | exact scholiastref04_Cut.mono _ _
      | exact LeO.none _
      | refine LeO.ite ?_ ?_
      | refine LeO.bind ?_ (fun _ => ?_)
    · intro y0 y1 y2 y3 y4
      unfold scholiastlaw04_ChunkCuts.l1
      repeat' first
      | (with_reducible exact ih0 _ _ _ _ _)
      | (with_reducible exact ih1 _ _ _ _ _ _)
      | (with_reducible exact ih2 _ _ _ _ _)
      | (with_reducible exact scholiastlaw04_shown.mono _)
      | (with_reducible exact scholiastlaw04_spans.mono _ _ _)
      | (with_reducible exact scholiastref04_Cut.mono _ _)
      | (with_reducible exact LeO.refl _)
      | (with_reducible exact LeO.none _)
      | (with_reducible refine LeO.ite ?_ ?_)
      | (with_reducible refine LeO.bind ?_ (fun _ => ?_))
      | exact ih0 _ _ _ _ _
      | exact ih1 _ _ _ _ _ _
      | exact ih2 _ _ _ _ _
      | exact scholiastlaw04_shown.mono _
      | exact scholiastlaw04_spans.mono _ _ _
      | exact scholiastref04_Cut.mono _ _
      | exact LeO.none _
      | refine LeO.ite ?_ ?_
      | refine LeO.bind ?_ (fun _ => ?_)
theorem scholiastlaw04_ChunkCuts.mono : ∀ a0 k, LeO (scholiastlaw04_ChunkCuts.f k a0) (scholiastlaw04_ChunkCuts.f (k + 1) a0) := by
  intro a0 k
  obtain ⟨ih0, ih1, ih2⟩ := scholiastlaw04_ChunkCuts.mono_l k
  unfold scholiastlaw04_ChunkCuts.f
  repeat' first
      | (with_reducible exact ih0 _ _ _ _ _)
      | (with_reducible exact ih1 _ _ _ _ _ _)
      | (with_reducible exact ih2 _ _ _ _ _)
      | (with_reducible exact scholiastlaw04_shown.mono _)
      | (with_reducible exact scholiastlaw04_spans.mono _ _ _)
      | (with_reducible exact scholiastref04_Cut.mono _ _)
      | (with_reducible exact LeO.refl _)
      | (with_reducible exact LeO.none _)
      | (with_reducible refine LeO.ite ?_ ?_)
      | (with_reducible refine LeO.bind ?_ (fun _ => ?_))
      | exact ih0 _ _ _ _ _
      | exact ih1 _ _ _ _ _ _
      | exact ih2 _ _ _ _ _
      | exact scholiastlaw04_shown.mono _
      | exact scholiastlaw04_spans.mono _ _ _
      | exact scholiastref04_Cut.mono _ _
      | exact LeO.none _
      | refine LeO.ite ?_ ?_
      | refine LeO.bind ?_ (fun _ => ?_)
def scholiastlaw04_ChunkCuts.T7 : Bool × List (List Nat × List Nat) := (true, [([], []), ([], []), ([0, 1], [0, 1]), ([2], [2]), ([3, 2], [3]), ([4], [4]), ([4], [4]), ([6, 4], [4, 6]), ([5, 7, 4], [4, 5, 7]), ([8, 4], [4, 8]), ([4], [4]), ([9, 10, 4], [4, 9, 10]), ([4, 11], [4, 11])])
def scholiastlaw04_ChunkCuts.B7 : List Nat := [0, 0, 3, 7, 15, 31, 31, 95, 255, 511, 31, 2047, 4095]
theorem scholiastlaw04_ChunkCuts.tab7 : rtab .any (opsOf Try.f3 7) = scholiastlaw04_ChunkCuts.T7 := by kernel_rfl
theorem scholiastlaw04_ChunkCuts.bits7 : waitsOk scholiastlaw04_ChunkCuts.T7.2 scholiastlaw04_ChunkCuts.B7 = true := by kernel_rfl
def scholiastlaw04_ChunkCuts.T12 : Bool × List (List Nat × List Nat) := (true, [([], []), ([], []), ([0, 1], [0, 1]), ([2], [2]), ([], []), ([], []), ([4, 5], [4, 5]), ([6], [6]), ([3, 7], [3, 7])])
def scholiastlaw04_ChunkCuts.B12 : List Nat := [0, 0, 3, 7, 0, 0, 48, 112, 255]
theorem scholiastlaw04_ChunkCuts.tab12 : rtab .any (opsOf Try.f3 12) = scholiastlaw04_ChunkCuts.T12 := by kernel_rfl
theorem scholiastlaw04_ChunkCuts.bits12 : waitsOk scholiastlaw04_ChunkCuts.T12.2 scholiastlaw04_ChunkCuts.B12 = true := by kernel_rfl
set_option maxHeartbeats 8000000 in
set_option maxRecDepth 100000 in
theorem scholiastlaw04_ChunkCuts.calls (k : Nat) (A0 : Option Addr) (c0 : Nat) (l0 : List (S25)) (r : Bool) (w : World) (hr0 : Kd.C k25 w A0 l0.length l0) (hc0 : l0.length ≤ c0) (h : scholiastlaw04_ChunkCuts.f k l0 = some r) :
    Calls Try.prog 3 #[.slice A0 l0.length c0] w fun e w' => e = .returned (.bool r) ∧ Below w.heap.size w w' := by
  have hu25 := Try.underlying25
  have hu30 := Try.underlying30
  have HR0 := Aside0.mk hr0
  have HC0 := Aside0.mk hc0
  clear hr0 hc0
  have HB := Aside0.mk (Below.refl w.heap.size w)
  have H : ((scholiastlaw04_shown.f k).bind fun t152 => (if t152 = true then (if ([] : List (S25)).length + l0.length < 5864062014805 then ((some (([] : List (S25)) ++ l0 : List (S25))).bind fun y154 => ((some (([(⟨59, (-7), 0⟩ : S25)] : List (S25)) : List (S25))).bind fun y157 => (if y154.length + y157.length < 5864062014805 then ((some (y154 ++ y157 : List (S25))).bind fun y160 => (if 0 ≤ (l0.length : Int) then (if (l0.length : Int) ≤ (y160.length : Int) then ((chunk_Cut.f (y160.take ((l0.length : Int) : Int).toNat)).bind fun t167 => ((scholiastref04_Cut.f k l0).bind fun t170 => ((scholiastlaw04_spans.f k t167 t170).bind fun t173 => (if t173 = true then (if (l0.length : Int) < (y160.length : Int) then (scholiastlaw04_ChunkCuts.j0 k l0 y160 t167 t170 (!(((rd_T25 y160 (l0.length : Int)).f0) == 59) || (!(((rd_T25 y160 (l0.length : Int)).f1) == (-7)) || (!(((rd_T25 y160 (l0.length : Int)).f2) == 0))))) else (none)) else (scholiastlaw04_ChunkCuts.j0 k l0 y160 t167 t170 true))))) else (none)) else (none))) else (none)))) else (none)) else (some false))) = some r := h
  clear h
  replace H := Option.bind_eq_some_iff.mp H
  obtain ⟨t152, A20, H⟩ := H
  replace H : (if t152 = true then (if ([] : List (S25)).length + l0.length < 5864062014805 then ((some (([] : List (S25)) ++ l0 : List (S25))).bind fun y154 => ((some (([(⟨59, (-7), 0⟩ : S25)] : List (S25)) : List (S25))).bind fun y157 => (if y154.length + y157.length < 5864062014805 then ((some (y154 ++ y157 : List (S25))).bind fun y160 => (if 0 ≤ (l0.length : Int) then (if (l0.length : Int) ≤ (y160.length : Int) then ((chunk_Cut.f (y160.take ((l0.length : Int) : Int).toNat)).bind fun t167 => ((scholiastref04_Cut.f k l0).bind fun t170 => ((scholiastlaw04_spans.f k t167 t170).bind fun t173 => (if t173 = true then (if (l0.length : Int) < (y160.length : Int) then (scholiastlaw04_ChunkCuts.j0 k l0 y160 t167 t170 (!(((rd_T25 y160 (l0.length : Int)).f0) == 59) || (!(((rd_T25 y160 (l0.length : Int)).f1) == (-7)) || (!(((rd_T25 y160 (l0.length : Int)).f2) == 0))))) else (none)) else (scholiastlaw04_ChunkCuts.j0 k l0 y160 t167 t170 true))))) else (none)) else (none))) else (none)))) else (none)) else (some false)) = some r := H
  have A2 := Aside0.mk A20
  clear A20
  by_cases c3 : t152 = true
  · subst c3
    have H1 : (if ([] : List (S25)).length + l0.length < 5864062014805 then ((some (([] : List (S25)) ++ l0 : List (S25))).bind fun y154 => ((some (([(⟨59, (-7), 0⟩ : S25)] : List (S25)) : List (S25))).bind fun y157 => (if y154.length + y157.length < 5864062014805 then ((some (y154 ++ y157 : List (S25))).bind fun y160 => (if 0 ≤ (l0.length : Int) then (if (l0.length : Int) ≤ (y160.length : Int) then ((chunk_Cut.f (y160.take ((l0.length : Int) : Int).toNat)).bind fun t167 => ((scholiastref04_Cut.f k l0).bind fun t170 => ((scholiastlaw04_spans.f k t167 t170).bind fun t173 => (if t173 = true then (if (l0.length : Int) < (y160.length : Int) then (scholiastlaw04_ChunkCuts.j0 k l0 y160 t167 t170 (!(((rd_T25 y160 (l0.length : Int)).f0) == 59) || (!(((rd_T25 y160 (l0.length : Int)).f1) == (-7)) || (!(((rd_T25 y160 (l0.length : Int)).f2) == 0))))) else (none)) else (scholiastlaw04_ChunkCuts.j0 k l0 y160 t167 t170 true))))) else (none)) else (none))) else (none)))) else (none)) = some r := by rw [if_pos rfl] at H; exact H
    clear H
    have H := H1
    clear H1
    by_cases c4 : ([] : List (S25)).length + l0.length < 5864062014805
    · rw [if_pos c4] at H
      have LMc4 := Aside0.mk c4
      clear c4
      obtain ⟨y154, hy154⟩ : ∃ y_ : List (S25), y_ = (([] : List (S25)) ++ l0) := ⟨_, rfl⟩
      replace H : ((some (([(⟨59, (-7), 0⟩ : S25)] : List (S25)) : List (S25))).bind fun y157 => (if y154.length + y157.length < 5864062014805 then ((some (y154 ++ y157 : List (S25))).bind fun y160 => (if 0 ≤ (l0.length : Int) then (if (l0.length : Int) ≤ (y160.length : Int) then ((chunk_Cut.f (y160.take ((l0.length : Int) : Int).toNat)).bind fun t167 => ((scholiastref04_Cut.f k l0).bind fun t170 => ((scholiastlaw04_spans.f k t167 t170).bind fun t173 => (if t173 = true then (if (l0.length : Int) < (y160.length : Int) then (scholiastlaw04_ChunkCuts.j0 k l0 y160 t167 t170 (!(((rd_T25 y160 (l0.length : Int)).f0) == 59) || (!(((rd_T25 y160 (l0.length : Int)).f1) == (-7)) || (!(((rd_T25 y160 (l0.length : Int)).f2) == 0))))) else (none)) else (scholiastlaw04_ChunkCuts.j0 k l0 y160 t167 t170 true))))) else (none)) else (none))) else (none))) = some r := by first | (rw [hy154]; with_reducible exact H) | (have H2_ := (Option.bind_some _ _).symm.trans H; rw [hy154]; with_reducible exact H2_) | (have H2_ := (Option.bind_some _ _).symm.trans H; with_reducible exact H2_) | with_reducible exact H | (rw [hy154]; exact H) | exact H
      have Ny154 := Aside0.mk hy154
      clear hy154
      obtain ⟨y157, hy157⟩ : ∃ y_ : List (S25), y_ = (([(⟨59, (-7), 0⟩ : S25)] : List (S25))) := ⟨_, rfl⟩
      replace H : (if y154.length + y157.length < 5864062014805 then ((some (y154 ++ y157 : List (S25))).bind fun y160 => (if 0 ≤ (l0.length : Int) then (if (l0.length : Int) ≤ (y160.length : Int) then ((chunk_Cut.f (y160.take ((l0.length : Int) : Int).toNat)).bind fun t167 => ((scholiastref04_Cut.f k l0).bind fun t170 => ((scholiastlaw04_spans.f k t167 t170).bind fun t173 => (if t173 = true then (if (l0.length : Int) < (y160.length : Int) then (scholiastlaw04_ChunkCuts.j0 k l0 y160 t167 t170 (!(((rd_T25 y160 (l0.length : Int)).f0) == 59) || (!(((rd_T25 y160 (l0.length : Int)).f1) == (-7)) || (!(((rd_T25 y160 (l0.length : Int)).f2) == 0))))) else (none)) else (scholiastlaw04_ChunkCuts.j0 k l0 y160 t167 t170 true))))) else (none)) else (none))) else (none)) = some r := by first | (rw [hy157]; with_reducible exact H) | (have H2_ := (Option.bind_some _ _).symm.trans H; rw [hy157]; with_reducible exact H2_) | (have H2_ := (Option.bind_some _ _).symm.trans H; with_reducible exact H2_) | with_reducible exact H | (rw [hy157]; exact H) | exact H
      have Ny157 := Aside0.mk hy157
      clear hy157
      by_cases c5 : y154.length + y157.length < 5864062014805
      · rw [if_pos c5] at H
        have LMc5 := Aside0.mk c5
        clear c5
        obtain ⟨y160, hy160⟩ : ∃ y_ : List (S25), y_ = (y154 ++ y157) := ⟨_, rfl⟩
        replace H : (if 0 ≤ (l0.length : Int) then (if (l0.length : Int) ≤ (y160.length : Int) then ((chunk_Cut.f (y160.take ((l0.length : Int) : Int).toNat)).bind fun t167 => ((scholiastref04_Cut.f k l0).bind fun t170 => ((scholiastlaw04_spans.f k t167 t170).bind fun t173 => (if t173 = true then (if (l0.length : Int) < (y160.length : Int) then (scholiastlaw04_ChunkCuts.j0 k l0 y160 t167 t170 (!(((rd_T25 y160 (l0.length : Int)).f0) == 59) || (!(((rd_T25 y160 (l0.length : Int)).f1) == (-7)) || (!(((rd_T25 y160 (l0.length : Int)).f2) == 0))))) else (none)) else (scholiastlaw04_ChunkCuts.j0 k l0 y160 t167 t170 true))))) else (none)) else (none)) = some r := by first | (rw [hy160]; with_reducible exact H) | (have H2_ := (Option.bind_some _ _).symm.trans H; rw [hy160]; with_reducible exact H2_) | (have H2_ := (Option.bind_some _ _).symm.trans H; with_reducible exact H2_) | with_reducible exact H | (rw [hy160]; exact H) | exact H
        have Ny160 := Aside0.mk hy160
        clear hy160
        by_cases c6 : 0 ≤ (l0.length : Int)
        · rw [if_pos c6] at H
          have c6b0 := eq_true c6
          have c6b1 : decide (0 ≤ (l0.length : Int)) = true := decide_eq_true c6
          clear c6
          by_cases c7 : (l0.length : Int) ≤ (y160.length : Int)
          · rw [if_pos c7] at H
            have c7b0 := eq_true c7
            have c7b1 : decide ((l0.length : Int) ≤ (y160.length : Int)) = true := decide_eq_true c7
            clear c7
            obtain ⟨y163, hy163⟩ : ∃ y_ : List (S25), y_ = (y160.take ((l0.length : Int) : Int).toNat) := ⟨_, rfl⟩
            replace H : ((chunk_Cut.f y163).bind fun t167 => ((scholiastref04_Cut.f k l0).bind fun t170 => ((scholiastlaw04_spans.f k t167 t170).bind fun t173 => (if t173 = true then (if (l0.length : Int) < (y160.length : Int) then (scholiastlaw04_ChunkCuts.j0 k l0 y160 t167 t170 (!(((rd_T25 y160 (l0.length : Int)).f0) == 59) || (!(((rd_T25 y160 (l0.length : Int)).f1) == (-7)) || (!(((rd_T25 y160 (l0.length : Int)).f2) == 0))))) else (none)) else (scholiastlaw04_ChunkCuts.j0 k l0 y160 t167 t170 true))))) = some r := by first | (rw [hy163]; with_reducible exact H) | (have H2_ := (Option.bind_some _ _).symm.trans H; rw [hy163]; with_reducible exact H2_) | (have H2_ := (Option.bind_some _ _).symm.trans H; with_reducible exact H2_) | with_reducible exact H | (rw [hy163]; exact H) | exact H
            have Ny163 := Aside0.mk hy163
            clear hy163
            replace H := Option.bind_eq_some_iff.mp H
            obtain ⟨t167, A80, H⟩ := H
            replace H : ((scholiastref04_Cut.f k l0).bind fun t170 => ((scholiastlaw04_spans.f k t167 t170).bind fun t173 => (if t173 = true then (if (l0.length : Int) < (y160.length : Int) then (scholiastlaw04_ChunkCuts.j0 k l0 y160 t167 t170 (!(((rd_T25 y160 (l0.length : Int)).f0) == 59) || (!(((rd_T25 y160 (l0.length : Int)).f1) == (-7)) || (!(((rd_T25 y160 (l0.length : Int)).f2) == 0))))) else (none)) else (scholiastlaw04_ChunkCuts.j0 k l0 y160 t167 t170 true)))) = some r := H
            have A8 := Aside0.mk A80
            clear A80
            replace H := Option.bind_eq_some_iff.mp H
            obtain ⟨t170, A90, H⟩ := H
            replace H : ((scholiastlaw04_spans.f k t167 t170).bind fun t173 => (if t173 = true then (if (l0.length : Int) < (y160.length : Int) then (scholiastlaw04_ChunkCuts.j0 k l0 y160 t167 t170 (!(((rd_T25 y160 (l0.length : Int)).f0) == 59) || (!(((rd_T25 y160 (l0.length : Int)).f1) == (-7)) || (!(((rd_T25 y160 (l0.length : Int)).f2) == 0))))) else (none)) else (scholiastlaw04_ChunkCuts.j0 k l0 y160 t167 t170 true))) = some r := H
            have A9 := Aside0.mk A90
            clear A90
            have HC10 := Aside0.mk H
            clear H
            go_enter Try.func3, Try.ntmps3
            try go_wp2_with (first | ((with_reducible refine gate_callee (f := 9) rfl ?_); refine goesL_ (some 10) rfl rfl Try.func9 (by kernel_rfl) rfl #[] rfl (by (try simp only [List.map_toArray, List.map_cons, List.map_nil]); first | done | rfl | (simp only [List.length_drop, List.length_take]; rfl)) ?_; (with_reducible refine (scholiastlaw04_shown.calls k  true _ A2.out).mono ?_); rintro e w11 ⟨rfl, hb⟩; refine ⟨_, rfl, ?_⟩; have n0_ := Aside0.mk (below_step (by repeat (first | (with_reducible first | exact HB.out | apply below_alloc | apply pw_below_drewN | apply below_drew1) | exact HB.out)) hb); clear HB; have HB := n0_; clear n0_; (try clear hb); (try clear hb2); (try clear hk); (try clear hi)) | ((with_reducible refine gate_dst (N := 3) rfl ?_); (try (refine gate_guard (by rfl) ?_; dsimp only)); refine box_event ?hg (N := 3) ?hd (cs := #[.int .i64 0, .int .i64 0, .int .i64 0]) (t := 25) ?hr ?_; (case hd => rfl); (case hg => rfl); (case hr => first | (go_simp; done) | (go_simp; rfl)); intro gb153 hg w12 hbox hb; have n0_ := Aside0.mk (below_step (by repeat (first | (with_reducible first | exact HB.out | apply below_alloc | apply pw_below_drewN | apply below_drew1) | exact HB.out)) hb); have n1_ := Aside0.mk (hbox); have n2_ := Aside0.mk ((by rw [hg]; exact (below_size (by repeat (first | (with_reducible first | exact HB.out | apply below_alloc | apply pw_below_drewN | apply below_drew1) | exact HB.out))) : w.heap.size ≤ gb153)); have n3_ := Aside0.mk ((by rw [hg]; exact (below_size (by repeat (first | (with_reducible first | exact HB.out | apply below_alloc | apply pw_below_drewN | apply below_drew1) | exact HB.out))) : w.heap.size ≤ gb153)); clear HB; have HB := n0_; have BK153 := n1_; have GW153 := n2_; have GE153 := n3_; clear n0_ n1_ n2_ n3_; clear hb hbox hg; have hcz13_0 : w12.cell? ⟨gb153, 0, none⟩ = some (.int .i64 0) := (blk_cell BK153.out 0).trans rfl; have hcz13_1 : w12.cell? ⟨gb153, 1, none⟩ = some (.int .i64 0) := (blk_cell BK153.out 1).trans rfl; have hcz13_2 : w12.cell? ⟨gb153, 2, none⟩ = some (.int .i64 0) := (blk_cell BK153.out 2).trans rfl; have hfz13_0 := blk_frozen BK153.out 0; have hfz13_1 := blk_frozen BK153.out 1; have hfz13_2 := blk_frozen BK153.out 2))
            have n0_ : Aside0 ((((w12.setCell ⟨gb153, 0, none⟩ (.int .i64 59)).setCell ⟨gb153, 1, none⟩ (.int .i64 (-7))).setCell ⟨gb153, 2, none⟩ (.int .i64 0)).heap[gb153]? = some (.cells #[.int .i64 59, .int .i64 (-7), .int .i64 0] 25 (0, 0))) := ⟨by (with_reducible repeat (first | refine blk_drewN ?_ _ | refine blk_drew ?_ | refine blk_alloc ?_ _)); refine blk_put (cs := #[.int .i64 59, .int .i64 (-7), .int .i64 0]) ?_ 2 _ rfl; (with_reducible repeat (first | refine blk_drewN ?_ _ | refine blk_drew ?_ | refine blk_alloc ?_ _)); refine blk_put (cs := #[.int .i64 59, .int .i64 0, .int .i64 0]) ?_ 1 _ rfl; (with_reducible repeat (first | refine blk_drewN ?_ _ | refine blk_drew ?_ | refine blk_alloc ?_ _)); refine blk_put (cs := #[.int .i64 0, .int .i64 0, .int .i64 0]) ?_ 0 _ rfl; (with_reducible repeat (first | refine blk_drewN ?_ _ | refine blk_drew ?_ | refine blk_alloc ?_ _)); exact BK153.out⟩
            have n1_ : Aside0 (Below w.heap.size w (((w12.setCell ⟨gb153, 0, none⟩ (.int .i64 59)).setCell ⟨gb153, 1, none⟩ (.int .i64 (-7))).setCell ⟨gb153, 2, none⟩ (.int .i64 0))) := ⟨by repeat (first | (with_reducible first | exact HB.out | apply below_alloc | apply pw_below_drewN | apply below_drew1 | refine below_set ?_ GE153.out) | exact HB.out)⟩
            (try clear BK153)
            (try clear HB)
            generalize (((w12.setCell ⟨gb153, 0, none⟩ (.int .i64 59)).setCell ⟨gb153, 1, none⟩ (.int .i64 (-7))).setCell ⟨gb153, 2, none⟩ (.int .i64 0)) = w14 at n0_ n1_ ⊢
            have BK153 := n0_
            have HB := n1_
            clear n0_ n1_
            have n0_ := Aside0.mk (blk_drew BK153.out)
            have n1_ := Aside0.mk (below_drew1 HB.out)
            clear BK153
            clear HB
            have BK153 := n0_
            have HB := n1_
            clear n0_ n1_
            refine start_ (n := 6) (S := fun w' => w'.cell? ⟨gb153, 0, none⟩ = some (.int .i64 59) ∧ w'.cell? ⟨gb153, 1, none⟩ = some (.int .i64 (-7)) ∧ w'.cell? ⟨gb153, 2, none⟩ = some (.int .i64 0)) (ds := []) #[false, false, false, false, false, false] (by kernel_rfl) rfl rfl ⟨(blk_cell BK153.out 0).trans rfl, (blk_cell BK153.out 1).trans rfl, (blk_cell BK153.out 2).trans rfl⟩ (fun hHeld => ?_)
            generalize w14.drew = w15 at BK153 HB hHeld ⊢
            refine pure_ (i := 0) (N := some 13) (v := ?_) (a' := ?_) #[true, false, false, false, false, false] rfl rfl (by kernel_rfl) (fun _ _ _ h => h) (Or.inl ⟨by rfl, ?_⟩) ?_ ?_
            rotate_left
            · intro w'
              go_simp
              with_reducible rfl
            rotate_left
            · simp only [Act.put, List.setIfInBounds_toArray, List.set_cons_zero, List.set_cons_succ, i64_w, i32_w]
              rfl
            refine take_ (i := 2) (N := some 15) (v := ?_) (a' := ?_) #[true, false, true, false, false, false] rfl rfl (by kernel_rfl) (fun _ _ _ h => h) (Or.inl ⟨by rfl, ?_⟩) hHeld ?_ ?_
            rotate_left
            · rintro w' ⟨s0, s1, s2⟩
              (try simp only [Int.toNat_natCast] at s0 s1 s2)
              go_simp
              with_reducible rfl
            rotate_left
            · simp only [Act.put, List.setIfInBounds_toArray, List.set_cons_zero, List.set_cons_succ, i64_w, i32_w]
              rfl
            refine join_ (σ := Value × Value) 2 #[true, true, true, true, false, false] (fun s_ => [(14, s_.1), (16, s_.2)]) (fun s_ w' => (w'.cell? ⟨gb153, 0, none⟩ = some (.int .i64 59) ∧ w'.cell? ⟨gb153, 1, none⟩ = some (.int .i64 (-7)) ∧ w'.cell? ⟨gb153, 2, none⟩ = some (.int .i64 0)) ∧ (Kd.R k25 25 w' w.heap.size (fun k_ => some k_ ≠ (s_.2 : Value).ownBlock ∧ k_ ≠ gb153) s_.1 y154) ∧ (Kd.R k25 25 w' w.heap.size (fun k_ => some k_ ≠ (s_.1 : Value).ownBlock ∧ k_ ≠ gb153) s_.2 y157) ∧ (w'.heap[gb153]? = some (.cells #[.int .i64 59, .int .i64 (-7), .int .i64 0] 25 (0, 0))) ∧ (Below w.heap.size w w')) ?_ ?_
            rotate_left
            · intro hCont
              refine two_ (i := 1) (j := 3) (Ni := some 14) (Nj := some 16) #[true, true, true, false, false, false] #[true, false, true, true, false, false] rfl rfl rfl rfl (by kernel_rfl) (by decide) (by decide) (fun K hK => ?_) (fun K hK => ?_)
              · skip
                refine Kd.R_append_rows_step k25 (w0 := w) w.heap.size rfl (.const (.slice none 0 0)) (.tmp 13) 22 25 (.agg #[(.int .i64 0), (.int .i64 0), (.int .i64 0)]) 24 rfl Try.underlying22 info25 rfl (by decide) (by omega) (.slice none 0 0) ([] : List (S25)) l0 _ _ _ (fun k_ => k_ ≠ gb153) (fun _ => False) rfl rfl ?aO ?aR (fun _ _ h => h) (fun _ h => h.elim) ?aF ?aB ?aS ?aL ?_
                (case aR => repeat (first | exact (Kd.C_below HR0.out HB.out) | (with_reducible refine Kd.C_alloc ?_ _) | (with_reducible refine Kd.C_drewN ?_ _) | (with_reducible refine Kd.C_drew ?_)))
                (case aB => exact (by repeat (first | (with_reducible first | exact HB.out | apply below_alloc | apply pw_below_drewN | apply below_drew1 | refine below_set ?_ GE153.out) | exact HB.out)))
                (case aF => exact (fun k_ hk => Kd.freshB (g := gb153) (o := .cells #[.int .i64 59, .int .i64 (-7), .int .i64 0] 25 (0, 0)) (by (with_reducible repeat (first | refine blk_drewN ?_ _ | refine blk_drew ?_ | refine blk_alloc ?_ _)); exact BK153.out) k_ hk))
                (case aO => exact ((Kd.R_nil _ _ _ _ (fun k_ => k_ ≠ gb153))))
                (case aS => exact (below_size (by repeat (first | (with_reducible first | exact HB.out | apply below_alloc | apply pw_below_drewN | apply below_drew1 | refine below_set ?_ GE153.out) | exact HB.out))))
                (case aL => have := LMc4.out; omega)
                intro v155 w16 ho hb hg hat
                rw [← Ny154.out] at ho
                have n0_ := Aside0.mk (blk_grown (g := gb153) (o := .cells #[.int .i64 59, .int .i64 (-7), .int .i64 0] 25 (0, 0)) (by (with_reducible repeat (first | refine blk_drewN ?_ _ | refine blk_drew ?_ | refine blk_alloc ?_ _)); exact BK153.out) hg (by simp [Value.ownBlock]))
                have n1_ := Aside0.mk (hb)
                have n2_ := Aside0.mk (ho)
                clear BK153
                clear HB
                have BK153 := n0_
                have HB := n1_
                have HO156 := n2_
                clear n0_ n1_ n2_
                clear ho hb hg hat
                refine hK.out _ _ ⟨(blk_cell BK153.out 0).trans rfl, (blk_cell BK153.out 1).trans rfl, (blk_cell BK153.out 2).trans rfl⟩ (fun hHeld => ?_)
                clear hK K
                refine norm_ (a' := ?_) ?_ ?_
                rotate_left
                · show Act.put _ (some 14) _ = _
                  simp only [Act.put, List.setIfInBounds_toArray, List.set_cons_zero, List.set_cons_succ, i64_w, i32_w]
                  rfl
                refine one_ (i := 3) (N := some 16) #[true, true, true, true, false, false] rfl rfl (by kernel_rfl) (by decide) (fun K hK => ?_)
                refine Kd.R_lit_step k25 _ 25 ?hg (N := 16) ?hd (xs := ([(⟨59, (-7), 0⟩ : S25)] : List (S25))) (inner := [.int .i64 59, .int .i64 (-7), .int .i64 0]) (ok := fun _ => True) (okp := fun _ => True) ?hr ?hp (fun _ hk => hk) trivial (Below.refl _ _) (Nat.le_refl _) (by simp) ?_; (case hd => rfl); (case hg => rfl); (case hr => first | (go_simp; done) | (go_simp; rfl)); (case hp => exact (Reps.c3 (show Kd.M k25 _ _ _ (⟨59, (-7), 0⟩ : S25) [.int .i64 59, .int .i64 (-7), .int .i64 0] from (k25_mkM _ _ _ (⟨59, (-7), 0⟩ : S25) )) (Reps.none _ _)))
                intro v158 w17 ho18 hb hg_ hnew_
                clear hg_ hnew_
                (first | rw [← Ny157.out] at ho18 | (simp only [Int.reduceToNat] at ho18; rw [← Ny157.out] at ho18))
                have n0_ := Aside0.mk (Kd.R_elder' (by (with_reducible repeat (first | apply Kd.R_alloc | apply Kd.R_drewN | apply Kd.R_drew)); exact HO156.out) (Kd.R_base ho18) hb)
                have n1_ := Aside0.mk (Kd.R_lower (Kd.R_newB (Kd.R_new' ho18 (Kd.R_lt (by (with_reducible repeat (first | apply Kd.R_alloc | apply Kd.R_drewN | apply Kd.R_drew)); exact HO156.out))) (g := gb153) (o := .cells #[.int .i64 59, .int .i64 (-7), .int .i64 0] 25 (0, 0)) (by (with_reducible repeat (first | refine blk_drewN ?_ _ | refine blk_drew ?_ | refine blk_alloc ?_ _)); exact BK153.out)) (below_size (by repeat (first | (with_reducible first | exact HB.out | apply below_alloc | apply pw_below_drewN | apply below_drew1 | refine below_set ?_ GE153.out) | exact HB.out))))
                have n2_ := Aside0.mk (blk_below (g := gb153) (o := .cells #[.int .i64 59, .int .i64 (-7), .int .i64 0] 25 (0, 0)) (by (with_reducible repeat (first | refine blk_drewN ?_ _ | refine blk_drew ?_ | refine blk_alloc ?_ _)); exact BK153.out) hb)
                have n3_ := Aside0.mk (below_step (by repeat (first | (with_reducible first | exact HB.out | apply below_alloc | apply pw_below_drewN | apply below_drew1 | refine below_set ?_ GE153.out) | exact HB.out)) hb)
                clear HO156
                clear BK153
                clear HB
                have HO156 := n0_
                have HO159 := n1_
                have BK153 := n2_
                have HB := n3_
                clear n0_ n1_ n2_ n3_
                clear hb ho18
                refine hK.out _ _ ⟨(blk_cell BK153.out 0).trans rfl, (blk_cell BK153.out 1).trans rfl, (blk_cell BK153.out 2).trans rfl⟩ (fun hHeld => ?_)
                clear hK K
                refine norm_ (a' := ?_) ?_ ?_
                rotate_left
                · show Act.put _ (some 16) _ = _
                  simp only [Act.put, List.setIfInBounds_toArray, List.set_cons_zero, List.set_cons_succ, i64_w, i32_w]
                  rfl
                exact norm_ (by simp only [putAll, Act.put, List.setIfInBounds_toArray, List.set_cons_zero, List.set_cons_succ]) (hCont (v155, v158) _ ⟨hHeld, (by (with_reducible repeat (first | apply Kd.R_alloc | apply Kd.R_drewN | apply Kd.R_drew)); exact Kd.R_mono HO156.out (fun _ hk => ⟨hk.2, hk.1⟩)), (by (with_reducible repeat (first | apply Kd.R_alloc | apply Kd.R_drewN | apply Kd.R_drew)); exact Kd.R_mono HO159.out (fun _ hk => ⟨hk.1.2, hk.2⟩)), (by (with_reducible repeat (first | refine blk_drewN ?_ _ | refine blk_drew ?_ | refine blk_alloc ?_ _)); exact BK153.out), (by repeat (first | (with_reducible first | exact HB.out | apply below_alloc | apply pw_below_drewN | apply below_drew1 | refine below_set ?_ GE153.out) | exact HB.out))⟩)
              · skip
                refine Kd.R_lit_step k25 _ 25 ?hg (N := 16) ?hd (xs := ([(⟨59, (-7), 0⟩ : S25)] : List (S25))) (inner := [.int .i64 59, .int .i64 (-7), .int .i64 0]) (ok := fun _ => True) (okp := fun _ => True) ?hr ?hp (fun _ hk => hk) trivial (Below.refl _ _) (Nat.le_refl _) (by simp) ?_; (case hd => rfl); (case hg => rfl); (case hr => first | (go_simp; done) | (go_simp; rfl)); (case hp => exact (Reps.c3 (show Kd.M k25 _ _ _ (⟨59, (-7), 0⟩ : S25) [.int .i64 59, .int .i64 (-7), .int .i64 0] from (k25_mkM _ _ _ (⟨59, (-7), 0⟩ : S25) )) (Reps.none _ _)))
                intro v158 w16 ho17 hb hg_ hnew_
                clear hg_ hnew_
                (first | rw [← Ny157.out] at ho17 | (simp only [Int.reduceToNat] at ho17; rw [← Ny157.out] at ho17))
                have n0_ := Aside0.mk (Kd.R_lower (Kd.R_newB ho17 (g := gb153) (o := .cells #[.int .i64 59, .int .i64 (-7), .int .i64 0] 25 (0, 0)) (by (with_reducible repeat (first | refine blk_drewN ?_ _ | refine blk_drew ?_ | refine blk_alloc ?_ _)); exact BK153.out)) (below_size (by repeat (first | (with_reducible first | exact HB.out | apply below_alloc | apply pw_below_drewN | apply below_drew1 | refine below_set ?_ GE153.out) | exact HB.out))))
                have n1_ := Aside0.mk (blk_below (g := gb153) (o := .cells #[.int .i64 59, .int .i64 (-7), .int .i64 0] 25 (0, 0)) (by (with_reducible repeat (first | refine blk_drewN ?_ _ | refine blk_drew ?_ | refine blk_alloc ?_ _)); exact BK153.out) hb)
                have n2_ := Aside0.mk (below_step (by repeat (first | (with_reducible first | exact HB.out | apply below_alloc | apply pw_below_drewN | apply below_drew1 | refine below_set ?_ GE153.out) | exact HB.out)) hb)
                clear BK153
                clear HB
                have HO159 := n0_
                have BK153 := n1_
                have HB := n2_
                clear n0_ n1_ n2_
                clear hb ho17
                refine hK.out _ _ ⟨(blk_cell BK153.out 0).trans rfl, (blk_cell BK153.out 1).trans rfl, (blk_cell BK153.out 2).trans rfl⟩ (fun hHeld => ?_)
                clear hK K
                refine norm_ (a' := ?_) ?_ ?_
                rotate_left
                · show Act.put _ (some 16) _ = _
                  simp only [Act.put, List.setIfInBounds_toArray, List.set_cons_zero, List.set_cons_succ, i64_w, i32_w]
                  rfl
                refine one_ (i := 1) (N := some 14) #[true, true, true, true, false, false] rfl rfl (by kernel_rfl) (by decide) (fun K hK => ?_)
                refine Kd.R_append_rows_step k25 (w0 := w) w.heap.size rfl (.const (.slice none 0 0)) (.tmp 13) 22 25 (.agg #[(.int .i64 0), (.int .i64 0), (.int .i64 0)]) 24 rfl Try.underlying22 info25 rfl (by decide) (by omega) (.slice none 0 0) ([] : List (S25)) l0 _ _ _ (fun k_ => some k_ ≠ (v158 : Value).ownBlock ∧ k_ ≠ gb153) (fun _ => False) rfl rfl ?aO ?aR (fun _ _ h => h) (fun _ h => h.elim) ?aF ?aB ?aS ?aL ?_
                (case aR => repeat (first | exact (Kd.C_below HR0.out HB.out) | (with_reducible refine Kd.C_alloc ?_ _) | (with_reducible refine Kd.C_drewN ?_ _) | (with_reducible refine Kd.C_drew ?_)))
                (case aB => exact (by repeat (first | (with_reducible first | exact HB.out | apply below_alloc | apply pw_below_drewN | apply below_drew1 | refine below_set ?_ GE153.out) | exact HB.out)))
                (case aF => exact (fun k_ hk => ⟨Kd.fresh' (Kd.R_lt (by (with_reducible repeat (first | apply Kd.R_alloc | apply Kd.R_drewN | apply Kd.R_drew)); exact HO159.out)) k_ hk, Kd.freshB (g := gb153) (o := .cells #[.int .i64 59, .int .i64 (-7), .int .i64 0] 25 (0, 0)) (by (with_reducible repeat (first | refine blk_drewN ?_ _ | refine blk_drew ?_ | refine blk_alloc ?_ _)); exact BK153.out) k_ hk⟩))
                (case aO => exact ((Kd.R_nil _ _ _ _ (fun k_ => some k_ ≠ (v158 : Value).ownBlock ∧ k_ ≠ gb153))))
                (case aS => exact (below_size (by repeat (first | (with_reducible first | exact HB.out | apply below_alloc | apply pw_below_drewN | apply below_drew1 | refine below_set ?_ GE153.out) | exact HB.out))))
                (case aL => have := LMc4.out; omega)
                intro v155 w18 ho hb hg hat
                rw [← Ny154.out] at ho
                have n0_ := Aside0.mk (blk_grown (g := gb153) (o := .cells #[.int .i64 59, .int .i64 (-7), .int .i64 0] 25 (0, 0)) (by (with_reducible repeat (first | refine blk_drewN ?_ _ | refine blk_drew ?_ | refine blk_alloc ?_ _)); exact BK153.out) hg (by simp [Value.ownBlock]))
                have n1_ := Aside0.mk (Kd.R_after (Kd.R_apart_nil (by (with_reducible repeat (first | apply Kd.R_alloc | apply Kd.R_drewN | apply Kd.R_drew)); exact HO159.out)) hg hat)
                have n2_ := Aside0.mk (hb)
                have n3_ := Aside0.mk (ho)
                clear BK153
                clear HO159
                clear HB
                have BK153 := n0_
                have HO159 := n1_
                have HB := n2_
                have HO156 := n3_
                clear n0_ n1_ n2_ n3_
                clear ho hb hg hat
                refine hK.out _ _ ⟨(blk_cell BK153.out 0).trans rfl, (blk_cell BK153.out 1).trans rfl, (blk_cell BK153.out 2).trans rfl⟩ (fun hHeld => ?_)
                clear hK K
                refine norm_ (a' := ?_) ?_ ?_
                rotate_left
                · show Act.put _ (some 14) _ = _
                  simp only [Act.put, List.setIfInBounds_toArray, List.set_cons_zero, List.set_cons_succ, i64_w, i32_w]
                  rfl
                exact norm_ (by simp only [putAll, Act.put, List.setIfInBounds_toArray, List.set_cons_zero, List.set_cons_succ]) (hCont (v155, v158) _ ⟨hHeld, (by (with_reducible repeat (first | apply Kd.R_alloc | apply Kd.R_drewN | apply Kd.R_drew)); exact HO156.out), (by (with_reducible repeat (first | apply Kd.R_alloc | apply Kd.R_drewN | apply Kd.R_drew)); exact Kd.R_mono HO159.out (fun _ hk => ⟨hk.2, hk.1.2⟩)), (by (with_reducible repeat (first | refine blk_drewN ?_ _ | refine blk_drew ?_ | refine blk_alloc ?_ _)); exact BK153.out), (by repeat (first | (with_reducible first | exact HB.out | apply below_alloc | apply pw_below_drewN | apply below_drew1 | refine below_set ?_ GE153.out) | exact HB.out))⟩)
            rintro ⟨v155, v158⟩ w19 ⟨hS_, h0_, h1_, h2_, h3_⟩
            have n0_ : Aside0 (Kd.R k25 25 w19 w.heap.size (fun k_ => some k_ ≠ (v158 : Value).ownBlock ∧ k_ ≠ gb153) v155 y154) := ⟨h0_⟩
            have n1_ : Aside0 (Kd.R k25 25 w19 w.heap.size (fun k_ => some k_ ≠ (v155 : Value).ownBlock ∧ k_ ≠ gb153) v158 y157) := ⟨h1_⟩
            have n2_ : Aside0 (w19.heap[gb153]? = some (.cells #[.int .i64 59, .int .i64 (-7), .int .i64 0] 25 (0, 0))) := ⟨h2_⟩
            have n3_ : Aside0 (Below w.heap.size w w19) := ⟨h3_⟩
            clear BK153
            clear HB
            clear h0_ h1_ h2_ h3_
            have HO156 := n0_
            have HO159 := n1_
            have BK153 := n2_
            have HB := n3_
            clear n0_ n1_ n2_ n3_
            have hHeld : w19.cell? ⟨gb153, 0, none⟩ = some (.int .i64 59) ∧ w19.cell? ⟨gb153, 1, none⟩ = some (.int .i64 (-7)) ∧ w19.cell? ⟨gb153, 2, none⟩ = some (.int .i64 0) := hS_
            obtain ⟨Ao21, co21, eo21⟩ := Kd.R_slice HO159.out
            (first | subst eo21 | (injection eo21 with f1_ f2_ f3_; have f4_ := f1_.symm; have f5_ := f3_.symm; clear f1_ f2_ f3_; subst f4_; subst f5_))
            refine norm_ (a' := ?_) ?_ ?_
            rotate_left
            · simp only [putAll, Act.put, List.setIfInBounds_toArray, List.set_cons_zero, List.set_cons_succ]
              rfl
            refine one_ (i := 4) (N := some 17) #[true, true, true, true, true, false] rfl rfl (by kernel_rfl) (by decide) (fun K hK => ?_)
            refine Kd.R_append_rows_step k25 (w0 := w) w.heap.size (by rfl) (.tmp 14) (.tmp 16) 22 25 (.agg #[(.int .i64 0), (.int .i64 0), (.int .i64 0)]) 24 rfl Try.underlying22 info25 rfl (by decide) (by omega) v155 y154 y157 _ _ _ (fun k_ => some k_ ≠ (.slice Ao21 y157.length co21 : Value).ownBlock ∧ k_ ≠ gb153) (fun _ => False) rfl rfl ?aO ?aR (fun _ _ h => h) (fun _ h => h.elim) ?aF ?aB ?aS ?aL ?_
            (case aR => repeat (first | exact (Kd.R_reads' HO159.out).2.2 | (with_reducible refine Kd.C_alloc ?_ _) | (with_reducible refine Kd.C_drewN ?_ _) | (with_reducible refine Kd.C_drew ?_)))
            (case aB => exact (by repeat (first | (with_reducible first | exact HB.out | apply below_alloc | apply pw_below_drewN | apply below_drew1 | refine below_set ?_ GE153.out) | exact HB.out)))
            (case aF => exact (fun k_ hk => ⟨Kd.fresh' (Kd.R_lt (by (with_reducible repeat (first | apply Kd.R_alloc | apply Kd.R_drewN | apply Kd.R_drew)); exact HO159.out)) k_ hk, Kd.freshB (g := gb153) (o := .cells #[.int .i64 59, .int .i64 (-7), .int .i64 0] 25 (0, 0)) (by (with_reducible repeat (first | refine blk_drewN ?_ _ | refine blk_drew ?_ | refine blk_alloc ?_ _)); exact BK153.out) k_ hk⟩))
            (case aO => exact (by (with_reducible repeat (first | apply Kd.R_alloc | apply Kd.R_drewN | apply Kd.R_drew)); exact HO156.out))
            (case aS => exact (below_size (by repeat (first | (with_reducible first | exact HB.out | apply below_alloc | apply pw_below_drewN | apply below_drew1 | refine below_set ?_ GE153.out) | exact HB.out))))
            (case aL => have := LMc5.out; omega)
            intro v161 w20 ho hb hg hat
            rw [← Ny160.out] at ho
            have n0_ := Aside0.mk (blk_grown (g := gb153) (o := .cells #[.int .i64 59, .int .i64 (-7), .int .i64 0] 25 (0, 0)) (by (with_reducible repeat (first | refine blk_drewN ?_ _ | refine blk_drew ?_ | refine blk_alloc ?_ _)); exact BK153.out) hg (Kd.R_away HO156.out (fun _ hk => hk.2)))
            have n1_ := Aside0.mk (Kd.R_after (ok := (fun k_ => k_ ≠ gb153)) (by (with_reducible repeat (first | apply Kd.R_alloc | apply Kd.R_drewN | apply Kd.R_drew)); exact Kd.R_mono HO159.out (fun _ hk => ⟨hk.2, hk.1⟩)) hg hat)
            have n2_ := Aside0.mk (hb)
            have n3_ := Aside0.mk (ho)
            clear BK153
            clear HO159
            clear HB
            clear HO156
            have BK153 := n0_
            have HO159 := n1_
            have HB := n2_
            have HO162 := n3_
            clear n0_ n1_ n2_ n3_
            clear ho hb hg hat
            refine hK.out _ _ ⟨(blk_cell BK153.out 0).trans rfl, (blk_cell BK153.out 1).trans rfl, (blk_cell BK153.out 2).trans rfl⟩ (fun hHeld => ?_)
            clear hK K
            refine norm_ (a' := ?_) ?_ ?_
            rotate_left
            · show Act.put _ (some 17) _ = _
              simp only [Act.put, List.setIfInBounds_toArray, List.set_cons_zero, List.set_cons_succ, i64_w, i32_w]
              rfl
            refine pure_ (i := 5) (N := some 4) (v := ?_) (a' := ?_) #[true, true, true, true, true, true] rfl rfl (by kernel_rfl) (fun _ _ _ h => h) (Or.inl ⟨by rfl, ?_⟩) ?_ ?_
            rotate_left
            · intro w'
              go_simp
              with_reducible rfl
            rotate_left
            · simp only [Act.put, List.setIfInBounds_toArray, List.set_cons_zero, List.set_cons_succ, i64_w, i32_w]
              rfl
            refine done_ (by kernel_rfl) ?_
            obtain ⟨Ao23, co23, eo23⟩ := Kd.R_slice HO162.out
            subst eo23
            have q22 : ((l0.length : Int) : Int) ≤ ((y160.length : Int) : Int) := of_decide_eq_true (by first | (with_reducible assumption) | assumption)
            obtain ⟨i022, hi022, _, hsz22, _⟩ := info_parts info25
            have hroom22 : y160.length ≤ co23 := (Kd.R_reads' HO162.out).2.1
            have hC22 : Kd.C k25 _ Ao23 y160.length y160 := (Kd.R_reads' HO162.out).2.2
            have hcut22 := cut_to (P := Try.prog) 22 25 .i64 Try.underlying22 hi022 Ao23 y160.length co23 (l0.length : Int) (of_decide_eq_true (by first | (with_reducible assumption) | assumption)) q22 hroom22
            have hr22 := Kd.C_take (m := ((l0.length : Int) : Int).toNat) hC22 (by omega)
            have hy22 : y163.length = ((l0.length : Int) : Int).toNat := (by rw [Ny163.out, List.length_take]; omega)
            rw [← Ny163.out] at hr22
            rw [← hy22] at hcut22
            have HR166 := Aside0.mk hr22
            have HC166 := Aside0.mk (show y163.length ≤ co23 from by omega)
            clear hr22 hC22 hroom22 hi022 hsz22
            have KY22 := Aside0.mk hy22
            clear hy22
            have KL22 := Aside0.mk (show ((l0.length : Int) : Int).toNat ≤ y160.length from by omega)
            replace q22 := eq_true q22
            go_upto_region 7 with (first | ((with_reducible refine gate_callee (f := 10) rfl ?_); refine goesL_ (some 22) rfl rfl Try.func10 (by kernel_rfl) rfl #[.slice Ao23 y163.length co23] rfl (by (try simp only [List.map_toArray, List.map_cons, List.map_nil]); first | done | rfl | (simp only [List.length_drop, List.length_take]; rfl)) ?_; (with_reducible refine (chunk_Cut.calls _ _ y163 t167 _ ?side1 ?side2 A8.out).mono ?_); (case side1 => repeat (first | exact (by repeat (first | (with_reducible exact HR166.out) | (with_reducible refine Kd.C_alloc ?_ _) | (with_reducible refine Kd.C_drewN ?_ _) | (with_reducible refine Kd.C_drew ?_) | exact HR166.out)) | (with_reducible refine Kd.C_alloc ?_ _) | (with_reducible refine Kd.C_drewN ?_ _) | (with_reducible refine Kd.C_drew ?_))); (case side2 => exact HC166.out); rintro e w24 ⟨v168, rfl, ho0, hb⟩; refine ⟨_, rfl, ?_⟩; have n0_ := Aside0.mk (Kd.R_below (by (with_reducible repeat (first | apply Kd.R_alloc | apply Kd.R_drewN | apply Kd.R_drew)); exact HO159.out) hb); have n1_ := Aside0.mk (Kd.R_below (by (with_reducible repeat (first | apply Kd.R_alloc | apply Kd.R_drewN | apply Kd.R_drew)); exact HO162.out) hb); have n2_ := Aside0.mk (Kd.R_lower ho0 (below_size (by repeat (first | (with_reducible first | exact HB.out | apply below_alloc | apply pw_below_drewN | apply below_drew1 | refine below_set ?_ GE153.out) | exact HB.out)))); have n3_ := Aside0.mk (blk_below (g := gb153) (o := .cells #[.int .i64 59, .int .i64 (-7), .int .i64 0] 25 (0, 0)) (by (with_reducible repeat (first | refine blk_drewN ?_ _ | refine blk_drew ?_ | refine blk_alloc ?_ _)); exact BK153.out) hb); have n4_ := Aside0.mk (Kd.C_below (by repeat (first | (with_reducible exact HR166.out) | (with_reducible refine Kd.C_alloc ?_ _) | (with_reducible refine Kd.C_drewN ?_ _) | (with_reducible refine Kd.C_drew ?_) | exact HR166.out)) hb); have n5_ := Aside0.mk (below_step (by repeat (first | (with_reducible first | exact HB.out | apply below_alloc | apply pw_below_drewN | apply below_drew1 | refine below_set ?_ GE153.out) | exact HB.out)) hb); clear HO159; clear HO162; clear BK153; clear HR166; clear HB; have HO159 := n0_; have HO162 := n1_; have HO169 := n2_; have BK153 := n3_; have HR166 := n4_; have HB := n5_; clear n0_ n1_ n2_ n3_ n4_ n5_; (try clear hb); (try clear hb2); (try clear hk); (try clear hi); (try clear ho0)) | ((with_reducible refine gate_callee (f := 11) rfl ?_); refine goesL_ (some 24) rfl rfl Try.func11 (by kernel_rfl) rfl #[.slice A0 l0.length c0] rfl (by (try simp only [List.map_toArray, List.map_cons, List.map_nil]); first | done | rfl | (simp only [List.length_drop, List.length_take]; rfl)) ?_; (with_reducible refine (scholiastref04_Cut.calls k _ _ l0 t170 _ ?side1 ?side2 A9.out).mono ?_); (case side1 => repeat (first | exact (Kd.C_below HR0.out HB.out) | (with_reducible refine Kd.C_alloc ?_ _) | (with_reducible refine Kd.C_drewN ?_ _) | (with_reducible refine Kd.C_drew ?_))); (case side2 => exact HC0.out); rintro e w25 ⟨v171, rfl, ho0, hb⟩; refine ⟨_, rfl, ?_⟩; have n0_ := Aside0.mk (Kd.R_below (by (with_reducible repeat (first | apply Kd.R_alloc | apply Kd.R_drewN | apply Kd.R_drew)); exact HO159.out) hb); have n1_ := Aside0.mk (Kd.R_below (by (with_reducible repeat (first | apply Kd.R_alloc | apply Kd.R_drewN | apply Kd.R_drew)); exact HO162.out) hb); have n2_ := Aside0.mk (Kd.R_elder' (by (with_reducible repeat (first | apply Kd.R_alloc | apply Kd.R_drewN | apply Kd.R_drew)); exact HO169.out) (Kd.R_base ho0) hb); have n3_ := Aside0.mk (Kd.R_lower (Kd.R_new' ho0 (Kd.R_lt (by (with_reducible repeat (first | apply Kd.R_alloc | apply Kd.R_drewN | apply Kd.R_drew)); exact HO169.out))) (below_size (by repeat (first | (with_reducible first | exact HB.out | apply below_alloc | apply pw_below_drewN | apply below_drew1 | refine below_set ?_ GE153.out) | exact HB.out)))); have n4_ := Aside0.mk (blk_below (g := gb153) (o := .cells #[.int .i64 59, .int .i64 (-7), .int .i64 0] 25 (0, 0)) (by (with_reducible repeat (first | refine blk_drewN ?_ _ | refine blk_drew ?_ | refine blk_alloc ?_ _)); exact BK153.out) hb); have n5_ := Aside0.mk (Kd.C_below (by repeat (first | (with_reducible exact HR166.out) | (with_reducible refine Kd.C_alloc ?_ _) | (with_reducible refine Kd.C_drewN ?_ _) | (with_reducible refine Kd.C_drew ?_) | exact HR166.out)) hb); have n6_ := Aside0.mk (below_step (by repeat (first | (with_reducible first | exact HB.out | apply below_alloc | apply pw_below_drewN | apply below_drew1 | refine below_set ?_ GE153.out) | exact HB.out)) hb); clear HO159; clear HO162; clear HO169; clear BK153; clear HR166; clear HB; have HO159 := n0_; have HO162 := n1_; have HO169 := n2_; have HO172 := n3_; have BK153 := n4_; have HR166 := n5_; have HB := n6_; clear n0_ n1_ n2_ n3_ n4_ n5_ n6_; (try clear hb); (try clear hb2); (try clear hk); (try clear hi); (try clear ho0)))
            (try simp only [Act.put, List.setIfInBounds_toArray, List.set_cons_zero, List.set_cons_succ])
            go_cut [37] (fun v37 wc => ∃ (kq : Nat) (x37_9 : Bool), v37 = .bool x37_9 ∧ Aside0 (scholiastlaw04_ChunkCuts.j0 kq l0 y160 t167 t170 x37_9 = some r) ∧ Aside0 (kq ≤ k) ∧ Aside0 (Kd.R k25 25 wc w.heap.size (fun k_ => k_ ≠ gb153) (.slice Ao23 y160.length co23) y160) ∧ Aside0 (Kd.R k30 30 wc w.heap.size (fun k_ => some k_ ≠ (v171 : Value).ownBlock) v168 t167) ∧ Aside0 (Kd.R k30 30 wc w.heap.size (fun k_ => some k_ ≠ (v168 : Value).ownBlock) v171 t170) ∧ Aside0 (wc.heap[gb153]? = some (.cells #[.int .i64 59, .int .i64 (-7), .int .i64 0] 25 (0, 0))) ∧ Aside0 (Kd.C k25 wc Ao23 y163.length y163) ∧ Aside0 (Below w.heap.size w wc))
            case first =>
              have H := HC10.out
              clear HC10
              replace H := Option.bind_eq_some_iff.mp H
              obtain ⟨t173, A260, H⟩ := H
              replace H : (if t173 = true then (if (l0.length : Int) < (y160.length : Int) then (scholiastlaw04_ChunkCuts.j0 k l0 y160 t167 t170 (!(((rd_T25 y160 (l0.length : Int)).f0) == 59) || (!(((rd_T25 y160 (l0.length : Int)).f1) == (-7)) || (!(((rd_T25 y160 (l0.length : Int)).f2) == 0))))) else (none)) else (scholiastlaw04_ChunkCuts.j0 k l0 y160 t167 t170 true)) = some r := H
              have A26 := Aside0.mk A260
              clear A260
              by_cases c27 : t173 = true
              · subst c27
                have H1 : (if (l0.length : Int) < (y160.length : Int) then (scholiastlaw04_ChunkCuts.j0 k l0 y160 t167 t170 (!(((rd_T25 y160 (l0.length : Int)).f0) == 59) || (!(((rd_T25 y160 (l0.length : Int)).f1) == (-7)) || (!(((rd_T25 y160 (l0.length : Int)).f2) == 0))))) else (none)) = some r := by rw [if_pos rfl] at H; exact H
                clear H
                have H := H1
                clear H1
                by_cases c28 : (l0.length : Int) < (y160.length : Int)
                · rw [if_pos c28] at H
                  have c28b0 : decide ((l0.length : Int) < (y160.length : Int)) = true := decide_eq_true c28
                  have c28b1 : decide (l0.length < y160.length) = true := decide_eq_true (Int.ofNat_lt.mp c28)
                  clear c28
                  (first | rw [c28b0] | (simp only [i64_w, i32_w]; rw [c28b0]) | rw [c28b1] | skip)
                  have H' := Aside0.mk H
                  clear H
                  try go_wp2
                  have n0_ := Aside0.mk (Kd.R_drew HO159.out)
                  have n1_ := Aside0.mk (Kd.R_drew HO162.out)
                  have n2_ := Aside0.mk (Kd.R_drew HO169.out)
                  have n3_ := Aside0.mk (Kd.R_drew HO172.out)
                  have n4_ := Aside0.mk (blk_drew BK153.out)
                  have n5_ := Aside0.mk (Kd.C_drew HR166.out)
                  have n6_ := Aside0.mk (below_drew1 HB.out)
                  clear HO159
                  clear HO162
                  clear HO169
                  clear HO172
                  clear BK153
                  clear HR166
                  clear HB
                  have HO159 := n0_
                  have HO162 := n1_
                  have HO169 := n2_
                  have HO172 := n3_
                  have BK153 := n4_
                  have HR166 := n5_
                  have HB := n6_
                  clear n0_ n1_ n2_ n3_ n4_ n5_ n6_
                  obtain ⟨Ao30, co30, eo30⟩ := Kd.R_slice HO169.out
                  (first | subst eo30 | (injection eo30 with f1_ f2_ f3_; have f4_ := f1_.symm; have f5_ := f3_.symm; clear f1_ f2_ f3_; subst f4_; subst f5_))
                  obtain ⟨Ao31, co31, eo31⟩ := Kd.R_slice HO172.out
                  (first | subst eo31 | (injection eo31 with f1_ f2_ f3_; have f4_ := f1_.symm; have f5_ := f3_.symm; clear f1_ f2_ f3_; subst f4_; subst f5_))
                  have p174 : 0 ≤ ((l0.length : Int) : Int) := of_decide_eq_true (by first | (with_reducible assumption) | assumption)
                  have q174 : (l0.length : Int) < (y160.length : Int) := of_decide_eq_true (by first | (with_reducible assumption) | assumption)
                  obtain ⟨ad174, e174, hx174_0, hx174_1, hx174_2⟩ := at_T25 (Kd.R_reads' HO162.out).2.2 (l0.length : Int) p174 q174
                  cases e174
                  (try simp only [Go.IntWalk.toNatUp] at hx174_0)
                  (try simp only [Go.IntWalk.toNatUp] at hx174_1)
                  (try simp only [Go.IntWalk.toNatUp] at hx174_2)
                  replace p174 := eq_true p174
                  replace q174 := eq_true q174
                  refine start_ (n := 13) (S := fun w' => w'.cell? ⟨gb153, 0, none⟩ = some (.int .i64 59) ∧ w'.cell? ⟨gb153, 1, none⟩ = some (.int .i64 (-7)) ∧ w'.cell? ⟨gb153, 2, none⟩ = some (.int .i64 0) ∧ w'.cell? (ad174.add (((l0.length : Int)).toNat * 3)) = some (.int .i64 ((rd_T25 y160 (l0.length : Int)).f0)) ∧ w'.cell? ⟨(ad174.add (((l0.length : Int)).toNat * 3)).block, (ad174.add (((l0.length : Int)).toNat * 3)).off + 1, none⟩ = some (.int .i64 ((rd_T25 y160 (l0.length : Int)).f1)) ∧ w'.cell? ⟨(ad174.add (((l0.length : Int)).toNat * 3)).block, (ad174.add (((l0.length : Int)).toNat * 3)).off + 2, none⟩ = some (.int .i64 ((rd_T25 y160 (l0.length : Int)).f2))) (ds := []) #[false, false, false, false, false, false, false, false, false, false, false, false, false] (by kernel_rfl) rfl rfl ⟨(blk_cell BK153.out 0).trans rfl, (blk_cell BK153.out 1).trans rfl, (blk_cell BK153.out 2).trans rfl, hx174_0, hx174_1, hx174_2⟩ (fun hHeld => ?_); refine with_tabW scholiastlaw04_ChunkCuts.tab7 scholiastlaw04_ChunkCuts.bits7 (fun HT_ HW_ => ?_)
                  generalize w25.drew = w29 at HO159 HO162 HO169 HO172 BK153 HR166 HB hx174_0 hx174_1 hx174_2 hHeld ⊢
                  refine pure_ (i := 0) (N := some 25) (v := ?_) (a' := ?_) #[true, false, false, false, false, false, false, false, false, false, false, false, false] rfl rfl (any_of HT_.out (by kernel_rfl)) (fun _ _ _ h => h) (Or.inl ⟨by rfl, ?_⟩) ?_ ?_
                  rotate_left
                  · intro w'
                    go_simp
                    with_reducible rfl
                  rotate_left
                  · simp only [Act.put, List.setIfInBounds_toArray, List.set_cons_zero, List.set_cons_succ, i64_w, i32_w]
                    rfl
                  refine pure_ (i := 1) (N := some 26) (v := ?_) (a' := ?_) #[true, true, false, false, false, false, false, false, false, false, false, false, false] rfl rfl (any_of HT_.out (by kernel_rfl)) (fun _ _ _ h => h) (Or.inl ⟨by rfl, ?_⟩) ?_ ?_
                  rotate_left
                  · intro w'
                    go_simp
                    with_reducible rfl
                  rotate_left
                  · simp only [Act.put, List.setIfInBounds_toArray, List.set_cons_zero, List.set_cons_succ, i64_w, i32_w]
                    rfl
                  refine one_ (i := 2) (N := some 27) #[true, true, true, false, false, false, false, false, false, false, false, false, false] rfl rfl (one_of HT_.out (by kernel_rfl)) (by decide) (fun K hK => ?_)
                  refine goes_ Try.func12 (by kernel_rfl) rfl #[.slice Ao30 t167.length co30, .slice Ao31 t170.length co31] (by rfl) rfl rfl (by (try simp only [List.map_toArray, List.map_cons, List.map_nil]); first | done | rfl | (simp only [List.length_drop, List.length_take]; rfl)) ?_
                  with_reducible refine (scholiastlaw04_spans.calls k _ _ t167 _ _ t170 true _ ?side1 ?side2 ?side3 ?side4 A26.out).mono ?_
                  (case side1 => repeat (first | exact (Kd.R_reads' HO169.out).2.2 | (with_reducible refine Kd.C_alloc ?_ _) | (with_reducible refine Kd.C_drewN ?_ _) | (with_reducible refine Kd.C_drew ?_)))
                  (case side2 => exact (Kd.R_reads' HO169.out).2.1)
                  (case side3 => repeat (first | exact (Kd.R_reads' HO172.out).2.2 | (with_reducible refine Kd.C_alloc ?_ _) | (with_reducible refine Kd.C_drewN ?_ _) | (with_reducible refine Kd.C_drew ?_)))
                  (case side4 => exact (Kd.R_reads' HO172.out).2.1)
                  rintro e w' ⟨rfl, ⟨nd, rfl⟩⟩
                  refine ⟨_, rfl, ?_⟩
                  refine hK.out _ _ ⟨(blk_cell BK153.out 0).trans rfl, (blk_cell BK153.out 1).trans rfl, (blk_cell BK153.out 2).trans rfl, hHeld.2.2.2.1, hHeld.2.2.2.2.1, hHeld.2.2.2.2.2⟩ (fun hHeld => ?_)
                  clear hK K
                  refine norm_ (a' := ?_) ?_ ?_
                  rotate_left
                  · show Act.put _ (some 27) _ = _
                    simp only [Act.put, List.setIfInBounds_toArray, List.set_cons_zero, List.set_cons_succ, i64_w, i32_w]
                    rfl
                  refine pure_ (i := 3) (N := some 28) (v := ?_) (a' := ?_) #[true, true, true, true, false, false, false, false, false, false, false, false, false] rfl rfl (any_of HT_.out (by kernel_rfl)) (fun _ _ _ h => h) (Or.inl ⟨by rfl, ?_⟩) ?_ ?_
                  rotate_left
                  · intro w'
                    go_simp
                    with_reducible rfl
                  rotate_left
                  · simp only [Act.put, List.setIfInBounds_toArray, List.set_cons_zero, List.set_cons_succ, i64_w, i32_w]
                    rfl
                  refine pure_ (i := 4) (N := some 29) (v := ?_) (a' := ?_) #[true, true, true, true, true, false, false, false, false, false, false, false, false] rfl rfl (any_of HT_.out (by kernel_rfl)) (fun _ _ _ h => h) (Or.inl ⟨by rfl, ?_⟩) ?_ ?_
                  rotate_left
                  · intro w'
                    go_simp
                    with_reducible rfl
                  rotate_left
                  · simp only [Act.put, List.setIfInBounds_toArray, List.set_cons_zero, List.set_cons_succ, i64_w, i32_w]
                    rfl
                  refine pure_ (i := 5) (N := some 30) (v := ?_) (a' := ?_) #[true, true, true, true, true, true, false, false, false, false, false, false, false] rfl rfl (any_of HT_.out (by kernel_rfl)) (fun _ _ _ h => h) (Or.inl ⟨by rfl, ?_⟩) ?_ ?_
                  rotate_left
                  · intro w'
                    go_simp
                    with_reducible rfl
                  rotate_left
                  · simp only [Act.put, List.setIfInBounds_toArray, List.set_cons_zero, List.set_cons_succ, i64_w, i32_w]
                    rfl
                  refine pure_ (i := 6) (N := some 31) (v := ?_) (a' := ?_) #[true, true, true, true, true, true, true, false, false, false, false, false, false] rfl rfl (any_of HT_.out (by kernel_rfl)) (fun _ _ _ h => h) (Or.inl ⟨by rfl, ?_⟩) ?_ ?_
                  rotate_left
                  · intro w'
                    go_simp
                    with_reducible rfl
                  rotate_left
                  · simp only [Act.put, List.setIfInBounds_toArray, List.set_cons_zero, List.set_cons_succ, i64_w, i32_w]
                    rfl
                  refine pure_ (i := 7) (N := some 32) (v := ?_) (a' := ?_) #[true, true, true, true, true, true, true, true, false, false, false, false, false] rfl rfl (any_of HT_.out (by kernel_rfl)) (fun _ _ _ h => h) (Or.inl ⟨by rfl, ?_⟩) ?_ ?_
                  rotate_left
                  · intro w'
                    go_simp
                    with_reducible rfl
                  rotate_left
                  · simp only [Act.put, List.setIfInBounds_toArray, List.set_cons_zero, List.set_cons_succ, i64_w, i32_w]
                    rfl
                  refine pure_ (i := 8) (N := some 33) (v := ?_) (a' := ?_) #[true, true, true, true, true, true, true, true, true, false, false, false, false] rfl rfl (any_of HT_.out (by kernel_rfl)) (fun _ _ _ h => h) (Or.inl ⟨by rfl, ?_⟩) ?_ ?_
                  rotate_left
                  · intro w'
                    go_simp
                    with_reducible rfl
                  rotate_left
                  · simp only [Act.put, List.setIfInBounds_toArray, List.set_cons_zero, List.set_cons_succ, i64_w, i32_w]
                    rfl
                  refine take_ (i := 9) (N := some 34) (v := ?_) (a' := ?_) #[true, true, true, true, true, true, true, true, true, true, false, false, false] rfl rfl (take_ofW HT_.out HW_.out (by kernel_rfl)) (fun _ _ _ h => h) (Or.inl ⟨by rfl, ?_⟩) hHeld ?_ ?_
                  rotate_left
                  · rintro w' ⟨s0, s1, s2, s3, s4, s5⟩
                    (try simp only [Int.toNat_natCast] at s0 s1 s2 s3 s4 s5)
                    go_simp
                    with_reducible rfl
                  rotate_left
                  · simp only [Act.put, List.setIfInBounds_toArray, List.set_cons_zero, List.set_cons_succ, i64_w, i32_w]
                    rfl
                  refine take_ (i := 10) (N := some 35) (v := ?_) (a' := ?_) #[true, true, true, true, true, true, true, true, true, true, true, false, false] rfl rfl (take_ofW HT_.out HW_.out (by kernel_rfl)) (fun _ _ _ h => h) (Or.inl ⟨by rfl, ?_⟩) hHeld ?_ ?_
                  rotate_left
                  · rintro w' ⟨s0, s1, s2, s3, s4, s5⟩
                    (try simp only [Int.toNat_natCast] at s0 s1 s2 s3 s4 s5)
                    go_simp
                    with_reducible rfl
                  rotate_left
                  · simp only [Act.put, List.setIfInBounds_toArray, List.set_cons_zero, List.set_cons_succ, i64_w, i32_w]
                    rfl
                  refine pure_ (i := 11) (N := some 36) (v := ?_) (a' := ?_) #[true, true, true, true, true, true, true, true, true, true, true, true, false] rfl rfl (any_of HT_.out (by kernel_rfl)) (fun _ _ _ h => h) (Or.inl ⟨by rfl, ?_⟩) ?_ ?_
                  rotate_left
                  · intro w'
                    go_simp
                    with_reducible rfl
                  rotate_left
                  · simp only [Act.put, List.setIfInBounds_toArray, List.set_cons_zero, List.set_cons_succ, i64_w, i32_w]
                    rfl
                  refine pure_ (i := 12) (N := some 37) (v := ?_) (a' := ?_) #[true, true, true, true, true, true, true, true, true, true, true, true, true] rfl rfl (any_of HT_.out (by kernel_rfl)) (fun _ _ _ h => h) (Or.inl ⟨by rfl, ?_⟩) ?_ ?_
                  rotate_left
                  · intro w'
                    go_simp
                    with_reducible rfl
                  rotate_left
                  · simp only [Act.put, List.setIfInBounds_toArray, List.set_cons_zero, List.set_cons_succ, i64_w, i32_w]
                    rfl
                  refine done_ (done_of HT_.out (by kernel_rfl)) ?_
                  try go_wp2
                  go_meet
                  case rel => exact ⟨_, ((!(((rd_T25 y160 (l0.length : Int)).f0) == 59) || (!(((rd_T25 y160 (l0.length : Int)).f1) == (-7)) || (!(((rd_T25 y160 (l0.length : Int)).f2) == 0))))), (by first | rfl | (simp; done) | (simp [*]; done)), H', ⟨by first | omega | exact Nat.le_refl _⟩, ⟨by (with_reducible repeat (first | apply Kd.R_alloc | apply Kd.R_drewN | apply Kd.R_drew)); exact Kd.R_mono HO162.out (fun _ hk => hk.2)⟩, ⟨by (with_reducible repeat (first | apply Kd.R_alloc | apply Kd.R_drewN | apply Kd.R_drew)); exact Kd.R_mono HO169.out (fun _ hk => hk.2)⟩, ⟨by (with_reducible repeat (first | apply Kd.R_alloc | apply Kd.R_drewN | apply Kd.R_drew)); exact Kd.R_mono HO172.out (fun _ hk => hk.2)⟩, ⟨by (with_reducible repeat (first | refine blk_drewN ?_ _ | refine blk_drew ?_ | refine blk_alloc ?_ _)); exact BK153.out⟩, ⟨by repeat (first | (with_reducible exact HR166.out) | (with_reducible refine Kd.C_alloc ?_ _) | (with_reducible refine Kd.C_drewN ?_ _) | (with_reducible refine Kd.C_drew ?_) | exact HR166.out)⟩, ⟨by repeat (first | (with_reducible first | exact HB.out | apply below_alloc | apply pw_below_drewN | apply below_drew1 | refine below_set ?_ GE153.out) | exact HB.out)⟩⟩
                · rw [if_neg c28] at H
                  exact absurd H (by simp)
              · replace c27 := Bool.eq_false_iff.mpr c27
                subst c27
                have H1 : (scholiastlaw04_ChunkCuts.j0 k l0 y160 t167 t170 true) = some r := by rw [if_neg (show ¬ (false = true) by decide)] at H; exact H
                clear H
                have H := H1
                clear H1
                have H' := Aside0.mk H
                clear H
                try go_wp2
                have n0_ := Aside0.mk (Kd.R_drew HO159.out)
                have n1_ := Aside0.mk (Kd.R_drew HO162.out)
                have n2_ := Aside0.mk (Kd.R_drew HO169.out)
                have n3_ := Aside0.mk (Kd.R_drew HO172.out)
                have n4_ := Aside0.mk (blk_drew BK153.out)
                have n5_ := Aside0.mk (Kd.C_drew HR166.out)
                have n6_ := Aside0.mk (below_drew1 HB.out)
                clear HO159
                clear HO162
                clear HO169
                clear HO172
                clear BK153
                clear HR166
                clear HB
                have HO159 := n0_
                have HO162 := n1_
                have HO169 := n2_
                have HO172 := n3_
                have BK153 := n4_
                have HR166 := n5_
                have HB := n6_
                clear n0_ n1_ n2_ n3_ n4_ n5_ n6_
                obtain ⟨Ao33, co33, eo33⟩ := Kd.R_slice HO169.out
                (first | subst eo33 | (injection eo33 with f1_ f2_ f3_; have f4_ := f1_.symm; have f5_ := f3_.symm; clear f1_ f2_ f3_; subst f4_; subst f5_))
                obtain ⟨Ao34, co34, eo34⟩ := Kd.R_slice HO172.out
                (first | subst eo34 | (injection eo34 with f1_ f2_ f3_; have f4_ := f1_.symm; have f5_ := f3_.symm; clear f1_ f2_ f3_; subst f4_; subst f5_))
                refine start_ (n := 13) (S := fun w' => True) (ds := []) #[false, false, false, false, false, false, false, false, false, false, false, false, false] (by kernel_rfl) rfl rfl trivial (fun hHeld => ?_); refine with_tabW scholiastlaw04_ChunkCuts.tab7 scholiastlaw04_ChunkCuts.bits7 (fun HT_ HW_ => ?_)
                generalize w25.drew = w32 at HO159 HO162 HO169 HO172 BK153 HR166 HB hHeld ⊢
                refine pure_ (i := 0) (N := some 25) (v := ?_) (a' := ?_) #[true, false, false, false, false, false, false, false, false, false, false, false, false] rfl rfl (any_of HT_.out (by kernel_rfl)) (fun _ _ _ h => h) (Or.inl ⟨by rfl, ?_⟩) ?_ ?_
                rotate_left
                · intro w'
                  go_simp
                  with_reducible rfl
                rotate_left
                · simp only [Act.put, List.setIfInBounds_toArray, List.set_cons_zero, List.set_cons_succ, i64_w, i32_w]
                  rfl
                refine pure_ (i := 1) (N := some 26) (v := ?_) (a' := ?_) #[true, true, false, false, false, false, false, false, false, false, false, false, false] rfl rfl (any_of HT_.out (by kernel_rfl)) (fun _ _ _ h => h) (Or.inl ⟨by rfl, ?_⟩) ?_ ?_
                rotate_left
                · intro w'
                  go_simp
                  with_reducible rfl
                rotate_left
                · simp only [Act.put, List.setIfInBounds_toArray, List.set_cons_zero, List.set_cons_succ, i64_w, i32_w]
                  rfl
                refine one_ (i := 2) (N := some 27) #[true, true, true, false, false, false, false, false, false, false, false, false, false] rfl rfl (one_of HT_.out (by kernel_rfl)) (by decide) (fun K hK => ?_)
                refine goes_ Try.func12 (by kernel_rfl) rfl #[.slice Ao33 t167.length co33, .slice Ao34 t170.length co34] (by rfl) rfl rfl (by (try simp only [List.map_toArray, List.map_cons, List.map_nil]); first | done | rfl | (simp only [List.length_drop, List.length_take]; rfl)) ?_
                with_reducible refine (scholiastlaw04_spans.calls k _ _ t167 _ _ t170 false _ ?side1 ?side2 ?side3 ?side4 A26.out).mono ?_
                (case side1 => repeat (first | exact (Kd.R_reads' HO169.out).2.2 | (with_reducible refine Kd.C_alloc ?_ _) | (with_reducible refine Kd.C_drewN ?_ _) | (with_reducible refine Kd.C_drew ?_)))
                (case side2 => exact (Kd.R_reads' HO169.out).2.1)
                (case side3 => repeat (first | exact (Kd.R_reads' HO172.out).2.2 | (with_reducible refine Kd.C_alloc ?_ _) | (with_reducible refine Kd.C_drewN ?_ _) | (with_reducible refine Kd.C_drew ?_)))
                (case side4 => exact (Kd.R_reads' HO172.out).2.1)
                rintro e w' ⟨rfl, ⟨nd, rfl⟩⟩
                refine ⟨_, rfl, ?_⟩
                refine hK.out _ _ trivial (fun hHeld => ?_)
                clear hK K
                refine norm_ (a' := ?_) ?_ ?_
                rotate_left
                · show Act.put _ (some 27) _ = _
                  simp only [Act.put, List.setIfInBounds_toArray, List.set_cons_zero, List.set_cons_succ, i64_w, i32_w]
                  rfl
                refine pure_ (i := 3) (N := some 28) (v := ?_) (a' := ?_) #[true, true, true, true, false, false, false, false, false, false, false, false, false] rfl rfl (any_of HT_.out (by kernel_rfl)) (fun _ _ _ h => h) (Or.inl ⟨by rfl, ?_⟩) ?_ ?_
                rotate_left
                · intro w'
                  go_simp
                  with_reducible rfl
                rotate_left
                · simp only [Act.put, List.setIfInBounds_toArray, List.set_cons_zero, List.set_cons_succ, i64_w, i32_w]
                  rfl
                refine pure_ (i := 4) (N := some 29) (v := ?_) (a' := ?_) #[true, true, true, true, true, false, false, false, false, false, false, false, false] rfl rfl (any_of HT_.out (by kernel_rfl)) (fun _ _ _ h => h) (Or.inl ⟨by rfl, ?_⟩) ?_ ?_
                rotate_left
                · intro w'
                  go_simp
                  with_reducible rfl
                rotate_left
                · simp only [Act.put, List.setIfInBounds_toArray, List.set_cons_zero, List.set_cons_succ, i64_w, i32_w]
                  rfl
                refine pure_ (i := 5) (N := some 30) (v := undef) (a' := ?_) #[true, true, true, true, true, true, false, false, false, false, false, false, false] rfl rfl (any_of HT_.out (by kernel_rfl)) (fun _ _ _ h => h) (Or.inr ⟨by rfl, rfl⟩) ?_ ?_
                rotate_left
                · simp only [Act.put, List.setIfInBounds_toArray, List.set_cons_zero, List.set_cons_succ, i64_w, i32_w]
                  rfl
                refine pure_ (i := 6) (N := some 31) (v := undef) (a' := ?_) #[true, true, true, true, true, true, true, false, false, false, false, false, false] rfl rfl (any_of HT_.out (by kernel_rfl)) (fun _ _ _ h => h) (Or.inr ⟨by rfl, rfl⟩) ?_ ?_
                rotate_left
                · simp only [Act.put, List.setIfInBounds_toArray, List.set_cons_zero, List.set_cons_succ, i64_w, i32_w]
                  rfl
                refine pure_ (i := 7) (N := some 32) (v := undef) (a' := ?_) #[true, true, true, true, true, true, true, true, false, false, false, false, false] rfl rfl (any_of HT_.out (by kernel_rfl)) (fun _ _ _ h => h) (Or.inr ⟨by rfl, rfl⟩) ?_ ?_
                rotate_left
                · simp only [Act.put, List.setIfInBounds_toArray, List.set_cons_zero, List.set_cons_succ, i64_w, i32_w]
                  rfl
                refine pure_ (i := 8) (N := some 33) (v := undef) (a' := ?_) #[true, true, true, true, true, true, true, true, true, false, false, false, false] rfl rfl (any_of HT_.out (by kernel_rfl)) (fun _ _ _ h => h) (Or.inr ⟨by rfl, rfl⟩) ?_ ?_
                rotate_left
                · simp only [Act.put, List.setIfInBounds_toArray, List.set_cons_zero, List.set_cons_succ, i64_w, i32_w]
                  rfl
                refine pure_ (i := 9) (N := some 34) (v := undef) (a' := ?_) #[true, true, true, true, true, true, true, true, true, true, false, false, false] rfl rfl (any_of HT_.out (by kernel_rfl)) (fun _ _ _ h => h) (Or.inr ⟨by rfl, rfl⟩) ?_ ?_
                rotate_left
                · simp only [Act.put, List.setIfInBounds_toArray, List.set_cons_zero, List.set_cons_succ, i64_w, i32_w]
                  rfl
                refine pure_ (i := 10) (N := some 35) (v := undef) (a' := ?_) #[true, true, true, true, true, true, true, true, true, true, true, false, false] rfl rfl (any_of HT_.out (by kernel_rfl)) (fun _ _ _ h => h) (Or.inr ⟨by rfl, rfl⟩) ?_ ?_
                rotate_left
                · simp only [Act.put, List.setIfInBounds_toArray, List.set_cons_zero, List.set_cons_succ, i64_w, i32_w]
                  rfl
                refine pure_ (i := 11) (N := some 36) (v := undef) (a' := ?_) #[true, true, true, true, true, true, true, true, true, true, true, true, false] rfl rfl (any_of HT_.out (by kernel_rfl)) (fun _ _ _ h => h) (Or.inr ⟨by rfl, rfl⟩) ?_ ?_
                rotate_left
                · simp only [Act.put, List.setIfInBounds_toArray, List.set_cons_zero, List.set_cons_succ, i64_w, i32_w]
                  rfl
                refine pure_ (i := 12) (N := some 37) (v := ?_) (a' := ?_) #[true, true, true, true, true, true, true, true, true, true, true, true, true] rfl rfl (any_of HT_.out (by kernel_rfl)) (fun _ _ _ h => h) (Or.inl ⟨by rfl, ?_⟩) ?_ ?_
                rotate_left
                · intro w'
                  go_simp
                  with_reducible rfl
                rotate_left
                · simp only [Act.put, List.setIfInBounds_toArray, List.set_cons_zero, List.set_cons_succ, i64_w, i32_w]
                  rfl
                refine done_ (done_of HT_.out (by kernel_rfl)) ?_
                try go_wp2
                go_meet
                case rel => exact ⟨_, (true), (by first | rfl | (simp; done) | (simp [*]; done)), H', ⟨by first | omega | exact Nat.le_refl _⟩, ⟨by (with_reducible repeat (first | apply Kd.R_alloc | apply Kd.R_drewN | apply Kd.R_drew)); exact Kd.R_mono HO162.out (fun _ hk => hk.2)⟩, ⟨by (with_reducible repeat (first | apply Kd.R_alloc | apply Kd.R_drewN | apply Kd.R_drew)); exact Kd.R_mono HO169.out (fun _ hk => hk.2)⟩, ⟨by (with_reducible repeat (first | apply Kd.R_alloc | apply Kd.R_drewN | apply Kd.R_drew)); exact Kd.R_mono HO172.out (fun _ hk => hk.2)⟩, ⟨by (with_reducible repeat (first | refine blk_drewN ?_ _ | refine blk_drew ?_ | refine blk_alloc ?_ _)); exact BK153.out⟩, ⟨by repeat (first | (with_reducible exact HR166.out) | (with_reducible refine Kd.C_alloc ?_ _) | (with_reducible refine Kd.C_drewN ?_ _) | (with_reducible refine Kd.C_drew ?_) | exact HR166.out)⟩, ⟨by repeat (first | (with_reducible first | exact HB.out | apply below_alloc | apply pw_below_drewN | apply below_drew1 | refine below_set ?_ GE153.out) | exact HB.out)⟩⟩
            case rest =>
              clear HC10
              try clear c1
              try clear p1
              try clear q1
              try clear hx1
              try clear c2
              try clear p2
              try clear q2
              try clear c3
              try clear c4
              try clear c5
              try clear c6
              try clear c6b0
              try clear c6b1
              try clear c7
              try clear c7b0
              try clear c7b1
              try clear c9
              try clear c10
              try clear c11
              try clear c12
              try clear p17
              try clear q17
              try clear hx17
              try clear q22
              try clear c27
              try clear c28
              try clear c28b0
              try clear c28b1
              try clear hcz13_0
              try clear hcz13_1
              try clear hcz13_2
              try clear hfz13_0
              try clear hfz13_1
              try clear hfz13_2
              try clear hx174_0
              try clear hx174_1
              try clear hx174_2
              try clear p174
              try clear q174
              try clear q22
              obtain ⟨kq, x37_9, rfl, HA, HJ9, HO_4, HO_5, HO_6, BK153, HR166, HB⟩ := hcut
              cases kq with
              | zero => exact absurd HA.out (by simp [scholiastlaw04_ChunkCuts.j0])
              | succ kj9 =>
                have H := HA.out
                clear HA
                simp only [scholiastlaw04_ChunkCuts.j0] at H
                by_cases c35 : x37_9 = true
                · subst c35
                  have H1 : (some false) = some r := by rw [if_pos rfl] at H; exact H
                  clear H
                  have H := H1
                  clear H1
                  obtain rfl := Option.some.inj H
                  go_wp2
                  go_ret
                  exact ⟨by first | rfl | (simp [errW_none, errW_some] <;> rfl) | (simp [*, errW_none, errW_some] <;> rfl), by repeat (first | (with_reducible first | exact HB.out | apply below_alloc | apply pw_below_drewN | apply below_drew1 | refine below_set ?_ GE153.out) | exact HB.out)⟩
                · replace c35 := Bool.eq_false_iff.mpr c35
                  subst c35
                  have H1 : (scholiastlaw04_ChunkCuts.l0 kj9 l0 y160 t167 t170 (l0.length : Int) 0) = some r := by rw [if_neg (show ¬ (false = true) by decide)] at H; exact H
                  clear H
                  have H := H1
                  clear H1
                  have H' := Aside0.mk H
                  clear H
                  go_wp2
                  go_loopg [40] kj9 (fun kq v40 w' => ∃ (x4_2 : List (S25)) (x40_2 : Int) (x154000_2 : Int) (x154001_2 : Int) (x154002_2 : Int), v40 = .int .i64 x40_2 ∧ Aside0 (scholiastlaw04_ChunkCuts.l0 kq l0 x4_2 t167 t170 (l0.length : Int) x40_2 = some r) ∧ Aside0 (kq ≤ kj9) ∧ Aside0 (Kd.R k25 25 w' w.heap.size (fun k_ => k_ ≠ gb153) (.slice Ao23 y160.length co23) x4_2) ∧ Aside0 (Kd.R k30 30 w' w.heap.size (fun k_ => some k_ ≠ (v171 : Value).ownBlock) v168 t167) ∧ Aside0 (Kd.R k30 30 w' w.heap.size (fun k_ => some k_ ≠ (v168 : Value).ownBlock) v171 t170) ∧ Aside0 (w'.heap[gb153]? = some (.cells #[.int .i64 x154000_2, .int .i64 x154001_2, .int .i64 x154002_2] 25 (0, 0))) ∧ Aside0 (Below w.heap.size w w'))
                  case atStart => exact ⟨(y160), (0), (59), ((-7)), (0), (by first | rfl | (simp; done) | (simp [*]; done)), H', ⟨Nat.le_refl _⟩, ⟨by (with_reducible repeat (first | apply Kd.R_alloc | apply Kd.R_drewN | apply Kd.R_drew)); exact HO_4.out⟩, ⟨by (with_reducible repeat (first | apply Kd.R_alloc | apply Kd.R_drewN | apply Kd.R_drew)); exact HO_5.out⟩, ⟨by (with_reducible repeat (first | apply Kd.R_alloc | apply Kd.R_drewN | apply Kd.R_drew)); exact HO_6.out⟩, ⟨by (with_reducible repeat (first | refine blk_drewN ?_ _ | refine blk_drew ?_ | refine blk_alloc ?_ _)); exact BK153.out⟩, ⟨by repeat (first | (with_reducible first | exact HB.out | apply below_alloc | apply pw_below_drewN | apply below_drew1 | refine below_set ?_ GE153.out) | exact HB.out)⟩⟩
                  case round =>
                    clear H'
                    try clear c1
                    try clear p1
                    try clear q1
                    try clear hx1
                    try clear c2
                    try clear p2
                    try clear q2
                    try clear c3
                    try clear c4
                    try clear c5
                    try clear c6
                    try clear c6b0
                    try clear c6b1
                    try clear c7
                    try clear c7b0
                    try clear c7b1
                    try clear c9
                    try clear c10
                    try clear c11
                    try clear c12
                    try clear p17
                    try clear q17
                    try clear hx17
                    try clear q22
                    try clear c27
                    try clear c28
                    try clear c28b0
                    try clear c28b1
                    try clear c35
                    try clear hcz13_0
                    try clear hcz13_1
                    try clear hcz13_2
                    try clear hfz13_0
                    try clear hfz13_1
                    try clear hfz13_2
                    try clear hx174_0
                    try clear hx174_1
                    try clear hx174_2
                    try clear p1
                    try clear p17
                    try clear p174
                    try clear p2
                    try clear q1
                    try clear q17
                    try clear q174
                    try clear q2
                    try clear q22
                    obtain ⟨x4_2, x40_2, x154000_2, x154001_2, x154002_2, rfl, HA, HK2, HO_4, HO_5, HO_6, BK153, HB⟩ := hrel
                    have hl4_2 := (Kd.R_reads' HO_4.out).1
                    rw [hl4_2] at HO_4
                    (try simp only [hl4_2])
                    (try simp only [hl4_2] at BK153)
                    (try simp only [hl4_2] at HO_5)
                    (try simp only [hl4_2] at HO_6)
                    cases gk with
                    | zero => exact absurd HA.out (by simp [scholiastlaw04_ChunkCuts.l0])
                    | succ k2 =>
                      have H := HA.out
                      clear HA
                      simp only [scholiastlaw04_ChunkCuts.l0] at H
                      by_cases c36 : x40_2 < (l0.length : Int)
                      · rw [if_pos c36] at H
                        have c36b0 : decide (x40_2 < (l0.length : Int)) = true := decide_eq_true c36
                        (try (have c36h0 := c36b0; simp only [hl4_2] at c36h0))
                        clear c36
                        by_cases c37 : 0 ≤ x40_2
                        · rw [if_pos c37] at H
                          have c37b0 : decide (0 ≤ x40_2) = true := decide_eq_true c37
                          (try (have c37h0 := c37b0; simp only [hl4_2] at c37h0))
                          clear c37
                          by_cases c38 : x40_2 < (x4_2.length : Int)
                          · rw [if_pos c38] at H
                            have c38b0 : decide (x40_2 < (x4_2.length : Int)) = true := decide_eq_true c38
                            (try (have c38h0 := c38b0; simp only [hl4_2] at c38h0))
                            clear c38
                            by_cases c39 : x40_2 < (l0.length : Int)
                            · rw [if_pos c39] at H
                              have c39b0 : decide (x40_2 < (l0.length : Int)) = true := decide_eq_true c39
                              (try (have c39h0 := c39b0; simp only [hl4_2] at c39h0))
                              clear c39
                              by_cases c40 : (!(((rd_T25 x4_2 x40_2).f0) == ((rd_T25 l0 x40_2).f0)) || (!(((rd_T25 x4_2 x40_2).f1) == ((rd_T25 l0 x40_2).f1)) || (!(((rd_T25 x4_2 x40_2).f2) == ((rd_T25 l0 x40_2).f2))))) = true
                              · rw [if_pos c40] at H
                                have c40b0 : (!(((rd_T25 x4_2 x40_2).f0) == ((rd_T25 l0 x40_2).f0)) || (!(((rd_T25 x4_2 x40_2).f1) == ((rd_T25 l0 x40_2).f1)) || (!(((rd_T25 x4_2 x40_2).f2) == ((rd_T25 l0 x40_2).f2))))) = true := c40
                                (try (have c40h0 := c40b0; simp only [hl4_2] at c40h0))
                                clear c40
                                obtain rfl := Option.some.inj H
                                try go_wp2
                                have n0_ := Aside0.mk (Kd.R_drew HO_4.out)
                                have n1_ := Aside0.mk (Kd.R_drew HO_5.out)
                                have n2_ := Aside0.mk (Kd.R_drew HO_6.out)
                                have n3_ := Aside0.mk (blk_drew BK153.out)
                                have n4_ := Aside0.mk (below_drew1 HB.out)
                                clear HO_4
                                clear HO_5
                                clear HO_6
                                clear BK153
                                clear HB
                                have HO_4 := n0_
                                have HO_5 := n1_
                                have HO_6 := n2_
                                have BK153 := n3_
                                have HB := n4_
                                clear n0_ n1_ n2_ n3_ n4_
                                have p175 : 0 ≤ (x40_2 : Int) := of_decide_eq_true (by first | (with_reducible assumption) | assumption)
                                have q175 : x40_2 < (x4_2.length : Int) := of_decide_eq_true (by first | (with_reducible assumption) | assumption)
                                obtain ⟨ad175, e175, hx175_0, hx175_1, hx175_2⟩ := at_T25 (Kd.R_reads' HO_4.out).2.2 x40_2 p175 q175
                                cases e175
                                replace p175 := eq_true p175
                                replace q175 := eq_true q175
                                have p176 : 0 ≤ (x40_2 : Int) := of_decide_eq_true (by first | (with_reducible assumption) | assumption)
                                have q176 : x40_2 < (l0.length : Int) := of_decide_eq_true (by first | (with_reducible assumption) | assumption)
                                obtain ⟨ad176, e176, hx176_0, hx176_1, hx176_2⟩ := at_T25 HR0.out x40_2 p176 q176
                                have hw176_2 := hx176_2
                                have hw176_1 := hx176_1
                                have hw176_0 := hx176_0
                                cases e176
                                replace hx176_0 := (HB.out.cell (World.block_lt_of_cell? w _ hx176_0)).trans hx176_0
                                replace hx176_1 := (HB.out.cell (World.block_lt_of_cell? w _ hx176_1)).trans hx176_1
                                replace hx176_2 := (HB.out.cell (World.block_lt_of_cell? w _ hx176_2)).trans hx176_2
                                replace p176 := eq_true p176
                                replace q176 := eq_true q176
                                refine start_ (n := 9) (S := fun w' => w'.cell? (ad175.add ((x40_2).toNat * 3)) = some (.int .i64 ((rd_T25 x4_2 x40_2).f0)) ∧ w'.cell? ⟨(ad175.add ((x40_2).toNat * 3)).block, (ad175.add ((x40_2).toNat * 3)).off + 1, none⟩ = some (.int .i64 ((rd_T25 x4_2 x40_2).f1)) ∧ w'.cell? ⟨(ad175.add ((x40_2).toNat * 3)).block, (ad175.add ((x40_2).toNat * 3)).off + 2, none⟩ = some (.int .i64 ((rd_T25 x4_2 x40_2).f2)) ∧ w'.cell? (ad176.add ((x40_2).toNat * 3)) = some (.int .i64 ((rd_T25 l0 x40_2).f0)) ∧ w'.cell? ⟨(ad176.add ((x40_2).toNat * 3)).block, (ad176.add ((x40_2).toNat * 3)).off + 1, none⟩ = some (.int .i64 ((rd_T25 l0 x40_2).f1)) ∧ w'.cell? ⟨(ad176.add ((x40_2).toNat * 3)).block, (ad176.add ((x40_2).toNat * 3)).off + 2, none⟩ = some (.int .i64 ((rd_T25 l0 x40_2).f2))) (ds := []) #[false, false, false, false, false, false, false, false, false] (by kernel_rfl) rfl rfl ⟨hx175_0, hx175_1, hx175_2, ((HB.out.cell (World.block_lt_of_cell? w _ hw176_0)).trans hw176_0), ((HB.out.cell (World.block_lt_of_cell? w _ hw176_1)).trans hw176_1), ((HB.out.cell (World.block_lt_of_cell? w _ hw176_2)).trans hw176_2)⟩ (fun hHeld => ?_); refine with_tabW scholiastlaw04_ChunkCuts.tab12 scholiastlaw04_ChunkCuts.bits12 (fun HT_ HW_ => ?_)
                                generalize wr.drew = w41 at HO_4 HO_5 HO_6 BK153 HB hx175_0 hx175_1 hx175_2 hx176_0 hx176_1 hx176_2 hHeld ⊢
                                refine pure_ (i := 0) (N := some 43) (v := ?_) (a' := ?_) #[true, false, false, false, false, false, false, false, false] rfl rfl (any_of HT_.out (by kernel_rfl)) (fun _ _ _ h => h) (Or.inl ⟨by rfl, ?_⟩) ?_ ?_
                                rotate_left
                                · intro w'
                                  go_simp
                                  with_reducible rfl
                                rotate_left
                                · simp only [Act.put, List.setIfInBounds_toArray, List.set_cons_zero, List.set_cons_succ, i64_w, i32_w]
                                  rfl
                                refine pure_ (i := 1) (N := some 44) (v := ?_) (a' := ?_) #[true, true, false, false, false, false, false, false, false] rfl rfl (any_of HT_.out (by kernel_rfl)) (fun _ _ _ h => h) (Or.inl ⟨by rfl, ?_⟩) ?_ ?_
                                rotate_left
                                · intro w'
                                  go_simp
                                  with_reducible rfl
                                rotate_left
                                · simp only [Act.put, List.setIfInBounds_toArray, List.set_cons_zero, List.set_cons_succ, i64_w, i32_w]
                                  rfl
                                refine pure_ (i := 2) (N := some 45) (v := ?_) (a' := ?_) #[true, true, true, false, false, false, false, false, false] rfl rfl (any_of HT_.out (by kernel_rfl)) (fun _ _ _ h => h) (Or.inl ⟨by rfl, ?_⟩) ?_ ?_
                                rotate_left
                                · intro w'
                                  go_simp
                                  with_reducible rfl
                                rotate_left
                                · simp only [Act.put, List.setIfInBounds_toArray, List.set_cons_zero, List.set_cons_succ, i64_w, i32_w]
                                  rfl
                                refine pure_ (i := 4) (N := some 47) (v := ?_) (a' := ?_) #[true, true, true, false, true, false, false, false, false] rfl rfl (any_of HT_.out (by kernel_rfl)) (fun _ _ _ h => h) (Or.inl ⟨by rfl, ?_⟩) ?_ ?_
                                rotate_left
                                · intro w'
                                  go_simp
                                  with_reducible rfl
                                rotate_left
                                · simp only [Act.put, List.setIfInBounds_toArray, List.set_cons_zero, List.set_cons_succ, i64_w, i32_w]
                                  rfl
                                refine pure_ (i := 5) (N := some 48) (v := ?_) (a' := ?_) #[true, true, true, false, true, true, false, false, false] rfl rfl (any_of HT_.out (by kernel_rfl)) (fun _ _ _ h => h) (Or.inl ⟨by rfl, ?_⟩) ?_ ?_
                                rotate_left
                                · intro w'
                                  go_simp
                                  with_reducible rfl
                                rotate_left
                                · simp only [Act.put, List.setIfInBounds_toArray, List.set_cons_zero, List.set_cons_succ, i64_w, i32_w]
                                  rfl
                                refine pure_ (i := 6) (N := some 49) (v := ?_) (a' := ?_) #[true, true, true, false, true, true, true, false, false] rfl rfl (any_of HT_.out (by kernel_rfl)) (fun _ _ _ h => h) (Or.inl ⟨by rfl, ?_⟩) ?_ ?_
                                rotate_left
                                · intro w'
                                  go_simp
                                  with_reducible rfl
                                rotate_left
                                · simp only [Act.put, List.setIfInBounds_toArray, List.set_cons_zero, List.set_cons_succ, i64_w, i32_w]
                                  rfl
                                refine take_ (i := 3) (N := some 46) (v := ?_) (a' := ?_) #[true, true, true, true, true, true, true, false, false] rfl rfl (take_ofW HT_.out HW_.out (by kernel_rfl)) (fun _ _ _ h => h) (Or.inl ⟨by rfl, ?_⟩) hHeld ?_ ?_
                                rotate_left
                                · rintro w' ⟨s0, s1, s2, s3, s4, s5⟩
                                  (try simp only [Int.toNat_natCast] at s0 s1 s2 s3 s4 s5)
                                  go_simp
                                  with_reducible rfl
                                rotate_left
                                · simp only [Act.put, List.setIfInBounds_toArray, List.set_cons_zero, List.set_cons_succ, i64_w, i32_w]
                                  rfl
                                refine take_ (i := 7) (N := some 50) (v := ?_) (a' := ?_) #[true, true, true, true, true, true, true, true, false] rfl rfl (take_ofW HT_.out HW_.out (by kernel_rfl)) (fun _ _ _ h => h) (Or.inl ⟨by rfl, ?_⟩) hHeld ?_ ?_
                                rotate_left
                                · rintro w' ⟨s0, s1, s2, s3, s4, s5⟩
                                  (try simp only [Int.toNat_natCast] at s0 s1 s2 s3 s4 s5)
                                  go_simp
                                  with_reducible rfl
                                rotate_left
                                · simp only [Act.put, List.setIfInBounds_toArray, List.set_cons_zero, List.set_cons_succ, i64_w, i32_w]
                                  rfl
                                refine pure_ (i := 8) (N := some 51) (v := ?_) (a' := ?_) #[true, true, true, true, true, true, true, true, true] rfl rfl (any_of HT_.out (by kernel_rfl)) (fun _ _ _ h => h) (Or.inl ⟨by rfl, ?_⟩) ?_ ?_
                                rotate_left
                                · intro w'
                                  go_simp
                                  with_reducible rfl
                                rotate_left
                                · simp only [Act.put, List.setIfInBounds_toArray, List.set_cons_zero, List.set_cons_succ, i64_w, i32_w]
                                  rfl
                                refine done_ (done_of HT_.out (by kernel_rfl)) ?_
                                try go_wp2
                                go_ret
                                exact ⟨by first | rfl | (simp [errW_none, errW_some] <;> rfl) | (simp [*, errW_none, errW_some] <;> rfl), by repeat (first | (with_reducible first | exact HB.out | apply below_alloc | apply pw_below_drewN | apply below_drew1 | refine below_set ?_ GE153.out) | exact HB.out)⟩
                              · rw [if_neg c40] at H
                                have c40b0 : (!(((rd_T25 x4_2 x40_2).f0) == ((rd_T25 l0 x40_2).f0)) || (!(((rd_T25 x4_2 x40_2).f1) == ((rd_T25 l0 x40_2).f1)) || (!(((rd_T25 x4_2 x40_2).f2) == ((rd_T25 l0 x40_2).f2))))) = false := by simpa using c40
                                (try (have c40h0 := c40b0; simp only [hl4_2] at c40h0))
                                clear c40
                                obtain ⟨y177, hy177⟩ : ∃ y_ : List (S25), y_ = (x4_2.set (x40_2 : Int).toNat (⟨15, 0, 0⟩ : S25)) := ⟨_, rfl⟩
                                replace H : (scholiastlaw04_ChunkCuts.l0 k2 l0 y177 t167 t170 (l0.length : Int) (wrap64 (x40_2 + 1))) = some r := by first | (rw [hy177]; with_reducible exact H) | (have H2_ := (Option.bind_some _ _).symm.trans H; rw [hy177]; with_reducible exact H2_) | (have H2_ := (Option.bind_some _ _).symm.trans H; with_reducible exact H2_) | with_reducible exact H | (rw [hy177]; exact H) | exact H
                                have Ny177 := Aside0.mk hy177
                                clear hy177
                                have H' := Aside0.mk H
                                clear H
                                try go_wp2
                                have n0_ := Aside0.mk (Kd.R_drew HO_4.out)
                                have n1_ := Aside0.mk (Kd.R_drew HO_5.out)
                                have n2_ := Aside0.mk (Kd.R_drew HO_6.out)
                                have n3_ := Aside0.mk (blk_drew BK153.out)
                                have n4_ := Aside0.mk (below_drew1 HB.out)
                                clear HO_4
                                clear HO_5
                                clear HO_6
                                clear BK153
                                clear HB
                                have HO_4 := n0_
                                have HO_5 := n1_
                                have HO_6 := n2_
                                have BK153 := n3_
                                have HB := n4_
                                clear n0_ n1_ n2_ n3_ n4_
                                have p175 : 0 ≤ (x40_2 : Int) := of_decide_eq_true (by first | (with_reducible assumption) | assumption)
                                have q175 : x40_2 < (x4_2.length : Int) := of_decide_eq_true (by first | (with_reducible assumption) | assumption)
                                obtain ⟨ad175, e175, hx175_0, hx175_1, hx175_2⟩ := at_T25 (Kd.R_reads' HO_4.out).2.2 x40_2 p175 q175
                                cases e175
                                replace p175 := eq_true p175
                                replace q175 := eq_true q175
                                have p176 : 0 ≤ (x40_2 : Int) := of_decide_eq_true (by first | (with_reducible assumption) | assumption)
                                have q176 : x40_2 < (l0.length : Int) := of_decide_eq_true (by first | (with_reducible assumption) | assumption)
                                obtain ⟨ad176, e176, hx176_0, hx176_1, hx176_2⟩ := at_T25 HR0.out x40_2 p176 q176
                                have hw176_2 := hx176_2
                                have hw176_1 := hx176_1
                                have hw176_0 := hx176_0
                                cases e176
                                replace hx176_0 := (HB.out.cell (World.block_lt_of_cell? w _ hx176_0)).trans hx176_0
                                replace hx176_1 := (HB.out.cell (World.block_lt_of_cell? w _ hx176_1)).trans hx176_1
                                replace hx176_2 := (HB.out.cell (World.block_lt_of_cell? w _ hx176_2)).trans hx176_2
                                replace p176 := eq_true p176
                                replace q176 := eq_true q176
                                refine start_ (n := 9) (S := fun w' => w'.cell? (ad175.add ((x40_2).toNat * 3)) = some (.int .i64 ((rd_T25 x4_2 x40_2).f0)) ∧ w'.cell? ⟨(ad175.add ((x40_2).toNat * 3)).block, (ad175.add ((x40_2).toNat * 3)).off + 1, none⟩ = some (.int .i64 ((rd_T25 x4_2 x40_2).f1)) ∧ w'.cell? ⟨(ad175.add ((x40_2).toNat * 3)).block, (ad175.add ((x40_2).toNat * 3)).off + 2, none⟩ = some (.int .i64 ((rd_T25 x4_2 x40_2).f2)) ∧ w'.cell? (ad176.add ((x40_2).toNat * 3)) = some (.int .i64 ((rd_T25 l0 x40_2).f0)) ∧ w'.cell? ⟨(ad176.add ((x40_2).toNat * 3)).block, (ad176.add ((x40_2).toNat * 3)).off + 1, none⟩ = some (.int .i64 ((rd_T25 l0 x40_2).f1)) ∧ w'.cell? ⟨(ad176.add ((x40_2).toNat * 3)).block, (ad176.add ((x40_2).toNat * 3)).off + 2, none⟩ = some (.int .i64 ((rd_T25 l0 x40_2).f2))) (ds := []) #[false, false, false, false, false, false, false, false, false] (by kernel_rfl) rfl rfl ⟨hx175_0, hx175_1, hx175_2, ((HB.out.cell (World.block_lt_of_cell? w _ hw176_0)).trans hw176_0), ((HB.out.cell (World.block_lt_of_cell? w _ hw176_1)).trans hw176_1), ((HB.out.cell (World.block_lt_of_cell? w _ hw176_2)).trans hw176_2)⟩ (fun hHeld => ?_); refine with_tabW scholiastlaw04_ChunkCuts.tab12 scholiastlaw04_ChunkCuts.bits12 (fun HT_ HW_ => ?_)
                                generalize wr.drew = w43 at HO_4 HO_5 HO_6 BK153 HB hx175_0 hx175_1 hx175_2 hx176_0 hx176_1 hx176_2 hHeld ⊢
                                refine pure_ (i := 0) (N := some 43) (v := ?_) (a' := ?_) #[true, false, false, false, false, false, false, false, false] rfl rfl (any_of HT_.out (by kernel_rfl)) (fun _ _ _ h => h) (Or.inl ⟨by rfl, ?_⟩) ?_ ?_
                                rotate_left
                                · intro w'
                                  go_simp
                                  with_reducible rfl
                                rotate_left
                                · simp only [Act.put, List.setIfInBounds_toArray, List.set_cons_zero, List.set_cons_succ, i64_w, i32_w]
                                  rfl
                                refine pure_ (i := 1) (N := some 44) (v := ?_) (a' := ?_) #[true, true, false, false, false, false, false, false, false] rfl rfl (any_of HT_.out (by kernel_rfl)) (fun _ _ _ h => h) (Or.inl ⟨by rfl, ?_⟩) ?_ ?_
                                rotate_left
                                · intro w'
                                  go_simp
                                  with_reducible rfl
                                rotate_left
                                · simp only [Act.put, List.setIfInBounds_toArray, List.set_cons_zero, List.set_cons_succ, i64_w, i32_w]
                                  rfl
                                refine pure_ (i := 2) (N := some 45) (v := ?_) (a' := ?_) #[true, true, true, false, false, false, false, false, false] rfl rfl (any_of HT_.out (by kernel_rfl)) (fun _ _ _ h => h) (Or.inl ⟨by rfl, ?_⟩) ?_ ?_
                                rotate_left
                                · intro w'
                                  go_simp
                                  with_reducible rfl
                                rotate_left
                                · simp only [Act.put, List.setIfInBounds_toArray, List.set_cons_zero, List.set_cons_succ, i64_w, i32_w]
                                  rfl
                                refine pure_ (i := 4) (N := some 47) (v := ?_) (a' := ?_) #[true, true, true, false, true, false, false, false, false] rfl rfl (any_of HT_.out (by kernel_rfl)) (fun _ _ _ h => h) (Or.inl ⟨by rfl, ?_⟩) ?_ ?_
                                rotate_left
                                · intro w'
                                  go_simp
                                  with_reducible rfl
                                rotate_left
                                · simp only [Act.put, List.setIfInBounds_toArray, List.set_cons_zero, List.set_cons_succ, i64_w, i32_w]
                                  rfl
                                refine pure_ (i := 5) (N := some 48) (v := ?_) (a' := ?_) #[true, true, true, false, true, true, false, false, false] rfl rfl (any_of HT_.out (by kernel_rfl)) (fun _ _ _ h => h) (Or.inl ⟨by rfl, ?_⟩) ?_ ?_
                                rotate_left
                                · intro w'
                                  go_simp
                                  with_reducible rfl
                                rotate_left
                                · simp only [Act.put, List.setIfInBounds_toArray, List.set_cons_zero, List.set_cons_succ, i64_w, i32_w]
                                  rfl
                                refine pure_ (i := 6) (N := some 49) (v := ?_) (a' := ?_) #[true, true, true, false, true, true, true, false, false] rfl rfl (any_of HT_.out (by kernel_rfl)) (fun _ _ _ h => h) (Or.inl ⟨by rfl, ?_⟩) ?_ ?_
                                rotate_left
                                · intro w'
                                  go_simp
                                  with_reducible rfl
                                rotate_left
                                · simp only [Act.put, List.setIfInBounds_toArray, List.set_cons_zero, List.set_cons_succ, i64_w, i32_w]
                                  rfl
                                refine take_ (i := 3) (N := some 46) (v := ?_) (a' := ?_) #[true, true, true, true, true, true, true, false, false] rfl rfl (take_ofW HT_.out HW_.out (by kernel_rfl)) (fun _ _ _ h => h) (Or.inl ⟨by rfl, ?_⟩) hHeld ?_ ?_
                                rotate_left
                                · rintro w' ⟨s0, s1, s2, s3, s4, s5⟩
                                  (try simp only [Int.toNat_natCast] at s0 s1 s2 s3 s4 s5)
                                  go_simp
                                  with_reducible rfl
                                rotate_left
                                · simp only [Act.put, List.setIfInBounds_toArray, List.set_cons_zero, List.set_cons_succ, i64_w, i32_w]
                                  rfl
                                refine take_ (i := 7) (N := some 50) (v := ?_) (a' := ?_) #[true, true, true, true, true, true, true, true, false] rfl rfl (take_ofW HT_.out HW_.out (by kernel_rfl)) (fun _ _ _ h => h) (Or.inl ⟨by rfl, ?_⟩) hHeld ?_ ?_
                                rotate_left
                                · rintro w' ⟨s0, s1, s2, s3, s4, s5⟩
                                  (try simp only [Int.toNat_natCast] at s0 s1 s2 s3 s4 s5)
                                  go_simp
                                  with_reducible rfl
                                rotate_left
                                · simp only [Act.put, List.setIfInBounds_toArray, List.set_cons_zero, List.set_cons_succ, i64_w, i32_w]
                                  rfl
                                refine pure_ (i := 8) (N := some 51) (v := ?_) (a' := ?_) #[true, true, true, true, true, true, true, true, true] rfl rfl (any_of HT_.out (by kernel_rfl)) (fun _ _ _ h => h) (Or.inl ⟨by rfl, ?_⟩) ?_ ?_
                                rotate_left
                                · intro w'
                                  go_simp
                                  with_reducible rfl
                                rotate_left
                                · simp only [Act.put, List.setIfInBounds_toArray, List.set_cons_zero, List.set_cons_succ, i64_w, i32_w]
                                  rfl
                                refine done_ (done_of HT_.out (by kernel_rfl)) ?_
                                have p42 : 0 ≤ (x40_2 : Int) := of_decide_eq_true (by first | (with_reducible assumption) | assumption)
                                have q42 : (x40_2 : Int) < ((x4_2.length : Int) : Int) := of_decide_eq_true (by first | (with_reducible assumption) | assumption)
                                obtain ⟨go42, co42, eo42, gb42, gl42, cl42, HG42⟩ := Kd.R_form HO_4.out (by omega)
                                (first | cases eo42 | (injection eo42 with ea_ en_ ec_; (first | subst ea_ | (injection ea_ with ea_; subst ea_)); subst ec_; clear en_))
                                have GB42 := Aside0.mk gb42
                                have GG42 := Aside0.mk HG42
                                clear gb42 gl42 HG42
                                (first | simp only [add_plain] at hx175_0 | skip)
                                (first | simp only [add_plain] at hx175_1 | skip)
                                (first | simp only [add_plain] at hx175_2 | skip)
                                obtain ⟨ce42, hcl42, hM42, hcc42, hfr42⟩ := Kd.R_elem HO_4.out z25 (x40_2 : Int) p42 q42
                                obtain rfl := k25_openM hM42
                                have hx42_0 : w43.cell? ⟨go42, (x40_2 : Int).toNat * 3, none⟩ = some (.int .i64 ((rd_T25 x4_2 x40_2).f0)) := hcc42 0 _ rfl
                                have hx42_1 : w43.cell? ⟨go42, (x40_2 : Int).toNat * 3 + 1, none⟩ = some (.int .i64 ((rd_T25 x4_2 x40_2).f1)) := hcc42 1 _ rfl
                                have hx42_2 : w43.cell? ⟨go42, (x40_2 : Int).toNat * 3 + 2, none⟩ = some (.int .i64 ((rd_T25 x4_2 x40_2).f2)) := hcc42 2 _ rfl
                                have hf42_0 : w43.frozen? ⟨go42, (x40_2 : Int).toNat * 3, none⟩ = false := hfr42 0
                                have hf42_1 : w43.frozen? ⟨go42, (x40_2 : Int).toNat * 3 + 1, none⟩ = false := hfr42 1
                                have hf42_2 : w43.frozen? ⟨go42, (x40_2 : Int).toNat * 3 + 2, none⟩ = false := hfr42 2
                                clear hcl42 hcc42 hfr42 hM42
                                replace p42 := eq_true p42
                                replace q42 := eq_true q42
                                have HX44 := Aside0.mk (show Kd.R k25 25 w43 w.heap.size (fun k_ => k_ ≠ gb153) (.slice (some ⟨go42, 0, none⟩) x4_2.length co23) x4_2 from (by (with_reducible repeat (first | apply Kd.R_alloc | apply Kd.R_drewN | apply Kd.R_drew)); exact HO_4.out))
                                obtain ⟨ce44, hcl44, hM44, hcc44, hfr44⟩ := Kd.R_elem HX44.out z25 (x40_2 : Int) (of_decide_eq_true (by first | (with_reducible assumption) | assumption)) (by have h_ : (x40_2 : Int) < ((x4_2.length : Int) : Int) := of_decide_eq_true (by first | (with_reducible assumption) | assumption); first | exact h_ | (have e_ := (Kd.R_reads' HO_4.out).1; omega) | simpa using h_)
                                obtain rfl := k25_openM hM44
                                have HP44 := Kd.R_seg HX44.out (x40_2 : Int) (of_decide_eq_true (by first | (with_reducible assumption) | assumption)) (by have h_ : (x40_2 : Int) < ((x4_2.length : Int) : Int) := of_decide_eq_true (by first | (with_reducible assumption) | assumption); first | exact h_ | (have e_ := (Kd.R_reads' HO_4.out).1; omega) | simpa using h_) (seg := [.int .i64 15, .int .i64 0, .int .i64 0]) (j := 0) hcl44 hcc44 (show 3 ≤ 3 from by decide) (x' := (⟨15, 0, 0⟩ : S25)) (k25_mkM _ _ _ (⟨15, 0, 0⟩ : S25) ) (fun _ hk => hk)
                                have hx44_0 := hcc44 0 _ rfl
                                (try simp only [show (k25).sz = 3 from rfl, Nat.mul_one, Nat.add_zero] at hx44_0)
                                have hf44_0 := hfr44 0
                                (try simp only [show (k25).sz = 3 from rfl, Nat.mul_one, Nat.add_zero] at hf44_0)
                                have hx44_1 := hcc44 1 _ rfl
                                (try simp only [show (k25).sz = 3 from rfl, Nat.mul_one, Nat.add_zero] at hx44_1)
                                have hf44_1 := hfr44 1
                                (try simp only [show (k25).sz = 3 from rfl, Nat.mul_one, Nat.add_zero] at hf44_1)
                                have hx44_2 := hcc44 2 _ rfl
                                (try simp only [show (k25).sz = 3 from rfl, Nat.mul_one, Nat.add_zero] at hx44_2)
                                have hf44_2 := hfr44 2
                                (try simp only [show (k25).sz = 3 from rfl, Nat.mul_one, Nat.add_zero] at hf44_2)
                                clear hcl44 hcc44 hfr44 hM44
                                try go_wp2_with (first | ((with_reducible refine gate_store (t := 25) (p := 55) rfl ?_); refine store_event (t := 25) (p := 55) (v := ?vo_w45) (w1 := (((w43.setCell ⟨go42, (x40_2 : Int).toNat * 3, none⟩ (.int .i64 15)).setCell ⟨go42, (x40_2 : Int).toNat * 3 + 1, none⟩ (.int .i64 0)).setCell ⟨go42, (x40_2 : Int).toNat * 3 + 2, none⟩ (.int .i64 0))) ?hg ?ho ?hn ?hr ?_; (case ho => rfl); (case hg => rfl); (case hn => rfl); (case hr => first | (go_simp; done) | (go_simp; rfl)); intro w45 hw; have hg : w43.grownBy w45 (some go42) := (by rw [hw]; exact HP44.2); have hp_ : Kd.R k25 25 w45 w.heap.size (fun k_ => k_ ≠ gb153) (.slice (some ⟨go42, 0, none⟩) x4_2.length co23) y177 := (by rw [hw, Ny177.out]; exact HP44.1); clear HP44; have n0_ := Aside0.mk (hp_); have n1_ := Aside0.mk (Kd.R_over' (v := (.slice (some ⟨go42, 0, none⟩) x4_2.length co23)) (by (with_reducible repeat (first | apply Kd.R_alloc | apply Kd.R_drewN | apply Kd.R_drew)); exact HO_5.out) (Kd.R_typed HO_4.out) (by decide) hg); have n2_ := Aside0.mk (Kd.R_over' (v := (.slice (some ⟨go42, 0, none⟩) x4_2.length co23)) (by (with_reducible repeat (first | apply Kd.R_alloc | apply Kd.R_drewN | apply Kd.R_drew)); exact HO_6.out) (Kd.R_typed HO_4.out) (by decide) hg); have n3_ := Aside0.mk (blk_grown (g := gb153) (o := .cells #[.int .i64 x154000_2, .int .i64 x154001_2, .int .i64 x154002_2] 25 (0, 0)) (by (with_reducible repeat (first | refine blk_drewN ?_ _ | refine blk_drew ?_ | refine blk_alloc ?_ _)); exact BK153.out) hg (Kd.R_away HO_4.out (fun _ hk => hk))); have n4_ := Aside0.mk ((by rw [hw]; exact below_set (below_set (below_set (HB.out) GB42.out) GB42.out) GB42.out : Below w.heap.size w w45)); clear HO_4; clear HO_5; clear HO_6; clear BK153; clear HB; have HO_4 := n0_; have HO_5 := n1_; have HO_6 := n2_; have BK153 := n3_; have HB := n4_; clear n0_ n1_ n2_ n3_ n4_; clear hg hw hp_))
                                (try simp only [← hl4_2])
                                go_roundg k2
                                case measure => have := HJ9.out; have := HK2.out; omega
                                case rel => exact ⟨(y177), (wrap64 (x40_2 + 1)), (x154000_2), (x154001_2), (x154002_2), (by first | rfl | (simp; done) | (simp [*]; done)), H', ⟨by have := HJ9.out; have := HK2.out; omega⟩, ⟨by (try simp only [hl4_2]); (with_reducible repeat (first | apply Kd.R_alloc | apply Kd.R_drewN | apply Kd.R_drew)); exact HO_4.out⟩, ⟨by (try simp only [hl4_2]); (with_reducible repeat (first | apply Kd.R_alloc | apply Kd.R_drewN | apply Kd.R_drew)); exact HO_5.out⟩, ⟨by (try simp only [hl4_2]); (with_reducible repeat (first | apply Kd.R_alloc | apply Kd.R_drewN | apply Kd.R_drew)); exact HO_6.out⟩, ⟨by (try simp only [hl4_2]); (with_reducible repeat (first | refine blk_drewN ?_ _ | refine blk_drew ?_ | refine blk_alloc ?_ _)); exact BK153.out⟩, ⟨by repeat (first | (with_reducible first | exact HB.out | apply below_alloc | apply pw_below_drewN | apply below_drew1 | refine below_set ?_ GE153.out) | exact HB.out)⟩⟩
                            · rw [if_neg c39] at H
                              exact absurd H (by simp)
                          · rw [if_neg c38] at H
                            exact absurd H (by simp)
                        · rw [if_neg c37] at H
                          exact absurd H (by simp)
                      · rw [if_neg c36] at H
                        have c36b0 : decide (x40_2 < (l0.length : Int)) = false := decide_eq_false c36
                        (try (have c36h0 := c36b0; simp only [hl4_2] at c36h0))
                        clear c36
                        by_cases c46 : ([] : List (S25)).length + l0.length < 5864062014805
                        · rw [if_pos c46] at H
                          have LMc46 := Aside0.mk c46
                          clear c46
                          obtain ⟨y178, hy178⟩ : ∃ y_ : List (S25), y_ = (([] : List (S25)) ++ l0) := ⟨_, rfl⟩
                          replace H : ((chunk_Cut.f y178).bind fun t181 => (scholiastlaw04_ChunkCuts.l1 k2 t167 t170 t181 (t167.length : Int) 0)) = some r := by first | (rw [hy178]; with_reducible exact H) | (have H2_ := (Option.bind_some _ _).symm.trans H; rw [hy178]; with_reducible exact H2_) | (have H2_ := (Option.bind_some _ _).symm.trans H; with_reducible exact H2_) | with_reducible exact H | (rw [hy178]; exact H) | exact H
                          have Ny178 := Aside0.mk hy178
                          clear hy178
                          replace H := Option.bind_eq_some_iff.mp H
                          obtain ⟨t181, A470, H⟩ := H
                          replace H : (scholiastlaw04_ChunkCuts.l1 k2 t167 t170 t181 (t167.length : Int) 0) = some r := H
                          have A47 := Aside0.mk A470
                          clear A470
                          have H' := Aside0.mk H
                          clear H
                          go_wp2_with (first | ((with_reducible refine gate_builtin (b := .append) (xs := #[.const (.slice none 0 0), .tmp 57]) rfl ?_); (try (refine gate_guard (by rfl) ?_; dsimp only)); at_builtin; refine Kd.R_append_rows k25 (w0 := w) w.heap.size rfl (.const (.slice none 0 0)) (.tmp 57) 22 25 (.agg #[(.int .i64 0), (.int .i64 0), (.int .i64 0)]) 24 rfl Try.underlying22 info25 rfl (by decide) (by omega) (.slice none 0 0) ([] : List (S25)) l0 _ _ _ (fun k_ => some k_ ≠ (.slice Ao23 x4_2.length co23 : Value).ownBlock ∧ k_ ≠ gb153) (fun _ => False) rfl rfl ?aO ?aR (fun _ _ h => h) (fun _ h => h.elim) ?aF ?aB ?aS ?aL ?_; (case aR => repeat (first | exact (Kd.C_below HR0.out HB.out) | (with_reducible refine Kd.C_alloc ?_ _) | (with_reducible refine Kd.C_drewN ?_ _) | (with_reducible refine Kd.C_drew ?_))); (case aB => exact (by repeat (first | (with_reducible first | exact HB.out | apply below_alloc | apply pw_below_drewN | apply below_drew1 | refine below_set ?_ GE153.out) | exact HB.out))); (case aF => exact (fun k_ hk => ⟨Kd.fresh' (Kd.R_lt (by (with_reducible repeat (first | apply Kd.R_alloc | apply Kd.R_drewN | apply Kd.R_drew)); exact HO_4.out)) k_ hk, Kd.freshB (g := gb153) (o := .cells #[.int .i64 x154000_2, .int .i64 x154001_2, .int .i64 x154002_2] 25 (0, 0)) (by (with_reducible repeat (first | refine blk_drewN ?_ _ | refine blk_drew ?_ | refine blk_alloc ?_ _)); exact BK153.out) k_ hk⟩)); (case aO => exact ((Kd.R_nil _ _ _ _ (fun k_ => some k_ ≠ (.slice Ao23 x4_2.length co23 : Value).ownBlock ∧ k_ ≠ gb153)))); (case aS => exact (below_size (by repeat (first | (with_reducible first | exact HB.out | apply below_alloc | apply pw_below_drewN | apply below_drew1 | refine below_set ?_ GE153.out) | exact HB.out)))); (case aL => have := LMc46.out; omega); intro v179 w48 ho hb hg hat; rw [← Ny178.out] at ho; have n0_ := Aside0.mk (Kd.R_after (Kd.R_apart_nil (by (with_reducible repeat (first | apply Kd.R_alloc | apply Kd.R_drewN | apply Kd.R_drew)); exact HO_4.out)) hg hat); have n1_ := Aside0.mk (Kd.R_grown (by (with_reducible repeat (first | apply Kd.R_alloc | apply Kd.R_drewN | apply Kd.R_drew)); exact HO_5.out) hg (fun _ _ => by simp [Value.ownBlock])); have n2_ := Aside0.mk (Kd.R_grown (by (with_reducible repeat (first | apply Kd.R_alloc | apply Kd.R_drewN | apply Kd.R_drew)); exact HO_6.out) hg (fun _ _ => by simp [Value.ownBlock])); have n3_ := Aside0.mk (blk_grown (g := gb153) (o := .cells #[.int .i64 x154000_2, .int .i64 x154001_2, .int .i64 x154002_2] 25 (0, 0)) (by (with_reducible repeat (first | refine blk_drewN ?_ _ | refine blk_drew ?_ | refine blk_alloc ?_ _)); exact BK153.out) hg (by simp [Value.ownBlock])); have n4_ := Aside0.mk (hb); have n5_ := Aside0.mk (ho); clear HO_4; clear HO_5; clear HO_6; clear BK153; clear HB; have HO_4 := n0_; have HO_5 := n1_; have HO_6 := n2_; have BK153 := n3_; have HB := n4_; have HO180 := n5_; clear n0_ n1_ n2_ n3_ n4_ n5_; clear ho hb hg hat; obtain ⟨Ao49, co49, eo49⟩ := Kd.R_slice HO180.out; subst eo49) | ((with_reducible refine gate_callee (f := 10) rfl ?_); refine goesL_ (some 59) rfl rfl Try.func10 (by kernel_rfl) rfl #[.slice Ao49 y178.length co49] rfl (by (try simp only [List.map_toArray, List.map_cons, List.map_nil]); first | done | rfl | (simp only [List.length_drop, List.length_take]; rfl)) ?_; (with_reducible refine (chunk_Cut.calls _ _ y178 t181 _ ?side1 ?side2 A47.out).mono ?_); (case side1 => repeat (first | exact (Kd.R_reads' HO180.out).2.2 | (with_reducible refine Kd.C_alloc ?_ _) | (with_reducible refine Kd.C_drewN ?_ _) | (with_reducible refine Kd.C_drew ?_))); (case side2 => exact (Kd.R_reads' HO180.out).2.1); rintro e w50 ⟨v182, rfl, ho0, hb⟩; refine ⟨_, rfl, ?_⟩; have n0_ := Aside0.mk (Kd.R_below (by (with_reducible repeat (first | apply Kd.R_alloc | apply Kd.R_drewN | apply Kd.R_drew)); exact HO_4.out) hb); have n1_ := Aside0.mk (Kd.R_elder' (by (with_reducible repeat (first | apply Kd.R_alloc | apply Kd.R_drewN | apply Kd.R_drew)); exact HO_5.out) (Kd.R_base ho0) hb); have n2_ := Aside0.mk (Kd.R_elder' (by (with_reducible repeat (first | apply Kd.R_alloc | apply Kd.R_drewN | apply Kd.R_drew)); exact HO_6.out) (Kd.R_base ho0) hb); have n3_ := Aside0.mk (Kd.R_below (by (with_reducible repeat (first | apply Kd.R_alloc | apply Kd.R_drewN | apply Kd.R_drew)); exact HO180.out) hb); have n4_ := Aside0.mk (Kd.R_lower (Kd.R_new' (Kd.R_new' ho0 (Kd.R_lt (by (with_reducible repeat (first | apply Kd.R_alloc | apply Kd.R_drewN | apply Kd.R_drew)); exact HO_5.out))) (Kd.R_lt (by (with_reducible repeat (first | apply Kd.R_alloc | apply Kd.R_drewN | apply Kd.R_drew)); exact HO_6.out))) (below_size (by repeat (first | (with_reducible first | exact HB.out | apply below_alloc | apply pw_below_drewN | apply below_drew1 | refine below_set ?_ GE153.out) | exact HB.out)))); have n5_ := Aside0.mk (blk_below (g := gb153) (o := .cells #[.int .i64 x154000_2, .int .i64 x154001_2, .int .i64 x154002_2] 25 (0, 0)) (by (with_reducible repeat (first | refine blk_drewN ?_ _ | refine blk_drew ?_ | refine blk_alloc ?_ _)); exact BK153.out) hb); have n6_ := Aside0.mk (below_step (by repeat (first | (with_reducible first | exact HB.out | apply below_alloc | apply pw_below_drewN | apply below_drew1 | refine below_set ?_ GE153.out) | exact HB.out)) hb); clear HO_4; clear HO_5; clear HO_6; clear HO180; clear BK153; clear HB; have HO_4 := n0_; have HO_5 := n1_; have HO_6 := n2_; have HO180 := n3_; have HO183 := n4_; have BK153 := n5_; have HB := n6_; clear n0_ n1_ n2_ n3_ n4_ n5_ n6_; (try clear hb); (try clear hb2); (try clear hk); (try clear hi); (try clear ho0); obtain ⟨Ao51, co51, eo51⟩ := Kd.R_slice HO_5.out; subst eo51))
                          go_loopg [62] k2 (fun kq v62 w' => ∃ (x5_3 : List (S30)) (x62_3 : Int), v62 = .int .i64 x62_3 ∧ Aside0 (scholiastlaw04_ChunkCuts.l1 kq x5_3 t170 t181 (t167.length : Int) x62_3 = some r) ∧ Aside0 (kq ≤ k2) ∧ Aside0 (Kd.R k30 30 w' w.heap.size (fun k_ => some k_ ≠ (v171 : Value).ownBlock ∧ some k_ ≠ (v182 : Value).ownBlock) (.slice Ao51 t167.length co51) x5_3) ∧ Aside0 (Kd.R k30 30 w' w.heap.size (fun k_ => some k_ ≠ ((.slice Ao51 t167.length co51) : Value).ownBlock ∧ some k_ ≠ (v182 : Value).ownBlock) v171 t170) ∧ Aside0 (Kd.R k30 30 w' w.heap.size (fun k_ => some k_ ≠ ((.slice Ao51 t167.length co51) : Value).ownBlock ∧ some k_ ≠ (v171 : Value).ownBlock) v182 t181) ∧ Aside0 (w'.heap[gb153]? = some (.cells #[.int .i64 x154000_2, .int .i64 x154001_2, .int .i64 x154002_2] 25 (0, 0))) ∧ Aside0 (Below w.heap.size w w'))
                          case atStart => exact ⟨(t167), (0), (by first | rfl | (simp; done) | (simp [*]; done)), H', ⟨Nat.le_refl _⟩, ⟨by (try simp only [hl4_2]); (with_reducible repeat (first | apply Kd.R_alloc | apply Kd.R_drewN | apply Kd.R_drew)); exact HO_5.out⟩, ⟨by (try simp only [hl4_2]); (with_reducible repeat (first | apply Kd.R_alloc | apply Kd.R_drewN | apply Kd.R_drew)); exact HO_6.out⟩, ⟨by (try simp only [hl4_2]); (with_reducible repeat (first | apply Kd.R_alloc | apply Kd.R_drewN | apply Kd.R_drew)); exact Kd.R_mono HO183.out (fun _ hk => ⟨hk.1.2, hk.2⟩)⟩, ⟨by (try simp only [hl4_2]); (with_reducible repeat (first | refine blk_drewN ?_ _ | refine blk_drew ?_ | refine blk_alloc ?_ _)); exact BK153.out⟩, ⟨by repeat (first | (with_reducible first | exact HB.out | apply below_alloc | apply pw_below_drewN | apply below_drew1 | refine below_set ?_ GE153.out) | exact HB.out)⟩⟩
                          case round =>
                            clear H'
                            try clear c1
                            try clear p1
                            try clear q1
                            try clear hx1
                            try clear c2
                            try clear p2
                            try clear q2
                            try clear c3
                            try clear c4
                            try clear p4
                            try clear q4
                            try clear hx4
                            try clear hf4
                            try clear c5
                            try clear c6
                            try clear c6b0
                            try clear c6b1
                            try clear p6
                            try clear c7
                            try clear c7b0
                            try clear c7b1
                            try clear c9
                            try clear c10
                            try clear c11
                            try clear c12
                            try clear p17
                            try clear q17
                            try clear hx17
                            try clear q22
                            try clear c27
                            try clear c28
                            try clear c28b0
                            try clear c28b1
                            try clear c35
                            try clear c36
                            try clear c36b0
                            try clear c37
                            try clear c37b0
                            try clear c38
                            try clear c38b0
                            try clear c39
                            try clear c39b0
                            try clear c40
                            try clear c40b0
                            try clear c42
                            try clear p42
                            try clear q42
                            try clear hx42
                            try clear hf42
                            try clear c44
                            try clear hx44
                            try clear hf44
                            try clear c46
                            try clear hcz13_0
                            try clear hcz13_1
                            try clear hcz13_2
                            try clear hfz13_0
                            try clear hfz13_1
                            try clear hfz13_2
                            try clear hx174_0
                            try clear hx174_1
                            try clear hx174_2
                            try clear hx175_0
                            try clear hx175_1
                            try clear hx175_2
                            try clear hx176_0
                            try clear hx176_1
                            try clear hx176_2
                            try clear hx42_0
                            try clear hx42_1
                            try clear hx42_2
                            try clear hx44_0
                            try clear hx44_1
                            try clear hx44_2
                            try clear p1
                            try clear p17
                            try clear p174
                            try clear p175
                            try clear p176
                            try clear p2
                            try clear p42
                            try clear q1
                            try clear q17
                            try clear q174
                            try clear q175
                            try clear q176
                            try clear q2
                            try clear q22
                            try clear q42
                            obtain ⟨x5_3, x62_3, rfl, HA, HK3, HO_5, HO_6, HO_8, BK153, HB⟩ := hrel
                            have hl5_3 := (Kd.R_reads' HO_5.out).1
                            rw [hl5_3] at HO_5
                            (try simp only [hl5_3])
                            (try simp only [hl5_3] at BK153)
                            (try simp only [hl5_3] at HO_6)
                            (try simp only [hl5_3] at HO_8)
                            cases gk with
                            | zero => exact absurd HA.out (by simp [scholiastlaw04_ChunkCuts.l1])
                            | succ k3 =>
                              have H := HA.out
                              clear HA
                              simp only [scholiastlaw04_ChunkCuts.l1] at H
                              by_cases c52 : x62_3 < (t167.length : Int)
                              · rw [if_pos c52] at H
                                have c52b0 : decide (x62_3 < (t167.length : Int)) = true := decide_eq_true c52
                                (try (have c52h0 := c52b0; simp only [hl4_2, hl5_3] at c52h0))
                                clear c52
                                by_cases c53 : 0 ≤ x62_3
                                · rw [if_pos c53] at H
                                  have c53b0 : decide (0 ≤ x62_3) = true := decide_eq_true c53
                                  (try (have c53h0 := c53b0; simp only [hl4_2, hl5_3] at c53h0))
                                  clear c53
                                  by_cases c54 : x62_3 < (x5_3.length : Int)
                                  · rw [if_pos c54] at H
                                    have c54b0 : decide (x62_3 < (x5_3.length : Int)) = true := decide_eq_true c54
                                    (try (have c54h0 := c54b0; simp only [hl4_2, hl5_3] at c54h0))
                                    clear c54
                                    obtain ⟨y184, hy184⟩ : ∃ y_ : List (S30), y_ = (x5_3.set (x62_3 : Int).toNat (⟨(-1), 0⟩ : S30)) := ⟨_, rfl⟩
                                    replace H : (scholiastlaw04_ChunkCuts.l1 k3 y184 t170 t181 (t167.length : Int) (wrap64 (x62_3 + 1))) = some r := by first | (rw [hy184]; with_reducible exact H) | (have H2_ := (Option.bind_some _ _).symm.trans H; rw [hy184]; with_reducible exact H2_) | (have H2_ := (Option.bind_some _ _).symm.trans H; with_reducible exact H2_) | with_reducible exact H | (rw [hy184]; exact H) | exact H
                                    have Ny184 := Aside0.mk hy184
                                    clear hy184
                                    have H' := Aside0.mk H
                                    clear H
                                    have p55 : 0 ≤ (x62_3 : Int) := of_decide_eq_true (by first | (with_reducible assumption) | assumption)
                                    have q55 : (x62_3 : Int) < ((x5_3.length : Int) : Int) := of_decide_eq_true (by first | (with_reducible assumption) | assumption)
                                    obtain ⟨go55, co55, eo55, gb55, gl55, cl55, HG55⟩ := Kd.R_form HO_5.out (by omega)
                                    (first | cases eo55 | (injection eo55 with ea_ en_ ec_; (first | subst ea_ | (injection ea_ with ea_; subst ea_)); subst ec_; clear en_))
                                    have GB55 := Aside0.mk gb55
                                    have GG55 := Aside0.mk HG55
                                    clear gb55 gl55 HG55
                                    obtain ⟨ce55, hcl55, hM55, hcc55, hfr55⟩ := Kd.R_elem HO_5.out z30 (x62_3 : Int) p55 q55
                                    obtain rfl := k30_openM hM55
                                    have hx55_0 : wr.cell? ⟨go55, (x62_3 : Int).toNat * 2, none⟩ = some (.int .i64 ((rd_T30 x5_3 x62_3).f0)) := hcc55 0 _ rfl
                                    have hx55_1 : wr.cell? ⟨go55, (x62_3 : Int).toNat * 2 + 1, none⟩ = some (.int .i64 ((rd_T30 x5_3 x62_3).f1)) := hcc55 1 _ rfl
                                    have hf55_0 : wr.frozen? ⟨go55, (x62_3 : Int).toNat * 2, none⟩ = false := hfr55 0
                                    have hf55_1 : wr.frozen? ⟨go55, (x62_3 : Int).toNat * 2 + 1, none⟩ = false := hfr55 1
                                    clear hcl55 hcc55 hfr55 hM55
                                    replace p55 := eq_true p55
                                    replace q55 := eq_true q55
                                    have HX56 := Aside0.mk (show Kd.R k30 30 wr w.heap.size (fun k_ => some k_ ≠ (v171 : Value).ownBlock ∧ some k_ ≠ (v182 : Value).ownBlock) (.slice (some ⟨go55, 0, none⟩) x5_3.length co51) x5_3 from (by (with_reducible repeat (first | apply Kd.R_alloc | apply Kd.R_drewN | apply Kd.R_drew)); exact HO_5.out))
                                    obtain ⟨ce56, hcl56, hM56, hcc56, hfr56⟩ := Kd.R_elem HX56.out z30 (x62_3 : Int) (of_decide_eq_true (by first | (with_reducible assumption) | assumption)) (by have h_ : (x62_3 : Int) < ((x5_3.length : Int) : Int) := of_decide_eq_true (by first | (with_reducible assumption) | assumption); first | exact h_ | (have e_ := (Kd.R_reads' HO_5.out).1; omega) | simpa using h_)
                                    obtain rfl := k30_openM hM56
                                    have HP56 := Kd.R_seg HX56.out (x62_3 : Int) (of_decide_eq_true (by first | (with_reducible assumption) | assumption)) (by have h_ : (x62_3 : Int) < ((x5_3.length : Int) : Int) := of_decide_eq_true (by first | (with_reducible assumption) | assumption); first | exact h_ | (have e_ := (Kd.R_reads' HO_5.out).1; omega) | simpa using h_) (seg := [.int .i64 (-1), .int .i64 0]) (j := 0) hcl56 hcc56 (show 2 ≤ 2 from by decide) (x' := (⟨(-1), 0⟩ : S30)) (k30_mkM _ _ _ (⟨(-1), 0⟩ : S30) ) (fun _ hk => hk)
                                    have hx56_0 := hcc56 0 _ rfl
                                    (try simp only [show (k30).sz = 2 from rfl, Nat.mul_one, Nat.add_zero] at hx56_0)
                                    have hf56_0 := hfr56 0
                                    (try simp only [show (k30).sz = 2 from rfl, Nat.mul_one, Nat.add_zero] at hf56_0)
                                    have hx56_1 := hcc56 1 _ rfl
                                    (try simp only [show (k30).sz = 2 from rfl, Nat.mul_one, Nat.add_zero] at hx56_1)
                                    have hf56_1 := hfr56 1
                                    (try simp only [show (k30).sz = 2 from rfl, Nat.mul_one, Nat.add_zero] at hf56_1)
                                    clear hcl56 hcc56 hfr56 hM56
                                    go_wp2_with (first | ((with_reducible refine gate_store (t := 30) (p := 68) rfl ?_); refine store_event (t := 30) (p := 68) (v := ?vo_w57) (w1 := ((wr.setCell ⟨go55, (x62_3 : Int).toNat * 2, none⟩ (.int .i64 (-1))).setCell ⟨go55, (x62_3 : Int).toNat * 2 + 1, none⟩ (.int .i64 0))) ?hg ?ho ?hn ?hr ?_; (case ho => rfl); (case hg => rfl); (case hn => rfl); (case hr => first | (go_simp; done) | (go_simp; rfl)); intro w57 hw; have hg : wr.grownBy w57 (some go55) := (by rw [hw]; exact HP56.2); have hp_ : Kd.R k30 30 w57 w.heap.size (fun k_ => some k_ ≠ (v171 : Value).ownBlock ∧ some k_ ≠ (v182 : Value).ownBlock) (.slice (some ⟨go55, 0, none⟩) x5_3.length co51) y184 := (by rw [hw, Ny184.out]; exact HP56.1); clear HP56; have n0_ := Aside0.mk (hp_); have n1_ := Aside0.mk (Kd.R_after (v := (.slice (some ⟨go55, 0, none⟩) x5_3.length co51)) (v1 := (.slice (some ⟨go55, 0, none⟩) x5_3.length co51)) (ok := (fun k_ => some k_ ≠ (v182 : Value).ownBlock)) (by (with_reducible repeat (first | apply Kd.R_alloc | apply Kd.R_drewN | apply Kd.R_drew)); exact Kd.R_mono HO_6.out (fun _ hk => ⟨hk.2, hk.1⟩)) hg (.inl rfl)); have n2_ := Aside0.mk (Kd.R_after (v := (.slice (some ⟨go55, 0, none⟩) x5_3.length co51)) (v1 := (.slice (some ⟨go55, 0, none⟩) x5_3.length co51)) (ok := (fun k_ => some k_ ≠ (v171 : Value).ownBlock)) (by (with_reducible repeat (first | apply Kd.R_alloc | apply Kd.R_drewN | apply Kd.R_drew)); exact Kd.R_mono HO_8.out (fun _ hk => ⟨hk.2, hk.1⟩)) hg (.inl rfl)); have n3_ := Aside0.mk (blk_grown (g := gb153) (o := .cells #[.int .i64 x154000_2, .int .i64 x154001_2, .int .i64 x154002_2] 25 (0, 0)) (by (with_reducible repeat (first | refine blk_drewN ?_ _ | refine blk_drew ?_ | refine blk_alloc ?_ _)); exact BK153.out) hg (Kd.R_ne HO_5.out BK153.out (by decide))); have n4_ := Aside0.mk ((by rw [hw]; exact below_set (below_set (HB.out) GB55.out) GB55.out : Below w.heap.size w w57)); clear HO_5; clear HO_6; clear HO_8; clear BK153; clear HB; have HO_5 := n0_; have HO_6 := n1_; have HO_8 := n2_; have BK153 := n3_; have HB := n4_; clear n0_ n1_ n2_ n3_ n4_; clear hg hw hp_))
                                    (try simp only [← hl5_3])
                                    go_roundg k3
                                    case measure => have := HJ9.out; have := HK2.out; have := HK3.out; omega
                                    case rel => exact ⟨(y184), (wrap64 (x62_3 + 1)), (by first | rfl | (simp; done) | (simp [*]; done)), H', ⟨by have := HJ9.out; have := HK2.out; have := HK3.out; omega⟩, ⟨by (try simp only [hl4_2]); (try simp only [hl5_3]); (with_reducible repeat (first | apply Kd.R_alloc | apply Kd.R_drewN | apply Kd.R_drew)); exact HO_5.out⟩, ⟨by (try simp only [hl4_2]); (try simp only [hl5_3]); (with_reducible repeat (first | apply Kd.R_alloc | apply Kd.R_drewN | apply Kd.R_drew)); exact Kd.R_mono HO_6.out (fun _ hk => ⟨hk.2, hk.1⟩)⟩, ⟨by (try simp only [hl4_2]); (try simp only [hl5_3]); (with_reducible repeat (first | apply Kd.R_alloc | apply Kd.R_drewN | apply Kd.R_drew)); exact Kd.R_mono HO_8.out (fun _ hk => ⟨hk.2, hk.1⟩)⟩, ⟨by (try simp only [hl4_2]); (try simp only [hl5_3]); (with_reducible repeat (first | refine blk_drewN ?_ _ | refine blk_drew ?_ | refine blk_alloc ?_ _)); exact BK153.out⟩, ⟨by repeat (first | (with_reducible first | exact HB.out | apply below_alloc | apply pw_below_drewN | apply below_drew1 | refine below_set ?_ GE153.out) | exact HB.out)⟩⟩
                                  · rw [if_neg c54] at H
                                    exact absurd H (by simp)
                                · rw [if_neg c53] at H
                                  exact absurd H (by simp)
                              · rw [if_neg c52] at H
                                have c52b0 : decide (x62_3 < (t167.length : Int)) = false := decide_eq_false c52
                                (try (have c52h0 := c52b0; simp only [hl4_2, hl5_3] at c52h0))
                                clear c52
                                obtain ⟨y185, hy185⟩ : ∃ y_ : List (S30), y_ = (([(⟨(-1), 0⟩ : S30), (⟨(-1), 0⟩ : S30)] : List (S30))) := ⟨_, rfl⟩
                                replace H : (if x5_3.length + y185.length < 8796093022208 then ((scholiastlaw04_spans.f k3 t181 t170).bind fun t191 => (if t191 = true then (some (((x5_3 ++ y185).length : Int) == (wrap64 ((t170.length : Int) + 2)))) else (some false))) else (none)) = some r := by first | (rw [hy185]; with_reducible exact H) | (have H2_ := (Option.bind_some _ _).symm.trans H; rw [hy185]; with_reducible exact H2_) | (have H2_ := (Option.bind_some _ _).symm.trans H; with_reducible exact H2_) | with_reducible exact H | (rw [hy185]; exact H) | exact H
                                have Ny185 := Aside0.mk hy185
                                clear hy185
                                by_cases c58 : x5_3.length + y185.length < 8796093022208
                                · rw [if_pos c58] at H
                                  have LMc58 := Aside0.mk c58
                                  clear c58
                                  obtain ⟨y188, hy188⟩ : ∃ y_ : List (S30), y_ = (x5_3 ++ y185) := ⟨_, rfl⟩
                                  replace H : ((scholiastlaw04_spans.f k3 t181 t170).bind fun t191 => (if t191 = true then (some ((y188.length : Int) == (wrap64 ((t170.length : Int) + 2)))) else (some false))) = some r := by first | (rw [hy188]; with_reducible exact H) | (have H2_ := (Option.bind_some _ _).symm.trans H; rw [hy188]; with_reducible exact H2_) | (have H2_ := (Option.bind_some _ _).symm.trans H; with_reducible exact H2_) | with_reducible exact H | (rw [hy188]; exact H) | exact H
                                  have Ny188 := Aside0.mk hy188
                                  clear hy188
                                  replace H := Option.bind_eq_some_iff.mp H
                                  obtain ⟨t191, A590, H⟩ := H
                                  replace H : (if t191 = true then (some ((y188.length : Int) == (wrap64 ((t170.length : Int) + 2)))) else (some false)) = some r := H
                                  have A59 := Aside0.mk A590
                                  clear A590
                                  by_cases c60 : t191 = true
                                  · subst c60
                                    have H1 : (some ((y188.length : Int) == (wrap64 ((t170.length : Int) + 2)))) = some r := by rw [if_pos rfl] at H; exact H
                                    clear H
                                    have H := H1
                                    clear H1
                                    obtain rfl := Option.some.inj H
                                    go_wp2_with (first | ((with_reducible refine gate_dst (N := 73) rfl ?_); (try (refine gate_guard (by rfl) ?_; dsimp only)); refine Kd.R_lit k30 _ 30 ?hg (N := 73) ?hd (xs := ([(⟨(-1), 0⟩ : S30), (⟨(-1), 0⟩ : S30)] : List (S30))) (inner := [.int .i64 (-1), .int .i64 0, .int .i64 (-1), .int .i64 0]) (ok := fun _ => True) (okp := fun _ => True) ?hr ?hp (fun _ hk => hk) trivial (Below.refl _ _) (Nat.le_refl _) (by simp) ?_; (case hd => rfl); (case hg => rfl); (case hr => first | (go_simp; done) | (go_simp; rfl)); (case hp => exact (Reps.c2 (show Kd.M k30 _ _ _ (⟨(-1), 0⟩ : S30) [.int .i64 (-1), .int .i64 0] from (k30_mkM _ _ _ (⟨(-1), 0⟩ : S30) )) (Reps.c2 (show Kd.M k30 _ _ _ (⟨(-1), 0⟩ : S30) [.int .i64 (-1), .int .i64 0] from (k30_mkM _ _ _ (⟨(-1), 0⟩ : S30) )) (Reps.none _ _)))); intro v186 w61 ho62 hb hg_ hnew_; clear hg_ hnew_; (first | rw [← Ny185.out] at ho62 | (simp only [Int.reduceToNat] at ho62; rw [← Ny185.out] at ho62)); have n0_ := Aside0.mk (Kd.R_elder' (by (with_reducible repeat (first | apply Kd.R_alloc | apply Kd.R_drewN | apply Kd.R_drew)); exact HO_5.out) (Kd.R_base ho62) hb); have n1_ := Aside0.mk (Kd.R_elder' (by (with_reducible repeat (first | apply Kd.R_alloc | apply Kd.R_drewN | apply Kd.R_drew)); exact HO_6.out) (Kd.R_base ho62) hb); have n2_ := Aside0.mk (Kd.R_elder' (by (with_reducible repeat (first | apply Kd.R_alloc | apply Kd.R_drewN | apply Kd.R_drew)); exact HO_8.out) (Kd.R_base ho62) hb); have n3_ := Aside0.mk (Kd.R_lower (Kd.R_new' (Kd.R_new' (Kd.R_new' ho62 (Kd.R_lt (by (with_reducible repeat (first | apply Kd.R_alloc | apply Kd.R_drewN | apply Kd.R_drew)); exact HO_5.out))) (Kd.R_lt (by (with_reducible repeat (first | apply Kd.R_alloc | apply Kd.R_drewN | apply Kd.R_drew)); exact HO_6.out))) (Kd.R_lt (by (with_reducible repeat (first | apply Kd.R_alloc | apply Kd.R_drewN | apply Kd.R_drew)); exact HO_8.out))) (below_size (by repeat (first | (with_reducible first | exact HB.out | apply below_alloc | apply pw_below_drewN | apply below_drew1 | refine below_set ?_ GE153.out) | exact HB.out)))); have n4_ := Aside0.mk (blk_below (g := gb153) (o := .cells #[.int .i64 x154000_2, .int .i64 x154001_2, .int .i64 x154002_2] 25 (0, 0)) (by (with_reducible repeat (first | refine blk_drewN ?_ _ | refine blk_drew ?_ | refine blk_alloc ?_ _)); exact BK153.out) hb); have n5_ := Aside0.mk (below_step (by repeat (first | (with_reducible first | exact HB.out | apply below_alloc | apply pw_below_drewN | apply below_drew1 | refine below_set ?_ GE153.out) | exact HB.out)) hb); clear HO_5; clear HO_6; clear HO_8; clear BK153; clear HB; have HO_5 := n0_; have HO_6 := n1_; have HO_8 := n2_; have HO187 := n3_; have BK153 := n4_; have HB := n5_; clear n0_ n1_ n2_ n3_ n4_ n5_; clear hb ho62; obtain ⟨Ao64, co64, eo64⟩ := Kd.R_slice HO187.out; subst eo64) | ((with_reducible refine gate_builtin (b := .append) (xs := #[.tmp 70, .tmp 73]) rfl ?_); (try (refine gate_guard (by rfl) ?_; dsimp only)); at_builtin; refine Kd.R_append_rows k30 (w0 := w) w.heap.size rfl (.tmp 70) (.tmp 73) 26 30 (.agg #[(.int .i64 0), (.int .i64 0)]) 16 rfl Try.underlying26 info30 rfl (by decide) (by omega) (.slice Ao51 x5_3.length co51) x5_3 y185 _ _ _ (fun k_ => some k_ ≠ (v171 : Value).ownBlock ∧ some k_ ≠ (v182 : Value).ownBlock ∧ some k_ ≠ (.slice Ao64 y185.length co64 : Value).ownBlock) (fun _ => False) rfl rfl ?aO ?aR (fun _ _ h => h) (fun _ h => h.elim) ?aF ?aB ?aS ?aL ?_; (case aR => repeat (first | exact (Kd.R_reads' HO187.out).2.2 | (with_reducible refine Kd.C_alloc ?_ _) | (with_reducible refine Kd.C_drewN ?_ _) | (with_reducible refine Kd.C_drew ?_))); (case aB => exact (by repeat (first | (with_reducible first | exact HB.out | apply below_alloc | apply pw_below_drewN | apply below_drew1 | refine below_set ?_ GE153.out) | exact HB.out))); (case aF => exact (fun k_ hk => ⟨Kd.fresh' (Kd.R_lt (by (with_reducible repeat (first | apply Kd.R_alloc | apply Kd.R_drewN | apply Kd.R_drew)); exact HO_6.out)) k_ hk, Kd.fresh' (Kd.R_lt (by (with_reducible repeat (first | apply Kd.R_alloc | apply Kd.R_drewN | apply Kd.R_drew)); exact HO_8.out)) k_ hk, Kd.fresh' (Kd.R_lt (by (with_reducible repeat (first | apply Kd.R_alloc | apply Kd.R_drewN | apply Kd.R_drew)); exact HO187.out)) k_ hk⟩)); (case aO => exact (by (with_reducible repeat (first | apply Kd.R_alloc | apply Kd.R_drewN | apply Kd.R_drew)); exact Kd.R_mono HO_5.out (fun _ hk => ⟨hk.1.1, ⟨hk.1.2, hk.2⟩⟩))); (case aS => exact (below_size (by repeat (first | (with_reducible first | exact HB.out | apply below_alloc | apply pw_below_drewN | apply below_drew1 | refine below_set ?_ GE153.out) | exact HB.out)))); (case aL => have := LMc58.out; omega); intro v189 w63 ho hb hg hat; rw [← Ny188.out] at ho; have n0_ := Aside0.mk (Kd.R_after (ok := (fun k_ => some k_ ≠ (v182 : Value).ownBlock ∧ some k_ ≠ (.slice Ao64 y185.length co64 : Value).ownBlock)) (by (with_reducible repeat (first | apply Kd.R_alloc | apply Kd.R_drewN | apply Kd.R_drew)); exact Kd.R_mono HO_6.out (fun _ hk => ⟨⟨hk.1.2, hk.2⟩, hk.1.1⟩)) hg hat); have n1_ := Aside0.mk (Kd.R_after (ok := (fun k_ => some k_ ≠ (v171 : Value).ownBlock ∧ some k_ ≠ (.slice Ao64 y185.length co64 : Value).ownBlock)) (by (with_reducible repeat (first | apply Kd.R_alloc | apply Kd.R_drewN | apply Kd.R_drew)); exact Kd.R_mono HO_8.out (fun _ hk => ⟨⟨hk.1.2, hk.2⟩, hk.1.1⟩)) hg hat); have n2_ := Aside0.mk (blk_grown (g := gb153) (o := .cells #[.int .i64 x154000_2, .int .i64 x154001_2, .int .i64 x154002_2] 25 (0, 0)) (by (with_reducible repeat (first | refine blk_drewN ?_ _ | refine blk_drew ?_ | refine blk_alloc ?_ _)); exact BK153.out) hg (Kd.R_ne HO_5.out BK153.out (by decide))); have n3_ := Aside0.mk (Kd.R_after (ok := (fun k_ => some k_ ≠ (v171 : Value).ownBlock ∧ some k_ ≠ (v182 : Value).ownBlock)) (by (with_reducible repeat (first | apply Kd.R_alloc | apply Kd.R_drewN | apply Kd.R_drew)); exact Kd.R_mono HO187.out (fun _ hk => ⟨⟨hk.1.2, hk.2⟩, hk.1.1.2⟩)) hg hat); have n4_ := Aside0.mk (hb); have n5_ := Aside0.mk (ho); clear HO_6; clear HO_8; clear BK153; clear HO187; clear HB; clear HO_5; have HO_6 := n0_; have HO_8 := n1_; have BK153 := n2_; have HO187 := n3_; have HB := n4_; have HO190 := n5_; clear n0_ n1_ n2_ n3_ n4_ n5_; clear ho hb hg hat; obtain ⟨Ao65, co65, eo65⟩ := Kd.R_slice HO_8.out; subst eo65; obtain ⟨Ao66, co66, eo66⟩ := Kd.R_slice HO_6.out; subst eo66) | ((with_reducible refine gate_callee (f := 12) rfl ?_); refine goesL_ (some 77) rfl rfl Try.func12 (by kernel_rfl) rfl #[.slice Ao65 t181.length co65, .slice Ao66 t170.length co66] rfl (by (try simp only [List.map_toArray, List.map_cons, List.map_nil]); first | done | rfl | (simp only [List.length_drop, List.length_take]; rfl)) ?_; (with_reducible refine (scholiastlaw04_spans.calls k3 _ _ t181 _ _ t170 true _ ?side1 ?side2 ?side3 ?side4 A59.out).mono ?_); (case side1 => repeat (first | exact (Kd.R_reads' HO_8.out).2.2 | (with_reducible refine Kd.C_alloc ?_ _) | (with_reducible refine Kd.C_drewN ?_ _) | (with_reducible refine Kd.C_drew ?_))); (case side2 => exact (Kd.R_reads' HO_8.out).2.1); (case side3 => repeat (first | exact (Kd.R_reads' HO_6.out).2.2 | (with_reducible refine Kd.C_alloc ?_ _) | (with_reducible refine Kd.C_drewN ?_ _) | (with_reducible refine Kd.C_drew ?_))); (case side4 => exact (Kd.R_reads' HO_6.out).2.1); rintro e w' ⟨rfl, ⟨nd, rfl⟩⟩; refine ⟨_, rfl, ?_⟩; obtain ⟨Ao67, co67, eo67⟩ := Kd.R_slice HO190.out; subst eo67))
                                    go_ret
                                    exact ⟨by first | rfl | (simp [errW_none, errW_some] <;> rfl) | (simp [*, errW_none, errW_some] <;> rfl), by repeat (first | (with_reducible first | exact HB.out | apply below_alloc | apply pw_below_drewN | apply below_drew1 | refine below_set ?_ GE153.out) | exact HB.out)⟩
                                  · replace c60 := Bool.eq_false_iff.mpr c60
                                    subst c60
                                    have H1 : (some false) = some r := by rw [if_neg (show ¬ (false = true) by decide)] at H; exact H
                                    clear H
                                    have H := H1
                                    clear H1
                                    obtain rfl := Option.some.inj H
                                    go_wp2_with (first | ((with_reducible refine gate_dst (N := 73) rfl ?_); (try (refine gate_guard (by rfl) ?_; dsimp only)); refine Kd.R_lit k30 _ 30 ?hg (N := 73) ?hd (xs := ([(⟨(-1), 0⟩ : S30), (⟨(-1), 0⟩ : S30)] : List (S30))) (inner := [.int .i64 (-1), .int .i64 0, .int .i64 (-1), .int .i64 0]) (ok := fun _ => True) (okp := fun _ => True) ?hr ?hp (fun _ hk => hk) trivial (Below.refl _ _) (Nat.le_refl _) (by simp) ?_; (case hd => rfl); (case hg => rfl); (case hr => first | (go_simp; done) | (go_simp; rfl)); (case hp => exact (Reps.c2 (show Kd.M k30 _ _ _ (⟨(-1), 0⟩ : S30) [.int .i64 (-1), .int .i64 0] from (k30_mkM _ _ _ (⟨(-1), 0⟩ : S30) )) (Reps.c2 (show Kd.M k30 _ _ _ (⟨(-1), 0⟩ : S30) [.int .i64 (-1), .int .i64 0] from (k30_mkM _ _ _ (⟨(-1), 0⟩ : S30) )) (Reps.none _ _)))); intro v186 w68 ho69 hb hg_ hnew_; clear hg_ hnew_; (first | rw [← Ny185.out] at ho69 | (simp only [Int.reduceToNat] at ho69; rw [← Ny185.out] at ho69)); have n0_ := Aside0.mk (Kd.R_elder' (by (with_reducible repeat (first | apply Kd.R_alloc | apply Kd.R_drewN | apply Kd.R_drew)); exact HO_5.out) (Kd.R_base ho69) hb); have n1_ := Aside0.mk (Kd.R_elder' (by (with_reducible repeat (first | apply Kd.R_alloc | apply Kd.R_drewN | apply Kd.R_drew)); exact HO_6.out) (Kd.R_base ho69) hb); have n2_ := Aside0.mk (Kd.R_elder' (by (with_reducible repeat (first | apply Kd.R_alloc | apply Kd.R_drewN | apply Kd.R_drew)); exact HO_8.out) (Kd.R_base ho69) hb); have n3_ := Aside0.mk (Kd.R_lower (Kd.R_new' (Kd.R_new' (Kd.R_new' ho69 (Kd.R_lt (by (with_reducible repeat (first | apply Kd.R_alloc | apply Kd.R_drewN | apply Kd.R_drew)); exact HO_5.out))) (Kd.R_lt (by (with_reducible repeat (first | apply Kd.R_alloc | apply Kd.R_drewN | apply Kd.R_drew)); exact HO_6.out))) (Kd.R_lt (by (with_reducible repeat (first | apply Kd.R_alloc | apply Kd.R_drewN | apply Kd.R_drew)); exact HO_8.out))) (below_size (by repeat (first | (with_reducible first | exact HB.out | apply below_alloc | apply pw_below_drewN | apply below_drew1 | refine below_set ?_ GE153.out) | exact HB.out)))); have n4_ := Aside0.mk (blk_below (g := gb153) (o := .cells #[.int .i64 x154000_2, .int .i64 x154001_2, .int .i64 x154002_2] 25 (0, 0)) (by (with_reducible repeat (first | refine blk_drewN ?_ _ | refine blk_drew ?_ | refine blk_alloc ?_ _)); exact BK153.out) hb); have n5_ := Aside0.mk (below_step (by repeat (first | (with_reducible first | exact HB.out | apply below_alloc | apply pw_below_drewN | apply below_drew1 | refine below_set ?_ GE153.out) | exact HB.out)) hb); clear HO_5; clear HO_6; clear HO_8; clear BK153; clear HB; have HO_5 := n0_; have HO_6 := n1_; have HO_8 := n2_; have HO187 := n3_; have BK153 := n4_; have HB := n5_; clear n0_ n1_ n2_ n3_ n4_ n5_; clear hb ho69; obtain ⟨Ao71, co71, eo71⟩ := Kd.R_slice HO187.out; subst eo71) | ((with_reducible refine gate_builtin (b := .append) (xs := #[.tmp 70, .tmp 73]) rfl ?_); (try (refine gate_guard (by rfl) ?_; dsimp only)); at_builtin; refine Kd.R_append_rows k30 (w0 := w) w.heap.size rfl (.tmp 70) (.tmp 73) 26 30 (.agg #[(.int .i64 0), (.int .i64 0)]) 16 rfl Try.underlying26 info30 rfl (by decide) (by omega) (.slice Ao51 x5_3.length co51) x5_3 y185 _ _ _ (fun k_ => some k_ ≠ (v171 : Value).ownBlock ∧ some k_ ≠ (v182 : Value).ownBlock ∧ some k_ ≠ (.slice Ao71 y185.length co71 : Value).ownBlock) (fun _ => False) rfl rfl ?aO ?aR (fun _ _ h => h) (fun _ h => h.elim) ?aF ?aB ?aS ?aL ?_; (case aR => repeat (first | exact (Kd.R_reads' HO187.out).2.2 | (with_reducible refine Kd.C_alloc ?_ _) | (with_reducible refine Kd.C_drewN ?_ _) | (with_reducible refine Kd.C_drew ?_))); (case aB => exact (by repeat (first | (with_reducible first | exact HB.out | apply below_alloc | apply pw_below_drewN | apply below_drew1 | refine below_set ?_ GE153.out) | exact HB.out))); (case aF => exact (fun k_ hk => ⟨Kd.fresh' (Kd.R_lt (by (with_reducible repeat (first | apply Kd.R_alloc | apply Kd.R_drewN | apply Kd.R_drew)); exact HO_6.out)) k_ hk, Kd.fresh' (Kd.R_lt (by (with_reducible repeat (first | apply Kd.R_alloc | apply Kd.R_drewN | apply Kd.R_drew)); exact HO_8.out)) k_ hk, Kd.fresh' (Kd.R_lt (by (with_reducible repeat (first | apply Kd.R_alloc | apply Kd.R_drewN | apply Kd.R_drew)); exact HO187.out)) k_ hk⟩)); (case aO => exact (by (with_reducible repeat (first | apply Kd.R_alloc | apply Kd.R_drewN | apply Kd.R_drew)); exact Kd.R_mono HO_5.out (fun _ hk => ⟨hk.1.1, ⟨hk.1.2, hk.2⟩⟩))); (case aS => exact (below_size (by repeat (first | (with_reducible first | exact HB.out | apply below_alloc | apply pw_below_drewN | apply below_drew1 | refine below_set ?_ GE153.out) | exact HB.out)))); (case aL => have := LMc58.out; omega); intro v189 w70 ho hb hg hat; rw [← Ny188.out] at ho; have n0_ := Aside0.mk (Kd.R_after (ok := (fun k_ => some k_ ≠ (v182 : Value).ownBlock ∧ some k_ ≠ (.slice Ao71 y185.length co71 : Value).ownBlock)) (by (with_reducible repeat (first | apply Kd.R_alloc | apply Kd.R_drewN | apply Kd.R_drew)); exact Kd.R_mono HO_6.out (fun _ hk => ⟨⟨hk.1.2, hk.2⟩, hk.1.1⟩)) hg hat); have n1_ := Aside0.mk (Kd.R_after (ok := (fun k_ => some k_ ≠ (v171 : Value).ownBlock ∧ some k_ ≠ (.slice Ao71 y185.length co71 : Value).ownBlock)) (by (with_reducible repeat (first | apply Kd.R_alloc | apply Kd.R_drewN | apply Kd.R_drew)); exact Kd.R_mono HO_8.out (fun _ hk => ⟨⟨hk.1.2, hk.2⟩, hk.1.1⟩)) hg hat); have n2_ := Aside0.mk (blk_grown (g := gb153) (o := .cells #[.int .i64 x154000_2, .int .i64 x154001_2, .int .i64 x154002_2] 25 (0, 0)) (by (with_reducible repeat (first | refine blk_drewN ?_ _ | refine blk_drew ?_ | refine blk_alloc ?_ _)); exact BK153.out) hg (Kd.R_ne HO_5.out BK153.out (by decide))); have n3_ := Aside0.mk (Kd.R_after (ok := (fun k_ => some k_ ≠ (v171 : Value).ownBlock ∧ some k_ ≠ (v182 : Value).ownBlock)) (by (with_reducible repeat (first | apply Kd.R_alloc | apply Kd.R_drewN | apply Kd.R_drew)); exact Kd.R_mono HO187.out (fun _ hk => ⟨⟨hk.1.2, hk.2⟩, hk.1.1.2⟩)) hg hat); have n4_ := Aside0.mk (hb); have n5_ := Aside0.mk (ho); clear HO_6; clear HO_8; clear BK153; clear HO187; clear HB; clear HO_5; have HO_6 := n0_; have HO_8 := n1_; have BK153 := n2_; have HO187 := n3_; have HB := n4_; have HO190 := n5_; clear n0_ n1_ n2_ n3_ n4_ n5_; clear ho hb hg hat; obtain ⟨Ao72, co72, eo72⟩ := Kd.R_slice HO_8.out; subst eo72; obtain ⟨Ao73, co73, eo73⟩ := Kd.R_slice HO_6.out; subst eo73) | ((with_reducible refine gate_callee (f := 12) rfl ?_); refine goesL_ (some 77) rfl rfl Try.func12 (by kernel_rfl) rfl #[.slice Ao72 t181.length co72, .slice Ao73 t170.length co73] rfl (by (try simp only [List.map_toArray, List.map_cons, List.map_nil]); first | done | rfl | (simp only [List.length_drop, List.length_take]; rfl)) ?_; (with_reducible refine (scholiastlaw04_spans.calls k3 _ _ t181 _ _ t170 false _ ?side1 ?side2 ?side3 ?side4 A59.out).mono ?_); (case side1 => repeat (first | exact (Kd.R_reads' HO_8.out).2.2 | (with_reducible refine Kd.C_alloc ?_ _) | (with_reducible refine Kd.C_drewN ?_ _) | (with_reducible refine Kd.C_drew ?_))); (case side2 => exact (Kd.R_reads' HO_8.out).2.1); (case side3 => repeat (first | exact (Kd.R_reads' HO_6.out).2.2 | (with_reducible refine Kd.C_alloc ?_ _) | (with_reducible refine Kd.C_drewN ?_ _) | (with_reducible refine Kd.C_drew ?_))); (case side4 => exact (Kd.R_reads' HO_6.out).2.1); rintro e w' ⟨rfl, ⟨nd, rfl⟩⟩; refine ⟨_, rfl, ?_⟩))
                                    go_ret
                                    exact ⟨by first | rfl | (simp [errW_none, errW_some] <;> rfl) | (simp [*, errW_none, errW_some] <;> rfl), by repeat (first | (with_reducible first | exact HB.out | apply below_alloc | apply pw_below_drewN | apply below_drew1 | refine below_set ?_ GE153.out) | exact HB.out)⟩
                                · rw [if_neg c58] at H
                                  exact absurd H (by simp)
                        · rw [if_neg c46] at H
                          exact absurd H (by simp)
          · rw [if_neg c7] at H
            exact absurd H (by simp)
        · rw [if_neg c6] at H
          exact absurd H (by simp)
      · rw [if_neg c5] at H
        exact absurd H (by simp)
    · rw [if_neg c4] at H
      exact absurd H (by simp)
  · replace c3 := Bool.eq_false_iff.mpr c3
    subst c3
    have H1 : (some false) = some r := by rw [if_neg (show ¬ (false = true) by decide)] at H; exact H
    clear H
    have H := H1
    clear H1
    obtain rfl := Option.some.inj H
    go_enter Try.func3, Try.ntmps3
    go_wp2_with (first | ((with_reducible refine gate_callee (f := 9) rfl ?_); refine goesL_ (some 10) rfl rfl Try.func9 (by kernel_rfl) rfl #[] rfl (by (try simp only [List.map_toArray, List.map_cons, List.map_nil]); first | done | rfl | (simp only [List.length_drop, List.length_take]; rfl)) ?_; (with_reducible refine (scholiastlaw04_shown.calls k  false _ A2.out).mono ?_); rintro e w74 ⟨rfl, hb⟩; refine ⟨_, rfl, ?_⟩; have n0_ := Aside0.mk (below_step (by repeat (first | (with_reducible first | exact HB.out | apply below_alloc | apply pw_below_drewN | apply below_drew1) | exact HB.out)) hb); clear HB; have HB := n0_; clear n0_; (try clear hb); (try clear hb2); (try clear hk); (try clear hi)))
    go_ret
    exact ⟨by first | rfl | (simp [errW_none, errW_some] <;> rfl) | (simp [*, errW_none, errW_some] <;> rfl), by repeat (first | (with_reducible first | exact HB.out | apply below_alloc | apply pw_below_drewN | apply below_drew1) | exact HB.out)⟩

end Go.Proofs.Ytcejdokeaoklaaa.PChk
