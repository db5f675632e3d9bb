-- Written by a program of this session (wip/tools/printseat.sh).
import Derived.Test.YtcejdokeaoklaaaPChkx0
import Derived.WalkMore
namespace Go.Proofs.Ytcejdokeaoklaaa.PChk
open Go.RowKit Go.Proofs.YtcejdokeaoklaaaW.PrintWords Go.Proofs.YtcejdokeaoklaaaW.PrintLast Go.Proofs.YtcejdokeaoklaaaW.PrintMore
attribute [local go_sem] max2_int min2_int max_two min_two max_three min_three max_four min_four   -- for this text's walks alone
set_option linter.unusedVariables false
set_option linter.unusedSimpArgs false

/-! ### token_Trivia: function 25 -/
def token_Trivia.f (a0 : Int) : Option (Bool) := if a0 ≥ 1 then (some (decide (a0 ≤ 5))) else (some false)
set_option maxHeartbeats 8000000 in
set_option maxRecDepth 100000 in
theorem token_Trivia.calls (a0 : Int) (r : Bool) (w : World) (h : token_Trivia.f a0 = some r) :
    Calls Try.prog 25 #[.int .i64 a0] w fun e w' => e = .returned (.bool r) ∧ Drawn0 w w' := by
  have H : (if a0 ≥ 1 then (some (decide (a0 ≤ 5))) else (some false)) = some r := h
  clear h
  by_cases c2 : a0 ≥ 1
  · rw [if_pos c2] at H
    have c2b0 : decide (1 ≤ a0) = true := decide_eq_true c2
    clear c2
    obtain rfl := Option.some.inj H
    go_enter Try.func25, Try.ntmps25
    go_wp2
    go_ret
    exact ⟨by first | rfl | (simp; done) | (simp [*]; done), by repeat (first | exact Drawn0.refl _ | apply Drawn0.step)⟩
  · rw [if_neg c2] at H
    have c2b0 : decide (1 ≤ a0) = false := decide_eq_false c2
    clear c2
    obtain rfl := Option.some.inj H
    go_enter Try.func25, Try.ntmps25
    go_wp2
    go_ret
    exact ⟨by first | rfl | (simp; done) | (simp [*]; done), by repeat (first | exact Drawn0.refl _ | apply Drawn0.step)⟩

/-! ### chunk_end: function 27 -/
mutual
def chunk_end.l0 : Nat → List (S25) → Int → Int → Bool → Option (Int × Bool)
  | 0, _, _, _, _ => none
  | k + 1, x0, x6, x7, x8 => if x7 < (x0.length : Int) then (if x8 = true then (chunk_end.j1 k x0 x6 x7 true) else (if 0 ≤ x7 then ((token_Trivia.f ((rd_T25 x0 x7).f0)).bind fun t102 => (chunk_end.j1 k x0 x6 x7 (!t102))) else (none))) else (some (x7, x8))
def chunk_end.j1 : Nat → List (S25) → Int → Int → Bool → Option (Int × Bool)
  | 0, _, _, _, _ => none
  | k + 1, x0, x6, x7, x8 => if 0 ≤ x7 then (if x7 < (x0.length : Int) then (if ((rd_T25 x0 x7).f0) = 57 then (chunk_end.j2 k x0 x6 x7 x8 ((rd_T25 x0 x7).f0) (((rd_T25 x0 x7).f0) == 57)) else (if ((rd_T25 x0 x7).f0) = 58 then (chunk_end.j2 k x0 x6 x7 x8 ((rd_T25 x0 x7).f0) (((rd_T25 x0 x7).f0) == 58)) else (chunk_end.j2 k x0 x6 x7 x8 ((rd_T25 x0 x7).f0) (((rd_T25 x0 x7).f0) == 59)))) else (none)) else (none)
def chunk_end.j2 : Nat → List (S25) → Int → Int → Bool → Int → Bool → Option (Int × Bool)
  | 0, _, _, _, _, _, _ => none
  | k + 1, x0, x6, x7, x8, x30, x31 => if x31 = true then (chunk_end.l0 k x0 (wrap64 (x6 + 1)) (wrap64 (x7 + 1)) x8) else (if x30 = 62 then (chunk_end.j3 k x0 x6 x7 x8 x30 (x30 == 62)) else (if x30 = 63 then (chunk_end.j3 k x0 x6 x7 x8 x30 (x30 == 63)) else (chunk_end.j3 k x0 x6 x7 x8 x30 (x30 == 64))))
def chunk_end.j3 : Nat → List (S25) → Int → Int → Bool → Int → Bool → Option (Int × Bool)
  | 0, _, _, _, _, _, _ => none
  | k + 1, x0, x6, x7, x8, x30, x37 => if x37 = true then (chunk_end.l0 k x0 (mx (wrap64 (x6 - 1)) 0) (wrap64 (x7 + 1)) x8) else (if x30 = 15 then (chunk_end.j4 k x0 x6 x7 x8 (x30 == 15)) else (chunk_end.j4 k x0 x6 x7 x8 (x30 == 16)))
def chunk_end.j4 : Nat → List (S25) → Int → Int → Bool → Bool → Option (Int × Bool)
  | 0, _, _, _, _, _ => none
  | k + 1, x0, x6, x7, x8, x44 => if x44 = true then (if x6 = 0 then (some (wrap64 (x7 + 1), x8)) else (chunk_end.l0 k x0 x6 (wrap64 (x7 + 1)) x8)) else (chunk_end.l0 k x0 x6 (wrap64 (x7 + 1)) x8)
end
def chunk_end.f (k : Nat) (l0 : List (S25)) (a1 : Int) : Option (Int × Bool) := chunk_end.l0 k l0 0 a1 false
theorem chunk_end.mono_l : ∀ k, (∀ y0 y1 y2 y3, LeO (chunk_end.l0 k y0 y1 y2 y3) (chunk_end.l0 (k + 1) y0 y1 y2 y3)) ∧ (∀ y0 y1 y2 y3, LeO (chunk_end.j1 k y0 y1 y2 y3) (chunk_end.j1 (k + 1) y0 y1 y2 y3)) ∧ (∀ y0 y1 y2 y3 y4 y5, LeO (chunk_end.j2 k y0 y1 y2 y3 y4 y5) (chunk_end.j2 (k + 1) y0 y1 y2 y3 y4 y5)) ∧ (∀ y0 y1 y2 y3 y4 y5, LeO (chunk_end.j3 k y0 y1 y2 y3 y4 y5) (chunk_end.j3 (k + 1) y0 y1 y2 y3 y4 y5)) ∧ (∀ y0 y1 y2 y3 y4, LeO (chunk_end.j4 k y0 y1 y2 y3 y4) (chunk_end.j4 (k + 1) y0 y1 y2 y3 y4))
  | 0 => ⟨fun _ _ _ _ r h => by simp [chunk_end.l0] at h, fun _ _ _ _ r h => by simp [chunk_end.j1] at h, fun _ _ _ _ _ _ r h => by simp [chunk_end.j2] at h, fun _ _ _ _ _ _ r h => by simp [chunk_end.j3] at h, fun _ _ _ _ _ r h => by simp [chunk_end.j4] at h⟩
  | k + 1 => by
    obtain ⟨ih0, ih1, ih2, ih3, ih4⟩ := chunk_end.mono_l k
    refine ⟨?_, ?_, ?_, ?_, ?_⟩
    · intro y0 y1 y2 y3
      unfold chunk_end.l0
      repeat' first
      | (with_reducible exact ih0 _ _ _ _)
      | (with_reducible exact ih1 _ _ _ _)
      | (with_reducible exact ih2 _ _ _ _ _ _)
      | (with_reducible exact ih3 _ _ _ _ _ _)
      | (with_reducible exact ih4 _ _ _ _ _)
      | (with_reducible exact LeO.refl _)
      | (with_reducible exact LeO.none _)
      | (with_reducible refine LeO.ite ?_ ?_)
      | (with_reducible refine LeO.bind ?_ (fun _ => ?_))
      | exact ih0 _ _ _ _
      | exact ih1 _ _ _ _
      | exact ih2 _ _ _ _ _ _
      | exact ih3 _ _ _ _ _ _
      | exact ih4 _ _ _ _ _
      | exact LeO.none _
      | refine LeO.ite ?_ ?_
      | refine LeO.bind ?_ (fun _ => ?_)
    · intro y0 y1 y2 y3
      unfold chunk_end.j1
      repeat' first
      | (with_reducible exact ih0 _ _ _ _)
      | (with_reducible exact ih1 _ _ _ _)
      | (with_reducible exact ih2 _ _ _ _ _ _)
      | (with_reducible exact ih3 _ _ _ _ _ _)
      | (with_reducible exact ih4 _ _ _ _ _)
      | (with_reducible exact LeO.refl _)
      | (with_reducible exact LeO.none _)
      | (with_reducible refine LeO.ite ?_ ?_)
      | (with_reducible refine LeO.bind ?_ (fun _ => ?_))
      | exact ih0 _ _ _ _
      | exact ih1 _ _ _ _
      | exact ih2 _ _ _ _ _ _
      | exact ih3 _ _ _ _ _ _
      | exact ih4 _ _ _ _ _
      | exact LeO.none _
      | refine LeO.ite ?_ ?_
      | refine LeO.bind ?_ (fun _ => ?_)
    · intro y0 y1 y2 y3 y4 y5
      unfold chunk_end.j2
      repeat' first
      | (with_reducible exact ih0 _ _ _ _)
      | (with_reducible exact ih1 _ _ _ _)
      | (with_reducible exact ih2 _ _ _ _ _ _)
      | (with_reducible exact ih3 _ _ _ _ _ _)
      | (with_reducible exact ih4 _ _ _ _ _)
      | (with_reducible exact LeO.refl _)
      | (with_reducible exact LeO.none _)
      | (with_reducible refine LeO.ite ?_ ?_)
      | (with_reducible refine LeO.bind ?_ (fun _ => ?_))
      | exact ih0 _ _ _ _
      | exact ih1 _ _ _ _
      | exact ih2 _ _ _ _ _ _
      | exact ih3 _ _ _ _ _ _
      | exact ih4 _ _ _ _ _
      | exact LeO.none _
      | refine LeO.ite ?_ ?_
      | refine LeO.bind ?_ (fun _ => ?_)
    · intro y0 y1 y2 y3 y4 y5
      unfold chunk_end.j3
      repeat' first
      | (with_reducible exact ih0 _ _ _ _)
      | (with_reducible exact ih1 _ _ _ _)
      | (with_reducible exact ih2 _ _ _ _ _ _)
      | (with_reducible exact ih3 _ _ _ _ _ _)
      | (with_reducible exact ih4 _ _ _ _ _)
      | (with_reducible exact LeO.refl _)
      | (with_reducible exact LeO.none _)
      | (with_reducible refine LeO.ite ?_ ?_)
      | (with_reducible refine LeO.bind ?_ (fun _ => ?_))
      | exact ih0 _ _ _ _
      | exact ih1 _ _ _ _
      | exact ih2 _ _ _ _ _ _
      | exact ih3 _ _ _ _ _ _
      | exact ih4 _ _ _ _ _
      | exact LeO.none _
      | refine LeO.ite ?_ ?_
      | refine LeO.bind ?_ (fun _ => ?_)
    · intro y0 y1 y2 y3 y4
      unfold chunk_end.j4
      repeat' first
      | (with_reducible exact ih0 _ _ _ _)
      | (with_reducible exact ih1 _ _ _ _)
      | (with_reducible exact ih2 _ _ _ _ _ _)
      | (with_reducible exact ih3 _ _ _ _ _ _)
      | (with_reducible exact ih4 _ _ _ _ _)
      | (with_reducible exact LeO.refl _)
      | (with_reducible exact LeO.none _)
      | (with_reducible refine LeO.ite ?_ ?_)
      | (with_reducible refine LeO.bind ?_ (fun _ => ?_))
      | exact ih0 _ _ _ _
      | exact ih1 _ _ _ _
      | exact ih2 _ _ _ _ _ _
      | exact ih3 _ _ _ _ _ _
      | exact ih4 _ _ _ _ _
      | exact LeO.none _
      | refine LeO.ite ?_ ?_
      | refine LeO.bind ?_ (fun _ => ?_)
theorem chunk_end.mono : ∀ a0 a1 k, LeO (chunk_end.f k a0 a1) (chunk_end.f (k + 1) a0 a1) := by
  intro a0 a1 k
  obtain ⟨ih0, ih1, ih2, ih3, ih4⟩ := chunk_end.mono_l k
  unfold chunk_end.f
  repeat' first
      | (with_reducible exact ih0 _ _ _ _)
      | (with_reducible exact ih1 _ _ _ _)
      | (with_reducible exact ih2 _ _ _ _ _ _)
      | (with_reducible exact ih3 _ _ _ _ _ _)
      | (with_reducible exact ih4 _ _ _ _ _)
      | (with_reducible exact LeO.refl _)
      | (with_reducible exact LeO.none _)
      | (with_reducible refine LeO.ite ?_ ?_)
      | (with_reducible refine LeO.bind ?_ (fun _ => ?_))
      | exact ih0 _ _ _ _
      | exact ih1 _ _ _ _
      | exact ih2 _ _ _ _ _ _
      | exact ih3 _ _ _ _ _ _
      | exact ih4 _ _ _ _ _
      | exact LeO.none _
      | refine LeO.ite ?_ ?_
      | refine LeO.bind ?_ (fun _ => ?_)
set_option maxHeartbeats 8000000 in
set_option maxRecDepth 100000 in
theorem chunk_end.calls (k : Nat) (A0 : Option Addr) (c0 : Nat) (l0 : List (S25)) (a1 : Int) (r1 : Int) (r2 : Bool) (w : World) (hr0 : Kd.C k25 w A0 l0.length l0) (hc0 : l0.length ≤ c0) (h : chunk_end.f k l0 a1 = some (r1, r2)) :
    Calls Try.prog 27 #[.slice A0 l0.length c0, .int .i64 a1] w fun e w' => e = .returned (.tuple #[.int .i64 r1, .bool r2]) ∧ Below w.heap.size w w' := by
  have HR0 := Aside0.mk hr0
  have HC0 := Aside0.mk hc0
  clear hr0 hc0
  have HB := Aside0.mk (Below.refl w.heap.size w)
  have H : (chunk_end.l0 k l0 0 a1 false) = some (r1, r2) := h
  clear h
  have H' := Aside0.mk H
  clear H
  go_enter Try.func27, Try.ntmps27
  go_wp2
  go_step3
  go_wp2
  go_step3
  go_wp2
  go_loopg [6, 7, 8] k (fun kq v6 v7 v8 w' => ∃ (x6_1 : Int) (x7_1 : Int) (x8_1 : Bool), v6 = .int .i64 x6_1 ∧ v7 = .int .i64 x7_1 ∧ v8 = .bool x8_1 ∧ Aside0 (chunk_end.l0 kq l0 x6_1 x7_1 x8_1 = some (r1, r2)) ∧ Aside0 (kq ≤ k) ∧ Aside0 (Below w.heap.size w w'))
  case atStart => exact ⟨(0), (a1), (false), (by first | rfl | (simp; done) | (simp [*]; done)), (by first | rfl | (simp; done) | (simp [*]; done)), (by first | rfl | (simp; done) | (simp [*]; done)), H', ⟨Nat.le_refl _⟩, ⟨by repeat (first | (with_reducible first | exact HB.out | apply below_alloc | apply pw_below_drewN | apply below_drew1) | exact HB.out)⟩⟩
  case round =>
    clear H'
    try clear c2
    try clear p2
    obtain ⟨x6_1, x7_1, x8_1, rfl, rfl, rfl, HA, HK1, HB⟩ := hrel
    cases gk with
    | zero => exact absurd HA.out (by simp [chunk_end.l0])
    | succ k1 =>
      have H := HA.out
      clear HA
      simp only [chunk_end.l0] at H
      by_cases c3 : x7_1 < (l0.length : Int)
      · rw [if_pos c3] at H
        have c3b0 : decide (x7_1 < (l0.length : Int)) = true := decide_eq_true c3
        clear c3
        have HC4 := Aside0.mk H
        clear H
        go_upto_region 4 with (fail)
        go_cut [8] (fun v8 wc => ∃ (kq : Nat) (x8_3 : Bool), v8 = .bool x8_3 ∧ Aside0 (chunk_end.j1 kq l0 x6_1 x7_1 x8_3 = some (r1, r2)) ∧ Aside0 (kq ≤ k1) ∧ Aside0 (Below w.heap.size w wc))
        case first =>
          have H := HC4.out
          clear HC4
          by_cases c5 : x8_1 = true
          · subst c5
            have H1 : (chunk_end.j1 k1 l0 x6_1 x7_1 true) = some (r1, r2) := by rw [if_pos rfl] at H; exact H
            clear H
            have H := H1
            clear H1
            have H' := Aside0.mk H
            clear H
            go_wp2
            go_meet
            case rel => exact ⟨_, (true), (by first | rfl | (simp; done) | (simp [*]; done)), H', ⟨by have := HK1.out; first | omega | exact Nat.le_refl _⟩, ⟨by repeat (first | (with_reducible first | exact HB.out | apply below_alloc | apply pw_below_drewN | apply below_drew1) | exact HB.out)⟩⟩
          · replace c5 := Bool.eq_false_iff.mpr c5
            subst c5
            have H1 : (if 0 ≤ x7_1 then ((token_Trivia.f ((rd_T25 l0 x7_1).f0)).bind fun t102 => (chunk_end.j1 k1 l0 x6_1 x7_1 (!t102))) else (none)) = some (r1, r2) := by rw [if_neg (show ¬ (false = true) by decide)] at H; exact H
            clear H
            have H := H1
            clear H1
            by_cases c6 : 0 ≤ x7_1
            · rw [if_pos c6] at H
              have c6b0 : decide (0 ≤ x7_1) = true := decide_eq_true c6
              clear c6
              (first | rw [c6b0] | (simp only [i64_w, i32_w]; rw [c6b0]) | rw [c6b1] | skip)
              replace H := Option.bind_eq_some_iff.mp H
              obtain ⟨t102, A70, H⟩ := H
              replace H : (chunk_end.j1 k1 l0 x6_1 x7_1 (!t102)) = some (r1, r2) := H
              have A7 := Aside0.mk A70
              clear A70
              have H' := Aside0.mk H
              clear H
              have p101 : 0 ≤ (x7_1 : Int) := of_decide_eq_true (by first | (with_reducible assumption) | assumption)
              have q101 : x7_1 < (l0.length : Int) := of_decide_eq_true (by first | (with_reducible assumption) | assumption)
              obtain ⟨ad101, e101, hx101_0, hx101_1, hx101_2⟩ := at_T25 HR0.out x7_1 p101 q101
              cases e101
              replace hx101_0 := (HB.out.cell (World.block_lt_of_cell? w _ hx101_0)).trans hx101_0
              replace hx101_1 := (HB.out.cell (World.block_lt_of_cell? w _ hx101_1)).trans hx101_1
              replace hx101_2 := (HB.out.cell (World.block_lt_of_cell? w _ hx101_2)).trans hx101_2
              replace p101 := eq_true p101
              replace q101 := eq_true q101
              go_wp2_with (first | (go_at_call 25; (with_reducible refine (token_Trivia.calls ((rd_T25 l0 x7_1).f0) t102 _ A7.out).mono ?_); rintro e w' ⟨rfl, ⟨nd, rfl⟩⟩))
              go_meet
              case rel => exact ⟨_, (!t102), (by first | rfl | (simp; done) | (simp [*]; done)), H', ⟨by have := HK1.out; first | omega | exact Nat.le_refl _⟩, ⟨by repeat (first | (with_reducible first | exact HB.out | apply below_alloc | apply pw_below_drewN | apply below_drew1) | exact HB.out)⟩⟩
            · rw [if_neg c6] at H
              exact absurd H (by simp)
        case rest =>
          clear HC4
          try clear p1
          try clear q1
          try clear hx1
          try clear c2
          try clear p2
          try clear c3
          try clear c3b0
          try clear c5
          try clear c6
          try clear c6b0
          try clear c6b1
          try clear hx101_0
          try clear hx101_1
          try clear hx101_2
          try clear p101
          try clear p2
          try clear q101
          obtain ⟨kq, x8_3, rfl, HA, HJ3, HB⟩ := hcut
          cases kq with
          | zero => exact absurd HA.out (by simp [chunk_end.j1])
          | succ kj3 =>
            have H := HA.out
            clear HA
            simp only [chunk_end.j1] at H
            by_cases c8 : 0 ≤ x7_1
            · rw [if_pos c8] at H
              have c8b0 : decide (0 ≤ x7_1) = true := decide_eq_true c8
              clear c8
              by_cases c9 : x7_1 < (l0.length : Int)
              · rw [if_pos c9] at H
                have c9b0 : decide (x7_1 < (l0.length : Int)) = true := decide_eq_true c9
                clear c9
                have HC10 := Aside0.mk H
                clear H
                have p103 : 0 ≤ (x7_1 : Int) := of_decide_eq_true (by first | (with_reducible assumption) | assumption)
                have q103 : x7_1 < (l0.length : Int) := of_decide_eq_true (by first | (with_reducible assumption) | assumption)
                obtain ⟨ad103, e103, hx103_0, hx103_1, hx103_2⟩ := at_T25 HR0.out x7_1 p103 q103
                cases e103
                replace hx103_0 := (HB.out.cell (World.block_lt_of_cell? w _ hx103_0)).trans hx103_0
                replace hx103_1 := (HB.out.cell (World.block_lt_of_cell? w _ hx103_1)).trans hx103_1
                replace hx103_2 := (HB.out.cell (World.block_lt_of_cell? w _ hx103_2)).trans hx103_2
                replace p103 := eq_true p103
                replace q103 := eq_true q103
                go_upto_if 31 with (fail)
                go_cut [31] (fun v31 wc => ∃ (kq : Nat) (x31_9 : Bool), v31 = .bool x31_9 ∧ Aside0 (chunk_end.j2 kq l0 x6_1 x7_1 x8_3 ((rd_T25 l0 x7_1).f0) x31_9 = some (r1, r2)) ∧ Aside0 (kq ≤ kj3) ∧ Aside0 (Below w.heap.size w wc))
                case first =>
                  have H := HC10.out
                  clear HC10
                  by_cases c11 : ((rd_T25 l0 x7_1).f0) = 57
                  · rw [if_pos c11] at H
                    have c11b0 : (((rd_T25 l0 x7_1).f0) == 57) = true := beq_iff_eq.mpr c11
                    have c11b1 : (((rd_T25 l0 x7_1).f0) != 57) = false := bne_eq_false_iff_eq.mpr c11
                    clear c11
                    (first | rw [c11b0] | (simp only [i64_w, i32_w]; rw [c11b0]) | rw [c11b1] | skip)
                    have H' := Aside0.mk H
                    clear H
                    go_wp2
                    go_meet
                    case rel => exact ⟨_, ((((rd_T25 l0 x7_1).f0) == 57)), (by first | rfl | (simp; done) | (simp [*]; done)), H', ⟨by have := HK1.out; have := HJ3.out; first | omega | exact Nat.le_refl _⟩, ⟨by repeat (first | (with_reducible first | exact HB.out | apply below_alloc | apply pw_below_drewN | apply below_drew1) | exact HB.out)⟩⟩
                  · rw [if_neg c11] at H
                    have c11b0 : (((rd_T25 l0 x7_1).f0) == 57) = false := beq_eq_false_iff_ne.mpr c11
                    have c11b1 : (((rd_T25 l0 x7_1).f0) != 57) = true := bne_iff_ne.mpr c11
                    (first | rw [c11b0] | (simp only [i64_w, i32_w]; rw [c11b0]) | rw [c11b1] | skip)
                    by_cases c12 : ((rd_T25 l0 x7_1).f0) = 58
                    · rw [if_pos c12] at H
                      have c12b0 : (((rd_T25 l0 x7_1).f0) == 58) = true := beq_iff_eq.mpr c12
                      have c12b1 : (((rd_T25 l0 x7_1).f0) != 58) = false := bne_eq_false_iff_eq.mpr c12
                      clear c12
                      have H' := Aside0.mk H
                      clear H
                      go_wp2
                      go_meet
                      case rel => exact ⟨_, ((((rd_T25 l0 x7_1).f0) == 58)), (by first | rfl | (simp; done) | (simp [*]; done)), H', ⟨by have := HK1.out; have := HJ3.out; first | omega | exact Nat.le_refl _⟩, ⟨by repeat (first | (with_reducible first | exact HB.out | apply below_alloc | apply pw_below_drewN | apply below_drew1) | exact HB.out)⟩⟩
                    · rw [if_neg c12] at H
                      have c12b0 : (((rd_T25 l0 x7_1).f0) == 58) = false := beq_eq_false_iff_ne.mpr c12
                      have c12b1 : (((rd_T25 l0 x7_1).f0) != 58) = true := bne_iff_ne.mpr c12
                      have H' := Aside0.mk H
                      clear H
                      go_wp2
                      go_meet
                      case rel => exact ⟨_, ((((rd_T25 l0 x7_1).f0) == 59)), (by first | rfl | (simp; done) | (simp [*]; done)), H', ⟨by have := HK1.out; have := HJ3.out; first | omega | exact Nat.le_refl _⟩, ⟨by repeat (first | (with_reducible first | exact HB.out | apply below_alloc | apply pw_below_drewN | apply below_drew1) | exact HB.out)⟩⟩
                case rest =>
                  clear HC10
                  try clear c1
                  try clear p1
                  try clear q1
                  try clear hx1
                  try clear c2
                  try clear p2
                  try clear c3
                  try clear c3b0
                  try clear c5
                  try clear c6
                  try clear c6b0
                  try clear c6b1
                  try clear c8
                  try clear c8b0
                  try clear c9
                  try clear c9b0
                  try clear p10
                  try clear q10
                  try clear hx10
                  try clear c11
                  try clear c11b0
                  try clear c11b1
                  try clear c12
                  try clear c12b0
                  try clear c12b1
                  try clear hx101_0
                  try clear hx101_1
                  try clear hx101_2
                  try clear hx103_0
                  try clear hx103_1
                  try clear hx103_2
                  try clear p1
                  try clear p101
                  try clear p103
                  try clear p2
                  try clear q1
                  try clear q101
                  try clear q103
                  obtain ⟨kq, x31_9, rfl, HA, HJ9, HB⟩ := hcut
                  cases kq with
                  | zero => exact absurd HA.out (by simp [chunk_end.j2])
                  | succ kj9 =>
                    have H := HA.out
                    clear HA
                    simp only [chunk_end.j2] at H
                    by_cases c13 : x31_9 = true
                    · subst c13
                      have H1 : (chunk_end.l0 kj9 l0 (wrap64 (x6_1 + 1)) (wrap64 (x7_1 + 1)) x8_3) = some (r1, r2) := by rw [if_pos rfl] at H; exact H
                      clear H
                      have H := H1
                      clear H1
                      have H' := Aside0.mk H
                      clear H
                      go_wp2
                      go_roundg kj9
                      case measure => have := HK1.out; have := HJ3.out; have := HJ9.out; omega
                      case rel => exact ⟨(wrap64 (x6_1 + 1)), (wrap64 (x7_1 + 1)), (x8_3), (by first | rfl | (simp; done) | (simp [*]; done)), (by first | rfl | (simp; done) | (simp [*]; done)), (by first | rfl | (simp; done) | (simp [*]; done)), H', ⟨by have := HK1.out; have := HJ3.out; have := HJ9.out; omega⟩, ⟨by repeat (first | (with_reducible first | exact HB.out | apply below_alloc | apply pw_below_drewN | apply below_drew1) | exact HB.out)⟩⟩
                    · replace c13 := Bool.eq_false_iff.mpr c13
                      subst c13
                      have H1 : (if ((rd_T25 l0 x7_1).f0) = 62 then (chunk_end.j3 kj9 l0 x6_1 x7_1 x8_3 ((rd_T25 l0 x7_1).f0) (((rd_T25 l0 x7_1).f0) == 62)) else (if ((rd_T25 l0 x7_1).f0) = 63 then (chunk_end.j3 kj9 l0 x6_1 x7_1 x8_3 ((rd_T25 l0 x7_1).f0) (((rd_T25 l0 x7_1).f0) == 63)) else (chunk_end.j3 kj9 l0 x6_1 x7_1 x8_3 ((rd_T25 l0 x7_1).f0) (((rd_T25 l0 x7_1).f0) == 64)))) = some (r1, r2) := by rw [if_neg (show ¬ (false = true) by decide)] at H; exact H
                      clear H
                      have H := H1
                      clear H1
                      have HC14 := Aside0.mk H
                      clear H
                      go_upto_if 37 with (fail)
                      go_cut [37] (fun v37 wc => ∃ (kq : Nat) (x37_13 : Bool), v37 = .bool x37_13 ∧ Aside0 (chunk_end.j3 kq l0 x6_1 x7_1 x8_3 ((rd_T25 l0 x7_1).f0) x37_13 = some (r1, r2)) ∧ Aside0 (kq ≤ kj9) ∧ Aside0 (Below w.heap.size w wc))
                      case first =>
                        have H := HC14.out
                        clear HC14
                        by_cases c15 : ((rd_T25 l0 x7_1).f0) = 62
                        · rw [if_pos c15] at H
                          have c15b0 : (((rd_T25 l0 x7_1).f0) == 62) = true := beq_iff_eq.mpr c15
                          have c15b1 : (((rd_T25 l0 x7_1).f0) != 62) = false := bne_eq_false_iff_eq.mpr c15
                          clear c15
                          (first | rw [c15b0] | (simp only [i64_w, i32_w]; rw [c15b0]) | rw [c15b1] | skip)
                          have H' := Aside0.mk H
                          clear H
                          go_wp2
                          go_meet
                          case rel => exact ⟨_, ((((rd_T25 l0 x7_1).f0) == 62)), (by first | rfl | (simp; done) | (simp [*]; done)), H', ⟨by have := HK1.out; have := HJ3.out; have := HJ9.out; first | omega | exact Nat.le_refl _⟩, ⟨by repeat (first | (with_reducible first | exact HB.out | apply below_alloc | apply pw_below_drewN | apply below_drew1) | exact HB.out)⟩⟩
                        · rw [if_neg c15] at H
                          have c15b0 : (((rd_T25 l0 x7_1).f0) == 62) = false := beq_eq_false_iff_ne.mpr c15
                          have c15b1 : (((rd_T25 l0 x7_1).f0) != 62) = true := bne_iff_ne.mpr c15
                          (first | rw [c15b0] | (simp only [i64_w, i32_w]; rw [c15b0]) | rw [c15b1] | skip)
                          by_cases c16 : ((rd_T25 l0 x7_1).f0) = 63
                          · rw [if_pos c16] at H
                            have c16b0 : (((rd_T25 l0 x7_1).f0) == 63) = true := beq_iff_eq.mpr c16
                            have c16b1 : (((rd_T25 l0 x7_1).f0) != 63) = false := bne_eq_false_iff_eq.mpr c16
                            clear c16
                            have H' := Aside0.mk H
                            clear H
                            go_wp2
                            go_meet
                            case rel => exact ⟨_, ((((rd_T25 l0 x7_1).f0) == 63)), (by first | rfl | (simp; done) | (simp [*]; done)), H', ⟨by have := HK1.out; have := HJ3.out; have := HJ9.out; first | omega | exact Nat.le_refl _⟩, ⟨by repeat (first | (with_reducible first | exact HB.out | apply below_alloc | apply pw_below_drewN | apply below_drew1) | exact HB.out)⟩⟩
                          · rw [if_neg c16] at H
                            have c16b0 : (((rd_T25 l0 x7_1).f0) == 63) = false := beq_eq_false_iff_ne.mpr c16
                            have c16b1 : (((rd_T25 l0 x7_1).f0) != 63) = true := bne_iff_ne.mpr c16
                            have H' := Aside0.mk H
                            clear H
                            go_wp2
                            go_meet
                            case rel => exact ⟨_, ((((rd_T25 l0 x7_1).f0) == 64)), (by first | rfl | (simp; done) | (simp [*]; done)), H', ⟨by have := HK1.out; have := HJ3.out; have := HJ9.out; first | omega | exact Nat.le_refl _⟩, ⟨by repeat (first | (with_reducible first | exact HB.out | apply below_alloc | apply pw_below_drewN | apply below_drew1) | exact HB.out)⟩⟩
                      case rest =>
                        clear HC14
                        try clear c1
                        try clear p1
                        try clear q1
                        try clear hx1
                        try clear c2
                        try clear p2
                        try clear c3
                        try clear c3b0
                        try clear c5
                        try clear c6
                        try clear c6b0
                        try clear c6b1
                        try clear p6
                        try clear c8
                        try clear c8b0
                        try clear c9
                        try clear c9b0
                        try clear p10
                        try clear q10
                        try clear hx10
                        try clear c11
                        try clear c11b0
                        try clear c11b1
                        try clear c12
                        try clear c12b0
                        try clear c12b1
                        try clear c13
                        try clear c15
                        try clear c15b0
                        try clear c15b1
                        try clear c16
                        try clear c16b0
                        try clear c16b1
                        try clear hx101_0
                        try clear hx101_1
                        try clear hx101_2
                        try clear hx103_0
                        try clear hx103_1
                        try clear hx103_2
                        try clear p1
                        try clear p10
                        try clear p101
                        try clear p103
                        try clear p2
                        try clear q1
                        try clear q10
                        try clear q101
                        try clear q103
                        obtain ⟨kq, x37_13, rfl, HA, HJ13, HB⟩ := hcut
                        cases kq with
                        | zero => exact absurd HA.out (by simp [chunk_end.j3])
                        | succ kj13 =>
                          have H := HA.out
                          clear HA
                          simp only [chunk_end.j3] at H
                          by_cases c17 : x37_13 = true
                          · subst c17
                            have H1 : (chunk_end.l0 kj13 l0 (mx (wrap64 (x6_1 - 1)) 0) (wrap64 (x7_1 + 1)) x8_3) = some (r1, r2) := by rw [if_pos rfl] at H; exact H
                            clear H
                            have H := H1
                            clear H1
                            obtain ⟨ji18, hji18⟩ : ∃ j_ : Int, (mx (wrap64 (x6_1 - 1)) 0) = j_ := ⟨_, rfl⟩
                            replace H : (chunk_end.l0 kj13 l0 ji18 (wrap64 (x7_1 + 1)) x8_3) = some (r1, r2) := by first | (rw [hji18] at H; exact H) | (simp only [hji18] at H ⊢; exact H)
                            have hji18_ : (if (wrap64 (x6_1 - 1)) < 0 then 0 else (wrap64 (x6_1 - 1))) = ji18 := hji18
                            have H' := Aside0.mk H
                            clear H
                            go_wp2
                            go_roundg kj13
                            case measure => have := HK1.out; have := HJ3.out; have := HJ9.out; have := HJ13.out; omega
                            case rel => exact ⟨(ji18), (wrap64 (x7_1 + 1)), (x8_3), (by first | rfl | (simp; done) | (simp only [← hji18] <;> (first | rfl | simp)) | (simp [*]; done)), (by first | rfl | (simp; done) | (simp [*]; done)), (by first | rfl | (simp; done) | (simp [*]; done)), H', ⟨by have := HK1.out; have := HJ3.out; have := HJ9.out; have := HJ13.out; omega⟩, ⟨by repeat (first | (with_reducible first | exact HB.out | apply below_alloc | apply pw_below_drewN | apply below_drew1) | exact HB.out)⟩⟩
                          · replace c17 := Bool.eq_false_iff.mpr c17
                            subst c17
                            have H1 : (if ((rd_T25 l0 x7_1).f0) = 15 then (chunk_end.j4 kj13 l0 x6_1 x7_1 x8_3 (((rd_T25 l0 x7_1).f0) == 15)) else (chunk_end.j4 kj13 l0 x6_1 x7_1 x8_3 (((rd_T25 l0 x7_1).f0) == 16))) = some (r1, r2) := by rw [if_neg (show ¬ (false = true) by decide)] at H; exact H
                            clear H
                            have H := H1
                            clear H1
                            have HC19 := Aside0.mk H
                            clear H
                            go_upto_if 44 with (fail)
                            go_cut [44] (fun v44 wc => ∃ (kq : Nat) (x44_18 : Bool), v44 = .bool x44_18 ∧ Aside0 (chunk_end.j4 kq l0 x6_1 x7_1 x8_3 x44_18 = some (r1, r2)) ∧ Aside0 (kq ≤ kj13) ∧ Aside0 (Below w.heap.size w wc))
                            case first =>
                              have H := HC19.out
                              clear HC19
                              by_cases c20 : ((rd_T25 l0 x7_1).f0) = 15
                              · rw [if_pos c20] at H
                                have c20b0 : (((rd_T25 l0 x7_1).f0) == 15) = true := beq_iff_eq.mpr c20
                                have c20b1 : (((rd_T25 l0 x7_1).f0) != 15) = false := bne_eq_false_iff_eq.mpr c20
                                clear c20
                                (first | rw [c20b0] | (simp only [i64_w, i32_w]; rw [c20b0]) | rw [c20b1] | skip)
                                have H' := Aside0.mk H
                                clear H
                                go_wp2
                                go_meet
                                case rel => exact ⟨_, ((((rd_T25 l0 x7_1).f0) == 15)), (by first | rfl | (simp; done) | (simp [*]; done)), H', ⟨by have := HK1.out; have := HJ3.out; have := HJ9.out; have := HJ13.out; first | omega | exact Nat.le_refl _⟩, ⟨by repeat (first | (with_reducible first | exact HB.out | apply below_alloc | apply pw_below_drewN | apply below_drew1) | exact HB.out)⟩⟩
                              · rw [if_neg c20] at H
                                have c20b0 : (((rd_T25 l0 x7_1).f0) == 15) = false := beq_eq_false_iff_ne.mpr c20
                                have c20b1 : (((rd_T25 l0 x7_1).f0) != 15) = true := bne_iff_ne.mpr c20
                                (first | rw [c20b0] | (simp only [i64_w, i32_w]; rw [c20b0]) | rw [c20b1] | skip)
                                have H' := Aside0.mk H
                                clear H
                                go_wp2
                                go_meet
                                case rel => exact ⟨_, ((((rd_T25 l0 x7_1).f0) == 16)), (by first | rfl | (simp; done) | (simp [*]; done)), H', ⟨by have := HK1.out; have := HJ3.out; have := HJ9.out; have := HJ13.out; first | omega | exact Nat.le_refl _⟩, ⟨by repeat (first | (with_reducible first | exact HB.out | apply below_alloc | apply pw_below_drewN | apply below_drew1) | exact HB.out)⟩⟩
                            case rest =>
                              clear HC19
                              try clear c1
                              try clear p1
                              try clear q1
                              try clear hx1
                              try clear c2
                              try clear p2
                              try clear c3
                              try clear c3b0
                              try clear c5
                              try clear c6
                              try clear c6b0
                              try clear c6b1
                              try clear p6
                              try clear c8
                              try clear c8b0
                              try clear c9
                              try clear c9b0
                              try clear p10
                              try clear q10
                              try clear hx10
                              try clear c11
                              try clear c11b0
                              try clear c11b1
                              try clear c12
                              try clear c12b0
                              try clear c12b1
                              try clear c13
                              try clear c15
                              try clear c15b0
                              try clear c15b1
                              try clear c16
                              try clear c16b0
                              try clear c16b1
                              try clear c17
                              try clear c20
                              try clear c20b0
                              try clear c20b1
                              try clear hx101_0
                              try clear hx101_1
                              try clear hx101_2
                              try clear hx103_0
                              try clear hx103_1
                              try clear hx103_2
                              try clear p1
                              try clear p10
                              try clear p101
                              try clear p103
                              try clear p2
                              try clear p6
                              try clear q1
                              try clear q10
                              try clear q101
                              try clear q103
                              obtain ⟨kq, x44_18, rfl, HA, HJ18, HB⟩ := hcut
                              cases kq with
                              | zero => exact absurd HA.out (by simp [chunk_end.j4])
                              | succ kj18 =>
                                have H := HA.out
                                clear HA
                                simp only [chunk_end.j4] at H
                                by_cases c21 : x44_18 = true
                                · subst c21
                                  have H1 : (if x6_1 = 0 then (some (wrap64 (x7_1 + 1), x8_3)) else (chunk_end.l0 kj18 l0 x6_1 (wrap64 (x7_1 + 1)) x8_3)) = some (r1, r2) := by rw [if_pos rfl] at H; exact H
                                  clear H
                                  have H := H1
                                  clear H1
                                  by_cases c22 : x6_1 = 0
                                  · rw [if_pos c22] at H
                                    have c22b0 : (x6_1 == 0) = true := beq_iff_eq.mpr c22
                                    have c22b1 : (x6_1 != 0) = false := bne_eq_false_iff_eq.mpr c22
                                    clear c22
                                    simp only [Option.some.injEq, Prod.mk.injEq] at H
                                    obtain ⟨rfl, rfl⟩ := H
                                    go_wp2
                                    (try rw [Exit.noGoto_ret])
                                    go_ret2
                                    exact ⟨by first | rfl | (simp [errW_none, errW_some] <;> rfl) | (simp [*, errW_none, errW_some] <;> rfl), by repeat (first | (with_reducible first | exact HB.out | apply below_alloc | apply pw_below_drewN | apply below_drew1) | exact HB.out)⟩
                                  · rw [if_neg c22] at H
                                    have c22b0 : (x6_1 == 0) = false := beq_eq_false_iff_ne.mpr c22
                                    have c22b1 : (x6_1 != 0) = true := bne_iff_ne.mpr c22
                                    have H' := Aside0.mk H
                                    clear H
                                    go_wp2
                                    go_roundg kj18
                                    case measure => have := HK1.out; have := HJ3.out; have := HJ9.out; have := HJ13.out; have := HJ18.out; omega
                                    case rel => exact ⟨(x6_1), (wrap64 (x7_1 + 1)), (x8_3), (by first | rfl | (simp; done) | (simp [*]; done)), (by first | rfl | (simp; done) | (simp [*]; done)), (by first | rfl | (simp; done) | (simp [*]; done)), H', ⟨by have := HK1.out; have := HJ3.out; have := HJ9.out; have := HJ13.out; have := HJ18.out; omega⟩, ⟨by repeat (first | (with_reducible first | exact HB.out | apply below_alloc | apply pw_below_drewN | apply below_drew1) | exact HB.out)⟩⟩
                                · replace c21 := Bool.eq_false_iff.mpr c21
                                  subst c21
                                  have H1 : (chunk_end.l0 kj18 l0 x6_1 (wrap64 (x7_1 + 1)) x8_3) = some (r1, r2) := by rw [if_neg (show ¬ (false = true) by decide)] at H; exact H
                                  clear H
                                  have H := H1
                                  clear H1
                                  have H' := Aside0.mk H
                                  clear H
                                  go_wp2
                                  go_roundg kj18
                                  case measure => have := HK1.out; have := HJ3.out; have := HJ9.out; have := HJ13.out; have := HJ18.out; omega
                                  case rel => exact ⟨(x6_1), (wrap64 (x7_1 + 1)), (x8_3), (by first | rfl | (simp; done) | (simp [*]; done)), (by first | rfl | (simp; done) | (simp [*]; done)), (by first | rfl | (simp; done) | (simp [*]; done)), H', ⟨by have := HK1.out; have := HJ3.out; have := HJ9.out; have := HJ13.out; have := HJ18.out; omega⟩, ⟨by repeat (first | (with_reducible first | exact HB.out | apply below_alloc | apply pw_below_drewN | apply below_drew1) | exact HB.out)⟩⟩
              · rw [if_neg c9] at H
                exact absurd H (by simp)
            · rw [if_neg c8] at H
              exact absurd H (by simp)
      · rw [if_neg c3] at H
        have c3b0 : decide (x7_1 < (l0.length : Int)) = false := decide_eq_false c3
        clear c3
        simp only [Option.some.injEq, Prod.mk.injEq] at H
        obtain ⟨rfl, rfl⟩ := H
        go_wp2
        (try rw [Exit.noGoto_ret])
        go_ret2
        exact ⟨by first | rfl | (simp [errW_none, errW_some] <;> rfl) | (simp [*, errW_none, errW_some] <;> rfl), by repeat (first | (with_reducible first | exact HB.out | apply below_alloc | apply pw_below_drewN | apply below_drew1) | exact HB.out)⟩

end Go.Proofs.Ytcejdokeaoklaaa.PChk
