-- Written by a program of this session (wip/tools/printseat.sh).
import Derived.Test.YtcejdokeaoklaaaDoorPImpx0
import Derived.Test.YtcejdokeaoklaaaDoorPImpx7
import Derived.Test.YtcejdokeaoklaaaDoorPImpx8
import Derived.Test.YtcejdokeaoklaaaDoorMore
namespace Go.Proofs.YtcejdokeaoklaaaDoor.PImp
open Go.RowKit Go.Proofs.YtcejdokeaoklaaaDoorW.PrintWords Go.Proofs.YtcejdokeaoklaaaDoorW.PrintLast Go.Proofs.YtcejdokeaoklaaaDoorW.PrintMore
attribute [local go_sem] max2_int min2_int max_two min_two max_three min_three max_four min_four   -- for this text's walks alone
set_option linter.unusedVariables false
set_option linter.unusedSimpArgs false
/-! ### lw_wide: function 13 -/
def lw_wide.l0 : Nat → List (S46) → Int → Int → Option (Bool)
 | 0, _, _, _ => none
 | k + 1, x1, x5, x6 => if x6 < (x1.length : Int) then (if x5 ≤ 1024 then (if 0 ≤ x6 then (lw_wide.l0 k x1 (wrap64 (x5 + (((rd_T46 x1 x6).f1).length : Int))) (wrap64 (x6 + 1))) else (none)) else (some (decide (x5 > 1024)))) else (some (decide (x5 > 1024)))
def lw_wide.f (k : Nat) (l0 : List ByteArray) (l1 : List (S46)) : Option (Bool) := lw_wide.l0 k l1 (wrap64 ((l0.length : Int) + (l1.length : Int))) 0
theorem lw_wide.mono_l : ∀ k, (∀ y0 y1 y2, LeO (lw_wide.l0 k y0 y1 y2) (lw_wide.l0 (k + 1) y0 y1 y2))
 | 0 => fun _ _ _ r h => by simp [lw_wide.l0] at h
 | k + 1 => by
  have ih0 := lw_wide.mono_l k
  ·intro y0 y1 y2
   unfold lw_wide.l0
   repeat' first
   | (with_reducible exact ih0 _ _ _)
   | (with_reducible exact LeO.refl _)
   | (with_reducible exact LeO.none _)
   | (with_reducible refine LeO.ite ?_ ?_)
   | (with_reducible refine LeO.bind ?_ (fun _ => ?_))
   | exact ih0 _ _ _
   | exact LeO.none _
   | refine LeO.ite ?_ ?_
   | refine LeO.bind ?_ (fun _ => ?_)
theorem lw_wide.mono : ∀ a0 a1 k, LeO (lw_wide.f k a0 a1) (lw_wide.f (k + 1) a0 a1) := by
 intro a0 a1 k
 have ih0 := lw_wide.mono_l k
 unfold lw_wide.f
 repeat' first
   | (with_reducible exact ih0 _ _ _)
   | (with_reducible exact LeO.refl _)
   | (with_reducible exact LeO.none _)
   | (with_reducible refine LeO.ite ?_ ?_)
   | (with_reducible refine LeO.bind ?_ (fun _ => ?_))
   | exact ih0 _ _ _
   | exact LeO.none _
   | refine LeO.ite ?_ ?_
   | refine LeO.bind ?_ (fun _ => ?_)
set_option maxHeartbeats 8000000 in
set_option maxRecDepth 100000 in
theorem lw_wide.calls (k : Nat) (A0 : Option Addr) (c0 : Nat) (l0 : List ByteArray) (A1 : Option Addr) (c1 : Nat) (l1 : List (S46)) (r : Bool) (w : World) (hr0 : Kd.C Kd.string w A0 l0.length l0) (hc0 : l0.length ≤ c0) (hr1 : Kd.C k46 w A1 l1.length l1) (hc1 : l1.length ≤ c1) (h : lw_wide.f k l0 l1 = some r) :
  Calls Tryd.prog 13 #[.slice A0 l0.length c0, .slice A1 l1.length c1] w fun e w' => e = .returned (.bool r) ∧ Drawn0 w w' := by
 have HR0 := Aside0.mk hr0
 have HC0 := Aside0.mk hc0
 clear hr0 hc0
 have HR1 := Aside0.mk hr1
 have HC1 := Aside0.mk hc1
 clear hr1 hc1
 have H : (lw_wide.l0 k l1 (wrap64 ((l0.length : Int) + (l1.length : Int))) 0) = some r := h
 clear h
 have H' := Aside0.mk H
 clear H
 go_enter Tryd.func13, Tryd.ntmps13
 go_wp2
 go_loopg [5, 6] k (fun kq v5 v6 w' => ∃ (x5_1 : Int) (x6_1 : Int), v5 = .int .i64 x5_1 ∧ v6 = .int .i64 x6_1 ∧ Aside0 (lw_wide.l0 kq l1 x5_1 x6_1 = some r) ∧ Aside0 (kq ≤ k) ∧ Drawn0 w w')
 case atStart => exact ⟨(wrap64 ((l0.length : Int) + (l1.length : Int))), (0), (by first | rfl | (simp; done) | (simp [*]; done)), (by first | rfl | (simp; done) | (simp [*]; done)), H', ⟨Nat.le_refl _⟩, by repeat (first | exact Drawn0.refl _ | apply Drawn0.step)⟩
 case round =>
  clear H'
  try clear c1
  try clear p2
  obtain ⟨x5_1, x6_1, rfl, rfl, HA, HK1, ⟨m1, rfl⟩⟩ := hrel
  cases gk with
  | zero => exact absurd HA.out (by simp [lw_wide.l0])
  | succ k1 =>
   have H := HA.out
   clear HA
   simp only [lw_wide.l0] at H
   by_cases c3 : x6_1 < (l1.length : Int)
   ·rw [if_pos c3] at H
    have c3b0 : decide (x6_1 < (l1.length : Int)) = true := decide_eq_true c3
    clear c3
    by_cases c4 : x5_1 ≤ 1024
    ·rw [if_pos c4] at H
     have c4b0 : decide (x5_1 ≤ 1024) = true := decide_eq_true c4
     clear c4
     by_cases c5 : 0 ≤ x6_1
     ·rw [if_pos c5] at H
      have c5b0 : decide (0 ≤ x6_1) = true := decide_eq_true c5
      clear c5
      have H' := Aside0.mk H
      clear H
      have p193 : 0 ≤ (x6_1 : Int) := of_decide_eq_true (by first | (with_reducible assumption) | assumption)
      have q193 : x6_1 < (l1.length : Int) := of_decide_eq_true (by first | (with_reducible assumption) | assumption)
      obtain ⟨ad193, A193_3, c193_3, A193_4, c193_4, e193, hx193_0, hx193_1, hx193_2, hx193_3, hx193_4, hl193_3, hi193_3, hl193_4, hi193_4⟩ := at_T46 HR1.out x6_1 p193 q193
      cases e193
      have HR193_3 := Aside0.mk hi193_3
      have HC193_3 := Aside0.mk hl193_3
      clear hi193_3 hl193_3
      have HR193_4 := Aside0.mk hi193_4
      have HC193_4 := Aside0.mk hl193_4
      clear hi193_4 hl193_4
      replace p193 := eq_true p193
      replace q193 := eq_true q193
      go_wp2
      go_roundg k1
      case measure => have := HK1.out; omega
      case rel => exact ⟨(wrap64 (x5_1 + (((rd_T46 l1 x6_1).f1).length : Int))), (wrap64 (x6_1 + 1)), (by first | rfl | (simp; done) | (simp [*]; done)), (by first | rfl | (simp; done) | (simp [*]; done)), H', ⟨by have := HK1.out; omega⟩, by repeat (first | exact Drawn0.refl _ | apply Drawn0.step)⟩
     ·rw [if_neg c5] at H
      exact absurd H (by simp)
    ·rw [if_neg c4] at H
     have c4b0 : decide (x5_1 ≤ 1024) = false := decide_eq_false c4
     clear c4
     obtain rfl := Option.some.inj H
     go_wp2
     go_ret
     exact ⟨by first | rfl | (simp; done) | (simp [*]; done), by repeat (first | exact Drawn0.refl _ | apply Drawn0.step)⟩
   ·rw [if_neg c3] at H
    have c3b0 : decide (x6_1 < (l1.length : Int)) = false := decide_eq_false c3
    clear c3
    obtain rfl := Option.some.inj H
    go_wp2
    go_ret
    exact ⟨by first | rfl | (simp; done) | (simp [*]; done), by repeat (first | exact Drawn0.refl _ | apply Drawn0.step)⟩
end Go.Proofs.YtcejdokeaoklaaaDoor.PImp
