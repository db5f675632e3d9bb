import Derived.Test.YtcejdokeaoklaaaDoorPImpx0
import Derived.Test.YtcejdokeaoklaaaDoorPImpx1
-- Written by a program of this session (wip/tools/printseat.sh).
namespace Go.Proofs.YtcejdokeaoklaaaDoor.PImp
open Go.RowKit Go.Proofs.YtcejdokeaoklaaaDoorW.PrintWords Go.Proofs.YtcejdokeaoklaaaDoorW.PrintLast Go.Proofs.YtcejdokeaoklaaaDoorW.PrintMore
attribute [local go_sem] max2_int min2_int max_two min_two max_three min_three max_four min_four   -- for this text's walks alone
set_option linter.unusedVariables false
set_option linter.unusedSimpArgs false
/-! ### lw_place: function 19 -/
def lw_place.l0 : Nat → List ByteArray → ByteArray → Int → Option (Int)
 | 0, _, _, _ => none
 | k + 1, x0, x1, x5 => if x5 < (x0.length : Int) then (if 0 ≤ x5 then (if (rdOf ByteArray.empty x0 x5).toList = x1.toList then (some x5) else (lw_place.l0 k x0 x1 (wrap64 (x5 + 1)))) else (none)) else (some (-1))
def lw_place.f (k : Nat) (l0 : List ByteArray) (a1 : ByteArray) : Option (Int) := lw_place.l0 k l0 a1 0
theorem lw_place.mono_l : ∀ k, (∀ y0 y1 y2, LeO (lw_place.l0 k y0 y1 y2) (lw_place.l0 (k + 1) y0 y1 y2))
 | 0 => fun _ _ _ r h => by simp [lw_place.l0] at h
 | k + 1 => by
  have ih0 := lw_place.mono_l k
  ·intro y0 y1 y2
   unfold lw_place.l0
   repeat' first
   | (with_reducible exact ih0 _ _ _)
   | (with_reducible exact LeO.refl _)
   | (with_reducible exact LeO.none _)
   | (with_reducible refine LeO.ite ?_ ?_)
   | (with_reducible refine LeO.bind ?_ (fun _ => ?_))
   | exact ih0 _ _ _
   | exact LeO.none _
   | refine LeO.ite ?_ ?_
   | refine LeO.bind ?_ (fun _ => ?_)
theorem lw_place.mono : ∀ a0 a1 k, LeO (lw_place.f k a0 a1) (lw_place.f (k + 1) a0 a1) := by
 intro a0 a1 k
 have ih0 := lw_place.mono_l k
 unfold lw_place.f
 repeat' first
   | (with_reducible exact ih0 _ _ _)
   | (with_reducible exact LeO.refl _)
   | (with_reducible exact LeO.none _)
   | (with_reducible refine LeO.ite ?_ ?_)
   | (with_reducible refine LeO.bind ?_ (fun _ => ?_))
   | exact ih0 _ _ _
   | exact LeO.none _
   | refine LeO.ite ?_ ?_
   | refine LeO.bind ?_ (fun _ => ?_)
set_option maxHeartbeats 8000000 in
set_option maxRecDepth 100000 in
theorem lw_place.calls (k : Nat) (A0 : Option Addr) (c0 : Nat) (l0 : List ByteArray) (a1 : ByteArray) (r : Int) (w : World) (hr0 : Kd.C Kd.string w A0 l0.length l0) (hc0 : l0.length ≤ c0) (h : lw_place.f k l0 a1 = some r) :
  Calls Tryd.prog 19 #[.slice A0 l0.length c0, .string a1] w fun e w' => e = .returned (.int .i64 r) ∧ Drawn0 w w' := by
 have HR0 := Aside0.mk hr0
 have HC0 := Aside0.mk hc0
 clear hr0 hc0
 have H : (lw_place.l0 k l0 a1 0) = some r := h
 clear h
 have H' := Aside0.mk H
 clear H
 go_enter Tryd.func19, Tryd.ntmps19
 go_wp2
 go_loopg [5] k (fun kq v5 w' => ∃ (x5_1 : Int), v5 = .int .i64 x5_1 ∧ Aside0 (lw_place.l0 kq l0 a1 x5_1 = some r) ∧ Aside0 (kq ≤ k) ∧ Drawn0 w w')
 case atStart => exact ⟨(0), (by first | rfl | (simp; done) | (simp [*]; done)), H', ⟨Nat.le_refl _⟩, by repeat (first | exact Drawn0.refl _ | apply Drawn0.step)⟩
 case round =>
  clear H'
  try clear c1
  try clear p2
  obtain ⟨x5_1, rfl, HA, HK1, ⟨m1, rfl⟩⟩ := hrel
  cases gk with
  | zero => exact absurd HA.out (by simp [lw_place.l0])
  | succ k1 =>
   have H := HA.out
   clear HA
   simp only [lw_place.l0] at H
   by_cases c3 : x5_1 < (l0.length : Int)
   ·rw [if_pos c3] at H
    have c3b0 : decide (x5_1 < (l0.length : Int)) = true := decide_eq_true c3
    clear c3
    by_cases c4 : 0 ≤ x5_1
    ·rw [if_pos c4] at H
     have c4b0 : decide (0 ≤ x5_1) = true := decide_eq_true c4
     clear c4
     by_cases c5 : (rdOf ByteArray.empty l0 x5_1).toList = a1.toList
     ·rw [if_pos c5] at H
      have c5b0 : ((rdOf ByteArray.empty l0 x5_1).toList == a1.toList) = true := beq_iff_eq.mpr c5
      have c5b1 : ((rdOf ByteArray.empty l0 x5_1).toList != a1.toList) = false := bne_eq_false_iff_eq.mpr c5
      clear c5
      obtain rfl := Option.some.inj H
      have p362 : 0 ≤ (x5_1 : Int) := of_decide_eq_true (by first | (with_reducible assumption) | assumption)
      have q362 : x5_1 < (l0.length : Int) := of_decide_eq_true (by first | (with_reducible assumption) | assumption)
      obtain ⟨ad362, e362, hx362_0⟩ := Kd.at_string HR0.out x5_1 p362 q362
      cases e362
      replace p362 := eq_true p362
      replace q362 := eq_true q362
      go_wp2
      go_ret
      exact ⟨by first | rfl | (simp; done) | (simp [*]; done), by repeat (first | exact Drawn0.refl _ | apply Drawn0.step)⟩
     ·rw [if_neg c5] at H
      have c5b0 : ((rdOf ByteArray.empty l0 x5_1).toList == a1.toList) = false := beq_eq_false_iff_ne.mpr c5
      have c5b1 : ((rdOf ByteArray.empty l0 x5_1).toList != a1.toList) = true := bne_iff_ne.mpr c5
      have H' := Aside0.mk H
      clear H
      have p362 : 0 ≤ (x5_1 : Int) := of_decide_eq_true (by first | (with_reducible assumption) | assumption)
      have q362 : x5_1 < (l0.length : Int) := of_decide_eq_true (by first | (with_reducible assumption) | assumption)
      obtain ⟨ad362, e362, hx362_0⟩ := Kd.at_string HR0.out x5_1 p362 q362
      cases e362
      replace p362 := eq_true p362
      replace q362 := eq_true q362
      go_wp2
      go_roundg k1
      case measure => have := HK1.out; omega
      case rel => exact ⟨(wrap64 (x5_1 + 1)), (by first | rfl | (simp; done) | (simp [*]; done)), H', ⟨by have := HK1.out; omega⟩, by repeat (first | exact Drawn0.refl _ | apply Drawn0.step)⟩
    ·rw [if_neg c4] at H
     exact absurd H (by simp)
   ·rw [if_neg c3] at H
    have c3b0 : decide (x5_1 < (l0.length : Int)) = false := decide_eq_false c3
    clear c3
    obtain rfl := Option.some.inj H
    go_wp2
    go_ret
    exact ⟨by first | rfl | (simp; done) | (simp [*]; done), by repeat (first | exact Drawn0.refl _ | apply Drawn0.step)⟩
end Go.Proofs.YtcejdokeaoklaaaDoor.PImp
-- Written by a program of this session (wip/tools/printseat.sh).
namespace Go.Proofs.YtcejdokeaoklaaaDoor.PImp
open Go.RowKit Go.Proofs.YtcejdokeaoklaaaDoorW.PrintWords Go.Proofs.YtcejdokeaoklaaaDoorW.PrintLast Go.Proofs.YtcejdokeaoklaaaDoorW.PrintMore
attribute [local go_sem] max2_int min2_int max_two min_two max_three min_three max_four min_four   -- for this text's walks alone
set_option linter.unusedVariables false
set_option linter.unusedSimpArgs false
attribute [local go_sem high] eqA52
/-! ### lw_sameDiags: function 21 -/
mutual
def lw_sameDiags.l0 : Nat → List (List (S52)) → List (List (S52)) → Int → Option (Bool)
 | 0, _, _, _ => none
 | k + 1, x0, x1, x5 => if x5 < (x0.length : Int) then (if 0 ≤ x5 then (if x5 < (x1.length : Int) then (if ((rd_L14 x0 x5).length : Int) = ((rd_L14 x1 x5).length : Int) then (lw_sameDiags.l1 k x0 x1 x5 0) else (some false)) else (none)) else (none)) else (some true)
def lw_sameDiags.l1 : Nat → List (List (S52)) → List (List (S52)) → Int → Int → Option (Bool)
 | 0, _, _, _, _ => none
 | k + 1, x0, x1, x5, x6 => if 0 ≤ x5 then (if x5 < (x0.length : Int) then (if x6 < ((rd_L14 x0 x5).length : Int) then (if 0 ≤ x6 then (if x5 < (x1.length : Int) then (if x6 < ((rd_L14 x1 x5).length : Int) then (if (!(((rd_T52 (rd_L14 x0 x5) x6).f0) == ((rd_T52 (rd_L14 x1 x5) x6).f0)) || (!(((rd_T52 (rd_L14 x0 x5) x6).f1) == ((rd_T52 (rd_L14 x1 x5) x6).f1)) || (!(((rd_T52 (rd_L14 x0 x5) x6).f2) == ((rd_T52 (rd_L14 x1 x5) x6).f2))))) = true then (some false) else (lw_sameDiags.l1 k x0 x1 x5 (wrap64 (x6 + 1)))) else (none)) else (none)) else (none)) else (lw_sameDiags.l0 k x0 x1 (wrap64 (x5 + 1)))) else (none)) else (none)
end
def lw_sameDiags.f (k : Nat) (l0 : List (List (S52))) (l1 : List (List (S52))) : Option (Bool) := if (l0.length : Int) = (l1.length : Int) then (lw_sameDiags.l0 k l0 l1 0) else (some false)
theorem lw_sameDiags.mono_l : ∀ k, (∀ y0 y1 y2, LeO (lw_sameDiags.l0 k y0 y1 y2) (lw_sameDiags.l0 (k + 1) y0 y1 y2)) ∧ (∀ y0 y1 y2 y3, LeO (lw_sameDiags.l1 k y0 y1 y2 y3) (lw_sameDiags.l1 (k + 1) y0 y1 y2 y3))
 | 0 => ⟨fun _ _ _ r h => by simp [lw_sameDiags.l0] at h, fun _ _ _ _ r h => by simp [lw_sameDiags.l1] at h⟩
 | k + 1 => by
  obtain ⟨ih0, ih1⟩ := lw_sameDiags.mono_l k
  refine ⟨?_, ?_⟩
  ·intro y0 y1 y2
   unfold lw_sameDiags.l0
   repeat' first
   | (with_reducible exact ih0 _ _ _)
   | (with_reducible exact ih1 _ _ _ _)
   | (with_reducible exact LeO.refl _)
   | (with_reducible exact LeO.none _)
   | (with_reducible refine LeO.ite ?_ ?_)
   | (with_reducible refine LeO.bind ?_ (fun _ => ?_))
   | exact ih0 _ _ _
   | exact ih1 _ _ _ _
   | exact LeO.none _
   | refine LeO.ite ?_ ?_
   | refine LeO.bind ?_ (fun _ => ?_)
  ·intro y0 y1 y2 y3
   unfold lw_sameDiags.l1
   repeat' first
   | (with_reducible exact ih0 _ _ _)
   | (with_reducible exact ih1 _ _ _ _)
   | (with_reducible exact LeO.refl _)
   | (with_reducible exact LeO.none _)
   | (with_reducible refine LeO.ite ?_ ?_)
   | (with_reducible refine LeO.bind ?_ (fun _ => ?_))
   | exact ih0 _ _ _
   | exact ih1 _ _ _ _
   | exact LeO.none _
   | refine LeO.ite ?_ ?_
   | refine LeO.bind ?_ (fun _ => ?_)
theorem lw_sameDiags.mono : ∀ a0 a1 k, LeO (lw_sameDiags.f k a0 a1) (lw_sameDiags.f (k + 1) a0 a1) := by
 intro a0 a1 k
 obtain ⟨ih0, ih1⟩ := lw_sameDiags.mono_l k
 unfold lw_sameDiags.f
 repeat' first
   | (with_reducible exact ih0 _ _ _)
   | (with_reducible exact ih1 _ _ _ _)
   | (with_reducible exact LeO.refl _)
   | (with_reducible exact LeO.none _)
   | (with_reducible refine LeO.ite ?_ ?_)
   | (with_reducible refine LeO.bind ?_ (fun _ => ?_))
   | exact ih0 _ _ _
   | exact ih1 _ _ _ _
   | exact LeO.none _
   | refine LeO.ite ?_ ?_
   | refine LeO.bind ?_ (fun _ => ?_)
set_option maxHeartbeats 8000000 in
set_option maxRecDepth 100000 in
theorem lw_sameDiags.calls (k : Nat) (A0 : Option Addr) (c0 : Nat) (l0 : List (List (S52))) (A1 : Option Addr) (c1 : Nat) (l1 : List (List (S52))) (r : Bool) (w : World) (hr0 : Kd.C (Kd.slice 52 k52) w A0 l0.length l0) (hc0 : l0.length ≤ c0) (hr1 : Kd.C (Kd.slice 52 k52) w A1 l1.length l1) (hc1 : l1.length ≤ c1) (h : lw_sameDiags.f k l0 l1 = some r) :
  Calls Tryd.prog 21 #[.slice A0 l0.length c0, .slice A1 l1.length c1] w fun e w' => e = .returned (.bool r) ∧ Drawn0 w w' := by
 have hu52 := Tryd.underlying52
 have HR0 := Aside0.mk hr0
 have HC0 := Aside0.mk hc0
 clear hr0 hc0
 have HR1 := Aside0.mk hr1
 have HC1 := Aside0.mk hc1
 clear hr1 hc1
 have H : (if (l0.length : Int) = (l1.length : Int) then (lw_sameDiags.l0 k l0 l1 0) else (some false)) = some r := h
 clear h
 by_cases c3 : (l0.length : Int) = (l1.length : Int)
 ·rw [if_pos c3] at H
  have c3b0 : ((l0.length : Int) == (l1.length : Int)) = true := beq_iff_eq.mpr c3
  have c3b1 : ((l0.length : Int) != (l1.length : Int)) = false := bne_eq_false_iff_eq.mpr c3
  have c3b2 : (l0.length == l1.length) = true := by first | simpa using c3 | (simp at c3 ⊢; omega)
  clear c3
  have H' := Aside0.mk H
  clear H
  go_enter Tryd.func21, Tryd.ntmps21
  go_wp2
  repeat (go_quiet (fail); try go_wp2)
  go_loopg [5] k (fun kq v5 w' => ∃ (x5_1 : Int), v5 = .int .i64 x5_1 ∧ Aside0 (lw_sameDiags.l0 kq l0 l1 x5_1 = some r) ∧ Aside0 (kq ≤ k) ∧ Drawn0 w w')
  case atStart => exact ⟨(0), (by first | rfl | (simp; done) | (simp [*]; done)), H', ⟨Nat.le_refl _⟩, by repeat (first | exact Drawn0.refl _ | apply Drawn0.step)⟩
  case round =>
   clear H'
   try clear c1
   try clear c2
   try clear p2
   try clear c3
   try clear c3b0
   try clear c3b1
   try clear c3b2
   obtain ⟨x5_1, rfl, HA, HK1, ⟨m1, rfl⟩⟩ := hrel
   cases gk with
   | zero => exact absurd HA.out (by simp [lw_sameDiags.l0])
   | succ k1 =>
    have H := HA.out
    clear HA
    simp only [lw_sameDiags.l0] at H
    by_cases c4 : x5_1 < (l0.length : Int)
    ·rw [if_pos c4] at H
     have c4b0 : decide (x5_1 < (l0.length : Int)) = true := decide_eq_true c4
     clear c4
     by_cases c5 : 0 ≤ x5_1
     ·rw [if_pos c5] at H
      have c5b0 : decide (0 ≤ x5_1) = true := decide_eq_true c5
      clear c5
      by_cases c6 : x5_1 < (l1.length : Int)
      ·rw [if_pos c6] at H
       have c6b0 : decide (x5_1 < (l1.length : Int)) = true := decide_eq_true c6
       clear c6
       by_cases c7 : ((rd_L14 l0 x5_1).length : Int) = ((rd_L14 l1 x5_1).length : Int)
       ·rw [if_pos c7] at H
        have c7b0 : (((rd_L14 l0 x5_1).length : Int) == ((rd_L14 l1 x5_1).length : Int)) = true := beq_iff_eq.mpr c7
        have c7b1 : (((rd_L14 l0 x5_1).length : Int) != ((rd_L14 l1 x5_1).length : Int)) = false := bne_eq_false_iff_eq.mpr c7
        have c7b2 : ((rd_L14 l0 x5_1).length == (rd_L14 l1 x5_1).length) = true := by first | simpa using c7 | (simp at c7 ⊢; omega)
        clear c7
        have H' := Aside0.mk H
        clear H
        have p363 : 0 ≤ (x5_1 : Int) := of_decide_eq_true (by first | (with_reducible assumption) | assumption)
        have q363 : x5_1 < (l0.length : Int) := of_decide_eq_true (by first | (with_reducible assumption) | assumption)
        obtain ⟨ad363, A363_0, c363_0, e363, hx363_0, hl363_0, hi363_0⟩ := at_L14 HR0.out x5_1 p363 q363
        cases e363
        have HR363_0 := Aside0.mk hi363_0
        have HC363_0 := Aside0.mk hl363_0
        clear hi363_0 hl363_0
        replace p363 := eq_true p363
        replace q363 := eq_true q363
        have p364 : 0 ≤ (x5_1 : Int) := of_decide_eq_true (by first | (with_reducible assumption) | assumption)
        have q364 : x5_1 < (l1.length : Int) := of_decide_eq_true (by first | (with_reducible assumption) | assumption)
        obtain ⟨ad364, A364_0, c364_0, e364, hx364_0, hl364_0, hi364_0⟩ := at_L14 HR1.out x5_1 p364 q364
        cases e364
        have HR364_0 := Aside0.mk hi364_0
        have HC364_0 := Aside0.mk hl364_0
        clear hi364_0 hl364_0
        replace p364 := eq_true p364
        replace q364 := eq_true q364
        go_wp2
        repeat (go_quiet (fail); try go_wp2)
        go_loopg [6] k1 (fun kq v6 w' => ∃ (x6_2 : Int), v6 = .int .i64 x6_2 ∧ Aside0 (lw_sameDiags.l1 kq l0 l1 x5_1 x6_2 = some r) ∧ Aside0 (kq ≤ k1) ∧ Drawn0 w w')
        case atStart => exact ⟨(0), (by first | rfl | (simp; done) | (simp [*]; done)), H', ⟨Nat.le_refl _⟩, by repeat (first | exact Drawn0.refl _ | apply Drawn0.step)⟩
        case round =>
         clear H'
         try clear c1
         try clear c2
         try clear p2
         try clear c3
         try clear c3b0
         try clear c3b1
         try clear c3b2
         try clear p3
         try clear q3
         try clear hx3
         try clear c4
         try clear c4b0
         try clear c5
         try clear c5b0
         try clear c6
         try clear c6b0
         try clear c7
         try clear c7b0
         try clear c7b1
         try clear c7b2
         try clear hx363_0
         try clear hx364_0
         try clear p2
         try clear p363
         try clear p364
         try clear q363
         try clear q364
         obtain ⟨x6_2, rfl, HA, HK2, ⟨m2, rfl⟩⟩ := hrel
         cases gk with
         | zero => exact absurd HA.out (by simp [lw_sameDiags.l1])
         | succ k2 =>
          have H := HA.out
          clear HA
          simp only [lw_sameDiags.l1] at H
          by_cases c8 : 0 ≤ x5_1
          ·rw [if_pos c8] at H
           have c8b0 : decide (0 ≤ x5_1) = true := decide_eq_true c8
           clear c8
           by_cases c9 : x5_1 < (l0.length : Int)
           ·rw [if_pos c9] at H
            have c9b0 : decide (x5_1 < (l0.length : Int)) = true := decide_eq_true c9
            clear c9
            by_cases c10 : x6_2 < ((rd_L14 l0 x5_1).length : Int)
            ·rw [if_pos c10] at H
             have c10b0 : decide (x6_2 < ((rd_L14 l0 x5_1).length : Int)) = true := decide_eq_true c10
             clear c10
             by_cases c11 : 0 ≤ x6_2
             ·rw [if_pos c11] at H
              have c11b0 : decide (0 ≤ x6_2) = true := decide_eq_true c11
              clear c11
              by_cases c12 : x5_1 < (l1.length : Int)
              ·rw [if_pos c12] at H
               have c12b0 : decide (x5_1 < (l1.length : Int)) = true := decide_eq_true c12
               clear c12
               by_cases c13 : x6_2 < ((rd_L14 l1 x5_1).length : Int)
               ·rw [if_pos c13] at H
                have c13b0 : decide (x6_2 < ((rd_L14 l1 x5_1).length : Int)) = true := decide_eq_true c13
                clear c13
                by_cases c14 : (!(((rd_T52 (rd_L14 l0 x5_1) x6_2).f0) == ((rd_T52 (rd_L14 l1 x5_1) x6_2).f0)) || (!(((rd_T52 (rd_L14 l0 x5_1) x6_2).f1) == ((rd_T52 (rd_L14 l1 x5_1) x6_2).f1)) || (!(((rd_T52 (rd_L14 l0 x5_1) x6_2).f2) == ((rd_T52 (rd_L14 l1 x5_1) x6_2).f2))))) = true
                ·rw [if_pos c14] at H
                 have c14b0 : (!(((rd_T52 (rd_L14 l0 x5_1) x6_2).f0) == ((rd_T52 (rd_L14 l1 x5_1) x6_2).f0)) || (!(((rd_T52 (rd_L14 l0 x5_1) x6_2).f1) == ((rd_T52 (rd_L14 l1 x5_1) x6_2).f1)) || (!(((rd_T52 (rd_L14 l0 x5_1) x6_2).f2) == ((rd_T52 (rd_L14 l1 x5_1) x6_2).f2))))) = true := c14
                 clear c14
                 obtain rfl := Option.some.inj H
                 have p365 : 0 ≤ (x5_1 : Int) := of_decide_eq_true (by first | (with_reducible assumption) | assumption)
                 have q365 : x5_1 < (l0.length : Int) := of_decide_eq_true (by first | (with_reducible assumption) | assumption)
                 obtain ⟨ad365, A365_0, c365_0, e365, hx365_0, hl365_0, hi365_0⟩ := at_L14 HR0.out x5_1 p365 q365
                 obtain rfl : ad363 = ad365 := (by injection e365)
                 have HR365_0 := Aside0.mk hi365_0
                 have HC365_0 := Aside0.mk hl365_0
                 clear hi365_0 hl365_0
                 replace p365 := eq_true p365
                 replace q365 := eq_true q365
                 have p366 : 0 ≤ (x5_1 : Int) := of_decide_eq_true (by first | (with_reducible assumption) | assumption)
                 have q366 : x5_1 < (l0.length : Int) := of_decide_eq_true (by first | (with_reducible assumption) | assumption)
                 obtain ⟨ad366, A366_0, c366_0, e366, hx366_0, hl366_0, hi366_0⟩ := at_L14 HR0.out x5_1 p366 q366
                 obtain rfl : ad363 = ad366 := (by injection e366)
                 have HR366_0 := Aside0.mk hi366_0
                 have HC366_0 := Aside0.mk hl366_0
                 clear hi366_0 hl366_0
                 replace p366 := eq_true p366
                 replace q366 := eq_true q366
                 have ea_ := Option.some.inj (hx365_0.symm.trans hx366_0)
                 injection ea_ with ea_ en_ ec_
                 subst ea_
                 subst ec_
                 clear en_
                 have p367 : 0 ≤ (x6_2 : Int) := of_decide_eq_true (by first | (with_reducible assumption) | assumption)
                 have q367 : x6_2 < ((rd_L14 l0 x5_1).length : Int) := of_decide_eq_true (by first | (with_reducible assumption) | assumption)
                 obtain ⟨ad367, e367, hx367_0, hx367_1, hx367_2⟩ := at_T52 HR366_0.out x6_2 p367 q367
                 cases e367
                 replace p367 := eq_true p367
                 replace q367 := eq_true q367
                 have p368 : 0 ≤ (x5_1 : Int) := of_decide_eq_true (by first | (with_reducible assumption) | assumption)
                 have q368 : x5_1 < (l1.length : Int) := of_decide_eq_true (by first | (with_reducible assumption) | assumption)
                 obtain ⟨ad368, A368_0, c368_0, e368, hx368_0, hl368_0, hi368_0⟩ := at_L14 HR1.out x5_1 p368 q368
                 obtain rfl : ad364 = ad368 := (by injection e368)
                 have HR368_0 := Aside0.mk hi368_0
                 have HC368_0 := Aside0.mk hl368_0
                 clear hi368_0 hl368_0
                 replace p368 := eq_true p368
                 replace q368 := eq_true q368
                 have p369 : 0 ≤ (x6_2 : Int) := of_decide_eq_true (by first | (with_reducible assumption) | assumption)
                 have q369 : x6_2 < ((rd_L14 l1 x5_1).length : Int) := of_decide_eq_true (by first | (with_reducible assumption) | assumption)
                 obtain ⟨ad369, e369, hx369_0, hx369_1, hx369_2⟩ := at_T52 HR368_0.out x6_2 p369 q369
                 cases e369
                 replace p369 := eq_true p369
                 replace q369 := eq_true q369
                 go_wp2
                 repeat (go_quiet (fail); try go_wp2)
                 go_ret
                 exact ⟨by first | rfl | (simp; done) | (simp [*]; done), by repeat (first | exact Drawn0.refl _ | apply Drawn0.step)⟩
                ·rw [if_neg c14] at H
                 have c14b0 : (!(((rd_T52 (rd_L14 l0 x5_1) x6_2).f0) == ((rd_T52 (rd_L14 l1 x5_1) x6_2).f0)) || (!(((rd_T52 (rd_L14 l0 x5_1) x6_2).f1) == ((rd_T52 (rd_L14 l1 x5_1) x6_2).f1)) || (!(((rd_T52 (rd_L14 l0 x5_1) x6_2).f2) == ((rd_T52 (rd_L14 l1 x5_1) x6_2).f2))))) = false := by simpa using c14
                 clear c14
                 have H' := Aside0.mk H
                 clear H
                 have p365 : 0 ≤ (x5_1 : Int) := of_decide_eq_true (by first | (with_reducible assumption) | assumption)
                 have q365 : x5_1 < (l0.length : Int) := of_decide_eq_true (by first | (with_reducible assumption) | assumption)
                 obtain ⟨ad365, A365_0, c365_0, e365, hx365_0, hl365_0, hi365_0⟩ := at_L14 HR0.out x5_1 p365 q365
                 obtain rfl : ad363 = ad365 := (by injection e365)
                 have HR365_0 := Aside0.mk hi365_0
                 have HC365_0 := Aside0.mk hl365_0
                 clear hi365_0 hl365_0
                 replace p365 := eq_true p365
                 replace q365 := eq_true q365
                 have p366 : 0 ≤ (x5_1 : Int) := of_decide_eq_true (by first | (with_reducible assumption) | assumption)
                 have q366 : x5_1 < (l0.length : Int) := of_decide_eq_true (by first | (with_reducible assumption) | assumption)
                 obtain ⟨ad366, A366_0, c366_0, e366, hx366_0, hl366_0, hi366_0⟩ := at_L14 HR0.out x5_1 p366 q366
                 obtain rfl : ad363 = ad366 := (by injection e366)
                 have HR366_0 := Aside0.mk hi366_0
                 have HC366_0 := Aside0.mk hl366_0
                 clear hi366_0 hl366_0
                 replace p366 := eq_true p366
                 replace q366 := eq_true q366
                 have ea_ := Option.some.inj (hx365_0.symm.trans hx366_0)
                 injection ea_ with ea_ en_ ec_
                 subst ea_
                 subst ec_
                 clear en_
                 have p367 : 0 ≤ (x6_2 : Int) := of_decide_eq_true (by first | (with_reducible assumption) | assumption)
                 have q367 : x6_2 < ((rd_L14 l0 x5_1).length : Int) := of_decide_eq_true (by first | (with_reducible assumption) | assumption)
                 obtain ⟨ad367, e367, hx367_0, hx367_1, hx367_2⟩ := at_T52 HR366_0.out x6_2 p367 q367
                 cases e367
                 replace p367 := eq_true p367
                 replace q367 := eq_true q367
                 have p368 : 0 ≤ (x5_1 : Int) := of_decide_eq_true (by first | (with_reducible assumption) | assumption)
                 have q368 : x5_1 < (l1.length : Int) := of_decide_eq_true (by first | (with_reducible assumption) | assumption)
                 obtain ⟨ad368, A368_0, c368_0, e368, hx368_0, hl368_0, hi368_0⟩ := at_L14 HR1.out x5_1 p368 q368
                 obtain rfl : ad364 = ad368 := (by injection e368)
                 have HR368_0 := Aside0.mk hi368_0
                 have HC368_0 := Aside0.mk hl368_0
                 clear hi368_0 hl368_0
                 replace p368 := eq_true p368
                 replace q368 := eq_true q368
                 have p369 : 0 ≤ (x6_2 : Int) := of_decide_eq_true (by first | (with_reducible assumption) | assumption)
                 have q369 : x6_2 < ((rd_L14 l1 x5_1).length : Int) := of_decide_eq_true (by first | (with_reducible assumption) | assumption)
                 obtain ⟨ad369, e369, hx369_0, hx369_1, hx369_2⟩ := at_T52 HR368_0.out x6_2 p369 q369
                 cases e369
                 replace p369 := eq_true p369
                 replace q369 := eq_true q369
                 go_wp2
                 repeat (go_quiet (fail); try go_wp2)
                 go_roundg k2
                 case measure => have := HK1.out; have := HK2.out; omega
                 case rel => exact ⟨(wrap64 (x6_2 + 1)), (by first | rfl | (simp; done) | (simp [*]; done)), H', ⟨by have := HK1.out; have := HK2.out; omega⟩, by repeat (first | exact Drawn0.refl _ | apply Drawn0.step)⟩
               ·rw [if_neg c13] at H
                exact absurd H (by simp)
              ·rw [if_neg c12] at H
               exact absurd H (by simp)
             ·rw [if_neg c11] at H
              exact absurd H (by simp)
            ·rw [if_neg c10] at H
             have c10b0 : decide (x6_2 < ((rd_L14 l0 x5_1).length : Int)) = false := decide_eq_false c10
             clear c10
             have H' := Aside0.mk H
             clear H
             have p365 : 0 ≤ (x5_1 : Int) := of_decide_eq_true (by first | (with_reducible assumption) | assumption)
             have q365 : x5_1 < (l0.length : Int) := of_decide_eq_true (by first | (with_reducible assumption) | assumption)
             obtain ⟨ad365, A365_0, c365_0, e365, hx365_0, hl365_0, hi365_0⟩ := at_L14 HR0.out x5_1 p365 q365
             obtain rfl : ad363 = ad365 := (by injection e365)
             have HR365_0 := Aside0.mk hi365_0
             have HC365_0 := Aside0.mk hl365_0
             clear hi365_0 hl365_0
             replace p365 := eq_true p365
             replace q365 := eq_true q365
             go_wp2
             repeat (go_quiet (fail); try go_wp2)
             go_roundg k2
             case measure => have := HK1.out; have := HK2.out; omega
             case rel => exact ⟨(wrap64 (x5_1 + 1)), (by first | rfl | (simp; done) | (simp [*]; done)), H', ⟨by have := HK1.out; have := HK2.out; omega⟩, by repeat (first | exact Drawn0.refl _ | apply Drawn0.step)⟩
           ·rw [if_neg c9] at H
            exact absurd H (by simp)
          ·rw [if_neg c8] at H
           exact absurd H (by simp)
       ·rw [if_neg c7] at H
        have c7b0 : (((rd_L14 l0 x5_1).length : Int) == ((rd_L14 l1 x5_1).length : Int)) = false := beq_eq_false_iff_ne.mpr c7
        have c7b1 : (((rd_L14 l0 x5_1).length : Int) != ((rd_L14 l1 x5_1).length : Int)) = true := bne_iff_ne.mpr c7
        have c7b2 : ((rd_L14 l0 x5_1).length == (rd_L14 l1 x5_1).length) = false := by first | simpa using c7 | (simp at c7 ⊢; omega)
        obtain rfl := Option.some.inj H
        have p363 : 0 ≤ (x5_1 : Int) := of_decide_eq_true (by first | (with_reducible assumption) | assumption)
        have q363 : x5_1 < (l0.length : Int) := of_decide_eq_true (by first | (with_reducible assumption) | assumption)
        obtain ⟨ad363, A363_0, c363_0, e363, hx363_0, hl363_0, hi363_0⟩ := at_L14 HR0.out x5_1 p363 q363
        cases e363
        have HR363_0 := Aside0.mk hi363_0
        have HC363_0 := Aside0.mk hl363_0
        clear hi363_0 hl363_0
        replace p363 := eq_true p363
        replace q363 := eq_true q363
        have p364 : 0 ≤ (x5_1 : Int) := of_decide_eq_true (by first | (with_reducible assumption) | assumption)
        have q364 : x5_1 < (l1.length : Int) := of_decide_eq_true (by first | (with_reducible assumption) | assumption)
        obtain ⟨ad364, A364_0, c364_0, e364, hx364_0, hl364_0, hi364_0⟩ := at_L14 HR1.out x5_1 p364 q364
        cases e364
        have HR364_0 := Aside0.mk hi364_0
        have HC364_0 := Aside0.mk hl364_0
        clear hi364_0 hl364_0
        replace p364 := eq_true p364
        replace q364 := eq_true q364
        go_wp2
        repeat (go_quiet (fail); try go_wp2)
        go_ret
        exact ⟨by first | rfl | (simp; done) | (simp [*]; done), by repeat (first | exact Drawn0.refl _ | apply Drawn0.step)⟩
      ·rw [if_neg c6] at H
       exact absurd H (by simp)
     ·rw [if_neg c5] at H
      exact absurd H (by simp)
    ·rw [if_neg c4] at H
     have c4b0 : decide (x5_1 < (l0.length : Int)) = false := decide_eq_false c4
     clear c4
     obtain rfl := Option.some.inj H
     go_wp2
     repeat (go_quiet (fail); try go_wp2)
     go_ret
     exact ⟨by first | rfl | (simp; done) | (simp [*]; done), by repeat (first | exact Drawn0.refl _ | apply Drawn0.step)⟩
 ·rw [if_neg c3] at H
  have c3b0 : ((l0.length : Int) == (l1.length : Int)) = false := beq_eq_false_iff_ne.mpr c3
  have c3b1 : ((l0.length : Int) != (l1.length : Int)) = true := bne_iff_ne.mpr c3
  have c3b2 : (l0.length == l1.length) = false := by first | simpa using c3 | (simp at c3 ⊢; omega)
  obtain rfl := Option.some.inj H
  go_enter Tryd.func21, Tryd.ntmps21
  go_wp2
  repeat (go_quiet (fail); try go_wp2)
  go_ret
  exact ⟨by first | rfl | (simp; done) | (simp [*]; done), by repeat (first | exact Drawn0.refl _ | apply Drawn0.step)⟩
-- NOT PRINTED: function 6 (scholiastlaw13_ImportsAlone)
end Go.Proofs.YtcejdokeaoklaaaDoor.PImp
