-- Written by a program of this session (wip/tools/printseat.sh).
import Derived.Test.YtcejdokeaoklaaaDoorPImpx0
import Derived.Test.YtcejdokeaoklaaaDoorPImpx6
import Derived.Test.YtcejdokeaoklaaaDoorPImpx8
import Derived.Test.YtcejdokeaoklaaaDoorMore
namespace Go.Proofs.YtcejdokeaoklaaaDoor.PImp
open Go.RowKit Go.Proofs.YtcejdokeaoklaaaDoorW.PrintWords Go.Proofs.YtcejdokeaoklaaaDoorW.PrintLast Go.Proofs.YtcejdokeaoklaaaDoorW.PrintMore
attribute [local go_sem] max2_int min2_int max_two min_two max_three min_three max_four min_four   -- for this text's walks alone
set_option linter.unusedVariables false
set_option linter.unusedSimpArgs false
/-! ### rf_right: function 32 -/
mutual
def rf_right.l0 : Nat → List ByteArray → Int → Option (Int)
 | 0, _, _ => none
 | k + 1, x0, x5 => if x5 < (x0.length : Int) then (if 0 ≤ x5 then ((scholiastref13_Split.f k (rdOf ByteArray.empty x0 x5)).bind fun bt195 => (if bt195.2.2 = 0 then (rf_right.l0 k x0 (wrap64 (x5 + 1))) else (some bt195.2.2))) else (none)) else (rf_right.l1 k x0 1)
def rf_right.l1 : Nat → List ByteArray → Int → Option (Int)
 | 0, _, _ => none
 | k + 1, x0, x9 => if x9 < (x0.length : Int) then (if 0 ≤ x9 then (if 0 ≤ (wrap64 (x9 - 1)) then (if (wrap64 (x9 - 1)) < (x0.length : Int) then (if ((Op.bytesLess ((rdOf ByteArray.empty x0 (wrap64 (x9 - 1))).toList) ((rdOf ByteArray.empty x0 x9).toList)) = true) then (rf_right.l1 k x0 (wrap64 (x9 + 1))) else (some 1)) else (none)) else (none)) else (none)) else (some 0)
end
def rf_right.f (k : Nat) (l0 : List ByteArray) (l1 : List (S46)) : Option (Int) := if (l0.length : Int) = (l1.length : Int) then (rf_right.l0 k l0 0) else (some 1)
theorem rf_right.mono_l : ∀ k, (∀ y0 y1, LeO (rf_right.l0 k y0 y1) (rf_right.l0 (k + 1) y0 y1)) ∧ (∀ y0 y1, LeO (rf_right.l1 k y0 y1) (rf_right.l1 (k + 1) y0 y1))
 | 0 => ⟨fun _ _ r h => by simp [rf_right.l0] at h, fun _ _ r h => by simp [rf_right.l1] at h⟩
 | k + 1 => by
  obtain ⟨ih0, ih1⟩ := rf_right.mono_l k
  refine ⟨?_, ?_⟩
  ·intro y0 y1
   unfold rf_right.l0
   repeat' first
   | (with_reducible exact ih0 _ _)
   | (with_reducible exact ih1 _ _)
   | (with_reducible exact scholiastref13_Split.mono _ _)
   | (with_reducible exact LeO.refl _)
   | (with_reducible exact LeO.none _)
   | (with_reducible refine LeO.ite ?_ ?_)
   | (with_reducible refine LeO.bind ?_ (fun _ => ?_))
   | exact ih0 _ _
   | exact ih1 _ _
   | exact scholiastref13_Split.mono _ _
   | exact LeO.none _
   | refine LeO.ite ?_ ?_
   | refine LeO.bind ?_ (fun _ => ?_)
  ·intro y0 y1
   unfold rf_right.l1
   repeat' first
   | (with_reducible exact ih0 _ _)
   | (with_reducible exact ih1 _ _)
   | (with_reducible exact scholiastref13_Split.mono _ _)
   | (with_reducible exact LeO.refl _)
   | (with_reducible exact LeO.none _)
   | (with_reducible refine LeO.ite ?_ ?_)
   | (with_reducible refine LeO.bind ?_ (fun _ => ?_))
   | exact ih0 _ _
   | exact ih1 _ _
   | exact scholiastref13_Split.mono _ _
   | exact LeO.none _
   | refine LeO.ite ?_ ?_
   | refine LeO.bind ?_ (fun _ => ?_)
theorem rf_right.mono : ∀ a0 a1 k, LeO (rf_right.f k a0 a1) (rf_right.f (k + 1) a0 a1) := by
 intro a0 a1 k
 obtain ⟨ih0, ih1⟩ := rf_right.mono_l k
 unfold rf_right.f
 repeat' first
   | (with_reducible exact ih0 _ _)
   | (with_reducible exact ih1 _ _)
   | (with_reducible exact scholiastref13_Split.mono _ _)
   | (with_reducible exact LeO.refl _)
   | (with_reducible exact LeO.none _)
   | (with_reducible refine LeO.ite ?_ ?_)
   | (with_reducible refine LeO.bind ?_ (fun _ => ?_))
   | exact ih0 _ _
   | exact ih1 _ _
   | exact scholiastref13_Split.mono _ _
   | exact LeO.none _
   | refine LeO.ite ?_ ?_
   | refine LeO.bind ?_ (fun _ => ?_)
set_option maxHeartbeats 8000000 in
set_option maxRecDepth 100000 in
theorem rf_right.calls (k : Nat) (A0 : Option Addr) (c0 : Nat) (l0 : List ByteArray) (A1 : Option Addr) (c1 : Nat) (l1 : List (S46)) (r : Int) (w : World) (hr0 : Kd.C Kd.string w A0 l0.length l0) (hc0 : l0.length ≤ c0) (hr1 : Kd.C k46 w A1 l1.length l1) (hc1 : l1.length ≤ c1) (h : rf_right.f k l0 l1 = some r) :
  Calls Tryd.prog 32 #[.slice A0 l0.length c0, .slice A1 l1.length c1] w fun e w' => e = .returned (.int .i64 r) ∧ Drawn0 w w' := by
 have HR0 := Aside0.mk hr0
 have HC0 := Aside0.mk hc0
 clear hr0 hc0
 have HR1 := Aside0.mk hr1
 have HC1 := Aside0.mk hc1
 clear hr1 hc1
 have H : (if (l0.length : Int) = (l1.length : Int) then (rf_right.l0 k l0 0) else (some 1)) = some r := h
 clear h
 by_cases c3 : (l0.length : Int) = (l1.length : Int)
 ·rw [if_pos c3] at H
  have c3b0 : ((l0.length : Int) == (l1.length : Int)) = true := beq_iff_eq.mpr c3
  have c3b1 : ((l0.length : Int) != (l1.length : Int)) = false := bne_eq_false_iff_eq.mpr c3
  have c3b2 : (l0.length == l1.length) = true := by first | simpa using c3 | (simp at c3 ⊢; omega)
  clear c3
  have H' := Aside0.mk H
  clear H
  go_enter Tryd.func32, Tryd.ntmps32
  go_wp2
  repeat (go_quiet (fail); try go_wp2)
  go_loopg [5] k (fun kq v5 w' => ∃ (x5_1 : Int), v5 = .int .i64 x5_1 ∧ Aside0 (rf_right.l0 kq l0 x5_1 = some r) ∧ Aside0 (kq ≤ k) ∧ Drawn0 w w')
  case atStart => exact ⟨(0), (by first | rfl | (simp; done) | (simp [*]; done)), H', ⟨Nat.le_refl _⟩, by repeat (first | exact Drawn0.refl _ | apply Drawn0.step)⟩
  case round =>
   clear H'
   try clear c1
   try clear p2
   try clear c3
   try clear c3b0
   try clear c3b1
   try clear c3b2
   obtain ⟨x5_1, rfl, HA, HK1, ⟨m1, rfl⟩⟩ := hrel
   cases gk with
   | zero => exact absurd HA.out (by simp [rf_right.l0])
   | succ k1 =>
    have H := HA.out
    clear HA
    simp only [rf_right.l0] at H
    by_cases c4 : x5_1 < (l0.length : Int)
    ·rw [if_pos c4] at H
     have c4b0 : decide (x5_1 < (l0.length : Int)) = true := decide_eq_true c4
     clear c4
     by_cases c5 : 0 ≤ x5_1
     ·rw [if_pos c5] at H
      have c5b0 : decide (0 ≤ x5_1) = true := decide_eq_true c5
      clear c5
      replace H := Option.bind_eq_some_iff.mp H
      obtain ⟨⟨t195, t196, t197⟩, A60, H⟩ := H
      replace H : (if t197 = 0 then (rf_right.l0 k1 l0 (wrap64 (x5_1 + 1))) else (some t197)) = some r := H
      have A6 := Aside0.mk A60
      clear A60
      by_cases c7 : t197 = 0
      ·rw [if_pos c7] at H
       have c7b0 : (t197 == 0) = true := beq_iff_eq.mpr c7
       have c7b1 : (t197 != 0) = false := bne_eq_false_iff_eq.mpr c7
       clear c7
       have H' := Aside0.mk H
       clear H
       have p194 : 0 ≤ (x5_1 : Int) := of_decide_eq_true (by first | (with_reducible assumption) | assumption)
       have q194 : x5_1 < (l0.length : Int) := of_decide_eq_true (by first | (with_reducible assumption) | assumption)
       obtain ⟨ad194, e194, hx194_0⟩ := Kd.at_string HR0.out x5_1 p194 q194
       cases e194
       replace p194 := eq_true p194
       replace q194 := eq_true q194
       go_wp2_with (first | (go_at_call 9; (with_reducible refine (scholiastref13_Split.calls k1 (rdOf ByteArray.empty l0 x5_1) t195 t196 t197 _ A6.out).mono ?_); rintro e w' ⟨rfl, ⟨nd, rfl⟩⟩; (try first | exact ⟨rfl, _, World.drewN_drewN _ _ _⟩ | exact ⟨rfl, _, Eq.trans (World.drewN_drewN _ _ _) (congrArg (World.drewN _) (Nat.add_assoc _ _ _))⟩)))
       repeat (go_quiet (first | (go_at_call 9; (with_reducible refine (scholiastref13_Split.calls k1 (rdOf ByteArray.empty l0 x5_1) t195 t196 t197 _ A6.out).mono ?_); rintro e w' ⟨rfl, ⟨nd, rfl⟩⟩; (try first | exact ⟨rfl, _, World.drewN_drewN _ _ _⟩ | exact ⟨rfl, _, Eq.trans (World.drewN_drewN _ _ _) (congrArg (World.drewN _) (Nat.add_assoc _ _ _))⟩))); try go_wp2_with (first | (go_at_call 9; (with_reducible refine (scholiastref13_Split.calls k1 (rdOf ByteArray.empty l0 x5_1) t195 t196 t197 _ A6.out).mono ?_); rintro e w' ⟨rfl, ⟨nd, rfl⟩⟩; (try first | exact ⟨rfl, _, World.drewN_drewN _ _ _⟩ | exact ⟨rfl, _, Eq.trans (World.drewN_drewN _ _ _) (congrArg (World.drewN _) (Nat.add_assoc _ _ _))⟩))))
       go_roundg k1
       case measure => have := HK1.out; omega
       case rel => exact ⟨(wrap64 (x5_1 + 1)), (by first | rfl | (simp; done) | (simp [*]; done)), H', ⟨by have := HK1.out; omega⟩, by repeat (first | exact Drawn0.refl _ | apply Drawn0.step)⟩
      ·rw [if_neg c7] at H
       have c7b0 : (t197 == 0) = false := beq_eq_false_iff_ne.mpr c7
       have c7b1 : (t197 != 0) = true := bne_iff_ne.mpr c7
       obtain rfl := Option.some.inj H
       have p194 : 0 ≤ (x5_1 : Int) := of_decide_eq_true (by first | (with_reducible assumption) | assumption)
       have q194 : x5_1 < (l0.length : Int) := of_decide_eq_true (by first | (with_reducible assumption) | assumption)
       obtain ⟨ad194, e194, hx194_0⟩ := Kd.at_string HR0.out x5_1 p194 q194
       cases e194
       replace p194 := eq_true p194
       replace q194 := eq_true q194
       go_wp2_with (first | (go_at_call 9; (with_reducible refine (scholiastref13_Split.calls k1 (rdOf ByteArray.empty l0 x5_1) t195 t196 t197 _ A6.out).mono ?_); rintro e w' ⟨rfl, ⟨nd, rfl⟩⟩; (try first | exact ⟨rfl, _, World.drewN_drewN _ _ _⟩ | exact ⟨rfl, _, Eq.trans (World.drewN_drewN _ _ _) (congrArg (World.drewN _) (Nat.add_assoc _ _ _))⟩)))
       repeat (go_quiet (first | (go_at_call 9; (with_reducible refine (scholiastref13_Split.calls k1 (rdOf ByteArray.empty l0 x5_1) t195 t196 t197 _ A6.out).mono ?_); rintro e w' ⟨rfl, ⟨nd, rfl⟩⟩; (try first | exact ⟨rfl, _, World.drewN_drewN _ _ _⟩ | exact ⟨rfl, _, Eq.trans (World.drewN_drewN _ _ _) (congrArg (World.drewN _) (Nat.add_assoc _ _ _))⟩))); try go_wp2_with (first | (go_at_call 9; (with_reducible refine (scholiastref13_Split.calls k1 (rdOf ByteArray.empty l0 x5_1) t195 t196 t197 _ A6.out).mono ?_); rintro e w' ⟨rfl, ⟨nd, rfl⟩⟩; (try first | exact ⟨rfl, _, World.drewN_drewN _ _ _⟩ | exact ⟨rfl, _, Eq.trans (World.drewN_drewN _ _ _) (congrArg (World.drewN _) (Nat.add_assoc _ _ _))⟩))))
       go_ret
       exact ⟨by first | rfl | (simp; done) | (simp [*]; done), by repeat (first | exact Drawn0.refl _ | apply Drawn0.step)⟩
     ·rw [if_neg c5] at H
      exact absurd H (by simp)
    ·rw [if_neg c4] at H
     have c4b0 : decide (x5_1 < (l0.length : Int)) = false := decide_eq_false c4
     clear c4
     have H' := Aside0.mk H
     clear H
     go_wp2
     repeat (go_quiet (fail); try go_wp2)
     go_loopg [9] k1 (fun kq v9 w' => ∃ (x9_2 : Int), v9 = .int .i64 x9_2 ∧ Aside0 (rf_right.l1 kq l0 x9_2 = some r) ∧ Aside0 (kq ≤ k1) ∧ Drawn0 w w')
     case atStart => exact ⟨(1), (by first | rfl | (simp; done) | (simp [*]; done)), H', ⟨Nat.le_refl _⟩, by repeat (first | exact Drawn0.refl _ | apply Drawn0.step)⟩
     case round =>
      clear H'
      try clear c1
      try clear p1
      try clear q1
      try clear hx1
      try clear p2
      try clear c3
      try clear c3b0
      try clear c3b1
      try clear c3b2
      try clear c4
      try clear c4b0
      try clear c5
      try clear c5b0
      try clear p6
      try clear c7
      try clear c7b0
      try clear c7b1
      try clear hx194_0
      try clear p194
      try clear p2
      try clear q194
      obtain ⟨x9_2, rfl, HA, HK2, ⟨m2, rfl⟩⟩ := hrel
      cases gk with
      | zero => exact absurd HA.out (by simp [rf_right.l1])
      | succ k2 =>
       have H := HA.out
       clear HA
       simp only [rf_right.l1] at H
       by_cases c8 : x9_2 < (l0.length : Int)
       ·rw [if_pos c8] at H
        have c8b0 : decide (x9_2 < (l0.length : Int)) = true := decide_eq_true c8
        clear c8
        by_cases c9 : 0 ≤ x9_2
        ·rw [if_pos c9] at H
         have c9b0 : decide (0 ≤ x9_2) = true := decide_eq_true c9
         clear c9
         obtain ⟨ji10, hji10⟩ : ∃ j_ : Int, (wrap64 (x9_2 - 1)) = j_ := ⟨_, rfl⟩
         replace H : (if 0 ≤ (ji10) then (if (ji10) < (l0.length : Int) then (if ((Op.bytesLess ((rdOf ByteArray.empty l0 (ji10)).toList) ((rdOf ByteArray.empty l0 x9_2).toList)) = true) then (rf_right.l1 k2 l0 (wrap64 (x9_2 + 1))) else (some 1)) else (none)) else (none)) = some r := by first | (rw [hji10] at H; exact H) | (simp only [hji10] at H ⊢; exact H)
         have hji10w : (IntKind.i64.wrap (x9_2 - 1)) = ji10 := (i64_w _).trans hji10
         by_cases c11 : 0 ≤ (ji10)
         ·rw [if_pos c11] at H
          have c11b0 : decide (0 ≤ (ji10)) = true := decide_eq_true c11
          clear c11
          by_cases c12 : (ji10) < (l0.length : Int)
          ·rw [if_pos c12] at H
           have c12b0 : decide ((ji10) < (l0.length : Int)) = true := decide_eq_true c12
           clear c12
           by_cases c13 : ((Op.bytesLess ((rdOf ByteArray.empty l0 (ji10)).toList) ((rdOf ByteArray.empty l0 x9_2).toList)) = true)
           ·rw [if_pos c13] at H
            have c13b0 : (Op.bytesLess ((rdOf ByteArray.empty l0 (ji10)).toList) ((rdOf ByteArray.empty l0 x9_2).toList)) = true := c13
            clear c13
            have H' := Aside0.mk H
            clear H
            have p198 : 0 ≤ (x9_2 : Int) := of_decide_eq_true (by first | (with_reducible assumption) | assumption)
            have q198 : x9_2 < (l0.length : Int) := of_decide_eq_true (by first | (with_reducible assumption) | assumption)
            obtain ⟨ad198, e198, hx198_0⟩ := Kd.at_string HR0.out x9_2 p198 q198
            cases e198
            replace p198 := eq_true p198
            replace q198 := eq_true q198
            have p199 : 0 ≤ ((ji10) : Int) := of_decide_eq_true (by first | (with_reducible assumption) | assumption)
            have q199 : (ji10) < (l0.length : Int) := of_decide_eq_true (by first | (with_reducible assumption) | assumption)
            obtain ⟨ad199, e199, hx199_0⟩ := Kd.at_string HR0.out (ji10) p199 q199
            obtain rfl : ad198 = ad199 := (by injection e199)
            replace p199 := eq_true p199
            replace q199 := eq_true q199
            go_wp2
            repeat (go_quiet (fail); try go_wp2)
            go_roundg k2
            case measure => have := HK1.out; have := HK2.out; omega
            case rel => exact ⟨(wrap64 (x9_2 + 1)), (by first | rfl | (simp; done) | (simp [*]; done)), H', ⟨by have := HK1.out; have := HK2.out; omega⟩, by repeat (first | exact Drawn0.refl _ | apply Drawn0.step)⟩
           ·rw [if_neg c13] at H
            have c13b0 : (Op.bytesLess ((rdOf ByteArray.empty l0 (ji10)).toList) ((rdOf ByteArray.empty l0 x9_2).toList)) = false := by simpa using c13
            clear c13
            obtain rfl := Option.some.inj H
            have p198 : 0 ≤ (x9_2 : Int) := of_decide_eq_true (by first | (with_reducible assumption) | assumption)
            have q198 : x9_2 < (l0.length : Int) := of_decide_eq_true (by first | (with_reducible assumption) | assumption)
            obtain ⟨ad198, e198, hx198_0⟩ := Kd.at_string HR0.out x9_2 p198 q198
            cases e198
            replace p198 := eq_true p198
            replace q198 := eq_true q198
            have p199 : 0 ≤ ((ji10) : Int) := of_decide_eq_true (by first | (with_reducible assumption) | assumption)
            have q199 : (ji10) < (l0.length : Int) := of_decide_eq_true (by first | (with_reducible assumption) | assumption)
            obtain ⟨ad199, e199, hx199_0⟩ := Kd.at_string HR0.out (ji10) p199 q199
            obtain rfl : ad198 = ad199 := (by injection e199)
            replace p199 := eq_true p199
            replace q199 := eq_true q199
            go_wp2
            repeat (go_quiet (fail); try go_wp2)
            go_ret
            exact ⟨by first | rfl | (simp; done) | (simp only [← hji10] <;> (first | rfl | simp)) | (simp [*]; done), by repeat (first | exact Drawn0.refl _ | apply Drawn0.step)⟩
          ·rw [if_neg c12] at H
           exact absurd H (by simp)
         ·rw [if_neg c11] at H
          exact absurd H (by simp)
        ·rw [if_neg c9] at H
         exact absurd H (by simp)
       ·rw [if_neg c8] at H
        have c8b0 : decide (x9_2 < (l0.length : Int)) = false := decide_eq_false c8
        clear c8
        obtain rfl := Option.some.inj H
        go_wp2
        repeat (go_quiet (fail); try go_wp2)
        go_ret
        exact ⟨by first | rfl | (simp; done) | (simp [*]; done), by repeat (first | exact Drawn0.refl _ | apply Drawn0.step)⟩
 ·rw [if_neg c3] at H
  have c3b0 : ((l0.length : Int) == (l1.length : Int)) = false := beq_eq_false_iff_ne.mpr c3
  have c3b1 : ((l0.length : Int) != (l1.length : Int)) = true := bne_iff_ne.mpr c3
  have c3b2 : (l0.length == l1.length) = false := by first | simpa using c3 | (simp at c3 ⊢; omega)
  obtain rfl := Option.some.inj H
  go_enter Tryd.func32, Tryd.ntmps32
  go_wp2
  repeat (go_quiet (fail); try go_wp2)
  go_ret
  exact ⟨by first | rfl | (simp; done) | (simp [*]; done), by repeat (first | exact Drawn0.refl _ | apply Drawn0.step)⟩
/-! ### rf_imports: function 34 -/
mutual
def rf_imports.l0 : Nat → List ByteArray → List (S46) → ByteArray → List ByteArray → List ByteArray → Int → Option (List ByteArray)
 | 0, _, _, _, _, _, _ => none
 | k + 1, x0, x1, x2, x7, x8, x9 => if x9 < (x0.length : Int) then (if 0 ≤ x9 then ((scholiastref13_Split.f k (rdOf ByteArray.empty x0 x9)).bind fun bt207 => (rf_imports.l1 k x0 x1 x2 x7 x8 x9 bt207.1 0)) else (none)) else (some x8)
def rf_imports.l1 : Nat → List ByteArray → List (S46) → ByteArray → List ByteArray → List ByteArray → Int → ByteArray → Int → Option (List ByteArray)
 | 0, _, _, _, _, _, _, _, _ => none
 | k + 1, x0, x1, x2, x7, x8, x9, x10, x13 => if 0 ≤ x9 then (if x9 < (x1.length : Int) then (if x13 < (((rd_T46 x1 x9).f1).length : Int) then (rf_imports.j2 k x0 x1 x2 x7 x8 x9 x10 x13 (x10.toList == x2.toList)) else (rf_imports.j2 k x0 x1 x2 x7 x8 x9 x10 x13 false)) else (none)) else (none)
def rf_imports.j2 : Nat → List ByteArray → List (S46) → ByteArray → List ByteArray → List ByteArray → Int → ByteArray → Int → Bool → Option (List ByteArray)
 | 0, _, _, _, _, _, _, _, _, _ => none
 | k + 1, x0, x1, x2, x7, x8, x9, x10, x13, x44 => if x44 = true then (if 0 ≤ x9 then (if x9 < (x1.length : Int) then (if 0 ≤ x13 then (if x13 < (((rd_T46 x1 x9).f1).length : Int) then ((scholiastref13_has.f k x7 ((rd_T48 ((rd_T46 x1 x9).f1) x13).f1)).bind fun t213 => (if t213 = true then ((scholiastref13_put.f k x8 ((rd_T48 ((rd_T46 x1 x9).f1) x13).f1)).bind fun t216 => (rf_imports.l1 k x0 x1 x2 x7 t216 x9 x10 (wrap64 (x13 + 1)))) else (rf_imports.l1 k x0 x1 x2 x7 x8 x9 x10 (wrap64 (x13 + 1))))) else (none)) else (none)) else (none)) else (none)) else (rf_imports.l0 k x0 x1 x2 x7 x8 (wrap64 (x9 + 1)))
end
def rf_imports.f (k : Nat) (l0 : List ByteArray) (l1 : List (S46)) (a2 : ByteArray) : Option (List ByteArray) := (scholiastref13_Folders.f k l0).bind fun t200 => (rf_imports.l0 k l0 l1 a2 t200 (([] : List ByteArray)) 0)
theorem rf_imports.mono_l : ∀ k, (∀ y0 y1 y2 y3 y4 y5, LeO (rf_imports.l0 k y0 y1 y2 y3 y4 y5) (rf_imports.l0 (k + 1) y0 y1 y2 y3 y4 y5)) ∧ (∀ y0 y1 y2 y3 y4 y5 y6 y7, LeO (rf_imports.l1 k y0 y1 y2 y3 y4 y5 y6 y7) (rf_imports.l1 (k + 1) y0 y1 y2 y3 y4 y5 y6 y7)) ∧ (∀ y0 y1 y2 y3 y4 y5 y6 y7 y8, LeO (rf_imports.j2 k y0 y1 y2 y3 y4 y5 y6 y7 y8) (rf_imports.j2 (k + 1) y0 y1 y2 y3 y4 y5 y6 y7 y8))
 | 0 => ⟨fun _ _ _ _ _ _ r h => by simp [rf_imports.l0] at h, fun _ _ _ _ _ _ _ _ r h => by simp [rf_imports.l1] at h, fun _ _ _ _ _ _ _ _ _ r h => by simp [rf_imports.j2] at h⟩
 | k + 1 => by
  obtain ⟨ih0, ih1, ih2⟩ := rf_imports.mono_l k
  refine ⟨?_, ?_, ?_⟩
  ·intro y0 y1 y2 y3 y4 y5
   unfold rf_imports.l0
   repeat' first
   | (with_reducible exact ih0 _ _ _ _ _ _)
   | (with_reducible exact ih1 _ _ _ _ _ _ _ _)
   | (with_reducible exact ih2 _ _ _ _ _ _ _ _ _)
   | (with_reducible exact scholiastref13_Folders.mono _ _)
   | (with_reducible exact scholiastref13_Split.mono _ _)
   | (with_reducible exact scholiastref13_has.mono _ _ _)
   | (with_reducible exact scholiastref13_put.mono _ _ _)
   | (with_reducible exact LeO.refl _)
   | (with_reducible exact LeO.none _)
   | (with_reducible refine LeO.ite ?_ ?_)
   | (with_reducible refine LeO.bind ?_ (fun _ => ?_))
   | exact ih0 _ _ _ _ _ _
   | exact ih1 _ _ _ _ _ _ _ _
   | exact ih2 _ _ _ _ _ _ _ _ _
   | exact scholiastref13_Folders.mono _ _
   | exact scholiastref13_Split.mono _ _
   | exact scholiastref13_has.mono _ _ _
   | exact scholiastref13_put.mono _ _ _
   | exact LeO.none _
   | refine LeO.ite ?_ ?_
   | refine LeO.bind ?_ (fun _ => ?_)
  ·intro y0 y1 y2 y3 y4 y5 y6 y7
   unfold rf_imports.l1
   repeat' first
   | (with_reducible exact ih0 _ _ _ _ _ _)
   | (with_reducible exact ih1 _ _ _ _ _ _ _ _)
   | (with_reducible exact ih2 _ _ _ _ _ _ _ _ _)
   | (with_reducible exact scholiastref13_Folders.mono _ _)
   | (with_reducible exact scholiastref13_Split.mono _ _)
   | (with_reducible exact scholiastref13_has.mono _ _ _)
   | (with_reducible exact scholiastref13_put.mono _ _ _)
   | (with_reducible exact LeO.refl _)
   | (with_reducible exact LeO.none _)
   | (with_reducible refine LeO.ite ?_ ?_)
   | (with_reducible refine LeO.bind ?_ (fun _ => ?_))
   | exact ih0 _ _ _ _ _ _
   | exact ih1 _ _ _ _ _ _ _ _
   | exact ih2 _ _ _ _ _ _ _ _ _
   | exact scholiastref13_Folders.mono _ _
   | exact scholiastref13_Split.mono _ _
   | exact scholiastref13_has.mono _ _ _
   | exact scholiastref13_put.mono _ _ _
   | exact LeO.none _
   | refine LeO.ite ?_ ?_
   | refine LeO.bind ?_ (fun _ => ?_)
  ·intro y0 y1 y2 y3 y4 y5 y6 y7 y8
   unfold rf_imports.j2
   repeat' first
   | (with_reducible exact ih0 _ _ _ _ _ _)
   | (with_reducible exact ih1 _ _ _ _ _ _ _ _)
   | (with_reducible exact ih2 _ _ _ _ _ _ _ _ _)
   | (with_reducible exact scholiastref13_Folders.mono _ _)
   | (with_reducible exact scholiastref13_Split.mono _ _)
   | (with_reducible exact scholiastref13_has.mono _ _ _)
   | (with_reducible exact scholiastref13_put.mono _ _ _)
   | (with_reducible exact LeO.refl _)
   | (with_reducible exact LeO.none _)
   | (with_reducible refine LeO.ite ?_ ?_)
   | (with_reducible refine LeO.bind ?_ (fun _ => ?_))
   | exact ih0 _ _ _ _ _ _
   | exact ih1 _ _ _ _ _ _ _ _
   | exact ih2 _ _ _ _ _ _ _ _ _
   | exact scholiastref13_Folders.mono _ _
   | exact scholiastref13_Split.mono _ _
   | exact scholiastref13_has.mono _ _ _
   | exact scholiastref13_put.mono _ _ _
   | exact LeO.none _
   | refine LeO.ite ?_ ?_
   | refine LeO.bind ?_ (fun _ => ?_)
theorem rf_imports.mono : ∀ a0 a1 a2 k, LeO (rf_imports.f k a0 a1 a2) (rf_imports.f (k + 1) a0 a1 a2) := by
 intro a0 a1 a2 k
 obtain ⟨ih0, ih1, ih2⟩ := rf_imports.mono_l k
 unfold rf_imports.f
 repeat' first
   | (with_reducible exact ih0 _ _ _ _ _ _)
   | (with_reducible exact ih1 _ _ _ _ _ _ _ _)
   | (with_reducible exact ih2 _ _ _ _ _ _ _ _ _)
   | (with_reducible exact scholiastref13_Folders.mono _ _)
   | (with_reducible exact scholiastref13_Split.mono _ _)
   | (with_reducible exact scholiastref13_has.mono _ _ _)
   | (with_reducible exact scholiastref13_put.mono _ _ _)
   | (with_reducible exact LeO.refl _)
   | (with_reducible exact LeO.none _)
   | (with_reducible refine LeO.ite ?_ ?_)
   | (with_reducible refine LeO.bind ?_ (fun _ => ?_))
   | exact ih0 _ _ _ _ _ _
   | exact ih1 _ _ _ _ _ _ _ _
   | exact ih2 _ _ _ _ _ _ _ _ _
   | exact scholiastref13_Folders.mono _ _
   | exact scholiastref13_Split.mono _ _
   | exact scholiastref13_has.mono _ _ _
   | exact scholiastref13_put.mono _ _ _
   | exact LeO.none _
   | refine LeO.ite ?_ ?_
   | refine LeO.bind ?_ (fun _ => ?_)
set_option maxHeartbeats 8000000 in
set_option maxRecDepth 100000 in
theorem rf_imports.calls (k : Nat) (A0 : Option Addr) (c0 : Nat) (l0 : List ByteArray) (A1 : Option Addr) (c1 : Nat) (l1 : List (S46)) (a2 : ByteArray) (r : List ByteArray) (w : World) (hr0 : Kd.C Kd.string w A0 l0.length l0) (hc0 : l0.length ≤ c0) (hr1 : Kd.C k46 w A1 l1.length l1) (hc1 : l1.length ≤ c1) (h : rf_imports.f k l0 l1 a2 = some r) :
  Calls Tryd.prog 34 #[.slice A0 l0.length c0, .slice A1 l1.length c1, .string a2] w fun e w' => ∃ v0_ : Value, e = .returned (v0_) ∧ Kd.V Kd.string 9 w' w.heap.size (fun k_ => (w.heap.size ≤ k_)) v0_ r ∧ Below w.heap.size w w' := by
 have HR0 := Aside0.mk hr0
 have HC0 := Aside0.mk hc0
 clear hr0 hc0
 have HR1 := Aside0.mk hr1
 have HC1 := Aside0.mk hc1
 clear hr1 hc1
 have HB := Aside0.mk (Below.refl w.heap.size w)
 have H : ((scholiastref13_Folders.f k l0).bind fun t200 => (rf_imports.l0 k l0 l1 a2 t200 (([] : List ByteArray)) 0)) = some r := h
 clear h
 replace H := Option.bind_eq_some_iff.mp H
 obtain ⟨t200, A40, H⟩ := H
 replace H : (rf_imports.l0 k l0 l1 a2 t200 (([] : List ByteArray)) 0) = some r := H
 have A4 := Aside0.mk A40
 clear A40
 obtain ⟨y203, hy203⟩ : ∃ y_ : List ByteArray, y_ = (([] : List ByteArray)) := ⟨_, rfl⟩
 replace H : (rf_imports.l0 k l0 l1 a2 t200 y203 0) = some r := by first | (rw [hy203]; with_reducible exact H) | (have H2_ := (Option.bind_some _ _).symm.trans H; rw [hy203]; with_reducible exact H2_) | (have H2_ := (Option.bind_some _ _).symm.trans H; with_reducible exact H2_) | with_reducible exact H | (rw [hy203]; exact H) | exact H
 have Ny203 := Aside0.mk hy203
 clear hy203
 have H' := Aside0.mk H
 clear H
 go_enter Tryd.func34, Tryd.ntmps34
 go_wp2_with (first | ((with_reducible refine gate_callee (f := 12) rfl ?_); refine goesL_ (some 15) rfl rfl Tryd.func12 (by kernel_rfl) rfl #[.slice A0 l0.length c0] rfl (by (try simp only [List.map_toArray, List.map_cons, List.map_nil]); first | done | rfl | (simp only [List.length_drop, List.length_take]; rfl)) ?_; (with_reducible refine (scholiastref13_Folders.calls k _ _ l0 t200 _ ?side1 ?side2 A4.out).mono ?_); (case side1 => repeat (first | exact HR0.out | (with_reducible refine Kd.C_alloc ?_ _) | (with_reducible refine Kd.C_drewN ?_ _) | (with_reducible refine Kd.C_drew ?_))); (case side2 => exact HC0.out); rintro e w5 ⟨v201, rfl, ho0, hb⟩; refine ⟨_, rfl, ?_⟩; have n0_ := Aside0.mk (Kd.V_lower (Kd.V_mono (ok' := fun k_ => (w.heap.size ≤ k_)) ho0 (fun k_ hk_ => (Nat.le_trans (below_size (by repeat (first | (with_reducible first | exact HB.out | apply below_alloc | apply pw_below_drewN | apply below_drew1) | exact HB.out))) hk_))) (below_size (by repeat (first | (with_reducible first | exact HB.out | apply below_alloc | apply pw_below_drewN | apply below_drew1) | exact HB.out)))); have n1_ := Aside0.mk (below_step (by repeat (first | (with_reducible first | exact HB.out | apply below_alloc | apply pw_below_drewN | apply below_drew1) | exact HB.out)) hb); clear HB; have HO202 := n0_; have HB := n1_; clear n0_ n1_; (try clear hb); (try clear hb2); (try clear hk); (try clear hi); (try clear ho0)) | ((with_reducible refine gate_dst (N := 16) rfl ?_); refine Kd.R_lit Kd.string _ 9 ?hg (N := 16) ?hd (xs := ([] : List ByteArray)) (inner := []) (ok := fun _ => True) (okp := fun _ => True) ?hr ?hp (fun _ hk => hk) trivial (Below.refl _ _) (Nat.le_refl _) (by simp) ?_; (case hd => rfl); (case hg => rfl); (case hr => first | (go_simp; done) | (go_simp; rfl)); (case hp => exact (Reps.none _ _)); intro v204 w6 ho7 hb hg_ hnew_; clear hg_ hnew_; (first | rw [← Ny203.out] at ho7 | (simp only [Int.reduceToNat] at ho7; rw [← Ny203.out] at ho7)); have n0_ := Aside0.mk (Kd.V_elder' (by (with_reducible repeat (first | apply Kd.V_alloc | apply Kd.V_drewN | apply Kd.V_drew)); exact HO202.out) (Kd.R_base ho7) hb); have n1_ := Aside0.mk (Kd.R_lower (Kd.R_newM (M := fun k_ => (w.heap.size ≤ k_)) ho7 (below_size (by repeat (first | (with_reducible first | exact HB.out | apply below_alloc | apply pw_below_drewN | apply below_drew1) | exact HB.out))) (fun k_ h_ => h_)) (below_size (by repeat (first | (with_reducible first | exact HB.out | apply below_alloc | apply pw_below_drewN | apply below_drew1) | exact HB.out)))); have n2_ := Aside0.mk (below_step (by repeat (first | (with_reducible first | exact HB.out | apply below_alloc | apply pw_below_drewN | apply below_drew1) | exact HB.out)) hb); clear HO202; clear HB; have HO202 := n0_; have HO205 := n1_; have HB := n2_; clear n0_ n1_ n2_; clear hb ho7))
 go_loopg [8, 9] k (fun kq v8 v9 w' => ∃ (x8_1 : List ByteArray) (x9_1 : Int), v9 = .int .i64 x9_1 ∧ Aside0 (rf_imports.l0 kq l0 l1 a2 t200 x8_1 x9_1 = some r) ∧ Aside0 (kq ≤ k) ∧ Aside0 (Kd.V Kd.string 9 w' w.heap.size (fun k_ => (w.heap.size ≤ k_)) v201 t200) ∧ Aside0 (Kd.V Kd.string 9 w' w.heap.size (fun k_ => (w.heap.size ≤ k_)) v8 x8_1) ∧ Aside0 (Below w.heap.size w w'))
 case atStart => exact ⟨(y203), (0), (by first | rfl | (simp; done) | (simp [*]; done)), H', ⟨Nat.le_refl _⟩, ⟨by (with_reducible repeat (first | apply Kd.V_alloc | apply Kd.V_drewN | apply Kd.V_drew)); exact Kd.V_mono HO202.out (fun _ hk => hk.1)⟩, ⟨Kd.R_V (by (with_reducible repeat (first | apply Kd.R_alloc | apply Kd.R_drewN | apply Kd.R_drew)); exact Kd.R_mono HO205.out (fun _ hk => hk.1))⟩, ⟨by repeat (first | (with_reducible first | exact HB.out | apply below_alloc | apply pw_below_drewN | apply below_drew1) | exact HB.out)⟩⟩
 case round =>
  clear H'
  try clear c1
  try clear p2
  try clear c3
  obtain ⟨x8_1, x9_1, rfl, HA, HK1, HO_7, HO_8, HB⟩ := hrel
  cases gk with
  | zero => exact absurd HA.out (by simp [rf_imports.l0])
  | succ k1 =>
   have H := HA.out
   clear HA
   simp only [rf_imports.l0] at H
   by_cases c8 : x9_1 < (l0.length : Int)
   ·rw [if_pos c8] at H
    have c8b0 : decide (x9_1 < (l0.length : Int)) = true := decide_eq_true c8
    clear c8
    by_cases c9 : 0 ≤ x9_1
    ·rw [if_pos c9] at H
     have c9b0 : decide (0 ≤ x9_1) = true := decide_eq_true c9
     clear c9
     replace H := Option.bind_eq_some_iff.mp H
     obtain ⟨⟨t207, t208, t209⟩, A100, H⟩ := H
     replace H : (rf_imports.l1 k1 l0 l1 a2 t200 x8_1 x9_1 t207 0) = some r := H
     have A10 := Aside0.mk A100
     clear A100
     have H' := Aside0.mk H
     clear H
     have p206 : 0 ≤ (x9_1 : Int) := of_decide_eq_true (by first | (with_reducible assumption) | assumption)
     have q206 : x9_1 < (l0.length : Int) := of_decide_eq_true (by first | (with_reducible assumption) | assumption)
     obtain ⟨ad206, e206, hx206_0⟩ := Kd.at_string HR0.out x9_1 p206 q206
     cases e206
     replace hx206_0 := pw_cell_below HB.out hx206_0
     replace p206 := eq_true p206
     replace q206 := eq_true q206
     go_wp2_with (first | ((with_reducible refine gate_callee (f := 9) rfl ?_); refine goesL_ (some 28) rfl rfl Tryd.func9 (by kernel_rfl) rfl #[.string (rdOf ByteArray.empty l0 x9_1)] rfl (by (try simp only [List.map_toArray, List.map_cons, List.map_nil]); first | done | rfl | (simp only [List.length_drop, List.length_take]; rfl)) ?_; (with_reducible refine (scholiastref13_Split.calls k1 (rdOf ByteArray.empty l0 x9_1) t207 t208 t209 _ A10.out).mono ?_); rintro e w' ⟨rfl, ⟨nd, rfl⟩⟩; refine ⟨_, rfl, ?_⟩))
     go_loopg [8, 13] k1 (fun kq v8 v13 w' => ∃ (x8_2 : List ByteArray) (x13_2 : Int), v13 = .int .i64 x13_2 ∧ Aside0 (rf_imports.l1 kq l0 l1 a2 t200 x8_2 x9_1 t207 x13_2 = some r) ∧ Aside0 (kq ≤ k1) ∧ Aside0 (Kd.V Kd.string 9 w' w.heap.size (fun k_ => (w.heap.size ≤ k_)) v201 t200) ∧ Aside0 (Kd.V Kd.string 9 w' w.heap.size (fun k_ => (w.heap.size ≤ k_)) v8 x8_2) ∧ Aside0 (Below w.heap.size w w'))
     case atStart => exact ⟨(x8_1), (0), (by first | rfl | (simp; done) | (simp [*]; done)), H', ⟨Nat.le_refl _⟩, ⟨by (with_reducible repeat (first | apply Kd.V_alloc | apply Kd.V_drewN | apply Kd.V_drew)); exact HO_7.out⟩, ⟨by (with_reducible repeat (first | apply Kd.V_alloc | apply Kd.V_drewN | apply Kd.V_drew)); exact HO_8.out⟩, ⟨by repeat (first | (with_reducible first | exact HB.out | apply below_alloc | apply pw_below_drewN | apply below_drew1) | exact HB.out)⟩⟩
     case round =>
      clear H'
      try clear c1
      try clear p2
      try clear q2
      try clear hx2
      try clear c3
      try clear c8
      try clear c8b0
      try clear c9
      try clear c9b0
      try clear hx206_0
      try clear p2
      try clear p206
      try clear q206
      obtain ⟨x8_2, x13_2, rfl, HA, HK2, HO_7, HO_8, HB⟩ := hrel
      cases gk with
      | zero => exact absurd HA.out (by simp [rf_imports.l1])
      | succ k2 =>
       have H := HA.out
       clear HA
       simp only [rf_imports.l1] at H
       have HC11 := Aside0.mk H
       clear H
       go_upto_region 8 with (fail)
       go_cut [44] (fun v44 wc => ∃ (kq : Nat) (x44_10 : Bool), v44 = .bool x44_10 ∧ Aside0 (rf_imports.j2 kq l0 l1 a2 t200 x8_2 x9_1 t207 x13_2 x44_10 = some r) ∧ Aside0 (kq ≤ k2) ∧ Aside0 (Kd.V Kd.string 9 wc w.heap.size (fun k_ => (w.heap.size ≤ k_)) v201 t200) ∧ Aside0 (Kd.V Kd.string 9 wc w.heap.size (fun k_ => (w.heap.size ≤ k_)) u8 x8_2) ∧ Aside0 (Below w.heap.size w wc))
       case first =>
        have H := HC11.out
        clear HC11
        by_cases c12 : 0 ≤ x9_1
        ·rw [if_pos c12] at H
         have c12b0 : decide (0 ≤ x9_1) = true := decide_eq_true c12
         clear c12
         (first | rw [c12b0] | (simp only [i64_w, i32_w]; rw [c12b0]) | rw [c12b1] | skip)
         by_cases c13 : x9_1 < (l1.length : Int)
         ·rw [if_pos c13] at H
          have c13b0 : decide (x9_1 < (l1.length : Int)) = true := decide_eq_true c13
          clear c13
          by_cases c14 : x13_2 < (((rd_T46 l1 x9_1).f1).length : Int)
          ·rw [if_pos c14] at H
           have c14b0 : decide (x13_2 < (((rd_T46 l1 x9_1).f1).length : Int)) = true := decide_eq_true c14
           clear c14
           have H' := Aside0.mk H
           clear H
           have p210 : 0 ≤ (x9_1 : Int) := of_decide_eq_true (by first | (with_reducible assumption) | assumption)
           have q210 : x9_1 < (l1.length : Int) := of_decide_eq_true (by first | (with_reducible assumption) | assumption)
           obtain ⟨ad210, A210_3, c210_3, A210_4, c210_4, e210, hx210_0, hx210_1, hx210_2, hx210_3, hx210_4, hl210_3, hi210_3, hl210_4, hi210_4⟩ := at_T46 HR1.out x9_1 p210 q210
           cases e210
           replace hx210_0 := pw_cell_below HB.out hx210_0
           replace hx210_1 := pw_cell_below HB.out hx210_1
           replace hx210_2 := pw_cell_below HB.out hx210_2
           replace hx210_3 := pw_cell_below HB.out hx210_3
           replace hx210_4 := pw_cell_below HB.out hx210_4
           have HR210_3 := Aside0.mk hi210_3
           have HC210_3 := Aside0.mk hl210_3
           clear hi210_3 hl210_3
           have HR210_4 := Aside0.mk hi210_4
           have HC210_4 := Aside0.mk hl210_4
           clear hi210_4 hl210_4
           replace p210 := eq_true p210
           replace q210 := eq_true q210
           go_wp2
           go_meet
           case rel => exact ⟨_, ((t207.toList == a2.toList)), (by first | rfl | (simp; done) | (simp [*]; done)), H', ⟨by have := HK1.out; have := HK2.out; first | omega | exact Nat.le_refl _⟩, ⟨by (with_reducible repeat (first | apply Kd.V_alloc | apply Kd.V_drewN | apply Kd.V_drew)); exact HO_7.out⟩, ⟨by (with_reducible repeat (first | apply Kd.V_alloc | apply Kd.V_drewN | apply Kd.V_drew)); exact HO_8.out⟩, ⟨by repeat (first | (with_reducible first | exact HB.out | apply below_alloc | apply pw_below_drewN | apply below_drew1) | exact HB.out)⟩⟩
          ·rw [if_neg c14] at H
           have c14b0 : decide (x13_2 < (((rd_T46 l1 x9_1).f1).length : Int)) = false := decide_eq_false c14
           clear c14
           have H' := Aside0.mk H
           clear H
           have p210 : 0 ≤ (x9_1 : Int) := of_decide_eq_true (by first | (with_reducible assumption) | assumption)
           have q210 : x9_1 < (l1.length : Int) := of_decide_eq_true (by first | (with_reducible assumption) | assumption)
           obtain ⟨ad210, A210_3, c210_3, A210_4, c210_4, e210, hx210_0, hx210_1, hx210_2, hx210_3, hx210_4, hl210_3, hi210_3, hl210_4, hi210_4⟩ := at_T46 HR1.out x9_1 p210 q210
           cases e210
           replace hx210_0 := pw_cell_below HB.out hx210_0
           replace hx210_1 := pw_cell_below HB.out hx210_1
           replace hx210_2 := pw_cell_below HB.out hx210_2
           replace hx210_3 := pw_cell_below HB.out hx210_3
           replace hx210_4 := pw_cell_below HB.out hx210_4
           have HR210_3 := Aside0.mk hi210_3
           have HC210_3 := Aside0.mk hl210_3
           clear hi210_3 hl210_3
           have HR210_4 := Aside0.mk hi210_4
           have HC210_4 := Aside0.mk hl210_4
           clear hi210_4 hl210_4
           replace p210 := eq_true p210
           replace q210 := eq_true q210
           go_wp2
           go_meet
           case rel => exact ⟨_, (false), (by first | rfl | (simp; done) | (simp [*]; done)), H', ⟨by have := HK1.out; have := HK2.out; first | omega | exact Nat.le_refl _⟩, ⟨by (with_reducible repeat (first | apply Kd.V_alloc | apply Kd.V_drewN | apply Kd.V_drew)); exact HO_7.out⟩, ⟨by (with_reducible repeat (first | apply Kd.V_alloc | apply Kd.V_drewN | apply Kd.V_drew)); exact HO_8.out⟩, ⟨by repeat (first | (with_reducible first | exact HB.out | apply below_alloc | apply pw_below_drewN | apply below_drew1) | exact HB.out)⟩⟩
         ·rw [if_neg c13] at H
          exact absurd H (by simp)
        ·rw [if_neg c12] at H
         exact absurd H (by simp)
       case rest =>
        clear HC11
        try clear c1
        try clear c2
        try clear p2
        try clear q2
        try clear hx2
        try clear c3
        try clear c8
        try clear c8b0
        try clear c9
        try clear c9b0
        try clear c12
        try clear c12b0
        try clear c12b1
        try clear c13
        try clear c13b0
        try clear c14
        try clear c14b0
        try clear hx206_0
        try clear hx210_0
        try clear hx210_1
        try clear hx210_2
        try clear hx210_3
        try clear hx210_4
        try clear p2
        try clear p206
        try clear p210
        try clear q2
        try clear q206
        try clear q210
        obtain ⟨kq, x44_10, rfl, HA, HJ10, HO_7, HO_8, HB⟩ := hcut
        cases kq with
        | zero => exact absurd HA.out (by simp [rf_imports.j2])
        | succ kj10 =>
         have H := HA.out
         clear HA
         simp only [rf_imports.j2] at H
         by_cases c15 : x44_10 = true
         ·subst c15
          have H1 : (if 0 ≤ x9_1 then (if x9_1 < (l1.length : Int) then (if 0 ≤ x13_2 then (if x13_2 < (((rd_T46 l1 x9_1).f1).length : Int) then ((scholiastref13_has.f kj10 t200 ((rd_T48 ((rd_T46 l1 x9_1).f1) x13_2).f1)).bind fun t213 => (if t213 = true then ((scholiastref13_put.f kj10 x8_2 ((rd_T48 ((rd_T46 l1 x9_1).f1) x13_2).f1)).bind fun t216 => (rf_imports.l1 kj10 l0 l1 a2 t200 t216 x9_1 t207 (wrap64 (x13_2 + 1)))) else (rf_imports.l1 kj10 l0 l1 a2 t200 x8_2 x9_1 t207 (wrap64 (x13_2 + 1))))) else (none)) else (none)) else (none)) else (none)) = some r := by rw [if_pos rfl] at H; exact H
          clear H
          have H := H1
          clear H1
          by_cases c16 : 0 ≤ x9_1
          ·rw [if_pos c16] at H
           have c16b0 : decide (0 ≤ x9_1) = true := decide_eq_true c16
           clear c16
           by_cases c17 : x9_1 < (l1.length : Int)
           ·rw [if_pos c17] at H
            have c17b0 : decide (x9_1 < (l1.length : Int)) = true := decide_eq_true c17
            clear c17
            by_cases c18 : 0 ≤ x13_2
            ·rw [if_pos c18] at H
             have c18b0 : decide (0 ≤ x13_2) = true := decide_eq_true c18
             clear c18
             by_cases c19 : x13_2 < (((rd_T46 l1 x9_1).f1).length : Int)
             ·rw [if_pos c19] at H
              have c19b0 : decide (x13_2 < (((rd_T46 l1 x9_1).f1).length : Int)) = true := decide_eq_true c19
              clear c19
              replace H := Option.bind_eq_some_iff.mp H
              obtain ⟨t213, A200, H⟩ := H
              replace H : (if t213 = true then ((scholiastref13_put.f kj10 x8_2 ((rd_T48 ((rd_T46 l1 x9_1).f1) x13_2).f1)).bind fun t216 => (rf_imports.l1 kj10 l0 l1 a2 t200 t216 x9_1 t207 (wrap64 (x13_2 + 1)))) else (rf_imports.l1 kj10 l0 l1 a2 t200 x8_2 x9_1 t207 (wrap64 (x13_2 + 1)))) = some r := H
              have A20 := Aside0.mk A200
              clear A200
              by_cases c21 : t213 = true
              ·subst c21
               have H1 : ((scholiastref13_put.f kj10 x8_2 ((rd_T48 ((rd_T46 l1 x9_1).f1) x13_2).f1)).bind fun t216 => (rf_imports.l1 kj10 l0 l1 a2 t200 t216 x9_1 t207 (wrap64 (x13_2 + 1)))) = some r := by rw [if_pos rfl] at H; exact H
               clear H
               have H := H1
               clear H1
               replace H := Option.bind_eq_some_iff.mp H
               obtain ⟨t216, A220, H⟩ := H
               replace H : (rf_imports.l1 kj10 l0 l1 a2 t200 t216 x9_1 t207 (wrap64 (x13_2 + 1))) = some r := H
               have A22 := Aside0.mk A220
               clear A220
               have H' := Aside0.mk H
               clear H
               have p211 : 0 ≤ (x9_1 : Int) := of_decide_eq_true (by first | (with_reducible assumption) | assumption)
               have q211 : x9_1 < (l1.length : Int) := of_decide_eq_true (by first | (with_reducible assumption) | assumption)
               obtain ⟨ad211, A211_3, c211_3, A211_4, c211_4, e211, hx211_0, hx211_1, hx211_2, hx211_3, hx211_4, hl211_3, hi211_3, hl211_4, hi211_4⟩ := at_T46 HR1.out x9_1 p211 q211
               cases e211
               replace hx211_0 := pw_cell_below HB.out hx211_0
               replace hx211_1 := pw_cell_below HB.out hx211_1
               replace hx211_2 := pw_cell_below HB.out hx211_2
               replace hx211_3 := pw_cell_below HB.out hx211_3
               replace hx211_4 := pw_cell_below HB.out hx211_4
               have HR211_3 := Aside0.mk hi211_3
               have HC211_3 := Aside0.mk hl211_3
               clear hi211_3 hl211_3
               have HR211_4 := Aside0.mk hi211_4
               have HC211_4 := Aside0.mk hl211_4
               clear hi211_4 hl211_4
               replace p211 := eq_true p211
               replace q211 := eq_true q211
               have p212 : 0 ≤ (x13_2 : Int) := of_decide_eq_true (by first | (with_reducible assumption) | assumption)
               have q212 : x13_2 < (((rd_T46 l1 x9_1).f1).length : Int) := of_decide_eq_true (by first | (with_reducible assumption) | assumption)
               obtain ⟨ad212, e212, hx212_0, hx212_1, hx212_2, hx212_3⟩ := at_T48 HR211_3.out x13_2 p212 q212
               cases e212
               replace hx212_0 := pw_cell_below HB.out hx212_0
               replace hx212_1 := pw_cell_below HB.out hx212_1
               replace hx212_2 := pw_cell_below HB.out hx212_2
               replace hx212_3 := pw_cell_below HB.out hx212_3
               replace p212 := eq_true p212
               replace q212 := eq_true q212
               obtain ⟨Ao23, co23, eo23⟩ := Kd.V_slice HO_7.out
               subst eo23
               go_wp2_with (first | ((with_reducible refine gate_callee (f := 33) rfl ?_); refine goesL_ (some 57) rfl rfl Tryd.func33 (by kernel_rfl) rfl #[.slice Ao23 t200.length co23, .string ((rd_T48 ((rd_T46 l1 x9_1).f1) x13_2).f1)] rfl (by (try simp only [List.map_toArray, List.map_cons, List.map_nil]); first | done | rfl | (simp only [List.length_drop, List.length_take]; rfl)) ?_; (with_reducible refine (scholiastref13_has.calls kj10 _ _ t200 ((rd_T48 ((rd_T46 l1 x9_1).f1) x13_2).f1) true _ ?side1 ?side2 A20.out).mono ?_); (case side1 => repeat (first | exact (Kd.V_reads' HO_7.out).2.2 | (with_reducible refine Kd.C_alloc ?_ _) | (with_reducible refine Kd.C_drewN ?_ _) | (with_reducible refine Kd.C_drew ?_))); (case side2 => exact (Kd.V_reads' HO_7.out).2.1); rintro e w' ⟨rfl, ⟨nd, rfl⟩⟩; refine ⟨_, rfl, ?_⟩; have p214 : 0 ≤ (x9_1 : Int) := of_decide_eq_true (by first | (with_reducible assumption) | assumption); have q214 : x9_1 < (l1.length : Int) := of_decide_eq_true (by first | (with_reducible assumption) | assumption); obtain ⟨ad214, A214_3, c214_3, A214_4, c214_4, e214, hx214_0, hx214_1, hx214_2, hx214_3, hx214_4, hl214_3, hi214_3, hl214_4, hi214_4⟩ := at_T46 HR1.out x9_1 p214 q214; obtain rfl : ad211 = ad214 := (by injection e214); replace hx214_0 := pw_cell_below HB.out hx214_0; replace hx214_1 := pw_cell_below HB.out hx214_1; replace hx214_2 := pw_cell_below HB.out hx214_2; replace hx214_3 := pw_cell_below HB.out hx214_3; replace hx214_4 := pw_cell_below HB.out hx214_4; have HR214_3 := Aside0.mk hi214_3; have HC214_3 := Aside0.mk hl214_3; clear hi214_3 hl214_3; have HR214_4 := Aside0.mk hi214_4; have HC214_4 := Aside0.mk hl214_4; clear hi214_4 hl214_4; replace p214 := eq_true p214; replace q214 := eq_true q214; have ea_ := Option.some.inj (hx211_3.symm.trans hx214_3); injection ea_ with ea_ en_ ec_; subst ea_; subst ec_; clear en_; have ea_ := Option.some.inj (hx211_4.symm.trans hx214_4); injection ea_ with ea_ en_ ec_; subst ea_; subst ec_; clear en_; have p215 : 0 ≤ (x13_2 : Int) := of_decide_eq_true (by first | (with_reducible assumption) | assumption); have q215 : x13_2 < (((rd_T46 l1 x9_1).f1).length : Int) := of_decide_eq_true (by first | (with_reducible assumption) | assumption); obtain ⟨ad215, e215, hx215_0, hx215_1, hx215_2, hx215_3⟩ := at_T48 HR214_3.out x13_2 p215 q215; cases e215; replace hx215_0 := pw_cell_below HB.out hx215_0; replace hx215_1 := pw_cell_below HB.out hx215_1; replace hx215_2 := pw_cell_below HB.out hx215_2; replace hx215_3 := pw_cell_below HB.out hx215_3; replace p215 := eq_true p215; replace q215 := eq_true q215; obtain ⟨Ao24, co24, eo24⟩ := Kd.V_slice HO_8.out; subst eo24) | ((with_reducible refine gate_callee (f := 29) rfl ?_); refine goesL_ (some 68) rfl rfl Tryd.func29 (by kernel_rfl) rfl #[.slice Ao24 x8_2.length co24, .string ((rd_T48 ((rd_T46 l1 x9_1).f1) x13_2).f1)] rfl (by (try simp only [List.map_toArray, List.map_cons, List.map_nil]); first | done | rfl | (simp only [List.length_drop, List.length_take]; rfl)) ?_; (with_reducible refine (scholiastref13_put.calls kj10 (fun k_ => (w.heap.size ≤ k_)) _ _ x8_2 ((rd_T48 ((rd_T46 l1 x9_1).f1) x13_2).f1) t216 _ ?side1 A22.out).mono ?_); (case side1 => exact HO_8.out); rintro e w25 ⟨v217, rfl, ho0, hb⟩; refine ⟨_, rfl, ?_⟩; have n0_ := Aside0.mk (Kd.V_below (by (with_reducible repeat (first | apply Kd.V_alloc | apply Kd.V_drewN | apply Kd.V_drew)); exact HO_7.out) hb); have n1_ := Aside0.mk (Kd.V_below (by (with_reducible repeat (first | apply Kd.V_alloc | apply Kd.V_drewN | apply Kd.V_drew)); exact HO_8.out) hb); have n2_ := Aside0.mk (Kd.V_lower (Kd.V_mono (ok' := fun k_ => (w.heap.size ≤ k_)) ho0 (fun k_ hk_ => Or.elim hk_ (fun hs_ => hs_) (fun hn_ => (Nat.le_trans (below_size (by repeat (first | (with_reducible first | exact HB.out | apply below_alloc | apply pw_below_drewN | apply below_drew1) | exact HB.out))) hn_)))) (below_size (by repeat (first | (with_reducible first | exact HB.out | apply below_alloc | apply pw_below_drewN | apply below_drew1) | exact HB.out)))); have n3_ := Aside0.mk (below_step (by repeat (first | (with_reducible first | exact HB.out | apply below_alloc | apply pw_below_drewN | apply below_drew1) | exact HB.out)) hb); clear HO_7; clear HO_8; clear HB; have HO_7 := n0_; have HO_8 := n1_; have HO218 := n2_; have HB := n3_; clear n0_ n1_ n2_ n3_; (try clear hb); (try clear hb2); (try clear hk); (try clear hi); (try clear ho0)))
               go_roundg kj10
               case measure => have := HK1.out; have := HK2.out; have := HJ10.out; omega
               case rel => exact ⟨(t216), (wrap64 (x13_2 + 1)), (by first | rfl | (simp; done) | (simp [*]; done)), H', ⟨by have := HK1.out; have := HK2.out; have := HJ10.out; omega⟩, ⟨by (with_reducible repeat (first | apply Kd.V_alloc | apply Kd.V_drewN | apply Kd.V_drew)); exact HO_7.out⟩, ⟨by (with_reducible repeat (first | apply Kd.V_alloc | apply Kd.V_drewN | apply Kd.V_drew)); exact HO218.out⟩, ⟨by repeat (first | (with_reducible first | exact HB.out | apply below_alloc | apply pw_below_drewN | apply below_drew1) | exact HB.out)⟩⟩
              ·replace c21 := Bool.eq_false_iff.mpr c21
               subst c21
               have H1 : (rf_imports.l1 kj10 l0 l1 a2 t200 x8_2 x9_1 t207 (wrap64 (x13_2 + 1))) = some r := by rw [if_neg (show ¬ (false = true) by decide)] at H; exact H
               clear H
               have H := H1
               clear H1
               have H' := Aside0.mk H
               clear H
               have p211 : 0 ≤ (x9_1 : Int) := of_decide_eq_true (by first | (with_reducible assumption) | assumption)
               have q211 : x9_1 < (l1.length : Int) := of_decide_eq_true (by first | (with_reducible assumption) | assumption)
               obtain ⟨ad211, A211_3, c211_3, A211_4, c211_4, e211, hx211_0, hx211_1, hx211_2, hx211_3, hx211_4, hl211_3, hi211_3, hl211_4, hi211_4⟩ := at_T46 HR1.out x9_1 p211 q211
               cases e211
               replace hx211_0 := pw_cell_below HB.out hx211_0
               replace hx211_1 := pw_cell_below HB.out hx211_1
               replace hx211_2 := pw_cell_below HB.out hx211_2
               replace hx211_3 := pw_cell_below HB.out hx211_3
               replace hx211_4 := pw_cell_below HB.out hx211_4
               have HR211_3 := Aside0.mk hi211_3
               have HC211_3 := Aside0.mk hl211_3
               clear hi211_3 hl211_3
               have HR211_4 := Aside0.mk hi211_4
               have HC211_4 := Aside0.mk hl211_4
               clear hi211_4 hl211_4
               replace p211 := eq_true p211
               replace q211 := eq_true q211
               have p212 : 0 ≤ (x13_2 : Int) := of_decide_eq_true (by first | (with_reducible assumption) | assumption)
               have q212 : x13_2 < (((rd_T46 l1 x9_1).f1).length : Int) := of_decide_eq_true (by first | (with_reducible assumption) | assumption)
               obtain ⟨ad212, e212, hx212_0, hx212_1, hx212_2, hx212_3⟩ := at_T48 HR211_3.out x13_2 p212 q212
               cases e212
               replace hx212_0 := pw_cell_below HB.out hx212_0
               replace hx212_1 := pw_cell_below HB.out hx212_1
               replace hx212_2 := pw_cell_below HB.out hx212_2
               replace hx212_3 := pw_cell_below HB.out hx212_3
               replace p212 := eq_true p212
               replace q212 := eq_true q212
               obtain ⟨Ao26, co26, eo26⟩ := Kd.V_slice HO_7.out
               subst eo26
               go_wp2_with (first | ((with_reducible refine gate_callee (f := 33) rfl ?_); refine goesL_ (some 57) rfl rfl Tryd.func33 (by kernel_rfl) rfl #[.slice Ao26 t200.length co26, .string ((rd_T48 ((rd_T46 l1 x9_1).f1) x13_2).f1)] rfl (by (try simp only [List.map_toArray, List.map_cons, List.map_nil]); first | done | rfl | (simp only [List.length_drop, List.length_take]; rfl)) ?_; (with_reducible refine (scholiastref13_has.calls kj10 _ _ t200 ((rd_T48 ((rd_T46 l1 x9_1).f1) x13_2).f1) false _ ?side1 ?side2 A20.out).mono ?_); (case side1 => repeat (first | exact (Kd.V_reads' HO_7.out).2.2 | (with_reducible refine Kd.C_alloc ?_ _) | (with_reducible refine Kd.C_drewN ?_ _) | (with_reducible refine Kd.C_drew ?_))); (case side2 => exact (Kd.V_reads' HO_7.out).2.1); rintro e w' ⟨rfl, ⟨nd, rfl⟩⟩; refine ⟨_, rfl, ?_⟩))
               go_roundg kj10
               case measure => have := HK1.out; have := HK2.out; have := HJ10.out; omega
               case rel => exact ⟨(x8_2), (wrap64 (x13_2 + 1)), (by first | rfl | (simp; done) | (simp [*]; done)), H', ⟨by have := HK1.out; have := HK2.out; have := HJ10.out; omega⟩, ⟨by (with_reducible repeat (first | apply Kd.V_alloc | apply Kd.V_drewN | apply Kd.V_drew)); exact HO_7.out⟩, ⟨by (with_reducible repeat (first | apply Kd.V_alloc | apply Kd.V_drewN | apply Kd.V_drew)); exact HO_8.out⟩, ⟨by repeat (first | (with_reducible first | exact HB.out | apply below_alloc | apply pw_below_drewN | apply below_drew1) | exact HB.out)⟩⟩
             ·rw [if_neg c19] at H
              exact absurd H (by simp)
            ·rw [if_neg c18] at H
             exact absurd H (by simp)
           ·rw [if_neg c17] at H
            exact absurd H (by simp)
          ·rw [if_neg c16] at H
           exact absurd H (by simp)
         ·replace c15 := Bool.eq_false_iff.mpr c15
          subst c15
          have H1 : (rf_imports.l0 kj10 l0 l1 a2 t200 x8_2 (wrap64 (x9_1 + 1))) = some r := by rw [if_neg (show ¬ (false = true) by decide)] at H; exact H
          clear H
          have H := H1
          clear H1
          have H' := Aside0.mk H
          clear H
          go_wp2
          go_roundg kj10
          case measure => have := HK1.out; have := HK2.out; have := HJ10.out; omega
          case rel => exact ⟨(x8_2), (wrap64 (x9_1 + 1)), (by first | rfl | (simp; done) | (simp [*]; done)), H', ⟨by have := HK1.out; have := HK2.out; have := HJ10.out; omega⟩, ⟨by (with_reducible repeat (first | apply Kd.V_alloc | apply Kd.V_drewN | apply Kd.V_drew)); exact HO_7.out⟩, ⟨by (with_reducible repeat (first | apply Kd.V_alloc | apply Kd.V_drewN | apply Kd.V_drew)); exact HO_8.out⟩, ⟨by repeat (first | (with_reducible first | exact HB.out | apply below_alloc | apply pw_below_drewN | apply below_drew1) | exact HB.out)⟩⟩
    ·rw [if_neg c9] at H
     exact absurd H (by simp)
   ·rw [if_neg c8] at H
    have c8b0 : decide (x9_1 < (l0.length : Int)) = false := decide_eq_false c8
    clear c8
    obtain rfl := Option.some.inj H
    go_wp2
    go_ret
    exact ⟨_, by first | rfl | (simp [errW_none, errW_some] <;> rfl) | (simp [*, errW_none, errW_some] <;> rfl), by (with_reducible repeat (first | apply Kd.V_alloc | apply Kd.V_drewN | apply Kd.V_drew)); exact HO_8.out, by repeat (first | (with_reducible first | exact HB.out | apply below_alloc | apply pw_below_drewN | apply below_drew1) | exact HB.out)⟩
end Go.Proofs.YtcejdokeaoklaaaDoor.PImp
