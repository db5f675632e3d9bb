-- Written by a program of this session (wip/tools/printseat.sh).
import Derived.Test.YtcejdokeaoklaaaDoorPImpx0
import Derived.Test.YtcejdokeaoklaaaDoorPImpx5
namespace Go.Proofs.YtcejdokeaoklaaaDoor.PImp
open Go.RowKit Go.Proofs.YtcejdokeaoklaaaDoorW.PrintWords Go.Proofs.YtcejdokeaoklaaaDoorW.PrintLast Go.Proofs.YtcejdokeaoklaaaDoorW.PrintMore
attribute [local go_sem] max2_int min2_int max_two min_two max_three min_three max_four min_four   -- for this text's walks alone
set_option linter.unusedVariables false
set_option linter.unusedSimpArgs false

/-! ### scholiastref13_Split: function 9 -/
mutual
def scholiastref13_Split.j0 : Nat → ByteArray → Int → Bool → Option (ByteArray × ByteArray × Int)
  | 0, _, _, _ => none
  | k + 1, x0, x5, x23 => if x23 = true then (some ((⟨#[]⟩ : ByteArray), (⟨#[]⟩ : ByteArray), 130)) else (scholiastref13_Split.l0 k x0 x5 (-1) 0 0)
def scholiastref13_Split.l0 : Nat → ByteArray → Int → Int → Int → Int → Option (ByteArray × ByteArray × Int)
  | 0, _, _, _, _, _ => none
  | k + 1, x0, x5, x6, x7, x8 => if x8 < (wrap64 (x5 - 3)) then (if 0 ≤ x8 then (if x8 < (x0.size : Int) then (if (bt x0 x8) = 47 then (if 0 ≤ x7 then (if x7 ≤ x8 then (if x8 ≤ (x0.size : Int) then ((scholiastref13_isWord.f k (x0.extract (x7 : Int).toNat (x8 : Int).toNat)).bind fun t114 => (if t114 = true then (scholiastref13_Split.l0 k x0 x5 x8 (wrap64 (x8 + 1)) (wrap64 (x8 + 1))) else (some ((⟨#[]⟩ : ByteArray), (⟨#[]⟩ : ByteArray), 130)))) else (none)) else (none)) else (none)) else (scholiastref13_Split.l0 k x0 x5 x6 x7 (wrap64 (x8 + 1)))) else (none)) else (none)) else (if x6 < 0 then (some ((⟨#[]⟩ : ByteArray), (⟨#[]⟩ : ByteArray), 130)) else (if 0 ≤ x7 then (if x7 ≤ (wrap64 (x5 - 3)) then (if (wrap64 (x5 - 3)) ≤ (x0.size : Int) then ((scholiastref13_isWord.f k (x0.extract (x7 : Int).toNat ((wrap64 (x5 - 3)) : Int).toNat)).bind fun t113 => (if t113 = true then (if 0 ≤ x6 then (if x6 ≤ (x0.size : Int) then (if 0 ≤ (wrap64 (x6 + 1)) then (if (wrap64 (x6 + 1)) ≤ (x0.size : Int) then (some (x0.extract 0 (x6 : Int).toNat, x0.extract ((wrap64 (x6 + 1)) : Int).toNat x0.size, 0)) else (none)) else (none)) else (none)) else (none)) else (some ((⟨#[]⟩ : ByteArray), (⟨#[]⟩ : ByteArray), 130)))) else (none)) else (none)) else (none)))
end
def scholiastref13_Split.f (k : Nat) (a0 : ByteArray) : Option (ByteArray × ByteArray × Int) := if (a0.size : Int) > 32 then (scholiastref13_Split.j0 k a0 (a0.size : Int) true) else (if (a0.size : Int) < 3 then (scholiastref13_Split.j0 k a0 (a0.size : Int) true) else (if 0 ≤ (wrap64 ((a0.size : Int) - 3)) then (if (wrap64 ((a0.size : Int) - 3)) ≤ (a0.size : Int) then (scholiastref13_Split.j0 k a0 (a0.size : Int) ((a0.extract ((wrap64 ((a0.size : Int) - 3)) : Int).toNat a0.size).toList != ([46, 103, 111] : List UInt8))) else (none)) else (none)))
theorem scholiastref13_Split.mono_l : ∀ k, (∀ y0 y1 y2, LeO (scholiastref13_Split.j0 k y0 y1 y2) (scholiastref13_Split.j0 (k + 1) y0 y1 y2)) ∧ (∀ y0 y1 y2 y3 y4, LeO (scholiastref13_Split.l0 k y0 y1 y2 y3 y4) (scholiastref13_Split.l0 (k + 1) y0 y1 y2 y3 y4))
  | 0 => ⟨fun _ _ _ r h => by simp [scholiastref13_Split.j0] at h, fun _ _ _ _ _ r h => by simp [scholiastref13_Split.l0] at h⟩
  | k + 1 => by
    obtain ⟨ih0, ih1⟩ := scholiastref13_Split.mono_l k
    refine ⟨?_, ?_⟩
    · intro y0 y1 y2
      unfold scholiastref13_Split.j0
      repeat' first
      | (with_reducible exact ih0 _ _ _)
      | (with_reducible exact ih1 _ _ _ _ _)
      | (with_reducible exact scholiastref13_isWord.mono _ _)
      | (with_reducible exact LeO.refl _)
      | (with_reducible exact LeO.none _)
      | (with_reducible refine LeO.ite ?_ ?_)
      | (with_reducible refine LeO.bind ?_ (fun _ => ?_))
      | exact ih0 _ _ _
      | exact ih1 _ _ _ _ _
      | exact scholiastref13_isWord.mono _ _
      | exact LeO.none _
      | refine LeO.ite ?_ ?_
      | refine LeO.bind ?_ (fun _ => ?_)
    · intro y0 y1 y2 y3 y4
      unfold scholiastref13_Split.l0
      repeat' first
      | (with_reducible exact ih0 _ _ _)
      | (with_reducible exact ih1 _ _ _ _ _)
      | (with_reducible exact scholiastref13_isWord.mono _ _)
      | (with_reducible exact LeO.refl _)
      | (with_reducible exact LeO.none _)
      | (with_reducible refine LeO.ite ?_ ?_)
      | (with_reducible refine LeO.bind ?_ (fun _ => ?_))
      | exact ih0 _ _ _
      | exact ih1 _ _ _ _ _
      | exact scholiastref13_isWord.mono _ _
      | exact LeO.none _
      | refine LeO.ite ?_ ?_
      | refine LeO.bind ?_ (fun _ => ?_)
theorem scholiastref13_Split.mono : ∀ a0 k, LeO (scholiastref13_Split.f k a0) (scholiastref13_Split.f (k + 1) a0) := by
  intro a0 k
  obtain ⟨ih0, ih1⟩ := scholiastref13_Split.mono_l k
  unfold scholiastref13_Split.f
  repeat' first
      | (with_reducible exact ih0 _ _ _)
      | (with_reducible exact ih1 _ _ _ _ _)
      | (with_reducible exact scholiastref13_isWord.mono _ _)
      | (with_reducible exact LeO.refl _)
      | (with_reducible exact LeO.none _)
      | (with_reducible refine LeO.ite ?_ ?_)
      | (with_reducible refine LeO.bind ?_ (fun _ => ?_))
      | exact ih0 _ _ _
      | exact ih1 _ _ _ _ _
      | exact scholiastref13_isWord.mono _ _
      | exact LeO.none _
      | refine LeO.ite ?_ ?_
      | refine LeO.bind ?_ (fun _ => ?_)
set_option maxHeartbeats 8000000 in
set_option maxRecDepth 100000 in
theorem scholiastref13_Split.calls (k : Nat) (a0 : ByteArray) (r1 : ByteArray) (r2 : ByteArray) (r3 : Int) (w : World) (h : scholiastref13_Split.f k a0 = some (r1, r2, r3)) :
    Calls Tryd.prog 9 #[.string a0] w fun e w' => e = .returned (.tuple #[.string r1, .string r2, .int .i64 r3]) ∧ Drawn0 w w' := by
  have H : (if (a0.size : Int) > 32 then (scholiastref13_Split.j0 k a0 (a0.size : Int) true) else (if (a0.size : Int) < 3 then (scholiastref13_Split.j0 k a0 (a0.size : Int) true) else (if 0 ≤ (wrap64 ((a0.size : Int) - 3)) then (if (wrap64 ((a0.size : Int) - 3)) ≤ (a0.size : Int) then (scholiastref13_Split.j0 k a0 (a0.size : Int) ((a0.extract ((wrap64 ((a0.size : Int) - 3)) : Int).toNat a0.size).toList != ([46, 103, 111] : List UInt8))) else (none)) else (none)))) = some (r1, r2, r3) := h
  clear h
  have HC2 := Aside0.mk H
  clear H
  go_enter Tryd.func9, Tryd.ntmps9
  go_upto_region 2 with (fail)
  repeat (go_quiet (fail); go_upto_region 2 with (fail))
  go_cut [23] (fun v23 wc => ∃ (kq : Nat) (x23_1 : Bool), v23 = .bool x23_1 ∧ Aside0 (scholiastref13_Split.j0 kq a0 (a0.size : Int) x23_1 = some (r1, r2, r3)) ∧ Aside0 (kq ≤ k) ∧ Drawn0 w wc)
  case first =>
    have H := HC2.out
    clear HC2
    by_cases c3 : (a0.size : Int) > 32
    · rw [if_pos c3] at H
      have c3b0 : decide (32 < (a0.size : Int)) = true := decide_eq_true c3
      have c3b1 : decide (32 < a0.size) = true := decide_eq_true (by omega)
      clear c3
      (first | rw [c3b0] | (simp only [i64_w, i32_w]; rw [c3b0]) | rw [c3b1] | skip)
      have H' := Aside0.mk H
      clear H
      go_wp2
      repeat (go_quiet (fail); try go_wp2)
      go_meet
      case rel => exact ⟨_, (true), (by first | rfl | (simp; done) | (simp [*]; done)), H', ⟨by first | omega | exact Nat.le_refl _⟩, by repeat (first | exact Drawn0.refl _ | apply Drawn0.step)⟩
    · rw [if_neg c3] at H
      have c3b0 : decide (32 < (a0.size : Int)) = false := decide_eq_false c3
      have c3b1 : decide (32 < a0.size) = false := decide_eq_false (by omega)
      clear c3
      (first | rw [c3b0] | (simp only [i64_w, i32_w]; rw [c3b0]) | rw [c3b1] | skip)
      by_cases c4 : (a0.size : Int) < 3
      · rw [if_pos c4] at H
        have c4b0 : decide ((a0.size : Int) < 3) = true := decide_eq_true c4
        have c4b1 : decide (a0.size < 3) = true := decide_eq_true (by omega)
        clear c4
        have H' := Aside0.mk H
        clear H
        go_wp2
        repeat (go_quiet (fail); try go_wp2)
        go_meet
        case rel => exact ⟨_, (true), (by first | rfl | (simp; done) | (simp [*]; done)), H', ⟨by first | omega | exact Nat.le_refl _⟩, by repeat (first | exact Drawn0.refl _ | apply Drawn0.step)⟩
      · rw [if_neg c4] at H
        have c4b0 : decide ((a0.size : Int) < 3) = false := decide_eq_false c4
        have c4b1 : decide (a0.size < 3) = false := decide_eq_false (by omega)
        clear c4
        obtain ⟨ji5, hji5⟩ : ∃ j_ : Int, (wrap64 ((a0.size : Int) - 3)) = j_ := ⟨_, rfl⟩
        replace H : (if 0 ≤ (ji5) then (if (ji5) ≤ (a0.size : Int) then (scholiastref13_Split.j0 k a0 (a0.size : Int) ((a0.extract ((ji5) : Int).toNat a0.size).toList != ([46, 103, 111] : List UInt8))) else (none)) else (none)) = some (r1, r2, r3) := by first | (rw [hji5] at H; exact H) | (simp only [hji5] at H ⊢; exact H)
        have hji5w : (IntKind.i64.wrap ((a0.size : Int) - 3)) = ji5 := (i64_w _).trans hji5
        by_cases c6 : 0 ≤ (ji5)
        · rw [if_pos c6] at H
          have c6b0 := eq_true c6
          have c6b1 : decide (0 ≤ (ji5)) = true := decide_eq_true c6
          clear c6
          by_cases c7 : (ji5) ≤ (a0.size : Int)
          · rw [if_pos c7] at H
            have c7b0 := eq_true c7
            have c7b1 : decide ((ji5) ≤ (a0.size : Int)) = true := decide_eq_true c7
            clear c7
            have H' := Aside0.mk H
            clear H
            go_wp2
            repeat (go_quiet (fail); try go_wp2)
            go_meet
            case rel => exact ⟨_, (((a0.extract ((ji5) : Int).toNat a0.size).toList != ([46, 103, 111] : List UInt8))), (by first | rfl | (simp; done) | (simp only [← hji5] <;> (first | rfl | simp)) | (simp [*]; done)), H', ⟨by first | omega | exact Nat.le_refl _⟩, by repeat (first | exact Drawn0.refl _ | apply Drawn0.step)⟩
          · rw [if_neg c7] at H
            exact absurd H (by simp)
        · rw [if_neg c6] at H
          exact absurd H (by simp)
  case rest =>
    clear HC2
    try clear p2
    try clear c3
    try clear c3b0
    try clear c3b1
    try clear c4
    try clear c4b0
    try clear c4b1
    try clear c6
    try clear c6b0
    try clear c6b1
    try clear p6
    try clear c7
    try clear c7b0
    try clear c7b1
    obtain ⟨kq, x23_1, rfl, HA, HJ1, ⟨mc1, rfl⟩⟩ := hcut
    cases kq with
    | zero => exact absurd HA.out (by simp [scholiastref13_Split.j0])
    | succ kj1 =>
      have H := HA.out
      clear HA
      simp only [scholiastref13_Split.j0] at H
      by_cases c8 : x23_1 = true
      · subst c8
        have H1 : (some ((⟨#[]⟩ : ByteArray), (⟨#[]⟩ : ByteArray), 130)) = some (r1, r2, r3) := by rw [if_pos rfl] at H; exact H
        clear H
        have H := H1
        clear H1
        simp only [Option.some.injEq, Prod.mk.injEq] at H
        obtain ⟨rfl, rfl, rfl⟩ := H
        go_wp2
        repeat (go_quiet (fail); try go_wp2)
        go_ret3
        exact ⟨by first | rfl | (simp; done) | (simp [*]; done), by repeat (first | exact Drawn0.refl _ | apply Drawn0.step)⟩
      · replace c8 := Bool.eq_false_iff.mpr c8
        subst c8
        have H1 : (scholiastref13_Split.l0 kj1 a0 (a0.size : Int) (-1) 0 0) = some (r1, r2, r3) := by rw [if_neg (show ¬ (false = true) by decide)] at H; exact H
        clear H
        have H := H1
        clear H1
        have H' := Aside0.mk H
        clear H
        go_wp2
        repeat (go_quiet (fail); try go_wp2)
        go_loopg [6, 7, 8] kj1 (fun kq v6 v7 v8 w' => ∃ (x6_2 : Int) (x7_2 : Int) (x8_2 : Int), v6 = .int .i64 x6_2 ∧ v7 = .int .i64 x7_2 ∧ v8 = .int .i64 x8_2 ∧ Aside0 (scholiastref13_Split.l0 kq a0 (a0.size : Int) x6_2 x7_2 x8_2 = some (r1, r2, r3)) ∧ Aside0 (kq ≤ kj1) ∧ Drawn0 w w')
        case atStart => exact ⟨((-1)), (0), (0), (by first | rfl | (simp; done) | (simp [*]; done)), (by first | rfl | (simp; done) | (simp [*]; done)), (by first | rfl | (simp; done) | (simp [*]; done)), H', ⟨Nat.le_refl _⟩, by repeat (first | exact Drawn0.refl _ | apply Drawn0.step)⟩
        case round =>
          clear H'
          try clear c1
          try clear p2
          try clear c3
          try clear c3b0
          try clear c3b1
          try clear c4
          try clear c4b0
          try clear c4b1
          try clear c6
          try clear c6b0
          try clear c6b1
          try clear p6
          try clear c7
          try clear c7b0
          try clear c7b1
          try clear c8
          try clear p2
          try clear p6
          obtain ⟨x6_2, x7_2, x8_2, rfl, rfl, rfl, HA, HK2, ⟨m2, rfl⟩⟩ := hrel
          cases gk with
          | zero => exact absurd HA.out (by simp [scholiastref13_Split.l0])
          | succ k2 =>
            have H := HA.out
            clear HA
            simp only [scholiastref13_Split.l0] at H
            by_cases c9 : x8_2 < (wrap64 ((a0.size : Int) - 3))
            · rw [if_pos c9] at H
              have c9b0 : decide (x8_2 < (wrap64 ((a0.size : Int) - 3))) = true := decide_eq_true c9
              clear c9
              by_cases c10 : 0 ≤ x8_2
              · rw [if_pos c10] at H
                have c10b0 : decide (0 ≤ x8_2) = true := decide_eq_true c10
                clear c10
                by_cases c11 : x8_2 < (a0.size : Int)
                · rw [if_pos c11] at H
                  have c11b0 : decide (x8_2 < (a0.size : Int)) = true := decide_eq_true c11
                  clear c11
                  by_cases c13 : (bt a0 x8_2) = 47
                  · rw [if_pos c13] at H
                    have c13b0 : ((bt a0 x8_2) == 47) = true := beq_iff_eq.mpr c13
                    have c13b1 : ((bt a0 x8_2) != 47) = false := bne_eq_false_iff_eq.mpr c13
                    clear c13
                    by_cases c14 : 0 ≤ x7_2
                    · rw [if_pos c14] at H
                      have c14b0 := eq_true c14
                      have c14b1 : decide (0 ≤ x7_2) = true := decide_eq_true c14
                      clear c14
                      by_cases c15 : x7_2 ≤ x8_2
                      · rw [if_pos c15] at H
                        have c15b0 := eq_true c15
                        have c15b1 : decide (x7_2 ≤ x8_2) = true := decide_eq_true c15
                        clear c15
                        by_cases c16 : x8_2 ≤ (a0.size : Int)
                        · rw [if_pos c16] at H
                          have c16b0 := eq_true c16
                          have c16b1 : decide (x8_2 ≤ (a0.size : Int)) = true := decide_eq_true c16
                          clear c16
                          replace H := Option.bind_eq_some_iff.mp H
                          obtain ⟨t114, A170, H⟩ := H
                          replace H : (if t114 = true then (scholiastref13_Split.l0 k2 a0 (a0.size : Int) x8_2 (wrap64 (x8_2 + 1)) (wrap64 (x8_2 + 1))) else (some ((⟨#[]⟩ : ByteArray), (⟨#[]⟩ : ByteArray), 130))) = some (r1, r2, r3) := H
                          have A17 := Aside0.mk A170
                          clear A170
                          by_cases c18 : t114 = true
                          · subst c18
                            have H1 : (scholiastref13_Split.l0 k2 a0 (a0.size : Int) x8_2 (wrap64 (x8_2 + 1)) (wrap64 (x8_2 + 1))) = some (r1, r2, r3) := by rw [if_pos rfl] at H; exact H
                            clear H
                            have H := H1
                            clear H1
                            have H' := Aside0.mk H
                            clear H
                            have p12 : 0 ≤ (x8_2 : Int) := of_decide_eq_true (by first | (with_reducible assumption) | assumption)
                            have q12 : x8_2 < (a0.size : Int) := of_decide_eq_true (by first | (with_reducible assumption) | assumption)
                            have hx12 := bt_at a0 x8_2
                            replace p12 := eq_true p12
                            replace q12 := eq_true q12
                            go_wp2_with (first | (go_at_call 26; (with_reducible refine (scholiastref13_isWord.calls k2 (a0.extract (x7_2 : Int).toNat (x8_2 : Int).toNat) true _ A17.out).mono ?_); rintro e w' ⟨rfl, ⟨nd, rfl⟩⟩; (try first | exact ⟨rfl, _, World.drewN_drewN _ _ _⟩ | exact ⟨rfl, _, Eq.trans (World.drewN_drewN _ _ _) (congrArg (World.drewN _) (Nat.add_assoc _ _ _))⟩)))
                            repeat (go_quiet (first | (go_at_call 26; (with_reducible refine (scholiastref13_isWord.calls k2 (a0.extract (x7_2 : Int).toNat (x8_2 : Int).toNat) true _ A17.out).mono ?_); rintro e w' ⟨rfl, ⟨nd, rfl⟩⟩; (try first | exact ⟨rfl, _, World.drewN_drewN _ _ _⟩ | exact ⟨rfl, _, Eq.trans (World.drewN_drewN _ _ _) (congrArg (World.drewN _) (Nat.add_assoc _ _ _))⟩))); try go_wp2_with (first | (go_at_call 26; (with_reducible refine (scholiastref13_isWord.calls k2 (a0.extract (x7_2 : Int).toNat (x8_2 : Int).toNat) true _ A17.out).mono ?_); rintro e w' ⟨rfl, ⟨nd, rfl⟩⟩; (try first | exact ⟨rfl, _, World.drewN_drewN _ _ _⟩ | exact ⟨rfl, _, Eq.trans (World.drewN_drewN _ _ _) (congrArg (World.drewN _) (Nat.add_assoc _ _ _))⟩))))
                            go_roundg k2
                            case measure => have := HJ1.out; have := HK2.out; omega
                            case rel => exact ⟨(x8_2), (wrap64 (x8_2 + 1)), (wrap64 (x8_2 + 1)), (by first | rfl | (simp; done) | (simp [*]; done)), (by first | rfl | (simp; done) | (simp [*]; done)), (by first | rfl | (simp; done) | (simp [*]; done)), H', ⟨by have := HJ1.out; have := HK2.out; omega⟩, by repeat (first | exact Drawn0.refl _ | apply Drawn0.step)⟩
                          · replace c18 := Bool.eq_false_iff.mpr c18
                            subst c18
                            have H1 : (some ((⟨#[]⟩ : ByteArray), (⟨#[]⟩ : ByteArray), 130)) = some (r1, r2, r3) := by rw [if_neg (show ¬ (false = true) by decide)] at H; exact H
                            clear H
                            have H := H1
                            clear H1
                            simp only [Option.some.injEq, Prod.mk.injEq] at H
                            obtain ⟨rfl, rfl, rfl⟩ := H
                            have p12 : 0 ≤ (x8_2 : Int) := of_decide_eq_true (by first | (with_reducible assumption) | assumption)
                            have q12 : x8_2 < (a0.size : Int) := of_decide_eq_true (by first | (with_reducible assumption) | assumption)
                            have hx12 := bt_at a0 x8_2
                            replace p12 := eq_true p12
                            replace q12 := eq_true q12
                            go_wp2_with (first | (go_at_call 26; (with_reducible refine (scholiastref13_isWord.calls k2 (a0.extract (x7_2 : Int).toNat (x8_2 : Int).toNat) false _ A17.out).mono ?_); rintro e w' ⟨rfl, ⟨nd, rfl⟩⟩; (try first | exact ⟨rfl, _, World.drewN_drewN _ _ _⟩ | exact ⟨rfl, _, Eq.trans (World.drewN_drewN _ _ _) (congrArg (World.drewN _) (Nat.add_assoc _ _ _))⟩)))
                            repeat (go_quiet (first | (go_at_call 26; (with_reducible refine (scholiastref13_isWord.calls k2 (a0.extract (x7_2 : Int).toNat (x8_2 : Int).toNat) false _ A17.out).mono ?_); rintro e w' ⟨rfl, ⟨nd, rfl⟩⟩; (try first | exact ⟨rfl, _, World.drewN_drewN _ _ _⟩ | exact ⟨rfl, _, Eq.trans (World.drewN_drewN _ _ _) (congrArg (World.drewN _) (Nat.add_assoc _ _ _))⟩))); try go_wp2_with (first | (go_at_call 26; (with_reducible refine (scholiastref13_isWord.calls k2 (a0.extract (x7_2 : Int).toNat (x8_2 : Int).toNat) false _ A17.out).mono ?_); rintro e w' ⟨rfl, ⟨nd, rfl⟩⟩; (try first | exact ⟨rfl, _, World.drewN_drewN _ _ _⟩ | exact ⟨rfl, _, Eq.trans (World.drewN_drewN _ _ _) (congrArg (World.drewN _) (Nat.add_assoc _ _ _))⟩))))
                            go_ret3
                            exact ⟨by first | rfl | (simp; done) | (simp [*]; done), by repeat (first | exact Drawn0.refl _ | apply Drawn0.step)⟩
                        · rw [if_neg c16] at H
                          exact absurd H (by simp)
                      · rw [if_neg c15] at H
                        exact absurd H (by simp)
                    · rw [if_neg c14] at H
                      exact absurd H (by simp)
                  · rw [if_neg c13] at H
                    have c13b0 : ((bt a0 x8_2) == 47) = false := beq_eq_false_iff_ne.mpr c13
                    have c13b1 : ((bt a0 x8_2) != 47) = true := bne_iff_ne.mpr c13
                    have H' := Aside0.mk H
                    clear H
                    have p12 : 0 ≤ (x8_2 : Int) := of_decide_eq_true (by first | (with_reducible assumption) | assumption)
                    have q12 : x8_2 < (a0.size : Int) := of_decide_eq_true (by first | (with_reducible assumption) | assumption)
                    have hx12 := bt_at a0 x8_2
                    replace p12 := eq_true p12
                    replace q12 := eq_true q12
                    go_wp2
                    repeat (go_quiet (fail); try go_wp2)
                    go_roundg k2
                    case measure => have := HJ1.out; have := HK2.out; omega
                    case rel => exact ⟨(x6_2), (x7_2), (wrap64 (x8_2 + 1)), (by first | rfl | (simp; done) | (simp [*]; done)), (by first | rfl | (simp; done) | (simp [*]; done)), (by first | rfl | (simp; done) | (simp [*]; done)), H', ⟨by have := HJ1.out; have := HK2.out; omega⟩, by repeat (first | exact Drawn0.refl _ | apply Drawn0.step)⟩
                · rw [if_neg c11] at H
                  exact absurd H (by simp)
              · rw [if_neg c10] at H
                exact absurd H (by simp)
            · rw [if_neg c9] at H
              have c9b0 : decide (x8_2 < (wrap64 ((a0.size : Int) - 3))) = false := decide_eq_false c9
              clear c9
              by_cases c19 : x6_2 < 0
              · rw [if_pos c19] at H
                have c19b0 : decide (x6_2 < 0) = true := decide_eq_true c19
                clear c19
                simp only [Option.some.injEq, Prod.mk.injEq] at H
                obtain ⟨rfl, rfl, rfl⟩ := H
                go_wp2
                repeat (go_quiet (fail); try go_wp2)
                go_ret3
                exact ⟨by first | rfl | (simp; done) | (simp [*]; done), by repeat (first | exact Drawn0.refl _ | apply Drawn0.step)⟩
              · rw [if_neg c19] at H
                have c19b0 : decide (x6_2 < 0) = false := decide_eq_false c19
                clear c19
                by_cases c20 : 0 ≤ x7_2
                · rw [if_pos c20] at H
                  have c20b0 := eq_true c20
                  have c20b1 : decide (0 ≤ x7_2) = true := decide_eq_true c20
                  clear c20
                  by_cases c21 : x7_2 ≤ (wrap64 ((a0.size : Int) - 3))
                  · rw [if_pos c21] at H
                    have c21b0 := eq_true c21
                    have c21b1 : decide (x7_2 ≤ (wrap64 ((a0.size : Int) - 3))) = true := decide_eq_true c21
                    clear c21
                    by_cases c22 : (wrap64 ((a0.size : Int) - 3)) ≤ (a0.size : Int)
                    · rw [if_pos c22] at H
                      have c22b0 := eq_true c22
                      have c22b1 : decide ((wrap64 ((a0.size : Int) - 3)) ≤ (a0.size : Int)) = true := decide_eq_true c22
                      clear c22
                      replace H := Option.bind_eq_some_iff.mp H
                      obtain ⟨t113, A230, H⟩ := H
                      replace H : (if t113 = true then (if 0 ≤ x6_2 then (if x6_2 ≤ (a0.size : Int) then (if 0 ≤ (wrap64 (x6_2 + 1)) then (if (wrap64 (x6_2 + 1)) ≤ (a0.size : Int) then (some (a0.extract 0 (x6_2 : Int).toNat, a0.extract ((wrap64 (x6_2 + 1)) : Int).toNat a0.size, 0)) else (none)) else (none)) else (none)) else (none)) else (some ((⟨#[]⟩ : ByteArray), (⟨#[]⟩ : ByteArray), 130))) = some (r1, r2, r3) := H
                      have A23 := Aside0.mk A230
                      clear A230
                      by_cases c24 : t113 = true
                      · subst c24
                        have H1 : (if 0 ≤ x6_2 then (if x6_2 ≤ (a0.size : Int) then (if 0 ≤ (wrap64 (x6_2 + 1)) then (if (wrap64 (x6_2 + 1)) ≤ (a0.size : Int) then (some (a0.extract 0 (x6_2 : Int).toNat, a0.extract ((wrap64 (x6_2 + 1)) : Int).toNat a0.size, 0)) else (none)) else (none)) else (none)) else (none)) = some (r1, r2, r3) := by rw [if_pos rfl] at H; exact H
                        clear H
                        have H := H1
                        clear H1
                        by_cases c25 : 0 ≤ x6_2
                        · rw [if_pos c25] at H
                          have c25b0 := eq_true c25
                          have c25b1 : decide (0 ≤ x6_2) = true := decide_eq_true c25
                          clear c25
                          by_cases c26 : x6_2 ≤ (a0.size : Int)
                          · rw [if_pos c26] at H
                            have c26b0 := eq_true c26
                            have c26b1 : decide (x6_2 ≤ (a0.size : Int)) = true := decide_eq_true c26
                            clear c26
                            obtain ⟨ji27, hji27⟩ : ∃ j_ : Int, (wrap64 (x6_2 + 1)) = j_ := ⟨_, rfl⟩
                            replace H : (if 0 ≤ (ji27) then (if (ji27) ≤ (a0.size : Int) then (some (a0.extract 0 (x6_2 : Int).toNat, a0.extract ((ji27) : Int).toNat a0.size, 0)) else (none)) else (none)) = some (r1, r2, r3) := by first | (rw [hji27] at H; exact H) | (simp only [hji27] at H ⊢; exact H)
                            (try rw [hji27] at A23)
                            have hji27w : (IntKind.i64.wrap (x6_2 + 1)) = ji27 := (i64_w _).trans hji27
                            by_cases c28 : 0 ≤ (ji27)
                            · rw [if_pos c28] at H
                              have c28b0 := eq_true c28
                              have c28b1 : decide (0 ≤ (ji27)) = true := decide_eq_true c28
                              clear c28
                              by_cases c29 : (ji27) ≤ (a0.size : Int)
                              · rw [if_pos c29] at H
                                have c29b0 := eq_true c29
                                have c29b1 : decide ((ji27) ≤ (a0.size : Int)) = true := decide_eq_true c29
                                clear c29
                                simp only [Option.some.injEq, Prod.mk.injEq] at H
                                obtain ⟨rfl, rfl, rfl⟩ := H
                                go_wp2_with (first | (go_at_call 26; (with_reducible refine (scholiastref13_isWord.calls k2 (a0.extract (x7_2 : Int).toNat ((wrap64 ((a0.size : Int) - 3)) : Int).toNat) true _ A23.out).mono ?_); rintro e w' ⟨rfl, ⟨nd, rfl⟩⟩; (try first | exact ⟨rfl, _, World.drewN_drewN _ _ _⟩ | exact ⟨rfl, _, Eq.trans (World.drewN_drewN _ _ _) (congrArg (World.drewN _) (Nat.add_assoc _ _ _))⟩)))
                                repeat (go_quiet (first | (go_at_call 26; (with_reducible refine (scholiastref13_isWord.calls k2 (a0.extract (x7_2 : Int).toNat ((wrap64 ((a0.size : Int) - 3)) : Int).toNat) true _ A23.out).mono ?_); rintro e w' ⟨rfl, ⟨nd, rfl⟩⟩; (try first | exact ⟨rfl, _, World.drewN_drewN _ _ _⟩ | exact ⟨rfl, _, Eq.trans (World.drewN_drewN _ _ _) (congrArg (World.drewN _) (Nat.add_assoc _ _ _))⟩))); try go_wp2_with (first | (go_at_call 26; (with_reducible refine (scholiastref13_isWord.calls k2 (a0.extract (x7_2 : Int).toNat ((wrap64 ((a0.size : Int) - 3)) : Int).toNat) true _ A23.out).mono ?_); rintro e w' ⟨rfl, ⟨nd, rfl⟩⟩; (try first | exact ⟨rfl, _, World.drewN_drewN _ _ _⟩ | exact ⟨rfl, _, Eq.trans (World.drewN_drewN _ _ _) (congrArg (World.drewN _) (Nat.add_assoc _ _ _))⟩))))
                                go_ret3
                                exact ⟨by first | rfl | (simp; done) | (simp only [← hji27] <;> (first | rfl | simp)) | (simp [*]; done), by repeat (first | exact Drawn0.refl _ | apply Drawn0.step)⟩
                              · rw [if_neg c29] at H
                                exact absurd H (by simp)
                            · rw [if_neg c28] at H
                              exact absurd H (by simp)
                          · rw [if_neg c26] at H
                            exact absurd H (by simp)
                        · rw [if_neg c25] at H
                          exact absurd H (by simp)
                      · replace c24 := Bool.eq_false_iff.mpr c24
                        subst c24
                        have H1 : (some ((⟨#[]⟩ : ByteArray), (⟨#[]⟩ : ByteArray), 130)) = some (r1, r2, r3) := by rw [if_neg (show ¬ (false = true) by decide)] at H; exact H
                        clear H
                        have H := H1
                        clear H1
                        simp only [Option.some.injEq, Prod.mk.injEq] at H
                        obtain ⟨rfl, rfl, rfl⟩ := H
                        go_wp2_with (first | (go_at_call 26; (with_reducible refine (scholiastref13_isWord.calls k2 (a0.extract (x7_2 : Int).toNat ((wrap64 ((a0.size : Int) - 3)) : Int).toNat) false _ A23.out).mono ?_); rintro e w' ⟨rfl, ⟨nd, rfl⟩⟩; (try first | exact ⟨rfl, _, World.drewN_drewN _ _ _⟩ | exact ⟨rfl, _, Eq.trans (World.drewN_drewN _ _ _) (congrArg (World.drewN _) (Nat.add_assoc _ _ _))⟩)))
                        repeat (go_quiet (first | (go_at_call 26; (with_reducible refine (scholiastref13_isWord.calls k2 (a0.extract (x7_2 : Int).toNat ((wrap64 ((a0.size : Int) - 3)) : Int).toNat) false _ A23.out).mono ?_); rintro e w' ⟨rfl, ⟨nd, rfl⟩⟩; (try first | exact ⟨rfl, _, World.drewN_drewN _ _ _⟩ | exact ⟨rfl, _, Eq.trans (World.drewN_drewN _ _ _) (congrArg (World.drewN _) (Nat.add_assoc _ _ _))⟩))); try go_wp2_with (first | (go_at_call 26; (with_reducible refine (scholiastref13_isWord.calls k2 (a0.extract (x7_2 : Int).toNat ((wrap64 ((a0.size : Int) - 3)) : Int).toNat) false _ A23.out).mono ?_); rintro e w' ⟨rfl, ⟨nd, rfl⟩⟩; (try first | exact ⟨rfl, _, World.drewN_drewN _ _ _⟩ | exact ⟨rfl, _, Eq.trans (World.drewN_drewN _ _ _) (congrArg (World.drewN _) (Nat.add_assoc _ _ _))⟩))))
                        go_ret3
                        exact ⟨by first | rfl | (simp; done) | (simp [*]; done), by repeat (first | exact Drawn0.refl _ | apply Drawn0.step)⟩
                    · rw [if_neg c22] at H
                      exact absurd H (by simp)
                  · rw [if_neg c21] at H
                    exact absurd H (by simp)
                · rw [if_neg c20] at H
                  exact absurd H (by simp)

/-! ### scholiastlaw13_ImportsSplits: function 3 -/
def scholiastlaw13_ImportsSplits.f (k : Nat) (a0 : ByteArray) : Option (Bool) := (imports_Split.f k a0).bind fun bt115 => ((scholiastref13_Split.f k a0).bind fun bt118 => (if bt115.1.toList = bt118.1.toList then (if bt115.2.1.toList = bt118.2.1.toList then (if bt115.2.2 = bt118.2.2 then (if bt115.2.2 = 0 then (if bt115.1.size + 1 ≤ 9223372036854775807 then (if (bt115.1 ++ (⟨#[47]⟩ : ByteArray)).size + bt115.2.1.size ≤ 9223372036854775807 then (some (((bt115.1 ++ (⟨#[47]⟩ : ByteArray)) ++ bt115.2.1).toList == a0.toList)) else (none)) else (none)) else (some true)) else (some false)) else (some false)) else (some false)))
theorem scholiastlaw13_ImportsSplits.mono : ∀ a0 k, LeO (scholiastlaw13_ImportsSplits.f k a0) (scholiastlaw13_ImportsSplits.f (k + 1) a0) := by
  intro a0 k
  unfold scholiastlaw13_ImportsSplits.f
  repeat' first
      | (with_reducible exact imports_Split.mono _ _)
      | (with_reducible exact scholiastref13_Split.mono _ _)
      | (with_reducible exact LeO.refl _)
      | (with_reducible exact LeO.none _)
      | (with_reducible refine LeO.ite ?_ ?_)
      | (with_reducible refine LeO.bind ?_ (fun _ => ?_))
      | exact imports_Split.mono _ _
      | exact scholiastref13_Split.mono _ _
      | exact LeO.none _
      | refine LeO.ite ?_ ?_
      | refine LeO.bind ?_ (fun _ => ?_)
set_option maxHeartbeats 8000000 in
set_option maxRecDepth 100000 in
theorem scholiastlaw13_ImportsSplits.calls (k : Nat) (a0 : ByteArray) (r : Bool) (w : World) (h : scholiastlaw13_ImportsSplits.f k a0 = some r) :
    Calls Tryd.prog 3 #[.string a0] w fun e w' => e = .returned (.bool r) ∧ Below w.heap.size w w' := by
  have HB := Aside0.mk (Below.refl w.heap.size w)
  have H : ((imports_Split.f k a0).bind fun bt115 => ((scholiastref13_Split.f k a0).bind fun bt118 => (if bt115.1.toList = bt118.1.toList then (if bt115.2.1.toList = bt118.2.1.toList then (if bt115.2.2 = bt118.2.2 then (if bt115.2.2 = 0 then (if bt115.1.size + 1 ≤ 9223372036854775807 then (if (bt115.1 ++ (⟨#[47]⟩ : ByteArray)).size + bt115.2.1.size ≤ 9223372036854775807 then (some (((bt115.1 ++ (⟨#[47]⟩ : ByteArray)) ++ bt115.2.1).toList == a0.toList)) else (none)) else (none)) else (some true)) else (some false)) else (some false)) else (some false)))) = some r := h
  clear h
  replace H := Option.bind_eq_some_iff.mp H
  obtain ⟨⟨t115, t116, t117⟩, A20, H⟩ := H
  replace H : ((scholiastref13_Split.f k a0).bind fun bt118 => (if t115.toList = bt118.1.toList then (if t116.toList = bt118.2.1.toList then (if t117 = bt118.2.2 then (if t117 = 0 then (if t115.size + 1 ≤ 9223372036854775807 then (if (t115 ++ (⟨#[47]⟩ : ByteArray)).size + t116.size ≤ 9223372036854775807 then (some (((t115 ++ (⟨#[47]⟩ : ByteArray)) ++ t116).toList == a0.toList)) else (none)) else (none)) else (some true)) else (some false)) else (some false)) else (some false))) = some r := H
  have A2 := Aside0.mk A20
  clear A20
  replace H := Option.bind_eq_some_iff.mp H
  obtain ⟨⟨t118, t119, t120⟩, A30, H⟩ := H
  replace H : (if t115.toList = t118.toList then (if t116.toList = t119.toList then (if t117 = t120 then (if t117 = 0 then (if t115.size + 1 ≤ 9223372036854775807 then (if (t115 ++ (⟨#[47]⟩ : ByteArray)).size + t116.size ≤ 9223372036854775807 then (some (((t115 ++ (⟨#[47]⟩ : ByteArray)) ++ t116).toList == a0.toList)) else (none)) else (none)) else (some true)) else (some false)) else (some false)) else (some false)) = some r := H
  have A3 := Aside0.mk A30
  clear A30
  by_cases c4 : t115.toList = t118.toList
  · rw [if_pos c4] at H
    have c4b0 : (t115.toList == t118.toList) = true := beq_iff_eq.mpr c4
    have c4b1 : (t115.toList != t118.toList) = false := bne_eq_false_iff_eq.mpr c4
    clear c4
    by_cases c5 : t116.toList = t119.toList
    · rw [if_pos c5] at H
      have c5b0 : (t116.toList == t119.toList) = true := beq_iff_eq.mpr c5
      have c5b1 : (t116.toList != t119.toList) = false := bne_eq_false_iff_eq.mpr c5
      clear c5
      by_cases c6 : t117 = t120
      · rw [if_pos c6] at H
        have c6b0 : (t117 == t120) = true := beq_iff_eq.mpr c6
        have c6b1 : (t117 != t120) = false := bne_eq_false_iff_eq.mpr c6
        clear c6
        by_cases c7 : t117 = 0
        · rw [if_pos c7] at H
          have c7b0 : (t117 == 0) = true := beq_iff_eq.mpr c7
          have c7b1 : (t117 != 0) = false := bne_eq_false_iff_eq.mpr c7
          clear c7
          by_cases c8 : t115.size + 1 ≤ 9223372036854775807
          · rw [if_pos c8] at H
            have c8b0 := eq_true c8
            have c8b1 : decide (t115.size + 1 ≤ 9223372036854775807) = true := decide_eq_true c8
            try have c8b2 : (9223372036854775807 < t115.size + 1) = False := eq_false (Nat.not_lt.2 c8)
            by_cases c9 : (t115 ++ (⟨#[47]⟩ : ByteArray)).size + t116.size ≤ 9223372036854775807
            · rw [if_pos c9] at H
              have c9b0 := eq_true c9
              have c9b1 : decide ((t115 ++ (⟨#[47]⟩ : ByteArray)).size + t116.size ≤ 9223372036854775807) = true := decide_eq_true c9
              try have c9b2 : (9223372036854775807 < (t115 ++ (⟨#[47]⟩ : ByteArray)).size + t116.size) = False := eq_false (Nat.not_lt.2 c9)
              obtain rfl := Option.some.inj H
              go_enter Tryd.func3, Tryd.ntmps3
              go_wp2_with (first | ((with_reducible refine gate_callee (f := 8) rfl ?_); refine goesL_ (some 11) rfl rfl Tryd.func8 (by kernel_rfl) rfl #[.string a0] rfl (by (try simp only [List.map_toArray, List.map_cons, List.map_nil]); first | done | rfl | (simp only [List.length_drop, List.length_take]; rfl)) ?_; (with_reducible refine (imports_Split.calls k a0 t115 t116 t117 _ A2.out).mono ?_); rintro e w10 ⟨rfl, hb⟩; refine ⟨_, rfl, ?_⟩; have n0_ := Aside0.mk (below_step (by repeat (first | (with_reducible first | exact HB.out | apply below_alloc | apply pw_below_drewN | apply below_drew1) | exact HB.out)) hb); clear HB; have HB := n0_; clear n0_; (try clear hb); (try clear hb2); (try clear hk); (try clear hi)) | ((with_reducible refine gate_callee (f := 9) rfl ?_); refine goesL_ (some 17) rfl rfl Tryd.func9 (by kernel_rfl) rfl #[.string a0] rfl (by (try simp only [List.map_toArray, List.map_cons, List.map_nil]); first | done | rfl | (simp only [List.length_drop, List.length_take]; rfl)) ?_; (with_reducible refine (scholiastref13_Split.calls k a0 t118 t119 t120 _ A3.out).mono ?_); rintro e w' ⟨rfl, ⟨nd, rfl⟩⟩; refine ⟨_, rfl, ?_⟩))
              go_ret
              exact ⟨by first | rfl | (simp [errW_none, errW_some] <;> rfl) | (simp [*, errW_none, errW_some] <;> rfl), by repeat (first | (with_reducible first | exact HB.out | apply below_alloc | apply pw_below_drewN | apply below_drew1) | exact HB.out)⟩
            · rw [if_neg c9] at H
              exact absurd H (by simp)
          · rw [if_neg c8] at H
            exact absurd H (by simp)
        · rw [if_neg c7] at H
          have c7b0 : (t117 == 0) = false := beq_eq_false_iff_ne.mpr c7
          have c7b1 : (t117 != 0) = true := bne_iff_ne.mpr c7
          obtain rfl := Option.some.inj H
          go_enter Tryd.func3, Tryd.ntmps3
          go_wp2_with (first | ((with_reducible refine gate_callee (f := 8) rfl ?_); refine goesL_ (some 11) rfl rfl Tryd.func8 (by kernel_rfl) rfl #[.string a0] rfl (by (try simp only [List.map_toArray, List.map_cons, List.map_nil]); first | done | rfl | (simp only [List.length_drop, List.length_take]; rfl)) ?_; (with_reducible refine (imports_Split.calls k a0 t115 t116 t117 _ A2.out).mono ?_); rintro e w11 ⟨rfl, hb⟩; refine ⟨_, rfl, ?_⟩; have n0_ := Aside0.mk (below_step (by repeat (first | (with_reducible first | exact HB.out | apply below_alloc | apply pw_below_drewN | apply below_drew1) | exact HB.out)) hb); clear HB; have HB := n0_; clear n0_; (try clear hb); (try clear hb2); (try clear hk); (try clear hi)) | ((with_reducible refine gate_callee (f := 9) rfl ?_); refine goesL_ (some 17) rfl rfl Tryd.func9 (by kernel_rfl) rfl #[.string a0] rfl (by (try simp only [List.map_toArray, List.map_cons, List.map_nil]); first | done | rfl | (simp only [List.length_drop, List.length_take]; rfl)) ?_; (with_reducible refine (scholiastref13_Split.calls k a0 t118 t119 t120 _ A3.out).mono ?_); rintro e w' ⟨rfl, ⟨nd, rfl⟩⟩; refine ⟨_, rfl, ?_⟩))
          go_ret
          exact ⟨by first | rfl | (simp [errW_none, errW_some] <;> rfl) | (simp [*, errW_none, errW_some] <;> rfl), by repeat (first | (with_reducible first | exact HB.out | apply below_alloc | apply pw_below_drewN | apply below_drew1) | exact HB.out)⟩
      · rw [if_neg c6] at H
        have c6b0 : (t117 == t120) = false := beq_eq_false_iff_ne.mpr c6
        have c6b1 : (t117 != t120) = true := bne_iff_ne.mpr c6
        obtain rfl := Option.some.inj H
        go_enter Tryd.func3, Tryd.ntmps3
        go_wp2_with (first | ((with_reducible refine gate_callee (f := 8) rfl ?_); refine goesL_ (some 11) rfl rfl Tryd.func8 (by kernel_rfl) rfl #[.string a0] rfl (by (try simp only [List.map_toArray, List.map_cons, List.map_nil]); first | done | rfl | (simp only [List.length_drop, List.length_take]; rfl)) ?_; (with_reducible refine (imports_Split.calls k a0 t115 t116 t117 _ A2.out).mono ?_); rintro e w12 ⟨rfl, hb⟩; refine ⟨_, rfl, ?_⟩; have n0_ := Aside0.mk (below_step (by repeat (first | (with_reducible first | exact HB.out | apply below_alloc | apply pw_below_drewN | apply below_drew1) | exact HB.out)) hb); clear HB; have HB := n0_; clear n0_; (try clear hb); (try clear hb2); (try clear hk); (try clear hi)) | ((with_reducible refine gate_callee (f := 9) rfl ?_); refine goesL_ (some 17) rfl rfl Tryd.func9 (by kernel_rfl) rfl #[.string a0] rfl (by (try simp only [List.map_toArray, List.map_cons, List.map_nil]); first | done | rfl | (simp only [List.length_drop, List.length_take]; rfl)) ?_; (with_reducible refine (scholiastref13_Split.calls k a0 t118 t119 t120 _ A3.out).mono ?_); rintro e w' ⟨rfl, ⟨nd, rfl⟩⟩; refine ⟨_, rfl, ?_⟩))
        go_ret
        exact ⟨by first | rfl | (simp [errW_none, errW_some] <;> rfl) | (simp [*, errW_none, errW_some] <;> rfl), by repeat (first | (with_reducible first | exact HB.out | apply below_alloc | apply pw_below_drewN | apply below_drew1) | exact HB.out)⟩
    · rw [if_neg c5] at H
      have c5b0 : (t116.toList == t119.toList) = false := beq_eq_false_iff_ne.mpr c5
      have c5b1 : (t116.toList != t119.toList) = true := bne_iff_ne.mpr c5
      obtain rfl := Option.some.inj H
      go_enter Tryd.func3, Tryd.ntmps3
      go_wp2_with (first | ((with_reducible refine gate_callee (f := 8) rfl ?_); refine goesL_ (some 11) rfl rfl Tryd.func8 (by kernel_rfl) rfl #[.string a0] rfl (by (try simp only [List.map_toArray, List.map_cons, List.map_nil]); first | done | rfl | (simp only [List.length_drop, List.length_take]; rfl)) ?_; (with_reducible refine (imports_Split.calls k a0 t115 t116 t117 _ A2.out).mono ?_); rintro e w13 ⟨rfl, hb⟩; refine ⟨_, rfl, ?_⟩; have n0_ := Aside0.mk (below_step (by repeat (first | (with_reducible first | exact HB.out | apply below_alloc | apply pw_below_drewN | apply below_drew1) | exact HB.out)) hb); clear HB; have HB := n0_; clear n0_; (try clear hb); (try clear hb2); (try clear hk); (try clear hi)) | ((with_reducible refine gate_callee (f := 9) rfl ?_); refine goesL_ (some 17) rfl rfl Tryd.func9 (by kernel_rfl) rfl #[.string a0] rfl (by (try simp only [List.map_toArray, List.map_cons, List.map_nil]); first | done | rfl | (simp only [List.length_drop, List.length_take]; rfl)) ?_; (with_reducible refine (scholiastref13_Split.calls k a0 t118 t119 t120 _ A3.out).mono ?_); rintro e w' ⟨rfl, ⟨nd, rfl⟩⟩; refine ⟨_, rfl, ?_⟩))
      go_ret
      exact ⟨by first | rfl | (simp [errW_none, errW_some] <;> rfl) | (simp [*, errW_none, errW_some] <;> rfl), by repeat (first | (with_reducible first | exact HB.out | apply below_alloc | apply pw_below_drewN | apply below_drew1) | exact HB.out)⟩
  · rw [if_neg c4] at H
    have c4b0 : (t115.toList == t118.toList) = false := beq_eq_false_iff_ne.mpr c4
    have c4b1 : (t115.toList != t118.toList) = true := bne_iff_ne.mpr c4
    obtain rfl := Option.some.inj H
    go_enter Tryd.func3, Tryd.ntmps3
    go_wp2_with (first | ((with_reducible refine gate_callee (f := 8) rfl ?_); refine goesL_ (some 11) rfl rfl Tryd.func8 (by kernel_rfl) rfl #[.string a0] rfl (by (try simp only [List.map_toArray, List.map_cons, List.map_nil]); first | done | rfl | (simp only [List.length_drop, List.length_take]; rfl)) ?_; (with_reducible refine (imports_Split.calls k a0 t115 t116 t117 _ A2.out).mono ?_); rintro e w14 ⟨rfl, hb⟩; refine ⟨_, rfl, ?_⟩; have n0_ := Aside0.mk (below_step (by repeat (first | (with_reducible first | exact HB.out | apply below_alloc | apply pw_below_drewN | apply below_drew1) | exact HB.out)) hb); clear HB; have HB := n0_; clear n0_; (try clear hb); (try clear hb2); (try clear hk); (try clear hi)) | ((with_reducible refine gate_callee (f := 9) rfl ?_); refine goesL_ (some 17) rfl rfl Tryd.func9 (by kernel_rfl) rfl #[.string a0] rfl (by (try simp only [List.map_toArray, List.map_cons, List.map_nil]); first | done | rfl | (simp only [List.length_drop, List.length_take]; rfl)) ?_; (with_reducible refine (scholiastref13_Split.calls k a0 t118 t119 t120 _ A3.out).mono ?_); rintro e w' ⟨rfl, ⟨nd, rfl⟩⟩; refine ⟨_, rfl, ?_⟩))
    go_ret
    exact ⟨by first | rfl | (simp [errW_none, errW_some] <;> rfl) | (simp [*, errW_none, errW_some] <;> rfl), by repeat (first | (with_reducible first | exact HB.out | apply below_alloc | apply pw_below_drewN | apply below_drew1) | exact HB.out)⟩

end Go.Proofs.YtcejdokeaoklaaaDoor.PImp
